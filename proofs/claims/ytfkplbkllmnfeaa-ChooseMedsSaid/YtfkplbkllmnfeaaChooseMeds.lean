/-
  ChooseMeds: of two routes by one system that are alike in all else the one of the lesser Med is best; of routes by two systems the Med says nothing; for all numbers; no condition.
-/
import Derived.Test.YtfkplbkllmnfeaaChF
import Derived.Test.YtfkplbkllmnfeaaBits
namespace Go.Proofs.Ytfkplbkllmnfeaa
open Go.RowKit

def cdM (first med : Int) (id : Nat) : Cd := ⟨id, 0, 0, ⟨30, 0, [(false, [first, 7])], 0, med, 0, 0, 0, [], []⟩, 1 + id⟩
theorem results_make1 (tmps : Array Value) (W : World) (b : Nat) (C : Array Value) (hC : C.size = 14) (h4 : tmps.getD 6 undef = .pointer (some ⟨b, 0, none⟩)) (hb : W.heap[b]? = some (.cells C 35 (0, 0))) :
    (results Try.f9 tmps).run Try.prog W = .ok (.agg C) W := results_cell_row Try.results9 tmps W b 35 C (0, 0) _ h4 hb Try.underlying35 rfl (by rw [hC]; kernel_rfl)
set_option maxHeartbeats 3200000 in
set_option maxRecDepth 100000 in
theorem law_make1 (first med : Int) (id : Nat) (w : World) (hi : id ≤ 1) (hf : I64r first) :
    Calls Try.prog 9 #[.int .i64 first, .int .i64 med, .int .i64 id] w fun e w' => ∃ vp, e = .returned (.agg (cdA (cdM first med id) vp (.slice none 0 0) (.slice none 0 0))) ∧ PathAt w' vp [(false, [first, 7])] ∧ Below w.heap.size w w' := by
  have RT := Lib.hid (fun W => law_route 0 id (1 + id) W (by decide) (by omega))
  go_enter Try.func9, Try.ntmps9
  go_upto_region 1 with (fail)
  obtain ⟨W0, hW0, q0, hb0, hz0⟩ := boxZc w
  rw [← hW0]
  have Q0 := Lib.hid q0
  have B0 := Lib.hid hb0
  clear hW0 hz0 q0 hb0
  go_wp2_with fail
  rw [show (1 + (id : Int)) = ((1 + id : Nat) : Int) by omega]
  refine (RT.out W0).mono ?_
  rintro e w1 ⟨p1, rfl, P1, hb1⟩
  have Q1 := Lib.hid ((hb1.block _ (row_lt Q0.out)).trans Q0.out)
  have B1 := Lib.hid (below_on B0.out hb1)
  obtain ⟨sp, cp, rfl, _⟩ := P1
  clear hb1 Q0 B0 RT
  go_upto_region 2 with (fail)
  obtain ⟨W2, hW2⟩ : ∃ W2, W2 = w1.alloc (.cells (cdA (cdR 0 id (1 + id)) (.slice sp (atR 0).path.length cp) (.slice none 0 0) (.slice none 0 0)) 35) := ⟨_, rfl⟩
  have R2 : Hid (W2.heap[w1.heap.size]? = some (.cells (cdA (cdR 0 id (1 + id)) (.slice sp (atR 0).path.length cp) (.slice none 0 0) (.slice none 0 0)) 35 (0, 0))) := Lib.hid (by rw [hW2]; exact heap_alloc_new _ _)
  have hb2 : Below w1.heap.size w1 W2 := by rw [hW2]; exact (Below.refl _ _).alloc (Nat.le_refl _) _
  rw [← hW2]
  clear hW2
  have Q2 := Lib.hid ((hb2.block _ (row_lt Q1.out)).trans Q1.out)
  have B2 := Lib.hid (below_on B1.out hb2)
  have QC : Hid (w.heap.size < w1.heap.size) := Lib.hid (row_lt Q1.out)
  clear hb2 Q1 B1
  generalize w1.heap.size = C at R2 QC ⊢
  obtain ⟨W3, hW3⟩ : ∃ W3, W3 = (W2.alloc (.cells #[.int .i64 first, .int .i64 7] 3)).alloc (.cells #[.bool false, .slice (some ⟨W2.heap.size, 0, none⟩) 2 2] 38) := ⟨_, rfl⟩
  have hb3a : Below W2.heap.size W2 (W2.alloc (.cells #[.int .i64 first, .int .i64 7] 3)) := (Below.refl _ _).alloc (Nat.le_refl _) _
  have hb3b : Below (W2.alloc (.cells #[.int .i64 first, .int .i64 7] 3)).heap.size (W2.alloc (.cells #[.int .i64 first, .int .i64 7] 3)) W3 := by rw [hW3]; exact (Below.refl _ _).alloc (Nat.le_refl _) _
  have hb3 := below_on hb3a hb3b
  have I3 : Hid (W3.heap[W2.heap.size]? = some (.cells #[.int .i64 first, .int .i64 7] 3 (0, 0))) := Lib.hid ((hb3b.block _ (row_lt (heap_alloc_new _ _))).trans (heap_alloc_new _ _))
  have S3 : Hid (W3.heap[W2.heap.size + 1]? = some (.cells #[.bool false, .slice (some ⟨W2.heap.size, 0, none⟩) 2 2] 38 (0, 0))) := Lib.hid (by
    have := heap_alloc_new (W2.alloc (.cells #[.int .i64 first, .int .i64 7] 3)) (.cells #[.bool false, .slice (some ⟨W2.heap.size, 0, none⟩) 2 2] 38)
    rw [hW3]; simpa using this)
  have Q3 := Lib.hid ((hb3.block _ (row_lt Q2.out)).trans Q2.out)
  have R3 := Lib.hid ((hb3.block _ (row_lt R2.out)).trans R2.out)
  have B3 := Lib.hid (below_on B2.out hb3)
  have CL : Hid (C < W2.heap.size) := Lib.hid (row_lt R2.out)
  obtain ⟨c0, c1, c2, c3, c4, c5, c6, c7, c8, c9, c10, c11, c12, c13⟩ := cd_row R3.out
  have f3 := row_free R3.out 3
  have f5 := row_free R3.out 5
  have f7 := row_free R3.out 7
  have HW := Lib.hid hW3
  clear hb3a hb3b hb3 hW3 Q2 R2 B2
  go_wp2_with (with_reducible refine halt_at (X := .store 27 (.tmp 18) (.tmp 15)) ?_ ?_; (· rfl))
  unfold Halt
  rw [← HW.out]
  go_upto_region 5 with (fail)
  have e30 : bits .or .i64 (cdR 0 id (1 + id)).a.has 16 = 30 := by show bits .or .i64 14 16 = 30; decide +kernel
  rw [e30]
  clear e30 c0 c1 c2 c3 c4 c5 c6 c7 c8 c9 c10 c11 c12 c13 f3 f5 f7
  obtain ⟨W6, hW6⟩ : ∃ W6, W6 = ((W3.setCell ⟨C, 5, none⟩ (.slice (some ⟨W2.heap.size + 1, 0, none⟩) 1 1)).setCell ⟨C, 3, none⟩ (.int .i64 30)).setCell ⟨C, 7, none⟩ (.int .i64 med) := ⟨_, rfl⟩
  have R6 : Hid (W6.heap[C]? = some (.cells (cdA (cdM first med id) (.slice (some ⟨W2.heap.size + 1, 0, none⟩) 1 1) (.slice none 0 0) (.slice none 0 0)) 35 (0, 0))) := Lib.hid (by rw [hW6]; exact set_same (set_same (set_same R3.out 5 _) 3 _) 7 _)
  have oth : ∀ b, b ≠ C → W6.heap[b]? = W3.heap[b]? := fun b hb => by rw [hW6, set_other _ _ _ hb, set_other _ _ _ hb, set_other _ _ _ hb]
  have Q6 := Lib.hid ((oth _ (Nat.ne_of_lt QC.out)).trans Q3.out)
  have I6 := Lib.hid ((oth W2.heap.size (by have := CL.out; omega)).trans I3.out)
  have S6 := Lib.hid ((oth (W2.heap.size + 1) (by have := CL.out; omega)).trans S3.out)
  have B6 : Hid (Below w.heap.size w W6) := Lib.hid (by rw [hW6]; exact ((B3.out.setCell (p := ⟨C, 5, none⟩) (Nat.le_of_lt QC.out) _).setCell (p := ⟨C, 3, none⟩) (Nat.le_of_lt QC.out) _).setCell (p := ⟨C, 7, none⟩) (Nat.le_of_lt QC.out) _)
  rw [← hW6]
  clear hW6 oth R3 Q3 I3 S3 B3 HW
  generalize W2.heap.size = D at R6 CL I6 S6 ⊢
  obtain ⟨c0, c1, c2, c3, c4, c5, c6, c7, c8, c9, c10, c11, c12, c13⟩ := cd_row R6.out
  go_wp2_with (refine st_row rfl 35 (.tmp 6) (.tmp 31) rfl w.heap.size rfl 35 cdZA (cdA (cdM first med id) (.slice (some ⟨D + 1, 0, none⟩) 1 1) (.slice none 0 0) (.slice none 0 0)) rfl Q6.out (by kernel_rfl) rfl (by simp [Value.oneCell']) ?_)
  have I7 : (W6.setRow w.heap.size (cdA (cdM first med id) (.slice (some ⟨D + 1, 0, none⟩) 1 1) (.slice none 0 0) (.slice none 0 0))).heap[D]? = some (.cells #[.int .i64 first, .int .i64 7] 3 (0, 0)) := by rw [setRow_other _ _ _ _ (by have := CL.out; have := QC.out; omega)]; exact I6.out
  have S7 : (W6.setRow w.heap.size (cdA (cdM first med id) (.slice (some ⟨D + 1, 0, none⟩) 1 1) (.slice none 0 0) (.slice none 0 0))).heap[D + 1]? = some (.cells #[.bool false, .slice (some ⟨D, 0, none⟩) 2 2] 38 (0, 0)) := by rw [setRow_other _ _ _ _ (by have := CL.out; have := QC.out; omega)]; exact S6.out
  have IA : IntsAt (W6.setRow w.heap.size (cdA (cdM first med id) (.slice (some ⟨D + 1, 0, none⟩) 1 1) (.slice none 0 0) (.slice none 0 0))) (.slice (some ⟨D, 0, none⟩) 2 2) [first, 7] :=
    (own_slat (C := intL) (xs := [first, 7]) intL_len (own_lit I7 rfl (by simp [maxLen]))).imp (fun x cs hx h => ⟨h, by
      simp at hx
      rcases hx with rfl | rfl
      · exact hf
      · exact ⟨by decide, by decide⟩⟩)
  refine bodyPost_ret (results_make1 _ _ w.heap.size (cdA (cdM first med id) (.slice (some ⟨D + 1, 0, none⟩) 1 1) (.slice none 0 0) (.slice none 0 0)) rfl ?_ (setRow_heap _ _ _ _ _ _ Q6.out)) rfl ⟨_, rfl, mk_path S7 IA, below_setRow B6.out (Nat.le_refl _) _⟩
  rfl
theorem cdM_rng (first med : Int) (id : Nat) (hi : id ≤ 1) (hm : I64r med) : (cdM first med id).Rng := by
  refine ⟨by unfold cdM I64r; simp only; omega, by simp [cdM], by simp [cdM, I64r], ⟨?_, ?_, ?_, ?_, ?_, ?_, ?_⟩, by unfold cdM; simp only; omega⟩ <;> first | exact hm | simp [cdM, I64r]
/-- which of the two is the best. -/
def medsI (second : Int) (x y : Int) : Int := if second = 100 ∧ y < x then 1 else 0
theorem meds_best (second x y : Int) : bestI [cdM 100 x 0, cdM second y 1] = medsI second x y := by
  have e0 : rkOf ((0 : Nat) : Int) (cdM 100 x 0) = ⟨0, 100, 2, 0, 100, x, 1, 0⟩ := by
    have h5 : isB 30 5 = false := by decide +kernel
    have h4 : isB 30 4 = true := by decide +kernel
    simp [rkOf, cdM, locOf, medOf, h5, h4, hopsN, firstN]
  have e1 : rkOf ((1 : Nat) : Int) (cdM second y 1) = ⟨1, 100, 2, 0, second, y, 2, 1⟩ := by
    have h5 : isB 30 5 = false := by decide +kernel
    have h4 : isB 30 4 = true := by decide +kernel
    simp [rkOf, cdM, locOf, medOf, h5, h4, hopsN, firstN]
  have hr : rksOf [cdM 100 x 0, cdM second y 1] = [⟨0, 100, 2, 0, 100, x, 1, 0⟩, ⟨1, 100, 2, 0, second, y, 2, 1⟩] := by
    rw [← e0, ← e1]; rfl
  unfold medsI
  by_cases h : second = 100 ∧ y < x
  · rw [if_pos h]
    obtain ⟨rfl, hlt⟩ := h
    refine bestI_of (i := 1) rfl ?_
    rw [hr, e1]
    refine ⟨by simp, ⟨fun q hq => ?_, fun q hq _ _ => ?_⟩, fun q hq hl => ?_⟩
    · simp at hq; rcases hq with rfl | rfl <;> simp [AhP]
    · simp at hq; rcases hq with rfl | rfl <;> simp; omega
    · simp at hq
      rcases hq with rfl | rfl
      · have := hl.2 ⟨1, 100, 2, 0, 100, y, 2, 1⟩ (by simp) ⟨rfl, rfl, rfl⟩ rfl
        simp at this; omega
      · simp [BhP]
  · rw [if_neg h]
    refine bestI_of (i := 0) rfl ?_
    rw [hr, e0]
    refine ⟨by simp, ⟨fun q hq => ?_, fun q hq _ hf => ?_⟩, fun q hq _ => ?_⟩
    · simp at hq; rcases hq with rfl | rfl <;> simp [AhP]
    · simp at hq
      rcases hq with rfl | rfl
      · simp
      · simp at hf ⊢; omega
    · simp at hq; rcases hq with rfl | rfl <;> simp [BhP]
set_option maxHeartbeats 6400000 in
set_option maxRecDepth 100000 in
theorem meds_walk (a b : Int) (one : Bool) (w : World) (x y : Int) (hx : bits .and .i64 a 255 = x) (hy : bits .and .i64 b 255 = y) (ix : I64r x) (iy : I64r y) :
    Calls Try.prog 3 #[.int .i64 a, .int .i64 b, .bool one] w fun e w' => e = .returned (.bool true) ∧ Below w.heap.size w w' := by
  cases one
  · have MA := Lib.hid (fun w => law_make1 100 x 0 w (by decide) ⟨by decide, by decide⟩)
    have MB := Lib.hid (fun w => law_make1 200 y 1 w (by decide) ⟨by decide, by decide⟩)
    have RA := Lib.hid (cdM_rng 100 x 0 (by decide) ix)
    have RB := Lib.hid (cdM_rng 200 y 1 (by decide) iy)
    have EB := Lib.hid (meds_best 200 x y)
    have HX := Lib.hid hx
    have HY := Lib.hid hy
    clear hx hy ix iy
    go_enter Try.func3, Try.ntmps3
    go_wp2_with fail
    refine (law_head _).mono ?_
    rintro e w1 ⟨rfl, hb1⟩
    go_upto_region 9 with (fail)
    rw [HX.out, HY.out]
    go_wp2_with fail
    refine (MA.out _).mono ?_
    rintro e w2 ⟨p1, rfl, P1, hb2⟩
    have P1 := Lib.hid P1
    go_wp2_with fail
    refine (MB.out _).mono ?_
    rintro e w3 ⟨p2, rfl, P2, hb3⟩
    have P1 := Lib.hid (P1.out.below hb3)
    have P2 := Lib.hid P2
    have B3 := Lib.hid (below_on (below_on hb1 hb2) hb3)
    clear hb1 hb2 hb3 MA MB HX HY
    go_wp2_with fail
    show Calls Try.prog 11 #[.slice (some ⟨w3.heap.size, 0, none⟩) 2 2] (w3.alloc (.cells ((([⟨cdM 100 x 0, p1, .slice none 0 0, .slice none 0 0⟩, ⟨cdM 200 y 1, p2, .slice none 0 0, .slice none 0 0⟩] : List Ce).flatMap ceL).toArray) 35)) _
    have h4 := heap_alloc_new w3 (.cells ((([⟨cdM 100 x 0, p1, .slice none 0 0, .slice none 0 0⟩, ⟨cdM 200 y 1, p2, .slice none 0 0, .slice none 0 0⟩] : List Ce).flatMap ceL).toArray) 35)
    have hb4 : Below w3.heap.size w3 (w3.alloc (.cells ((([⟨cdM 100 x 0, p1, .slice none 0 0, .slice none 0 0⟩, ⟨cdM 200 y 1, p2, .slice none 0 0, .slice none 0 0⟩] : List Ce).flatMap ceL).toArray) 35)) := (Below.refl _ _).alloc (Nat.le_refl _) _
    generalize w3.alloc (.cells ((([⟨cdM 100 x 0, p1, .slice none 0 0, .slice none 0 0⟩, ⟨cdM 200 y 1, p2, .slice none 0 0, .slice none 0 0⟩] : List Ce).flatMap ceL).toArray) 35) = W4 at h4 hb4 ⊢
    have CD : CdsAt W4 (.slice (some ⟨w3.heap.size, 0, none⟩) 2 2) [cdM 100 x 0, cdM 200 y 1] := lit_cds (L := [⟨cdM 100 x 0, p1, .slice none 0 0, .slice none 0 0⟩, ⟨cdM 200 y 1, p2, .slice none 0 0, .slice none 0 0⟩]) h4 (by simp [maxLen]) (by
      intro q hq
      simp at hq
      rcases hq with rfl | rfl
      · exact Ce.Ok.below (w := w3) ⟨RA.out, P1.out, SlAt.nil, SlAt.nil⟩ hb4
      · exact Ce.Ok.below (w := w3) ⟨RB.out, P2.out, SlAt.nil, SlAt.nil⟩ hb4)
    have B4 := Lib.hid (below_on B3.out hb4)
    have HB := Lib.hid (ch_Best _ _ W4 CD (by simp) (by
      intro c hc
      simp at hc
      rcases hc with rfl | rfl <;> exact Nat.le_trans (show _ ≤ 2 from Nat.le_refl _) (by decide)))
    rw [EB.out] at HB
    clear h4 hb4 CD B3 P1 P2 RA RB EB
    by_cases hlt : y < x
    · have e : medsI 200 x y = (if ((200 : Int) = 100) then 1 else 0) := by unfold medsI; simp [hlt]
      simp at e
      rw [e] at HB
      refine HB.out.mono ?_
      rintro e w5 ⟨rfl, hb5⟩
      have B5 := Lib.hid (below_on B4.out hb5)
      clear hb5 B4 HB
      go_wp2_with fail
      go_ret
      exact ⟨rfl, B5.out⟩
    · have e : medsI 200 x y = 0 := by unfold medsI; simp [hlt]
      rw [e] at HB
      refine HB.out.mono ?_
      rintro e w5 ⟨rfl, hb5⟩
      have B5 := Lib.hid (below_on B4.out hb5)
      clear hb5 B4 HB
      go_wp2_with fail
      go_ret
      exact ⟨rfl, B5.out⟩
  · have MA := Lib.hid (fun w => law_make1 100 x 0 w (by decide) ⟨by decide, by decide⟩)
    have MB := Lib.hid (fun w => law_make1 100 y 1 w (by decide) ⟨by decide, by decide⟩)
    have RA := Lib.hid (cdM_rng 100 x 0 (by decide) ix)
    have RB := Lib.hid (cdM_rng 100 y 1 (by decide) iy)
    have EB := Lib.hid (meds_best 100 x y)
    have HX := Lib.hid hx
    have HY := Lib.hid hy
    clear hx hy ix iy
    go_enter Try.func3, Try.ntmps3
    go_wp2_with fail
    refine (law_head _).mono ?_
    rintro e w1 ⟨rfl, hb1⟩
    go_upto_region 9 with (fail)
    rw [HX.out, HY.out]
    go_wp2_with fail
    refine (MA.out _).mono ?_
    rintro e w2 ⟨p1, rfl, P1, hb2⟩
    have P1 := Lib.hid P1
    go_wp2_with fail
    refine (MB.out _).mono ?_
    rintro e w3 ⟨p2, rfl, P2, hb3⟩
    have P1 := Lib.hid (P1.out.below hb3)
    have P2 := Lib.hid P2
    have B3 := Lib.hid (below_on (below_on hb1 hb2) hb3)
    clear hb1 hb2 hb3 MA MB HX HY
    go_wp2_with fail
    show Calls Try.prog 11 #[.slice (some ⟨w3.heap.size, 0, none⟩) 2 2] (w3.alloc (.cells ((([⟨cdM 100 x 0, p1, .slice none 0 0, .slice none 0 0⟩, ⟨cdM 100 y 1, p2, .slice none 0 0, .slice none 0 0⟩] : List Ce).flatMap ceL).toArray) 35)) _
    have h4 := heap_alloc_new w3 (.cells ((([⟨cdM 100 x 0, p1, .slice none 0 0, .slice none 0 0⟩, ⟨cdM 100 y 1, p2, .slice none 0 0, .slice none 0 0⟩] : List Ce).flatMap ceL).toArray) 35)
    have hb4 : Below w3.heap.size w3 (w3.alloc (.cells ((([⟨cdM 100 x 0, p1, .slice none 0 0, .slice none 0 0⟩, ⟨cdM 100 y 1, p2, .slice none 0 0, .slice none 0 0⟩] : List Ce).flatMap ceL).toArray) 35)) := (Below.refl _ _).alloc (Nat.le_refl _) _
    generalize w3.alloc (.cells ((([⟨cdM 100 x 0, p1, .slice none 0 0, .slice none 0 0⟩, ⟨cdM 100 y 1, p2, .slice none 0 0, .slice none 0 0⟩] : List Ce).flatMap ceL).toArray) 35) = W4 at h4 hb4 ⊢
    have CD : CdsAt W4 (.slice (some ⟨w3.heap.size, 0, none⟩) 2 2) [cdM 100 x 0, cdM 100 y 1] := lit_cds (L := [⟨cdM 100 x 0, p1, .slice none 0 0, .slice none 0 0⟩, ⟨cdM 100 y 1, p2, .slice none 0 0, .slice none 0 0⟩]) h4 (by simp [maxLen]) (by
      intro q hq
      simp at hq
      rcases hq with rfl | rfl
      · exact Ce.Ok.below (w := w3) ⟨RA.out, P1.out, SlAt.nil, SlAt.nil⟩ hb4
      · exact Ce.Ok.below (w := w3) ⟨RB.out, P2.out, SlAt.nil, SlAt.nil⟩ hb4)
    have B4 := Lib.hid (below_on B3.out hb4)
    have HB := Lib.hid (ch_Best _ _ W4 CD (by simp) (by
      intro c hc
      simp at hc
      rcases hc with rfl | rfl <;> exact Nat.le_trans (show _ ≤ 2 from Nat.le_refl _) (by decide)))
    rw [EB.out] at HB
    clear h4 hb4 CD B3 P1 P2 RA RB EB
    by_cases hlt : y < x
    · have e : medsI 100 x y = (if ((100 : Int) = 100) then 1 else 0) := by unfold medsI; simp [hlt]
      simp at e
      rw [e] at HB
      refine HB.out.mono ?_
      rintro e w5 ⟨rfl, hb5⟩
      have B5 := Lib.hid (below_on B4.out hb5)
      clear hb5 B4 HB
      go_wp2_with fail
      go_ret
      exact ⟨rfl, B5.out⟩
    · have e : medsI 100 x y = 0 := by unfold medsI; simp [hlt]
      rw [e] at HB
      refine HB.out.mono ?_
      rintro e w5 ⟨rfl, hb5⟩
      have B5 := Lib.hid (below_on B4.out hb5)
      clear hb5 B4 HB
      go_wp2_with fail
      go_ret
      exact ⟨rfl, B5.out⟩
theorem byte_rng (n : Int) : I64r (bits .and .i64 n 255) := by
  rw [and_255]; unfold I64r; omega
theorem open_flag {w : World} {r : Reach} {b : Nat} {v : Value} (h : Value.okWide Try.prog w r b 4 v) : ∃ x, v = .bool x := Go.WideShapes.okWide_bool Try.underlying4 h
theorem law_ChooseMeds (a b : Int) (one : Bool) (w : World) : Calls Try.prog 3 #[.int .i64 a, .int .i64 b, .bool one] w fun e w' => e = .returned (.bool true) ∧ Below w.heap.size w w' :=
  meds_walk a b one w _ _ rfl rfl (byte_rng a) (byte_rng b)

namespace chooseMeds
open Go.ChangeShapes Go.WideShapes Go.ChangeAt Go.RowKit
set_option linter.unusedVariables false
set_option maxRecDepth 100000 in
theorem lifted (os : Os) (started : os.Started) (H : Type) (enc : TypeId × Value → H) :
    ReturnsInHanded {} Try.checked os 3 .any (Rows.chooseMedsSpec.pre6 enc Try.prog Try.f3 Rows.chooseMedsRow.domain false) (Rows.chooseMedsSpec.post enc Try.prog Try.f3 false true false false) := by
  refine returnsInHanded_of_change (C := Try.checked) fr_own started (by kernel_rfl) Try.func3
    (ChangeSpec.witness6 (enc := enc) (C := Try.checked) false ⟨#[], #[.int .i64 0, .int .i64 0, .bool false], []⟩ 8 (by kernel_rfl) (by kernel_rfl) (by kernel_rfl) (by kernel_rfl)) ?_
  intro W base args ds gs before hval0 hW hcnd _
  have hval : ∀ (j : Nat) t v, Try.f3.params[j]? = some t → args[j]? = some v → Value.okWide Try.prog W .any base t v := hval0
  have hW' := hW
  obtain ⟨p, q, hA0, hV, rfl, hfz, hnd⟩ := hW
  have hA : DataW.TrodAll enc Try.prog W 0 (fun _ => true) true Try.f3.params.toList args.toList ds p := hA0
  rw [Try.params3] at hA hval
  obtain ⟨v0, vs0, d0, ds0, p0, q0, hargs, rfl, rfl, h0, r0⟩ := trodAll_cons hA
  obtain ⟨v1, vs1, d1, ds1, p1, q1, rfl, rfl, rfl, h1, r1⟩ := trodAll_cons r0
  obtain ⟨v2, vs2, d2, ds2, p2, q2, rfl, rfl, rfl, h2, r2⟩ := trodAll_cons r1
  obtain ⟨rfl, rfl, rfl⟩ := trodAll_nil r2
  obtain rfl : args = #[v0, v1, v2] := by cases args; simp_all
  obtain ⟨rfl, rfl⟩ := trodVars_none hV
  have lt0 : ∀ x ∈ p0, x.block < W.heap.size := by obtain ⟨m, hm⟩ := h0; exact DataW.trod_lt m _ _ _ hm
  have lt1 : ∀ x ∈ p1, x.block < W.heap.size := by obtain ⟨m, hm⟩ := h1; exact DataW.trod_lt m _ _ _ hm
  have lt2 : ∀ x ∈ p2, x.block < W.heap.size := by obtain ⟨m, hm⟩ := h2; exact DataW.trod_lt m _ _ _ hm
  obtain ⟨a, rfl, ha0, ha1⟩ := open_i64 (hval 0 3 v0 rfl rfl)
  obtain ⟨b, rfl, hb0, hb1⟩ := open_i64 (hval 1 3 v1 rfl rfl)
  obtain ⟨one, rfl⟩ := open_flag (hval 2 4 v2 rfl rfl)
  clear hA0 hval0
  refine (law_ChooseMeds a b one W).mono fun e W' ⟨he, bel⟩ => ?_
  subst he
  exact ⟨_, rfl, _, _, _, [], _, [], hW', trodAll_mk1 (shut_bool Try.underlying4 _), (trodAll_cons_mk (Below.trod fr_laidOut (by kernel_rfl) (of_decide_eq_true (by kernel_rfl)) h0 bel lt0) (trodAll_cons_mk (Below.trod fr_laidOut (by kernel_rfl) (of_decide_eq_true (by kernel_rfl)) h1 bel lt1) (trodAll_cons_mk (Below.trod fr_laidOut (by kernel_rfl) (of_decide_eq_true (by kernel_rfl)) h2 bel lt2) trodAll_mk0))), rfl, bel.frame _, fun h => by cases h⟩
theorem over : Rows.chooseMedsRow.holds Try.pinned (OpenSpec.ofChange Rows.chooseMedsSpec) :=
  OpenClaim.holds_of_wide 3 Try.f3 rfl rfl rfl rfl rfl rfl rfl ⟨rfl, rfl, rfl, rfl, rfl⟩ rfl rfl rfl rfl rfl (by kernel_rfl) Try.func3 (by kernel_rfl)
    (of_decide_eq_true (by kernel_rfl)) (by unfold Func.isWrapper; first | (rw [if_pos (by decide +kernel)]; kernel_rfl) | (rw [if_neg (by decide +kernel)]; exact ⟨rfl, rfl⟩))
    (fun os started H enc _ => lifted os started H enc)
/-- THE STATEMENT ChooseMeds. -/
theorem proved : Rows.ChooseMedsSaid := over
#print axioms proved
end chooseMeds
end Go.Proofs.Ytfkplbkllmnfeaa
