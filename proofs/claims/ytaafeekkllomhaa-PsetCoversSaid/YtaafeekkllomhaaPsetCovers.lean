/-
  PsetCovers: an address lies in a set just if it lies in one of its prefixes; a set of both halves covers what the whole does; for all lists of prefixes, prefixes and addresses; no condition.
-/
import Derived.Test.YtaafeekkllomhaaPsO
import Derived.IntWalk
import Derived.Deep.DeepCutAuto
namespace Go.Proofs.Ytaafeekkllomhaa
open Go.RowKit

theorem setOf_goodL_len (a : List Pf) : (setOf (goodL a)).length ≤ a.length := Nat.le_trans (setOf_len _) (goodL_len a)
theorem covB_take {xs : List Pf} {k : Nat} {q : Pf} (h : xs[k]? = some q) (x : Int) : covB (xs.take (k + 1)) x = (covB (xs.take k) x || hasB q.1 q.2 x) := by
  unfold covB
  rw [List.take_add_one, h, List.any_append]
  simp
/-- the two halves of a prefix. -/
theorem two_halves {a n x : Int} (h0 : 0 ≤ a) (h : a < 4294967296) (hr : rightB a n = true) (hn : n < 32) :
    setOf [(halfI a n 0, n + 1), (halfI a n 1, n + 1)] = [(halfI a n 0, n + 1), (halfI a n 1, n + 1)] ∧ rights [(halfI a n 0, n + 1), (halfI a n 1, n + 1)] = true ∧
      covB [(halfI a n 0, n + 1), (halfI a n 1, n + 1)] x = hasB a n x ∧ ∀ p ∈ ([(halfI a n 0, n + 1), (halfI a n 1, n + 1)] : List Pf), OkP p := by
  have hr0 := right_half0 a n hr hn
  have hr1 := right_half1 a n hr hn
  have hs := sizeI_pos (n + 1)
  have h2 := size_succ n (rightB_range hr).1 hn
  have hf := right_fits a n h0 h hr
  rw [halfI_0, halfI_1 a n 1 (by decide)]
  refine ⟨setOf_is ?_ (fun p => Iff.rfl), ?_, ?_, ?_⟩
  · simp [Srt, plt]; omega
  · simp [rights, hr0, hr1]
  · unfold covB
    by_cases c1 : a ≤ x ∧ x < a + sizeI (n + 1)
    · rw [has_yes hr (show a ≤ x ∧ x < a + sizeI n by omega)]
      simp [has_yes hr0 c1]
    · by_cases c2 : a + sizeI (n + 1) ≤ x ∧ x < a + sizeI (n + 1) + sizeI (n + 1)
      · rw [has_yes hr (show a ≤ x ∧ x < a + sizeI n by omega)]
        simp [has_yes hr1 c2]
      · rw [has_no hr (show ¬ (a ≤ x ∧ x < a + sizeI n) by omega)]
        simp [has_no hr0 c1, has_no hr1 c2]
  · intro p hp
    simp at hp
    rcases hp with rfl | rfl
    · exact ⟨h0, h⟩
    · unfold OkP; simp only; omega
set_option maxHeartbeats 25600000 in
set_option maxRecDepth 100000 in
theorem covers_walk (va : Value) (a : List Pf) (pa pn x : Int) (w : World) (ha : PsAt w va a) (h0 : 0 ≤ pa) (h : pa < 4294967296) (k0 : 0 ≤ x) (k1 : x < 4294967296) :
    Calls Try.prog 6 #[va, .agg #[.int .u32 pa, .int .i64 pn], .int .u32 x] w fun e w' => e = .returned (.bool true) ∧ Below w.heap.size w w' := by
  have HA := Lib.hid ha
  have la := ps_len ha
  obtain ⟨sa, ca, rfl, -⟩ := ha
  unfold maxLen at la
  go_enter Try.func6, Try.ntmps6
  go_upto_region 1 with (fail)
  obtain ⟨W0, hW, c0, c1, hb⟩ := box2 w (.int .u32 pa) (.int .i64 pn) 35
  rw [← hW]
  have CP := Lib.hid c0
  have CN := Lib.hid c1
  have B := Lib.hid hb
  have HA := Lib.hid (HA.out.below hb)
  clear hW c0 c1 hb
  obtain ⟨bp, hbp⟩ : ∃ b, w.heap.size = b := ⟨_, rfl⟩
  rw [hbp] at CP CN ⊢
  clear hbp
  go_wp2_with fail
  refine (ps_head _).mono ?_
  rintro e w1 ⟨rfl, hb1⟩
  have B := Lib.hid (below_on B.out hb1)
  have HA := Lib.hid (HA.out.below hb1)
  have CP := Lib.hid (cell_below CP.out hb1)
  have CN := Lib.hid (cell_below CN.out hb1)
  clear hb1
  by_cases h1 : 40 < a.length
  · have e1 : decide ((a.length : Int) > 40) = true := by simp; omega
    clear h1
    go_wp2_with fail
    go_ret
    exact ⟨rfl, B.out⟩
  have e1 : decide ((a.length : Int) > 40) = false := by simp; omega
  have MK := Lib.hid (ps_make2 (.slice sa a.length ca) (.slice none 0 0) a [] w1 HA.out SlAt.nil (by omega) (by decide))
  have LA := Lib.hid (show (setOf (goodL a)).length ≤ 40 from Nat.le_trans (setOf_goodL_len a) (by omega))
  clear h1
  go_wp2_with fail
  refine MK.out.mono ?_
  rintro e w2 ⟨vs, vt, rfl, ps, pt, hb2⟩
  generalize setOf (goodL a) = xs at ps LA
  have PS := Lib.hid ps
  have B := Lib.hid (below_on B.out hb2)
  have CP := Lib.hid (cell_below CP.out hb2)
  have CN := Lib.hid (cell_below CN.out hb2)
  obtain ⟨ss, cs, rfl, -⟩ := id PS.out
  obtain ⟨st, ct, rfl, -⟩ := pt
  clear ps hb2 MK e1
  go_upto_region 6 with (fail)
  obtain ⟨W3, hW, q0, q1, hb3⟩ := boxCC w2 #[.slice ss xs.length cs] 26 #[.slice st (setOf (goodL [])).length ct] 26
  rw [← hW]
  have Ds : Hid (W3.cell? ⟨w2.heap.size, 0, none⟩ = some (.slice ss xs.length cs)) := Lib.hid (row_cell q0 0)
  have PS := Lib.hid (PS.out.below hb3)
  have B := Lib.hid (below_on B.out hb3)
  have CP := Lib.hid (cell_below CP.out hb3)
  have CN := Lib.hid (cell_below CN.out hb3)
  clear hW q0 q1 hb3
  obtain ⟨bs, hbs⟩ : ∃ bs, w2.heap.size = bs := ⟨_, rfl⟩
  rw [hbs] at Ds ⊢
  clear hbs
  have LS := Lib.hid (ps_List _ xs W3 PS.out (by have := LA.out; omega))
  have ds := Ds.out
  go_wp2_with fail
  refine LS.out.mono ?_
  rintro e w4 ⟨v1, rfl, p1, hb4⟩
  have P1 := Lib.hid p1
  have PS := Lib.hid (PS.out.below hb4)
  have B := Lib.hid (below_on B.out hb4)
  have CP := Lib.hid (cell_below CP.out hb4)
  have CN := Lib.hid (cell_below CN.out hb4)
  have Ds := Lib.hid (cell_below Ds.out hb4)
  clear p1 hb4 ds LS
  obtain ⟨s1, c1, rfl, hl1, hc1, hV⟩ := id P1.out
  have HV := Lib.hid hV
  have lx := LA.out
  clear hV hl1 hc1
  go_wp2_with fail
  go_loopw [31, 9] (fun i9 v9 wr => ∃ k : Nat, k ≤ xs.length ∧ i9 = .int .i64 k ∧ v9 = .bool (covB (xs.take k) x) ∧ Hid (Below w4.heap.size w4 wr)) (fun i9 _ _ => xs.length - (intOf i9).toNat)
  case atStart => exact ⟨0, by omega, rfl, rfl, Lib.hid (Below.refl _ _)⟩
  case round =>
    obtain ⟨k, hk, rfl, rfl, BR⟩ := hrel
    by_cases hlt : k < xs.length
    · obtain ⟨q, hq⟩ : ∃ q, xs[k]? = some q := ⟨_, List.getElem?_eq_getElem hlt⟩
      obtain ⟨b1, off1, hsa, hP⟩ := HV.out (by omega)
      subst hsa
      obtain ⟨x0, x1⟩ := ps_two hP hq
      have x0 := cell_below x0 BR.out
      have x1 := cell_below x1 BR.out
      have i0 : (0 : Int) ≤ (k : Int) := by omega
      have i1 : (k : Int) < (xs.length : Int) := by omega
      have OQ := Lib.hid (ps_ok P1.out q (List.mem_of_getElem? hq))
      have ST := Lib.hid (covB_take hq x)
      clear hP hq
      generalize covB (xs.take k) x = d at ST
      go_upto_region 10 with (fail)
      obtain ⟨W5, hW, y0, y1, hb5⟩ := box2 wr (.int .u32 q.1) (.int .i64 q.2) 35
      rw [← hW]
      have B5 := Lib.hid (below_on BR.out hb5)
      clear hW hb5 x0 x1
      cases d
      · have ST2 : Hid (covB (xs.take (k + 1)) x = hasB q.1 q.2 x) := Lib.hid (by rw [ST.out]; rfl)
        have HC := Lib.hid (ip_Has q.1 q.2 x W5 OQ.out.1 OQ.out.2 k0 k1)
        generalize hasB q.1 q.2 x = z at ST2 HC
        go_wp2_with fail
        refine HC.out.mono ?_
        rintro e w6 ⟨rfl, hb6⟩
        have B6 := Lib.hid (below_on B5.out hb6)
        clear hb6 y0 y1 HC
        go_wp2_with fail
        exact ⟨⟨k + 1, by omega, by go_num, by rw [ST2.out], B6⟩, by simp [intOf]; omega⟩
      · have ST2 : Hid (covB (xs.take (k + 1)) x = true) := Lib.hid (by rw [ST.out]; rfl)
        clear y0 y1
        go_wp2_with fail
        exact ⟨⟨k + 1, by omega, by go_num, by rw [ST2.out], B5⟩, by simp [intOf]; omega⟩
    · obtain rfl : k = xs.length := by omega
      rw [List.take_length]
      have CV := Lib.hid (ps_Covers _ xs x k0 k1 wr (PS.out.below BR.out))
      have ds := cell_below Ds.out BR.out
      have CP := Lib.hid (cell_below CP.out BR.out)
      have CN := Lib.hid (cell_below CN.out BR.out)
      have B := Lib.hid (below_on B.out BR.out)
      generalize covB xs x = d at CV
      have d0 : (d != d) = false := by cases d <;> rfl
      go_wp2_with fail
      refine CV.out.mono ?_
      rintro e w7 ⟨rfl, hb7⟩
      have cp := cell_below CP.out hb7
      have cn := cell_below CN.out hb7
      have B := Lib.hid (below_on B.out hb7)
      clear ds CP CN hb7 CV PS Ds
      by_cases hg : rightB pa pn = true ∧ pn < 32
      · obtain ⟨hR, hn⟩ := hg
        have TH := Lib.hid (two_halves (x := x) h0 h hR hn)
        have H0 := Lib.hid (fun W => ip_Half pa pn 0 W h0 h hR hn)
        have H1 := Lib.hid (fun W => ip_Half pa pn 1 W h0 h hR hn)
        clear hR hn
        generalize halfI pa pn 0 = u0 at H0 TH
        generalize halfI pa pn 1 = u1 at H1 TH
        go_wp2_with fail
        refine (H0.out _).mono ?_
        rintro e w8 ⟨rfl, hb8⟩
        have CP := Lib.hid (cell_below cp hb8)
        have CN := Lib.hid (cell_below cn hb8)
        have B := Lib.hid (below_on B.out hb8)
        clear cp cn hb8
        go_upto_region 15 with (fail)
        obtain ⟨W9, hW, a0, a1, hb9⟩ := box2 w8 (.int .u32 u0) (.int .i64 (pn + 1)) 35
        rw [← hW]
        have A0 := Lib.hid a0
        have A1 := Lib.hid a1
        have cp := cell_below CP.out hb9
        have cn := cell_below CN.out hb9
        have B := Lib.hid (below_on B.out hb9)
        clear hW a0 a1 hb9 CP CN
        go_wp2_with fail
        refine (H1.out _).mono ?_
        rintro e w10 ⟨rfl, hb10⟩
        have CP := Lib.hid (cell_below cp hb10)
        have CN := Lib.hid (cell_below cn hb10)
        have A0 := Lib.hid (cell_below A0.out hb10)
        have A1 := Lib.hid (cell_below A1.out hb10)
        have B := Lib.hid (below_on B.out hb10)
        clear cp cn hb10
        go_upto_region 16 with (fail)
        obtain ⟨W11, hW, e0, e1, hb11⟩ := box2 w10 (.int .u32 u1) (.int .i64 (pn + 1)) 35
        rw [← hW]
        have a0 := cell_below A0.out hb11
        have a1 := cell_below A1.out hb11
        have CP := Lib.hid (cell_below CP.out hb11)
        have CN := Lib.hid (cell_below CN.out hb11)
        have B := Lib.hid (below_on B.out hb11)
        clear hW hb11 A0 A1
        go_wp2_with fail
        obtain ⟨W12, hW, pl, hb12⟩ := lit_ps W11 [(u0, pn + 1), (u1, pn + 1)] TH.out.2.2.2 (by simp [maxLen]) #[.int .u32 u0, .int .i64 (pn + 1), .int .u32 u1, .int .i64 (pn + 1)] rfl (n := 2) rfl
        rw [← hW]
        have B := Lib.hid (below_on B.out hb12)
        have CP := Lib.hid (cell_below CP.out hb12)
        have CN := Lib.hid (cell_below CN.out hb12)
        have OF := Lib.hid (ps_Of _ _ W12 pl)
        clear hW pl hb12 a0 a1 e0 e1
        refine OF.out.mono ?_
        rintro e w13 ⟨vh, rfl, oo, hb13⟩
        have OE := of_e TH.out.1 (by simp) TH.out.2.1 (by simp)
        rw [OE.1]
        rw [OE.2] at oo
        have PH := Lib.hid oo.at
        have B := Lib.hid (below_on B.out hb13)
        have CP := Lib.hid (cell_below CP.out hb13)
        have CN := Lib.hid (cell_below CN.out hb13)
        clear oo hb13 OF OE
        obtain ⟨sh, ch, rfl, -⟩ := id PH.out
        go_upto_region 19 with (fail)
        obtain ⟨W14, hW, q14, hb14, -⟩ := boxC w13 #[.slice sh 2 ch] 26
        rw [← hW]
        have d0 : W14.cell? ⟨w13.heap.size, 0, none⟩ = some (.slice sh 2 ch) := row_cell q14 0
        have PH := Lib.hid (PH.out.below hb14)
        have B := Lib.hid (below_on B.out hb14)
        have cp := cell_below CP.out hb14
        have cn := cell_below CN.out hb14
        clear hW q14 hb14 CP CN
        have LN := Lib.hid (fun W (hW : Below W14.heap.size W14 W) => ps_Len (.slice sh 2 ch) [(u0, pn + 1), (u1, pn + 1)] W (PH.out.below hW))
        have CV := Lib.hid (fun W (hW : Below W14.heap.size W14 W) => ps_Covers (.slice sh 2 ch) [(u0, pn + 1), (u1, pn + 1)] x k0 k1 W (PH.out.below hW))
        have HS := Lib.hid (fun W => ip_Has pa pn x W h0 h k0 k1)
        rw [TH.out.2.2.1] at CV
        generalize hasB pa pn x = z at CV HS
        have zz : (z == z) = true := by cases z <;> rfl
        refine wp_region_held_drew (S := fun w' => Below W14.heap.size W14 w') (by kernel_rfl) ?_ (fun hHeld => ?_)
        · exact (Below.refl _ _).drew
        refine rg_yes (i := 0) (v := ?_) at0 (by kernel_rfl) (by kernel_rfl) (by kernel_rfl) (fun _ _ _ h => h) ?_ ?_ hHeld ?_; rotate_left 1; (· rfl); (· intro w' hSw; (try dsimp only at hSw); (try clear hHeld); go_simp; try with_reducible rfl)
        try simp only [Act.put, List.setIfInBounds_toArray, List.set_cons_zero, List.set_cons_succ]
        refine rg_yes (i := 1) (v := ?_) (atS at0) (by kernel_rfl) (by kernel_rfl) (by kernel_rfl) (fun _ _ _ h => h) ?_ ?_ hHeld ?_; rotate_left 1; (· rfl); (· intro w' hSw; (try dsimp only at hSw); (try clear hHeld); go_simp; try with_reducible rfl)
        try simp only [Act.put, List.setIfInBounds_toArray, List.set_cons_zero, List.set_cons_succ]
        refine rg_yes (i := 2) (v := ?_) (atS (atS at0)) (by kernel_rfl) (by kernel_rfl) (by kernel_rfl) (fun _ _ _ h => h) ?_ ?_ hHeld ?_; rotate_left 1; (· rfl); (· intro w' hSw; (try dsimp only at hSw); (try clear hHeld); go_simp; try with_reducible rfl)
        try simp only [Act.put, List.setIfInBounds_toArray, List.set_cons_zero, List.set_cons_succ]
        first | (refine rg_no (i := 3) (atS (atS (atS at0))) (by kernel_rfl) (by kernel_rfl) (by kernel_rfl) (fun _ _ _ h => h) ?_ hHeld ?_; (· rfl)) | (refine rg_yes (i := 3) (v := ?_) (atS (atS (atS at0))) (by kernel_rfl) (by kernel_rfl) (by kernel_rfl) (fun _ _ _ h => h) ?_ ?_ hHeld ?_; rotate_left 1; (· rfl); (· intro w' hSw; (try dsimp only at hSw); have d0 := cell_below d0 hSw; have cp := cell_below cp hSw; have cn := cell_below cn hSw; (try clear hHeld); go_simp; try with_reducible rfl))
        try simp only [Act.put, List.setIfInBounds_toArray, List.set_cons_zero, List.set_cons_succ]
        first | (refine rg_no (i := 4) (atS (atS (atS (atS at0)))) (by kernel_rfl) (by kernel_rfl) (by kernel_rfl) (fun _ _ _ h => h) ?_ hHeld ?_; (· rfl)) | (refine rg_call (i := 4) (atS (atS (atS (atS at0)))) (by kernel_rfl) ?_ (fun K hK => ?_); (· rfl); (try clear hb); go_simp; (refine (LN.out _ hHeld).mono ?_; rintro e w1 ⟨rfl, hb⟩); go_wp2_with fail; refine hK.out _ _ ?_ (fun hHeld => ?_); (· exact hHeld.trans (hb.mono hHeld.size)); clear hK K)
        try simp only [Act.put, List.setIfInBounds_toArray, List.set_cons_zero, List.set_cons_succ]
        first | (refine rg_no (i := 5) (atS (atS (atS (atS (atS at0))))) (by kernel_rfl) (by kernel_rfl) (by kernel_rfl) (fun _ _ _ h => h) ?_ hHeld ?_; (· rfl)) | (refine rg_yes (i := 5) (v := ?_) (atS (atS (atS (atS (atS at0))))) (by kernel_rfl) (by kernel_rfl) (by kernel_rfl) (fun _ _ _ h => h) ?_ ?_ hHeld ?_; rotate_left 1; (· rfl); (· intro w' hSw; (try dsimp only at hSw); (try clear hHeld); go_simp; try with_reducible rfl))
        try simp only [Act.put, List.setIfInBounds_toArray, List.set_cons_zero, List.set_cons_succ]
        refine rg_yes (i := 6) (v := ?_) (atS (atS (atS (atS (atS (atS at0)))))) (by kernel_rfl) (by kernel_rfl) (by kernel_rfl) (fun _ _ _ h => h) ?_ ?_ hHeld ?_; rotate_left 1; (· rfl); (· intro w' hSw; (try dsimp only at hSw); (try clear hHeld); go_simp; try with_reducible rfl)
        try simp only [Act.put, List.setIfInBounds_toArray, List.set_cons_zero, List.set_cons_succ]
        refine rg_yes (i := 7) (v := ?_) (atS (atS (atS (atS (atS (atS (atS at0))))))) (by kernel_rfl) (by kernel_rfl) (by kernel_rfl) (fun _ _ _ h => h) ?_ ?_ hHeld ?_; rotate_left 1; (· rfl); (· intro w' hSw; (try dsimp only at hSw); (try clear hHeld); go_simp; try with_reducible rfl)
        try simp only [Act.put, List.setIfInBounds_toArray, List.set_cons_zero, List.set_cons_succ]
        first | (refine rg_no (i := 8) (atS (atS (atS (atS (atS (atS (atS (atS at0)))))))) (by kernel_rfl) (by kernel_rfl) (by kernel_rfl) (fun _ _ _ h => h) ?_ hHeld ?_; (· rfl)) | (refine rg_yes (i := 8) (v := ?_) (atS (atS (atS (atS (atS (atS (atS (atS at0)))))))) (by kernel_rfl) (by kernel_rfl) (by kernel_rfl) (fun _ _ _ h => h) ?_ ?_ hHeld ?_; rotate_left 1; (· rfl); (· intro w' hSw; (try dsimp only at hSw); have d0 := cell_below d0 hSw; have cp := cell_below cp hSw; have cn := cell_below cn hSw; (try clear hHeld); go_simp; try with_reducible rfl))
        try simp only [Act.put, List.setIfInBounds_toArray, List.set_cons_zero, List.set_cons_succ]
        first | (refine rg_no (i := 9) (atS (atS (atS (atS (atS (atS (atS (atS (atS at0))))))))) (by kernel_rfl) (by kernel_rfl) (by kernel_rfl) (fun _ _ _ h => h) ?_ hHeld ?_; (· rfl)) | (refine rg_yes (i := 9) (v := ?_) (atS (atS (atS (atS (atS (atS (atS (atS (atS at0))))))))) (by kernel_rfl) (by kernel_rfl) (by kernel_rfl) (fun _ _ _ h => h) ?_ ?_ hHeld ?_; rotate_left 1; (· rfl); (· intro w' hSw; (try dsimp only at hSw); (try clear hHeld); go_simp; try with_reducible rfl))
        try simp only [Act.put, List.setIfInBounds_toArray, List.set_cons_zero, List.set_cons_succ]
        first | (refine rg_no (i := 11) (atS (atS (atS (atS (atS (atS (atS (atS (atS (atS (atS at0))))))))))) (by kernel_rfl) (by kernel_rfl) (by kernel_rfl) (fun _ _ _ h => h) ?_ hHeld ?_; (· rfl)) | (refine rg_yes (i := 11) (v := ?_) (atS (atS (atS (atS (atS (atS (atS (atS (atS (atS (atS at0))))))))))) (by kernel_rfl) (by kernel_rfl) (by kernel_rfl) (fun _ _ _ h => h) ?_ ?_ hHeld ?_; rotate_left 1; (· rfl); (· intro w' hSw; (try dsimp only at hSw); have d0 := cell_below d0 hSw; have cp := cell_below cp hSw; have cn := cell_below cn hSw; (try clear hHeld); go_simp; try with_reducible rfl))
        try simp only [Act.put, List.setIfInBounds_toArray, List.set_cons_zero, List.set_cons_succ]
        first | (refine rg_no (i := 12) (atS (atS (atS (atS (atS (atS (atS (atS (atS (atS (atS (atS at0)))))))))))) (by kernel_rfl) (by kernel_rfl) (by kernel_rfl) (fun _ _ _ h => h) ?_ hHeld ?_; (· rfl)) | (refine rg_yes (i := 12) (v := ?_) (atS (atS (atS (atS (atS (atS (atS (atS (atS (atS (atS (atS at0)))))))))))) (by kernel_rfl) (by kernel_rfl) (by kernel_rfl) (fun _ _ _ h => h) ?_ ?_ hHeld ?_; rotate_left 1; (· rfl); (· intro w' hSw; (try dsimp only at hSw); (try clear hHeld); go_simp; try with_reducible rfl))
        try simp only [Act.put, List.setIfInBounds_toArray, List.set_cons_zero, List.set_cons_succ]
        first | (refine rg_no (i := 10) (atS (atS (atS (atS (atS (atS (atS (atS (atS (atS at0)))))))))) (by kernel_rfl) (by kernel_rfl) (by kernel_rfl) (fun _ _ _ h => h) ?_ hHeld ?_; (· rfl)) | (refine rg_call (i := 10) (atS (atS (atS (atS (atS (atS (atS (atS (atS (atS at0)))))))))) (by kernel_rfl) ?_ (fun K hK => ?_); (· rfl); (try clear hb); go_simp; (refine (CV.out _ hHeld).mono ?_; rintro e w1 ⟨rfl, hb⟩); go_wp2_with fail; refine hK.out _ _ ?_ (fun hHeld => ?_); (· exact hHeld.trans (hb.mono hHeld.size)); clear hK K)
        try simp only [Act.put, List.setIfInBounds_toArray, List.set_cons_zero, List.set_cons_succ]
        first | (refine rg_no (i := 13) (atS (atS (atS (atS (atS (atS (atS (atS (atS (atS (atS (atS (atS at0))))))))))))) (by kernel_rfl) (by kernel_rfl) (by kernel_rfl) (fun _ _ _ h => h) ?_ hHeld ?_; (· rfl)) | (refine rg_call (i := 13) (atS (atS (atS (atS (atS (atS (atS (atS (atS (atS (atS (atS (atS at0))))))))))))) (by kernel_rfl) ?_ (fun K hK => ?_); (· rfl); (try clear hb); go_simp; (refine (HS.out _).mono ?_; rintro e w1 ⟨rfl, hb⟩); go_wp2_with fail; refine hK.out _ _ ?_ (fun hHeld => ?_); (· exact hHeld.trans (hb.mono hHeld.size)); clear hK K)
        try simp only [Act.put, List.setIfInBounds_toArray, List.set_cons_zero, List.set_cons_succ]
        first | (refine rg_no (i := 14) (atS (atS (atS (atS (atS (atS (atS (atS (atS (atS (atS (atS (atS (atS at0)))))))))))))) (by kernel_rfl) (by kernel_rfl) (by kernel_rfl) (fun _ _ _ h => h) ?_ hHeld ?_; (· rfl)) | (refine rg_yes (i := 14) (v := ?_) (atS (atS (atS (atS (atS (atS (atS (atS (atS (atS (atS (atS (atS (atS at0)))))))))))))) (by kernel_rfl) (by kernel_rfl) (by kernel_rfl) (fun _ _ _ h => h) ?_ ?_ hHeld ?_; rotate_left 1; (· rfl); (· intro w' hSw; (try dsimp only at hSw); (try clear hHeld); go_simp; try with_reducible rfl))
        try simp only [Act.put, List.setIfInBounds_toArray, List.set_cons_zero, List.set_cons_succ]
        refine rg_yes (i := 15) (v := ?_) (atS (atS (atS (atS (atS (atS (atS (atS (atS (atS (atS (atS (atS (atS (atS at0))))))))))))))) (by kernel_rfl) (by kernel_rfl) (by kernel_rfl) (fun _ _ _ h => h) ?_ ?_ hHeld ?_; rotate_left 1; (· rfl); (· intro w' hSw; (try dsimp only at hSw); (try clear hHeld); go_simp; try with_reducible rfl)
        try simp only [Act.put, List.setIfInBounds_toArray, List.set_cons_zero, List.set_cons_succ]
        refine rg_yes (i := 16) (v := ?_) (atS (atS (atS (atS (atS (atS (atS (atS (atS (atS (atS (atS (atS (atS (atS (atS at0)))))))))))))))) (by kernel_rfl) (by kernel_rfl) (by kernel_rfl) (fun _ _ _ h => h) ?_ ?_ hHeld ?_; rotate_left 1; (· rfl); (· intro w' hSw; (try dsimp only at hSw); (try clear hHeld); go_simp; try with_reducible rfl)
        try simp only [Act.put, List.setIfInBounds_toArray, List.set_cons_zero, List.set_cons_succ]
        refine wpAnyH_done (by kernel_rfl) ?_ _
        have BF := Lib.hid (below_on B.out hHeld)
        clear hHeld hb
        go_wp2_with fail
        go_ret
        exact ⟨rfl, BF.out⟩
      · have hbad : rightB pa pn = false ∨ (pn == 32) = true := by
          by_cases hR : rightB pa pn = true
          · have := (rightB_range hR).2
            have : ¬ pn < 32 := fun k => hg ⟨hR, k⟩
            exact .inr (by simp; omega)
          · exact .inl (by simpa using hR)
        have H0 := Lib.hid (fun W => ip_Half_bad pa pn 0 W h0 h hbad)
        have H1 := Lib.hid (fun W => ip_Half_bad pa pn 1 W h0 h hbad)
        clear hg hbad
        go_wp2_with fail
        refine (H0.out _).mono ?_
        rintro e w8 ⟨rfl, hb8⟩
        have CP := Lib.hid (cell_below cp hb8)
        have CN := Lib.hid (cell_below cn hb8)
        have B := Lib.hid (below_on B.out hb8)
        clear cp cn hb8
        go_upto_region 15 with (fail)
        obtain ⟨W9, hW, a0, a1, hb9⟩ := box2 w8 (.int .u32 0) (.int .i64 0) 35
        rw [← hW]
        have cp := cell_below CP.out hb9
        have cn := cell_below CN.out hb9
        have B := Lib.hid (below_on B.out hb9)
        clear hW a0 a1 hb9 CP CN
        go_wp2_with fail
        refine (H1.out _).mono ?_
        rintro e w10 ⟨rfl, hb10⟩
        have B := Lib.hid (below_on B.out hb10)
        clear cp cn hb10
        go_wp2_with fail
        go_ret
        exact ⟨rfl, B.out.alloc B.out.size _⟩
namespace psetCovers
open Go.ChangeShapes Go.WideShapes Go.ChangeAt Go.RowKit
set_option linter.unusedVariables false
set_option maxRecDepth 100000 in
theorem lifted (os : Os) (started : os.Started) (H : Type) (enc : TypeId × Value → H) :
    ReturnsInHanded {} Try.checked os 6 .any (Rows.psetCoversSpec.pre6 enc Try.prog Try.f6 Rows.psetCoversRow.domain false) (Rows.psetCoversSpec.post enc Try.prog Try.f6 false true false false) := by
  refine returnsInHanded_of_change (C := Try.checked) fr_own started (by kernel_rfl) Try.func6
    (ChangeSpec.witness6 (enc := enc) (C := Try.checked) false ⟨#[], #[.slice none 0 0, .agg #[.int .u32 0, .int .i64 0], .int .u32 0], []⟩ 8 (by kernel_rfl) (by kernel_rfl) (by kernel_rfl) (by kernel_rfl)) ?_
  intro W base args ds gs before hval0 hW hcnd _
  have hval : ∀ (j : Nat) t v, Try.f6.params[j]? = some t → args[j]? = some v → Value.okWide Try.prog W .any base t v := hval0
  have hW' := hW
  obtain ⟨p, q, hA0, hV, rfl, hfz, hnd⟩ := hW
  have hA : DataW.TrodAll enc Try.prog W 0 (fun _ => true) true Try.f6.params.toList args.toList ds p := hA0
  rw [Try.params6] at hA hval
  obtain ⟨v0, vs0, d0, ds0, p0, q0, hargs, rfl, rfl, h0, r0⟩ := trodAll_cons hA
  obtain ⟨v1, vs1, d1, ds1, p1, q1, rfl, rfl, rfl, h1, r1⟩ := trodAll_cons r0
  obtain ⟨v2, vs2, d2, ds2, p2, q2, rfl, rfl, rfl, h2, r2⟩ := trodAll_cons r1
  obtain ⟨rfl, rfl, rfl⟩ := trodAll_nil r2
  obtain rfl : args = #[v0, v1, v2] := by cases args; simp_all
  obtain ⟨rfl, rfl⟩ := trodVars_none hV
  have lt0 : ∀ x ∈ p0, x.block < W.heap.size := by obtain ⟨m, hm⟩ := h0; exact DataW.trod_lt m _ _ _ hm
  have lt1 : ∀ x ∈ p1, x.block < W.heap.size := by obtain ⟨m, hm⟩ := h1; exact DataW.trod_lt m _ _ _ hm
  have lt2 : ∀ x ∈ p2, x.block < W.heap.size := by obtain ⟨m, hm⟩ := h2; exact DataW.trod_lt m _ _ _ hm
  obtain ⟨a, ha⟩ := open_pfs (hval 0 22 v0 rfl rfl) h0
  obtain ⟨a1, n1, rfl, z0, z1, z2, z3⟩ := open_pref (hval 1 35 v1 rfl rfl)
  obtain ⟨x, rfl, k0, k1⟩ := open_u32 (hval 2 33 v2 rfl rfl)
  clear hA0 hval0
  refine (covers_walk v0 a a1 n1 x W ha z0 z1 k0 k1).mono fun e W' ⟨he, bel⟩ => ?_
  subst he
  exact ⟨_, rfl, _, _, _, [], _, [], hW', trodAll_mk1 (shut_bool Try.underlying4 _), (trodAll_cons_mk (Below.trod fr_laidOut (by kernel_rfl) (of_decide_eq_true (by kernel_rfl)) h0 bel lt0) (trodAll_cons_mk (Below.trod fr_laidOut (by kernel_rfl) (of_decide_eq_true (by kernel_rfl)) h1 bel lt1) (trodAll_cons_mk (Below.trod fr_laidOut (by kernel_rfl) (of_decide_eq_true (by kernel_rfl)) h2 bel lt2) trodAll_mk0))), rfl, bel.frame _, fun h => by cases h⟩
theorem over : Rows.psetCoversRow.holds Try.pinned (OpenSpec.ofChange Rows.psetCoversSpec) :=
  OpenClaim.holds_of_wide 6 Try.f6 rfl rfl rfl rfl rfl rfl rfl ⟨rfl, rfl, rfl, rfl, rfl⟩ rfl rfl rfl rfl rfl (by kernel_rfl) Try.func6 (by kernel_rfl)
    (of_decide_eq_true (by kernel_rfl)) (by unfold Func.isWrapper; first | (rw [if_pos (by decide +kernel)]; kernel_rfl) | (rw [if_neg (by decide +kernel)]; exact ⟨rfl, rfl⟩))
    (fun os started H enc _ => lifted os started H enc)
/-- THE STATEMENT PsetCovers. -/
theorem proved : Rows.PsetCoversSaid := over
#print axioms proved
end psetCovers
end Go.Proofs.Ytaafeekkllomhaa
