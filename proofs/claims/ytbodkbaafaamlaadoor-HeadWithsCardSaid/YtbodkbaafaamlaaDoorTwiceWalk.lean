/-
  HeadTwice, the walk: one field set twice has the last number; two are set in whatever order.
-/
import Derived.Test.YtbodkbaafaamlaaDoorWithLaws
import Derived.Test.YtbodkbaafaamlaaDoorHdrEq
import Derived.Deep.WholeRow
namespace Go.Proofs.YtbodkbaafaamlaaDoor
open Go.RowKit

theorem wpList_store_fresh {P : Program} {ops : Array Oper} {rest : List Oper} {o : Oper} {a : Act} {w : World} {Q : Exit → Act → World → Prop} (hgd : o.guard = none) (ty : TypeId) (x y : Operand) (ho : o.op = .store ty x y)
    (hx : a.eval x = .pointer (some ⟨w.heap.size, 0, none⟩)) (c c' : Array Value) (hy : a.eval y = .agg c') (hi : (P.info? ty).map (·.size) = some c'.size) (hs : c.size = c'.size) (h1 : c'.all (·.oneCell') = true)
    (h : wpList P ops Q rest (a.put o.dst undef) (w.alloc (.cells c' ty))) : wpList P ops Q (o :: rest) a (w.alloc (.cells c ty)) :=
  wpList_plain hgd fun _ hK => by
    unfold Oper.wp execOp
    simp only [ho, hx, hy, Instr.storeAt, Instr.sureAddr, Sem.run_bind, Sem.run_pure, Result.andThen_ok, run_storeVar_new w ty c c' hi hs h1]
    exact hK _ _ h
def hdr80 : Hdr := ⟨0, 0, 0, 0, 0, 0, 0, 0, 0, 0, 0, 0, 0, 0, 0, 0, 0, 0, 80⟩
theorem with80 : withH hdr0 8 80 = hdr80 ∧ errI (withOk 8 80) = 0 := ⟨rfl, by decide⟩
theorem hdr0_ok : hdr0.Ok := by constructor <;> simp [I64, U32, Byte]
theorem withH_ok {h : Hdr} {f n : Int} (ok : h.Ok) (hn : 0 ≤ n) : (withH h f n).Ok := by
  unfold withH
  split
  · exact setH_ok ok hn ‹_›
  · exact hdr0_ok
set_option maxRecDepth 100000 in
set_option maxHeartbeats 6400000 in
theorem law_HeadTwice (h : Hdr) (f g a b : Int) (w : World) (hT : Wid w) (ok : h.Ok) (a0 : 0 ≤ a) (a1 : a < 18446744073709551616) (b0 : 0 ≤ b) (b1 : b < 18446744073709551616) :
    Calls Tryd.prog 4 #[hdrV h, .int .i64 f, .int .i64 g, .int .u64 a, .int .u64 b] w fun e w' => e = .returned (.bool true) ∧ Below w.heap.size w w' := by
  have HT := Lib.hid hT
  clear hT
  have OK := Lib.hid ok
  clear ok
  obtain ⟨ea, am0, am1⟩ := and_full a f a0 a1
  obtain ⟨eb, bm0, bm1⟩ := and_full b g b0 b1
  generalize a % (fullI f + 1) = a' at ea am0 am1
  generalize b % (fullI g + 1) = b' at eb bm0 bm1
  have EA := Lib.hid ea
  have EB := Lib.hid eb
  clear ea eb
  go_enter Tryd.func4, Tryd.ntmps4
  go_wp2_with fail
  obtain ⟨W0, hW0, hx, hB⟩ := boxH w h
  rw [← hW0]; clear hW0
  refine (head_With hdr0 8 80 _ (HT.out.below hB) (by decide)).mono ?_
  rintro e w1 ⟨rfl, hb⟩
  rw [with80.1, with80.2]
  replace hx := hx.below hb
  replace hB := below_on hB hb
  clear hb
  go_wp2_with (refine wpList_store_fresh rfl 33 _ _ rfl rfl (hdrC hdr0) (hdrC hdr80) rfl (by kernel_rfl) rfl (hdr_one _) ?_)
  obtain ⟨W2, hW2, _, hb⟩ := boxH w1 hdr80
  rw [← hW2]; clear hW2
  replace hx := hx.below hb
  replace hB := below_on hB hb
  clear hb
  have hT := HT.out.below hB
  refine (head_Full f _ hT).mono ?_
  rintro e _ ⟨rfl, rfl⟩
  go_wp2_with fail
  rw [EA.out]
  refine (head_Full g _ hT).mono ?_
  rintro e _ ⟨rfl, rfl⟩
  have HX := Lib.hid hx
  clear hx hT
  go_wp2_with (with_reducible refine stop_load (ty := 33) (x := .tmp 5) ?_ ?_; (· rfl))
  rw [EB.out]
  unfold Stop
  refine wpList_load_at (by rfl) 33 _ rfl w.heap.size rfl 33 _ (0, 0) _ HX.out Tryd.underlying33 rfl (by kernel_rfl) ?_
  go_wp2_with fail
  refine (head_With h f a' _ (HT.out.below hB) am0).mono ?_
  rintro e w3 ⟨rfl, hb⟩
  have hx := HX.out.below hb
  replace hB := below_on hB hb
  clear hb HX
  have PO : Hid (withH h f a').Ok := withH_ok OK.out am0
  have hp : withH h f a' = withH h f a' := rfl
  generalize hP : withH h f a' = P at PO hp
  generalize hE : errI (withOk f a') = e1
  have HP := Lib.hid hP
  have HE := Lib.hid hE
  clear hP hE hp
  go_wp2_with (first | (refine wpList_store_fresh rfl 33 _ _ rfl rfl (hdrC hdr0) (hdrC P) rfl (by kernel_rfl) rfl (hdr_one _) ?_) | (with_reducible refine stop_load (ty := 33) (x := .tmp 5) ?_ ?_; (· rfl)))
  have hz := hx.lt
  obtain ⟨W4, hW4, hp, hb⟩ := boxH w3 P
  rw [← hW4]; clear hW4
  replace hx := hx.below hb
  replace hB := below_on hB hb
  clear hb
  unfold Stop
  refine wpList_load_at (by rfl) 33 _ rfl w.heap.size rfl 33 _ (0, 0) _ hx Tryd.underlying33 rfl (by kernel_rfl) ?_
  have HX := Lib.hid hx
  have HPB := Lib.hid hp
  clear hx hp
  go_wp2_with fail
  refine (head_With h g b' _ (HT.out.below hB) bm0).mono ?_
  rintro e w5 ⟨rfl, hb⟩
  have hx := HX.out.below hb
  have hp := HPB.out.below hb
  replace hB := below_on hB hb
  clear hb HX HPB
  have QO : Hid (withH h g b').Ok := withH_ok OK.out bm0
  generalize hQ : withH h g b' = R at QO
  generalize hE2 : errI (withOk g b') = e2
  have HQ := Lib.hid hQ
  have HE2 := Lib.hid hE2
  clear hQ hE2
  generalize w3.heap.size = B3 at hp hz ⊢
  have Fx := Lib.hid (show w.heap.size < w5.heap.size from hx.lt)
  by_cases hf : 0 ≤ f ∧ f < 9
  · by_cases hg : 0 ≤ g ∧ g < 9
    · obtain ⟨f0, f1⟩ := hf
      obtain ⟨g0, g1⟩ := hg
      have of : withOk f a' = true := (withOk_iff _ _).2 ⟨f0, f1, am1⟩
      have og : withOk g b' = true := (withOk_iff _ _).2 ⟨g0, g1, bm1⟩
      have HX := Lib.hid hx
      have HPB := Lib.hid hp
      clear hx hp am1 bm1
      go_wp2_with (first | (refine wpList_store_fresh rfl 33 _ _ rfl rfl (hdrC hdr0) (hdrC R) rfl (by kernel_rfl) rfl (hdr_one _) ?_) | (with_reducible refine stop_load (ty := 33) (x := .tmp 13) ?_ ?_; (· rfl)))
      obtain ⟨W6, hW6, hr, hb⟩ := boxH w5 R
      rw [← hW6]; clear hW6
      have hx := HX.out.below hb
      have hp := HPB.out.below hb
      have hz2 := HPB.out.lt
      replace hB := below_on hB hb
      clear hb HX HPB
      unfold Stop
      refine wpList_load_at (by rfl) 33 _ rfl B3 rfl 33 _ (0, 0) _ hp Tryd.underlying33 rfl (by kernel_rfl) ?_
      have HX := Lib.hid hx
      have HPB := Lib.hid hp
      have HRB := Lib.hid hr
      clear hx hp hr
      go_wp2_with fail
      refine (head_With P g b' _ (HT.out.below hB) bm0).mono ?_
      rintro e w7 ⟨rfl, hb⟩
      have hx := HX.out.below hb
      have hp := HPB.out.below hb
      have hr := HRB.out.below hb
      replace hB := below_on hB hb
      clear hb HX HPB HRB
      generalize hP2 : withH P g b' = P2
      have HP2 := Lib.hid hP2
      clear hP2
      generalize w5.heap.size = B5 at hr hz2 ⊢
      have hx1 := Lib.hid (hx.setRow_other (hdrC P2) (show w.heap.size ≠ B3 by omega))
      have hp1 := Lib.hid (hp.row P2)
      have hr1 := Lib.hid (hr.setRow_other (hdrC P2) (show B5 ≠ B3 by omega))
      have hB1 := Lib.hid (below_setRow hB (g := B3) (by omega) (hdrC P2))
      have HP := Lib.hid hp
      clear hx hr hB hp
      go_wp2_with (first | (refine wpList_store_row rfl 33 _ _ rfl B3 rfl 33 (hdrC P) (hdrC P2) rfl HP.out (by kernel_rfl) rfl (hdr_one _) ?_) | (with_reducible refine stop_load (ty := 33) (x := .tmp 14) ?_ ?_; (· rfl)))
      obtain ⟨W8, hW8⟩ : ∃ W8, W8 = w7.setRow B3 (hdrC P2) := ⟨_, rfl⟩
      rw [← hW8] at hx1 hp1 hr1 hB1 ⊢
      clear hW8 HP
      unfold Stop
      refine wpList_load_at (by rfl) 33 _ rfl B5 rfl 33 _ (0, 0) _ hr1.out Tryd.underlying33 rfl (by kernel_rfl) ?_
      go_wp2_with fail
      refine (head_With R f a' _ (HT.out.below hB1.out) am0).mono ?_
      rintro e w9 ⟨rfl, hb⟩
      have hx := hx1.out.below hb
      have hp := hp1.out.below hb
      have hr := hr1.out.below hb
      have hB := below_on hB1.out hb
      clear hb hx1 hp1 hr1 hB1
      generalize hR2 : withH R f a' = R2
      have HR2 := Lib.hid hR2
      clear hR2
      have hx1 := Lib.hid (hx.setRow_other (hdrC R2) (show w.heap.size ≠ B5 by omega))
      have hp1 := Lib.hid (hp.setRow_other (hdrC R2) (show B3 ≠ B5 by omega))
      have hr1 := Lib.hid (hr.row R2)
      have hB1 := Lib.hid (below_setRow hB (g := B5) (by omega) (hdrC R2))
      have HR := Lib.hid hr
      clear hx hr hB hp
      by_cases hfg : f = g
      · subst hfg
        go_wp2_with (first | (refine wpList_store_row rfl 33 _ _ rfl B5 rfl 33 (hdrC R) (hdrC R2) rfl HR.out (by kernel_rfl) rfl (hdr_one _) ?_) | (with_reducible refine stop_load (ty := 33) (x := .tmp 5) ?_ ?_; (· rfl)))
        obtain ⟨W8, hW8⟩ : ∃ W8, W8 = w9.setRow B5 (hdrC R2) := ⟨_, rfl⟩
        rw [← hW8] at hx1 hp1 hr1 hB1 ⊢
        clear hW8 HR
        unfold Stop
        refine wpList_load_at (by rfl) 33 _ rfl w.heap.size rfl 33 _ (0, 0) _ hx1.out Tryd.underlying33 rfl (by kernel_rfl) ?_
        go_wp2_with fail
        refine (head_With h f b' _ (HT.out.below hB1.out) bm0).mono ?_
        rintro e w10 ⟨rfl, hb⟩
        rw [HQ.out]
        have hp := hp1.out.below hb
        have hB := below_on hB1.out hb
        clear hb hp1 hB1 hx1 hr1
        have HPB := Lib.hid hp
        clear hp
        go_wp2_with (first | (refine wpList_store_fresh rfl 33 _ _ rfl rfl (hdrC hdr0) (hdrC R) rfl (by kernel_rfl) rfl (hdr_one _) ?_) | (with_reducible refine stop_load (ty := 33) (x := .tmp 13) ?_ ?_; (· rfl)))
        obtain ⟨W11, hW11, hr, hb⟩ := boxH w10 R
        rw [← hW11]; clear hW11
        have hp := HPB.out.below hb
        replace hB := below_on hB hb
        clear hb
        unfold Stop
        refine wpList_load_at (by rfl) 33 _ rfl B3 rfl 33 _ (0, 0) _ hp Tryd.underlying33 rfl (by kernel_rfl) ?_
        have HRB := Lib.hid hr
        clear hp hr
        go_wp2_with (with_reducible refine stop_load (ty := 33) (x := .tmp 16) ?_ ?_; (· rfl))
        unfold Stop
        refine wpList_load_at (by rfl) 33 _ rfl w10.heap.size rfl 33 _ (0, 0) _ HRB.out Tryd.underlying33 rfl (by kernel_rfl) ?_
        have e : P2 = R := by
          rw [← HP2.out, ← HP.out, ← HQ.out]
          unfold withH
          rw [of, og, if_pos rfl, if_pos rfl, if_pos rfl]
          exact setH_twice h f a' b' f0 f1
        subst e
        go_wp2_with fail
        go_ret
        exact ⟨ret_bool (eqH_self _), hB⟩
      · have hfg2 : (f == g) = false := by simp [hfg]
        go_wp2_with (first | (refine wpList_store_row rfl 33 _ _ rfl B5 rfl 33 (hdrC R) (hdrC R2) rfl HR.out (by kernel_rfl) rfl (hdr_one _) ?_) | (with_reducible refine stop_load (ty := 33) (x := .tmp 13) ?_ ?_; (· rfl)))
        obtain ⟨W8, hW8⟩ : ∃ W8, W8 = w9.setRow B5 (hdrC R2) := ⟨_, rfl⟩
        rw [← hW8] at hx1 hp1 hr1 hB1 ⊢
        clear hW8 HR
        unfold Stop
        refine wpList_load_at (by rfl) 33 _ rfl B3 rfl 33 _ (0, 0) _ hp1.out Tryd.underlying33 rfl (by kernel_rfl) ?_
        go_wp2_with (with_reducible refine stop_load (ty := 33) (x := .tmp 14) ?_ ?_; (· rfl))
        unfold Stop
        refine wpList_load_at (by rfl) 33 _ rfl B5 rfl 33 _ (0, 0) _ hr1.out Tryd.underlying33 rfl (by kernel_rfl) ?_
        have e : P2 = R2 := by
          rw [← HP2.out, ← HR2.out, ← HP.out, ← HQ.out]
          unfold withH
          rw [of, og, if_pos rfl, if_pos rfl, if_pos rfl, if_pos rfl]
          exact setH_turn h f g a' b' f0 f1 g0 g1 hfg
        subst e
        go_wp2_with fail
        go_ret
        exact ⟨ret_bool (eqH_self _), hB1.out⟩
    · have og : withOk g b' = false := by
        cases h' : withOk g b' with
        | false => rfl
        | true => exact absurd ⟨((withOk_iff _ _).1 h').1, ((withOk_iff _ _).1 h').2.1⟩ hg
      have hE := HE2.out
      rw [og] at hE
      obtain rfl : e2 = 1 := hE.symm
      have HB := Lib.hid (below_on hB ((Below.refl w5.heap.size w5).alloc (Nat.le_refl _) (.cells (hdrC R) 33)))
      clear hx hp hB
      obtain ⟨f0, f1⟩ := hf
      have d0 : decide (f < 0) = false := decide_eq_false (by omega)
      have d1 : decide (9 ≤ f) = false := decide_eq_false (by omega)
      have he1 : e1 = 0 ∨ e1 = 1 := by rw [← HE.out]; cases withOk f a' <;> simp [errI]
      rcases (by omega : g < 0 ∨ (¬ g < 0 ∧ 9 ≤ g)) with hg1 | ⟨hg1, hg2⟩ <;> rcases he1 with rfl | rfl
      all_goals
        go_wp2_with (refine wpList_store_fresh rfl 33 _ _ rfl rfl (hdrC hdr0) (hdrC R) rfl (by kernel_rfl) rfl (hdr_one _) ?_)
        go_ret
        exact ⟨ret_bool (by simp), HB.out⟩
  · have of : withOk f a' = false := by
      cases h' : withOk f a' with
      | false => rfl
      | true => exact absurd ⟨((withOk_iff _ _).1 h').1, ((withOk_iff _ _).1 h').2.1⟩ hf
    have hE := HE.out
    rw [of] at hE
    obtain rfl : e1 = 1 := hE.symm
    have HB := Lib.hid (below_on hB ((Below.refl w5.heap.size w5).alloc (Nat.le_refl _) (.cells (hdrC R) 33)))
    clear hx hp hB
    rcases (by omega : f < 0 ∨ (¬ f < 0 ∧ 9 ≤ f)) with hf1 | ⟨hf1, hf2⟩
    all_goals
      go_wp2_with (refine wpList_store_fresh rfl 33 _ _ rfl rfl (hdrC hdr0) (hdrC R) rfl (by kernel_rfl) rfl (hdr_one _) ?_)
      go_ret
      exact ⟨ret_bool (by simp), HB.out⟩
end Go.Proofs.YtbodkbaafaamlaaDoor
