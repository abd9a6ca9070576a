/-
  PsetMerges: what is in either of two sets, in both, in one alone; whether they are the same; for all lists of prefixes; no condition.
-/
import Derived.Test.YtaafeekkllomhaaPsO
import Derived.IntWalk
import Derived.Deep.DeepCutAuto
namespace Go.Proofs.Ytaafeekkllomhaa
open Go.RowKit

theorem setOf_goodL_len (a : List Pf) : (setOf (goodL a)).length ≤ a.length := Nat.le_trans (setOf_len _) (goodL_len a)
theorem and_is {xs ys : List Pf} (hx : Srt xs) : andL xs ys = xs.filter fun p => decide (p ∈ ys) := by
  refine srt_ext (mrg_srt _ _ _) (hx.filter _) fun p => ?_
  rw [mrg_mem, List.mem_filter]
  simp only [Bool.and_eq_true, decide_eq_true_eq]
  exact ⟨fun h => h.2, fun h => ⟨.inl h.1, h⟩⟩
theorem less_is {xs ys : List Pf} (hx : Srt xs) : lessL xs ys = xs.filter fun p => !decide (p ∈ ys) := by
  refine srt_ext (mrg_srt _ _ _) (hx.filter _) fun p => ?_
  rw [mrg_mem, List.mem_filter]
  simp only [Bool.and_eq_true, decide_eq_true_eq]
  exact ⟨fun h => h.2, fun h => ⟨.inl h.1, h⟩⟩
theorem filter_two (q : Pf → Bool) : ∀ l : List Pf, (l.filter q).length + (l.filter fun p => !q p).length = l.length
  | [] => rfl
  | x :: l => by
    have ih := filter_two q l
    cases h : q x <;> simp [h] <;> omega
theorem same_len {l m : List Pf} (hl : l.Nodup) (hm : m.Nodup) (h : ∀ p, p ∈ l ↔ p ∈ m) : l.length = m.length := ((List.perm_ext_iff_of_nodup hl hm).2 h).length_eq
theorem less_len {xs ys : List Pf} (hx : Srt xs) : (lessL xs ys).length + (andL xs ys).length = xs.length := by
  rw [and_is hx, less_is hx]
  have := filter_two (fun p => decide (p ∈ ys)) xs
  omega
theorem or_len {xs ys : List Pf} (hx : Srt xs) (hy : Srt ys) : (orL xs ys).length + (andL xs ys).length = xs.length + ys.length := by
  have h1 : (orL xs ys).length = (xs ++ ys.filter fun p => !decide (p ∈ xs)).length := by
    refine same_len (srt_nodup (mrg_srt _ _ _)) ?_ fun p => ?_
    · rw [List.nodup_append]
      refine ⟨srt_nodup hx, (srt_nodup hy).filter _, fun a ha b hb e => ?_⟩
      subst e
      have := (List.mem_filter.1 hb).2
      simp [ha] at this
    · rw [mrg_mem, List.mem_append, List.mem_filter]
      simp only [Bool.or_eq_true, decide_eq_true_eq, and_self, Bool.not_eq_true', decide_eq_false_iff_not]
      constructor
      · rintro (h | h)
        · exact .inl h
        · by_cases k : p ∈ xs
          · exact .inl k
          · exact .inr ⟨h, k⟩
      · rintro (h | h)
        · exact .inl h
        · exact .inr h.1
  have h2 : (andL xs ys).length = (ys.filter fun p => decide (p ∈ xs)).length := by
    rw [and_is hx]
    refine same_len ((srt_nodup hx).filter _) ((srt_nodup hy).filter _) fun p => ?_
    rw [List.mem_filter, List.mem_filter]
    simp only [decide_eq_true_eq]
    exact ⟨fun h => ⟨h.2, h.1⟩, fun h => ⟨h.2, h.1⟩⟩
  have h3 := filter_two (fun p => decide (p ∈ xs)) ys
  rw [h1, h2, List.length_append]
  omega
theorem or_back (xs ys : List Pf) : orL ys xs = orL xs ys := srt_ext (mrg_srt _ _ _) (mrg_srt _ _ _) fun p => by
  rw [mrg_mem, mrg_mem]
  simp only [Bool.or_eq_true, decide_eq_true_eq, and_self]
  exact Or.comm
theorem or_both {xs ys : List Pf} (hx : Srt xs) : orL (lessL xs ys) (andL xs ys) = xs := srt_ext (mrg_srt _ _ _) hx fun p => by
  rw [mrg_mem]
  simp only [Bool.or_eq_true, decide_eq_true_eq, and_self]
  rw [and_is hx, less_is hx, List.mem_filter, List.mem_filter]
  simp only [Bool.not_eq_true', decide_eq_false_iff_not, decide_eq_true_eq]
  constructor
  · rintro (h | h)
    · exact h.1
    · exact h.1
  · intro h
    by_cases k : p ∈ ys
    · exact .inr ⟨h, k⟩
    · exact .inl ⟨h, k⟩
theorem less_none {xs ys : List Pf} (hx : Srt xs) : (lessL xs ys).length = 0 ↔ ∀ p ∈ xs, p ∈ ys := by
  rw [less_is hx, List.length_eq_zero_iff, List.filter_eq_nil_iff]
  simp
theorem same_less {xs ys : List Pf} (hx : Srt xs) (hy : Srt ys) : decide (xs = ys) = (decide ((lessL xs ys).length = 0) && decide ((lessL ys xs).length = 0)) := by
  rw [Bool.eq_iff_iff, Bool.and_eq_true, decide_eq_true_eq, decide_eq_true_eq, decide_eq_true_eq, less_none hx, less_none hy]
  constructor
  · rintro rfl
    exact ⟨fun p h => h, fun p h => h⟩
  · rintro ⟨h1, h2⟩
    exact srt_ext hx hy fun p => ⟨h1 p, h2 p⟩
theorem orE_small {xs ys : List Pf} (h : xs.length + ys.length ≤ 4096) : orE xs ys = 0 ∧ orR xs ys = orL xs ys := by
  have h2 : (orL xs ys).length ≤ xs.length + ys.length := mrg_len _ xs ys
  exact ⟨by unfold orE; rw [if_neg (by omega)], by unfold orR; rw [if_neg (by omega)]⟩
set_option maxHeartbeats 51200000 in
set_option maxRecDepth 100000 in
theorem merges_walk (va vb : Value) (a b : List Pf) (w : World) (ha : PsAt w va a) (hb : PsAt w vb b) :
    Calls Try.prog 8 #[va, vb] w fun e w' => e = .returned (.bool true) ∧ Below w.heap.size w w' := by
  have HA := Lib.hid ha
  have HB := Lib.hid hb
  have la := ps_len ha
  have lb := ps_len hb
  obtain ⟨sa, ca, rfl, -⟩ := ha
  obtain ⟨sb, cb, rfl, -⟩ := hb
  unfold maxLen at la lb
  go_enter Try.func8, Try.ntmps8
  go_wp2_with fail
  refine (ps_head _).mono ?_
  rintro e w1 ⟨rfl, hb1⟩
  have B := Lib.hid hb1
  have HA := Lib.hid (HA.out.below hb1)
  have HB := Lib.hid (HB.out.below hb1)
  clear hb1
  by_cases h1 : 60 < a.length
  · have e1 : decide ((a.length : Int) > 60) = true := by simp; omega
    clear h1
    go_wp2_with fail
    go_ret
    exact ⟨rfl, B.out⟩
  have e1 : decide ((a.length : Int) > 60) = false := by simp; omega
  by_cases h2 : 60 < b.length
  · have e2 : decide ((b.length : Int) > 60) = true := by simp; omega
    clear h1 h2
    go_wp2_with fail
    go_ret
    exact ⟨rfl, B.out⟩
  have e2 : decide ((b.length : Int) > 60) = false := by simp; omega
  have MK := Lib.hid (ps_make2 (.slice sa a.length ca) (.slice sb b.length cb) a b w1 HA.out HB.out (by omega) (by omega))
  have LA := Lib.hid (show (setOf (goodL a)).length ≤ 60 from Nat.le_trans (setOf_goodL_len a) (by omega))
  have LB := Lib.hid (show (setOf (goodL b)).length ≤ 60 from Nat.le_trans (setOf_goodL_len b) (by omega))
  clear h1 h2
  go_wp2_with fail
  refine MK.out.mono ?_
  rintro e w2 ⟨vs, vt, rfl, ps, pt, hb2⟩
  have SX := Lib.hid (setOf_srt (goodL a)).1
  have SY := Lib.hid (setOf_srt (goodL b)).1
  generalize setOf (goodL a) = xs at ps LA SX
  generalize setOf (goodL b) = ys at pt LB SY
  have PS := Lib.hid ps
  have PT := Lib.hid pt
  have B := Lib.hid (below_on B.out hb2)
  have lx := LA.out
  have ly := LB.out
  have OL := or_len SX.out SY.out
  have LL := less_len (ys := ys) SX.out
  clear ps pt hb2 MK e1 e2
  have OE := Lib.hid (orE_small (xs := xs) (ys := ys) (by omega))
  have OE2 := Lib.hid (orE_small (xs := ys) (ys := xs) (by omega))
  have OE3 := Lib.hid (orE_small (xs := lessL xs ys) (ys := andL xs ys) (by omega))
  obtain ⟨ss, cs, rfl, -⟩ := id PS.out
  obtain ⟨st, ct, rfl, -⟩ := id PT.out
  go_upto_region 6 with (fail)
  obtain ⟨W3, hW, q0, q1, hb3⟩ := boxCC w2 #[.slice ss xs.length cs] 26 #[.slice st ys.length ct] 26
  rw [← hW]
  have Ds : Hid (W3.cell? ⟨w2.heap.size, 0, none⟩ = some (.slice ss xs.length cs)) := Lib.hid (row_cell q0 0)
  have Dt : Hid (W3.cell? ⟨w2.heap.size + 1, 0, none⟩ = some (.slice st ys.length ct)) := Lib.hid (row_cell q1 0)
  have PS := Lib.hid (PS.out.below hb3)
  have PT := Lib.hid (PT.out.below hb3)
  have B := Lib.hid (below_on B.out hb3)
  clear hW q0 q1 hb3
  obtain ⟨bs, hbs⟩ : ∃ bs, w2.heap.size = bs := ⟨_, rfl⟩
  rw [hbs] at Ds Dt ⊢
  clear hbs
  have ds := Ds.out
  have dt := Dt.out
  have OC := Lib.hid (ps_Or _ _ xs ys W3 PS.out PT.out SX.out SY.out (by omega))
  go_wp2_with fail
  refine OC.out.mono ?_
  rintro e w4 ⟨vo, rfl, po, hb4⟩
  rw [OE.out.1]
  rw [OE.out.2] at po
  have PO := Lib.hid po
  have PS := Lib.hid (PS.out.below hb4)
  have PT := Lib.hid (PT.out.below hb4)
  have Ds := Lib.hid (cell_below ds hb4)
  have Dt := Lib.hid (cell_below dt hb4)
  have B := Lib.hid (below_on B.out hb4)
  clear po hb4 OC ds dt
  obtain ⟨so, co, rfl, -⟩ := id PO.out
  go_upto_region 7 with (fail)
  obtain ⟨W5, hW, q5, hb5, -⟩ := boxC w4 #[.slice so (orL xs ys).length co] 26
  rw [← hW]
  have Do : Hid (W5.cell? ⟨w4.heap.size, 0, none⟩ = some (.slice so (orL xs ys).length co)) := Lib.hid (row_cell q5 0)
  have PS := Lib.hid (PS.out.below hb5)
  have PT := Lib.hid (PT.out.below hb5)
  have PO := Lib.hid (PO.out.below hb5)
  have ds := cell_below Ds.out hb5
  have dt := cell_below Dt.out hb5
  have B := Lib.hid (below_on B.out hb5)
  clear hW q5 hb5
  obtain ⟨bo, hbo⟩ : ∃ bo, w4.heap.size = bo := ⟨_, rfl⟩
  rw [hbo] at Do ⊢
  clear hbo
  have AC := Lib.hid (ps_And _ _ xs ys W5 PS.out PT.out SX.out SY.out (by omega))
  go_wp2_with fail
  refine AC.out.mono ?_
  rintro e w6 ⟨vn, rfl, pn, hb6⟩
  have PN := Lib.hid pn
  have PS := Lib.hid (PS.out.below hb6)
  have PT := Lib.hid (PT.out.below hb6)
  have PO := Lib.hid (PO.out.below hb6)
  have Ds := Lib.hid (cell_below ds hb6)
  have Dt := Lib.hid (cell_below dt hb6)
  have Do := Lib.hid (cell_below Do.out hb6)
  have B := Lib.hid (below_on B.out hb6)
  clear pn hb6 AC ds dt
  obtain ⟨sn, cn, rfl, -⟩ := id PN.out
  go_upto_region 8 with (fail)
  obtain ⟨W7, hW, q7, hb7, -⟩ := boxC w6 #[.slice sn (andL xs ys).length cn] 26
  rw [← hW]
  have Dn : Hid (W7.cell? ⟨w6.heap.size, 0, none⟩ = some (.slice sn (andL xs ys).length cn)) := Lib.hid (row_cell q7 0)
  have PS := Lib.hid (PS.out.below hb7)
  have PT := Lib.hid (PT.out.below hb7)
  have PO := Lib.hid (PO.out.below hb7)
  have PN := Lib.hid (PN.out.below hb7)
  have ds := cell_below Ds.out hb7
  have dt := cell_below Dt.out hb7
  have Do := Lib.hid (cell_below Do.out hb7)
  have B := Lib.hid (below_on B.out hb7)
  clear hW q7 hb7
  obtain ⟨bn, hbn⟩ : ∃ bn, w6.heap.size = bn := ⟨_, rfl⟩
  rw [hbn] at Dn ⊢
  clear hbn
  have LC := Lib.hid (ps_Less _ _ xs ys W7 PS.out PT.out SX.out SY.out (by omega))
  go_wp2_with fail
  refine LC.out.mono ?_
  rintro e w8 ⟨vl, rfl, pl, hb8⟩
  have PL := Lib.hid pl
  have PS := Lib.hid (PS.out.below hb8)
  have PT := Lib.hid (PT.out.below hb8)
  have PO := Lib.hid (PO.out.below hb8)
  have PN := Lib.hid (PN.out.below hb8)
  have Ds := Lib.hid (cell_below ds hb8)
  have Dt := Lib.hid (cell_below dt hb8)
  have Do := Lib.hid (cell_below Do.out hb8)
  have Dn := Lib.hid (cell_below Dn.out hb8)
  have B := Lib.hid (below_on B.out hb8)
  clear pl hb8 LC ds dt
  obtain ⟨sl, cl, rfl, -⟩ := id PL.out
  go_upto_region 9 with (fail)
  obtain ⟨W9, hW, q9, hb9, -⟩ := boxC w8 #[.slice sl (lessL xs ys).length cl] 26
  rw [← hW]
  have Dl : Hid (W9.cell? ⟨w8.heap.size, 0, none⟩ = some (.slice sl (lessL xs ys).length cl)) := Lib.hid (row_cell q9 0)
  have PS := Lib.hid (PS.out.below hb9)
  have PT := Lib.hid (PT.out.below hb9)
  have PO := Lib.hid (PO.out.below hb9)
  have PN := Lib.hid (PN.out.below hb9)
  have PL := Lib.hid (PL.out.below hb9)
  have Ds := Lib.hid (cell_below Ds.out hb9)
  have Dt := Lib.hid (cell_below Dt.out hb9)
  have Do := Lib.hid (cell_below Do.out hb9)
  have Dn := Lib.hid (cell_below Dn.out hb9)
  have B := Lib.hid (below_on B.out hb9)
  clear hW q9 hb9
  obtain ⟨bl, hbl⟩ : ∃ bl, w8.heap.size = bl := ⟨_, rfl⟩
  rw [hbl] at Dl ⊢
  clear hbl
  have LNs := Lib.hid (fun W (hW : Below W9.heap.size W9 W) => ps_Len _ xs W (PS.out.below hW))
  have LNt := Lib.hid (fun W (hW : Below W9.heap.size W9 W) => ps_Len _ ys W (PT.out.below hW))
  have LNo := Lib.hid (fun W (hW : Below W9.heap.size W9 W) => ps_Len _ (orL xs ys) W (PO.out.below hW))
  have LNn := Lib.hid (fun W (hW : Below W9.heap.size W9 W) => ps_Len _ (andL xs ys) W (PN.out.below hW))
  have LNl := Lib.hid (fun W (hW : Below W9.heap.size W9 W) => ps_Len _ (lessL xs ys) W (PL.out.below hW))
  have FO := Lib.hid (mrg_mem (fun a b => a || b) xs ys)
  have FN := Lib.hid (mrg_mem (fun a b => a && b) xs ys)
  have FL := Lib.hid (mrg_mem (fun a b => a && !b) xs ys)
  have SO := Lib.hid (mrg_srt (fun a b => a || b) xs ys)
  have SN := Lib.hid (mrg_srt (fun a b => a && b) xs ys)
  have SL := Lib.hid (mrg_srt (fun a b => a && !b) xs ys)
  have OB := Lib.hid (or_both (ys := ys) SX.out)
  have OK2 := Lib.hid (or_back xs ys)
  have SM := Lib.hid (same_less SX.out SY.out)
  change Hid (Srt (orL xs ys)) at SO
  change Hid (Srt (andL xs ys)) at SN
  change Hid (Srt (lessL xs ys)) at SL
  change Hid (∀ p, p ∈ orL xs ys ↔ _) at FO
  change Hid (∀ p, p ∈ andL xs ys ↔ _) at FN
  change Hid (∀ p, p ∈ lessL xs ys ↔ _) at FL
  have wk1 : IntKind.i64.wrap ((xs.length : Int) + (ys.length : Int)) = (xs.length : Int) + (ys.length : Int) := IntWalk.i64_in _ (by omega)
  have wk2 : IntKind.i64.wrap ((xs.length : Int) + (ys.length : Int) - ((andL xs ys).length : Int)) = ((orL xs ys).length : Int) := by rw [IntWalk.i64_in _ (by omega)]; omega
  have wk3 : IntKind.i64.wrap ((xs.length : Int) - ((andL xs ys).length : Int)) = ((lessL xs ys).length : Int) := by rw [IntWalk.i64_in _ (by omega)]; omega
  have lo : (orL xs ys).length ≤ 120 := by omega
  have OL2 := Lib.hid OL
  have LL2 := Lib.hid LL
  clear OL LL
  have ds := Ds.out
  have dt := Dt.out
  have do_ := Do.out
  have dn := Dn.out
  have dl := Dl.out
  refine wp_region_held_drew (S := fun w' => Below W9.heap.size W9 w') (by kernel_rfl) ?_ (fun hHeld => ?_)
  · exact (Below.refl _ _).drew
  refine rg_yes (i := 0) (v := ?_) at0 (by kernel_rfl) (by kernel_rfl) (by kernel_rfl) (fun _ _ _ h => h) ?_ ?_ hHeld ?_; rotate_left 1; (· rfl); (· intro w' hSw; (try dsimp only at hSw); (try clear hHeld); go_simp; try with_reducible rfl)
  try simp only [Act.put, List.setIfInBounds_toArray, List.set_cons_zero, List.set_cons_succ]
  refine rg_yes (i := 1) (v := ?_) (atS at0) (by kernel_rfl) (by kernel_rfl) (by kernel_rfl) (fun _ _ _ h => h) ?_ ?_ hHeld ?_; rotate_left 1; (· rfl); (· intro w' hSw; (try dsimp only at hSw); (try clear hHeld); go_simp; try with_reducible rfl)
  try simp only [Act.put, List.setIfInBounds_toArray, List.set_cons_zero, List.set_cons_succ]
  refine rg_yes (i := 2) (v := ?_) (atS (atS at0)) (by kernel_rfl) (by kernel_rfl) (by kernel_rfl) (fun _ _ _ h => h) ?_ ?_ hHeld ?_; rotate_left 1; (· rfl); (· intro w' hSw; (try dsimp only at hSw); (try clear hHeld); go_simp; try with_reducible rfl)
  try simp only [Act.put, List.setIfInBounds_toArray, List.set_cons_zero, List.set_cons_succ]
  first | (refine rg_no (i := 3) (atS (atS (atS at0))) (by kernel_rfl) (by kernel_rfl) (by kernel_rfl) (fun _ _ _ h => h) ?_ hHeld ?_; (· rfl)) | (refine rg_yes (i := 3) (v := ?_) (atS (atS (atS at0))) (by kernel_rfl) (by kernel_rfl) (by kernel_rfl) (fun _ _ _ h => h) ?_ ?_ hHeld ?_; rotate_left 1; (· rfl); (· intro w' hSw; (try dsimp only at hSw); have ds := cell_below ds hSw; have dt := cell_below dt hSw; have do_ := cell_below do_ hSw; have dn := cell_below dn hSw; have dl := cell_below dl hSw; (try clear hHeld); go_simp; try with_reducible rfl))
  try simp only [Act.put, List.setIfInBounds_toArray, List.set_cons_zero, List.set_cons_succ]
  first | (refine rg_no (i := 5) (atS (atS (atS (atS (atS at0))))) (by kernel_rfl) (by kernel_rfl) (by kernel_rfl) (fun _ _ _ h => h) ?_ hHeld ?_; (· rfl)) | (refine rg_yes (i := 5) (v := ?_) (atS (atS (atS (atS (atS at0))))) (by kernel_rfl) (by kernel_rfl) (by kernel_rfl) (fun _ _ _ h => h) ?_ ?_ hHeld ?_; rotate_left 1; (· rfl); (· intro w' hSw; (try dsimp only at hSw); have ds := cell_below ds hSw; have dt := cell_below dt hSw; have do_ := cell_below do_ hSw; have dn := cell_below dn hSw; have dl := cell_below dl hSw; (try clear hHeld); go_simp; try with_reducible rfl))
  try simp only [Act.put, List.setIfInBounds_toArray, List.set_cons_zero, List.set_cons_succ]
  first | (refine rg_no (i := 7) (atS (atS (atS (atS (atS (atS (atS at0))))))) (by kernel_rfl) (by kernel_rfl) (by kernel_rfl) (fun _ _ _ h => h) ?_ hHeld ?_; (· rfl)) | (refine rg_yes (i := 7) (v := ?_) (atS (atS (atS (atS (atS (atS (atS at0))))))) (by kernel_rfl) (by kernel_rfl) (by kernel_rfl) (fun _ _ _ h => h) ?_ ?_ hHeld ?_; rotate_left 1; (· rfl); (· intro w' hSw; (try dsimp only at hSw); have ds := cell_below ds hSw; have dt := cell_below dt hSw; have do_ := cell_below do_ hSw; have dn := cell_below dn hSw; have dl := cell_below dl hSw; (try clear hHeld); go_simp; try with_reducible rfl))
  try simp only [Act.put, List.setIfInBounds_toArray, List.set_cons_zero, List.set_cons_succ]
  first | (refine rg_no (i := 10) (atS (atS (atS (atS (atS (atS (atS (atS (atS (atS at0)))))))))) (by kernel_rfl) (by kernel_rfl) (by kernel_rfl) (fun _ _ _ h => h) ?_ hHeld ?_; (· rfl)) | (refine rg_yes (i := 10) (v := ?_) (atS (atS (atS (atS (atS (atS (atS (atS (atS (atS at0)))))))))) (by kernel_rfl) (by kernel_rfl) (by kernel_rfl) (fun _ _ _ h => h) ?_ ?_ hHeld ?_; rotate_left 1; (· rfl); (· intro w' hSw; (try dsimp only at hSw); have ds := cell_below ds hSw; have dt := cell_below dt hSw; have do_ := cell_below do_ hSw; have dn := cell_below dn hSw; have dl := cell_below dl hSw; (try clear hHeld); go_simp; try with_reducible rfl))
  try simp only [Act.put, List.setIfInBounds_toArray, List.set_cons_zero, List.set_cons_succ]
  first | (refine rg_no (i := 4) (atS (atS (atS (atS at0)))) (by kernel_rfl) (by kernel_rfl) (by kernel_rfl) (fun _ _ _ h => h) ?_ hHeld ?_; (· rfl)) | (refine rg_call (i := 4) (atS (atS (atS (atS at0)))) (by kernel_rfl) ?_ (fun K hK => ?_); (· rfl); (try clear hb); go_simp; (refine (LNo.out _ hHeld).mono ?_; rintro e w1 ⟨rfl, hb⟩); go_wp2_with fail; refine hK.out _ _ ?_ (fun hHeld => ?_); (· exact hHeld.trans (hb.mono hHeld.size)); clear hK K)
  try simp only [Act.put, List.setIfInBounds_toArray, List.set_cons_zero, List.set_cons_succ]
  first | (refine rg_no (i := 6) (atS (atS (atS (atS (atS (atS at0)))))) (by kernel_rfl) (by kernel_rfl) (by kernel_rfl) (fun _ _ _ h => h) ?_ hHeld ?_; (· rfl)) | (refine rg_call (i := 6) (atS (atS (atS (atS (atS (atS at0)))))) (by kernel_rfl) ?_ (fun K hK => ?_); (· rfl); (try clear hb); go_simp; (refine (LNs.out _ hHeld).mono ?_; rintro e w1 ⟨rfl, hb⟩); go_wp2_with fail; refine hK.out _ _ ?_ (fun hHeld => ?_); (· exact hHeld.trans (hb.mono hHeld.size)); clear hK K)
  try simp only [Act.put, List.setIfInBounds_toArray, List.set_cons_zero, List.set_cons_succ]
  first | (refine rg_no (i := 8) (atS (atS (atS (atS (atS (atS (atS (atS at0)))))))) (by kernel_rfl) (by kernel_rfl) (by kernel_rfl) (fun _ _ _ h => h) ?_ hHeld ?_; (· rfl)) | (refine rg_call (i := 8) (atS (atS (atS (atS (atS (atS (atS (atS at0)))))))) (by kernel_rfl) ?_ (fun K hK => ?_); (· rfl); (try clear hb); go_simp; (refine (LNt.out _ hHeld).mono ?_; rintro e w1 ⟨rfl, hb⟩); go_wp2_with fail; refine hK.out _ _ ?_ (fun hHeld => ?_); (· exact hHeld.trans (hb.mono hHeld.size)); clear hK K)
  try simp only [Act.put, List.setIfInBounds_toArray, List.set_cons_zero, List.set_cons_succ]
  first | (refine rg_no (i := 9) (atS (atS (atS (atS (atS (atS (atS (atS (atS at0))))))))) (by kernel_rfl) (by kernel_rfl) (by kernel_rfl) (fun _ _ _ h => h) ?_ hHeld ?_; (· rfl)) | (refine rg_yes (i := 9) (v := ?_) (atS (atS (atS (atS (atS (atS (atS (atS (atS at0))))))))) (by kernel_rfl) (by kernel_rfl) (by kernel_rfl) (fun _ _ _ h => h) ?_ ?_ hHeld ?_; rotate_left 1; (· rfl); (· intro w' hSw; (try dsimp only at hSw); (try clear hHeld); go_simp; try with_reducible rfl))
  try simp only [Act.put, List.setIfInBounds_toArray, List.set_cons_zero, List.set_cons_succ]
  first | (refine rg_no (i := 11) (atS (atS (atS (atS (atS (atS (atS (atS (atS (atS (atS at0))))))))))) (by kernel_rfl) (by kernel_rfl) (by kernel_rfl) (fun _ _ _ h => h) ?_ hHeld ?_; (· rfl)) | (refine rg_call (i := 11) (atS (atS (atS (atS (atS (atS (atS (atS (atS (atS (atS at0))))))))))) (by kernel_rfl) ?_ (fun K hK => ?_); (· rfl); (try clear hb); go_simp; (refine (LNn.out _ hHeld).mono ?_; rintro e w1 ⟨rfl, hb⟩); go_wp2_with fail; refine hK.out _ _ ?_ (fun hHeld => ?_); (· exact hHeld.trans (hb.mono hHeld.size)); clear hK K)
  try simp only [Act.put, List.setIfInBounds_toArray, List.set_cons_zero, List.set_cons_succ]
  first | (refine rg_no (i := 12) (atS (atS (atS (atS (atS (atS (atS (atS (atS (atS (atS (atS at0)))))))))))) (by kernel_rfl) (by kernel_rfl) (by kernel_rfl) (fun _ _ _ h => h) ?_ hHeld ?_; (· rfl)) | (refine rg_yes (i := 12) (v := ?_) (atS (atS (atS (atS (atS (atS (atS (atS (atS (atS (atS (atS at0)))))))))))) (by kernel_rfl) (by kernel_rfl) (by kernel_rfl) (fun _ _ _ h => h) ?_ ?_ hHeld ?_; rotate_left 1; (· rfl); (· intro w' hSw; (try dsimp only at hSw); (try clear hHeld); go_simp; try with_reducible rfl))
  try simp only [Act.put, List.setIfInBounds_toArray, List.set_cons_zero, List.set_cons_succ]
  first | (refine rg_no (i := 13) (atS (atS (atS (atS (atS (atS (atS (atS (atS (atS (atS (atS (atS at0))))))))))))) (by kernel_rfl) (by kernel_rfl) (by kernel_rfl) (fun _ _ _ h => h) ?_ hHeld ?_; (· rfl)) | (refine rg_yes (i := 13) (v := ?_) (atS (atS (atS (atS (atS (atS (atS (atS (atS (atS (atS (atS (atS at0))))))))))))) (by kernel_rfl) (by kernel_rfl) (by kernel_rfl) (fun _ _ _ h => h) ?_ ?_ hHeld ?_; rotate_left 1; (· rfl); (· intro w' hSw; (try dsimp only at hSw); (try clear hHeld); go_simp; try with_reducible rfl))
  try simp only [Act.put, List.setIfInBounds_toArray, List.set_cons_zero, List.set_cons_succ]
  refine rg_yes (i := 14) (v := ?_) (atS (atS (atS (atS (atS (atS (atS (atS (atS (atS (atS (atS (atS (atS at0)))))))))))))) (by kernel_rfl) (by kernel_rfl) (by kernel_rfl) (fun _ _ _ h => h) ?_ ?_ hHeld ?_; rotate_left 1; (· rfl); (· intro w' hSw; (try dsimp only at hSw); (try clear hHeld); go_simp; try with_reducible rfl)
  try simp only [Act.put, List.setIfInBounds_toArray, List.set_cons_zero, List.set_cons_succ]
  refine rg_yes (i := 15) (v := ?_) (atS (atS (atS (atS (atS (atS (atS (atS (atS (atS (atS (atS (atS (atS (atS at0))))))))))))))) (by kernel_rfl) (by kernel_rfl) (by kernel_rfl) (fun _ _ _ h => h) ?_ ?_ hHeld ?_; rotate_left 1; (· rfl); (· intro w' hSw; (try dsimp only at hSw); (try clear hHeld); go_simp; try with_reducible rfl)
  try simp only [Act.put, List.setIfInBounds_toArray, List.set_cons_zero, List.set_cons_succ]
  first | (refine rg_no (i := 16) (atS (atS (atS (atS (atS (atS (atS (atS (atS (atS (atS (atS (atS (atS (atS (atS at0)))))))))))))))) (by kernel_rfl) (by kernel_rfl) (by kernel_rfl) (fun _ _ _ h => h) ?_ hHeld ?_; (· rfl)) | (refine rg_yes (i := 16) (v := ?_) (atS (atS (atS (atS (atS (atS (atS (atS (atS (atS (atS (atS (atS (atS (atS (atS at0)))))))))))))))) (by kernel_rfl) (by kernel_rfl) (by kernel_rfl) (fun _ _ _ h => h) ?_ ?_ hHeld ?_; rotate_left 1; (· rfl); (· intro w' hSw; (try dsimp only at hSw); have ds := cell_below ds hSw; have dt := cell_below dt hSw; have do_ := cell_below do_ hSw; have dn := cell_below dn hSw; have dl := cell_below dl hSw; (try clear hHeld); go_simp; try with_reducible rfl))
  try simp only [Act.put, List.setIfInBounds_toArray, List.set_cons_zero, List.set_cons_succ]
  first | (refine rg_no (i := 18) (atS (atS (atS (atS (atS (atS (atS (atS (atS (atS (atS (atS (atS (atS (atS (atS (atS (atS at0)))))))))))))))))) (by kernel_rfl) (by kernel_rfl) (by kernel_rfl) (fun _ _ _ h => h) ?_ hHeld ?_; (· rfl)) | (refine rg_yes (i := 18) (v := ?_) (atS (atS (atS (atS (atS (atS (atS (atS (atS (atS (atS (atS (atS (atS (atS (atS (atS (atS at0)))))))))))))))))) (by kernel_rfl) (by kernel_rfl) (by kernel_rfl) (fun _ _ _ h => h) ?_ ?_ hHeld ?_; rotate_left 1; (· rfl); (· intro w' hSw; (try dsimp only at hSw); have ds := cell_below ds hSw; have dt := cell_below dt hSw; have do_ := cell_below do_ hSw; have dn := cell_below dn hSw; have dl := cell_below dl hSw; (try clear hHeld); go_simp; try with_reducible rfl))
  try simp only [Act.put, List.setIfInBounds_toArray, List.set_cons_zero, List.set_cons_succ]
  first | (refine rg_no (i := 20) (atS (atS (atS (atS (atS (atS (atS (atS (atS (atS (atS (atS (atS (atS (atS (atS (atS (atS (atS (atS at0)))))))))))))))))))) (by kernel_rfl) (by kernel_rfl) (by kernel_rfl) (fun _ _ _ h => h) ?_ hHeld ?_; (· rfl)) | (refine rg_yes (i := 20) (v := ?_) (atS (atS (atS (atS (atS (atS (atS (atS (atS (atS (atS (atS (atS (atS (atS (atS (atS (atS (atS (atS at0)))))))))))))))))))) (by kernel_rfl) (by kernel_rfl) (by kernel_rfl) (fun _ _ _ h => h) ?_ ?_ hHeld ?_; rotate_left 1; (· rfl); (· intro w' hSw; (try dsimp only at hSw); have ds := cell_below ds hSw; have dt := cell_below dt hSw; have do_ := cell_below do_ hSw; have dn := cell_below dn hSw; have dl := cell_below dl hSw; (try clear hHeld); go_simp; try with_reducible rfl))
  try simp only [Act.put, List.setIfInBounds_toArray, List.set_cons_zero, List.set_cons_succ]
  first | (refine rg_no (i := 17) (atS (atS (atS (atS (atS (atS (atS (atS (atS (atS (atS (atS (atS (atS (atS (atS (atS at0))))))))))))))))) (by kernel_rfl) (by kernel_rfl) (by kernel_rfl) (fun _ _ _ h => h) ?_ hHeld ?_; (· rfl)) | (refine rg_call (i := 17) (atS (atS (atS (atS (atS (atS (atS (atS (atS (atS (atS (atS (atS (atS (atS (atS (atS at0))))))))))))))))) (by kernel_rfl) ?_ (fun K hK => ?_); (· rfl); (try clear hb); go_simp; (refine (LNl.out _ hHeld).mono ?_; rintro e w1 ⟨rfl, hb⟩); go_wp2_with fail; refine hK.out _ _ ?_ (fun hHeld => ?_); (· exact hHeld.trans (hb.mono hHeld.size)); clear hK K)
  try simp only [Act.put, List.setIfInBounds_toArray, List.set_cons_zero, List.set_cons_succ]
  first | (refine rg_no (i := 19) (atS (atS (atS (atS (atS (atS (atS (atS (atS (atS (atS (atS (atS (atS (atS (atS (atS (atS (atS at0))))))))))))))))))) (by kernel_rfl) (by kernel_rfl) (by kernel_rfl) (fun _ _ _ h => h) ?_ hHeld ?_; (· rfl)) | (refine rg_call (i := 19) (atS (atS (atS (atS (atS (atS (atS (atS (atS (atS (atS (atS (atS (atS (atS (atS (atS (atS (atS at0))))))))))))))))))) (by kernel_rfl) ?_ (fun K hK => ?_); (· rfl); (try clear hb); go_simp; (refine (LNs.out _ hHeld).mono ?_; rintro e w1 ⟨rfl, hb⟩); go_wp2_with fail; refine hK.out _ _ ?_ (fun hHeld => ?_); (· exact hHeld.trans (hb.mono hHeld.size)); clear hK K)
  try simp only [Act.put, List.setIfInBounds_toArray, List.set_cons_zero, List.set_cons_succ]
  first | (refine rg_no (i := 21) (atS (atS (atS (atS (atS (atS (atS (atS (atS (atS (atS (atS (atS (atS (atS (atS (atS (atS (atS (atS (atS at0))))))))))))))))))))) (by kernel_rfl) (by kernel_rfl) (by kernel_rfl) (fun _ _ _ h => h) ?_ hHeld ?_; (· rfl)) | (refine rg_call (i := 21) (atS (atS (atS (atS (atS (atS (atS (atS (atS (atS (atS (atS (atS (atS (atS (atS (atS (atS (atS (atS (atS at0))))))))))))))))))))) (by kernel_rfl) ?_ (fun K hK => ?_); (· rfl); (try clear hb); go_simp; (refine (LNn.out _ hHeld).mono ?_; rintro e w1 ⟨rfl, hb⟩); go_wp2_with fail; refine hK.out _ _ ?_ (fun hHeld => ?_); (· exact hHeld.trans (hb.mono hHeld.size)); clear hK K)
  try simp only [Act.put, List.setIfInBounds_toArray, List.set_cons_zero, List.set_cons_succ]
  first | (refine rg_no (i := 22) (atS (atS (atS (atS (atS (atS (atS (atS (atS (atS (atS (atS (atS (atS (atS (atS (atS (atS (atS (atS (atS (atS at0)))))))))))))))))))))) (by kernel_rfl) (by kernel_rfl) (by kernel_rfl) (fun _ _ _ h => h) ?_ hHeld ?_; (· rfl)) | (refine rg_yes (i := 22) (v := ?_) (atS (atS (atS (atS (atS (atS (atS (atS (atS (atS (atS (atS (atS (atS (atS (atS (atS (atS (atS (atS (atS (atS at0)))))))))))))))))))))) (by kernel_rfl) (by kernel_rfl) (by kernel_rfl) (fun _ _ _ h => h) ?_ ?_ hHeld ?_; rotate_left 1; (· rfl); (· intro w' hSw; (try dsimp only at hSw); (try clear hHeld); go_simp; try with_reducible rfl))
  try simp only [Act.put, List.setIfInBounds_toArray, List.set_cons_zero, List.set_cons_succ]
  first | (refine rg_no (i := 23) (atS (atS (atS (atS (atS (atS (atS (atS (atS (atS (atS (atS (atS (atS (atS (atS (atS (atS (atS (atS (atS (atS (atS at0))))))))))))))))))))))) (by kernel_rfl) (by kernel_rfl) (by kernel_rfl) (fun _ _ _ h => h) ?_ hHeld ?_; (· rfl)) | (refine rg_yes (i := 23) (v := ?_) (atS (atS (atS (atS (atS (atS (atS (atS (atS (atS (atS (atS (atS (atS (atS (atS (atS (atS (atS (atS (atS (atS (atS at0))))))))))))))))))))))) (by kernel_rfl) (by kernel_rfl) (by kernel_rfl) (fun _ _ _ h => h) ?_ ?_ hHeld ?_; rotate_left 1; (· rfl); (· intro w' hSw; (try dsimp only at hSw); (try clear hHeld); go_simp; try with_reducible rfl))
  try simp only [Act.put, List.setIfInBounds_toArray, List.set_cons_zero, List.set_cons_succ]
  refine rg_yes (i := 24) (v := ?_) (atS (atS (atS (atS (atS (atS (atS (atS (atS (atS (atS (atS (atS (atS (atS (atS (atS (atS (atS (atS (atS (atS (atS (atS at0)))))))))))))))))))))))) (by kernel_rfl) (by kernel_rfl) (by kernel_rfl) (fun _ _ _ h => h) ?_ ?_ hHeld ?_; rotate_left 1; (· rfl); (· intro w' hSw; (try dsimp only at hSw); (try clear hHeld); go_simp; try with_reducible rfl)
  try simp only [Act.put, List.setIfInBounds_toArray, List.set_cons_zero, List.set_cons_succ]
  refine wpAnyH_done (by kernel_rfl) ?_ _
  have B := Lib.hid (below_on B.out hHeld)
  have HH := Lib.hid hHeld
  have do_ := cell_below do_ hHeld
  have LS := Lib.hid (fun W hW => ps_List _ (orL xs ys) W (PO.out.below (below_on HH.out hW)) (by omega))
  clear hHeld hb wk1 wk2 wk3 ds dt dn dl
  go_wp2_with fail
  refine (LS.out _ (Below.refl _ _)).mono ?_
  rintro e v10 ⟨v1, rfl, p1, hb10⟩
  have P1 := Lib.hid p1
  have B := Lib.hid (below_on B.out hb10)
  have HH := Lib.hid (below_on HH.out hb10)
  clear p1 hb10 do_ LS
  obtain ⟨s1, c1, rfl, hl1, hc1, hV⟩ := id P1.out
  have HV := Lib.hid hV
  clear hV hl1 hc1
  obtain ⟨wf, hwf⟩ : ∃ wf : World, wf = v10 := ⟨_, rfl⟩
  rw [← hwf] at HV B HH P1 ⊢
  clear hwf
  have PS := Lib.hid (PS.out.below HH.out)
  have PT := Lib.hid (PT.out.below HH.out)
  have PO := Lib.hid (PO.out.below HH.out)
  have PN := Lib.hid (PN.out.below HH.out)
  have PL := Lib.hid (PL.out.below HH.out)
  have Ds := Lib.hid (cell_below Ds.out HH.out)
  have Dt := Lib.hid (cell_below Dt.out HH.out)
  have Do := Lib.hid (cell_below Do.out HH.out)
  have Dn := Lib.hid (cell_below Dn.out HH.out)
  have Dl := Lib.hid (cell_below Dl.out HH.out)
  clear HH
  go_wp2_with fail
  go_loopw [75] (fun i9 wr => ∃ k : Nat, k ≤ (orL xs ys).length ∧ i9 = .int .i64 k ∧ Hid (Below wf.heap.size wf wr)) (fun i9 _ => (orL xs ys).length - (intOf i9).toNat)
  case atStart => exact ⟨0, by omega, rfl, Lib.hid (Below.refl _ _)⟩
  case round =>
    obtain ⟨k, hk, rfl, BR⟩ := hrel
    by_cases hlt : k < (orL xs ys).length
    · obtain ⟨q, hq⟩ : ∃ q, (orL xs ys)[k]? = some q := ⟨_, List.getElem?_eq_getElem hlt⟩
      obtain ⟨b1, off1, hsa, hP⟩ := HV.out (by omega)
      subst hsa
      obtain ⟨x0, x1⟩ := ps_two hP hq
      have x0 := cell_below x0 BR.out
      have x1 := cell_below x1 BR.out
      have i0 : (0 : Int) ≤ (k : Int) := by omega
      have i1 : (k : Int) < ((orL xs ys).length : Int) := by omega
      have MO := (FO.out q).1 (List.mem_of_getElem? hq)
      have MN := FN.out q
      have ML := FL.out q
      have HSs := Lib.hid (fun W (hW : Below wf.heap.size wf W) => ps_Has _ xs q W (PS.out.below hW) SX.out)
      have HSt := Lib.hid (fun W (hW : Below wf.heap.size wf W) => ps_Has _ ys q W (PT.out.below hW) SY.out)
      have HSn := Lib.hid (fun W (hW : Below wf.heap.size wf W) => ps_Has _ (andL xs ys) q W (PN.out.below hW) SN.out)
      have HSl := Lib.hid (fun W (hW : Below wf.heap.size wf W) => ps_Has _ (lessL xs ys) q W (PL.out.below hW) SL.out)
      clear hq hP
      by_cases hx : q ∈ xs
      · by_cases hy : q ∈ ys
        · have fs : decide (q ∈ xs) = true := by simp [hx]
          have ft : decide (q ∈ ys) = true := by simp [hy]
          have fn : decide (q ∈ andL xs ys) = true := by simp [MN, hx, hy]
          have fl : decide (q ∈ lessL xs ys) = false := by simp [ML, hx, hy]
          rw [fs] at HSs
          rw [ft] at HSt
          rw [fn] at HSn
          rw [fl] at HSl
          clear fs ft fn fl hx hy MO MN ML
          go_upto_region 14 with (fail)
          obtain ⟨W5, hW, y0, y1, hb5⟩ := box2 wr (.int .u32 q.1) (.int .i64 q.2) 35
          rw [← hW]
          have B5 := Lib.hid (below_on BR.out hb5)
          have ds := cell_below Ds.out B5.out
          clear hW hb5 x0 x1
          go_wp2_with fail
          refine (HSs.out _ B5.out).mono ?_
          rintro e v6 ⟨rfl, hb6⟩
          have B5 := Lib.hid (below_on B5.out hb6)
          have y0 := cell_below y0 hb6
          have y1 := cell_below y1 hb6
          have dt := cell_below Dt.out B5.out
          clear hb6 ds
          go_wp2_with fail
          refine (HSt.out _ B5.out).mono ?_
          rintro e v7 ⟨rfl, hb7⟩
          have B5 := Lib.hid (below_on B5.out hb7)
          have y0 := cell_below y0 hb7
          have y1 := cell_below y1 hb7
          have dn := cell_below Dn.out B5.out
          clear hb7 dt
          go_wp2_with fail
          refine (HSn.out _ B5.out).mono ?_
          rintro e v8 ⟨rfl, hb8⟩
          have B5 := Lib.hid (below_on B5.out hb8)
          have y0 := cell_below y0 hb8
          have y1 := cell_below y1 hb8
          have dl := cell_below Dl.out B5.out
          clear hb8 dn
          go_wp2_with fail
          refine (HSl.out _ B5.out).mono ?_
          rintro e v9 ⟨rfl, hb9⟩
          have B5 := Lib.hid (below_on B5.out hb9)
          clear hb9 dl y0 y1
          go_wp2_with fail
          exact ⟨⟨k + 1, by omega, by go_num, B5⟩, by simp [intOf]; omega⟩
        · have fs : decide (q ∈ xs) = true := by simp [hx]
          have ft : decide (q ∈ ys) = false := by simp [hy]
          have fn : decide (q ∈ andL xs ys) = false := by simp [MN, hx, hy]
          have fl : decide (q ∈ lessL xs ys) = true := by simp [ML, hx, hy]
          rw [fs] at HSs
          rw [ft] at HSt
          rw [fn] at HSn
          rw [fl] at HSl
          clear fs ft fn fl hx hy MO MN ML
          go_upto_region 14 with (fail)
          obtain ⟨W5, hW, y0, y1, hb5⟩ := box2 wr (.int .u32 q.1) (.int .i64 q.2) 35
          rw [← hW]
          have B5 := Lib.hid (below_on BR.out hb5)
          have ds := cell_below Ds.out B5.out
          clear hW hb5 x0 x1
          go_wp2_with fail
          refine (HSs.out _ B5.out).mono ?_
          rintro e v6 ⟨rfl, hb6⟩
          have B5 := Lib.hid (below_on B5.out hb6)
          have y0 := cell_below y0 hb6
          have y1 := cell_below y1 hb6
          have dt := cell_below Dt.out B5.out
          clear hb6 ds
          go_wp2_with fail
          refine (HSt.out _ B5.out).mono ?_
          rintro e v7 ⟨rfl, hb7⟩
          have B5 := Lib.hid (below_on B5.out hb7)
          have y0 := cell_below y0 hb7
          have y1 := cell_below y1 hb7
          have dn := cell_below Dn.out B5.out
          clear hb7 dt
          go_wp2_with fail
          refine (HSn.out _ B5.out).mono ?_
          rintro e v8 ⟨rfl, hb8⟩
          have B5 := Lib.hid (below_on B5.out hb8)
          have y0 := cell_below y0 hb8
          have y1 := cell_below y1 hb8
          have dl := cell_below Dl.out B5.out
          clear hb8 dn
          go_wp2_with fail
          refine (HSl.out _ B5.out).mono ?_
          rintro e v9 ⟨rfl, hb9⟩
          have B5 := Lib.hid (below_on B5.out hb9)
          clear hb9 dl y0 y1
          go_wp2_with fail
          exact ⟨⟨k + 1, by omega, by go_num, B5⟩, by simp [intOf]; omega⟩
      · by_cases hy : q ∈ ys
        · have fs : decide (q ∈ xs) = false := by simp [hx]
          have ft : decide (q ∈ ys) = true := by simp [hy]
          have fn : decide (q ∈ andL xs ys) = false := by simp [MN, hx, hy]
          have fl : decide (q ∈ lessL xs ys) = false := by simp [ML, hx, hy]
          rw [fs] at HSs
          rw [ft] at HSt
          rw [fn] at HSn
          rw [fl] at HSl
          clear fs ft fn fl hx hy MO MN ML
          go_upto_region 14 with (fail)
          obtain ⟨W5, hW, y0, y1, hb5⟩ := box2 wr (.int .u32 q.1) (.int .i64 q.2) 35
          rw [← hW]
          have B5 := Lib.hid (below_on BR.out hb5)
          have ds := cell_below Ds.out B5.out
          clear hW hb5 x0 x1
          go_wp2_with fail
          refine (HSs.out _ B5.out).mono ?_
          rintro e v6 ⟨rfl, hb6⟩
          have B5 := Lib.hid (below_on B5.out hb6)
          have y0 := cell_below y0 hb6
          have y1 := cell_below y1 hb6
          have dt := cell_below Dt.out B5.out
          clear hb6 ds
          go_wp2_with fail
          refine (HSt.out _ B5.out).mono ?_
          rintro e v7 ⟨rfl, hb7⟩
          have B5 := Lib.hid (below_on B5.out hb7)
          have y0 := cell_below y0 hb7
          have y1 := cell_below y1 hb7
          have dn := cell_below Dn.out B5.out
          clear hb7 dt
          go_wp2_with fail
          refine (HSn.out _ B5.out).mono ?_
          rintro e v8 ⟨rfl, hb8⟩
          have B5 := Lib.hid (below_on B5.out hb8)
          have y0 := cell_below y0 hb8
          have y1 := cell_below y1 hb8
          have dl := cell_below Dl.out B5.out
          clear hb8 dn
          go_wp2_with fail
          refine (HSl.out _ B5.out).mono ?_
          rintro e v9 ⟨rfl, hb9⟩
          have B5 := Lib.hid (below_on B5.out hb9)
          clear hb9 dl y0 y1
          go_wp2_with fail
          exact ⟨⟨k + 1, by omega, by go_num, B5⟩, by simp [intOf]; omega⟩
        · exact absurd MO.1 (by rintro (h | h); exact hx h; exact hy h)
    · obtain rfl : k = (orL xs ys).length := by omega
      have PS := Lib.hid (PS.out.below BR.out)
      have PT := Lib.hid (PT.out.below BR.out)
      have PO := Lib.hid (PO.out.below BR.out)
      have PN := Lib.hid (PN.out.below BR.out)
      have PL := Lib.hid (PL.out.below BR.out)
      have Ds := Lib.hid (cell_below Ds.out BR.out)
      have Dt := Lib.hid (cell_below Dt.out BR.out)
      have Do := Lib.hid (cell_below Do.out BR.out)
      have dn := cell_below Dn.out BR.out
      have dl := cell_below Dl.out BR.out
      have B := Lib.hid (below_on B.out BR.out)
      have OC := Lib.hid (ps_Or _ _ (lessL xs ys) (andL xs ys) wr PL.out PN.out SL.out SN.out (by have := LL2.out; omega))
      clear HV P1 BR Dn
      go_wp2_with fail
      refine OC.out.mono ?_
      rintro e v12 ⟨vb2, rfl, pb, hb12⟩
      rw [OE3.out.1]
      rw [OE3.out.2, OB.out] at pb
      have PB := Lib.hid pb
      have PS := Lib.hid (PS.out.below hb12)
      have PT := Lib.hid (PT.out.below hb12)
      have PO := Lib.hid (PO.out.below hb12)
      have PL := Lib.hid (PL.out.below hb12)
      have Ds := Lib.hid (cell_below Ds.out hb12)
      have Dt := Lib.hid (cell_below Dt.out hb12)
      have Do := Lib.hid (cell_below Do.out hb12)
      have Dl := Lib.hid (cell_below dl hb12)
      have B := Lib.hid (below_on B.out hb12)
      clear pb hb12 OC dn dl PN
      obtain ⟨sb2, cb2, rfl, -⟩ := id PB.out
      go_upto_region 20 with (fail)
      obtain ⟨W13, hW, q13, hb13, -⟩ := boxC v12 #[.slice sb2 xs.length cb2] 26
      rw [← hW]
      have Db : Hid (W13.cell? ⟨v12.heap.size, 0, none⟩ = some (.slice sb2 xs.length cb2)) := Lib.hid (row_cell q13 0)
      have PB := Lib.hid (PB.out.below hb13)
      have PS := Lib.hid (PS.out.below hb13)
      have PT := Lib.hid (PT.out.below hb13)
      have PO := Lib.hid (PO.out.below hb13)
      have PL := Lib.hid (PL.out.below hb13)
      have ds := cell_below Ds.out hb13
      have dt := cell_below Dt.out hb13
      have Do := Lib.hid (cell_below Do.out hb13)
      have Dl := Lib.hid (cell_below Dl.out hb13)
      have B := Lib.hid (below_on B.out hb13)
      have OC := Lib.hid (ps_Or _ _ ys xs W13 PT.out PS.out SY.out SX.out (by omega))
      clear hW q13 hb13
      obtain ⟨bb, hbb⟩ : ∃ bb, v12.heap.size = bb := ⟨_, rfl⟩
      rw [hbb] at Db ⊢
      clear hbb
      go_wp2_with fail
      refine OC.out.mono ?_
      rintro e v14 ⟨vk, rfl, pk, hb14⟩
      rw [OE2.out.1]
      rw [OE2.out.2, OK2.out] at pk
      have PK := Lib.hid pk
      have PB := Lib.hid (PB.out.below hb14)
      have PS := Lib.hid (PS.out.below hb14)
      have PT := Lib.hid (PT.out.below hb14)
      have PO := Lib.hid (PO.out.below hb14)
      have PL := Lib.hid (PL.out.below hb14)
      have Ds := Lib.hid (cell_below ds hb14)
      have Dt := Lib.hid (cell_below dt hb14)
      have Do := Lib.hid (cell_below Do.out hb14)
      have Dl := Lib.hid (cell_below Dl.out hb14)
      have Db := Lib.hid (cell_below Db.out hb14)
      have B := Lib.hid (below_on B.out hb14)
      clear pk hb14 OC ds dt
      obtain ⟨sk, ck, rfl, -⟩ := id PK.out
      go_upto_region 21 with (fail)
      obtain ⟨W15, hW, q15, hb15, -⟩ := boxC v14 #[.slice sk (orL xs ys).length ck] 26
      rw [← hW]
      have dk : W15.cell? ⟨v14.heap.size, 0, none⟩ = some (.slice sk (orL xs ys).length ck) := row_cell q15 0
      have PK := Lib.hid (PK.out.below hb15)
      have PB := Lib.hid (PB.out.below hb15)
      have PS := Lib.hid (PS.out.below hb15)
      have PT := Lib.hid (PT.out.below hb15)
      have PO := Lib.hid (PO.out.below hb15)
      have PL := Lib.hid (PL.out.below hb15)
      have ds := cell_below Ds.out hb15
      have dt := cell_below Dt.out hb15
      have do_ := cell_below Do.out hb15
      have dl := cell_below Dl.out hb15
      have db := cell_below Db.out hb15
      have B := Lib.hid (below_on B.out hb15)
      clear hW q15 hb15 Ds Dt Do Dl Db
      have SA1 := Lib.hid (fun W (hW : Below W15.heap.size W15 W) => ps_Same _ _ xs xs W (PB.out.below hW) (PS.out.below hW))
      have SA2 := Lib.hid (fun W (hW : Below W15.heap.size W15 W) => ps_Same _ _ (orL xs ys) (orL xs ys) W (PK.out.below hW) (PO.out.below hW))
      have SA3 := Lib.hid (fun W (hW : Below W15.heap.size W15 W) => ps_Same _ _ xs ys W (PS.out.below hW) (PT.out.below hW))
      have LN1 := Lib.hid (fun W (hW : Below W15.heap.size W15 W) => ps_Len _ (lessL xs ys) W (PL.out.below hW))
      have LSC := Lib.hid (fun W (hW : Below W15.heap.size W15 W) => ps_Less _ _ ys xs W (PT.out.below hW) (PS.out.below hW) SY.out SX.out (by omega))
      rw [show decide (xs = xs) = true by simp] at SA1
      rw [show decide (orL xs ys = orL xs ys) = true by simp] at SA2
      rw [SM.out] at SA3
      by_cases h1 : (lessL xs ys).length = 0
      · have l1 : (((lessL xs ys).length : Int) == 0) = true := by simp [h1]
        rw [show decide ((lessL xs ys).length = 0) = true by simp [h1], Bool.true_and] at SA3
        clear h1
        by_cases h2 : (lessL ys xs).length = 0
        · have l2 : (((lessL ys xs).length : Int) == 0) = true := by simp [h2]
          rw [show decide ((lessL ys xs).length = 0) = true by simp [h2]] at SA3
          clear h2
          refine wp_region_held_drew (S := fun w' => Below W15.heap.size W15 w') (by kernel_rfl) ?_ (fun hHeld => ?_)
          · exact (Below.refl _ _).drew
          refine rg_yes (i := 0) (v := ?_) at0 (by kernel_rfl) (by kernel_rfl) (by kernel_rfl) (fun _ _ _ h => h) ?_ ?_ hHeld ?_; rotate_left 1; (· rfl); (· intro w' hSw; (try dsimp only at hSw); (try clear hHeld); go_simp; try with_reducible rfl)
          try simp only [Act.put, List.setIfInBounds_toArray, List.set_cons_zero, List.set_cons_succ]
          refine rg_yes (i := 1) (v := ?_) (atS at0) (by kernel_rfl) (by kernel_rfl) (by kernel_rfl) (fun _ _ _ h => h) ?_ ?_ hHeld ?_; rotate_left 1; (· rfl); (· intro w' hSw; (try dsimp only at hSw); (try clear hHeld); go_simp; try with_reducible rfl)
          try simp only [Act.put, List.setIfInBounds_toArray, List.set_cons_zero, List.set_cons_succ]
          refine rg_yes (i := 2) (v := ?_) (atS (atS at0)) (by kernel_rfl) (by kernel_rfl) (by kernel_rfl) (fun _ _ _ h => h) ?_ ?_ hHeld ?_; rotate_left 1; (· rfl); (· intro w' hSw; (try dsimp only at hSw); (try clear hHeld); go_simp; try with_reducible rfl)
          try simp only [Act.put, List.setIfInBounds_toArray, List.set_cons_zero, List.set_cons_succ]
          first | (refine rg_no (i := 3) (atS (atS (atS at0))) (by kernel_rfl) (by kernel_rfl) (by kernel_rfl) (fun _ _ _ h => h) ?_ hHeld ?_; (· rfl)) | (refine rg_yes (i := 3) (v := ?_) (atS (atS (atS at0))) (by kernel_rfl) (by kernel_rfl) (by kernel_rfl) (fun _ _ _ h => h) ?_ ?_ hHeld ?_; rotate_left 1; (· rfl); (· intro w' hSw; (try dsimp only at hSw); have ds := cell_below ds hSw; have dt := cell_below dt hSw; have do_ := cell_below do_ hSw; have dl := cell_below dl hSw; have db := cell_below db hSw; have dk := cell_below dk hSw; (try clear hHeld); go_simp; try with_reducible rfl))
          try simp only [Act.put, List.setIfInBounds_toArray, List.set_cons_zero, List.set_cons_succ]
          first | (refine rg_no (i := 4) (atS (atS (atS (atS at0)))) (by kernel_rfl) (by kernel_rfl) (by kernel_rfl) (fun _ _ _ h => h) ?_ hHeld ?_; (· rfl)) | (refine rg_yes (i := 4) (v := ?_) (atS (atS (atS (atS at0)))) (by kernel_rfl) (by kernel_rfl) (by kernel_rfl) (fun _ _ _ h => h) ?_ ?_ hHeld ?_; rotate_left 1; (· rfl); (· intro w' hSw; (try dsimp only at hSw); have ds := cell_below ds hSw; have dt := cell_below dt hSw; have do_ := cell_below do_ hSw; have dl := cell_below dl hSw; have db := cell_below db hSw; have dk := cell_below dk hSw; (try clear hHeld); go_simp; try with_reducible rfl))
          try simp only [Act.put, List.setIfInBounds_toArray, List.set_cons_zero, List.set_cons_succ]
          first | (refine rg_no (i := 5) (atS (atS (atS (atS (atS at0))))) (by kernel_rfl) (by kernel_rfl) (by kernel_rfl) (fun _ _ _ h => h) ?_ hHeld ?_; (· rfl)) | (refine rg_call (i := 5) (atS (atS (atS (atS (atS at0))))) (by kernel_rfl) ?_ (fun K hK => ?_); (· rfl); (try clear hb); go_simp; (refine (SA1.out _ hHeld).mono ?_; rintro e w1 ⟨rfl, hb⟩); go_wp2_with fail; refine hK.out _ _ ?_ (fun hHeld => ?_); (· exact hHeld.trans (hb.mono hHeld.size)); clear hK K)
          try simp only [Act.put, List.setIfInBounds_toArray, List.set_cons_zero, List.set_cons_succ]
          refine rg_yes (i := 6) (v := ?_) (atS (atS (atS (atS (atS (atS at0)))))) (by kernel_rfl) (by kernel_rfl) (by kernel_rfl) (fun _ _ _ h => h) ?_ ?_ hHeld ?_; rotate_left 1; (· rfl); (· intro w' hSw; (try dsimp only at hSw); (try clear hHeld); go_simp; try with_reducible rfl)
          try simp only [Act.put, List.setIfInBounds_toArray, List.set_cons_zero, List.set_cons_succ]
          refine rg_yes (i := 7) (v := ?_) (atS (atS (atS (atS (atS (atS (atS at0))))))) (by kernel_rfl) (by kernel_rfl) (by kernel_rfl) (fun _ _ _ h => h) ?_ ?_ hHeld ?_; rotate_left 1; (· rfl); (· intro w' hSw; (try dsimp only at hSw); (try clear hHeld); go_simp; try with_reducible rfl)
          try simp only [Act.put, List.setIfInBounds_toArray, List.set_cons_zero, List.set_cons_succ]
          first | (refine rg_no (i := 8) (atS (atS (atS (atS (atS (atS (atS (atS at0)))))))) (by kernel_rfl) (by kernel_rfl) (by kernel_rfl) (fun _ _ _ h => h) ?_ hHeld ?_; (· rfl)) | (refine rg_yes (i := 8) (v := ?_) (atS (atS (atS (atS (atS (atS (atS (atS at0)))))))) (by kernel_rfl) (by kernel_rfl) (by kernel_rfl) (fun _ _ _ h => h) ?_ ?_ hHeld ?_; rotate_left 1; (· rfl); (· intro w' hSw; (try dsimp only at hSw); have ds := cell_below ds hSw; have dt := cell_below dt hSw; have do_ := cell_below do_ hSw; have dl := cell_below dl hSw; have db := cell_below db hSw; have dk := cell_below dk hSw; (try clear hHeld); go_simp; try with_reducible rfl))
          try simp only [Act.put, List.setIfInBounds_toArray, List.set_cons_zero, List.set_cons_succ]
          first | (refine rg_no (i := 9) (atS (atS (atS (atS (atS (atS (atS (atS (atS at0))))))))) (by kernel_rfl) (by kernel_rfl) (by kernel_rfl) (fun _ _ _ h => h) ?_ hHeld ?_; (· rfl)) | (refine rg_yes (i := 9) (v := ?_) (atS (atS (atS (atS (atS (atS (atS (atS (atS at0))))))))) (by kernel_rfl) (by kernel_rfl) (by kernel_rfl) (fun _ _ _ h => h) ?_ ?_ hHeld ?_; rotate_left 1; (· rfl); (· intro w' hSw; (try dsimp only at hSw); have ds := cell_below ds hSw; have dt := cell_below dt hSw; have do_ := cell_below do_ hSw; have dl := cell_below dl hSw; have db := cell_below db hSw; have dk := cell_below dk hSw; (try clear hHeld); go_simp; try with_reducible rfl))
          try simp only [Act.put, List.setIfInBounds_toArray, List.set_cons_zero, List.set_cons_succ]
          first | (refine rg_no (i := 10) (atS (atS (atS (atS (atS (atS (atS (atS (atS (atS at0)))))))))) (by kernel_rfl) (by kernel_rfl) (by kernel_rfl) (fun _ _ _ h => h) ?_ hHeld ?_; (· rfl)) | (refine rg_call (i := 10) (atS (atS (atS (atS (atS (atS (atS (atS (atS (atS at0)))))))))) (by kernel_rfl) ?_ (fun K hK => ?_); (· rfl); (try clear hb); go_simp; (refine (SA2.out _ hHeld).mono ?_; rintro e w1 ⟨rfl, hb⟩); go_wp2_with fail; refine hK.out _ _ ?_ (fun hHeld => ?_); (· exact hHeld.trans (hb.mono hHeld.size)); clear hK K)
          try simp only [Act.put, List.setIfInBounds_toArray, List.set_cons_zero, List.set_cons_succ]
          refine rg_yes (i := 11) (v := ?_) (atS (atS (atS (atS (atS (atS (atS (atS (atS (atS (atS at0))))))))))) (by kernel_rfl) (by kernel_rfl) (by kernel_rfl) (fun _ _ _ h => h) ?_ ?_ hHeld ?_; rotate_left 1; (· rfl); (· intro w' hSw; (try dsimp only at hSw); (try clear hHeld); go_simp; try with_reducible rfl)
          try simp only [Act.put, List.setIfInBounds_toArray, List.set_cons_zero, List.set_cons_succ]
          refine rg_yes (i := 12) (v := ?_) (atS (atS (atS (atS (atS (atS (atS (atS (atS (atS (atS (atS at0)))))))))))) (by kernel_rfl) (by kernel_rfl) (by kernel_rfl) (fun _ _ _ h => h) ?_ ?_ hHeld ?_; rotate_left 1; (· rfl); (· intro w' hSw; (try dsimp only at hSw); (try clear hHeld); go_simp; try with_reducible rfl)
          try simp only [Act.put, List.setIfInBounds_toArray, List.set_cons_zero, List.set_cons_succ]
          first | (refine rg_no (i := 13) (atS (atS (atS (atS (atS (atS (atS (atS (atS (atS (atS (atS (atS at0))))))))))))) (by kernel_rfl) (by kernel_rfl) (by kernel_rfl) (fun _ _ _ h => h) ?_ hHeld ?_; (· rfl)) | (refine rg_yes (i := 13) (v := ?_) (atS (atS (atS (atS (atS (atS (atS (atS (atS (atS (atS (atS (atS at0))))))))))))) (by kernel_rfl) (by kernel_rfl) (by kernel_rfl) (fun _ _ _ h => h) ?_ ?_ hHeld ?_; rotate_left 1; (· rfl); (· intro w' hSw; (try dsimp only at hSw); have ds := cell_below ds hSw; have dt := cell_below dt hSw; have do_ := cell_below do_ hSw; have dl := cell_below dl hSw; have db := cell_below db hSw; have dk := cell_below dk hSw; (try clear hHeld); go_simp; try with_reducible rfl))
          try simp only [Act.put, List.setIfInBounds_toArray, List.set_cons_zero, List.set_cons_succ]
          first | (refine rg_no (i := 14) (atS (atS (atS (atS (atS (atS (atS (atS (atS (atS (atS (atS (atS (atS at0)))))))))))))) (by kernel_rfl) (by kernel_rfl) (by kernel_rfl) (fun _ _ _ h => h) ?_ hHeld ?_; (· rfl)) | (refine rg_yes (i := 14) (v := ?_) (atS (atS (atS (atS (atS (atS (atS (atS (atS (atS (atS (atS (atS (atS at0)))))))))))))) (by kernel_rfl) (by kernel_rfl) (by kernel_rfl) (fun _ _ _ h => h) ?_ ?_ hHeld ?_; rotate_left 1; (· rfl); (· intro w' hSw; (try dsimp only at hSw); have ds := cell_below ds hSw; have dt := cell_below dt hSw; have do_ := cell_below do_ hSw; have dl := cell_below dl hSw; have db := cell_below db hSw; have dk := cell_below dk hSw; (try clear hHeld); go_simp; try with_reducible rfl))
          try simp only [Act.put, List.setIfInBounds_toArray, List.set_cons_zero, List.set_cons_succ]
          first | (refine rg_no (i := 16) (atS (atS (atS (atS (atS (atS (atS (atS (atS (atS (atS (atS (atS (atS (atS (atS at0)))))))))))))))) (by kernel_rfl) (by kernel_rfl) (by kernel_rfl) (fun _ _ _ h => h) ?_ hHeld ?_; (· rfl)) | (refine rg_yes (i := 16) (v := ?_) (atS (atS (atS (atS (atS (atS (atS (atS (atS (atS (atS (atS (atS (atS (atS (atS at0)))))))))))))))) (by kernel_rfl) (by kernel_rfl) (by kernel_rfl) (fun _ _ _ h => h) ?_ ?_ hHeld ?_; rotate_left 1; (· rfl); (· intro w' hSw; (try dsimp only at hSw); have ds := cell_below ds hSw; have dt := cell_below dt hSw; have do_ := cell_below do_ hSw; have dl := cell_below dl hSw; have db := cell_below db hSw; have dk := cell_below dk hSw; (try clear hHeld); go_simp; try with_reducible rfl))
          try simp only [Act.put, List.setIfInBounds_toArray, List.set_cons_zero, List.set_cons_succ]
          first | (refine rg_no (i := 15) (atS (atS (atS (atS (atS (atS (atS (atS (atS (atS (atS (atS (atS (atS (atS at0))))))))))))))) (by kernel_rfl) (by kernel_rfl) (by kernel_rfl) (fun _ _ _ h => h) ?_ hHeld ?_; (· rfl)) | (refine rg_call (i := 15) (atS (atS (atS (atS (atS (atS (atS (atS (atS (atS (atS (atS (atS (atS (atS at0))))))))))))))) (by kernel_rfl) ?_ (fun K hK => ?_); (· rfl); (try clear hb); go_simp; (refine (SA3.out _ hHeld).mono ?_; rintro e w1 ⟨rfl, hb⟩); go_wp2_with fail; refine hK.out _ _ ?_ (fun hHeld => ?_); (· exact hHeld.trans (hb.mono hHeld.size)); clear hK K)
          try simp only [Act.put, List.setIfInBounds_toArray, List.set_cons_zero, List.set_cons_succ]
          first | (refine rg_no (i := 17) (atS (atS (atS (atS (atS (atS (atS (atS (atS (atS (atS (atS (atS (atS (atS (atS (atS at0))))))))))))))))) (by kernel_rfl) (by kernel_rfl) (by kernel_rfl) (fun _ _ _ h => h) ?_ hHeld ?_; (· rfl)) | (refine rg_call (i := 17) (atS (atS (atS (atS (atS (atS (atS (atS (atS (atS (atS (atS (atS (atS (atS (atS (atS at0))))))))))))))))) (by kernel_rfl) ?_ (fun K hK => ?_); (· rfl); (try clear hb); go_simp; (refine (LN1.out _ hHeld).mono ?_; rintro e w1 ⟨rfl, hb⟩); go_wp2_with fail; refine hK.out _ _ ?_ (fun hHeld => ?_); (· exact hHeld.trans (hb.mono hHeld.size)); clear hK K)
          try simp only [Act.put, List.setIfInBounds_toArray, List.set_cons_zero, List.set_cons_succ]
          first | (refine rg_no (i := 18) (atS (atS (atS (atS (atS (atS (atS (atS (atS (atS (atS (atS (atS (atS (atS (atS (atS (atS at0)))))))))))))))))) (by kernel_rfl) (by kernel_rfl) (by kernel_rfl) (fun _ _ _ h => h) ?_ hHeld ?_; (· rfl)) | (refine rg_yes (i := 18) (v := ?_) (atS (atS (atS (atS (atS (atS (atS (atS (atS (atS (atS (atS (atS (atS (atS (atS (atS (atS at0)))))))))))))))))) (by kernel_rfl) (by kernel_rfl) (by kernel_rfl) (fun _ _ _ h => h) ?_ ?_ hHeld ?_; rotate_left 1; (· rfl); (· intro w' hSw; (try dsimp only at hSw); (try clear hHeld); go_simp; try with_reducible rfl))
          try simp only [Act.put, List.setIfInBounds_toArray, List.set_cons_zero, List.set_cons_succ]
          first | (refine rg_no (i := 19) (atS (atS (atS (atS (atS (atS (atS (atS (atS (atS (atS (atS (atS (atS (atS (atS (atS (atS (atS at0))))))))))))))))))) (by kernel_rfl) (by kernel_rfl) (by kernel_rfl) (fun _ _ _ h => h) ?_ hHeld ?_; (· rfl)) | (refine rg_yes (i := 19) (v := ?_) (atS (atS (atS (atS (atS (atS (atS (atS (atS (atS (atS (atS (atS (atS (atS (atS (atS (atS (atS at0))))))))))))))))))) (by kernel_rfl) (by kernel_rfl) (by kernel_rfl) (fun _ _ _ h => h) ?_ ?_ hHeld ?_; rotate_left 1; (· rfl); (· intro w' hSw; (try dsimp only at hSw); (try clear hHeld); go_simp; try with_reducible rfl))
          try simp only [Act.put, List.setIfInBounds_toArray, List.set_cons_zero, List.set_cons_succ]
          first | (refine rg_no (i := 20) (atS (atS (atS (atS (atS (atS (atS (atS (atS (atS (atS (atS (atS (atS (atS (atS (atS (atS (atS (atS at0)))))))))))))))))))) (by kernel_rfl) (by kernel_rfl) (by kernel_rfl) (fun _ _ _ h => h) ?_ hHeld ?_; (· rfl)) | (refine rg_yes (i := 20) (v := ?_) (atS (atS (atS (atS (atS (atS (atS (atS (atS (atS (atS (atS (atS (atS (atS (atS (atS (atS (atS (atS at0)))))))))))))))))))) (by kernel_rfl) (by kernel_rfl) (by kernel_rfl) (fun _ _ _ h => h) ?_ ?_ hHeld ?_; rotate_left 1; (· rfl); (· intro w' hSw; (try dsimp only at hSw); have ds := cell_below ds hSw; have dt := cell_below dt hSw; have do_ := cell_below do_ hSw; have dl := cell_below dl hSw; have db := cell_below db hSw; have dk := cell_below dk hSw; (try clear hHeld); go_simp; try with_reducible rfl))
          try simp only [Act.put, List.setIfInBounds_toArray, List.set_cons_zero, List.set_cons_succ]
          first | (refine rg_no (i := 21) (atS (atS (atS (atS (atS (atS (atS (atS (atS (atS (atS (atS (atS (atS (atS (atS (atS (atS (atS (atS (atS at0))))))))))))))))))))) (by kernel_rfl) (by kernel_rfl) (by kernel_rfl) (fun _ _ _ h => h) ?_ hHeld ?_; (· rfl)) | (refine rg_yes (i := 21) (v := ?_) (atS (atS (atS (atS (atS (atS (atS (atS (atS (atS (atS (atS (atS (atS (atS (atS (atS (atS (atS (atS (atS at0))))))))))))))))))))) (by kernel_rfl) (by kernel_rfl) (by kernel_rfl) (fun _ _ _ h => h) ?_ ?_ hHeld ?_; rotate_left 1; (· rfl); (· intro w' hSw; (try dsimp only at hSw); have ds := cell_below ds hSw; have dt := cell_below dt hSw; have do_ := cell_below do_ hSw; have dl := cell_below dl hSw; have db := cell_below db hSw; have dk := cell_below dk hSw; (try clear hHeld); go_simp; try with_reducible rfl))
          try simp only [Act.put, List.setIfInBounds_toArray, List.set_cons_zero, List.set_cons_succ]
          first | (refine rg_no (i := 22) (atS (atS (atS (atS (atS (atS (atS (atS (atS (atS (atS (atS (atS (atS (atS (atS (atS (atS (atS (atS (atS (atS at0)))))))))))))))))))))) (by kernel_rfl) (by kernel_rfl) (by kernel_rfl) (fun _ _ _ h => h) ?_ hHeld ?_; (· rfl)) | (refine rg_call (i := 22) (atS (atS (atS (atS (atS (atS (atS (atS (atS (atS (atS (atS (atS (atS (atS (atS (atS (atS (atS (atS (atS (atS at0)))))))))))))))))))))) (by kernel_rfl) ?_ (fun K hK => ?_); (· rfl); (try clear hb); go_simp; (refine (LSC.out _ hHeld).mono ?_; rintro e v16 ⟨vl2, rfl, pl2, hb⟩); have PL2 := Lib.hid pl2; obtain ⟨sl2, cl2, rfl, -⟩ := pl2; go_wp2_with fail; refine hK.out _ _ ?_ (fun hHeld => ?_); (· exact hHeld.trans (hb.mono hHeld.size)); clear hK K)
          try simp only [Act.put, List.setIfInBounds_toArray, List.set_cons_zero, List.set_cons_succ]
          first | (refine rg_no (i := 23) (atS (atS (atS (atS (atS (atS (atS (atS (atS (atS (atS (atS (atS (atS (atS (atS (atS (atS (atS (atS (atS (atS (atS at0))))))))))))))))))))))) (by kernel_rfl) (by kernel_rfl) (by kernel_rfl) (fun _ _ _ h => h) ?_ hHeld ?_; (· rfl)) | (refine rg_call (i := 23) (atS (atS (atS (atS (atS (atS (atS (atS (atS (atS (atS (atS (atS (atS (atS (atS (atS (atS (atS (atS (atS (atS (atS at0))))))))))))))))))))))) (by kernel_rfl) ?_ (fun K hK => ?_); (· rfl); (try clear hb); go_simp; (refine (ps_Len _ (lessL ys xs) _ PL2.out).mono ?_; rintro e w1 ⟨rfl, hb⟩); go_wp2_with fail; refine hK.out _ _ ?_ (fun hHeld => ?_); (· exact hHeld.trans (hb.mono hHeld.size)); clear hK K)
          try simp only [Act.put, List.setIfInBounds_toArray, List.set_cons_zero, List.set_cons_succ]
          first | (refine rg_no (i := 24) (atS (atS (atS (atS (atS (atS (atS (atS (atS (atS (atS (atS (atS (atS (atS (atS (atS (atS (atS (atS (atS (atS (atS (atS at0)))))))))))))))))))))))) (by kernel_rfl) (by kernel_rfl) (by kernel_rfl) (fun _ _ _ h => h) ?_ hHeld ?_; (· rfl)) | (refine rg_yes (i := 24) (v := ?_) (atS (atS (atS (atS (atS (atS (atS (atS (atS (atS (atS (atS (atS (atS (atS (atS (atS (atS (atS (atS (atS (atS (atS (atS at0)))))))))))))))))))))))) (by kernel_rfl) (by kernel_rfl) (by kernel_rfl) (fun _ _ _ h => h) ?_ ?_ hHeld ?_; rotate_left 1; (· rfl); (· intro w' hSw; (try dsimp only at hSw); (try clear hHeld); go_simp; try with_reducible rfl))
          try simp only [Act.put, List.setIfInBounds_toArray, List.set_cons_zero, List.set_cons_succ]
          first | (refine rg_no (i := 25) (atS (atS (atS (atS (atS (atS (atS (atS (atS (atS (atS (atS (atS (atS (atS (atS (atS (atS (atS (atS (atS (atS (atS (atS (atS at0))))))))))))))))))))))))) (by kernel_rfl) (by kernel_rfl) (by kernel_rfl) (fun _ _ _ h => h) ?_ hHeld ?_; (· rfl)) | (refine rg_yes (i := 25) (v := ?_) (atS (atS (atS (atS (atS (atS (atS (atS (atS (atS (atS (atS (atS (atS (atS (atS (atS (atS (atS (atS (atS (atS (atS (atS (atS at0))))))))))))))))))))))))) (by kernel_rfl) (by kernel_rfl) (by kernel_rfl) (fun _ _ _ h => h) ?_ ?_ hHeld ?_; rotate_left 1; (· rfl); (· intro w' hSw; (try dsimp only at hSw); (try clear hHeld); go_simp; try with_reducible rfl))
          try simp only [Act.put, List.setIfInBounds_toArray, List.set_cons_zero, List.set_cons_succ]
          first | (refine rg_no (i := 26) (atS (atS (atS (atS (atS (atS (atS (atS (atS (atS (atS (atS (atS (atS (atS (atS (atS (atS (atS (atS (atS (atS (atS (atS (atS (atS at0)))))))))))))))))))))))))) (by kernel_rfl) (by kernel_rfl) (by kernel_rfl) (fun _ _ _ h => h) ?_ hHeld ?_; (· rfl)) | (refine rg_yes (i := 26) (v := ?_) (atS (atS (atS (atS (atS (atS (atS (atS (atS (atS (atS (atS (atS (atS (atS (atS (atS (atS (atS (atS (atS (atS (atS (atS (atS (atS at0)))))))))))))))))))))))))) (by kernel_rfl) (by kernel_rfl) (by kernel_rfl) (fun _ _ _ h => h) ?_ ?_ hHeld ?_; rotate_left 1; (· rfl); (· intro w' hSw; (try dsimp only at hSw); (try clear hHeld); go_simp; try with_reducible rfl))
          try simp only [Act.put, List.setIfInBounds_toArray, List.set_cons_zero, List.set_cons_succ]
          refine rg_yes (i := 27) (v := ?_) (atS (atS (atS (atS (atS (atS (atS (atS (atS (atS (atS (atS (atS (atS (atS (atS (atS (atS (atS (atS (atS (atS (atS (atS (atS (atS (atS at0))))))))))))))))))))))))))) (by kernel_rfl) (by kernel_rfl) (by kernel_rfl) (fun _ _ _ h => h) ?_ ?_ hHeld ?_; rotate_left 1; (· rfl); (· intro w' hSw; (try dsimp only at hSw); (try clear hHeld); go_simp; try with_reducible rfl)
          try simp only [Act.put, List.setIfInBounds_toArray, List.set_cons_zero, List.set_cons_succ]
          refine rg_yes (i := 28) (v := ?_) (atS (atS (atS (atS (atS (atS (atS (atS (atS (atS (atS (atS (atS (atS (atS (atS (atS (atS (atS (atS (atS (atS (atS (atS (atS (atS (atS (atS at0)))))))))))))))))))))))))))) (by kernel_rfl) (by kernel_rfl) (by kernel_rfl) (fun _ _ _ h => h) ?_ ?_ hHeld ?_; rotate_left 1; (· rfl); (· intro w' hSw; (try dsimp only at hSw); (try clear hHeld); go_simp; try with_reducible rfl)
          try simp only [Act.put, List.setIfInBounds_toArray, List.set_cons_zero, List.set_cons_succ]
          refine wpAnyH_done (by kernel_rfl) ?_ _
          have BF := Lib.hid (below_on B.out hHeld)
          clear hHeld hb
          go_wp2_with fail
          go_ret
          exact ⟨rfl, BF.out⟩
        · have l2 : (((lessL ys xs).length : Int) == 0) = false := by simp [h2]
          rw [show decide ((lessL ys xs).length = 0) = false by simp [h2]] at SA3
          clear h2
          refine wp_region_held_drew (S := fun w' => Below W15.heap.size W15 w') (by kernel_rfl) ?_ (fun hHeld => ?_)
          · exact (Below.refl _ _).drew
          refine rg_yes (i := 0) (v := ?_) at0 (by kernel_rfl) (by kernel_rfl) (by kernel_rfl) (fun _ _ _ h => h) ?_ ?_ hHeld ?_; rotate_left 1; (· rfl); (· intro w' hSw; (try dsimp only at hSw); (try clear hHeld); go_simp; try with_reducible rfl)
          try simp only [Act.put, List.setIfInBounds_toArray, List.set_cons_zero, List.set_cons_succ]
          refine rg_yes (i := 1) (v := ?_) (atS at0) (by kernel_rfl) (by kernel_rfl) (by kernel_rfl) (fun _ _ _ h => h) ?_ ?_ hHeld ?_; rotate_left 1; (· rfl); (· intro w' hSw; (try dsimp only at hSw); (try clear hHeld); go_simp; try with_reducible rfl)
          try simp only [Act.put, List.setIfInBounds_toArray, List.set_cons_zero, List.set_cons_succ]
          refine rg_yes (i := 2) (v := ?_) (atS (atS at0)) (by kernel_rfl) (by kernel_rfl) (by kernel_rfl) (fun _ _ _ h => h) ?_ ?_ hHeld ?_; rotate_left 1; (· rfl); (· intro w' hSw; (try dsimp only at hSw); (try clear hHeld); go_simp; try with_reducible rfl)
          try simp only [Act.put, List.setIfInBounds_toArray, List.set_cons_zero, List.set_cons_succ]
          first | (refine rg_no (i := 3) (atS (atS (atS at0))) (by kernel_rfl) (by kernel_rfl) (by kernel_rfl) (fun _ _ _ h => h) ?_ hHeld ?_; (· rfl)) | (refine rg_yes (i := 3) (v := ?_) (atS (atS (atS at0))) (by kernel_rfl) (by kernel_rfl) (by kernel_rfl) (fun _ _ _ h => h) ?_ ?_ hHeld ?_; rotate_left 1; (· rfl); (· intro w' hSw; (try dsimp only at hSw); have ds := cell_below ds hSw; have dt := cell_below dt hSw; have do_ := cell_below do_ hSw; have dl := cell_below dl hSw; have db := cell_below db hSw; have dk := cell_below dk hSw; (try clear hHeld); go_simp; try with_reducible rfl))
          try simp only [Act.put, List.setIfInBounds_toArray, List.set_cons_zero, List.set_cons_succ]
          first | (refine rg_no (i := 4) (atS (atS (atS (atS at0)))) (by kernel_rfl) (by kernel_rfl) (by kernel_rfl) (fun _ _ _ h => h) ?_ hHeld ?_; (· rfl)) | (refine rg_yes (i := 4) (v := ?_) (atS (atS (atS (atS at0)))) (by kernel_rfl) (by kernel_rfl) (by kernel_rfl) (fun _ _ _ h => h) ?_ ?_ hHeld ?_; rotate_left 1; (· rfl); (· intro w' hSw; (try dsimp only at hSw); have ds := cell_below ds hSw; have dt := cell_below dt hSw; have do_ := cell_below do_ hSw; have dl := cell_below dl hSw; have db := cell_below db hSw; have dk := cell_below dk hSw; (try clear hHeld); go_simp; try with_reducible rfl))
          try simp only [Act.put, List.setIfInBounds_toArray, List.set_cons_zero, List.set_cons_succ]
          first | (refine rg_no (i := 5) (atS (atS (atS (atS (atS at0))))) (by kernel_rfl) (by kernel_rfl) (by kernel_rfl) (fun _ _ _ h => h) ?_ hHeld ?_; (· rfl)) | (refine rg_call (i := 5) (atS (atS (atS (atS (atS at0))))) (by kernel_rfl) ?_ (fun K hK => ?_); (· rfl); (try clear hb); go_simp; (refine (SA1.out _ hHeld).mono ?_; rintro e w1 ⟨rfl, hb⟩); go_wp2_with fail; refine hK.out _ _ ?_ (fun hHeld => ?_); (· exact hHeld.trans (hb.mono hHeld.size)); clear hK K)
          try simp only [Act.put, List.setIfInBounds_toArray, List.set_cons_zero, List.set_cons_succ]
          refine rg_yes (i := 6) (v := ?_) (atS (atS (atS (atS (atS (atS at0)))))) (by kernel_rfl) (by kernel_rfl) (by kernel_rfl) (fun _ _ _ h => h) ?_ ?_ hHeld ?_; rotate_left 1; (· rfl); (· intro w' hSw; (try dsimp only at hSw); (try clear hHeld); go_simp; try with_reducible rfl)
          try simp only [Act.put, List.setIfInBounds_toArray, List.set_cons_zero, List.set_cons_succ]
          refine rg_yes (i := 7) (v := ?_) (atS (atS (atS (atS (atS (atS (atS at0))))))) (by kernel_rfl) (by kernel_rfl) (by kernel_rfl) (fun _ _ _ h => h) ?_ ?_ hHeld ?_; rotate_left 1; (· rfl); (· intro w' hSw; (try dsimp only at hSw); (try clear hHeld); go_simp; try with_reducible rfl)
          try simp only [Act.put, List.setIfInBounds_toArray, List.set_cons_zero, List.set_cons_succ]
          first | (refine rg_no (i := 8) (atS (atS (atS (atS (atS (atS (atS (atS at0)))))))) (by kernel_rfl) (by kernel_rfl) (by kernel_rfl) (fun _ _ _ h => h) ?_ hHeld ?_; (· rfl)) | (refine rg_yes (i := 8) (v := ?_) (atS (atS (atS (atS (atS (atS (atS (atS at0)))))))) (by kernel_rfl) (by kernel_rfl) (by kernel_rfl) (fun _ _ _ h => h) ?_ ?_ hHeld ?_; rotate_left 1; (· rfl); (· intro w' hSw; (try dsimp only at hSw); have ds := cell_below ds hSw; have dt := cell_below dt hSw; have do_ := cell_below do_ hSw; have dl := cell_below dl hSw; have db := cell_below db hSw; have dk := cell_below dk hSw; (try clear hHeld); go_simp; try with_reducible rfl))
          try simp only [Act.put, List.setIfInBounds_toArray, List.set_cons_zero, List.set_cons_succ]
          first | (refine rg_no (i := 9) (atS (atS (atS (atS (atS (atS (atS (atS (atS at0))))))))) (by kernel_rfl) (by kernel_rfl) (by kernel_rfl) (fun _ _ _ h => h) ?_ hHeld ?_; (· rfl)) | (refine rg_yes (i := 9) (v := ?_) (atS (atS (atS (atS (atS (atS (atS (atS (atS at0))))))))) (by kernel_rfl) (by kernel_rfl) (by kernel_rfl) (fun _ _ _ h => h) ?_ ?_ hHeld ?_; rotate_left 1; (· rfl); (· intro w' hSw; (try dsimp only at hSw); have ds := cell_below ds hSw; have dt := cell_below dt hSw; have do_ := cell_below do_ hSw; have dl := cell_below dl hSw; have db := cell_below db hSw; have dk := cell_below dk hSw; (try clear hHeld); go_simp; try with_reducible rfl))
          try simp only [Act.put, List.setIfInBounds_toArray, List.set_cons_zero, List.set_cons_succ]
          first | (refine rg_no (i := 10) (atS (atS (atS (atS (atS (atS (atS (atS (atS (atS at0)))))))))) (by kernel_rfl) (by kernel_rfl) (by kernel_rfl) (fun _ _ _ h => h) ?_ hHeld ?_; (· rfl)) | (refine rg_call (i := 10) (atS (atS (atS (atS (atS (atS (atS (atS (atS (atS at0)))))))))) (by kernel_rfl) ?_ (fun K hK => ?_); (· rfl); (try clear hb); go_simp; (refine (SA2.out _ hHeld).mono ?_; rintro e w1 ⟨rfl, hb⟩); go_wp2_with fail; refine hK.out _ _ ?_ (fun hHeld => ?_); (· exact hHeld.trans (hb.mono hHeld.size)); clear hK K)
          try simp only [Act.put, List.setIfInBounds_toArray, List.set_cons_zero, List.set_cons_succ]
          refine rg_yes (i := 11) (v := ?_) (atS (atS (atS (atS (atS (atS (atS (atS (atS (atS (atS at0))))))))))) (by kernel_rfl) (by kernel_rfl) (by kernel_rfl) (fun _ _ _ h => h) ?_ ?_ hHeld ?_; rotate_left 1; (· rfl); (· intro w' hSw; (try dsimp only at hSw); (try clear hHeld); go_simp; try with_reducible rfl)
          try simp only [Act.put, List.setIfInBounds_toArray, List.set_cons_zero, List.set_cons_succ]
          refine rg_yes (i := 12) (v := ?_) (atS (atS (atS (atS (atS (atS (atS (atS (atS (atS (atS (atS at0)))))))))))) (by kernel_rfl) (by kernel_rfl) (by kernel_rfl) (fun _ _ _ h => h) ?_ ?_ hHeld ?_; rotate_left 1; (· rfl); (· intro w' hSw; (try dsimp only at hSw); (try clear hHeld); go_simp; try with_reducible rfl)
          try simp only [Act.put, List.setIfInBounds_toArray, List.set_cons_zero, List.set_cons_succ]
          first | (refine rg_no (i := 13) (atS (atS (atS (atS (atS (atS (atS (atS (atS (atS (atS (atS (atS at0))))))))))))) (by kernel_rfl) (by kernel_rfl) (by kernel_rfl) (fun _ _ _ h => h) ?_ hHeld ?_; (· rfl)) | (refine rg_yes (i := 13) (v := ?_) (atS (atS (atS (atS (atS (atS (atS (atS (atS (atS (atS (atS (atS at0))))))))))))) (by kernel_rfl) (by kernel_rfl) (by kernel_rfl) (fun _ _ _ h => h) ?_ ?_ hHeld ?_; rotate_left 1; (· rfl); (· intro w' hSw; (try dsimp only at hSw); have ds := cell_below ds hSw; have dt := cell_below dt hSw; have do_ := cell_below do_ hSw; have dl := cell_below dl hSw; have db := cell_below db hSw; have dk := cell_below dk hSw; (try clear hHeld); go_simp; try with_reducible rfl))
          try simp only [Act.put, List.setIfInBounds_toArray, List.set_cons_zero, List.set_cons_succ]
          first | (refine rg_no (i := 14) (atS (atS (atS (atS (atS (atS (atS (atS (atS (atS (atS (atS (atS (atS at0)))))))))))))) (by kernel_rfl) (by kernel_rfl) (by kernel_rfl) (fun _ _ _ h => h) ?_ hHeld ?_; (· rfl)) | (refine rg_yes (i := 14) (v := ?_) (atS (atS (atS (atS (atS (atS (atS (atS (atS (atS (atS (atS (atS (atS at0)))))))))))))) (by kernel_rfl) (by kernel_rfl) (by kernel_rfl) (fun _ _ _ h => h) ?_ ?_ hHeld ?_; rotate_left 1; (· rfl); (· intro w' hSw; (try dsimp only at hSw); have ds := cell_below ds hSw; have dt := cell_below dt hSw; have do_ := cell_below do_ hSw; have dl := cell_below dl hSw; have db := cell_below db hSw; have dk := cell_below dk hSw; (try clear hHeld); go_simp; try with_reducible rfl))
          try simp only [Act.put, List.setIfInBounds_toArray, List.set_cons_zero, List.set_cons_succ]
          first | (refine rg_no (i := 16) (atS (atS (atS (atS (atS (atS (atS (atS (atS (atS (atS (atS (atS (atS (atS (atS at0)))))))))))))))) (by kernel_rfl) (by kernel_rfl) (by kernel_rfl) (fun _ _ _ h => h) ?_ hHeld ?_; (· rfl)) | (refine rg_yes (i := 16) (v := ?_) (atS (atS (atS (atS (atS (atS (atS (atS (atS (atS (atS (atS (atS (atS (atS (atS at0)))))))))))))))) (by kernel_rfl) (by kernel_rfl) (by kernel_rfl) (fun _ _ _ h => h) ?_ ?_ hHeld ?_; rotate_left 1; (· rfl); (· intro w' hSw; (try dsimp only at hSw); have ds := cell_below ds hSw; have dt := cell_below dt hSw; have do_ := cell_below do_ hSw; have dl := cell_below dl hSw; have db := cell_below db hSw; have dk := cell_below dk hSw; (try clear hHeld); go_simp; try with_reducible rfl))
          try simp only [Act.put, List.setIfInBounds_toArray, List.set_cons_zero, List.set_cons_succ]
          first | (refine rg_no (i := 15) (atS (atS (atS (atS (atS (atS (atS (atS (atS (atS (atS (atS (atS (atS (atS at0))))))))))))))) (by kernel_rfl) (by kernel_rfl) (by kernel_rfl) (fun _ _ _ h => h) ?_ hHeld ?_; (· rfl)) | (refine rg_call (i := 15) (atS (atS (atS (atS (atS (atS (atS (atS (atS (atS (atS (atS (atS (atS (atS at0))))))))))))))) (by kernel_rfl) ?_ (fun K hK => ?_); (· rfl); (try clear hb); go_simp; (refine (SA3.out _ hHeld).mono ?_; rintro e w1 ⟨rfl, hb⟩); go_wp2_with fail; refine hK.out _ _ ?_ (fun hHeld => ?_); (· exact hHeld.trans (hb.mono hHeld.size)); clear hK K)
          try simp only [Act.put, List.setIfInBounds_toArray, List.set_cons_zero, List.set_cons_succ]
          first | (refine rg_no (i := 17) (atS (atS (atS (atS (atS (atS (atS (atS (atS (atS (atS (atS (atS (atS (atS (atS (atS at0))))))))))))))))) (by kernel_rfl) (by kernel_rfl) (by kernel_rfl) (fun _ _ _ h => h) ?_ hHeld ?_; (· rfl)) | (refine rg_call (i := 17) (atS (atS (atS (atS (atS (atS (atS (atS (atS (atS (atS (atS (atS (atS (atS (atS (atS at0))))))))))))))))) (by kernel_rfl) ?_ (fun K hK => ?_); (· rfl); (try clear hb); go_simp; (refine (LN1.out _ hHeld).mono ?_; rintro e w1 ⟨rfl, hb⟩); go_wp2_with fail; refine hK.out _ _ ?_ (fun hHeld => ?_); (· exact hHeld.trans (hb.mono hHeld.size)); clear hK K)
          try simp only [Act.put, List.setIfInBounds_toArray, List.set_cons_zero, List.set_cons_succ]
          first | (refine rg_no (i := 18) (atS (atS (atS (atS (atS (atS (atS (atS (atS (atS (atS (atS (atS (atS (atS (atS (atS (atS at0)))))))))))))))))) (by kernel_rfl) (by kernel_rfl) (by kernel_rfl) (fun _ _ _ h => h) ?_ hHeld ?_; (· rfl)) | (refine rg_yes (i := 18) (v := ?_) (atS (atS (atS (atS (atS (atS (atS (atS (atS (atS (atS (atS (atS (atS (atS (atS (atS (atS at0)))))))))))))))))) (by kernel_rfl) (by kernel_rfl) (by kernel_rfl) (fun _ _ _ h => h) ?_ ?_ hHeld ?_; rotate_left 1; (· rfl); (· intro w' hSw; (try dsimp only at hSw); (try clear hHeld); go_simp; try with_reducible rfl))
          try simp only [Act.put, List.setIfInBounds_toArray, List.set_cons_zero, List.set_cons_succ]
          first | (refine rg_no (i := 19) (atS (atS (atS (atS (atS (atS (atS (atS (atS (atS (atS (atS (atS (atS (atS (atS (atS (atS (atS at0))))))))))))))))))) (by kernel_rfl) (by kernel_rfl) (by kernel_rfl) (fun _ _ _ h => h) ?_ hHeld ?_; (· rfl)) | (refine rg_yes (i := 19) (v := ?_) (atS (atS (atS (atS (atS (atS (atS (atS (atS (atS (atS (atS (atS (atS (atS (atS (atS (atS (atS at0))))))))))))))))))) (by kernel_rfl) (by kernel_rfl) (by kernel_rfl) (fun _ _ _ h => h) ?_ ?_ hHeld ?_; rotate_left 1; (· rfl); (· intro w' hSw; (try dsimp only at hSw); (try clear hHeld); go_simp; try with_reducible rfl))
          try simp only [Act.put, List.setIfInBounds_toArray, List.set_cons_zero, List.set_cons_succ]
          first | (refine rg_no (i := 20) (atS (atS (atS (atS (atS (atS (atS (atS (atS (atS (atS (atS (atS (atS (atS (atS (atS (atS (atS (atS at0)))))))))))))))))))) (by kernel_rfl) (by kernel_rfl) (by kernel_rfl) (fun _ _ _ h => h) ?_ hHeld ?_; (· rfl)) | (refine rg_yes (i := 20) (v := ?_) (atS (atS (atS (atS (atS (atS (atS (atS (atS (atS (atS (atS (atS (atS (atS (atS (atS (atS (atS (atS at0)))))))))))))))))))) (by kernel_rfl) (by kernel_rfl) (by kernel_rfl) (fun _ _ _ h => h) ?_ ?_ hHeld ?_; rotate_left 1; (· rfl); (· intro w' hSw; (try dsimp only at hSw); have ds := cell_below ds hSw; have dt := cell_below dt hSw; have do_ := cell_below do_ hSw; have dl := cell_below dl hSw; have db := cell_below db hSw; have dk := cell_below dk hSw; (try clear hHeld); go_simp; try with_reducible rfl))
          try simp only [Act.put, List.setIfInBounds_toArray, List.set_cons_zero, List.set_cons_succ]
          first | (refine rg_no (i := 21) (atS (atS (atS (atS (atS (atS (atS (atS (atS (atS (atS (atS (atS (atS (atS (atS (atS (atS (atS (atS (atS at0))))))))))))))))))))) (by kernel_rfl) (by kernel_rfl) (by kernel_rfl) (fun _ _ _ h => h) ?_ hHeld ?_; (· rfl)) | (refine rg_yes (i := 21) (v := ?_) (atS (atS (atS (atS (atS (atS (atS (atS (atS (atS (atS (atS (atS (atS (atS (atS (atS (atS (atS (atS (atS at0))))))))))))))))))))) (by kernel_rfl) (by kernel_rfl) (by kernel_rfl) (fun _ _ _ h => h) ?_ ?_ hHeld ?_; rotate_left 1; (· rfl); (· intro w' hSw; (try dsimp only at hSw); have ds := cell_below ds hSw; have dt := cell_below dt hSw; have do_ := cell_below do_ hSw; have dl := cell_below dl hSw; have db := cell_below db hSw; have dk := cell_below dk hSw; (try clear hHeld); go_simp; try with_reducible rfl))
          try simp only [Act.put, List.setIfInBounds_toArray, List.set_cons_zero, List.set_cons_succ]
          first | (refine rg_no (i := 22) (atS (atS (atS (atS (atS (atS (atS (atS (atS (atS (atS (atS (atS (atS (atS (atS (atS (atS (atS (atS (atS (atS at0)))))))))))))))))))))) (by kernel_rfl) (by kernel_rfl) (by kernel_rfl) (fun _ _ _ h => h) ?_ hHeld ?_; (· rfl)) | (refine rg_call (i := 22) (atS (atS (atS (atS (atS (atS (atS (atS (atS (atS (atS (atS (atS (atS (atS (atS (atS (atS (atS (atS (atS (atS at0)))))))))))))))))))))) (by kernel_rfl) ?_ (fun K hK => ?_); (· rfl); (try clear hb); go_simp; (refine (LSC.out _ hHeld).mono ?_; rintro e v16 ⟨vl2, rfl, pl2, hb⟩); have PL2 := Lib.hid pl2; obtain ⟨sl2, cl2, rfl, -⟩ := pl2; go_wp2_with fail; refine hK.out _ _ ?_ (fun hHeld => ?_); (· exact hHeld.trans (hb.mono hHeld.size)); clear hK K)
          try simp only [Act.put, List.setIfInBounds_toArray, List.set_cons_zero, List.set_cons_succ]
          first | (refine rg_no (i := 23) (atS (atS (atS (atS (atS (atS (atS (atS (atS (atS (atS (atS (atS (atS (atS (atS (atS (atS (atS (atS (atS (atS (atS at0))))))))))))))))))))))) (by kernel_rfl) (by kernel_rfl) (by kernel_rfl) (fun _ _ _ h => h) ?_ hHeld ?_; (· rfl)) | (refine rg_call (i := 23) (atS (atS (atS (atS (atS (atS (atS (atS (atS (atS (atS (atS (atS (atS (atS (atS (atS (atS (atS (atS (atS (atS (atS at0))))))))))))))))))))))) (by kernel_rfl) ?_ (fun K hK => ?_); (· rfl); (try clear hb); go_simp; (refine (ps_Len _ (lessL ys xs) _ PL2.out).mono ?_; rintro e w1 ⟨rfl, hb⟩); go_wp2_with fail; refine hK.out _ _ ?_ (fun hHeld => ?_); (· exact hHeld.trans (hb.mono hHeld.size)); clear hK K)
          try simp only [Act.put, List.setIfInBounds_toArray, List.set_cons_zero, List.set_cons_succ]
          first | (refine rg_no (i := 24) (atS (atS (atS (atS (atS (atS (atS (atS (atS (atS (atS (atS (atS (atS (atS (atS (atS (atS (atS (atS (atS (atS (atS (atS at0)))))))))))))))))))))))) (by kernel_rfl) (by kernel_rfl) (by kernel_rfl) (fun _ _ _ h => h) ?_ hHeld ?_; (· rfl)) | (refine rg_yes (i := 24) (v := ?_) (atS (atS (atS (atS (atS (atS (atS (atS (atS (atS (atS (atS (atS (atS (atS (atS (atS (atS (atS (atS (atS (atS (atS (atS at0)))))))))))))))))))))))) (by kernel_rfl) (by kernel_rfl) (by kernel_rfl) (fun _ _ _ h => h) ?_ ?_ hHeld ?_; rotate_left 1; (· rfl); (· intro w' hSw; (try dsimp only at hSw); (try clear hHeld); go_simp; try with_reducible rfl))
          try simp only [Act.put, List.setIfInBounds_toArray, List.set_cons_zero, List.set_cons_succ]
          first | (refine rg_no (i := 25) (atS (atS (atS (atS (atS (atS (atS (atS (atS (atS (atS (atS (atS (atS (atS (atS (atS (atS (atS (atS (atS (atS (atS (atS (atS at0))))))))))))))))))))))))) (by kernel_rfl) (by kernel_rfl) (by kernel_rfl) (fun _ _ _ h => h) ?_ hHeld ?_; (· rfl)) | (refine rg_yes (i := 25) (v := ?_) (atS (atS (atS (atS (atS (atS (atS (atS (atS (atS (atS (atS (atS (atS (atS (atS (atS (atS (atS (atS (atS (atS (atS (atS (atS at0))))))))))))))))))))))))) (by kernel_rfl) (by kernel_rfl) (by kernel_rfl) (fun _ _ _ h => h) ?_ ?_ hHeld ?_; rotate_left 1; (· rfl); (· intro w' hSw; (try dsimp only at hSw); (try clear hHeld); go_simp; try with_reducible rfl))
          try simp only [Act.put, List.setIfInBounds_toArray, List.set_cons_zero, List.set_cons_succ]
          first | (refine rg_no (i := 26) (atS (atS (atS (atS (atS (atS (atS (atS (atS (atS (atS (atS (atS (atS (atS (atS (atS (atS (atS (atS (atS (atS (atS (atS (atS (atS at0)))))))))))))))))))))))))) (by kernel_rfl) (by kernel_rfl) (by kernel_rfl) (fun _ _ _ h => h) ?_ hHeld ?_; (· rfl)) | (refine rg_yes (i := 26) (v := ?_) (atS (atS (atS (atS (atS (atS (atS (atS (atS (atS (atS (atS (atS (atS (atS (atS (atS (atS (atS (atS (atS (atS (atS (atS (atS (atS at0)))))))))))))))))))))))))) (by kernel_rfl) (by kernel_rfl) (by kernel_rfl) (fun _ _ _ h => h) ?_ ?_ hHeld ?_; rotate_left 1; (· rfl); (· intro w' hSw; (try dsimp only at hSw); (try clear hHeld); go_simp; try with_reducible rfl))
          try simp only [Act.put, List.setIfInBounds_toArray, List.set_cons_zero, List.set_cons_succ]
          refine rg_yes (i := 27) (v := ?_) (atS (atS (atS (atS (atS (atS (atS (atS (atS (atS (atS (atS (atS (atS (atS (atS (atS (atS (atS (atS (atS (atS (atS (atS (atS (atS (atS at0))))))))))))))))))))))))))) (by kernel_rfl) (by kernel_rfl) (by kernel_rfl) (fun _ _ _ h => h) ?_ ?_ hHeld ?_; rotate_left 1; (· rfl); (· intro w' hSw; (try dsimp only at hSw); (try clear hHeld); go_simp; try with_reducible rfl)
          try simp only [Act.put, List.setIfInBounds_toArray, List.set_cons_zero, List.set_cons_succ]
          refine rg_yes (i := 28) (v := ?_) (atS (atS (atS (atS (atS (atS (atS (atS (atS (atS (atS (atS (atS (atS (atS (atS (atS (atS (atS (atS (atS (atS (atS (atS (atS (atS (atS (atS at0)))))))))))))))))))))))))))) (by kernel_rfl) (by kernel_rfl) (by kernel_rfl) (fun _ _ _ h => h) ?_ ?_ hHeld ?_; rotate_left 1; (· rfl); (· intro w' hSw; (try dsimp only at hSw); (try clear hHeld); go_simp; try with_reducible rfl)
          try simp only [Act.put, List.setIfInBounds_toArray, List.set_cons_zero, List.set_cons_succ]
          refine wpAnyH_done (by kernel_rfl) ?_ _
          have BF := Lib.hid (below_on B.out hHeld)
          clear hHeld hb
          go_wp2_with fail
          go_ret
          exact ⟨rfl, BF.out⟩
      · have l1 : (((lessL xs ys).length : Int) == 0) = false := by simp [h1]
        rw [show decide ((lessL xs ys).length = 0) = false by simp [h1], Bool.false_and] at SA3
        clear h1
        have l2 : True := trivial
        refine wp_region_held_drew (S := fun w' => Below W15.heap.size W15 w') (by kernel_rfl) ?_ (fun hHeld => ?_)
        · exact (Below.refl _ _).drew
        refine rg_yes (i := 0) (v := ?_) at0 (by kernel_rfl) (by kernel_rfl) (by kernel_rfl) (fun _ _ _ h => h) ?_ ?_ hHeld ?_; rotate_left 1; (· rfl); (· intro w' hSw; (try dsimp only at hSw); (try clear hHeld); go_simp; try with_reducible rfl)
        try simp only [Act.put, List.setIfInBounds_toArray, List.set_cons_zero, List.set_cons_succ]
        refine rg_yes (i := 1) (v := ?_) (atS at0) (by kernel_rfl) (by kernel_rfl) (by kernel_rfl) (fun _ _ _ h => h) ?_ ?_ hHeld ?_; rotate_left 1; (· rfl); (· intro w' hSw; (try dsimp only at hSw); (try clear hHeld); go_simp; try with_reducible rfl)
        try simp only [Act.put, List.setIfInBounds_toArray, List.set_cons_zero, List.set_cons_succ]
        refine rg_yes (i := 2) (v := ?_) (atS (atS at0)) (by kernel_rfl) (by kernel_rfl) (by kernel_rfl) (fun _ _ _ h => h) ?_ ?_ hHeld ?_; rotate_left 1; (· rfl); (· intro w' hSw; (try dsimp only at hSw); (try clear hHeld); go_simp; try with_reducible rfl)
        try simp only [Act.put, List.setIfInBounds_toArray, List.set_cons_zero, List.set_cons_succ]
        first | (refine rg_no (i := 3) (atS (atS (atS at0))) (by kernel_rfl) (by kernel_rfl) (by kernel_rfl) (fun _ _ _ h => h) ?_ hHeld ?_; (· rfl)) | (refine rg_yes (i := 3) (v := ?_) (atS (atS (atS at0))) (by kernel_rfl) (by kernel_rfl) (by kernel_rfl) (fun _ _ _ h => h) ?_ ?_ hHeld ?_; rotate_left 1; (· rfl); (· intro w' hSw; (try dsimp only at hSw); have ds := cell_below ds hSw; have dt := cell_below dt hSw; have do_ := cell_below do_ hSw; have dl := cell_below dl hSw; have db := cell_below db hSw; have dk := cell_below dk hSw; (try clear hHeld); go_simp; try with_reducible rfl))
        try simp only [Act.put, List.setIfInBounds_toArray, List.set_cons_zero, List.set_cons_succ]
        first | (refine rg_no (i := 4) (atS (atS (atS (atS at0)))) (by kernel_rfl) (by kernel_rfl) (by kernel_rfl) (fun _ _ _ h => h) ?_ hHeld ?_; (· rfl)) | (refine rg_yes (i := 4) (v := ?_) (atS (atS (atS (atS at0)))) (by kernel_rfl) (by kernel_rfl) (by kernel_rfl) (fun _ _ _ h => h) ?_ ?_ hHeld ?_; rotate_left 1; (· rfl); (· intro w' hSw; (try dsimp only at hSw); have ds := cell_below ds hSw; have dt := cell_below dt hSw; have do_ := cell_below do_ hSw; have dl := cell_below dl hSw; have db := cell_below db hSw; have dk := cell_below dk hSw; (try clear hHeld); go_simp; try with_reducible rfl))
        try simp only [Act.put, List.setIfInBounds_toArray, List.set_cons_zero, List.set_cons_succ]
        first | (refine rg_no (i := 5) (atS (atS (atS (atS (atS at0))))) (by kernel_rfl) (by kernel_rfl) (by kernel_rfl) (fun _ _ _ h => h) ?_ hHeld ?_; (· rfl)) | (refine rg_call (i := 5) (atS (atS (atS (atS (atS at0))))) (by kernel_rfl) ?_ (fun K hK => ?_); (· rfl); (try clear hb); go_simp; (refine (SA1.out _ hHeld).mono ?_; rintro e w1 ⟨rfl, hb⟩); go_wp2_with fail; refine hK.out _ _ ?_ (fun hHeld => ?_); (· exact hHeld.trans (hb.mono hHeld.size)); clear hK K)
        try simp only [Act.put, List.setIfInBounds_toArray, List.set_cons_zero, List.set_cons_succ]
        refine rg_yes (i := 6) (v := ?_) (atS (atS (atS (atS (atS (atS at0)))))) (by kernel_rfl) (by kernel_rfl) (by kernel_rfl) (fun _ _ _ h => h) ?_ ?_ hHeld ?_; rotate_left 1; (· rfl); (· intro w' hSw; (try dsimp only at hSw); (try clear hHeld); go_simp; try with_reducible rfl)
        try simp only [Act.put, List.setIfInBounds_toArray, List.set_cons_zero, List.set_cons_succ]
        refine rg_yes (i := 7) (v := ?_) (atS (atS (atS (atS (atS (atS (atS at0))))))) (by kernel_rfl) (by kernel_rfl) (by kernel_rfl) (fun _ _ _ h => h) ?_ ?_ hHeld ?_; rotate_left 1; (· rfl); (· intro w' hSw; (try dsimp only at hSw); (try clear hHeld); go_simp; try with_reducible rfl)
        try simp only [Act.put, List.setIfInBounds_toArray, List.set_cons_zero, List.set_cons_succ]
        first | (refine rg_no (i := 8) (atS (atS (atS (atS (atS (atS (atS (atS at0)))))))) (by kernel_rfl) (by kernel_rfl) (by kernel_rfl) (fun _ _ _ h => h) ?_ hHeld ?_; (· rfl)) | (refine rg_yes (i := 8) (v := ?_) (atS (atS (atS (atS (atS (atS (atS (atS at0)))))))) (by kernel_rfl) (by kernel_rfl) (by kernel_rfl) (fun _ _ _ h => h) ?_ ?_ hHeld ?_; rotate_left 1; (· rfl); (· intro w' hSw; (try dsimp only at hSw); have ds := cell_below ds hSw; have dt := cell_below dt hSw; have do_ := cell_below do_ hSw; have dl := cell_below dl hSw; have db := cell_below db hSw; have dk := cell_below dk hSw; (try clear hHeld); go_simp; try with_reducible rfl))
        try simp only [Act.put, List.setIfInBounds_toArray, List.set_cons_zero, List.set_cons_succ]
        first | (refine rg_no (i := 9) (atS (atS (atS (atS (atS (atS (atS (atS (atS at0))))))))) (by kernel_rfl) (by kernel_rfl) (by kernel_rfl) (fun _ _ _ h => h) ?_ hHeld ?_; (· rfl)) | (refine rg_yes (i := 9) (v := ?_) (atS (atS (atS (atS (atS (atS (atS (atS (atS at0))))))))) (by kernel_rfl) (by kernel_rfl) (by kernel_rfl) (fun _ _ _ h => h) ?_ ?_ hHeld ?_; rotate_left 1; (· rfl); (· intro w' hSw; (try dsimp only at hSw); have ds := cell_below ds hSw; have dt := cell_below dt hSw; have do_ := cell_below do_ hSw; have dl := cell_below dl hSw; have db := cell_below db hSw; have dk := cell_below dk hSw; (try clear hHeld); go_simp; try with_reducible rfl))
        try simp only [Act.put, List.setIfInBounds_toArray, List.set_cons_zero, List.set_cons_succ]
        first | (refine rg_no (i := 10) (atS (atS (atS (atS (atS (atS (atS (atS (atS (atS at0)))))))))) (by kernel_rfl) (by kernel_rfl) (by kernel_rfl) (fun _ _ _ h => h) ?_ hHeld ?_; (· rfl)) | (refine rg_call (i := 10) (atS (atS (atS (atS (atS (atS (atS (atS (atS (atS at0)))))))))) (by kernel_rfl) ?_ (fun K hK => ?_); (· rfl); (try clear hb); go_simp; (refine (SA2.out _ hHeld).mono ?_; rintro e w1 ⟨rfl, hb⟩); go_wp2_with fail; refine hK.out _ _ ?_ (fun hHeld => ?_); (· exact hHeld.trans (hb.mono hHeld.size)); clear hK K)
        try simp only [Act.put, List.setIfInBounds_toArray, List.set_cons_zero, List.set_cons_succ]
        refine rg_yes (i := 11) (v := ?_) (atS (atS (atS (atS (atS (atS (atS (atS (atS (atS (atS at0))))))))))) (by kernel_rfl) (by kernel_rfl) (by kernel_rfl) (fun _ _ _ h => h) ?_ ?_ hHeld ?_; rotate_left 1; (· rfl); (· intro w' hSw; (try dsimp only at hSw); (try clear hHeld); go_simp; try with_reducible rfl)
        try simp only [Act.put, List.setIfInBounds_toArray, List.set_cons_zero, List.set_cons_succ]
        refine rg_yes (i := 12) (v := ?_) (atS (atS (atS (atS (atS (atS (atS (atS (atS (atS (atS (atS at0)))))))))))) (by kernel_rfl) (by kernel_rfl) (by kernel_rfl) (fun _ _ _ h => h) ?_ ?_ hHeld ?_; rotate_left 1; (· rfl); (· intro w' hSw; (try dsimp only at hSw); (try clear hHeld); go_simp; try with_reducible rfl)
        try simp only [Act.put, List.setIfInBounds_toArray, List.set_cons_zero, List.set_cons_succ]
        first | (refine rg_no (i := 13) (atS (atS (atS (atS (atS (atS (atS (atS (atS (atS (atS (atS (atS at0))))))))))))) (by kernel_rfl) (by kernel_rfl) (by kernel_rfl) (fun _ _ _ h => h) ?_ hHeld ?_; (· rfl)) | (refine rg_yes (i := 13) (v := ?_) (atS (atS (atS (atS (atS (atS (atS (atS (atS (atS (atS (atS (atS at0))))))))))))) (by kernel_rfl) (by kernel_rfl) (by kernel_rfl) (fun _ _ _ h => h) ?_ ?_ hHeld ?_; rotate_left 1; (· rfl); (· intro w' hSw; (try dsimp only at hSw); have ds := cell_below ds hSw; have dt := cell_below dt hSw; have do_ := cell_below do_ hSw; have dl := cell_below dl hSw; have db := cell_below db hSw; have dk := cell_below dk hSw; (try clear hHeld); go_simp; try with_reducible rfl))
        try simp only [Act.put, List.setIfInBounds_toArray, List.set_cons_zero, List.set_cons_succ]
        first | (refine rg_no (i := 14) (atS (atS (atS (atS (atS (atS (atS (atS (atS (atS (atS (atS (atS (atS at0)))))))))))))) (by kernel_rfl) (by kernel_rfl) (by kernel_rfl) (fun _ _ _ h => h) ?_ hHeld ?_; (· rfl)) | (refine rg_yes (i := 14) (v := ?_) (atS (atS (atS (atS (atS (atS (atS (atS (atS (atS (atS (atS (atS (atS at0)))))))))))))) (by kernel_rfl) (by kernel_rfl) (by kernel_rfl) (fun _ _ _ h => h) ?_ ?_ hHeld ?_; rotate_left 1; (· rfl); (· intro w' hSw; (try dsimp only at hSw); have ds := cell_below ds hSw; have dt := cell_below dt hSw; have do_ := cell_below do_ hSw; have dl := cell_below dl hSw; have db := cell_below db hSw; have dk := cell_below dk hSw; (try clear hHeld); go_simp; try with_reducible rfl))
        try simp only [Act.put, List.setIfInBounds_toArray, List.set_cons_zero, List.set_cons_succ]
        first | (refine rg_no (i := 16) (atS (atS (atS (atS (atS (atS (atS (atS (atS (atS (atS (atS (atS (atS (atS (atS at0)))))))))))))))) (by kernel_rfl) (by kernel_rfl) (by kernel_rfl) (fun _ _ _ h => h) ?_ hHeld ?_; (· rfl)) | (refine rg_yes (i := 16) (v := ?_) (atS (atS (atS (atS (atS (atS (atS (atS (atS (atS (atS (atS (atS (atS (atS (atS at0)))))))))))))))) (by kernel_rfl) (by kernel_rfl) (by kernel_rfl) (fun _ _ _ h => h) ?_ ?_ hHeld ?_; rotate_left 1; (· rfl); (· intro w' hSw; (try dsimp only at hSw); have ds := cell_below ds hSw; have dt := cell_below dt hSw; have do_ := cell_below do_ hSw; have dl := cell_below dl hSw; have db := cell_below db hSw; have dk := cell_below dk hSw; (try clear hHeld); go_simp; try with_reducible rfl))
        try simp only [Act.put, List.setIfInBounds_toArray, List.set_cons_zero, List.set_cons_succ]
        first | (refine rg_no (i := 15) (atS (atS (atS (atS (atS (atS (atS (atS (atS (atS (atS (atS (atS (atS (atS at0))))))))))))))) (by kernel_rfl) (by kernel_rfl) (by kernel_rfl) (fun _ _ _ h => h) ?_ hHeld ?_; (· rfl)) | (refine rg_call (i := 15) (atS (atS (atS (atS (atS (atS (atS (atS (atS (atS (atS (atS (atS (atS (atS at0))))))))))))))) (by kernel_rfl) ?_ (fun K hK => ?_); (· rfl); (try clear hb); go_simp; (refine (SA3.out _ hHeld).mono ?_; rintro e w1 ⟨rfl, hb⟩); go_wp2_with fail; refine hK.out _ _ ?_ (fun hHeld => ?_); (· exact hHeld.trans (hb.mono hHeld.size)); clear hK K)
        try simp only [Act.put, List.setIfInBounds_toArray, List.set_cons_zero, List.set_cons_succ]
        first | (refine rg_no (i := 17) (atS (atS (atS (atS (atS (atS (atS (atS (atS (atS (atS (atS (atS (atS (atS (atS (atS at0))))))))))))))))) (by kernel_rfl) (by kernel_rfl) (by kernel_rfl) (fun _ _ _ h => h) ?_ hHeld ?_; (· rfl)) | (refine rg_call (i := 17) (atS (atS (atS (atS (atS (atS (atS (atS (atS (atS (atS (atS (atS (atS (atS (atS (atS at0))))))))))))))))) (by kernel_rfl) ?_ (fun K hK => ?_); (· rfl); (try clear hb); go_simp; (refine (LN1.out _ hHeld).mono ?_; rintro e w1 ⟨rfl, hb⟩); go_wp2_with fail; refine hK.out _ _ ?_ (fun hHeld => ?_); (· exact hHeld.trans (hb.mono hHeld.size)); clear hK K)
        try simp only [Act.put, List.setIfInBounds_toArray, List.set_cons_zero, List.set_cons_succ]
        first | (refine rg_no (i := 18) (atS (atS (atS (atS (atS (atS (atS (atS (atS (atS (atS (atS (atS (atS (atS (atS (atS (atS at0)))))))))))))))))) (by kernel_rfl) (by kernel_rfl) (by kernel_rfl) (fun _ _ _ h => h) ?_ hHeld ?_; (· rfl)) | (refine rg_yes (i := 18) (v := ?_) (atS (atS (atS (atS (atS (atS (atS (atS (atS (atS (atS (atS (atS (atS (atS (atS (atS (atS at0)))))))))))))))))) (by kernel_rfl) (by kernel_rfl) (by kernel_rfl) (fun _ _ _ h => h) ?_ ?_ hHeld ?_; rotate_left 1; (· rfl); (· intro w' hSw; (try dsimp only at hSw); (try clear hHeld); go_simp; try with_reducible rfl))
        try simp only [Act.put, List.setIfInBounds_toArray, List.set_cons_zero, List.set_cons_succ]
        first | (refine rg_no (i := 19) (atS (atS (atS (atS (atS (atS (atS (atS (atS (atS (atS (atS (atS (atS (atS (atS (atS (atS (atS at0))))))))))))))))))) (by kernel_rfl) (by kernel_rfl) (by kernel_rfl) (fun _ _ _ h => h) ?_ hHeld ?_; (· rfl)) | (refine rg_yes (i := 19) (v := ?_) (atS (atS (atS (atS (atS (atS (atS (atS (atS (atS (atS (atS (atS (atS (atS (atS (atS (atS (atS at0))))))))))))))))))) (by kernel_rfl) (by kernel_rfl) (by kernel_rfl) (fun _ _ _ h => h) ?_ ?_ hHeld ?_; rotate_left 1; (· rfl); (· intro w' hSw; (try dsimp only at hSw); (try clear hHeld); go_simp; try with_reducible rfl))
        try simp only [Act.put, List.setIfInBounds_toArray, List.set_cons_zero, List.set_cons_succ]
        first | (refine rg_no (i := 20) (atS (atS (atS (atS (atS (atS (atS (atS (atS (atS (atS (atS (atS (atS (atS (atS (atS (atS (atS (atS at0)))))))))))))))))))) (by kernel_rfl) (by kernel_rfl) (by kernel_rfl) (fun _ _ _ h => h) ?_ hHeld ?_; (· rfl)) | (refine rg_yes (i := 20) (v := ?_) (atS (atS (atS (atS (atS (atS (atS (atS (atS (atS (atS (atS (atS (atS (atS (atS (atS (atS (atS (atS at0)))))))))))))))))))) (by kernel_rfl) (by kernel_rfl) (by kernel_rfl) (fun _ _ _ h => h) ?_ ?_ hHeld ?_; rotate_left 1; (· rfl); (· intro w' hSw; (try dsimp only at hSw); have ds := cell_below ds hSw; have dt := cell_below dt hSw; have do_ := cell_below do_ hSw; have dl := cell_below dl hSw; have db := cell_below db hSw; have dk := cell_below dk hSw; (try clear hHeld); go_simp; try with_reducible rfl))
        try simp only [Act.put, List.setIfInBounds_toArray, List.set_cons_zero, List.set_cons_succ]
        first | (refine rg_no (i := 21) (atS (atS (atS (atS (atS (atS (atS (atS (atS (atS (atS (atS (atS (atS (atS (atS (atS (atS (atS (atS (atS at0))))))))))))))))))))) (by kernel_rfl) (by kernel_rfl) (by kernel_rfl) (fun _ _ _ h => h) ?_ hHeld ?_; (· rfl)) | (refine rg_yes (i := 21) (v := ?_) (atS (atS (atS (atS (atS (atS (atS (atS (atS (atS (atS (atS (atS (atS (atS (atS (atS (atS (atS (atS (atS at0))))))))))))))))))))) (by kernel_rfl) (by kernel_rfl) (by kernel_rfl) (fun _ _ _ h => h) ?_ ?_ hHeld ?_; rotate_left 1; (· rfl); (· intro w' hSw; (try dsimp only at hSw); have ds := cell_below ds hSw; have dt := cell_below dt hSw; have do_ := cell_below do_ hSw; have dl := cell_below dl hSw; have db := cell_below db hSw; have dk := cell_below dk hSw; (try clear hHeld); go_simp; try with_reducible rfl))
        try simp only [Act.put, List.setIfInBounds_toArray, List.set_cons_zero, List.set_cons_succ]
        first | (refine rg_no (i := 22) (atS (atS (atS (atS (atS (atS (atS (atS (atS (atS (atS (atS (atS (atS (atS (atS (atS (atS (atS (atS (atS (atS at0)))))))))))))))))))))) (by kernel_rfl) (by kernel_rfl) (by kernel_rfl) (fun _ _ _ h => h) ?_ hHeld ?_; (· rfl)) | (refine rg_call (i := 22) (atS (atS (atS (atS (atS (atS (atS (atS (atS (atS (atS (atS (atS (atS (atS (atS (atS (atS (atS (atS (atS (atS at0)))))))))))))))))))))) (by kernel_rfl) ?_ (fun K hK => ?_); (· rfl); (try clear hb); go_simp; (refine (LSC.out _ hHeld).mono ?_; rintro e v16 ⟨vl2, rfl, pl2, hb⟩); have PL2 := Lib.hid pl2; obtain ⟨sl2, cl2, rfl, -⟩ := pl2; go_wp2_with fail; refine hK.out _ _ ?_ (fun hHeld => ?_); (· exact hHeld.trans (hb.mono hHeld.size)); clear hK K)
        try simp only [Act.put, List.setIfInBounds_toArray, List.set_cons_zero, List.set_cons_succ]
        first | (refine rg_no (i := 23) (atS (atS (atS (atS (atS (atS (atS (atS (atS (atS (atS (atS (atS (atS (atS (atS (atS (atS (atS (atS (atS (atS (atS at0))))))))))))))))))))))) (by kernel_rfl) (by kernel_rfl) (by kernel_rfl) (fun _ _ _ h => h) ?_ hHeld ?_; (· rfl)) | (refine rg_call (i := 23) (atS (atS (atS (atS (atS (atS (atS (atS (atS (atS (atS (atS (atS (atS (atS (atS (atS (atS (atS (atS (atS (atS (atS at0))))))))))))))))))))))) (by kernel_rfl) ?_ (fun K hK => ?_); (· rfl); (try clear hb); go_simp; (refine (ps_Len _ (lessL ys xs) _ PL2.out).mono ?_; rintro e w1 ⟨rfl, hb⟩); go_wp2_with fail; refine hK.out _ _ ?_ (fun hHeld => ?_); (· exact hHeld.trans (hb.mono hHeld.size)); clear hK K)
        try simp only [Act.put, List.setIfInBounds_toArray, List.set_cons_zero, List.set_cons_succ]
        first | (refine rg_no (i := 24) (atS (atS (atS (atS (atS (atS (atS (atS (atS (atS (atS (atS (atS (atS (atS (atS (atS (atS (atS (atS (atS (atS (atS (atS at0)))))))))))))))))))))))) (by kernel_rfl) (by kernel_rfl) (by kernel_rfl) (fun _ _ _ h => h) ?_ hHeld ?_; (· rfl)) | (refine rg_yes (i := 24) (v := ?_) (atS (atS (atS (atS (atS (atS (atS (atS (atS (atS (atS (atS (atS (atS (atS (atS (atS (atS (atS (atS (atS (atS (atS (atS at0)))))))))))))))))))))))) (by kernel_rfl) (by kernel_rfl) (by kernel_rfl) (fun _ _ _ h => h) ?_ ?_ hHeld ?_; rotate_left 1; (· rfl); (· intro w' hSw; (try dsimp only at hSw); (try clear hHeld); go_simp; try with_reducible rfl))
        try simp only [Act.put, List.setIfInBounds_toArray, List.set_cons_zero, List.set_cons_succ]
        first | (refine rg_no (i := 25) (atS (atS (atS (atS (atS (atS (atS (atS (atS (atS (atS (atS (atS (atS (atS (atS (atS (atS (atS (atS (atS (atS (atS (atS (atS at0))))))))))))))))))))))))) (by kernel_rfl) (by kernel_rfl) (by kernel_rfl) (fun _ _ _ h => h) ?_ hHeld ?_; (· rfl)) | (refine rg_yes (i := 25) (v := ?_) (atS (atS (atS (atS (atS (atS (atS (atS (atS (atS (atS (atS (atS (atS (atS (atS (atS (atS (atS (atS (atS (atS (atS (atS (atS at0))))))))))))))))))))))))) (by kernel_rfl) (by kernel_rfl) (by kernel_rfl) (fun _ _ _ h => h) ?_ ?_ hHeld ?_; rotate_left 1; (· rfl); (· intro w' hSw; (try dsimp only at hSw); (try clear hHeld); go_simp; try with_reducible rfl))
        try simp only [Act.put, List.setIfInBounds_toArray, List.set_cons_zero, List.set_cons_succ]
        first | (refine rg_no (i := 26) (atS (atS (atS (atS (atS (atS (atS (atS (atS (atS (atS (atS (atS (atS (atS (atS (atS (atS (atS (atS (atS (atS (atS (atS (atS (atS at0)))))))))))))))))))))))))) (by kernel_rfl) (by kernel_rfl) (by kernel_rfl) (fun _ _ _ h => h) ?_ hHeld ?_; (· rfl)) | (refine rg_yes (i := 26) (v := ?_) (atS (atS (atS (atS (atS (atS (atS (atS (atS (atS (atS (atS (atS (atS (atS (atS (atS (atS (atS (atS (atS (atS (atS (atS (atS (atS at0)))))))))))))))))))))))))) (by kernel_rfl) (by kernel_rfl) (by kernel_rfl) (fun _ _ _ h => h) ?_ ?_ hHeld ?_; rotate_left 1; (· rfl); (· intro w' hSw; (try dsimp only at hSw); (try clear hHeld); go_simp; try with_reducible rfl))
        try simp only [Act.put, List.setIfInBounds_toArray, List.set_cons_zero, List.set_cons_succ]
        refine rg_yes (i := 27) (v := ?_) (atS (atS (atS (atS (atS (atS (atS (atS (atS (atS (atS (atS (atS (atS (atS (atS (atS (atS (atS (atS (atS (atS (atS (atS (atS (atS (atS at0))))))))))))))))))))))))))) (by kernel_rfl) (by kernel_rfl) (by kernel_rfl) (fun _ _ _ h => h) ?_ ?_ hHeld ?_; rotate_left 1; (· rfl); (· intro w' hSw; (try dsimp only at hSw); (try clear hHeld); go_simp; try with_reducible rfl)
        try simp only [Act.put, List.setIfInBounds_toArray, List.set_cons_zero, List.set_cons_succ]
        refine rg_yes (i := 28) (v := ?_) (atS (atS (atS (atS (atS (atS (atS (atS (atS (atS (atS (atS (atS (atS (atS (atS (atS (atS (atS (atS (atS (atS (atS (atS (atS (atS (atS (atS at0)))))))))))))))))))))))))))) (by kernel_rfl) (by kernel_rfl) (by kernel_rfl) (fun _ _ _ h => h) ?_ ?_ hHeld ?_; rotate_left 1; (· rfl); (· intro w' hSw; (try dsimp only at hSw); (try clear hHeld); go_simp; try with_reducible rfl)
        try simp only [Act.put, List.setIfInBounds_toArray, List.set_cons_zero, List.set_cons_succ]
        refine wpAnyH_done (by kernel_rfl) ?_ _
        have BF := Lib.hid (below_on B.out hHeld)
        clear hHeld hb
        go_wp2_with fail
        go_ret
        exact ⟨rfl, BF.out⟩
namespace psetMerges
open Go.ChangeShapes Go.WideShapes Go.ChangeAt Go.RowKit
set_option linter.unusedVariables false
set_option maxRecDepth 100000 in
theorem lifted (os : Os) (started : os.Started) (H : Type) (enc : TypeId × Value → H) :
    ReturnsInHanded {} Try.checked os 8 .any (Rows.psetMergesSpec.pre6 enc Try.prog Try.f8 Rows.psetMergesRow.domain false) (Rows.psetMergesSpec.post enc Try.prog Try.f8 false true false false) := by
  refine returnsInHanded_of_change (C := Try.checked) fr_own started (by kernel_rfl) Try.func8
    (ChangeSpec.witness6 (enc := enc) (C := Try.checked) false ⟨#[], #[.slice none 0 0, .slice none 0 0], []⟩ 8 (by kernel_rfl) (by kernel_rfl) (by kernel_rfl) (by kernel_rfl)) ?_
  intro W base args ds gs before hval0 hW hcnd _
  have hval : ∀ (j : Nat) t v, Try.f8.params[j]? = some t → args[j]? = some v → Value.okWide Try.prog W .any base t v := hval0
  have hW' := hW
  obtain ⟨p, q, hA0, hV, rfl, hfz, hnd⟩ := hW
  have hA : DataW.TrodAll enc Try.prog W 0 (fun _ => true) true Try.f8.params.toList args.toList ds p := hA0
  rw [Try.params8] at hA hval
  obtain ⟨v0, vs0, d0, ds0, p0, q0, hargs, rfl, rfl, h0, r0⟩ := trodAll_cons hA
  obtain ⟨v1, vs1, d1, ds1, p1, q1, rfl, rfl, rfl, h1, r1⟩ := trodAll_cons r0
  obtain ⟨rfl, rfl, rfl⟩ := trodAll_nil r1
  obtain rfl : args = #[v0, v1] := by cases args; simp_all
  obtain ⟨rfl, rfl⟩ := trodVars_none hV
  have lt0 : ∀ x ∈ p0, x.block < W.heap.size := by obtain ⟨m, hm⟩ := h0; exact DataW.trod_lt m _ _ _ hm
  have lt1 : ∀ x ∈ p1, x.block < W.heap.size := by obtain ⟨m, hm⟩ := h1; exact DataW.trod_lt m _ _ _ hm
  obtain ⟨a, ha⟩ := open_pfs (hval 0 22 v0 rfl rfl) h0
  obtain ⟨b, hb⟩ := open_pfs (hval 1 22 v1 rfl rfl) h1
  clear hA0 hval0
  refine (merges_walk v0 v1 a b W ha hb).mono fun e W' ⟨he, bel⟩ => ?_
  subst he
  exact ⟨_, rfl, _, _, _, [], _, [], hW', trodAll_mk1 (shut_bool Try.underlying4 _), (trodAll_cons_mk (Below.trod fr_laidOut (by kernel_rfl) (of_decide_eq_true (by kernel_rfl)) h0 bel lt0) (trodAll_cons_mk (Below.trod fr_laidOut (by kernel_rfl) (of_decide_eq_true (by kernel_rfl)) h1 bel lt1) trodAll_mk0)), rfl, bel.frame _, fun h => by cases h⟩
theorem over : Rows.psetMergesRow.holds Try.pinned (OpenSpec.ofChange Rows.psetMergesSpec) :=
  OpenClaim.holds_of_wide 8 Try.f8 rfl rfl rfl rfl rfl rfl rfl ⟨rfl, rfl, rfl, rfl, rfl⟩ rfl rfl rfl rfl rfl (by kernel_rfl) Try.func8 (by kernel_rfl)
    (of_decide_eq_true (by kernel_rfl)) (by unfold Func.isWrapper; first | (rw [if_pos (by decide +kernel)]; kernel_rfl) | (rw [if_neg (by decide +kernel)]; exact ⟨rfl, rfl⟩))
    (fun os started H enc _ => lifted os started H enc)
/-- THE STATEMENT PsetMerges. -/
theorem proved : Rows.PsetMergesSaid := over
#print axioms proved
end psetMerges
end Go.Proofs.Ytaafeekkllomhaa
