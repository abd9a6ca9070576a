/-
  PsetOrders: the order of sets: one of any two is first, unless they are the same; for all lists of prefixes; no condition.
-/
import Derived.Test.YtaafeekkllomhaaPsO
import Derived.IntWalk
import Derived.Deep.DeepCutAuto
namespace Go.Proofs.Ytaafeekkllomhaa
open Go.RowKit

/-- two boxes of one cell, one behind the other. -/
theorem ret_true (w w' : World) (h : Below w.heap.size w w') : (fun (e : Ending) (w' : World) => e = .returned (.bool true) ∧ Below w.heap.size w w') (.returned (.bool true)) w' := ⟨rfl, h⟩
theorem setOf_goodL_len (a : List Pf) : (setOf (goodL a)).length ≤ a.length := Nat.le_trans (setOf_len _) (goodL_len a)
set_option maxHeartbeats 25600000 in
set_option maxRecDepth 100000 in
theorem orders_walk (va vb vc : Value) (a b c : List Pf) (w : World) (ha : PsAt w va a) (hb : PsAt w vb b) (hc : PsAt w vc c) :
    Calls Try.prog 4 #[va, vb, vc] w fun e w' => e = .returned (.bool true) ∧ Below w.heap.size w w' := by
  have HA := Lib.hid ha
  have HB := Lib.hid hb
  have HC := Lib.hid hc
  have la := ps_len ha
  have lb := ps_len hb
  have lc := ps_len hc
  obtain ⟨sa, ca, rfl, -⟩ := ha
  obtain ⟨sb, cb, rfl, -⟩ := hb
  obtain ⟨sc, cc, rfl, -⟩ := hc
  unfold maxLen at la lb lc
  go_enter Try.func4, Try.ntmps4
  go_wp2_with fail
  refine (ps_head _).mono ?_
  rintro e w1 ⟨rfl, hb1⟩
  have B := Lib.hid hb1
  have HA := Lib.hid (HA.out.below hb1)
  have HB := Lib.hid (HB.out.below hb1)
  have HC := Lib.hid (HC.out.below hb1)
  clear hb1
  by_cases h1 : 40 < a.length
  · have e1 : decide ((a.length : Int) > 40) = true := by simp; omega
    clear h1
    go_wp2_with fail
    go_ret
    exact ⟨rfl, B.out⟩
  have e1 : decide ((a.length : Int) > 40) = false := by simp; omega
  by_cases h2 : 40 < b.length
  · have e2 : decide ((b.length : Int) > 40) = true := by simp; omega
    clear h1 h2
    go_wp2_with fail
    go_ret
    exact ⟨rfl, B.out⟩
  have e2 : decide ((b.length : Int) > 40) = false := by simp; omega
  by_cases h3 : 40 < c.length
  · have e3 : decide ((c.length : Int) > 40) = true := by simp; omega
    clear h1 h2 h3
    go_wp2_with fail
    go_ret
    exact ⟨rfl, B.out⟩
  have e3 : decide ((c.length : Int) > 40) = false := by simp; omega
  have MK := Lib.hid (ps_make2 (.slice sa a.length ca) (.slice sb b.length cb) a b w1 HA.out HB.out (by omega) (by omega))
  have LA := Lib.hid (show (setOf (goodL a)).length ≤ 40 from Nat.le_trans (setOf_goodL_len a) (by omega))
  have LB := Lib.hid (show (setOf (goodL b)).length ≤ 40 from Nat.le_trans (setOf_goodL_len b) (by omega))
  have LC := Lib.hid (show c.length ≤ 40 by omega)
  clear h1 h2 h3
  go_wp2_with fail
  refine MK.out.mono ?_
  rintro e w2 ⟨vs, vt, rfl, ps, pt, hb2⟩
  have SX := Lib.hid (setOf_srt (goodL a)).1
  have SY := Lib.hid (setOf_srt (goodL b)).1
  generalize setOf (goodL a) = xs at ps LA SX
  generalize setOf (goodL b) = ys at pt LB SY
  have PS := Lib.hid ps
  have PT := Lib.hid pt
  have HC := Lib.hid (HC.out.below hb2)
  have B := Lib.hid (below_on B.out hb2)
  clear ps pt hb2 MK e1 e2 e3
  obtain ⟨ss, cs, rfl, -⟩ := id PS.out
  obtain ⟨st, ct, rfl, -⟩ := id PT.out
  go_upto_region 6 with (fail)
  obtain ⟨W3, hW, q0, q1, hb3⟩ := boxCC w2 #[.slice ss xs.length cs] 26 #[.slice st ys.length ct] 26
  rw [← hW]
  have Ds : Hid (W3.cell? ⟨w2.heap.size, 0, none⟩ = some (.slice ss xs.length cs)) := Lib.hid (row_cell q0 0)
  have Dt : Hid (W3.cell? ⟨w2.heap.size + 1, 0, none⟩ = some (.slice st ys.length ct)) := Lib.hid (row_cell q1 0)
  have PS := Lib.hid (PS.out.below hb3)
  have PT := Lib.hid (PT.out.below hb3)
  have HC := Lib.hid (HC.out.below hb3)
  have B := Lib.hid (below_on B.out hb3)
  have MK := Lib.hid (ps_make2 (.slice sc c.length cc) (.slice none 0 0) c [] W3 HC.out SlAt.nil (by have := LC.out; omega) (by decide))
  clear hW q0 q1 hb3
  obtain ⟨bs, hbs⟩ : ∃ bs, w2.heap.size = bs := ⟨_, rfl⟩
  rw [hbs] at Ds Dt ⊢
  clear hbs
  go_wp2_with fail
  refine MK.out.mono ?_
  rintro e w4 ⟨vu, vn, rfl, pu, pn, hb4⟩
  generalize setOf (goodL c) = zs at pu
  have PU := Lib.hid pu
  have PS := Lib.hid (PS.out.below hb4)
  have PT := Lib.hid (PT.out.below hb4)
  have Ds := Lib.hid (cell_below Ds.out hb4)
  have Dt := Lib.hid (cell_below Dt.out hb4)
  have B := Lib.hid (below_on B.out hb4)
  obtain ⟨su, cu, rfl, -⟩ := id PU.out
  obtain ⟨sn, cn, rfl, -⟩ := pn
  clear pu hb4 MK HC
  go_upto_region 7 with (fail)
  obtain ⟨W5, hW, q0, q1, hb5⟩ := boxCC w4 #[.slice su zs.length cu] 26 #[.slice sn (setOf (goodL [])).length cn] 26
  rw [← hW]
  have Du : Hid (W5.cell? ⟨w4.heap.size, 0, none⟩ = some (.slice su zs.length cu)) := Lib.hid (row_cell q0 0)
  have PU := Lib.hid (PU.out.below hb5)
  have PS := Lib.hid (PS.out.below hb5)
  have PT := Lib.hid (PT.out.below hb5)
  have ds := cell_below Ds.out hb5
  have dt := cell_below Dt.out hb5
  have B := Lib.hid (below_on B.out hb5)
  clear hW q0 q1 hb5 Ds Dt
  obtain ⟨bu, hbu⟩ : ∃ bu, w4.heap.size = bu := ⟨_, rfl⟩
  rw [hbu] at Du ⊢
  clear hbu
  have Ds2 := Lib.hid ds
  have Dt2 := Lib.hid dt
  have CST := Lib.hid (fun W (hW : Below W5.heap.size W5 W) => ps_CmpS _ _ xs ys W (PS.out.below hW) (PT.out.below hW))
  have CTS := Lib.hid (fun W (hW : Below W5.heap.size W5 W) => ps_CmpS _ _ ys xs W (PT.out.below hW) (PS.out.below hW))
  have SAM := Lib.hid (fun W (hW : Below W5.heap.size W5 W) => ps_Same _ _ xs ys W (PS.out.below hW) (PT.out.below hW))
  have CTU := Lib.hid (fun W (hW : Below W5.heap.size W5 W) => ps_CmpS _ _ ys zs W (PT.out.below hW) (PU.out.below hW))
  have CSU := Lib.hid (fun W (hW : Below W5.heap.size W5 W) => ps_CmpS _ _ xs zs W (PS.out.below hW) (PU.out.below hW))
  have LST := Lib.hid (fun W (hW : Below W5.heap.size W5 W) => ps_List _ xs W (PS.out.below hW) (by have := LA.out; omega))
  have LTT := Lib.hid (fun W (hW : Below W5.heap.size W5 W) => ps_List _ ys W (PT.out.below hW) (by have := LB.out; omega))
  obtain ⟨m, hm⟩ : ∃ m, scmp xs ys = m := ⟨_, rfl⟩
  obtain ⟨n, hn⟩ : ∃ n, scmp ys zs = n := ⟨_, rfl⟩
  obtain ⟨q, hq⟩ : ∃ q, scmp xs zs = q := ⟨_, rfl⟩
  have hsw := scmp_swap ys xs
  have hz := scmp_zero xs ys
  have hr := scmp_range xs ys
  have htr := scmp_trans xs ys zs
  obtain ⟨d, hd⟩ : ∃ d, decide (xs = ys) = d := ⟨_, rfl⟩
  have HM := Lib.hid hm
  rw [hm] at hsw hz hr htr CST
  rw [hsw] at CTS
  rw [hn] at htr CTU
  rw [hq] at htr CSU
  rw [hd] at SAM
  have z1 : (m == 0) = d := by
    rw [← hd]
    by_cases e : xs = ys
    · simp [e, hz.2 e]
    · have : m ≠ 0 := fun h => e (hz.1 h)
      simp [e, this]
  have r0 : -1 ≤ m := hr.1
  have r1 : m ≤ 1 := hr.2
  have wm : IntKind.i64.wrap m = m := IntWalk.i64_in _ (by omega)
  have z2 : decide (m < 0) = true → decide (n < 0) = true → decide (q ≥ 0) = false := by
    intro h k
    simp only [decide_eq_true_eq] at h k
    have := htr h k
    simp; omega
  have Z2 := Lib.hid z2
  clear hm hn hq hsw hz hr htr hd z2
  go_cut [57] (fun s wx => s = .bool false ∧ Hid (Below W5.heap.size W5 wx))
  case first =>
    refine wp_region_held_drew (S := fun w' => Below W5.heap.size W5 w') (by kernel_rfl) ?_ (fun hHeld => ?_)
    · exact (Below.refl _ _).drew
    refine rg_yes (i := 0) (v := ?_) at0 (by kernel_rfl) (by kernel_rfl) (by kernel_rfl) (fun _ _ _ h => h) ?_ ?_ hHeld ?_; rotate_left 1; (· rfl); (· intro w' hSw; (try dsimp only at hSw); have ds := cell_below ds hSw; have dt := cell_below dt hSw; (try clear hHeld); go_simp; try with_reducible rfl)
    try simp only [Act.put, List.setIfInBounds_toArray, List.set_cons_zero, List.set_cons_succ]
    refine rg_yes (i := 1) (v := ?_) (atS at0) (by kernel_rfl) (by kernel_rfl) (by kernel_rfl) (fun _ _ _ h => h) ?_ ?_ hHeld ?_; rotate_left 1; (· rfl); (· intro w' hSw; (try dsimp only at hSw); have ds := cell_below ds hSw; have dt := cell_below dt hSw; (try clear hHeld); go_simp; try with_reducible rfl)
    try simp only [Act.put, List.setIfInBounds_toArray, List.set_cons_zero, List.set_cons_succ]
    refine rg_yes (i := 3) (v := ?_) (atS (atS (atS at0))) (by kernel_rfl) (by kernel_rfl) (by kernel_rfl) (fun _ _ _ h => h) ?_ ?_ hHeld ?_; rotate_left 1; (· rfl); (· intro w' hSw; (try dsimp only at hSw); have ds := cell_below ds hSw; have dt := cell_below dt hSw; (try clear hHeld); go_simp; try with_reducible rfl)
    try simp only [Act.put, List.setIfInBounds_toArray, List.set_cons_zero, List.set_cons_succ]
    refine rg_yes (i := 4) (v := ?_) (atS (atS (atS (atS at0)))) (by kernel_rfl) (by kernel_rfl) (by kernel_rfl) (fun _ _ _ h => h) ?_ ?_ hHeld ?_; rotate_left 1; (· rfl); (· intro w' hSw; (try dsimp only at hSw); have ds := cell_below ds hSw; have dt := cell_below dt hSw; (try clear hHeld); go_simp; try with_reducible rfl)
    try simp only [Act.put, List.setIfInBounds_toArray, List.set_cons_zero, List.set_cons_succ]
    refine rg_call (i := 2) (atS (atS at0)) (by kernel_rfl) ?_ (fun K hK => ?_); (· rfl); (try clear hb); go_simp; (refine (CST.out _ hHeld).mono ?_; rintro e w1 ⟨rfl, hb⟩); go_wp2_with fail; refine hK.out _ _ ?_ (fun hHeld => ?_); (· exact hHeld.trans (hb.mono hHeld.size)); clear hK K
    try simp only [Act.put, List.setIfInBounds_toArray, List.set_cons_zero, List.set_cons_succ]
    refine rg_call (i := 5) (atS (atS (atS (atS (atS at0))))) (by kernel_rfl) ?_ (fun K hK => ?_); (· rfl); (try clear hb); go_simp; (refine (CTS.out _ hHeld).mono ?_; rintro e w1 ⟨rfl, hb⟩); go_wp2_with fail; refine hK.out _ _ ?_ (fun hHeld => ?_); (· exact hHeld.trans (hb.mono hHeld.size)); clear hK K
    try simp only [Act.put, List.setIfInBounds_toArray, List.set_cons_zero, List.set_cons_succ]
    refine rg_yes (i := 6) (v := ?_) (atS (atS (atS (atS (atS (atS at0)))))) (by kernel_rfl) (by kernel_rfl) (by kernel_rfl) (fun _ _ _ h => h) ?_ ?_ hHeld ?_; rotate_left 1; (· rfl); (· intro w' hSw; (try dsimp only at hSw); (try clear hHeld); go_simp; try with_reducible rfl)
    try simp only [Act.put, List.setIfInBounds_toArray, List.set_cons_zero, List.set_cons_succ]
    refine rg_yes (i := 7) (v := ?_) (atS (atS (atS (atS (atS (atS (atS at0))))))) (by kernel_rfl) (by kernel_rfl) (by kernel_rfl) (fun _ _ _ h => h) ?_ ?_ hHeld ?_; rotate_left 1; (· rfl); (· intro w' hSw; (try dsimp only at hSw); (try clear hHeld); go_simp; try with_reducible rfl)
    try simp only [Act.put, List.setIfInBounds_toArray, List.set_cons_zero, List.set_cons_succ]
    refine rg_yes (i := 8) (v := ?_) (atS (atS (atS (atS (atS (atS (atS (atS at0)))))))) (by kernel_rfl) (by kernel_rfl) (by kernel_rfl) (fun _ _ _ h => h) ?_ ?_ hHeld ?_; rotate_left 1; (· rfl); (· intro w' hSw; (try dsimp only at hSw); (try clear hHeld); go_simp; try with_reducible rfl)
    try simp only [Act.put, List.setIfInBounds_toArray, List.set_cons_zero, List.set_cons_succ]
    first | (refine rg_no (i := 9) (atS (atS (atS (atS (atS (atS (atS (atS (atS at0))))))))) (by kernel_rfl) (by kernel_rfl) (by kernel_rfl) (fun _ _ _ h => h) ?_ hHeld ?_; (· rfl)) | (refine rg_yes (i := 9) (v := ?_) (atS (atS (atS (atS (atS (atS (atS (atS (atS at0))))))))) (by kernel_rfl) (by kernel_rfl) (by kernel_rfl) (fun _ _ _ h => h) ?_ ?_ hHeld ?_; rotate_left 1; (· rfl); (· intro w' hSw; (try dsimp only at hSw); have ds := cell_below ds hSw; have dt := cell_below dt hSw; (try clear hHeld); go_simp; try with_reducible rfl))
    try simp only [Act.put, List.setIfInBounds_toArray, List.set_cons_zero, List.set_cons_succ]
    first | (refine rg_no (i := 10) (atS (atS (atS (atS (atS (atS (atS (atS (atS (atS at0)))))))))) (by kernel_rfl) (by kernel_rfl) (by kernel_rfl) (fun _ _ _ h => h) ?_ hHeld ?_; (· rfl)) | (refine rg_yes (i := 10) (v := ?_) (atS (atS (atS (atS (atS (atS (atS (atS (atS (atS at0)))))))))) (by kernel_rfl) (by kernel_rfl) (by kernel_rfl) (fun _ _ _ h => h) ?_ ?_ hHeld ?_; rotate_left 1; (· rfl); (· intro w' hSw; (try dsimp only at hSw); have ds := cell_below ds hSw; have dt := cell_below dt hSw; (try clear hHeld); go_simp; try with_reducible rfl))
    try simp only [Act.put, List.setIfInBounds_toArray, List.set_cons_zero, List.set_cons_succ]
    first | (refine rg_no (i := 13) (atS (atS (atS (atS (atS (atS (atS (atS (atS (atS (atS (atS (atS at0))))))))))))) (by kernel_rfl) (by kernel_rfl) (by kernel_rfl) (fun _ _ _ h => h) ?_ hHeld ?_; (· rfl)) | (refine rg_yes (i := 13) (v := ?_) (atS (atS (atS (atS (atS (atS (atS (atS (atS (atS (atS (atS (atS at0))))))))))))) (by kernel_rfl) (by kernel_rfl) (by kernel_rfl) (fun _ _ _ h => h) ?_ ?_ hHeld ?_; rotate_left 1; (· rfl); (· intro w' hSw; (try dsimp only at hSw); have ds := cell_below ds hSw; have dt := cell_below dt hSw; (try clear hHeld); go_simp; try with_reducible rfl))
    try simp only [Act.put, List.setIfInBounds_toArray, List.set_cons_zero, List.set_cons_succ]
    first | (refine rg_no (i := 14) (atS (atS (atS (atS (atS (atS (atS (atS (atS (atS (atS (atS (atS (atS at0)))))))))))))) (by kernel_rfl) (by kernel_rfl) (by kernel_rfl) (fun _ _ _ h => h) ?_ hHeld ?_; (· rfl)) | (refine rg_yes (i := 14) (v := ?_) (atS (atS (atS (atS (atS (atS (atS (atS (atS (atS (atS (atS (atS (atS at0)))))))))))))) (by kernel_rfl) (by kernel_rfl) (by kernel_rfl) (fun _ _ _ h => h) ?_ ?_ hHeld ?_; rotate_left 1; (· rfl); (· intro w' hSw; (try dsimp only at hSw); have ds := cell_below ds hSw; have dt := cell_below dt hSw; (try clear hHeld); go_simp; try with_reducible rfl))
    try simp only [Act.put, List.setIfInBounds_toArray, List.set_cons_zero, List.set_cons_succ]
    first | (refine rg_no (i := 11) (atS (atS (atS (atS (atS (atS (atS (atS (atS (atS (atS at0))))))))))) (by kernel_rfl) (by kernel_rfl) (by kernel_rfl) (fun _ _ _ h => h) ?_ hHeld ?_; (· rfl)) | (refine rg_call (i := 11) (atS (atS (atS (atS (atS (atS (atS (atS (atS (atS (atS at0))))))))))) (by kernel_rfl) ?_ (fun K hK => ?_); (· rfl); (try clear hb); go_simp; (refine (CST.out _ hHeld).mono ?_; rintro e w1 ⟨rfl, hb⟩); go_wp2_with fail; refine hK.out _ _ ?_ (fun hHeld => ?_); (· exact hHeld.trans (hb.mono hHeld.size)); clear hK K)
    try simp only [Act.put, List.setIfInBounds_toArray, List.set_cons_zero, List.set_cons_succ]
    first | (refine rg_no (i := 12) (atS (atS (atS (atS (atS (atS (atS (atS (atS (atS (atS (atS at0)))))))))))) (by kernel_rfl) (by kernel_rfl) (by kernel_rfl) (fun _ _ _ h => h) ?_ hHeld ?_; (· rfl)) | (refine rg_yes (i := 12) (v := ?_) (atS (atS (atS (atS (atS (atS (atS (atS (atS (atS (atS (atS at0)))))))))))) (by kernel_rfl) (by kernel_rfl) (by kernel_rfl) (fun _ _ _ h => h) ?_ ?_ hHeld ?_; rotate_left 1; (· rfl); (· intro w' hSw; (try dsimp only at hSw); (try clear hHeld); go_simp; try with_reducible rfl))
    try simp only [Act.put, List.setIfInBounds_toArray, List.set_cons_zero, List.set_cons_succ]
    first | (refine rg_no (i := 15) (atS (atS (atS (atS (atS (atS (atS (atS (atS (atS (atS (atS (atS (atS (atS at0))))))))))))))) (by kernel_rfl) (by kernel_rfl) (by kernel_rfl) (fun _ _ _ h => h) ?_ hHeld ?_; (· rfl)) | (refine rg_call (i := 15) (atS (atS (atS (atS (atS (atS (atS (atS (atS (atS (atS (atS (atS (atS (atS at0))))))))))))))) (by kernel_rfl) ?_ (fun K hK => ?_); (· rfl); (try clear hb); go_simp; (refine (SAM.out _ hHeld).mono ?_; rintro e w1 ⟨rfl, hb⟩); go_wp2_with fail; refine hK.out _ _ ?_ (fun hHeld => ?_); (· exact hHeld.trans (hb.mono hHeld.size)); clear hK K)
    try simp only [Act.put, List.setIfInBounds_toArray, List.set_cons_zero, List.set_cons_succ]
    first | (refine rg_no (i := 16) (atS (atS (atS (atS (atS (atS (atS (atS (atS (atS (atS (atS (atS (atS (atS (atS at0)))))))))))))))) (by kernel_rfl) (by kernel_rfl) (by kernel_rfl) (fun _ _ _ h => h) ?_ hHeld ?_; (· rfl)) | (refine rg_yes (i := 16) (v := ?_) (atS (atS (atS (atS (atS (atS (atS (atS (atS (atS (atS (atS (atS (atS (atS (atS at0)))))))))))))))) (by kernel_rfl) (by kernel_rfl) (by kernel_rfl) (fun _ _ _ h => h) ?_ ?_ hHeld ?_; rotate_left 1; (· rfl); (· intro w' hSw; (try dsimp only at hSw); (try clear hHeld); go_simp; try with_reducible rfl))
    try simp only [Act.put, List.setIfInBounds_toArray, List.set_cons_zero, List.set_cons_succ]
    refine rg_yes (i := 17) (v := ?_) (atS (atS (atS (atS (atS (atS (atS (atS (atS (atS (atS (atS (atS (atS (atS (atS (atS at0))))))))))))))))) (by kernel_rfl) (by kernel_rfl) (by kernel_rfl) (fun _ _ _ h => h) ?_ ?_ hHeld ?_; rotate_left 1; (· rfl); (· intro w' hSw; (try dsimp only at hSw); (try clear hHeld); go_simp; try with_reducible rfl)
    try simp only [Act.put, List.setIfInBounds_toArray, List.set_cons_zero, List.set_cons_succ]
    refine wpAnyH_done (by kernel_rfl) ?_ _
    have HH := Lib.hid hHeld
    clear hHeld hb wm z1
    go_wp2_with fail
    go_meet
    exact ⟨rfl, HH⟩
  case rest =>
    obtain ⟨rfl, HH⟩ := hcut
    have ds := Lib.hid (cell_below ds HH.out)
    have dt := Lib.hid (cell_below dt HH.out)
    have du := Lib.hid (cell_below Du.out HH.out)
    clear wm z1
    go_upto_region 9 with (fail)
    obtain ⟨x1, hx1⟩ : ∃ x, decide (m < 0) = x := ⟨_, rfl⟩
    obtain ⟨x2, hx2⟩ : ∃ x, decide (n < 0) = x := ⟨_, rfl⟩
    have X3 : Hid (x1 = true → x2 = true → decide (q ≥ 0) = false) := Lib.hid (by rw [← hx1, ← hx2]; exact Z2.out)
    clear Z2
    go_cut [73] (fun s wx => s = .bool false ∧ Hid (Below W5.heap.size W5 wx))
    case first =>
      have ds := ds.out
      have dt := dt.out
      cases x1
      · go_wp2_with fail
        refine (CST.out _ HH.out).mono ?_
        rintro e w6 ⟨rfl, hb6⟩
        have HH := Lib.hid (below_on HH.out hb6)
        clear hb6
        go_wp2_with fail
        go_meet
        exact ⟨rfl, HH⟩
      · cases x2
        · go_wp2_with fail
          refine (CST.out _ HH.out).mono ?_
          rintro e w6 ⟨rfl, hb6⟩
          have du := cell_below du.out hb6
          have dt := cell_below dt hb6
          have HH := Lib.hid (below_on HH.out hb6)
          clear hb6 ds
          go_wp2_with fail
          refine (CTU.out _ HH.out).mono ?_
          rintro e w7 ⟨rfl, hb7⟩
          have HH := Lib.hid (below_on HH.out hb7)
          clear hb7 dt du
          go_wp2_with fail
          go_meet
          exact ⟨rfl, HH⟩
        · have x3 := X3.out rfl rfl
          go_wp2_with fail
          refine (CST.out _ HH.out).mono ?_
          rintro e w6 ⟨rfl, hb6⟩
          have du := cell_below du.out hb6
          have dt := cell_below dt hb6
          have ds := cell_below ds hb6
          have HH := Lib.hid (below_on HH.out hb6)
          clear hb6
          go_wp2_with fail
          refine (CTU.out _ HH.out).mono ?_
          rintro e w7 ⟨rfl, hb7⟩
          have du := cell_below du hb7
          have ds := cell_below ds hb7
          have HH := Lib.hid (below_on HH.out hb7)
          clear hb7 dt
          go_wp2_with fail
          refine (CSU.out _ HH.out).mono ?_
          rintro e w8 ⟨rfl, hb8⟩
          have HH := Lib.hid (below_on HH.out hb8)
          clear hb8 ds du
          go_wp2_with fail
          go_meet
          exact ⟨rfl, HH⟩
    case rest =>
      obtain ⟨rfl, HH⟩ := hcut
      clear X3 hx1 hx2 x1 x2 CTS CTU CSU SAM du Du PU
      have ds := Lib.hid (cell_below Ds2.out HH.out)
      have dt := Lib.hid (cell_below Dt2.out HH.out)
      obtain ⟨wb, hwb⟩ : ∃ wb : World, wb = wc := ⟨_, rfl⟩
      rw [← hwb] at HH ds dt ⊢
      clear hwb
      have B := Lib.hid (below_on B.out HH.out)
      have LST := Lib.hid (fun W (hW : Below wb.heap.size wb W) => LST.out W (below_on HH.out hW))
      have LTT := Lib.hid (fun W (hW : Below wb.heap.size wb W) => LTT.out W (below_on HH.out hW))
      go_upto_region 11 with (fail)
      go_cut [11, 12] (fun v11 v12 wx => Hid (PsAt wx v11 xs) ∧ Hid (PsAt wx v12 ys) ∧ Hid (Below wb.heap.size wb wx))
      case first =>
        have ds := ds.out
        have dt := dt.out
        refine wp_region_held_drew (S := fun w' => Below wb.heap.size wb w') (by kernel_rfl) ?_ (fun hHeld => ?_)
        · exact (Below.refl _ _).drew
        refine rg_yes (i := 0) (v := ?_) at0 (by kernel_rfl) (by kernel_rfl) (by kernel_rfl) (fun _ _ _ h => h) ?_ ?_ hHeld ?_; rotate_left 1; (· rfl); (· intro w' hSw; (try dsimp only at hSw); have ds := cell_below ds hSw; have dt := cell_below dt hSw; (try clear hHeld); go_simp; try with_reducible rfl)
        try simp only [Act.put, List.setIfInBounds_toArray, List.set_cons_zero, List.set_cons_succ]
        refine rg_yes (i := 2) (v := ?_) (atS (atS at0)) (by kernel_rfl) (by kernel_rfl) (by kernel_rfl) (fun _ _ _ h => h) ?_ ?_ hHeld ?_; rotate_left 1; (· rfl); (· intro w' hSw; (try dsimp only at hSw); have ds := cell_below ds hSw; have dt := cell_below dt hSw; (try clear hHeld); go_simp; try with_reducible rfl)
        try simp only [Act.put, List.setIfInBounds_toArray, List.set_cons_zero, List.set_cons_succ]
        refine rg_call (i := 1) (atS at0) (by kernel_rfl) ?_ (fun K hK => ?_); (· rfl); (try clear hb); go_simp; (refine (LST.out _ hHeld).mono ?_; rintro e w1 ⟨v1, rfl, p1, hb⟩); have P1 := Lib.hid p1; (try have P2 := Lib.hid (P2.out.below hb)); clear p1; go_wp2_with fail; refine hK.out _ _ ?_ (fun hHeld => ?_); (· exact hHeld.trans (hb.mono hHeld.size)); clear hK K
        try simp only [Act.put, List.setIfInBounds_toArray, List.set_cons_zero, List.set_cons_succ]
        refine rg_call (i := 3) (atS (atS (atS at0))) (by kernel_rfl) ?_ (fun K hK => ?_); (· rfl); (try clear hb); go_simp; (refine (LTT.out _ hHeld).mono ?_; rintro e w1 ⟨v2, rfl, p2, hb⟩); have P2 := Lib.hid p2; (try have P1 := Lib.hid (P1.out.below hb)); clear p2; go_wp2_with fail; refine hK.out _ _ ?_ (fun hHeld => ?_); (· exact hHeld.trans (hb.mono hHeld.size)); clear hK K
        try simp only [Act.put, List.setIfInBounds_toArray, List.set_cons_zero, List.set_cons_succ]
        refine rg_yes (i := 4) (v := ?_) (atS (atS (atS (atS at0)))) (by kernel_rfl) (by kernel_rfl) (by kernel_rfl) (fun _ _ _ h => h) ?_ ?_ hHeld ?_; rotate_left 1; (· rfl); (· intro w' hSw; (try dsimp only at hSw); (try clear hHeld); go_simp; try with_reducible rfl)
        try simp only [Act.put, List.setIfInBounds_toArray, List.set_cons_zero, List.set_cons_succ]
        refine rg_yes (i := 5) (v := ?_) (atS (atS (atS (atS (atS at0))))) (by kernel_rfl) (by kernel_rfl) (by kernel_rfl) (fun _ _ _ h => h) ?_ ?_ hHeld ?_; rotate_left 1; (· rfl); (· intro w' hSw; (try dsimp only at hSw); (try clear hHeld); go_simp; try with_reducible rfl)
        try simp only [Act.put, List.setIfInBounds_toArray, List.set_cons_zero, List.set_cons_succ]
        refine wpAnyH_done (by kernel_rfl) ?_ _
        have HH := Lib.hid hHeld
        clear hHeld hb ds dt
        go_wp2_with fail
        go_meet
        exact ⟨P1, P2, HH⟩
      case rest =>
        obtain ⟨P1, P2, HB⟩ := hcut
        obtain ⟨s1, c1, rfl, hl1, hc1, hV⟩ := P1.out
        obtain ⟨s2, c2, rfl, hl2, hc2, hU⟩ := P2.out
        have HV := Lib.hid hV
        have HU := Lib.hid hU
        have lx := LA.out
        have ly := LB.out
        have BW := Lib.hid (below_on B.out HB.out)
        have CST := Lib.hid (fun W (hW : Below wc.heap.size wc W) => CST.out W (below_on HH.out (below_on HB.out hW)))
        have DS := Lib.hid (cell_below ds.out HB.out)
        have DT := Lib.hid (cell_below dt.out HB.out)
        clear hV hU hl1 hl2 hc1 hc2 LST LTT B HB HH ds dt LA LB P1 P2 PS PT Ds2 Dt2 SX SY LC
        obtain ⟨wf, hwf⟩ : ∃ wf : World, wf = wc := ⟨_, rfl⟩
        rw [← hwf] at HV HU BW CST DS DT ⊢
        clear hwf
        go_wp2_with fail
        go_loopw [13] (fun i wr => ∃ k : Nat, k ≤ xs.length ∧ k ≤ ys.length ∧ i = .int .i64 k ∧ Hid (xs.take k = ys.take k) ∧ Hid (Below wf.heap.size wf wr)) (fun i _ => 40 - (intOf i).toNat)
        case atStart => exact ⟨0, by omega, by omega, rfl, Lib.hid rfl, Lib.hid (Below.refl _ _)⟩
        case round =>
          obtain ⟨k, hk, hk2, rfl, E, BR⟩ := hrel
          by_cases hx : k < xs.length
          · have j0 : decide (k < xs.length) = true := by simpa using hx
            by_cases hy : k < ys.length
            · have j1 : decide (k < ys.length) = true := by simpa using hy
              obtain ⟨x, hxx⟩ : ∃ x, xs[k]? = some x := ⟨_, List.getElem?_eq_getElem hx⟩
              obtain ⟨y, hyy⟩ : ∃ y, ys[k]? = some y := ⟨_, List.getElem?_eq_getElem hy⟩
              obtain ⟨b1, off1, hsa, hP⟩ := HV.out (by omega)
              obtain ⟨b2, off2, hsb, hQ⟩ := HU.out (by omega)
              subst hsa
              subst hsb
              obtain ⟨x0, x1⟩ := ps_two hP hxx
              obtain ⟨y0, y1⟩ := ps_two hQ hyy
              have x0 := cell_below x0 BR.out
              have x1 := cell_below x1 BR.out
              have y0 := cell_below y0 BR.out
              have y1 := cell_below y1 BR.out
              have i0 : (0 : Int) ≤ (k : Int) := by omega
              have i1 : (k : Int) < (xs.length : Int) := by omega
              have i2 : (k : Int) < (ys.length : Int) := by omega
              have HX := Lib.hid hxx
              have HY := Lib.hid hyy
              clear hP hQ hxx hyy
              go_wp2_with fail
              by_cases he : x = y
              · have EQ : (!(x.1 == y.1 && x.2 == y.2)) = false := by rw [pair_neq]; simp [he]
                have E2 : Hid (xs.take (k + 1) = ys.take (k + 1)) := Lib.hid (by rw [List.take_add_one, List.take_add_one, E.out, HX.out, HY.out, he])
                clear he
                go_quiet (fail)
                rename_i nq
                obtain ⟨wq, hwq⟩ : ∃ W, W = wr.drewN nq := ⟨_, rfl⟩
                have B2 : Hid (Below wf.heap.size wf wq) := Lib.hid (by rw [hwq]; exact below_on BR.out ⟨rfl, rfl, rfl, Nat.le_refl _, fun _ _ => rfl⟩)
                rw [← hwq]
                clear hwq x0 x1 y0 y1 EQ
                go_wp2_with fail
                exact ⟨⟨k + 1, by omega, by omega, by go_num, E2, B2⟩, by simp [intOf]; omega⟩
              · have EQ : (!(x.1 == y.1 && x.2 == y.2)) = true := by rw [pair_neq]; simpa using he
                have PM : Hid (pcmp x y = m) := Lib.hid (by rw [← HM.out, scmp_here E.out HX.out HY.out he])
                have PC : Hid (∀ W, Calls Try.prog 13 #[.agg #[.int .u32 x.1, .int .i64 x.2], .agg #[.int .u32 y.1, .int .i64 y.2]] W fun e w' => e = .returned (.int .i64 m) ∧ Below W.heap.size W w') := Lib.hid (fun W => by have := ps_Cmp x y W; rw [PM.out] at this; exact this)
                clear he PM
                go_quiet (fail)
                rename_i nq
                obtain ⟨wq, hwq⟩ : ∃ W, W = wr.drewN nq := ⟨_, rfl⟩
                have B2 : Hid (Below wf.heap.size wf wq) := Lib.hid (by rw [hwq]; exact below_on BR.out ⟨rfl, rfl, rfl, Nat.le_refl _, fun _ _ => rfl⟩)
                have x0 : wq.cell? ⟨b1, off1 + k * 2, none⟩ = some (.int .u32 x.1) := by rw [hwq]; exact x0
                have x1 : wq.cell? ⟨b1, off1 + k * 2 + 1, none⟩ = some (.int .i64 x.2) := by rw [hwq]; exact x1
                have y0 : wq.cell? ⟨b2, off2 + k * 2, none⟩ = some (.int .u32 y.1) := by rw [hwq]; exact y0
                have y1 : wq.cell? ⟨b2, off2 + k * 2 + 1, none⟩ = some (.int .i64 y.2) := by rw [hwq]; exact y1
                rw [← hwq]
                have ds := cell_below DS.out B2.out
                have dt := cell_below DT.out B2.out
                clear hwq EQ
                go_upto_region 16 with (fail)
                refine wp_region_held_drew (S := fun w' => Below wq.heap.size wq w') (by kernel_rfl) ?_ (fun hHeld => ?_)
                · exact (Below.refl _ _).drew
                refine rg_yes (i := 0) (v := ?_) at0 (by kernel_rfl) (by kernel_rfl) (by kernel_rfl) (fun _ _ _ h => h) ?_ ?_ hHeld ?_; rotate_left 1; (· rfl); (· intro w' hSw; (try dsimp only at hSw); have ds := cell_below ds hSw; have dt := cell_below dt hSw; have x0 := cell_below x0 hSw; have x1 := cell_below x1 hSw; have y0 := cell_below y0 hSw; have y1 := cell_below y1 hSw; (try clear hHeld); go_simp; try with_reducible rfl)
                try simp only [Act.put, List.setIfInBounds_toArray, List.set_cons_zero, List.set_cons_succ]
                refine rg_yes (i := 1) (v := ?_) (atS at0) (by kernel_rfl) (by kernel_rfl) (by kernel_rfl) (fun _ _ _ h => h) ?_ ?_ hHeld ?_; rotate_left 1; (· rfl); (· intro w' hSw; (try dsimp only at hSw); have ds := cell_below ds hSw; have dt := cell_below dt hSw; have x0 := cell_below x0 hSw; have x1 := cell_below x1 hSw; have y0 := cell_below y0 hSw; have y1 := cell_below y1 hSw; (try clear hHeld); go_simp; try with_reducible rfl)
                try simp only [Act.put, List.setIfInBounds_toArray, List.set_cons_zero, List.set_cons_succ]
                refine rg_yes (i := 3) (v := ?_) (atS (atS (atS at0))) (by kernel_rfl) (by kernel_rfl) (by kernel_rfl) (fun _ _ _ h => h) ?_ ?_ hHeld ?_; rotate_left 1; (· rfl); (· intro w' hSw; (try dsimp only at hSw); (try clear hHeld); go_simp; try with_reducible rfl)
                try simp only [Act.put, List.setIfInBounds_toArray, List.set_cons_zero, List.set_cons_succ]
                refine rg_yes (i := 4) (v := ?_) (atS (atS (atS (atS at0)))) (by kernel_rfl) (by kernel_rfl) (by kernel_rfl) (fun _ _ _ h => h) ?_ ?_ hHeld ?_; rotate_left 1; (· rfl); (· intro w' hSw; (try dsimp only at hSw); (try clear hHeld); go_simp; try with_reducible rfl)
                try simp only [Act.put, List.setIfInBounds_toArray, List.set_cons_zero, List.set_cons_succ]
                refine rg_yes (i := 5) (v := ?_) (atS (atS (atS (atS (atS at0))))) (by kernel_rfl) (by kernel_rfl) (by kernel_rfl) (fun _ _ _ h => h) ?_ ?_ hHeld ?_; rotate_left 1; (· rfl); (· intro w' hSw; (try dsimp only at hSw); have ds := cell_below ds hSw; have dt := cell_below dt hSw; have x0 := cell_below x0 hSw; have x1 := cell_below x1 hSw; have y0 := cell_below y0 hSw; have y1 := cell_below y1 hSw; (try clear hHeld); go_simp; try with_reducible rfl)
                try simp only [Act.put, List.setIfInBounds_toArray, List.set_cons_zero, List.set_cons_succ]
                refine rg_yes (i := 6) (v := ?_) (atS (atS (atS (atS (atS (atS at0)))))) (by kernel_rfl) (by kernel_rfl) (by kernel_rfl) (fun _ _ _ h => h) ?_ ?_ hHeld ?_; rotate_left 1; (· rfl); (· intro w' hSw; (try dsimp only at hSw); have ds := cell_below ds hSw; have dt := cell_below dt hSw; have x0 := cell_below x0 hSw; have x1 := cell_below x1 hSw; have y0 := cell_below y0 hSw; have y1 := cell_below y1 hSw; (try clear hHeld); go_simp; try with_reducible rfl)
                try simp only [Act.put, List.setIfInBounds_toArray, List.set_cons_zero, List.set_cons_succ]
                refine rg_yes (i := 7) (v := ?_) (atS (atS (atS (atS (atS (atS (atS at0))))))) (by kernel_rfl) (by kernel_rfl) (by kernel_rfl) (fun _ _ _ h => h) ?_ ?_ hHeld ?_; rotate_left 1; (· rfl); (· intro w' hSw; (try dsimp only at hSw); (try clear hHeld); go_simp; try with_reducible rfl)
                try simp only [Act.put, List.setIfInBounds_toArray, List.set_cons_zero, List.set_cons_succ]
                refine rg_yes (i := 8) (v := ?_) (atS (atS (atS (atS (atS (atS (atS (atS at0)))))))) (by kernel_rfl) (by kernel_rfl) (by kernel_rfl) (fun _ _ _ h => h) ?_ ?_ hHeld ?_; rotate_left 1; (· rfl); (· intro w' hSw; (try dsimp only at hSw); (try clear hHeld); go_simp; try with_reducible rfl)
                try simp only [Act.put, List.setIfInBounds_toArray, List.set_cons_zero, List.set_cons_succ]
                refine rg_yes (i := 9) (v := ?_) (atS (atS (atS (atS (atS (atS (atS (atS (atS at0))))))))) (by kernel_rfl) (by kernel_rfl) (by kernel_rfl) (fun _ _ _ h => h) ?_ ?_ hHeld ?_; rotate_left 1; (· rfl); (· intro w' hSw; (try dsimp only at hSw); have ds := cell_below ds hSw; have dt := cell_below dt hSw; have x0 := cell_below x0 hSw; have x1 := cell_below x1 hSw; have y0 := cell_below y0 hSw; have y1 := cell_below y1 hSw; (try clear hHeld); go_simp; try with_reducible rfl)
                try simp only [Act.put, List.setIfInBounds_toArray, List.set_cons_zero, List.set_cons_succ]
                refine rg_yes (i := 10) (v := ?_) (atS (atS (atS (atS (atS (atS (atS (atS (atS (atS at0)))))))))) (by kernel_rfl) (by kernel_rfl) (by kernel_rfl) (fun _ _ _ h => h) ?_ ?_ hHeld ?_; rotate_left 1; (· rfl); (· intro w' hSw; (try dsimp only at hSw); have ds := cell_below ds hSw; have dt := cell_below dt hSw; have x0 := cell_below x0 hSw; have x1 := cell_below x1 hSw; have y0 := cell_below y0 hSw; have y1 := cell_below y1 hSw; (try clear hHeld); go_simp; try with_reducible rfl)
                try simp only [Act.put, List.setIfInBounds_toArray, List.set_cons_zero, List.set_cons_succ]
                refine rg_call (i := 2) (atS (atS at0)) (by kernel_rfl) ?_ (fun K hK => ?_); (· rfl); (try clear hb); go_simp; (refine (CST.out _ (below_on B2.out hHeld)).mono ?_; rintro e w1 ⟨rfl, hb⟩); go_wp2_with fail; refine hK.out _ _ ?_ (fun hHeld => ?_); (· exact hHeld.trans (hb.mono hHeld.size)); clear hK K
                try simp only [Act.put, List.setIfInBounds_toArray, List.set_cons_zero, List.set_cons_succ]
                refine rg_call (i := 11) (atS (atS (atS (atS (atS (atS (atS (atS (atS (atS (atS at0))))))))))) (by kernel_rfl) ?_ (fun K hK => ?_); (· rfl); (try clear hb); go_simp; (refine (PC.out _).mono ?_; rintro e w1 ⟨rfl, hb⟩); go_wp2_with fail; refine hK.out _ _ ?_ (fun hHeld => ?_); (· exact hHeld.trans (hb.mono hHeld.size)); clear hK K
                try simp only [Act.put, List.setIfInBounds_toArray, List.set_cons_zero, List.set_cons_succ]
                refine rg_yes (i := 12) (v := ?_) (atS (atS (atS (atS (atS (atS (atS (atS (atS (atS (atS (atS at0)))))))))))) (by kernel_rfl) (by kernel_rfl) (by kernel_rfl) (fun _ _ _ h => h) ?_ ?_ hHeld ?_; rotate_left 1; (· rfl); (· intro w' hSw; (try dsimp only at hSw); (try clear hHeld); go_simp; try with_reducible rfl)
                try simp only [Act.put, List.setIfInBounds_toArray, List.set_cons_zero, List.set_cons_succ]
                refine rg_yes (i := 13) (v := ?_) (atS (atS (atS (atS (atS (atS (atS (atS (atS (atS (atS (atS (atS at0))))))))))))) (by kernel_rfl) (by kernel_rfl) (by kernel_rfl) (fun _ _ _ h => h) ?_ ?_ hHeld ?_; rotate_left 1; (· rfl); (· intro w' hSw; (try dsimp only at hSw); (try clear hHeld); go_simp; try with_reducible rfl)
                try simp only [Act.put, List.setIfInBounds_toArray, List.set_cons_zero, List.set_cons_succ]
                refine wpAnyH_done (by kernel_rfl) ?_ _
                have BF := Lib.hid (below_on (below_on BW.out B2.out) hHeld)
                clear hHeld hb
                go_wp2_with fail
                go_ret
                exact ⟨ret_bool (by simp), BF.out⟩
            · have j1 : decide (k < ys.length) = false := by simpa using hy
              have ZZ : Hid (decide (m < 0) = decide (xs.length < ys.length)) := Lib.hid (by rw [← HM.out]; exact scmp_lens E.out hk hk2 (.inr (by omega)))
              have ds := cell_below DS.out BR.out
              have dt := cell_below DT.out BR.out
              obtain ⟨z, hz⟩ : ∃ z, decide (xs.length < ys.length) = z := ⟨_, rfl⟩
              have hz2 : decide (m < 0) = z := by rw [ZZ.out, hz]
              clear E hx hy ZZ
              cases z
              all_goals
                go_wp2_with fail
                refine (CST.out _ BR.out).mono ?_
                rintro e w9 ⟨rfl, hb9⟩
                have BF := Lib.hid (below_on (below_on BW.out BR.out) hb9)
                clear hb9 ds dt
                go_wp2_with fail
                go_ret
                exact ⟨rfl, BF.out⟩
          · have j0 : decide (k < xs.length) = false := by simpa using hx
            have ZZ : Hid (decide (m < 0) = decide (xs.length < ys.length)) := Lib.hid (by rw [← HM.out]; exact scmp_lens E.out hk hk2 (.inl (by omega)))
            have ds := cell_below DS.out BR.out
            have dt := cell_below DT.out BR.out
            obtain ⟨z, hz⟩ : ∃ z, decide (xs.length < ys.length) = z := ⟨_, rfl⟩
            have hz2 : decide (m < 0) = z := by rw [ZZ.out, hz]
            clear E hx ZZ
            cases z
            all_goals
              go_wp2_with fail
              refine (CST.out _ BR.out).mono ?_
              rintro e w9 ⟨rfl, hb9⟩
              have BF := Lib.hid (below_on (below_on BW.out BR.out) hb9)
              clear hb9 ds dt
              go_wp2_with fail
              go_ret
              exact ⟨rfl, BF.out⟩
namespace psetOrders
open Go.ChangeShapes Go.WideShapes Go.ChangeAt Go.RowKit
set_option linter.unusedVariables false
set_option maxRecDepth 100000 in
theorem lifted (os : Os) (started : os.Started) (H : Type) (enc : TypeId × Value → H) :
    ReturnsInHanded {} Try.checked os 4 .any (Rows.psetOrdersSpec.pre6 enc Try.prog Try.f4 Rows.psetOrdersRow.domain false) (Rows.psetOrdersSpec.post enc Try.prog Try.f4 false true false false) := by
  refine returnsInHanded_of_change (C := Try.checked) fr_own started (by kernel_rfl) Try.func4
    (ChangeSpec.witness6 (enc := enc) (C := Try.checked) false ⟨#[], #[.slice none 0 0, .slice none 0 0, .slice none 0 0], []⟩ 8 (by kernel_rfl) (by kernel_rfl) (by kernel_rfl) (by kernel_rfl)) ?_
  intro W base args ds gs before hval0 hW hcnd _
  have hval : ∀ (j : Nat) t v, Try.f4.params[j]? = some t → args[j]? = some v → Value.okWide Try.prog W .any base t v := hval0
  have hW' := hW
  obtain ⟨p, q, hA0, hV, rfl, hfz, hnd⟩ := hW
  have hA : DataW.TrodAll enc Try.prog W 0 (fun _ => true) true Try.f4.params.toList args.toList ds p := hA0
  rw [Try.params4] at hA hval
  obtain ⟨v0, vs0, d0, ds0, p0, q0, hargs, rfl, rfl, h0, r0⟩ := trodAll_cons hA
  obtain ⟨v1, vs1, d1, ds1, p1, q1, rfl, rfl, rfl, h1, r1⟩ := trodAll_cons r0
  obtain ⟨v2, vs2, d2, ds2, p2, q2, rfl, rfl, rfl, h2, r2⟩ := trodAll_cons r1
  obtain ⟨rfl, rfl, rfl⟩ := trodAll_nil r2
  obtain rfl : args = #[v0, v1, v2] := by cases args; simp_all
  obtain ⟨rfl, rfl⟩ := trodVars_none hV
  have lt0 : ∀ x ∈ p0, x.block < W.heap.size := by obtain ⟨m, hm⟩ := h0; exact DataW.trod_lt m _ _ _ hm
  have lt1 : ∀ x ∈ p1, x.block < W.heap.size := by obtain ⟨m, hm⟩ := h1; exact DataW.trod_lt m _ _ _ hm
  have lt2 : ∀ x ∈ p2, x.block < W.heap.size := by obtain ⟨m, hm⟩ := h2; exact DataW.trod_lt m _ _ _ hm
  obtain ⟨a, ha⟩ := open_pfs (hval 0 22 v0 rfl rfl) h0
  obtain ⟨b, hb⟩ := open_pfs (hval 1 22 v1 rfl rfl) h1
  obtain ⟨c, hc⟩ := open_pfs (hval 2 22 v2 rfl rfl) h2
  clear hA0 hval0
  refine (orders_walk v0 v1 v2 a b c W ha hb hc).mono fun e W' ⟨he, bel⟩ => ?_
  subst he
  exact ⟨_, rfl, _, _, _, [], _, [], hW', trodAll_mk1 (shut_bool Try.underlying4 _), (trodAll_cons_mk (Below.trod fr_laidOut (by kernel_rfl) (of_decide_eq_true (by kernel_rfl)) h0 bel lt0) (trodAll_cons_mk (Below.trod fr_laidOut (by kernel_rfl) (of_decide_eq_true (by kernel_rfl)) h1 bel lt1) (trodAll_cons_mk (Below.trod fr_laidOut (by kernel_rfl) (of_decide_eq_true (by kernel_rfl)) h2 bel lt2) trodAll_mk0))), rfl, bel.frame _, fun h => by cases h⟩
theorem over : Rows.psetOrdersRow.holds Try.pinned (OpenSpec.ofChange Rows.psetOrdersSpec) :=
  OpenClaim.holds_of_wide 4 Try.f4 rfl rfl rfl rfl rfl rfl rfl ⟨rfl, rfl, rfl, rfl, rfl⟩ rfl rfl rfl rfl rfl (by kernel_rfl) Try.func4 (by kernel_rfl)
    (of_decide_eq_true (by kernel_rfl)) (by unfold Func.isWrapper; first | (rw [if_pos (by decide +kernel)]; kernel_rfl) | (rw [if_neg (by decide +kernel)]; exact ⟨rfl, rfl⟩))
    (fun os started H enc _ => lifted os started H enc)
/-- THE STATEMENT PsetOrders. -/
theorem proved : Rows.PsetOrdersSaid := over
#print axioms proved
end psetOrders
end Go.Proofs.Ytaafeekkllomhaa
