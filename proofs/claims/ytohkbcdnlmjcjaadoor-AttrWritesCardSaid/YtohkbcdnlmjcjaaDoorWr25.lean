/- Texts of one proof, one behind another. -/
import Derived.Test.YtohkbcdnlmjcjaaDoorWr24
import Derived.Deep.CutRange
/-
  THE REFERENCE OF ATTRIBUTES: Right, walked.
-/
namespace Go.Proofs.YtohkbcdnlmjcjaaDoor
open Go.RowKit
section
variable {P : Program} {ops : Array Oper} {Q : Exit → Act → World → Prop} {a : Act} {w : World} {rest : List Oper} {o : Oper}
set_option maxRecDepth 100000 in
theorem st_sym (d : Bool) (hw : Region.wanted o (yielded ops a.tmps) = d) (v : Value) (hrun : d = true → (execOp a.eval o).run P w = .ok (.value v) w) (h : wpList P ops Q rest (a.put o.dst (if d then v else undef)) w) : wpList P ops Q (o :: rest) a w := by
  refine wpList_step fun K hK => ?_
  rw [hw]
  cases d with
  | false => exact hK _ _ h
  | true =>
    show Oper.wp P o a w K Q
    unfold Oper.wp
    rw [hrun rfl]
    exact hK _ _ h
set_option maxRecDepth 100000 in
theorem st_call (d : Bool) (hw : Region.wanted o (yielded ops a.tmps) = d) (f : FuncId) (args : Array Value) (v : Value) (hrun : d = true → (execOp a.eval o).run P w = .ok (.enter f args) w) (hc : Calls P f args w fun e w' => e = .returned v ∧ w = w') (h : wpList P ops Q rest (a.put o.dst (if d then v else undef)) w) : wpList P ops Q (o :: rest) a w := by
  refine wpList_step fun K hK => ?_
  rw [hw]
  cases d with
  | false => exact hK _ _ h
  | true =>
    show Oper.wp P o a w K Q
    unfold Oper.wp
    rw [hrun rfl, Oper.upon_enter]
    refine hc.mono fun e w'' hh => ?_
    obtain ⟨rfl, rfl⟩ := hh
    exact hK _ _ h
end

set_option maxHeartbeats 25600000 in
set_option maxRecDepth 100000 in
theorem r_Right (a : At) (vp vc vo : Value) (w : World) (hA : AtL w a vp vc vo) (hr : a.Rng) : Calls Tryd.prog 20 #[.agg (ratL a vp vc vo).toArray] w fun e w' => e = .returned (.bool (checkB a)) ∧ Below w.heap.size w w' := by
  have HA := Lib.hid hA
  have HR := Lib.hid hr
  have RC := Lib.hid (right_check a)
  obtain ⟨⟨sp, cp, rfl, h1, h2, -⟩, ⟨sc, cc, rfl, h5, h6, -⟩, ⟨so, co, rfl, h3, h4, -⟩⟩ := hA
  have pl : a.path.length ≤ 9223372036854775807 := Nat.le_trans h1 h2
  have ol : a.others.length ≤ 9223372036854775807 := Nat.le_trans h3 h4
  have cl : a.comms.length ≤ 9223372036854775807 := Nat.le_trans h5 h6
  clear h1 h2 h3 h4 h5 h6 hr
  show Calls Tryd.prog 20 #[.agg #[.int .i64 a.has, .int .i64 a.origin, .slice sp a.path.length cp, .int .i64 a.hop, .int .i64 a.med, .int .i64 a.loc, .int .i64 a.aggrAs, .int .i64 a.aggrId, .slice sc a.comms.length cc, .slice so a.others.length co]] w _
  go_enter Tryd.func20, Tryd.ntmps20
  go_upto_region 1 with (fail)
  obtain ⟨W0, hW0, qa, hb0, -⟩ := box1 w #[.int .i64 a.has, .int .i64 a.origin, .slice sp a.path.length cp, .int .i64 a.hop, .int .i64 a.med, .int .i64 a.loc, .int .i64 a.aggrAs, .int .i64 a.aggrId, .slice sc a.comms.length cc, .slice so a.others.length co] 47
  rw [← hW0]
  clear hW0
  have QA := Lib.hid qa
  have B0 := Lib.hid hb0
  obtain ⟨x0, x1, x2, x3, x4, x5, x6, x7, x8, x9⟩ := at10 qa
  clear qa hb0
  go_cut [25] from 12 to 25 (fun s wx => s = .bool (!knownM a.has) ∧ W0 = wx)
  case first =>
    have KI := Lib.hid (knownM_iff HR.out.1)
    rcases c1 : decide (a.has < 0) with _ | _
    · have n0 : 0 ≤ a.has := by have := of_decide_eq_false c1; omega
      have q : a.has.tmod 2 = a.has % 2 := IntWalk.rem_in _ _ n0
      rcases c2 : (a.has.tmod 2 == 1) with _ | _
      · rcases c3 : decide (a.has > 511) with _ | _
        · have E : Hid (knownM a.has = true) := Lib.hid (KI.out.2 ⟨n0, by have := of_decide_eq_false c3; omega, by rw [q] at c2; have : ¬ a.has % 2 = 1 := (by simpa using c2); omega⟩)
          clear n0 KI q
          go_wp2_with fail
          go_meet
          exact ⟨by rw [E.out]; rfl, rfl⟩
        · have E : Hid (knownM a.has = false) := Lib.hid (by
            rw [Bool.eq_false_iff]
            intro h
            have := (KI.out.1 h).2.1; have := of_decide_eq_true c3; omega)
          clear n0 KI q
          go_wp2_with fail
          go_meet
          exact ⟨by rw [E.out]; rfl, rfl⟩
      · have E : Hid (knownM a.has = false) := Lib.hid (by
          rw [Bool.eq_false_iff]
          intro h
          rw [q] at c2
          have := (KI.out.1 h).2.2; have : a.has % 2 = 1 := (by simpa using c2); omega)
        clear n0 KI q
        go_wp2_with fail
        go_meet
        exact ⟨by rw [E.out]; rfl, rfl⟩
    · have E : Hid (knownM a.has = false) := Lib.hid (by
        rw [Bool.eq_false_iff]
        intro h
        have := (KI.out.1 h).1; have := of_decide_eq_true c1; omega)
      clear KI
      go_wp2_with fail
      go_meet
      exact ⟨by rw [E.out]; rfl, rfl⟩
  case rest =>
  obtain ⟨h25, hw⟩ := hcut
  subst hw
  subst h25
  rcases hk : knownM a.has with _ | _
  · have E : Hid (checkB a = false) := Lib.hid (by rw [← RC.out]; unfold rightB6; rw [hk]; rfl)
    clear x0 x1 x2 x3 x4 x5 x6 x7 x8 x9
    go_wp2_with fail
    go_ret
    exact ⟨by rw [E.out]; rfl, B0.out⟩
  have K1 := Lib.hid hk
  clear hk
  go_upto_region 4 with (fail)
  go_cut [55] from 26 to 55 (fun s wx => s = .bool (v4 a) ∧ W0 = wx)
  case first =>
    have I1 := Lib.hid (fun W => r_in a.origin 0 2 W)
    have I4 := Lib.hid (fun W => r_in a.med 0 4294967295 W)
    have I5 := Lib.hid (fun W => r_in a.loc 0 4294967295 W)
    have I7 := Lib.hid (fun W => r_in a.aggrAs 0 65535 W)
    have V : Hid (v4 a = vio4 (decide (0 ≤ a.origin) && decide (a.origin ≤ 2)) (decide (0 ≤ a.med) && decide (a.med ≤ 4294967295)) (decide (0 ≤ a.loc) && decide (a.loc ≤ 4294967295)) (decide (0 ≤ a.aggrAs) && decide (a.aggrAs ≤ 65535)) (decide ((a.comms.length : Int) > 256))) := Lib.hid rfl
    generalize (decide (0 ≤ a.origin) && decide (a.origin ≤ 2)) = g1 at I1 V
    generalize (decide (0 ≤ a.med) && decide (a.med ≤ 4294967295)) = g4 at I4 V
    generalize (decide (0 ≤ a.loc) && decide (a.loc ≤ 4294967295)) = g5 at I5 V
    generalize (decide (0 ≤ a.aggrAs) && decide (a.aggrAs ≤ 65535)) = g7 at I7 V
    generalize hc : decide ((a.comms.length : Int) > 256) = c at V
    go_wp2_with fail
    refine (I1.out W0).mono ?_
    rintro e w1 ⟨rfl, rfl⟩
    rcases g1 with _ | _
    · go_wp2_with fail
      go_meet
      exact ⟨by rw [V.out]; rfl, rfl⟩
    go_wp2_with fail
    refine (I4.out W0).mono ?_
    rintro e w1 ⟨rfl, rfl⟩
    rcases g4 with _ | _
    · go_wp2_with fail
      go_meet
      exact ⟨by rw [V.out]; rfl, rfl⟩
    go_wp2_with fail
    refine (I5.out W0).mono ?_
    rintro e w1 ⟨rfl, rfl⟩
    rcases g5 with _ | _
    · go_wp2_with fail
      go_meet
      exact ⟨by rw [V.out]; rfl, rfl⟩
    go_wp2_with fail
    refine (I7.out W0).mono ?_
    rintro e w1 ⟨rfl, rfl⟩
    rcases g7 with _ | _
    · go_wp2_with fail
      go_meet
      exact ⟨by rw [V.out]; rfl, rfl⟩
    cases c
    · go_wp2_with fail
      go_meet
      exact ⟨by rw [V.out]; rfl, rfl⟩
    · go_wp2_with fail
      go_meet
      exact ⟨by rw [V.out]; rfl, rfl⟩
  case rest =>
  obtain ⟨h55, hw⟩ := hcut
  subst hw
  subst h55
  rcases hk : v4 a with _ | _
  case true =>
    have E : Hid (checkB a = false) := Lib.hid (by rw [← RC.out]; unfold rightB6; rw [K1.out, hk]; rfl)
    clear x0 x1 x2 x3 x4 x5 x6 x7 x8 x9
    go_wp2_with fail
    go_ret
    exact ⟨by rw [E.out]; rfl, B0.out⟩
  have K4 := Lib.hid hk
  clear hk
  obtain ⟨h, hh, h511⟩ : ∃ h : Nat, a.has = (h : Int) ∧ h ≤ 511 := by
    have := (knownM_iff HR.out.1).1 K1.out
    exact ⟨a.has.toNat, by omega, by omega⟩
  go_upto_region 6 with (fail)
  go_cut [126] from 56 to 126 (fun s wx => s = .bool (v6 a) ∧ W0 = wx)
  case first =>
    have T1 : Hid (∀ W, Calls Tryd.prog 34 #[.int .i64 a.has, .int .i64 1] W fun e w' => e = .returned (.bool (bt a 1)) ∧ W = w') := Lib.hid fun W => by
      rw [hh, ← bt_th hh (t := 1) (by decide) (by decide)]; exact r_there h 1 W h511 (by decide)
    have T2 : Hid (∀ W, Calls Tryd.prog 34 #[.int .i64 a.has, .int .i64 2] W fun e w' => e = .returned (.bool (bt a 2)) ∧ W = w') := Lib.hid fun W => by
      rw [hh, ← bt_th hh (t := 2) (by decide) (by decide)]; exact r_there h 2 W h511 (by decide)
    have T4 : Hid (∀ W, Calls Tryd.prog 34 #[.int .i64 a.has, .int .i64 4] W fun e w' => e = .returned (.bool (bt a 4)) ∧ W = w') := Lib.hid fun W => by
      rw [hh, ← bt_th hh (t := 4) (by decide) (by decide)]; exact r_there h 4 W h511 (by decide)
    have T5 : Hid (∀ W, Calls Tryd.prog 34 #[.int .i64 a.has, .int .i64 5] W fun e w' => e = .returned (.bool (bt a 5)) ∧ W = w') := Lib.hid fun W => by
      rw [hh, ← bt_th hh (t := 5) (by decide) (by decide)]; exact r_there h 5 W h511 (by decide)
    have T7 : Hid (∀ W, Calls Tryd.prog 34 #[.int .i64 a.has, .int .i64 7] W fun e w' => e = .returned (.bool (bt a 7)) ∧ W = w') := Lib.hid fun W => by
      rw [hh, ← bt_th hh (t := 7) (by decide) (by decide)]; exact r_there h 7 W h511 (by decide)
    have T8 : Hid (∀ W, Calls Tryd.prog 34 #[.int .i64 a.has, .int .i64 8] W fun e w' => e = .returned (.bool (bt a 8)) ∧ W = w') := Lib.hid fun W => by
      rw [hh, ← bt_th hh (t := 8) (by decide) (by decide)]; exact r_there h 8 W h511 (by decide)
    have V : Hid (v6 a = vio6 (bt a 1) (a.origin != 0) (bt a 2) (decide ((a.path.length : Int) > 0)) (bt a 4) (a.med != 0) (bt a 5) (a.loc != 0) (bt a 7) (a.aggrAs != 0) ((a.aggrId : Int) != 0) (bt a 8) (decide ((a.comms.length : Int) > 0))) := Lib.hid rfl
    generalize bt a 1 = b1 at T1 V
    generalize bt a 2 = b2 at T2 V
    generalize bt a 4 = b4 at T4 V
    generalize bt a 5 = b5 at T5 V
    generalize bt a 7 = b7 at T7 V
    generalize bt a 8 = b8 at T8 V
    generalize z1 : (a.origin != 0) = n1 at V
    generalize z2 : decide ((a.path.length : Int) > 0) = n2 at V
    generalize z4 : (a.med != 0) = n4 at V
    generalize z5 : (a.loc != 0) = n5 at V
    generalize z7 : (a.aggrAs != 0) = n7 at V
    generalize z7' : ((a.aggrId : Int) != 0) = m7 at V
    generalize z8 : decide ((a.comms.length : Int) > 0) = n8 at V
    clear hh h511 x3 x9 RC K1 K4 HA HR B0 QA pl ol cl
    have z2' : decide (0 < a.path.length) = n2 := by rw [← z2]; simp
    have z8' : decide (0 < a.comms.length) = n8 := by rw [← z8]; simp
    unfold vio6 at V
    refine wp_region_list ?_
    refine st_sym (true) (by rfl) (.pointer (some ⟨w.heap.size, 0, none⟩)) (fun hd => ?_) ?_
    · go_simp
    simp only [Act.put, List.setIfInBounds_toArray, List.set_cons_zero, List.set_cons_succ]
    refine st_sym (true) (by rfl) (.int .i64 a.has) (fun hd => ?_) ?_
    · (try simp only [if_true]); go_simp
    simp only [Act.put, List.setIfInBounds_toArray, List.set_cons_zero, List.set_cons_succ]
    refine st_call (true) (by rfl) 34 #[.int .i64 a.has, .int .i64 1] (.bool b1) (fun hd => ?_) (T1.out W0) ?_
    · (try simp only [if_true]); go_simp
    simp only [Act.put, List.setIfInBounds_toArray, List.set_cons_zero, List.set_cons_succ]
    refine st_sym (true) (by rfl) (.bool (!b1)) (fun hd => ?_) ?_
    · (try simp only [if_true]); go_simp
    simp only [Act.put, List.setIfInBounds_toArray, List.set_cons_zero, List.set_cons_succ]
    refine st_sym (true) (by rfl) (.bool (!b1)) (fun hd => ?_) ?_
    · (try simp only [if_true]); go_simp
    simp only [Act.put, List.setIfInBounds_toArray, List.set_cons_zero, List.set_cons_succ]
    refine st_sym (!b1) (by cases b1 <;> rfl) (.pointer (some ⟨w.heap.size, 1, none⟩)) (fun hd => ?_) ?_
    · (try simp only [hd, if_true]); go_simp
    simp only [Act.put, List.setIfInBounds_toArray, List.set_cons_zero, List.set_cons_succ]
    refine st_sym (!b1) (by cases b1 <;> rfl) (.int .i64 a.origin) (fun hd => ?_) ?_
    · (try simp only [hd, if_true]); go_simp
    simp only [Act.put, List.setIfInBounds_toArray, List.set_cons_zero, List.set_cons_succ]
    refine st_sym (!b1) (by cases b1 <;> rfl) (.bool n1) (fun hd => ?_) ?_
    · (try simp only [hd, if_true]); go_simp
    simp only [Act.put, List.setIfInBounds_toArray, List.set_cons_zero, List.set_cons_succ]
    refine st_sym (true) (by rfl) (.bool (!b1 && n1)) (fun hd => ?_) ?_
    · cases b1 <;> first | contradiction | (go_simp; try rfl)
    simp only [Act.put, List.setIfInBounds_toArray, List.set_cons_zero, List.set_cons_succ]
    refine st_sym (true) (by rfl) (.bool (!b1 && n1)) (fun hd => ?_) ?_
    · go_simp
    simp only [Act.put, List.setIfInBounds_toArray, List.set_cons_zero, List.set_cons_succ]
    simp only [if_true]
    generalize hc1 : (!b1 && n1) = c1 at V ⊢
    clear hc1
    refine st_sym (!c1) (by cases c1 <;> rfl) (.pointer (some ⟨w.heap.size, 0, none⟩)) (fun hd => ?_) ?_
    · go_simp
    simp only [Act.put, List.setIfInBounds_toArray, List.set_cons_zero, List.set_cons_succ]
    refine st_sym (!c1) (by cases c1 <;> rfl) (.int .i64 a.has) (fun hd => ?_) ?_
    · (try simp only [hd, if_true]); go_simp
    simp only [Act.put, List.setIfInBounds_toArray, List.set_cons_zero, List.set_cons_succ]
    refine st_call (!c1) (by cases c1 <;> rfl) 34 #[.int .i64 a.has, .int .i64 2] (.bool b2) (fun hd => ?_) (T2.out W0) ?_
    · (try simp only [hd, if_true]); go_simp
    simp only [Act.put, List.setIfInBounds_toArray, List.set_cons_zero, List.set_cons_succ]
    refine st_sym (!c1) (by cases c1 <;> rfl) (.bool (!b2)) (fun hd => ?_) ?_
    · (try simp only [hd, if_true]); go_simp
    simp only [Act.put, List.setIfInBounds_toArray, List.set_cons_zero, List.set_cons_succ]
    refine st_sym (!c1) (by cases c1 <;> rfl) (.bool (!b2)) (fun hd => ?_) ?_
    · (try simp only [hd, if_true]); go_simp
    simp only [Act.put, List.setIfInBounds_toArray, List.set_cons_zero, List.set_cons_succ]
    refine st_sym ((!c1 && !b2)) (by cases c1 <;> cases b2 <;> rfl) (.pointer (some ⟨w.heap.size, 2, none⟩)) (fun hd => ?_) ?_
    · (try simp only [hd, if_true]); go_simp
    simp only [Act.put, List.setIfInBounds_toArray, List.set_cons_zero, List.set_cons_succ]
    refine st_sym ((!c1 && !b2)) (by cases c1 <;> cases b2 <;> rfl) (.slice sp a.path.length cp) (fun hd => ?_) ?_
    · (try simp only [hd, if_true]); go_simp
    simp only [Act.put, List.setIfInBounds_toArray, List.set_cons_zero, List.set_cons_succ]
    refine st_sym ((!c1 && !b2)) (by cases c1 <;> cases b2 <;> rfl) (.int .i64 a.path.length) (fun hd => ?_) ?_
    · (try simp only [hd, if_true]); go_simp
    simp only [Act.put, List.setIfInBounds_toArray, List.set_cons_zero, List.set_cons_succ]
    refine st_sym ((!c1 && !b2)) (by cases c1 <;> cases b2 <;> rfl) (.bool n2) (fun hd => ?_) ?_
    · (try simp only [hd, if_true]); go_simp
    simp only [Act.put, List.setIfInBounds_toArray, List.set_cons_zero, List.set_cons_succ]
    refine st_sym (!c1) (by cases c1 <;> rfl) (.bool (!b2 && n2)) (fun hd => ?_) ?_
    · cases c1 <;> cases b2 <;> first | contradiction | (go_simp; try rfl)
    simp only [Act.put, List.setIfInBounds_toArray, List.set_cons_zero, List.set_cons_succ]
    refine st_sym (true) (by rfl) (.bool (c1 || (!b2 && n2))) (fun hd => ?_) ?_
    · cases c1 <;> cases b2 <;> (go_simp; try rfl)
    simp only [Act.put, List.setIfInBounds_toArray, List.set_cons_zero, List.set_cons_succ]
    refine st_sym (true) (by rfl) (.bool (c1 || (!b2 && n2))) (fun hd => ?_) ?_
    · go_simp
    simp only [Act.put, List.setIfInBounds_toArray, List.set_cons_zero, List.set_cons_succ]
    simp only [if_true]
    generalize hc2 : (c1 || (!b2 && n2)) = c2 at V ⊢
    clear hc2
    refine st_sym (!c2) (by cases c2 <;> rfl) (.pointer (some ⟨w.heap.size, 0, none⟩)) (fun hd => ?_) ?_
    · go_simp
    simp only [Act.put, List.setIfInBounds_toArray, List.set_cons_zero, List.set_cons_succ]
    refine st_sym (!c2) (by cases c2 <;> rfl) (.int .i64 a.has) (fun hd => ?_) ?_
    · (try simp only [hd, if_true]); go_simp
    simp only [Act.put, List.setIfInBounds_toArray, List.set_cons_zero, List.set_cons_succ]
    refine st_call (!c2) (by cases c2 <;> rfl) 34 #[.int .i64 a.has, .int .i64 4] (.bool b4) (fun hd => ?_) (T4.out W0) ?_
    · (try simp only [hd, if_true]); go_simp
    simp only [Act.put, List.setIfInBounds_toArray, List.set_cons_zero, List.set_cons_succ]
    refine st_sym (!c2) (by cases c2 <;> rfl) (.bool (!b4)) (fun hd => ?_) ?_
    · (try simp only [hd, if_true]); go_simp
    simp only [Act.put, List.setIfInBounds_toArray, List.set_cons_zero, List.set_cons_succ]
    refine st_sym (!c2) (by cases c2 <;> rfl) (.bool (!b4)) (fun hd => ?_) ?_
    · (try simp only [hd, if_true]); go_simp
    simp only [Act.put, List.setIfInBounds_toArray, List.set_cons_zero, List.set_cons_succ]
    refine st_sym ((!c2 && !b4)) (by cases c2 <;> cases b4 <;> rfl) (.pointer (some ⟨w.heap.size, 4, none⟩)) (fun hd => ?_) ?_
    · (try simp only [hd, if_true]); go_simp
    simp only [Act.put, List.setIfInBounds_toArray, List.set_cons_zero, List.set_cons_succ]
    refine st_sym ((!c2 && !b4)) (by cases c2 <;> cases b4 <;> rfl) (.int .i64 a.med) (fun hd => ?_) ?_
    · (try simp only [hd, if_true]); go_simp
    simp only [Act.put, List.setIfInBounds_toArray, List.set_cons_zero, List.set_cons_succ]
    refine st_sym ((!c2 && !b4)) (by cases c2 <;> cases b4 <;> rfl) (.bool n4) (fun hd => ?_) ?_
    · (try simp only [hd, if_true]); go_simp
    simp only [Act.put, List.setIfInBounds_toArray, List.set_cons_zero, List.set_cons_succ]
    refine st_sym (!c2) (by cases c2 <;> rfl) (.bool (!b4 && n4)) (fun hd => ?_) ?_
    · cases c2 <;> cases b4 <;> first | contradiction | (go_simp; try rfl)
    simp only [Act.put, List.setIfInBounds_toArray, List.set_cons_zero, List.set_cons_succ]
    refine st_sym (true) (by rfl) (.bool (c2 || (!b4 && n4))) (fun hd => ?_) ?_
    · cases c2 <;> cases b4 <;> (go_simp; try rfl)
    simp only [Act.put, List.setIfInBounds_toArray, List.set_cons_zero, List.set_cons_succ]
    refine st_sym (true) (by rfl) (.bool (c2 || (!b4 && n4))) (fun hd => ?_) ?_
    · go_simp
    simp only [Act.put, List.setIfInBounds_toArray, List.set_cons_zero, List.set_cons_succ]
    simp only [if_true]
    generalize hc3 : (c2 || (!b4 && n4)) = c3 at V ⊢
    clear hc3
    refine st_sym (!c3) (by cases c3 <;> rfl) (.pointer (some ⟨w.heap.size, 0, none⟩)) (fun hd => ?_) ?_
    · go_simp
    simp only [Act.put, List.setIfInBounds_toArray, List.set_cons_zero, List.set_cons_succ]
    refine st_sym (!c3) (by cases c3 <;> rfl) (.int .i64 a.has) (fun hd => ?_) ?_
    · (try simp only [hd, if_true]); go_simp
    simp only [Act.put, List.setIfInBounds_toArray, List.set_cons_zero, List.set_cons_succ]
    refine st_call (!c3) (by cases c3 <;> rfl) 34 #[.int .i64 a.has, .int .i64 5] (.bool b5) (fun hd => ?_) (T5.out W0) ?_
    · (try simp only [hd, if_true]); go_simp
    simp only [Act.put, List.setIfInBounds_toArray, List.set_cons_zero, List.set_cons_succ]
    refine st_sym (!c3) (by cases c3 <;> rfl) (.bool (!b5)) (fun hd => ?_) ?_
    · (try simp only [hd, if_true]); go_simp
    simp only [Act.put, List.setIfInBounds_toArray, List.set_cons_zero, List.set_cons_succ]
    refine st_sym (!c3) (by cases c3 <;> rfl) (.bool (!b5)) (fun hd => ?_) ?_
    · (try simp only [hd, if_true]); go_simp
    simp only [Act.put, List.setIfInBounds_toArray, List.set_cons_zero, List.set_cons_succ]
    refine st_sym ((!c3 && !b5)) (by cases c3 <;> cases b5 <;> rfl) (.pointer (some ⟨w.heap.size, 5, none⟩)) (fun hd => ?_) ?_
    · (try simp only [hd, if_true]); go_simp
    simp only [Act.put, List.setIfInBounds_toArray, List.set_cons_zero, List.set_cons_succ]
    refine st_sym ((!c3 && !b5)) (by cases c3 <;> cases b5 <;> rfl) (.int .i64 a.loc) (fun hd => ?_) ?_
    · (try simp only [hd, if_true]); go_simp
    simp only [Act.put, List.setIfInBounds_toArray, List.set_cons_zero, List.set_cons_succ]
    refine st_sym ((!c3 && !b5)) (by cases c3 <;> cases b5 <;> rfl) (.bool n5) (fun hd => ?_) ?_
    · (try simp only [hd, if_true]); go_simp
    simp only [Act.put, List.setIfInBounds_toArray, List.set_cons_zero, List.set_cons_succ]
    refine st_sym (!c3) (by cases c3 <;> rfl) (.bool (!b5 && n5)) (fun hd => ?_) ?_
    · cases c3 <;> cases b5 <;> first | contradiction | (go_simp; try rfl)
    simp only [Act.put, List.setIfInBounds_toArray, List.set_cons_zero, List.set_cons_succ]
    refine st_sym (true) (by rfl) (.bool (c3 || (!b5 && n5))) (fun hd => ?_) ?_
    · cases c3 <;> cases b5 <;> (go_simp; try rfl)
    simp only [Act.put, List.setIfInBounds_toArray, List.set_cons_zero, List.set_cons_succ]
    refine st_sym (true) (by rfl) (.bool (c3 || (!b5 && n5))) (fun hd => ?_) ?_
    · go_simp
    simp only [Act.put, List.setIfInBounds_toArray, List.set_cons_zero, List.set_cons_succ]
    simp only [if_true]
    generalize hc4 : (c3 || (!b5 && n5)) = c4 at V ⊢
    clear hc4
    refine st_sym (!c4) (by cases c4 <;> rfl) (.pointer (some ⟨w.heap.size, 0, none⟩)) (fun hd => ?_) ?_
    · go_simp
    simp only [Act.put, List.setIfInBounds_toArray, List.set_cons_zero, List.set_cons_succ]
    refine st_sym (!c4) (by cases c4 <;> rfl) (.int .i64 a.has) (fun hd => ?_) ?_
    · (try simp only [hd, if_true]); go_simp
    simp only [Act.put, List.setIfInBounds_toArray, List.set_cons_zero, List.set_cons_succ]
    refine st_call (!c4) (by cases c4 <;> rfl) 34 #[.int .i64 a.has, .int .i64 7] (.bool b7) (fun hd => ?_) (T7.out W0) ?_
    · (try simp only [hd, if_true]); go_simp
    simp only [Act.put, List.setIfInBounds_toArray, List.set_cons_zero, List.set_cons_succ]
    refine st_sym (!c4) (by cases c4 <;> rfl) (.bool (!b7)) (fun hd => ?_) ?_
    · (try simp only [hd, if_true]); go_simp
    simp only [Act.put, List.setIfInBounds_toArray, List.set_cons_zero, List.set_cons_succ]
    refine st_sym (!c4) (by cases c4 <;> rfl) (.bool (!b7)) (fun hd => ?_) ?_
    · (try simp only [hd, if_true]); go_simp
    simp only [Act.put, List.setIfInBounds_toArray, List.set_cons_zero, List.set_cons_succ]
    refine st_sym ((!c4 && !b7)) (by cases c4 <;> cases b7 <;> rfl) (.pointer (some ⟨w.heap.size, 6, none⟩)) (fun hd => ?_) ?_
    · (try simp only [hd, if_true]); go_simp
    simp only [Act.put, List.setIfInBounds_toArray, List.set_cons_zero, List.set_cons_succ]
    refine st_sym ((!c4 && !b7)) (by cases c4 <;> cases b7 <;> rfl) (.int .i64 a.aggrAs) (fun hd => ?_) ?_
    · (try simp only [hd, if_true]); go_simp
    simp only [Act.put, List.setIfInBounds_toArray, List.set_cons_zero, List.set_cons_succ]
    refine st_sym ((!c4 && !b7)) (by cases c4 <;> cases b7 <;> rfl) (.bool n7) (fun hd => ?_) ?_
    · (try simp only [hd, if_true]); go_simp
    simp only [Act.put, List.setIfInBounds_toArray, List.set_cons_zero, List.set_cons_succ]
    refine st_sym ((!c4 && !b7)) (by cases c4 <;> cases b7 <;> rfl) (.bool n7) (fun hd => ?_) ?_
    · (try simp only [hd, if_true]); go_simp
    simp only [Act.put, List.setIfInBounds_toArray, List.set_cons_zero, List.set_cons_succ]
    refine st_sym (((!c4 && !b7) && !n7)) (by cases c4 <;> cases b7 <;> cases n7 <;> rfl) (.pointer (some ⟨w.heap.size, 7, none⟩)) (fun hd => ?_) ?_
    · (try simp only [hd, if_true]); go_simp
    simp only [Act.put, List.setIfInBounds_toArray, List.set_cons_zero, List.set_cons_succ]
    refine st_sym (((!c4 && !b7) && !n7)) (by cases c4 <;> cases b7 <;> cases n7 <;> rfl) (.int .i64 a.aggrId) (fun hd => ?_) ?_
    · (try simp only [hd, if_true]); go_simp
    simp only [Act.put, List.setIfInBounds_toArray, List.set_cons_zero, List.set_cons_succ]
    refine st_sym (((!c4 && !b7) && !n7)) (by cases c4 <;> cases b7 <;> cases n7 <;> rfl) (.bool m7) (fun hd => ?_) ?_
    · (try simp only [hd, if_true]); go_simp
    simp only [Act.put, List.setIfInBounds_toArray, List.set_cons_zero, List.set_cons_succ]
    refine st_sym ((!c4 && !b7)) (by cases c4 <;> cases b7 <;> rfl) (.bool (n7 || m7)) (fun hd => ?_) ?_
    · cases c4 <;> cases b7 <;> cases n7 <;> first | contradiction | (go_simp; try rfl)
    simp only [Act.put, List.setIfInBounds_toArray, List.set_cons_zero, List.set_cons_succ]
    refine st_sym (!c4) (by cases c4 <;> rfl) (.bool (!b7 && (n7 || m7))) (fun hd => ?_) ?_
    · cases c4 <;> cases b7 <;> cases n7 <;> cases m7 <;> first | contradiction | (go_simp; try rfl)
    simp only [Act.put, List.setIfInBounds_toArray, List.set_cons_zero, List.set_cons_succ]
    refine st_sym (true) (by rfl) (.bool (c4 || (!b7 && (n7 || m7)))) (fun hd => ?_) ?_
    · cases c4 <;> cases b7 <;> cases n7 <;> cases m7 <;> (go_simp; try rfl)
    simp only [Act.put, List.setIfInBounds_toArray, List.set_cons_zero, List.set_cons_succ]
    refine st_sym (true) (by rfl) (.bool (c4 || (!b7 && (n7 || m7)))) (fun hd => ?_) ?_
    · go_simp
    simp only [Act.put, List.setIfInBounds_toArray, List.set_cons_zero, List.set_cons_succ]
    simp only [if_true]
    generalize hc5 : (c4 || (!b7 && (n7 || m7))) = c5 at V ⊢
    clear hc5
    refine st_sym (!c5) (by cases c5 <;> rfl) (.pointer (some ⟨w.heap.size, 0, none⟩)) (fun hd => ?_) ?_
    · go_simp
    simp only [Act.put, List.setIfInBounds_toArray, List.set_cons_zero, List.set_cons_succ]
    refine st_sym (!c5) (by cases c5 <;> rfl) (.int .i64 a.has) (fun hd => ?_) ?_
    · (try simp only [hd, if_true]); go_simp
    simp only [Act.put, List.setIfInBounds_toArray, List.set_cons_zero, List.set_cons_succ]
    refine st_call (!c5) (by cases c5 <;> rfl) 34 #[.int .i64 a.has, .int .i64 8] (.bool b8) (fun hd => ?_) (T8.out W0) ?_
    · (try simp only [hd, if_true]); go_simp
    simp only [Act.put, List.setIfInBounds_toArray, List.set_cons_zero, List.set_cons_succ]
    refine st_sym (!c5) (by cases c5 <;> rfl) (.bool (!b8)) (fun hd => ?_) ?_
    · (try simp only [hd, if_true]); go_simp
    simp only [Act.put, List.setIfInBounds_toArray, List.set_cons_zero, List.set_cons_succ]
    refine st_sym (!c5) (by cases c5 <;> rfl) (.bool (!b8)) (fun hd => ?_) ?_
    · (try simp only [hd, if_true]); go_simp
    simp only [Act.put, List.setIfInBounds_toArray, List.set_cons_zero, List.set_cons_succ]
    refine st_sym ((!c5 && !b8)) (by cases c5 <;> cases b8 <;> rfl) (.pointer (some ⟨w.heap.size, 8, none⟩)) (fun hd => ?_) ?_
    · (try simp only [hd, if_true]); go_simp
    simp only [Act.put, List.setIfInBounds_toArray, List.set_cons_zero, List.set_cons_succ]
    refine st_sym ((!c5 && !b8)) (by cases c5 <;> cases b8 <;> rfl) (.slice sc a.comms.length cc) (fun hd => ?_) ?_
    · (try simp only [hd, if_true]); go_simp
    simp only [Act.put, List.setIfInBounds_toArray, List.set_cons_zero, List.set_cons_succ]
    refine st_sym ((!c5 && !b8)) (by cases c5 <;> cases b8 <;> rfl) (.int .i64 a.comms.length) (fun hd => ?_) ?_
    · (try simp only [hd, if_true]); go_simp
    simp only [Act.put, List.setIfInBounds_toArray, List.set_cons_zero, List.set_cons_succ]
    refine st_sym ((!c5 && !b8)) (by cases c5 <;> cases b8 <;> rfl) (.bool n8) (fun hd => ?_) ?_
    · (try simp only [hd, if_true]); go_simp
    simp only [Act.put, List.setIfInBounds_toArray, List.set_cons_zero, List.set_cons_succ]
    refine st_sym (!c5) (by cases c5 <;> rfl) (.bool (!b8 && n8)) (fun hd => ?_) ?_
    · cases c5 <;> cases b8 <;> first | contradiction | (go_simp; try rfl)
    simp only [Act.put, List.setIfInBounds_toArray, List.set_cons_zero, List.set_cons_succ]
    refine st_sym (true) (by rfl) (.bool (c5 || (!b8 && n8))) (fun hd => ?_) ?_
    · cases c5 <;> cases b8 <;> (go_simp; try rfl)
    simp only [Act.put, List.setIfInBounds_toArray, List.set_cons_zero, List.set_cons_succ]
    simp only [if_true]
    refine wpList_nil ?_
    refine ‹∀ (a' : Act) (w' : World), Met _ a' w' → _› _ _ ?_
    go_meet
    exact ⟨by rw [V.out], rfl⟩
  case rest =>
  obtain ⟨h126, hw⟩ := hcut
  subst hw
  subst h126
  rcases hk : v6 a with _ | _
  case true =>
    have E : Hid (checkB a = false) := Lib.hid (by rw [← RC.out]; unfold rightB6; rw [K1.out, K4.out, hk]; rfl)
    clear x0 x1 x2 x3 x4 x5 x6 x7 x8 x9
    go_wp2_with fail
    go_ret
    exact ⟨by rw [E.out]; rfl, B0.out⟩
  have K6 := Lib.hid hk
  clear hk
  have H3 : Hid (∀ W, Calls Tryd.prog 34 #[.int .i64 a.has, .int .i64 3] W fun e w' => e = .returned (.bool (bt a 3)) ∧ W = w') := Lib.hid fun W => by
    rw [hh, ← bt_th hh (t := 3) (by decide) (by decide)]; exact r_there h 3 W h511 (by decide)
  have HO : Hid (∀ W, Calls Tryd.prog 40 #[.int .i64 a.hop] W fun e w' => e = .returned (.bool (hopB a.hop)) ∧ W = w') := Lib.hid fun W => r_hop a.hop (by have := HR.out.2.2.1; omega) W
  clear hh h511
  go_upto_region 8 with (fail)
  go_cut [146] from 127 to 146 (fun s wx => s = .bool (v8 a) ∧ W0 = wx)
  case first =>
    have V : Hid (v8 a = vio8 (bt a 3) (hopB a.hop) ((a.hop : Int) != 0)) := Lib.hid rfl
    generalize bt a 3 = b3 at H3 V
    generalize hopB a.hop = hp at HO V
    generalize z3 : ((a.hop : Int) != 0) = n3 at V
    go_wp2_with fail
    refine (H3.out W0).mono ?_
    rintro e w1 ⟨rfl, rfl⟩
    rcases b3 with _ | _
    · go_wp2_with fail
      refine (H3.out W0).mono ?_
      rintro e w1 ⟨rfl, rfl⟩
      rcases n3 with _ | _
      · go_wp2_with fail
        go_meet
        exact ⟨by rw [V.out]; rfl, rfl⟩
      · go_wp2_with fail
        go_meet
        exact ⟨by rw [V.out]; cases hp <;> rfl, rfl⟩
    · go_wp2_with fail
      refine (HO.out W0).mono ?_
      rintro e w1 ⟨rfl, rfl⟩
      rcases hp with _ | _
      · go_wp2_with fail
        go_meet
        exact ⟨by rw [V.out]; rfl, rfl⟩
      · go_wp2_with fail
        refine (H3.out W0).mono ?_
        rintro e w1 ⟨rfl, rfl⟩
        go_wp2_with fail
        go_meet
        exact ⟨by rw [V.out]; rfl, rfl⟩
  case rest =>
  obtain ⟨h146, hw⟩ := hcut
  subst hw
  subst h146
  rcases hk : v8 a with _ | _
  case true =>
    have E : Hid (checkB a = false) := Lib.hid (by rw [← RC.out]; unfold rightB6; rw [K1.out, K4.out, K6.out, hk]; rfl)
    clear x0 x1 x2 x3 x4 x5 x6 x7 x8 x9
    go_wp2_with fail
    go_ret
    exact ⟨by rw [E.out]; rfl, B0.out⟩
  have RN : Hid (checkB a = (pathB a.path && (cmB a && othB 8 a.others))) := Lib.hid (by rw [← RC.out]; unfold rightB6; rw [K1.out, K4.out, K6.out, hk]; simp)
  clear hk RC K1 K4 K6 H3 HO x0 x1 x3 x4 x5 x6 x7 x8 x9
  go_wp2_with fail
  go_loopw [150] (fun t wr => ∃ i : Nat, i ≤ a.path.length ∧ t = .int .i64 i ∧ Hid (∀ j s, j < i → a.path[j]? = some s → segB s = true) ∧ Hid (Below W0.heap.size W0 wr)) (fun t _ => a.path.length - (intOf t).toNat)
  case atStart => exact ⟨0, by omega, rfl, Lib.hid (fun j s hj => by omega), Lib.hid (Below.refl _ _)⟩
  case round =>
    obtain ⟨i, hi, rfl, PO, BR⟩ := hrel
    have BW := Lib.hid (below_on B0.out BR.out)
    by_cases hlt : i < a.path.length
    · obtain ⟨sg, hsg⟩ : ∃ sg, a.path[i]? = some sg := ⟨_, List.getElem?_eq_getElem hlt⟩
      obtain ⟨g, o, c0, c1, rfl, ⟨u, hu, hin⟩, p0, p1⟩ := pair_at (HA.out.below BW.out).1 hsg
      injection hu with e1 e2; injection e2 with e2 _; subst e1; subst e2
      have HI := Lib.hid hin
      obtain ⟨su, cu, rfl, m1, m2, -⟩ := hin
      have ml : sg.2.length ≤ 9223372036854775807 := Nat.le_trans m1 m2
      have SG := Lib.hid hsg
      have IN := Lib.hid (fun W => r_in (sg.2.length : Int) 1 255 W)
      have SB : Hid (segB sg = ((decide ((1 : Int) ≤ (sg.2.length : Int)) && decide ((sg.2.length : Int) ≤ 255)) && sg.2.all asB)) := Lib.hid (by
        unfold segB
        congr 2
        · rw [Bool.eq_iff_iff]; simp; omega
        · rw [Bool.eq_iff_iff]; simp; omega)
      have BAD : Hid (segB sg = false → checkB a = false) := Lib.hid fun h => by
        rw [RN.out]
        have : pathB a.path = false := by
          unfold pathB
          rw [Bool.eq_false_iff, ne_eq, List.all_eq_true]
          intro hh
          have := hh sg (List.mem_of_getElem? SG.out)
          rw [h] at this; cases this
        rw [this]; rfl
      have i0 : (0 : Int) ≤ (i : Int) := by omega
      have i1 : (i : Int) < (a.path.length : Int) := by omega
      clear hsg m1 m2
      generalize (decide ((1 : Int) ≤ (sg.2.length : Int)) && decide ((sg.2.length : Int) ≤ 255)) = z at IN SB
      go_upto_region 13 with (fail)
      obtain ⟨W2, hW2, q2, hb2, -⟩ := box1 wr #[.bool sg.1, .slice su sg.2.length cu] 75
      rw [← hW2]
      have y1 : W2.cell? ⟨wr.heap.size, 1, none⟩ = some (.slice su sg.2.length cu) := row_cell q2 1
      have B2 := Lib.hid (below_on BR.out hb2)
      have H2 := Lib.hid (IntsAt.below HI.out hb2)
      clear hW2 p0 p1 q2 hb2 BR BW HI
      go_wp2_with fail
      refine (IN.out W2).mono ?_
      rintro e w3 ⟨rfl, rfl⟩
      cases z with
      | false =>
        have E : Hid (checkB a = false) := Lib.hid (BAD.out (by rw [SB.out]; rfl))
        clear y1
        go_wp2_with fail
        go_ret
        exact ⟨by rw [E.out]; rfl, below_on B0.out B2.out⟩
      | true =>
        go_wp2_with fail
        clear y1
        go_loopw [162] (fun t wr => ∃ j : Nat, j ≤ sg.2.length ∧ t = .int .i64 j ∧ Hid (∀ k x, k < j → sg.2[k]? = some x → asB x = true) ∧ W2 = wr) (fun t _ => sg.2.length - (intOf t).toNat)
        case atStart => exact ⟨0, by omega, rfl, Lib.hid (fun j s hj => by omega), rfl⟩
        case round =>
          obtain ⟨j, hj, rfl, AO, hw⟩ := hrel
          subst hw
          by_cases hjk : j < sg.2.length
          · obtain ⟨x, hx⟩ : ∃ x, sg.2[j]? = some x := ⟨_, List.getElem?_eq_getElem hjk⟩
            obtain ⟨g2, o2, rfl, c4⟩ := int_at H2.out hx
            have j0 : (0 : Int) ≤ (j : Int) := by omega
            have j1 : (j : Int) < (sg.2.length : Int) := by omega
            have IX : Hid (∀ W, Calls Tryd.prog 39 #[.int .i64 x, .int .i64 1, .int .i64 65535] W fun e w' => e = .returned (.bool (asB x)) ∧ W = w') := Lib.hid (fun W => r_in x 1 65535 W)
            have HX := Lib.hid hx
            generalize hz : asB x = z at IX
            have HZ := Lib.hid hz
            clear hx hz
            go_wp2_with fail
            refine (IX.out W2).mono ?_
            rintro e w4 ⟨rfl, rfl⟩
            cases z with
            | false =>
              have E : Hid (checkB a = false) := Lib.hid (BAD.out (by
                rw [SB.out, Bool.true_and, Bool.eq_false_iff, ne_eq, List.all_eq_true]
                intro hh
                have := hh x (List.mem_of_getElem? HX.out)
                rw [HZ.out] at this; cases this))
              clear c4
              go_wp2_with fail
              go_ret
              exact ⟨by rw [E.out]; rfl, below_on B0.out B2.out⟩
            | true =>
              have AN : Hid (∀ k x, k < j + 1 → sg.2[k]? = some x → asB x = true) := Lib.hid fun k y hk hy => by
                by_cases e : k = j
                · subst e
                  rw [HX.out] at hy
                  rw [← Option.some.inj hy]; exact HZ.out
                · exact AO.out k y (by omega) hy
              clear c4 AO
              go_wp2_with fail
              exact ⟨⟨j + 1, by omega, by go_num, AN, trivial⟩, by simp [intOf]; omega⟩
          · obtain rfl : j = sg.2.length := by omega
            have PN : Hid (∀ j s, j < i + 1 → a.path[j]? = some s → segB s = true) := Lib.hid fun k y hk hy => by
              by_cases e : k = i
              · subst e
                rw [SG.out] at hy
                rw [← Option.some.inj hy, SB.out, Bool.true_and, List.all_eq_true]
                intro x hx
                obtain ⟨k, hk⟩ := List.mem_iff_getElem?.1 hx
                exact AO.out k x (List.getElem?_eq_some_iff.1 hk).1 hk
              · exact PO.out k y (by omega) hy
            clear hjk hj AO PO
            go_wp2_with fail
            refine ⟨?_, by simp [intOf]; omega⟩
            (repeat apply Exists.intro)
            exact ⟨⟨i + 1, by omega, by go_num, PN, B2⟩, rfl⟩
    · obtain rfl : i = a.path.length := by omega
      have PT : Hid (pathB a.path = true) := Lib.hid (by
        unfold pathB
        rw [List.all_eq_true]
        intro x hx
        obtain ⟨k, hk⟩ := List.mem_iff_getElem?.1 hx
        exact PO.out k x (List.getElem?_eq_some_iff.1 hk).1 hk)
      clear hi hlt PO
      have y8 : wr.cell? ⟨w.heap.size, 8, none⟩ = some (.slice sc a.comms.length cc) := row_cell ((BR.out.block _ (row_lt QA.out)).trans QA.out) 8
      go_wp2_with fail
      clear y8
      go_loopw [174] (fun t wr => ∃ i : Nat, i ≤ a.comms.length ∧ t = .int .i64 i ∧ Hid (∀ j x, j < i → a.comms[j]? = some x → withinB x 4294967295 = true) ∧ Hid (Below W0.heap.size W0 wr)) (fun t _ => a.comms.length - (intOf t).toNat)
      case atStart => exact ⟨0, by omega, rfl, Lib.hid (fun j s hj => by omega), BR⟩
      case round =>
        clear BR BW
        obtain ⟨i, hi, rfl, CO, BR⟩ := hrel
        have BW := Lib.hid (below_on B0.out BR.out)
        by_cases hlt : i < a.comms.length
        · obtain ⟨x, hx⟩ : ∃ x, a.comms[i]? = some x := ⟨_, List.getElem?_eq_getElem hlt⟩
          obtain ⟨g2, o2, rfl, c4⟩ := int_at (HA.out.below BW.out).2.1 hx
          have j0 : (0 : Int) ≤ (i : Int) := by omega
          have j1 : (i : Int) < (a.comms.length : Int) := by omega
          have IX : Hid (∀ W, Calls Tryd.prog 39 #[.int .i64 x, .int .i64 0, .int .i64 4294967295] W fun e w' => e = .returned (.bool (withinB x 4294967295)) ∧ W = w') := Lib.hid (fun W => r_in x 0 4294967295 W)
          have HX := Lib.hid hx
          generalize hz : withinB x 4294967295 = z at IX
          have HZ := Lib.hid hz
          clear hx hz
          go_wp2_with fail
          refine (IX.out wr).mono ?_
          rintro e w4 ⟨rfl, rfl⟩
          cases z with
          | false =>
            have E : Hid (checkB a = false) := Lib.hid (by
              rw [RN.out, PT.out]
              have : cmB a = false := by
                unfold cmB
                rw [Bool.eq_false_iff, ne_eq, List.all_eq_true]
                intro hh
                have := hh x (List.mem_of_getElem? HX.out)
                rw [HZ.out] at this; cases this
              rw [this]; rfl)
            clear c4
            go_wp2_with fail
            go_ret
            exact ⟨by rw [E.out]; rfl, BW.out⟩
          | true =>
            have CN : Hid (∀ k x, k < i + 1 → a.comms[k]? = some x → withinB x 4294967295 = true) := Lib.hid fun k y hk hy => by
              by_cases e : k = i
              · subst e
                rw [HX.out] at hy
                rw [← Option.some.inj hy]; exact HZ.out
              · exact CO.out k y (by omega) hy
            clear c4 CO
            go_wp2_with fail
            refine ⟨?_, by simp [intOf]; omega⟩
            (repeat apply Exists.intro)
            exact ⟨⟨i + 1, by omega, by go_num, CN, BR⟩, rfl⟩
        · obtain rfl : i = a.comms.length := by omega
          have RN2 : Hid (checkB a = othB 8 a.others) := Lib.hid (by
            rw [RN.out, PT.out]
            have : cmB a = true := by
              unfold cmB
              rw [List.all_eq_true]
              intro x hx
              obtain ⟨k, hk⟩ := List.mem_iff_getElem?.1 hx
              exact CO.out k x (List.getElem?_eq_some_iff.1 hk).1 hk
            rw [this]; rfl)
          clear hi hlt CO RN PT
          have y9 : wr.cell? ⟨w.heap.size, 9, none⟩ = some (.slice so a.others.length co) := row_cell ((BR.out.block _ (row_lt QA.out)).trans QA.out) 9
          go_wp2_with fail
          clear y9
          go_loopw [186] (fun t wr => ∃ i : Nat, i ≤ a.others.length ∧ t = .int .i64 i ∧ Hid (othB 8 a.others = othB (lastO 8 (a.others.take i)) (a.others.drop i)) ∧ Hid (8 ≤ lastO 8 (a.others.take i)) ∧ Hid (Below W0.heap.size W0 wr)) (fun t _ => a.others.length - (intOf t).toNat)
          case atStart => exact ⟨0, by omega, rfl, Lib.hid (by simp [lastO]), Lib.hid (by simp [lastO]), BR⟩
          case round =>
            clear BR BW
            obtain ⟨i, hi, rfl, OE, OL, BR⟩ := hrel
            have BW := Lib.hid (below_on B0.out BR.out)
            by_cases hlt : i < a.others.length
            · obtain ⟨sg, hsg⟩ : ∃ sg, a.others[i]? = some sg := ⟨_, List.getElem?_eq_getElem hlt⟩
              obtain ⟨g, o, c0, c1, rfl, ⟨u, hu, hrg, hin⟩, p0, p1⟩ := pair_at (HA.out.below BW.out).2.2 hsg
              injection hu with e1 e2; injection e2 with e2 _; subst e1; subst e2
              obtain ⟨su, cu, rfl, -⟩ := hin
              obtain ⟨s1, s2⟩ := oth_step 8 hsg
              have SG := Lib.hid hsg
              have S1 := Lib.hid s1
              have S2 := Lib.hid s2
              have IX : Hid (∀ W, Calls Tryd.prog 39 #[.int .i64 sg.1, .int .i64 9, .int .i64 255] W fun e w' => e = .returned (.bool (decide (9 ≤ sg.1) && decide (sg.1 ≤ 255))) ∧ Below W.heap.size W w') := Lib.hid (fun W => (r_in sg.1 9 255 W).mono fun _ _ ⟨h1, h2⟩ => ⟨h1, h2 ▸ Below.refl _ _⟩)
              have i0 : (0 : Int) ≤ (i : Int) := by omega
              have i1 : (i : Int) < (a.others.length : Int) := by omega
              clear hsg s1 s2 hrg
              go_upto_region 31 with (fail)
              obtain ⟨W2, hW2, q2, hb2, -⟩ := box1 wr #[.int .i64 sg.1, .slice su sg.2.length cu] 76
              rw [← hW2]
              have y0 : W2.cell? ⟨wr.heap.size, 0, none⟩ = some (.int .i64 sg.1) := row_cell q2 0
              have B2 := Lib.hid (below_on BR.out hb2)
              have BZ := Lib.hid (below_on B0.out B2.out)
              have y9 : W2.cell? ⟨w.heap.size, 9, none⟩ = some (.slice (some ⟨g, o, none⟩) a.others.length co) := row_cell ((B2.out.block _ (row_lt QA.out)).trans QA.out) 9
              clear hW2 q2 hb2 p0 p1 BR BW
              rcases hz : (decide (9 ≤ sg.1) && decide (sg.1 ≤ 255)) with _ | _
              · have E : Hid (checkB a = false) := Lib.hid (by
                  rw [RN2.out, OE.out, S1.out]
                  have h8 := OL.out
                  simp only [Bool.and_eq_false_iff, decide_eq_false_iff_not] at hz ⊢
                  omega)
                rw [hz] at IX
                clear hz OE OL S1 S2
                refine wp_region_held_drew (S := fun w' => Below W2.heap.size W2 w') (by kernel_rfl) ?_ (fun hHeld => ?_)
                · exact (Below.refl _ _).drew
                refine rgy (i := 0) (v := ?_) (atN rfl) (by kernel_rfl) (fun _ _ _ h => h) ?_ ?_ hHeld ?_; rotate_left 1; (· rfl); (· intro w' hSw; (try clear hHeld); go_simp; try with_reducible rfl)
                try simp only [Act.put, List.setIfInBounds_toArray, List.set_cons_zero, List.set_cons_succ]
                refine rgy (i := 1) (v := ?_) (atN rfl) (by kernel_rfl) (fun _ _ _ h => h) ?_ ?_ hHeld ?_; rotate_left 1; (· rfl); (· intro w' hSw; have y0 := cell_below y0 hSw; have y9 := cell_below y9 hSw; (try clear hHeld); go_simp; try with_reducible rfl)
                try simp only [Act.put, List.setIfInBounds_toArray, List.set_cons_zero, List.set_cons_succ]
                refine rg_call (i := 2) (atN rfl) (by kernel_rfl) ?_ (fun K hK => ?_); (· rfl); (try clear hb); go_simp; (refine (IX.out _).mono ?_; rintro e w1 ⟨rfl, hb⟩); go_wp2_with fail; refine hK.out _ _ ?_ (fun hHeld => ?_); (· exact hHeld.trans (hb.mono hHeld.size)); clear hK K
                try simp only [Act.put, List.setIfInBounds_toArray, List.set_cons_zero, List.set_cons_succ]
                refine rgy (i := 3) (v := ?_) (atN rfl) (by kernel_rfl) (fun _ _ _ h => h) ?_ ?_ hHeld ?_; rotate_left 1; (· rfl); (· intro w' hSw; (try clear hHeld); go_simp; try with_reducible rfl)
                try simp only [Act.put, List.setIfInBounds_toArray, List.set_cons_zero, List.set_cons_succ]
                refine rgy (i := 4) (v := ?_) (atN rfl) (by kernel_rfl) (fun _ _ _ h => h) ?_ ?_ hHeld ?_; rotate_left 1; (· rfl); (· intro w' hSw; (try clear hHeld); go_simp; try with_reducible rfl)
                try simp only [Act.put, List.setIfInBounds_toArray, List.set_cons_zero, List.set_cons_succ]
                first | (refine rgn (i := 5) (atN rfl) (by kernel_rfl) (fun _ _ _ h => h) ?_ hHeld ?_; (· rfl)) | (refine rgy (i := 5) (v := ?_) (atN rfl) (by kernel_rfl) (fun _ _ _ h => h) ?_ ?_ hHeld ?_; rotate_left 1; (· rfl); (· intro w' hSw; (try clear hHeld); go_simp; try with_reducible rfl))
                try simp only [Act.put, List.setIfInBounds_toArray, List.set_cons_zero, List.set_cons_succ]
                first | (refine rgn (i := 6) (atN rfl) (by kernel_rfl) (fun _ _ _ h => h) ?_ hHeld ?_; (· rfl)) | (refine rgy (i := 6) (v := ?_) (atN rfl) (by kernel_rfl) (fun _ _ _ h => h) ?_ ?_ hHeld ?_; rotate_left 1; (· rfl); (· intro w' hSw; (try clear hHeld); go_simp; try with_reducible rfl))
                try simp only [Act.put, List.setIfInBounds_toArray, List.set_cons_zero, List.set_cons_succ]
                first | (refine rgn (i := 7) (atN rfl) (by kernel_rfl) (fun _ _ _ h => h) ?_ hHeld ?_; (· rfl)) | (refine rgy (i := 7) (v := ?_) (atN rfl) (by kernel_rfl) (fun _ _ _ h => h) ?_ ?_ hHeld ?_; rotate_left 1; (· rfl); (· intro w' hSw; (try clear hHeld); go_simp; try with_reducible rfl))
                try simp only [Act.put, List.setIfInBounds_toArray, List.set_cons_zero, List.set_cons_succ]
                first | (refine rgn (i := 8) (atN rfl) (by kernel_rfl) (fun _ _ _ h => h) ?_ hHeld ?_; (· rfl)) | (refine rgy (i := 8) (v := ?_) (atN rfl) (by kernel_rfl) (fun _ _ _ h => h) ?_ ?_ hHeld ?_; rotate_left 1; (· rfl); (· intro w' hSw; (try clear hHeld); go_simp; try with_reducible rfl))
                try simp only [Act.put, List.setIfInBounds_toArray, List.set_cons_zero, List.set_cons_succ]
                first | (refine rgn (i := 9) (atN rfl) (by kernel_rfl) (fun _ _ _ h => h) ?_ hHeld ?_; (· rfl)) | (refine rgy (i := 9) (v := ?_) (atN rfl) (by kernel_rfl) (fun _ _ _ h => h) ?_ ?_ hHeld ?_; rotate_left 1; (· rfl); (· intro w' hSw; have y0 := cell_below y0 hSw; have y9 := cell_below y9 hSw; (try clear hHeld); go_simp; try with_reducible rfl))
                try simp only [Act.put, List.setIfInBounds_toArray, List.set_cons_zero, List.set_cons_succ]
                first | (refine rgn (i := 10) (atN rfl) (by kernel_rfl) (fun _ _ _ h => h) ?_ hHeld ?_; (· rfl)) | (refine rgy (i := 10) (v := ?_) (atN rfl) (by kernel_rfl) (fun _ _ _ h => h) ?_ ?_ hHeld ?_; rotate_left 1; (· rfl); (· intro w' hSw; (try clear hHeld); go_simp; try with_reducible rfl))
                try simp only [Act.put, List.setIfInBounds_toArray, List.set_cons_zero, List.set_cons_succ]
                first | (refine rgn (i := 11) (atN rfl) (by kernel_rfl) (fun _ _ _ h => h) ?_ hHeld ?_; (· rfl)) | (refine rgy (i := 11) (v := ?_) (atN rfl) (by kernel_rfl) (fun _ _ _ h => h) ?_ ?_ hHeld ?_; rotate_left 1; (· rfl); (· intro w' hSw; (try clear hHeld); go_simp; try with_reducible rfl))
                try simp only [Act.put, List.setIfInBounds_toArray, List.set_cons_zero, List.set_cons_succ]
                first | (refine rgn (i := 12) (atN rfl) (by kernel_rfl) (fun _ _ _ h => h) ?_ hHeld ?_; (· rfl)) | (refine rgy (i := 12) (v := ?_) (atN rfl) (by kernel_rfl) (fun _ _ _ h => h) ?_ ?_ hHeld ?_; rotate_left 1; (· rfl); (· intro w' hSw; have y0 := cell_below y0 hSw; have y9 := cell_below y9 hSw; (try clear hHeld); go_simp; try with_reducible rfl))
                try simp only [Act.put, List.setIfInBounds_toArray, List.set_cons_zero, List.set_cons_succ]
                first | (refine rgn (i := 13) (atN rfl) (by kernel_rfl) (fun _ _ _ h => h) ?_ hHeld ?_; (· rfl)) | (refine rgy (i := 13) (v := ?_) (atN rfl) (by kernel_rfl) (fun _ _ _ h => h) ?_ ?_ hHeld ?_; rotate_left 1; (· rfl); (· intro w' hSw; (try clear hHeld); go_simp; try with_reducible rfl))
                try simp only [Act.put, List.setIfInBounds_toArray, List.set_cons_zero, List.set_cons_succ]
                first | (refine rgn (i := 14) (atN rfl) (by kernel_rfl) (fun _ _ _ h => h) ?_ hHeld ?_; (· rfl)) | (refine rgy (i := 14) (v := ?_) (atN rfl) (by kernel_rfl) (fun _ _ _ h => h) ?_ ?_ hHeld ?_; rotate_left 1; (· rfl); (· intro w' hSw; have y0 := cell_below y0 hSw; have y9 := cell_below y9 hSw; (try clear hHeld); go_simp; try with_reducible rfl))
                try simp only [Act.put, List.setIfInBounds_toArray, List.set_cons_zero, List.set_cons_succ]
                first | (refine rgn (i := 15) (atN rfl) (by kernel_rfl) (fun _ _ _ h => h) ?_ hHeld ?_; (· rfl)) | (refine rgy (i := 15) (v := ?_) (atN rfl) (by kernel_rfl) (fun _ _ _ h => h) ?_ ?_ hHeld ?_; rotate_left 1; (· rfl); (· intro w' hSw; (try clear hHeld); go_simp; try with_reducible rfl))
                try simp only [Act.put, List.setIfInBounds_toArray, List.set_cons_zero, List.set_cons_succ]
                first | (refine rgn (i := 16) (atN rfl) (by kernel_rfl) (fun _ _ _ h => h) ?_ hHeld ?_; (· rfl)) | (refine rgy (i := 16) (v := ?_) (atN rfl) (by kernel_rfl) (fun _ _ _ h => h) ?_ ?_ hHeld ?_; rotate_left 1; (· rfl); (· intro w' hSw; have y0 := cell_below y0 hSw; have y9 := cell_below y9 hSw; (try clear hHeld); go_simp; try with_reducible rfl))
                try simp only [Act.put, List.setIfInBounds_toArray, List.set_cons_zero, List.set_cons_succ]
                first | (refine rgn (i := 17) (atN rfl) (by kernel_rfl) (fun _ _ _ h => h) ?_ hHeld ?_; (· rfl)) | (refine rgy (i := 17) (v := ?_) (atN rfl) (by kernel_rfl) (fun _ _ _ h => h) ?_ ?_ hHeld ?_; rotate_left 1; (· rfl); (· intro w' hSw; (try clear hHeld); go_simp; try with_reducible rfl))
                try simp only [Act.put, List.setIfInBounds_toArray, List.set_cons_zero, List.set_cons_succ]
                first | (refine rgn (i := 18) (atN rfl) (by kernel_rfl) (fun _ _ _ h => h) ?_ hHeld ?_; (· rfl)) | (refine rgy (i := 18) (v := ?_) (atN rfl) (by kernel_rfl) (fun _ _ _ h => h) ?_ ?_ hHeld ?_; rotate_left 1; (· rfl); (· intro w' hSw; (try clear hHeld); go_simp; try with_reducible rfl))
                try simp only [Act.put, List.setIfInBounds_toArray, List.set_cons_zero, List.set_cons_succ]
                refine rgy (i := 19) (v := ?_) (atN rfl) (by kernel_rfl) (fun _ _ _ h => h) ?_ ?_ hHeld ?_; rotate_left 1; (· rfl); (· intro w' hSw; (try clear hHeld); go_simp; try with_reducible rfl)
                try simp only [Act.put, List.setIfInBounds_toArray, List.set_cons_zero, List.set_cons_succ]
                refine wpAnyH_done (by kernel_rfl) ?_ _
                have BN := Lib.hid (below_on BZ.out hHeld)
                clear y0 y9 hHeld IX
                go_wp2_with fail
                go_ret
                exact ⟨by rw [E.out]; rfl, BN.out⟩
              · have h9 : 9 ≤ sg.1 ∧ sg.1 ≤ 255 := by simpa using hz
                have H9 := Lib.hid h9
                rw [hz] at IX
                clear hz h9
                rcases i with _ | k
                · have d0 : decide (((0 : Nat) : Int) > 0) = false := by simp
                  have ON : Hid (othB 8 a.others = othB (lastO 8 (a.others.take 1)) (a.others.drop 1)) := Lib.hid (by
                    rw [OE.out, S1.out, S2.out]
                    have : lastO 8 (a.others.take 0) = 8 := by simp [lastO]
                    rw [this, decide_eq_true (show (8 : Int) < sg.1 by have := H9.out; omega), decide_eq_true H9.out.2]; rfl)
                  have LN : Hid (8 ≤ lastO 8 (a.others.take 1)) := Lib.hid (by rw [S2.out]; have := H9.out; omega)
                  clear OE OL S1 S2
                  refine wp_region_held_drew (S := fun w' => Below W2.heap.size W2 w') (by kernel_rfl) ?_ (fun hHeld => ?_)
                  · exact (Below.refl _ _).drew
                  refine rgy (i := 0) (v := ?_) (atN rfl) (by kernel_rfl) (fun _ _ _ h => h) ?_ ?_ hHeld ?_; rotate_left 1; (· rfl); (· intro w' hSw; (try clear hHeld); go_simp; try with_reducible rfl)
                  try simp only [Act.put, List.setIfInBounds_toArray, List.set_cons_zero, List.set_cons_succ]
                  refine rgy (i := 1) (v := ?_) (atN rfl) (by kernel_rfl) (fun _ _ _ h => h) ?_ ?_ hHeld ?_; rotate_left 1; (· rfl); (· intro w' hSw; have y0 := cell_below y0 hSw; have y9 := cell_below y9 hSw; (try clear hHeld); go_simp; try with_reducible rfl)
                  try simp only [Act.put, List.setIfInBounds_toArray, List.set_cons_zero, List.set_cons_succ]
                  refine rg_call (i := 2) (atN rfl) (by kernel_rfl) ?_ (fun K hK => ?_); (· rfl); (try clear hb); go_simp; (refine (IX.out _).mono ?_; rintro e w1 ⟨rfl, hb⟩); go_wp2_with fail; refine hK.out _ _ ?_ (fun hHeld => ?_); (· exact hHeld.trans (hb.mono hHeld.size)); clear hK K
                  try simp only [Act.put, List.setIfInBounds_toArray, List.set_cons_zero, List.set_cons_succ]
                  refine rgy (i := 3) (v := ?_) (atN rfl) (by kernel_rfl) (fun _ _ _ h => h) ?_ ?_ hHeld ?_; rotate_left 1; (· rfl); (· intro w' hSw; (try clear hHeld); go_simp; try with_reducible rfl)
                  try simp only [Act.put, List.setIfInBounds_toArray, List.set_cons_zero, List.set_cons_succ]
                  refine rgy (i := 4) (v := ?_) (atN rfl) (by kernel_rfl) (fun _ _ _ h => h) ?_ ?_ hHeld ?_; rotate_left 1; (· rfl); (· intro w' hSw; (try clear hHeld); go_simp; try with_reducible rfl)
                  try simp only [Act.put, List.setIfInBounds_toArray, List.set_cons_zero, List.set_cons_succ]
                  first | (refine rgn (i := 5) (atN rfl) (by kernel_rfl) (fun _ _ _ h => h) ?_ hHeld ?_; (· rfl)) | (refine rgy (i := 5) (v := ?_) (atN rfl) (by kernel_rfl) (fun _ _ _ h => h) ?_ ?_ hHeld ?_; rotate_left 1; (· rfl); (· intro w' hSw; (try clear hHeld); go_simp; try with_reducible rfl))
                  try simp only [Act.put, List.setIfInBounds_toArray, List.set_cons_zero, List.set_cons_succ]
                  first | (refine rgn (i := 6) (atN rfl) (by kernel_rfl) (fun _ _ _ h => h) ?_ hHeld ?_; (· rfl)) | (refine rgy (i := 6) (v := ?_) (atN rfl) (by kernel_rfl) (fun _ _ _ h => h) ?_ ?_ hHeld ?_; rotate_left 1; (· rfl); (· intro w' hSw; (try clear hHeld); go_simp; try with_reducible rfl))
                  try simp only [Act.put, List.setIfInBounds_toArray, List.set_cons_zero, List.set_cons_succ]
                  first | (refine rgn (i := 7) (atN rfl) (by kernel_rfl) (fun _ _ _ h => h) ?_ hHeld ?_; (· rfl)) | (refine rgy (i := 7) (v := ?_) (atN rfl) (by kernel_rfl) (fun _ _ _ h => h) ?_ ?_ hHeld ?_; rotate_left 1; (· rfl); (· intro w' hSw; (try clear hHeld); go_simp; try with_reducible rfl))
                  try simp only [Act.put, List.setIfInBounds_toArray, List.set_cons_zero, List.set_cons_succ]
                  first | (refine rgn (i := 8) (atN rfl) (by kernel_rfl) (fun _ _ _ h => h) ?_ hHeld ?_; (· rfl)) | (refine rgy (i := 8) (v := ?_) (atN rfl) (by kernel_rfl) (fun _ _ _ h => h) ?_ ?_ hHeld ?_; rotate_left 1; (· rfl); (· intro w' hSw; (try clear hHeld); go_simp; try with_reducible rfl))
                  try simp only [Act.put, List.setIfInBounds_toArray, List.set_cons_zero, List.set_cons_succ]
                  first | (refine rgn (i := 9) (atN rfl) (by kernel_rfl) (fun _ _ _ h => h) ?_ hHeld ?_; (· rfl)) | (refine rgy (i := 9) (v := ?_) (atN rfl) (by kernel_rfl) (fun _ _ _ h => h) ?_ ?_ hHeld ?_; rotate_left 1; (· rfl); (· intro w' hSw; have y0 := cell_below y0 hSw; have y9 := cell_below y9 hSw; (try clear hHeld); go_simp; try with_reducible rfl))
                  try simp only [Act.put, List.setIfInBounds_toArray, List.set_cons_zero, List.set_cons_succ]
                  first | (refine rgn (i := 10) (atN rfl) (by kernel_rfl) (fun _ _ _ h => h) ?_ hHeld ?_; (· rfl)) | (refine rgy (i := 10) (v := ?_) (atN rfl) (by kernel_rfl) (fun _ _ _ h => h) ?_ ?_ hHeld ?_; rotate_left 1; (· rfl); (· intro w' hSw; (try clear hHeld); go_simp; try with_reducible rfl))
                  try simp only [Act.put, List.setIfInBounds_toArray, List.set_cons_zero, List.set_cons_succ]
                  first | (refine rgn (i := 11) (atN rfl) (by kernel_rfl) (fun _ _ _ h => h) ?_ hHeld ?_; (· rfl)) | (refine rgy (i := 11) (v := ?_) (atN rfl) (by kernel_rfl) (fun _ _ _ h => h) ?_ ?_ hHeld ?_; rotate_left 1; (· rfl); (· intro w' hSw; (try clear hHeld); go_simp; try with_reducible rfl))
                  try simp only [Act.put, List.setIfInBounds_toArray, List.set_cons_zero, List.set_cons_succ]
                  first | (refine rgn (i := 12) (atN rfl) (by kernel_rfl) (fun _ _ _ h => h) ?_ hHeld ?_; (· rfl)) | (refine rgy (i := 12) (v := ?_) (atN rfl) (by kernel_rfl) (fun _ _ _ h => h) ?_ ?_ hHeld ?_; rotate_left 1; (· rfl); (· intro w' hSw; have y0 := cell_below y0 hSw; have y9 := cell_below y9 hSw; (try clear hHeld); go_simp; try with_reducible rfl))
                  try simp only [Act.put, List.setIfInBounds_toArray, List.set_cons_zero, List.set_cons_succ]
                  first | (refine rgn (i := 13) (atN rfl) (by kernel_rfl) (fun _ _ _ h => h) ?_ hHeld ?_; (· rfl)) | (refine rgy (i := 13) (v := ?_) (atN rfl) (by kernel_rfl) (fun _ _ _ h => h) ?_ ?_ hHeld ?_; rotate_left 1; (· rfl); (· intro w' hSw; (try clear hHeld); go_simp; try with_reducible rfl))
                  try simp only [Act.put, List.setIfInBounds_toArray, List.set_cons_zero, List.set_cons_succ]
                  first | (refine rgn (i := 14) (atN rfl) (by kernel_rfl) (fun _ _ _ h => h) ?_ hHeld ?_; (· rfl)) | (refine rgy (i := 14) (v := ?_) (atN rfl) (by kernel_rfl) (fun _ _ _ h => h) ?_ ?_ hHeld ?_; rotate_left 1; (· rfl); (· intro w' hSw; have y0 := cell_below y0 hSw; have y9 := cell_below y9 hSw; (try clear hHeld); go_simp; try with_reducible rfl))
                  try simp only [Act.put, List.setIfInBounds_toArray, List.set_cons_zero, List.set_cons_succ]
                  first | (refine rgn (i := 15) (atN rfl) (by kernel_rfl) (fun _ _ _ h => h) ?_ hHeld ?_; (· rfl)) | (refine rgy (i := 15) (v := ?_) (atN rfl) (by kernel_rfl) (fun _ _ _ h => h) ?_ ?_ hHeld ?_; rotate_left 1; (· rfl); (· intro w' hSw; (try clear hHeld); go_simp; try with_reducible rfl))
                  try simp only [Act.put, List.setIfInBounds_toArray, List.set_cons_zero, List.set_cons_succ]
                  first | (refine rgn (i := 16) (atN rfl) (by kernel_rfl) (fun _ _ _ h => h) ?_ hHeld ?_; (· rfl)) | (refine rgy (i := 16) (v := ?_) (atN rfl) (by kernel_rfl) (fun _ _ _ h => h) ?_ ?_ hHeld ?_; rotate_left 1; (· rfl); (· intro w' hSw; have y0 := cell_below y0 hSw; have y9 := cell_below y9 hSw; (try clear hHeld); go_simp; try with_reducible rfl))
                  try simp only [Act.put, List.setIfInBounds_toArray, List.set_cons_zero, List.set_cons_succ]
                  first | (refine rgn (i := 17) (atN rfl) (by kernel_rfl) (fun _ _ _ h => h) ?_ hHeld ?_; (· rfl)) | (refine rgy (i := 17) (v := ?_) (atN rfl) (by kernel_rfl) (fun _ _ _ h => h) ?_ ?_ hHeld ?_; rotate_left 1; (· rfl); (· intro w' hSw; (try clear hHeld); go_simp; try with_reducible rfl))
                  try simp only [Act.put, List.setIfInBounds_toArray, List.set_cons_zero, List.set_cons_succ]
                  first | (refine rgn (i := 18) (atN rfl) (by kernel_rfl) (fun _ _ _ h => h) ?_ hHeld ?_; (· rfl)) | (refine rgy (i := 18) (v := ?_) (atN rfl) (by kernel_rfl) (fun _ _ _ h => h) ?_ ?_ hHeld ?_; rotate_left 1; (· rfl); (· intro w' hSw; (try clear hHeld); go_simp; try with_reducible rfl))
                  try simp only [Act.put, List.setIfInBounds_toArray, List.set_cons_zero, List.set_cons_succ]
                  refine rgy (i := 19) (v := ?_) (atN rfl) (by kernel_rfl) (fun _ _ _ h => h) ?_ ?_ hHeld ?_; rotate_left 1; (· rfl); (· intro w' hSw; (try clear hHeld); go_simp; try with_reducible rfl)
                  try simp only [Act.put, List.setIfInBounds_toArray, List.set_cons_zero, List.set_cons_succ]
                  refine wpAnyH_done (by kernel_rfl) ?_ _
                  have BN := Lib.hid (below_on B2.out hHeld)
                  clear y0 y9 hHeld IX d0 i0
                  go_wp2_with fail
                  refine ⟨?_, by simp [intOf]; omega⟩
                  (repeat apply Exists.intro)
                  exact ⟨⟨1, by omega, by go_num, ON, LN, BN⟩, rfl⟩
                · obtain ⟨pv, hpv⟩ : ∃ pv, a.others[k]? = some pv := ⟨_, List.getElem?_eq_getElem (by omega)⟩
                  obtain ⟨g', o', c0', c1', eg, ⟨u', hu', -, -⟩, q0, -⟩ := pair_at (HA.out.below BZ.out).2.2 hpv
                  injection eg with eg
                  injection eg with e1 e2 _
                  subst e1; subst e2
                  injection hu' with e1 e2; subst e1
                  have LP : Hid (lastO 8 (a.others.take (k + 1)) = pv.1) := Lib.hid (oth_step 8 hpv).2
                  have d0 : decide (((k + 1 : Nat) : Int) > 0) = true := decide_eq_true (by omega)
                  have kw : IntKind.i64.wrap (k : Int) = (k : Int) := wrap_nat (by omega)
                  have z1 : IntKind.i64.wrap (((k + 1 : Nat) : Int) - 1) = (k : Int) := by rw [show ((k + 1 : Nat) : Int) - 1 = (k : Int) by omega]; exact wrap_nat (by omega)
                  have j0 : (0 : Int) ≤ (k : Int) := by omega
                  have j1 : (k : Int) < (a.others.length : Int) := by omega
                  clear hpv e2
                  rcases hc : decide (pv.1 ≥ sg.1) with _ | _
                  · have ON : Hid (othB 8 a.others = othB (lastO 8 (a.others.take (k + 1 + 1))) (a.others.drop (k + 1 + 1))) := Lib.hid (by
                      rw [OE.out, S1.out, S2.out, LP.out]
                      rw [decide_eq_true (show pv.1 < sg.1 by have := of_decide_eq_false hc; omega), decide_eq_true H9.out.2]; rfl)
                    have LN : Hid (8 ≤ lastO 8 (a.others.take (k + 1 + 1))) := Lib.hid (by rw [S2.out]; have := H9.out; omega)
                    clear OE OL S1 S2
                    refine wp_region_held_drew (S := fun w' => Below W2.heap.size W2 w') (by kernel_rfl) ?_ (fun hHeld => ?_)
                    · exact (Below.refl _ _).drew
                    refine rgy (i := 0) (v := ?_) (atN rfl) (by kernel_rfl) (fun _ _ _ h => h) ?_ ?_ hHeld ?_; rotate_left 1; (· rfl); (· intro w' hSw; (try clear hHeld); go_simp; try with_reducible rfl)
                    try simp only [Act.put, List.setIfInBounds_toArray, List.set_cons_zero, List.set_cons_succ]
                    refine rgy (i := 1) (v := ?_) (atN rfl) (by kernel_rfl) (fun _ _ _ h => h) ?_ ?_ hHeld ?_; rotate_left 1; (· rfl); (· intro w' hSw; have y0 := cell_below y0 hSw; have y9 := cell_below y9 hSw; have q0 := cell_below q0 hSw; (try clear hHeld); go_simp; try with_reducible rfl)
                    try simp only [Act.put, List.setIfInBounds_toArray, List.set_cons_zero, List.set_cons_succ]
                    refine rg_call (i := 2) (atN rfl) (by kernel_rfl) ?_ (fun K hK => ?_); (· rfl); (try clear hb); go_simp; (refine (IX.out _).mono ?_; rintro e w1 ⟨rfl, hb⟩); go_wp2_with fail; refine hK.out _ _ ?_ (fun hHeld => ?_); (· exact hHeld.trans (hb.mono hHeld.size)); clear hK K
                    try simp only [Act.put, List.setIfInBounds_toArray, List.set_cons_zero, List.set_cons_succ]
                    refine rgy (i := 3) (v := ?_) (atN rfl) (by kernel_rfl) (fun _ _ _ h => h) ?_ ?_ hHeld ?_; rotate_left 1; (· rfl); (· intro w' hSw; (try clear hHeld); go_simp; try with_reducible rfl)
                    try simp only [Act.put, List.setIfInBounds_toArray, List.set_cons_zero, List.set_cons_succ]
                    refine rgy (i := 4) (v := ?_) (atN rfl) (by kernel_rfl) (fun _ _ _ h => h) ?_ ?_ hHeld ?_; rotate_left 1; (· rfl); (· intro w' hSw; (try clear hHeld); go_simp; try with_reducible rfl)
                    try simp only [Act.put, List.setIfInBounds_toArray, List.set_cons_zero, List.set_cons_succ]
                    first | (refine rgn (i := 5) (atN rfl) (by kernel_rfl) (fun _ _ _ h => h) ?_ hHeld ?_; (· rfl)) | (refine rgy (i := 5) (v := ?_) (atN rfl) (by kernel_rfl) (fun _ _ _ h => h) ?_ ?_ hHeld ?_; rotate_left 1; (· rfl); (· intro w' hSw; (try clear hHeld); go_simp; try with_reducible rfl))
                    try simp only [Act.put, List.setIfInBounds_toArray, List.set_cons_zero, List.set_cons_succ]
                    first | (refine rgn (i := 6) (atN rfl) (by kernel_rfl) (fun _ _ _ h => h) ?_ hHeld ?_; (· rfl)) | (refine rgy (i := 6) (v := ?_) (atN rfl) (by kernel_rfl) (fun _ _ _ h => h) ?_ ?_ hHeld ?_; rotate_left 1; (· rfl); (· intro w' hSw; (try clear hHeld); go_simp; try with_reducible rfl))
                    try simp only [Act.put, List.setIfInBounds_toArray, List.set_cons_zero, List.set_cons_succ]
                    first | (refine rgn (i := 7) (atN rfl) (by kernel_rfl) (fun _ _ _ h => h) ?_ hHeld ?_; (· rfl)) | (refine rgy (i := 7) (v := ?_) (atN rfl) (by kernel_rfl) (fun _ _ _ h => h) ?_ ?_ hHeld ?_; rotate_left 1; (· rfl); (· intro w' hSw; (try clear hHeld); go_simp; try with_reducible rfl))
                    try simp only [Act.put, List.setIfInBounds_toArray, List.set_cons_zero, List.set_cons_succ]
                    first | (refine rgn (i := 8) (atN rfl) (by kernel_rfl) (fun _ _ _ h => h) ?_ hHeld ?_; (· rfl)) | (refine rgy (i := 8) (v := ?_) (atN rfl) (by kernel_rfl) (fun _ _ _ h => h) ?_ ?_ hHeld ?_; rotate_left 1; (· rfl); (· intro w' hSw; (try clear hHeld); go_simp; try with_reducible rfl))
                    try simp only [Act.put, List.setIfInBounds_toArray, List.set_cons_zero, List.set_cons_succ]
                    first | (refine rgn (i := 9) (atN rfl) (by kernel_rfl) (fun _ _ _ h => h) ?_ hHeld ?_; (· rfl)) | (refine rgy (i := 9) (v := ?_) (atN rfl) (by kernel_rfl) (fun _ _ _ h => h) ?_ ?_ hHeld ?_; rotate_left 1; (· rfl); (· intro w' hSw; have y0 := cell_below y0 hSw; have y9 := cell_below y9 hSw; have q0 := cell_below q0 hSw; (try clear hHeld); go_simp; try with_reducible rfl))
                    try simp only [Act.put, List.setIfInBounds_toArray, List.set_cons_zero, List.set_cons_succ]
                    first | (refine rgn (i := 10) (atN rfl) (by kernel_rfl) (fun _ _ _ h => h) ?_ hHeld ?_; (· rfl)) | (refine rgy (i := 10) (v := ?_) (atN rfl) (by kernel_rfl) (fun _ _ _ h => h) ?_ ?_ hHeld ?_; rotate_left 1; (· rfl); (· intro w' hSw; (try clear hHeld); go_simp; try with_reducible rfl))
                    try simp only [Act.put, List.setIfInBounds_toArray, List.set_cons_zero, List.set_cons_succ]
                    first | (refine rgn (i := 11) (atN rfl) (by kernel_rfl) (fun _ _ _ h => h) ?_ hHeld ?_; (· rfl)) | (refine rgy (i := 11) (v := ?_) (atN rfl) (by kernel_rfl) (fun _ _ _ h => h) ?_ ?_ hHeld ?_; rotate_left 1; (· rfl); (· intro w' hSw; (try clear hHeld); go_simp; try with_reducible rfl))
                    try simp only [Act.put, List.setIfInBounds_toArray, List.set_cons_zero, List.set_cons_succ]
                    first | (refine rgn (i := 12) (atN rfl) (by kernel_rfl) (fun _ _ _ h => h) ?_ hHeld ?_; (· rfl)) | (refine rgy (i := 12) (v := ?_) (atN rfl) (by kernel_rfl) (fun _ _ _ h => h) ?_ ?_ hHeld ?_; rotate_left 1; (· rfl); (· intro w' hSw; have y0 := cell_below y0 hSw; have y9 := cell_below y9 hSw; have q0 := cell_below q0 hSw; (try clear hHeld); go_simp; try with_reducible rfl))
                    try simp only [Act.put, List.setIfInBounds_toArray, List.set_cons_zero, List.set_cons_succ]
                    first | (refine rgn (i := 13) (atN rfl) (by kernel_rfl) (fun _ _ _ h => h) ?_ hHeld ?_; (· rfl)) | (refine rgy (i := 13) (v := ?_) (atN rfl) (by kernel_rfl) (fun _ _ _ h => h) ?_ ?_ hHeld ?_; rotate_left 1; (· rfl); (· intro w' hSw; (try clear hHeld); go_simp; try with_reducible rfl))
                    try simp only [Act.put, List.setIfInBounds_toArray, List.set_cons_zero, List.set_cons_succ]
                    first | (refine rgn (i := 14) (atN rfl) (by kernel_rfl) (fun _ _ _ h => h) ?_ hHeld ?_; (· rfl)) | (refine rgy (i := 14) (v := ?_) (atN rfl) (by kernel_rfl) (fun _ _ _ h => h) ?_ ?_ hHeld ?_; rotate_left 1; (· rfl); (· intro w' hSw; have y0 := cell_below y0 hSw; have y9 := cell_below y9 hSw; have q0 := cell_below q0 hSw; (try clear hHeld); go_simp; try with_reducible rfl))
                    try simp only [Act.put, List.setIfInBounds_toArray, List.set_cons_zero, List.set_cons_succ]
                    first | (refine rgn (i := 15) (atN rfl) (by kernel_rfl) (fun _ _ _ h => h) ?_ hHeld ?_; (· rfl)) | (refine rgy (i := 15) (v := ?_) (atN rfl) (by kernel_rfl) (fun _ _ _ h => h) ?_ ?_ hHeld ?_; rotate_left 1; (· rfl); (· intro w' hSw; (try clear hHeld); go_simp; try with_reducible rfl))
                    try simp only [Act.put, List.setIfInBounds_toArray, List.set_cons_zero, List.set_cons_succ]
                    first | (refine rgn (i := 16) (atN rfl) (by kernel_rfl) (fun _ _ _ h => h) ?_ hHeld ?_; (· rfl)) | (refine rgy (i := 16) (v := ?_) (atN rfl) (by kernel_rfl) (fun _ _ _ h => h) ?_ ?_ hHeld ?_; rotate_left 1; (· rfl); (· intro w' hSw; have y0 := cell_below y0 hSw; have y9 := cell_below y9 hSw; have q0 := cell_below q0 hSw; (try clear hHeld); go_simp; try with_reducible rfl))
                    try simp only [Act.put, List.setIfInBounds_toArray, List.set_cons_zero, List.set_cons_succ]
                    first | (refine rgn (i := 17) (atN rfl) (by kernel_rfl) (fun _ _ _ h => h) ?_ hHeld ?_; (· rfl)) | (refine rgy (i := 17) (v := ?_) (atN rfl) (by kernel_rfl) (fun _ _ _ h => h) ?_ ?_ hHeld ?_; rotate_left 1; (· rfl); (· intro w' hSw; (try clear hHeld); go_simp; try with_reducible rfl))
                    try simp only [Act.put, List.setIfInBounds_toArray, List.set_cons_zero, List.set_cons_succ]
                    first | (refine rgn (i := 18) (atN rfl) (by kernel_rfl) (fun _ _ _ h => h) ?_ hHeld ?_; (· rfl)) | (refine rgy (i := 18) (v := ?_) (atN rfl) (by kernel_rfl) (fun _ _ _ h => h) ?_ ?_ hHeld ?_; rotate_left 1; (· rfl); (· intro w' hSw; (try clear hHeld); go_simp; try with_reducible rfl))
                    try simp only [Act.put, List.setIfInBounds_toArray, List.set_cons_zero, List.set_cons_succ]
                    refine rgy (i := 19) (v := ?_) (atN rfl) (by kernel_rfl) (fun _ _ _ h => h) ?_ ?_ hHeld ?_; rotate_left 1; (· rfl); (· intro w' hSw; (try clear hHeld); go_simp; try with_reducible rfl)
                    try simp only [Act.put, List.setIfInBounds_toArray, List.set_cons_zero, List.set_cons_succ]
                    refine wpAnyH_done (by kernel_rfl) ?_ _
                    have BN := Lib.hid (below_on B2.out hHeld)
                    clear y0 y9 q0 hHeld IX d0 z1 hc kw
                    go_wp2_with fail
                    refine ⟨?_, by simp [intOf]; omega⟩
                    (repeat apply Exists.intro)
                    exact ⟨⟨k + 1 + 1, by omega, by go_num, ON, LN, BN⟩, rfl⟩
                  · have E : Hid (checkB a = false) := Lib.hid (by
                      rw [RN2.out, OE.out, S1.out, LP.out]
                      rw [decide_eq_false (show ¬ pv.1 < sg.1 by have := of_decide_eq_true hc; omega)]; rfl)
                    clear OE OL S1 S2
                    refine wp_region_held_drew (S := fun w' => Below W2.heap.size W2 w') (by kernel_rfl) ?_ (fun hHeld => ?_)
                    · exact (Below.refl _ _).drew
                    refine rgy (i := 0) (v := ?_) (atN rfl) (by kernel_rfl) (fun _ _ _ h => h) ?_ ?_ hHeld ?_; rotate_left 1; (· rfl); (· intro w' hSw; (try clear hHeld); go_simp; try with_reducible rfl)
                    try simp only [Act.put, List.setIfInBounds_toArray, List.set_cons_zero, List.set_cons_succ]
                    refine rgy (i := 1) (v := ?_) (atN rfl) (by kernel_rfl) (fun _ _ _ h => h) ?_ ?_ hHeld ?_; rotate_left 1; (· rfl); (· intro w' hSw; have y0 := cell_below y0 hSw; have y9 := cell_below y9 hSw; have q0 := cell_below q0 hSw; (try clear hHeld); go_simp; try with_reducible rfl)
                    try simp only [Act.put, List.setIfInBounds_toArray, List.set_cons_zero, List.set_cons_succ]
                    refine rg_call (i := 2) (atN rfl) (by kernel_rfl) ?_ (fun K hK => ?_); (· rfl); (try clear hb); go_simp; (refine (IX.out _).mono ?_; rintro e w1 ⟨rfl, hb⟩); go_wp2_with fail; refine hK.out _ _ ?_ (fun hHeld => ?_); (· exact hHeld.trans (hb.mono hHeld.size)); clear hK K
                    try simp only [Act.put, List.setIfInBounds_toArray, List.set_cons_zero, List.set_cons_succ]
                    refine rgy (i := 3) (v := ?_) (atN rfl) (by kernel_rfl) (fun _ _ _ h => h) ?_ ?_ hHeld ?_; rotate_left 1; (· rfl); (· intro w' hSw; (try clear hHeld); go_simp; try with_reducible rfl)
                    try simp only [Act.put, List.setIfInBounds_toArray, List.set_cons_zero, List.set_cons_succ]
                    refine rgy (i := 4) (v := ?_) (atN rfl) (by kernel_rfl) (fun _ _ _ h => h) ?_ ?_ hHeld ?_; rotate_left 1; (· rfl); (· intro w' hSw; (try clear hHeld); go_simp; try with_reducible rfl)
                    try simp only [Act.put, List.setIfInBounds_toArray, List.set_cons_zero, List.set_cons_succ]
                    first | (refine rgn (i := 5) (atN rfl) (by kernel_rfl) (fun _ _ _ h => h) ?_ hHeld ?_; (· rfl)) | (refine rgy (i := 5) (v := ?_) (atN rfl) (by kernel_rfl) (fun _ _ _ h => h) ?_ ?_ hHeld ?_; rotate_left 1; (· rfl); (· intro w' hSw; (try clear hHeld); go_simp; try with_reducible rfl))
                    try simp only [Act.put, List.setIfInBounds_toArray, List.set_cons_zero, List.set_cons_succ]
                    first | (refine rgn (i := 6) (atN rfl) (by kernel_rfl) (fun _ _ _ h => h) ?_ hHeld ?_; (· rfl)) | (refine rgy (i := 6) (v := ?_) (atN rfl) (by kernel_rfl) (fun _ _ _ h => h) ?_ ?_ hHeld ?_; rotate_left 1; (· rfl); (· intro w' hSw; (try clear hHeld); go_simp; try with_reducible rfl))
                    try simp only [Act.put, List.setIfInBounds_toArray, List.set_cons_zero, List.set_cons_succ]
                    first | (refine rgn (i := 7) (atN rfl) (by kernel_rfl) (fun _ _ _ h => h) ?_ hHeld ?_; (· rfl)) | (refine rgy (i := 7) (v := ?_) (atN rfl) (by kernel_rfl) (fun _ _ _ h => h) ?_ ?_ hHeld ?_; rotate_left 1; (· rfl); (· intro w' hSw; (try clear hHeld); go_simp; try with_reducible rfl))
                    try simp only [Act.put, List.setIfInBounds_toArray, List.set_cons_zero, List.set_cons_succ]
                    first | (refine rgn (i := 8) (atN rfl) (by kernel_rfl) (fun _ _ _ h => h) ?_ hHeld ?_; (· rfl)) | (refine rgy (i := 8) (v := ?_) (atN rfl) (by kernel_rfl) (fun _ _ _ h => h) ?_ ?_ hHeld ?_; rotate_left 1; (· rfl); (· intro w' hSw; (try clear hHeld); go_simp; try with_reducible rfl))
                    try simp only [Act.put, List.setIfInBounds_toArray, List.set_cons_zero, List.set_cons_succ]
                    first | (refine rgn (i := 9) (atN rfl) (by kernel_rfl) (fun _ _ _ h => h) ?_ hHeld ?_; (· rfl)) | (refine rgy (i := 9) (v := ?_) (atN rfl) (by kernel_rfl) (fun _ _ _ h => h) ?_ ?_ hHeld ?_; rotate_left 1; (· rfl); (· intro w' hSw; have y0 := cell_below y0 hSw; have y9 := cell_below y9 hSw; have q0 := cell_below q0 hSw; (try clear hHeld); go_simp; try with_reducible rfl))
                    try simp only [Act.put, List.setIfInBounds_toArray, List.set_cons_zero, List.set_cons_succ]
                    first | (refine rgn (i := 10) (atN rfl) (by kernel_rfl) (fun _ _ _ h => h) ?_ hHeld ?_; (· rfl)) | (refine rgy (i := 10) (v := ?_) (atN rfl) (by kernel_rfl) (fun _ _ _ h => h) ?_ ?_ hHeld ?_; rotate_left 1; (· rfl); (· intro w' hSw; (try clear hHeld); go_simp; try with_reducible rfl))
                    try simp only [Act.put, List.setIfInBounds_toArray, List.set_cons_zero, List.set_cons_succ]
                    first | (refine rgn (i := 11) (atN rfl) (by kernel_rfl) (fun _ _ _ h => h) ?_ hHeld ?_; (· rfl)) | (refine rgy (i := 11) (v := ?_) (atN rfl) (by kernel_rfl) (fun _ _ _ h => h) ?_ ?_ hHeld ?_; rotate_left 1; (· rfl); (· intro w' hSw; (try clear hHeld); go_simp; try with_reducible rfl))
                    try simp only [Act.put, List.setIfInBounds_toArray, List.set_cons_zero, List.set_cons_succ]
                    first | (refine rgn (i := 12) (atN rfl) (by kernel_rfl) (fun _ _ _ h => h) ?_ hHeld ?_; (· rfl)) | (refine rgy (i := 12) (v := ?_) (atN rfl) (by kernel_rfl) (fun _ _ _ h => h) ?_ ?_ hHeld ?_; rotate_left 1; (· rfl); (· intro w' hSw; have y0 := cell_below y0 hSw; have y9 := cell_below y9 hSw; have q0 := cell_below q0 hSw; (try clear hHeld); go_simp; try with_reducible rfl))
                    try simp only [Act.put, List.setIfInBounds_toArray, List.set_cons_zero, List.set_cons_succ]
                    first | (refine rgn (i := 13) (atN rfl) (by kernel_rfl) (fun _ _ _ h => h) ?_ hHeld ?_; (· rfl)) | (refine rgy (i := 13) (v := ?_) (atN rfl) (by kernel_rfl) (fun _ _ _ h => h) ?_ ?_ hHeld ?_; rotate_left 1; (· rfl); (· intro w' hSw; (try clear hHeld); go_simp; try with_reducible rfl))
                    try simp only [Act.put, List.setIfInBounds_toArray, List.set_cons_zero, List.set_cons_succ]
                    first | (refine rgn (i := 14) (atN rfl) (by kernel_rfl) (fun _ _ _ h => h) ?_ hHeld ?_; (· rfl)) | (refine rgy (i := 14) (v := ?_) (atN rfl) (by kernel_rfl) (fun _ _ _ h => h) ?_ ?_ hHeld ?_; rotate_left 1; (· rfl); (· intro w' hSw; have y0 := cell_below y0 hSw; have y9 := cell_below y9 hSw; have q0 := cell_below q0 hSw; (try clear hHeld); go_simp; try with_reducible rfl))
                    try simp only [Act.put, List.setIfInBounds_toArray, List.set_cons_zero, List.set_cons_succ]
                    first | (refine rgn (i := 15) (atN rfl) (by kernel_rfl) (fun _ _ _ h => h) ?_ hHeld ?_; (· rfl)) | (refine rgy (i := 15) (v := ?_) (atN rfl) (by kernel_rfl) (fun _ _ _ h => h) ?_ ?_ hHeld ?_; rotate_left 1; (· rfl); (· intro w' hSw; (try clear hHeld); go_simp; try with_reducible rfl))
                    try simp only [Act.put, List.setIfInBounds_toArray, List.set_cons_zero, List.set_cons_succ]
                    first | (refine rgn (i := 16) (atN rfl) (by kernel_rfl) (fun _ _ _ h => h) ?_ hHeld ?_; (· rfl)) | (refine rgy (i := 16) (v := ?_) (atN rfl) (by kernel_rfl) (fun _ _ _ h => h) ?_ ?_ hHeld ?_; rotate_left 1; (· rfl); (· intro w' hSw; have y0 := cell_below y0 hSw; have y9 := cell_below y9 hSw; have q0 := cell_below q0 hSw; (try clear hHeld); go_simp; try with_reducible rfl))
                    try simp only [Act.put, List.setIfInBounds_toArray, List.set_cons_zero, List.set_cons_succ]
                    first | (refine rgn (i := 17) (atN rfl) (by kernel_rfl) (fun _ _ _ h => h) ?_ hHeld ?_; (· rfl)) | (refine rgy (i := 17) (v := ?_) (atN rfl) (by kernel_rfl) (fun _ _ _ h => h) ?_ ?_ hHeld ?_; rotate_left 1; (· rfl); (· intro w' hSw; (try clear hHeld); go_simp; try with_reducible rfl))
                    try simp only [Act.put, List.setIfInBounds_toArray, List.set_cons_zero, List.set_cons_succ]
                    first | (refine rgn (i := 18) (atN rfl) (by kernel_rfl) (fun _ _ _ h => h) ?_ hHeld ?_; (· rfl)) | (refine rgy (i := 18) (v := ?_) (atN rfl) (by kernel_rfl) (fun _ _ _ h => h) ?_ ?_ hHeld ?_; rotate_left 1; (· rfl); (· intro w' hSw; (try clear hHeld); go_simp; try with_reducible rfl))
                    try simp only [Act.put, List.setIfInBounds_toArray, List.set_cons_zero, List.set_cons_succ]
                    refine rgy (i := 19) (v := ?_) (atN rfl) (by kernel_rfl) (fun _ _ _ h => h) ?_ ?_ hHeld ?_; rotate_left 1; (· rfl); (· intro w' hSw; (try clear hHeld); go_simp; try with_reducible rfl)
                    try simp only [Act.put, List.setIfInBounds_toArray, List.set_cons_zero, List.set_cons_succ]
                    refine wpAnyH_done (by kernel_rfl) ?_ _
                    have BN := Lib.hid (below_on BZ.out hHeld)
                    clear y0 y9 q0 hHeld IX d0 z1 hc kw
                    go_wp2_with fail
                    go_ret
                    exact ⟨by rw [E.out]; rfl, BN.out⟩
            · obtain rfl : i = a.others.length := by omega
              have E : Hid (checkB a = true) := Lib.hid (by rw [RN2.out, OE.out, List.drop_length]; rfl)
              clear hi hlt OE OL
              go_wp2_with fail
              go_ret
              exact ⟨by rw [E.out]; rfl, BW.out⟩
end Go.Proofs.YtohkbcdnlmjcjaaDoor
