/- Texts of one proof, one behind another. -/
import Derived.Test.YtohkbcdnlmjcjaaDoorFo5
import Derived.Test.YtohkbcdnlmjcjaaDoorFo1
import Derived.Laws.Tables
/-
  ATTRIBUTES: value: communities and the other kinds of one number.
-/
namespace Go.Proofs.YtohkbcdnlmjcjaaDoor
open Go.RowKit
set_option maxHeartbeats 6400000 in
set_option maxRecDepth 100000 in
theorem at_value_comms (a : At) (vp vc vo : Value) (w : World) (hA : AtL w a vp vc vo) (hs : a.comms.length ≤ 300) :
    Calls Tryd.prog 33 #[.agg #[.int .i64 a.has, .int .i64 a.origin, vp, .int .u32 a.hop, .int .i64 a.med, .int .i64 a.loc, .int .i64 a.aggrAs, .int .u32 a.aggrId, vc, vo], .int .i64 8] w (ValPost a 8 w) := by
  obtain ⟨⟨sp, cp, rfl, -⟩, ⟨sc, cc, rfl, hlc, hcm, hV⟩, ⟨so, co, rfl, -⟩⟩ := hA
  have HV := Lib.hid hV
  unfold maxLen at hcm
  clear hV
  go_enter Tryd.func33, Tryd.ntmps33
  go_upto_region 1 with (fail)
  obtain ⟨W0, hW0, q, hb0, -⟩ := boxA w (.int .i64 a.has) (.int .i64 a.origin) (.slice sp a.path.length cp) (.int .u32 a.hop) (.int .i64 a.med) (.int .i64 a.loc) (.int .i64 a.aggrAs) (.int .u32 a.aggrId) (.slice sc a.comms.length cc) (.slice so a.others.length co)
  rw [← hW0]
  clear hW0
  have B := Lib.hid hb0
  obtain ⟨y0, y1, y2, y3, y4, y5, y6, y7, y8, y9⟩ := at10 q
  clear q hb0 y0 y1 y2 y3 y4 y5 y6 y7 y9
  have N4 := Lib.hid (fun (v : Value) (xs : List Nat) (n : Int) (W : World) (h : OwnB W W0.heap.size v xs) (hb : W0.heap.size ≤ W.heap.size) (hx : xs.length ≤ 1099511627776) => at_num W0.heap.size v xs n 4 W h hb (by decide) hx)
  go_wp2_with fail
  go_loopw [84, 5] (fun i9 v5 wr => ∃ k : Nat, k ≤ a.comms.length ∧ i9 = .int .i64 k ∧ Hid (OwnB wr W0.heap.size v5 ((a.comms.take k).flatMap fun c => numB c 4)) ∧ Hid (Below W0.heap.size W0 wr)) (fun i9 _ _ => a.comms.length - (intOf i9).toNat)
  case atStart => exact ⟨0, by omega, rfl, Lib.hid (ownB_nil _ _), Lib.hid (Below.refl _ _)⟩
  case round =>
    obtain ⟨k, hk, rfl, O, BR⟩ := hrel
    by_cases hlt : k < a.comms.length
    · obtain ⟨c, hc⟩ : ∃ c, a.comms[k]? = some c := ⟨_, List.getElem?_eq_getElem hlt⟩
      obtain ⟨b1, off1, hsa, hP⟩ := HV.out (by omega)
      subst hsa
      have x0 := cell_below (cell_below (ints_one hP hc) B.out) BR.out
      have ST := Lib.hid (flat_take (fun c => numB c 4) hc)
      have LL := Nat.le_trans (flatM_len (fun c => numB c 4) 4 (a.comms.take k) (fun x _ => by rw [numB_len]; exact Nat.le_refl _)) (Nat.mul_le_mul_right 4 (List.length_take_le' k a.comms))
      have k0 : (0 : Int) ≤ (k : Int) := by omega
      have k1 : (k : Int) < (a.comms.length : Int) := by omega
      have SZ := BR.out.size
      clear hP hc
      have NC := Lib.hid (N4.out u5 _ c wr O.out SZ (by omega))
      clear LL SZ
      go_wp2_with fail
      refine NC.out.mono ?_
      rintro e w1 ⟨v1, rfl, o1, k1', -⟩
      have O1 : Hid (OwnB w1 W0.heap.size v1 ((a.comms.take (k + 1)).flatMap fun c => numB c 4)) := Lib.hid (by rw [ST.out]; exact o1)
      have B1 := Lib.hid (ownB_next BR.out O.out k1')
      clear o1 k1' NC x0
      go_wp2_with fail
      exact ⟨⟨k + 1, by omega, by go_num, O1, B1⟩, by simp [intOf]; omega⟩
    · obtain rfl : k = a.comms.length := by omega
      have O1 : Hid (OwnB wr W0.heap.size u5 (valL a 8)) := Lib.hid (by have := O.out; rw [List.take_length] at this; rw [show valL a 8 = a.comms.flatMap (fun c => numB c 4) from by simp [valL]]; exact this)
      clear O
      go_wp2_with fail
      go_ret
      have RB := below_on B.out BR.out
      have RO := ownB_base O1.out B.out.size
      exact ⟨u5, rfl, RO, RB⟩
set_option maxHeartbeats 3200000 in
set_option maxRecDepth 100000 in
theorem at_value_3 (a : At) (vp vc vo : Value) (w : World) (hA : AtL w a vp vc vo) (hr : a.Rng) :
    Calls Tryd.prog 33 #[.agg #[.int .i64 a.has, .int .i64 a.origin, vp, .int .u32 a.hop, .int .i64 a.med, .int .i64 a.loc, .int .i64 a.aggrAs, .int .u32 a.aggrId, vc, vo], .int .i64 3] w (ValPost a 3 w) := by
  obtain ⟨⟨sp, cp, rfl, -⟩, ⟨sc, cc, rfl, -⟩, ⟨so, co, rfl, -⟩⟩ := hA
  have h1 : (a.hop : Int) ≤ 4294967295 := by have := hr.2.2.1; omega
  have h0 : (0 : Int) ≤ (a.hop : Int) := by omega
  clear hr
  go_enter Tryd.func33, Tryd.ntmps33
  go_upto_region 1 with (fail)
  obtain ⟨W0, hW0, q, hb0, -⟩ := boxA w (.int .i64 a.has) (.int .i64 a.origin) (.slice sp a.path.length cp) (.int .u32 a.hop) (.int .i64 a.med) (.int .i64 a.loc) (.int .i64 a.aggrAs) (.int .u32 a.aggrId) (.slice sc a.comms.length cc) (.slice so a.others.length co)
  rw [← hW0]
  clear hW0
  have B := Lib.hid hb0
  obtain ⟨y0, y1, y2, y3, y4, y5, y6, y7, y8, y9⟩ := at10 q
  clear q hb0 y0 y1 y2 y4 y5 y6 y7 y8 y9
  have NC := Lib.hid (at_num W0.heap.size (.slice none 0 0) [] a.hop 4 W0 (ownB_nil _ _) (Nat.le_refl _) (by decide) (by decide))
  have E : Hid (valL a 3 = numB a.hop 4) := Lib.hid (by simp [valL])
  go_wp2_with fail
  refine NC.out.mono ?_
  rintro e w1 ⟨v1, rfl, o1, k1, -⟩
  rw [List.nil_append, ← E.out] at o1
  have O1 := Lib.hid o1
  have K1 := Lib.hid (ownB_next (Below.refl _ _) (ownB_nil W0 _) k1)
  clear o1 k1 y3 NC
  go_wp2_with fail
  go_ret
  have RB := below_on B.out K1.out
  have RO := ownB_base O1.out B.out.size
  exact ⟨v1, rfl, RO, RB⟩
set_option maxHeartbeats 3200000 in
set_option maxRecDepth 100000 in
theorem at_value_4 (a : At) (vp vc vo : Value) (w : World) (hA : AtL w a vp vc vo) :
    Calls Tryd.prog 33 #[.agg #[.int .i64 a.has, .int .i64 a.origin, vp, .int .u32 a.hop, .int .i64 a.med, .int .i64 a.loc, .int .i64 a.aggrAs, .int .u32 a.aggrId, vc, vo], .int .i64 4] w (ValPost a 4 w) := by
  obtain ⟨⟨sp, cp, rfl, -⟩, ⟨sc, cc, rfl, -⟩, ⟨so, co, rfl, -⟩⟩ := hA
  go_enter Tryd.func33, Tryd.ntmps33
  go_upto_region 1 with (fail)
  obtain ⟨W0, hW0, q, hb0, -⟩ := boxA w (.int .i64 a.has) (.int .i64 a.origin) (.slice sp a.path.length cp) (.int .u32 a.hop) (.int .i64 a.med) (.int .i64 a.loc) (.int .i64 a.aggrAs) (.int .u32 a.aggrId) (.slice sc a.comms.length cc) (.slice so a.others.length co)
  rw [← hW0]
  clear hW0
  have B := Lib.hid hb0
  obtain ⟨y0, y1, y2, y3, y4, y5, y6, y7, y8, y9⟩ := at10 q
  clear q hb0 y0 y1 y2 y3 y5 y6 y7 y8 y9
  have NC := Lib.hid (at_num W0.heap.size (.slice none 0 0) [] a.med 4 W0 (ownB_nil _ _) (Nat.le_refl _) (by decide) (by decide))
  have E : Hid (valL a 4 = numB a.med 4) := Lib.hid (by simp [valL])
  go_wp2_with fail
  refine NC.out.mono ?_
  rintro e w1 ⟨v1, rfl, o1, k1, -⟩
  rw [List.nil_append, ← E.out] at o1
  have O1 := Lib.hid o1
  have K1 := Lib.hid (ownB_next (Below.refl _ _) (ownB_nil W0 _) k1)
  clear o1 k1 y4 NC
  go_wp2_with fail
  go_ret
  have RB := below_on B.out K1.out
  have RO := ownB_base O1.out B.out.size
  exact ⟨v1, rfl, RO, RB⟩
set_option maxHeartbeats 3200000 in
set_option maxRecDepth 100000 in
theorem at_value_5 (a : At) (vp vc vo : Value) (w : World) (hA : AtL w a vp vc vo) :
    Calls Tryd.prog 33 #[.agg #[.int .i64 a.has, .int .i64 a.origin, vp, .int .u32 a.hop, .int .i64 a.med, .int .i64 a.loc, .int .i64 a.aggrAs, .int .u32 a.aggrId, vc, vo], .int .i64 5] w (ValPost a 5 w) := by
  obtain ⟨⟨sp, cp, rfl, -⟩, ⟨sc, cc, rfl, -⟩, ⟨so, co, rfl, -⟩⟩ := hA
  go_enter Tryd.func33, Tryd.ntmps33
  go_upto_region 1 with (fail)
  obtain ⟨W0, hW0, q, hb0, -⟩ := boxA w (.int .i64 a.has) (.int .i64 a.origin) (.slice sp a.path.length cp) (.int .u32 a.hop) (.int .i64 a.med) (.int .i64 a.loc) (.int .i64 a.aggrAs) (.int .u32 a.aggrId) (.slice sc a.comms.length cc) (.slice so a.others.length co)
  rw [← hW0]
  clear hW0
  have B := Lib.hid hb0
  obtain ⟨y0, y1, y2, y3, y4, y5, y6, y7, y8, y9⟩ := at10 q
  clear q hb0 y0 y1 y2 y3 y4 y6 y7 y8 y9
  have NC := Lib.hid (at_num W0.heap.size (.slice none 0 0) [] a.loc 4 W0 (ownB_nil _ _) (Nat.le_refl _) (by decide) (by decide))
  have E : Hid (valL a 5 = numB a.loc 4) := Lib.hid (by simp [valL])
  go_wp2_with fail
  refine NC.out.mono ?_
  rintro e w1 ⟨v1, rfl, o1, k1, -⟩
  rw [List.nil_append, ← E.out] at o1
  have O1 := Lib.hid o1
  have K1 := Lib.hid (ownB_next (Below.refl _ _) (ownB_nil W0 _) k1)
  clear o1 k1 y5 NC
  go_wp2_with fail
  go_ret
  have RB := below_on B.out K1.out
  have RO := ownB_base O1.out B.out.size
  exact ⟨v1, rfl, RO, RB⟩
set_option maxHeartbeats 3200000 in
set_option maxRecDepth 100000 in
theorem at_value_6 (a : At) (vp vc vo : Value) (w : World) (hA : AtL w a vp vc vo) :
    Calls Tryd.prog 33 #[.agg #[.int .i64 a.has, .int .i64 a.origin, vp, .int .u32 a.hop, .int .i64 a.med, .int .i64 a.loc, .int .i64 a.aggrAs, .int .u32 a.aggrId, vc, vo], .int .i64 6] w (ValPost a 6 w) := by
  obtain ⟨⟨sp, cp, rfl, -⟩, ⟨sc, cc, rfl, -⟩, ⟨so, co, rfl, -⟩⟩ := hA
  go_enter Tryd.func33, Tryd.ntmps33
  go_upto_region 1 with (fail)
  obtain ⟨W0, hW0, q, hb0, -⟩ := boxA w (.int .i64 a.has) (.int .i64 a.origin) (.slice sp a.path.length cp) (.int .u32 a.hop) (.int .i64 a.med) (.int .i64 a.loc) (.int .i64 a.aggrAs) (.int .u32 a.aggrId) (.slice sc a.comms.length cc) (.slice so a.others.length co)
  rw [← hW0]
  clear hW0
  have B := Lib.hid hb0
  clear q hb0
  have E : Hid (valL a 6 = []) := Lib.hid (by simp [valL])
  go_wp2_with fail
  go_ret
  exact ⟨.slice none 0 0, rfl, by rw [E.out]; exact ownB_nil _ _, B.out⟩
end Go.Proofs.YtohkbcdnlmjcjaaDoor

/-
  A STATEMENT THAT DRAWS ITS ORDER, WHERE TWO OPERATIONS THAT TOUCH MEMORY MAY COME UP; whole values stored.
-/
namespace Go.Proofs.YtohkbcdnlmjcjaaDoor
open Go.RowKit
section
variable {P : Program} {ops : Array Oper} {Q : Exit → Act → World → Prop} {md : Region.Mode} {S : World → Prop}
set_option maxRecDepth 100000 in
/-- two operations come up: each is carried out. -/
theorem rg_call2 {i j : Nat} {oi oj : Oper} {fuel : Nat} {listed : Array Bool} {a : Act} {w : World} (hi : ops[i]? = some oi) (hj : ops[j]? = some oj)
    (hr : Region.ready md ops listed = [i, j]) (hw : Region.wanted oi (yielded ops a.tmps) = true) (hv : Region.wanted oj (yielded ops a.tmps) = true)
    (h : ∀ K' : Act → World → Prop, Shut (∀ a w, S w → (S w → wpAnyH P md ops Q S fuel (listed.setIfInBounds i true) a w) → K' a w) → Oper.wp P oi a w K' Q)
    (h2 : ∀ K' : Act → World → Prop, Shut (∀ a w, S w → (S w → wpAnyH P md ops Q S fuel (listed.setIfInBounds j true) a w) → K' a w) → Oper.wp P oj a w K' Q) : wpAnyH P md ops Q S (fuel + 1) listed a w :=
  wpAnyH_ready (rs := [i, j]) hr (by simp) (AllReadyH.cons hi (fun K hK => by rw [if_pos hw]; exact h K hK) (AllReadyH.cons hj (fun K hK => by rw [if_pos hv]; exact h2 K hK) AllReadyH.nil))
end
set_option maxRecDepth 100000 in
/-- a whole value is stored where one lay. -/
theorem wp_store_rowat {P : Program} {o : Oper} {a : Act} {w : World} {K : Act → World → Prop} {Q : Exit → Act → World → Prop} (ty : TypeId) (x y : Operand) (ho : o.op = .store ty x y)
    (g : Nat) (hx : a.eval x = .pointer (some ⟨g, 0, none⟩)) (t : TypeId) (old cs : Array Value) (hy : a.eval y = .agg cs) (hg : w.heap[g]? = some (.cells old t (0, 0))) (hi : (P.info? ty).map (·.size) = some cs.size) (hs : old.size = cs.size) (h1 : cs.all (·.oneCell') = true)
    (h : K (a.put o.dst undef) (w.setRow g cs)) : o.wp P a w K Q := by
  unfold Oper.wp execOp
  simp only [ho, hx, hy, Instr.storeAt, Instr.sureAddr, Sem.run_bind, Sem.run_pure, Result.andThen_ok, run_storeVar_row w g t ty old cs hg hi hs h1]
  exact h
end Go.Proofs.YtohkbcdnlmjcjaaDoor

/-
  Steps of a region that draws its order, with one look for all conditions.
-/
namespace Go.Proofs.YtohkbcdnlmjcjaaDoor
open Go.RowKit
set_option maxRecDepth 100000 in
theorem atN {α : Type} {l : List α} {n : Nat} {x : α} (h : l[n]? = some x) : (List.toArray l)[n]? = some x := by simpa using h
section
variable {P : Program} {ops : Array Oper} {Q : Exit → Act → World → Prop} {md : Region.Mode} {S : World → Prop}
set_option maxRecDepth 100000 in
theorem three {a b c : Bool} (h : (a && (b && c)) = true) : a = true ∧ b = true ∧ c = true := by simpa using h
set_option maxRecDepth 100000 in
/-- an operation whose guard is false is passed by (one look for all). -/
theorem rgn {i : Nat} {oi : Oper} {fuel : Nat} {listed : Array Bool} {a : Act} {w : World} (hi : ops[i]? = some oi)
    (hk : (Region.noSelect ops && (Region.free md ops listed i && (Region.ready md ops listed).contains i)) = true)
    (hQ : ∀ c a w, Q (.panic c) (a.put oi.dst undef) w → Q (.panic c) a w) (hw : Region.wanted oi (yielded ops a.tmps) = false) (hS : S w)
    (h : wpAnyH P md ops Q S fuel (listed.setIfInBounds i true) (a.put oi.dst undef) w) : wpAnyH P md ops Q S (fuel + 1) listed a w :=
  rg_no hi (three hk).1 (three hk).2.1 (three hk).2.2 hQ hw hS h
set_option maxRecDepth 100000 in
/-- an operation that only computes, or reads what S says of memory (one look for all). -/
theorem rgy {i : Nat} {oi : Oper} {v : Value} {fuel : Nat} {listed : Array Bool} {a : Act} {w : World} (hi : ops[i]? = some oi)
    (hk : (Region.noSelect ops && (Region.free md ops listed i && (Region.ready md ops listed).contains i)) = true)
    (hQ : ∀ c a w, Q (.panic c) (a.put oi.dst v) w → Q (.panic c) a w) (hw : Region.wanted oi (yielded ops a.tmps) = true) (hy : ∀ w, S w → (execOp a.eval oi).run P w = .ok (.value v) w) (hS : S w)
    (h : wpAnyH P md ops Q S fuel (listed.setIfInBounds i true) (a.put oi.dst v) w) : wpAnyH P md ops Q S (fuel + 1) listed a w :=
  rg_yes hi (three hk).1 (three hk).2.1 (three hk).2.2 hQ hw hy hS h
end
end Go.Proofs.YtohkbcdnlmjcjaaDoor

/-
  ATTRIBUTES: value: the aggregator; the path.
-/
namespace Go.Proofs.YtohkbcdnlmjcjaaDoor
open Go.RowKit
set_option maxHeartbeats 3200000 in
set_option maxRecDepth 100000 in
theorem at_value_7 (a : At) (vp vc vo : Value) (w : World) (hA : AtL w a vp vc vo) (hr : a.Rng) :
    Calls Tryd.prog 33 #[.agg #[.int .i64 a.has, .int .i64 a.origin, vp, .int .u32 a.hop, .int .i64 a.med, .int .i64 a.loc, .int .i64 a.aggrAs, .int .u32 a.aggrId, vc, vo], .int .i64 7] w (ValPost a 7 w) := by
  obtain ⟨⟨sp, cp, rfl, -⟩, ⟨sc, cc, rfl, -⟩, ⟨so, co, rfl, -⟩⟩ := hA
  have h1 : (a.aggrId : Int) ≤ 4294967295 := by have := hr.2.2.2.2.2.2; omega
  have h0 : (0 : Int) ≤ (a.aggrId : Int) := by omega
  have hw : IntKind.i64.wrap (a.aggrId : Int) = (a.aggrId : Int) := IntWalk.i64_in _ (by omega)
  clear hr
  go_enter Tryd.func33, Tryd.ntmps33
  go_upto_region 1 with (fail)
  obtain ⟨W0, hW0, q, hb0, -⟩ := boxA w (.int .i64 a.has) (.int .i64 a.origin) (.slice sp a.path.length cp) (.int .u32 a.hop) (.int .i64 a.med) (.int .i64 a.loc) (.int .i64 a.aggrAs) (.int .u32 a.aggrId) (.slice sc a.comms.length cc) (.slice so a.others.length co)
  rw [← hW0]
  clear hW0
  have B := Lib.hid hb0
  obtain ⟨y0, y1, y2, y3, y4, y5, y6, y7, y8, y9⟩ := at10 q
  clear q hb0 y0 y1 y2 y3 y4 y5 y8 y9
  have NC := Lib.hid (at_num W0.heap.size (.slice none 0 0) [] a.aggrAs 2 W0.drew (ownB_nil _ _) (Nat.le_refl _) (by decide) (by decide))
  have N4 := Lib.hid (fun (v : Value) (xs : List Nat) (W : World) (h : OwnB W W0.heap.size v xs) (hb : W0.heap.size ≤ W.heap.size) (hx : xs.length ≤ 1099511627776) => at_num W0.heap.size v xs a.aggrId 4 W h hb (by decide) hx)
  have E : Hid (valL a 7 = numB a.aggrAs 2 ++ numB a.aggrId 4) := Lib.hid (by simp [valL])
  go_upto_region 26 with (fail)
  refine wp_region_held_drew (S := fun w' => Below W0.heap.size W0 w') (by kernel_rfl) ?_ (fun hHeld => ?_)
  · exact (Below.refl _ _).drew
  refine rg_yes (i := 0) (v := ?_) at0 (by kernel_rfl) (by kernel_rfl) (by kernel_rfl) (fun _ _ _ h => h) ?_ ?_ hHeld ?_; rotate_left 1; (· rfl); (· intro w' hSw; (try dsimp only at hSw); (try clear hHeld); go_simp; try with_reducible rfl)
  try simp only [Act.put, List.setIfInBounds_toArray, List.set_cons_zero, List.set_cons_succ]
  refine rg_yes (i := 1) (v := ?_) (atS at0) (by kernel_rfl) (by kernel_rfl) (by kernel_rfl) (fun _ _ _ h => h) ?_ ?_ hHeld ?_; rotate_left 1; (· rfl); (· intro w' hSw; (try dsimp only at hSw); (try clear hHeld); go_simp; try with_reducible rfl)
  try simp only [Act.put, List.setIfInBounds_toArray, List.set_cons_zero, List.set_cons_succ]
  refine rg_yes (i := 2) (v := ?_) (atS (atS at0)) (by kernel_rfl) (by kernel_rfl) (by kernel_rfl) (fun _ _ _ h => h) ?_ ?_ hHeld ?_; rotate_left 1; (· rfl); (· intro w' hSw; (try dsimp only at hSw); have y6 := cell_below y6 hSw; have y7 := cell_below y7 hSw; (try clear hHeld); go_simp; try with_reducible rfl)
  try simp only [Act.put, List.setIfInBounds_toArray, List.set_cons_zero, List.set_cons_succ]
  refine rg_yes (i := 4) (v := ?_) (atS (atS (atS (atS at0)))) (by kernel_rfl) (by kernel_rfl) (by kernel_rfl) (fun _ _ _ h => h) ?_ ?_ hHeld ?_; rotate_left 1; (· rfl); (· intro w' hSw; (try dsimp only at hSw); (try clear hHeld); go_simp; try with_reducible rfl)
  try simp only [Act.put, List.setIfInBounds_toArray, List.set_cons_zero, List.set_cons_succ]
  refine rg_yes (i := 5) (v := ?_) (atS (atS (atS (atS (atS at0))))) (by kernel_rfl) (by kernel_rfl) (by kernel_rfl) (fun _ _ _ h => h) ?_ ?_ hHeld ?_; rotate_left 1; (· rfl); (· intro w' hSw; (try dsimp only at hSw); have y6 := cell_below y6 hSw; have y7 := cell_below y7 hSw; (try clear hHeld); go_simp; try with_reducible rfl)
  try simp only [Act.put, List.setIfInBounds_toArray, List.set_cons_zero, List.set_cons_succ]
  refine rg_yes (i := 6) (v := ?_) (atS (atS (atS (atS (atS (atS at0)))))) (by kernel_rfl) (by kernel_rfl) (by kernel_rfl) (fun _ _ _ h => h) ?_ ?_ hHeld ?_; rotate_left 1; (· rfl); (· intro w' hSw; (try dsimp only at hSw); (try clear hHeld); go_simp; try with_reducible rfl)
  try simp only [Act.put, List.setIfInBounds_toArray, List.set_cons_zero, List.set_cons_succ]
  refine rg_call (i := 3) (atS (atS (atS at0))) (by kernel_rfl) ?_ (fun K hK => ?_); (· rfl); (try clear hb); go_simp; (refine NC.out.mono ?_; rintro e w1 ⟨v1, rfl, o1, k1, -⟩); have O1 := Lib.hid o1; have B1 := Lib.hid (ownB_next (Below.refl _ _).drew (ownB_nil W0.drew _) k1); clear o1 k1 NC; go_wp2_with fail; refine hK.out _ _ ?_ (fun hHeld => ?_); (· exact B1.out); clear hK K
  try simp only [Act.put, List.setIfInBounds_toArray, List.set_cons_zero, List.set_cons_succ]
  refine rg_call (i := 7) (atS (atS (atS (atS (atS (atS (atS at0))))))) (by kernel_rfl) ?_ (fun K hK => ?_); (· rfl); (try clear hb); go_simp; (refine (N4.out v1 _ w1 O1.out B1.out.size (by rw [List.length_append, numB_len]; decide)).mono ?_; rintro e w2 ⟨v2, rfl, o2, k2, -⟩); have O2 : Hid (OwnB w2 W0.heap.size v2 (valL a 7)) := Lib.hid (by rw [E.out]; exact o2); have B2 := Lib.hid (ownB_next B1.out O1.out k2); clear o2 k2 N4; go_wp2_with fail; refine hK.out _ _ ?_ (fun hHeld => ?_); (· exact B2.out); clear hK K
  try simp only [Act.put, List.setIfInBounds_toArray, List.set_cons_zero, List.set_cons_succ]
  refine rg_yes (i := 8) (v := ?_) (atS (atS (atS (atS (atS (atS (atS (atS at0)))))))) (by kernel_rfl) (by kernel_rfl) (by kernel_rfl) (fun _ _ _ h => h) ?_ ?_ hHeld ?_; rotate_left 1; (· rfl); (· intro w' hSw; (try dsimp only at hSw); (try clear hHeld); go_simp; try with_reducible rfl)
  try simp only [Act.put, List.setIfInBounds_toArray, List.set_cons_zero, List.set_cons_succ]
  refine wpAnyH_done (by kernel_rfl) ?_ _
  clear hHeld y6 y7
  go_wp2_with fail
  go_ret
  have RB := below_on B.out B2.out
  have RO := ownB_base O2.out B.out.size
  exact ⟨v2, rfl, RO, RB⟩
set_option maxRecDepth 100000 in
theorem own_lt {w : World} {B k n : Nat} {e : TypeId} {v : Value} {xs : List Value} (h : w.ownsRow B e k v n xs) : ∀ g, v.ownBlock = some g → g < w.heap.size := by
  obtain ⟨_, ⟨rfl, _⟩ | ⟨g, cap, cur, rfl, _, hg, _⟩⟩ := h
  · intro g hg; cases hg
  · intro g' hg'; cases hg'; exact row_lt hg
set_option maxRecDepth 100000 in
theorem segL_len (s : Sg) : (segL s).length = 2 + s.2.length * 2 := by
  have : ∀ l : List Int, (l.flatMap fun n => numB n 2).length = l.length * 2 := by
    intro l
    induction l with
    | nil => rfl
    | cons x l ih => rw [List.flatMap_cons, List.length_append, ih, numB_len, List.length_cons]; omega
  unfold segL
  rw [List.length_append, List.length_append, numB_len, numB_len, this]
  omega
set_option maxRecDepth 100000 in
theorem pathL_le {p : List Sg} {m : Nat} (hs : ∀ s ∈ p, 2 + s.2.length * 2 ≤ m) (k : Nat) : (pathL (p.take k)).length ≤ p.length * m :=
  Nat.le_trans (flatM_len segL m (p.take k) (fun s hx => by rw [segL_len]; exact hs s (List.mem_of_mem_take hx))) (Nat.mul_le_mul_right m (List.length_take_le' k p))
set_option maxRecDepth 100000 in
theorem segs_le {l : List Int} (h : l.length ≤ 65535) (j : Nat) : ((l.take j).flatMap fun n => numB n 2).length ≤ 131070 := by
  have h1 := flatM_len (fun n => numB n 2) 2 (l.take j) (fun x _ => by rw [numB_len]; exact Nat.le_refl _)
  have h2 : (l.take j).length ≤ l.length := List.length_take_le' j l
  omega
set_option maxRecDepth 100000 in
theorem path_next {p : List Sg} {k : Nat} {s : Sg} (h : p[k]? = some s) : pathL (p.take (k + 1)) = pathL (p.take k) ++ segL s := flat_take segL h
set_option maxHeartbeats 6400000 in
set_option maxRecDepth 100000 in
theorem at_value_2 (a : At) (vp vc vo : Value) (w : World) (hA : AtL w a vp vc vo) (hp : a.path.length ≤ 65536) (hl : ∀ s ∈ a.path, s.2.length ≤ 65535) :
    Calls Tryd.prog 33 #[.agg #[.int .i64 a.has, .int .i64 a.origin, vp, .int .u32 a.hop, .int .i64 a.med, .int .i64 a.loc, .int .i64 a.aggrAs, .int .u32 a.aggrId, vc, vo], .int .i64 2] w (ValPost a 2 w) := by
  obtain ⟨⟨sp, cp, rfl, hlc, hcm, hV⟩, ⟨sc, cc, rfl, -⟩, ⟨so, co, rfl, -⟩⟩ := hA
  have HV := Lib.hid hV
  have HL := Lib.hid hl
  unfold maxLen at hcm
  clear hV hl
  go_enter Tryd.func33, Tryd.ntmps33
  go_upto_region 1 with (fail)
  obtain ⟨W0, hW0, q, hb0, -⟩ := boxA w (.int .i64 a.has) (.int .i64 a.origin) (.slice sp a.path.length cp) (.int .u32 a.hop) (.int .i64 a.med) (.int .i64 a.loc) (.int .i64 a.aggrAs) (.int .u32 a.aggrId) (.slice sc a.comms.length cc) (.slice so a.others.length co)
  rw [← hW0]
  clear hW0
  have B := Lib.hid hb0
  obtain ⟨y0, y1, y2, y3, y4, y5, y6, y7, y8, y9⟩ := at10 q
  clear q hb0 y0 y1 y3 y4 y5 y6 y7 y8 y9
  have N1 := Lib.hid (fun (v : Value) (xs : List Nat) (n : Int) (W : World) (h : OwnB W W0.heap.size v xs) (hb : W0.heap.size ≤ W.heap.size) (hx : xs.length ≤ 1099511627776) => at_num W0.heap.size v xs n 1 W h hb (by decide) hx)
  have N2 := Lib.hid (fun (v : Value) (xs : List Nat) (n : Int) (W : World) (h : OwnB W W0.heap.size v xs) (hb : W0.heap.size ≤ W.heap.size) (hx : xs.length ≤ 1099511627776) => at_num W0.heap.size v xs n 2 W h hb (by decide) hx)
  go_wp2_with fail
  go_loopw [25, 5] (fun i9 v5 wr => ∃ k : Nat, k ≤ a.path.length ∧ i9 = .int .i64 k ∧ Hid (OwnB wr W0.heap.size v5 (pathL (a.path.take k))) ∧ Hid (Below W0.heap.size W0 wr)) (fun i9 _ _ => a.path.length - (intOf i9).toNat)
  case atStart => exact ⟨0, by omega, rfl, Lib.hid (ownB_nil _ _), Lib.hid (Below.refl _ _)⟩
  case round =>
    obtain ⟨k, hk, rfl, O, BR⟩ := hrel
    by_cases hlt : k < a.path.length
    · obtain ⟨s, hs⟩ : ∃ s, a.path[k]? = some s := ⟨_, List.getElem?_eq_getElem hlt⟩
      obtain ⟨b1, off1, hsa, hP⟩ := HV.out (by omega)
      subst hsa
      obtain ⟨cs, -, ⟨u, rfl, hu⟩, hc⟩ := hP k s hs
      have x0 := cell_below (cell_below (hc 0 _ rfl) B.out) BR.out
      have x1 := cell_below (cell_below (hc 1 _ rfl) B.out) BR.out
      obtain ⟨su, cu, rfl, hlu, hcu, hVu⟩ := hu
      have HU := Lib.hid hVu
      have ST := Lib.hid (path_next hs)
      have LL := pathL_le (m := 131072) (fun s hx => by have := HL.out s hx; omega) k
      have LS := HL.out s (List.mem_of_getElem? hs)
      have k0 : (0 : Int) ≤ (k : Int) := by omega
      have k1 : (k : Int) < (a.path.length : Int) := by omega
      have SZ := BR.out.size
      unfold maxLen at hcu
      simp only [Nat.add_zero] at x0
      clear hP hc hs hVu
      go_upto_region 9 with (fail)
      obtain ⟨w1, hw1, c0, c1, hb1⟩ := box2 wr (.bool s.1) (.slice su s.2.length cu) 32
      rw [← hw1]
      clear hw1 x0 x1
      have O1 := Lib.hid (O.out.below hb1)
      have NE := Lib.hid (fun (e : u5.ownBlock = some wr.heap.size) => Nat.lt_irrefl _ (own_lt O.out _ e))
      have B1 := Lib.hid (BR.out.trans (hb1.mono BR.out.size))
      have C1 := Lib.hid c1
      clear hb1 O BR c1
      obtain ⟨sb, sl⟩ := s
      simp only at c0 C1 LS hlu HU
      obtain ⟨kd, hkd⟩ : ∃ kd : Int, (if sb then 1 else 2) = kd := ⟨_, rfl⟩
      obtain ⟨xs0, hxs0⟩ : ∃ xs0, pathL (a.path.take k) = xs0 := ⟨_, rfl⟩
      have ST1 : Hid (pathL (a.path.take (k + 1)) = xs0 ++ numB kd 1 ++ numB sl.length 1 ++ sl.flatMap fun n => numB n 2) := Lib.hid (by
        rw [ST.out, hxs0]
        unfold segL
        simp only
        rw [hkd]
        simp only [List.append_assoc])
      rw [hxs0] at O1 LL
      have HKD := Lib.hid hkd
      clear hxs0 ST hkd
      have NC := Lib.hid (N1.out u5 xs0 kd w1.drew (O1.out.below (Below.refl _ _).drew) B1.out.size (by omega))
      have NC2 := Lib.hid (fun v (W : World) (h : OwnB W W0.heap.size v (xs0 ++ numB kd 1)) (hb : W0.heap.size ≤ W.heap.size) => N1.out v _ sl.length W h hb (by rw [List.length_append, numB_len]; omega))
      have SZ1 := Lib.hid B1.out.size
      clear SZ
      go_upto_if 30 with (fail)
      go_cut [8] (fun t8 wx => t8 = .int .i64 kd ∧ w1 = wx)
      case first =>
        have hkd := HKD.out
        clear HKD NC NC2
        cases sb
        · go_wp2_with fail
          go_meet
          exact ⟨by rw [← hkd]; rfl, rfl⟩
        · go_wp2_with fail
          go_meet
          exact ⟨by rw [← hkd]; rfl, rfl⟩
      case rest =>
        obtain ⟨h8, hw⟩ := hcut
        subst h8
        subst hw
        clear c0
        go_upto_region 12 with (fail)
        refine wp_region_held_drew (S := fun w' => Kept (fun b => u5.ownBlock = some b) w1 w') (by kernel_rfl) ?_ (fun hHeld => ?_)
        · exact (Kept.refl _ _).drew
        refine rg_yes (i := 0) (v := ?_) at0 (by kernel_rfl) (by kernel_rfl) (by kernel_rfl) (fun _ _ _ h => h) ?_ ?_ hHeld ?_; rotate_left 1; (· rfl); (· intro w' hSw; (try dsimp only at hSw); (try clear hHeld); go_simp; try with_reducible rfl)
        try simp only [Act.put, List.setIfInBounds_toArray, List.set_cons_zero, List.set_cons_succ]
        refine rg_yes (i := 1) (v := ?_) (atS at0) (by kernel_rfl) (by kernel_rfl) (by kernel_rfl) (fun _ _ _ h => h) ?_ ?_ hHeld ?_; rotate_left 1; (· rfl); (· intro w' hSw; (try dsimp only at hSw); (try clear hHeld); go_simp; try with_reducible rfl)
        try simp only [Act.put, List.setIfInBounds_toArray, List.set_cons_zero, List.set_cons_succ]
        refine rg_yes (i := 3) (v := ?_) (atS (atS (atS at0))) (by kernel_rfl) (by kernel_rfl) (by kernel_rfl) (fun _ _ _ h => h) ?_ ?_ hHeld ?_; rotate_left 1; (· rfl); (· intro w' hSw; (try dsimp only at hSw); (try clear hHeld); go_simp; try with_reducible rfl)
        try simp only [Act.put, List.setIfInBounds_toArray, List.set_cons_zero, List.set_cons_succ]
        refine rg_yes (i := 4) (v := ?_) (atS (atS (atS (atS at0)))) (by kernel_rfl) (by kernel_rfl) (by kernel_rfl) (fun _ _ _ h => h) ?_ ?_ hHeld ?_; rotate_left 1; (· rfl); (· intro w' hSw; (try dsimp only at hSw); have y1 := hSw.cell C1.out NE.out; (try clear hHeld); go_simp; try with_reducible rfl)
        try simp only [Act.put, List.setIfInBounds_toArray, List.set_cons_zero, List.set_cons_succ]
        refine rg_yes (i := 5) (v := ?_) (atS (atS (atS (atS (atS at0))))) (by kernel_rfl) (by kernel_rfl) (by kernel_rfl) (fun _ _ _ h => h) ?_ ?_ hHeld ?_; rotate_left 1; (· rfl); (· intro w' hSw; (try dsimp only at hSw); (try clear hHeld); go_simp; try with_reducible rfl)
        try simp only [Act.put, List.setIfInBounds_toArray, List.set_cons_zero, List.set_cons_succ]
        refine rg_call (i := 2) (atS (atS at0)) (by kernel_rfl) ?_ (fun K hK => ?_); (· rfl); (try clear hb); go_simp; (refine NC.out.mono ?_; rintro e w2 ⟨v2, rfl, o2, k2, d2⟩); have O2 := Lib.hid o2; have K2 := Lib.hid (((Kept.refl _ _).drew).trans k2); have D2 : Hid (v2.ownBlock = u5.ownBlock ∨ ∃ b, v2.ownBlock = some b ∧ w1.heap.size ≤ b) := Lib.hid d2; clear o2 k2 d2 NC; go_wp2_with fail; refine hK.out _ _ ?_ (fun hHeld => ?_); (· exact K2.out); clear hK K
        try simp only [Act.put, List.setIfInBounds_toArray, List.set_cons_zero, List.set_cons_succ]
        refine rg_call (i := 6) (atS (atS (atS (atS (atS (atS at0)))))) (by kernel_rfl) ?_ (fun K hK => ?_); (· rfl); (try clear hb); go_simp; (refine (NC2.out v2 w2 O2.out (Nat.le_trans SZ1.out K2.out.size)).mono ?_; rintro e w3 ⟨v3, rfl, o3, k3, d3⟩); have O3 := Lib.hid o3; have K3 := Lib.hid (GrowB.kept K2.out D2.out k3); clear o3 k3 d3 NC2; go_wp2_with fail; refine hK.out _ _ ?_ (fun hHeld => ?_); (· exact K3.out); clear hK K
        try simp only [Act.put, List.setIfInBounds_toArray, List.set_cons_zero, List.set_cons_succ]
        refine rg_yes (i := 7) (v := ?_) (atS (atS (atS (atS (atS (atS (atS at0))))))) (by kernel_rfl) (by kernel_rfl) (by kernel_rfl) (fun _ _ _ h => h) ?_ ?_ hHeld ?_; rotate_left 1; (· rfl); (· intro w' hSw; (try dsimp only at hSw); (try clear hHeld); go_simp; try with_reducible rfl)
        try simp only [Act.put, List.setIfInBounds_toArray, List.set_cons_zero, List.set_cons_succ]
        refine wpAnyH_done (by kernel_rfl) ?_ _
        have y1 := K3.out.cell C1.out NE.out
        have B3 := Lib.hid (ownB_next B1.out O1.out K3.out)
        have L3 : (xs0 ++ numB kd 1 ++ numB sl.length 1).length ≤ 8589934594 := by rw [List.length_append, List.length_append, numB_len, numB_len]; omega
        obtain ⟨xs1, hxs1⟩ : ∃ xs1, xs0 ++ numB kd 1 ++ numB sl.length 1 = xs1 := ⟨_, rfl⟩
        rw [hxs1] at O3 L3 ST1
        clear hHeld O2 K2 D2 K3 O1 B1 C1 NE hxs1 LL SZ1
        go_wp2_with fail
        go_loopw [41, 5] (fun i9 v5 wr => ∃ j : Nat, j ≤ sl.length ∧ i9 = .int .i64 j ∧ Hid (OwnB wr W0.heap.size v5 (xs1 ++ (sl.take j).flatMap fun n => numB n 2)) ∧ Hid (Below W0.heap.size W0 wr)) (fun i9 _ _ => sl.length - (intOf i9).toNat)
        case atStart => exact ⟨0, by omega, rfl, Lib.hid (by simpa using O3.out), B3⟩
        case round =>
          clear O3 B3 y1
          obtain ⟨j, hj, rfl, O, BR⟩ := hrel
          by_cases hjl : j < sl.length
          · obtain ⟨x, hx⟩ : ∃ x, sl[j]? = some x := ⟨_, List.getElem?_eq_getElem hjl⟩
            obtain ⟨b2, off2, hsu, hP2⟩ := HU.out (by omega)
            subst hsu
            have x0 := cell_below (cell_below (ints_one hP2 hx) B.out) BR.out
            have ST2 := Lib.hid (flat_take (fun n => numB n 2) hx)
            have L2 := segs_le LS j
            have j0 : (0 : Int) ≤ (j : Int) := by omega
            have j1 : (j : Int) < (sl.length : Int) := by omega
            have SZ := BR.out.size
            clear hP2 hx
            have NCI := Lib.hid (N2.out u5 _ x wr O.out SZ (by rw [List.length_append]; omega))
            clear L2 SZ
            go_wp2_with fail
            refine NCI.out.mono ?_
            rintro e w4 ⟨v4, rfl, o4, k4, -⟩
            have O4 : Hid (OwnB w4 W0.heap.size v4 (xs1 ++ (sl.take (j + 1)).flatMap fun n => numB n 2)) := Lib.hid (by rw [ST2.out, ← List.append_assoc]; exact o4)
            have B4 := Lib.hid (ownB_next BR.out O.out k4)
            clear o4 k4 NCI x0
            go_wp2_with fail
            exact ⟨⟨j + 1, by omega, by go_num, O4, B4⟩, by simp [intOf]; omega⟩
          · obtain rfl : j = sl.length := by omega
            have O4 : Hid (OwnB wr W0.heap.size u5 (pathL (a.path.take (k + 1)))) := Lib.hid (by rw [ST1.out]; have := O.out; rw [List.take_length] at this; exact this)
            clear O
            go_wp2_with fail
            exact ⟨⟨k + 1, by omega, by go_num, O4, BR⟩, by simp [intOf]; omega⟩
    · obtain rfl : k = a.path.length := by omega
      have O1 : Hid (OwnB wr W0.heap.size u5 (valL a 2)) := Lib.hid (by have := O.out; rw [List.take_length] at this; rw [show valL a 2 = pathL a.path from by simp [valL]]; exact this)
      clear O
      go_wp2_with fail
      go_ret
      have RB := below_on B.out BR.out
      have RO := ownB_base O1.out B.out.size
      exact ⟨u5, rfl, RO, RB⟩
end Go.Proofs.YtohkbcdnlmjcjaaDoor
