/- Texts of one proof, one behind another. -/
import Derived.Test.YtohkbcdnlmjcjaaDoorWr1
import Derived.Test.YtohkbcdnlmjcjaaDoorWr5
import Derived.SizedLaws
/-
  Steps of a region that draws its order, with one look for all conditions.
-/
namespace Go.Proofs.YtohkbcdnlmjcjaaDoor
open Go.RowKit
set_option maxRecDepth 100000 in
theorem atN {α : Type} {l : List α} {n : Nat} {x : α} (h : l[n]? = some x) : (List.toArray l)[n]? = some x := by simpa using h
section
variable {P : Program} {ops : Array Oper} {Q : Exit → Act → World → Prop} {md : Region.Mode} {S : World → Prop}
set_option maxRecDepth 100000 in
theorem three {a b c : Bool} (h : (a && (b && c)) = true) : a = true ∧ b = true ∧ c = true := by simpa using h
set_option maxRecDepth 100000 in
/-- an operation whose guard is false is passed by (one look for all). -/
theorem rgn {i : Nat} {oi : Oper} {fuel : Nat} {listed : Array Bool} {a : Act} {w : World} (hi : ops[i]? = some oi)
    (hk : (Region.noSelect ops && (Region.free md ops listed i && (Region.ready md ops listed).contains i)) = true)
    (hQ : ∀ c a w, Q (.panic c) (a.put oi.dst undef) w → Q (.panic c) a w) (hw : Region.wanted oi (yielded ops a.tmps) = false) (hS : S w)
    (h : wpAnyH P md ops Q S fuel (listed.setIfInBounds i true) (a.put oi.dst undef) w) : wpAnyH P md ops Q S (fuel + 1) listed a w :=
  rg_no hi (three hk).1 (three hk).2.1 (three hk).2.2 hQ hw hS h
set_option maxRecDepth 100000 in
/-- an operation that only computes, or reads what S says of memory (one look for all). -/
theorem rgy {i : Nat} {oi : Oper} {v : Value} {fuel : Nat} {listed : Array Bool} {a : Act} {w : World} (hi : ops[i]? = some oi)
    (hk : (Region.noSelect ops && (Region.free md ops listed i && (Region.ready md ops listed).contains i)) = true)
    (hQ : ∀ c a w, Q (.panic c) (a.put oi.dst v) w → Q (.panic c) a w) (hw : Region.wanted oi (yielded ops a.tmps) = true) (hy : ∀ w, S w → (execOp a.eval oi).run P w = .ok (.value v) w) (hS : S w)
    (h : wpAnyH P md ops Q S fuel (listed.setIfInBounds i true) (a.put oi.dst v) w) : wpAnyH P md ops Q S (fuel + 1) listed a w :=
  rg_yes hi (three hk).1 (three hk).2.1 (three hk).2.2 hQ hw hy hS h
end
end Go.Proofs.YtohkbcdnlmjcjaaDoor

/-
  ATTRIBUTES: value: the aggregator; the path.
-/
namespace Go.Proofs.YtohkbcdnlmjcjaaDoor
open Go.RowKit
set_option maxHeartbeats 3200000 in
set_option maxRecDepth 100000 in
theorem at_value_7 (a : At) (vp vc vo : Value) (w : World) (hA : AtL w a vp vc vo) (hr : a.Rng) :
    Calls Tryd.prog 33 #[.agg #[.int .i64 a.has, .int .i64 a.origin, vp, .int .u32 a.hop, .int .i64 a.med, .int .i64 a.loc, .int .i64 a.aggrAs, .int .u32 a.aggrId, vc, vo], .int .i64 7] w (ValPost a 7 w) := by
  obtain ⟨⟨sp, cp, rfl, -⟩, ⟨sc, cc, rfl, -⟩, ⟨so, co, rfl, -⟩⟩ := hA
  have h1 : (a.aggrId : Int) ≤ 4294967295 := by have := hr.2.2.2.2.2.2; omega
  have h0 : (0 : Int) ≤ (a.aggrId : Int) := by omega
  have hw : IntKind.i64.wrap (a.aggrId : Int) = (a.aggrId : Int) := IntWalk.i64_in _ (by omega)
  clear hr
  go_enter Tryd.func33, Tryd.ntmps33
  go_upto_region 1 with (fail)
  obtain ⟨W0, hW0, q, hb0, -⟩ := boxA w (.int .i64 a.has) (.int .i64 a.origin) (.slice sp a.path.length cp) (.int .u32 a.hop) (.int .i64 a.med) (.int .i64 a.loc) (.int .i64 a.aggrAs) (.int .u32 a.aggrId) (.slice sc a.comms.length cc) (.slice so a.others.length co)
  rw [← hW0]
  clear hW0
  have B := Lib.hid hb0
  obtain ⟨y0, y1, y2, y3, y4, y5, y6, y7, y8, y9⟩ := at10 q
  clear q hb0 y0 y1 y2 y3 y4 y5 y8 y9
  have NC := Lib.hid (at_num W0.heap.size (.slice none 0 0) [] a.aggrAs 2 W0.drew (ownB_nil _ _) (Nat.le_refl _) (by decide) (by decide))
  have N4 := Lib.hid (fun (v : Value) (xs : List Nat) (W : World) (h : OwnB W W0.heap.size v xs) (hb : W0.heap.size ≤ W.heap.size) (hx : xs.length ≤ 1099511627776) => at_num W0.heap.size v xs a.aggrId 4 W h hb (by decide) hx)
  have E : Hid (valL a 7 = numB a.aggrAs 2 ++ numB a.aggrId 4) := Lib.hid (by simp [valL])
  go_upto_region 26 with (fail)
  refine wp_region_held_drew (S := fun w' => Below W0.heap.size W0 w') (by kernel_rfl) ?_ (fun hHeld => ?_)
  · exact (Below.refl _ _).drew
  refine rg_yes (i := 0) (v := ?_) at0 (by kernel_rfl) (by kernel_rfl) (by kernel_rfl) (fun _ _ _ h => h) ?_ ?_ hHeld ?_; rotate_left 1; (· rfl); (· intro w' hSw; (try dsimp only at hSw); (try clear hHeld); go_simp; try with_reducible rfl)
  try simp only [Act.put, List.setIfInBounds_toArray, List.set_cons_zero, List.set_cons_succ]
  refine rg_yes (i := 1) (v := ?_) (atS at0) (by kernel_rfl) (by kernel_rfl) (by kernel_rfl) (fun _ _ _ h => h) ?_ ?_ hHeld ?_; rotate_left 1; (· rfl); (· intro w' hSw; (try dsimp only at hSw); (try clear hHeld); go_simp; try with_reducible rfl)
  try simp only [Act.put, List.setIfInBounds_toArray, List.set_cons_zero, List.set_cons_succ]
  refine rg_yes (i := 2) (v := ?_) (atS (atS at0)) (by kernel_rfl) (by kernel_rfl) (by kernel_rfl) (fun _ _ _ h => h) ?_ ?_ hHeld ?_; rotate_left 1; (· rfl); (· intro w' hSw; (try dsimp only at hSw); have y6 := cell_below y6 hSw; have y7 := cell_below y7 hSw; (try clear hHeld); go_simp; try with_reducible rfl)
  try simp only [Act.put, List.setIfInBounds_toArray, List.set_cons_zero, List.set_cons_succ]
  refine rg_yes (i := 4) (v := ?_) (atS (atS (atS (atS at0)))) (by kernel_rfl) (by kernel_rfl) (by kernel_rfl) (fun _ _ _ h => h) ?_ ?_ hHeld ?_; rotate_left 1; (· rfl); (· intro w' hSw; (try dsimp only at hSw); (try clear hHeld); go_simp; try with_reducible rfl)
  try simp only [Act.put, List.setIfInBounds_toArray, List.set_cons_zero, List.set_cons_succ]
  refine rg_yes (i := 5) (v := ?_) (atS (atS (atS (atS (atS at0))))) (by kernel_rfl) (by kernel_rfl) (by kernel_rfl) (fun _ _ _ h => h) ?_ ?_ hHeld ?_; rotate_left 1; (· rfl); (· intro w' hSw; (try dsimp only at hSw); have y6 := cell_below y6 hSw; have y7 := cell_below y7 hSw; (try clear hHeld); go_simp; try with_reducible rfl)
  try simp only [Act.put, List.setIfInBounds_toArray, List.set_cons_zero, List.set_cons_succ]
  refine rg_yes (i := 6) (v := ?_) (atS (atS (atS (atS (atS (atS at0)))))) (by kernel_rfl) (by kernel_rfl) (by kernel_rfl) (fun _ _ _ h => h) ?_ ?_ hHeld ?_; rotate_left 1; (· rfl); (· intro w' hSw; (try dsimp only at hSw); (try clear hHeld); go_simp; try with_reducible rfl)
  try simp only [Act.put, List.setIfInBounds_toArray, List.set_cons_zero, List.set_cons_succ]
  refine rg_call (i := 3) (atS (atS (atS at0))) (by kernel_rfl) ?_ (fun K hK => ?_); (· rfl); (try clear hb); go_simp; (refine NC.out.mono ?_; rintro e w1 ⟨v1, rfl, o1, k1, -⟩); have O1 := Lib.hid o1; have B1 := Lib.hid (ownB_next (Below.refl _ _).drew (ownB_nil W0.drew _) k1); clear o1 k1 NC; go_wp2_with fail; refine hK.out _ _ ?_ (fun hHeld => ?_); (· exact B1.out); clear hK K
  try simp only [Act.put, List.setIfInBounds_toArray, List.set_cons_zero, List.set_cons_succ]
  refine rg_call (i := 7) (atS (atS (atS (atS (atS (atS (atS at0))))))) (by kernel_rfl) ?_ (fun K hK => ?_); (· rfl); (try clear hb); go_simp; (refine (N4.out v1 _ w1 O1.out B1.out.size (by rw [List.length_append, numB_len]; decide)).mono ?_; rintro e w2 ⟨v2, rfl, o2, k2, -⟩); have O2 : Hid (OwnB w2 W0.heap.size v2 (valL a 7)) := Lib.hid (by rw [E.out]; exact o2); have B2 := Lib.hid (ownB_next B1.out O1.out k2); clear o2 k2 N4; go_wp2_with fail; refine hK.out _ _ ?_ (fun hHeld => ?_); (· exact B2.out); clear hK K
  try simp only [Act.put, List.setIfInBounds_toArray, List.set_cons_zero, List.set_cons_succ]
  refine rg_yes (i := 8) (v := ?_) (atS (atS (atS (atS (atS (atS (atS (atS at0)))))))) (by kernel_rfl) (by kernel_rfl) (by kernel_rfl) (fun _ _ _ h => h) ?_ ?_ hHeld ?_; rotate_left 1; (· rfl); (· intro w' hSw; (try dsimp only at hSw); (try clear hHeld); go_simp; try with_reducible rfl)
  try simp only [Act.put, List.setIfInBounds_toArray, List.set_cons_zero, List.set_cons_succ]
  refine wpAnyH_done (by kernel_rfl) ?_ _
  clear hHeld y6 y7
  go_wp2_with fail
  go_ret
  have RB := below_on B.out B2.out
  have RO := ownB_base O2.out B.out.size
  exact ⟨v2, rfl, RO, RB⟩
set_option maxRecDepth 100000 in
theorem own_lt {w : World} {B k n : Nat} {e : TypeId} {v : Value} {xs : List Value} (h : w.ownsRow B e k v n xs) : ∀ g, v.ownBlock = some g → g < w.heap.size := by
  obtain ⟨_, ⟨rfl, _⟩ | ⟨g, cap, cur, rfl, _, hg, _⟩⟩ := h
  · intro g hg; cases hg
  · intro g' hg'; cases hg'; exact row_lt hg
set_option maxRecDepth 100000 in
theorem segL_len (s : Sg) : (segL s).length = 2 + s.2.length * 2 := by
  have : ∀ l : List Int, (l.flatMap fun n => numB n 2).length = l.length * 2 := by
    intro l
    induction l with
    | nil => rfl
    | cons x l ih => rw [List.flatMap_cons, List.length_append, ih, numB_len, List.length_cons]; omega
  unfold segL
  rw [List.length_append, List.length_append, numB_len, numB_len, this]
  omega
set_option maxRecDepth 100000 in
theorem pathL_le {p : List Sg} {m : Nat} (hs : ∀ s ∈ p, 2 + s.2.length * 2 ≤ m) (k : Nat) : (pathL (p.take k)).length ≤ p.length * m :=
  Nat.le_trans (flatM_len segL m (p.take k) (fun s hx => by rw [segL_len]; exact hs s (List.mem_of_mem_take hx))) (Nat.mul_le_mul_right m (List.length_take_le' k p))
set_option maxRecDepth 100000 in
theorem segs_le {l : List Int} (h : l.length ≤ 65535) (j : Nat) : ((l.take j).flatMap fun n => numB n 2).length ≤ 131070 := by
  have h1 := flatM_len (fun n => numB n 2) 2 (l.take j) (fun x _ => by rw [numB_len]; exact Nat.le_refl _)
  have h2 : (l.take j).length ≤ l.length := List.length_take_le' j l
  omega
set_option maxRecDepth 100000 in
theorem path_next {p : List Sg} {k : Nat} {s : Sg} (h : p[k]? = some s) : pathL (p.take (k + 1)) = pathL (p.take k) ++ segL s := flat_take segL h
set_option maxHeartbeats 6400000 in
set_option maxRecDepth 100000 in
theorem at_value_2 (a : At) (vp vc vo : Value) (w : World) (hA : AtL w a vp vc vo) (hp : a.path.length ≤ 65536) (hl : ∀ s ∈ a.path, s.2.length ≤ 65535) :
    Calls Tryd.prog 33 #[.agg #[.int .i64 a.has, .int .i64 a.origin, vp, .int .u32 a.hop, .int .i64 a.med, .int .i64 a.loc, .int .i64 a.aggrAs, .int .u32 a.aggrId, vc, vo], .int .i64 2] w (ValPost a 2 w) := by
  obtain ⟨⟨sp, cp, rfl, hlc, hcm, hV⟩, ⟨sc, cc, rfl, -⟩, ⟨so, co, rfl, -⟩⟩ := hA
  have HV := Lib.hid hV
  have HL := Lib.hid hl
  unfold maxLen at hcm
  clear hV hl
  go_enter Tryd.func33, Tryd.ntmps33
  go_upto_region 1 with (fail)
  obtain ⟨W0, hW0, q, hb0, -⟩ := boxA w (.int .i64 a.has) (.int .i64 a.origin) (.slice sp a.path.length cp) (.int .u32 a.hop) (.int .i64 a.med) (.int .i64 a.loc) (.int .i64 a.aggrAs) (.int .u32 a.aggrId) (.slice sc a.comms.length cc) (.slice so a.others.length co)
  rw [← hW0]
  clear hW0
  have B := Lib.hid hb0
  obtain ⟨y0, y1, y2, y3, y4, y5, y6, y7, y8, y9⟩ := at10 q
  clear q hb0 y0 y1 y3 y4 y5 y6 y7 y8 y9
  have N1 := Lib.hid (fun (v : Value) (xs : List Nat) (n : Int) (W : World) (h : OwnB W W0.heap.size v xs) (hb : W0.heap.size ≤ W.heap.size) (hx : xs.length ≤ 1099511627776) => at_num W0.heap.size v xs n 1 W h hb (by decide) hx)
  have N2 := Lib.hid (fun (v : Value) (xs : List Nat) (n : Int) (W : World) (h : OwnB W W0.heap.size v xs) (hb : W0.heap.size ≤ W.heap.size) (hx : xs.length ≤ 1099511627776) => at_num W0.heap.size v xs n 2 W h hb (by decide) hx)
  go_wp2_with fail
  go_loopw [25, 5] (fun i9 v5 wr => ∃ k : Nat, k ≤ a.path.length ∧ i9 = .int .i64 k ∧ Hid (OwnB wr W0.heap.size v5 (pathL (a.path.take k))) ∧ Hid (Below W0.heap.size W0 wr)) (fun i9 _ _ => a.path.length - (intOf i9).toNat)
  case atStart => exact ⟨0, by omega, rfl, Lib.hid (ownB_nil _ _), Lib.hid (Below.refl _ _)⟩
  case round =>
    obtain ⟨k, hk, rfl, O, BR⟩ := hrel
    by_cases hlt : k < a.path.length
    · obtain ⟨s, hs⟩ : ∃ s, a.path[k]? = some s := ⟨_, List.getElem?_eq_getElem hlt⟩
      obtain ⟨b1, off1, hsa, hP⟩ := HV.out (by omega)
      subst hsa
      obtain ⟨cs, -, ⟨u, rfl, hu⟩, hc⟩ := hP k s hs
      have x0 := cell_below (cell_below (hc 0 _ rfl) B.out) BR.out
      have x1 := cell_below (cell_below (hc 1 _ rfl) B.out) BR.out
      obtain ⟨su, cu, rfl, hlu, hcu, hVu⟩ := hu
      have HU := Lib.hid hVu
      have ST := Lib.hid (path_next hs)
      have LL := pathL_le (m := 131072) (fun s hx => by have := HL.out s hx; omega) k
      have LS := HL.out s (List.mem_of_getElem? hs)
      have k0 : (0 : Int) ≤ (k : Int) := by omega
      have k1 : (k : Int) < (a.path.length : Int) := by omega
      have SZ := BR.out.size
      unfold maxLen at hcu
      simp only [Nat.add_zero] at x0
      clear hP hc hs hVu
      go_upto_region 9 with (fail)
      obtain ⟨w1, hw1, c0, c1, hb1⟩ := box2 wr (.bool s.1) (.slice su s.2.length cu) 32
      rw [← hw1]
      clear hw1 x0 x1
      have O1 := Lib.hid (O.out.below hb1)
      have NE := Lib.hid (fun (e : u5.ownBlock = some wr.heap.size) => Nat.lt_irrefl _ (own_lt O.out _ e))
      have B1 := Lib.hid (BR.out.trans (hb1.mono BR.out.size))
      have C1 := Lib.hid c1
      clear hb1 O BR c1
      obtain ⟨sb, sl⟩ := s
      simp only at c0 C1 LS hlu HU
      obtain ⟨kd, hkd⟩ : ∃ kd : Int, (if sb then 1 else 2) = kd := ⟨_, rfl⟩
      obtain ⟨xs0, hxs0⟩ : ∃ xs0, pathL (a.path.take k) = xs0 := ⟨_, rfl⟩
      have ST1 : Hid (pathL (a.path.take (k + 1)) = xs0 ++ numB kd 1 ++ numB sl.length 1 ++ sl.flatMap fun n => numB n 2) := Lib.hid (by
        rw [ST.out, hxs0]
        unfold segL
        simp only
        rw [hkd]
        simp only [List.append_assoc])
      rw [hxs0] at O1 LL
      have HKD := Lib.hid hkd
      clear hxs0 ST hkd
      have NC := Lib.hid (N1.out u5 xs0 kd w1.drew (O1.out.below (Below.refl _ _).drew) B1.out.size (by omega))
      have NC2 := Lib.hid (fun v (W : World) (h : OwnB W W0.heap.size v (xs0 ++ numB kd 1)) (hb : W0.heap.size ≤ W.heap.size) => N1.out v _ sl.length W h hb (by rw [List.length_append, numB_len]; omega))
      have SZ1 := Lib.hid B1.out.size
      clear SZ
      go_upto_if 30 with (fail)
      go_cut [8] (fun t8 wx => t8 = .int .i64 kd ∧ w1 = wx)
      case first =>
        have hkd := HKD.out
        clear HKD NC NC2
        cases sb
        · go_wp2_with fail
          go_meet
          exact ⟨by rw [← hkd]; rfl, rfl⟩
        · go_wp2_with fail
          go_meet
          exact ⟨by rw [← hkd]; rfl, rfl⟩
      case rest =>
        obtain ⟨h8, hw⟩ := hcut
        subst h8
        subst hw
        clear c0
        go_upto_region 12 with (fail)
        refine wp_region_held_drew (S := fun w' => Kept (fun b => u5.ownBlock = some b) w1 w') (by kernel_rfl) ?_ (fun hHeld => ?_)
        · exact (Kept.refl _ _).drew
        refine rg_yes (i := 0) (v := ?_) at0 (by kernel_rfl) (by kernel_rfl) (by kernel_rfl) (fun _ _ _ h => h) ?_ ?_ hHeld ?_; rotate_left 1; (· rfl); (· intro w' hSw; (try dsimp only at hSw); (try clear hHeld); go_simp; try with_reducible rfl)
        try simp only [Act.put, List.setIfInBounds_toArray, List.set_cons_zero, List.set_cons_succ]
        refine rg_yes (i := 1) (v := ?_) (atS at0) (by kernel_rfl) (by kernel_rfl) (by kernel_rfl) (fun _ _ _ h => h) ?_ ?_ hHeld ?_; rotate_left 1; (· rfl); (· intro w' hSw; (try dsimp only at hSw); (try clear hHeld); go_simp; try with_reducible rfl)
        try simp only [Act.put, List.setIfInBounds_toArray, List.set_cons_zero, List.set_cons_succ]
        refine rg_yes (i := 3) (v := ?_) (atS (atS (atS at0))) (by kernel_rfl) (by kernel_rfl) (by kernel_rfl) (fun _ _ _ h => h) ?_ ?_ hHeld ?_; rotate_left 1; (· rfl); (· intro w' hSw; (try dsimp only at hSw); (try clear hHeld); go_simp; try with_reducible rfl)
        try simp only [Act.put, List.setIfInBounds_toArray, List.set_cons_zero, List.set_cons_succ]
        refine rg_yes (i := 4) (v := ?_) (atS (atS (atS (atS at0)))) (by kernel_rfl) (by kernel_rfl) (by kernel_rfl) (fun _ _ _ h => h) ?_ ?_ hHeld ?_; rotate_left 1; (· rfl); (· intro w' hSw; (try dsimp only at hSw); have y1 := hSw.cell C1.out NE.out; (try clear hHeld); go_simp; try with_reducible rfl)
        try simp only [Act.put, List.setIfInBounds_toArray, List.set_cons_zero, List.set_cons_succ]
        refine rg_yes (i := 5) (v := ?_) (atS (atS (atS (atS (atS at0))))) (by kernel_rfl) (by kernel_rfl) (by kernel_rfl) (fun _ _ _ h => h) ?_ ?_ hHeld ?_; rotate_left 1; (· rfl); (· intro w' hSw; (try dsimp only at hSw); (try clear hHeld); go_simp; try with_reducible rfl)
        try simp only [Act.put, List.setIfInBounds_toArray, List.set_cons_zero, List.set_cons_succ]
        refine rg_call (i := 2) (atS (atS at0)) (by kernel_rfl) ?_ (fun K hK => ?_); (· rfl); (try clear hb); go_simp; (refine NC.out.mono ?_; rintro e w2 ⟨v2, rfl, o2, k2, d2⟩); have O2 := Lib.hid o2; have K2 := Lib.hid (((Kept.refl _ _).drew).trans k2); have D2 : Hid (v2.ownBlock = u5.ownBlock ∨ ∃ b, v2.ownBlock = some b ∧ w1.heap.size ≤ b) := Lib.hid d2; clear o2 k2 d2 NC; go_wp2_with fail; refine hK.out _ _ ?_ (fun hHeld => ?_); (· exact K2.out); clear hK K
        try simp only [Act.put, List.setIfInBounds_toArray, List.set_cons_zero, List.set_cons_succ]
        refine rg_call (i := 6) (atS (atS (atS (atS (atS (atS at0)))))) (by kernel_rfl) ?_ (fun K hK => ?_); (· rfl); (try clear hb); go_simp; (refine (NC2.out v2 w2 O2.out (Nat.le_trans SZ1.out K2.out.size)).mono ?_; rintro e w3 ⟨v3, rfl, o3, k3, d3⟩); have O3 := Lib.hid o3; have K3 := Lib.hid (GrowB.kept K2.out D2.out k3); clear o3 k3 d3 NC2; go_wp2_with fail; refine hK.out _ _ ?_ (fun hHeld => ?_); (· exact K3.out); clear hK K
        try simp only [Act.put, List.setIfInBounds_toArray, List.set_cons_zero, List.set_cons_succ]
        refine rg_yes (i := 7) (v := ?_) (atS (atS (atS (atS (atS (atS (atS at0))))))) (by kernel_rfl) (by kernel_rfl) (by kernel_rfl) (fun _ _ _ h => h) ?_ ?_ hHeld ?_; rotate_left 1; (· rfl); (· intro w' hSw; (try dsimp only at hSw); (try clear hHeld); go_simp; try with_reducible rfl)
        try simp only [Act.put, List.setIfInBounds_toArray, List.set_cons_zero, List.set_cons_succ]
        refine wpAnyH_done (by kernel_rfl) ?_ _
        have y1 := K3.out.cell C1.out NE.out
        have B3 := Lib.hid (ownB_next B1.out O1.out K3.out)
        have L3 : (xs0 ++ numB kd 1 ++ numB sl.length 1).length ≤ 8589934594 := by rw [List.length_append, List.length_append, numB_len, numB_len]; omega
        obtain ⟨xs1, hxs1⟩ : ∃ xs1, xs0 ++ numB kd 1 ++ numB sl.length 1 = xs1 := ⟨_, rfl⟩
        rw [hxs1] at O3 L3 ST1
        clear hHeld O2 K2 D2 K3 O1 B1 C1 NE hxs1 LL SZ1
        go_wp2_with fail
        go_loopw [41, 5] (fun i9 v5 wr => ∃ j : Nat, j ≤ sl.length ∧ i9 = .int .i64 j ∧ Hid (OwnB wr W0.heap.size v5 (xs1 ++ (sl.take j).flatMap fun n => numB n 2)) ∧ Hid (Below W0.heap.size W0 wr)) (fun i9 _ _ => sl.length - (intOf i9).toNat)
        case atStart => exact ⟨0, by omega, rfl, Lib.hid (by simpa using O3.out), B3⟩
        case round =>
          clear O3 B3 y1
          obtain ⟨j, hj, rfl, O, BR⟩ := hrel
          by_cases hjl : j < sl.length
          · obtain ⟨x, hx⟩ : ∃ x, sl[j]? = some x := ⟨_, List.getElem?_eq_getElem hjl⟩
            obtain ⟨b2, off2, hsu, hP2⟩ := HU.out (by omega)
            subst hsu
            have x0 := cell_below (cell_below (ints_one hP2 hx) B.out) BR.out
            have ST2 := Lib.hid (flat_take (fun n => numB n 2) hx)
            have L2 := segs_le LS j
            have j0 : (0 : Int) ≤ (j : Int) := by omega
            have j1 : (j : Int) < (sl.length : Int) := by omega
            have SZ := BR.out.size
            clear hP2 hx
            have NCI := Lib.hid (N2.out u5 _ x wr O.out SZ (by rw [List.length_append]; omega))
            clear L2 SZ
            go_wp2_with fail
            refine NCI.out.mono ?_
            rintro e w4 ⟨v4, rfl, o4, k4, -⟩
            have O4 : Hid (OwnB w4 W0.heap.size v4 (xs1 ++ (sl.take (j + 1)).flatMap fun n => numB n 2)) := Lib.hid (by rw [ST2.out, ← List.append_assoc]; exact o4)
            have B4 := Lib.hid (ownB_next BR.out O.out k4)
            clear o4 k4 NCI x0
            go_wp2_with fail
            exact ⟨⟨j + 1, by omega, by go_num, O4, B4⟩, by simp [intOf]; omega⟩
          · obtain rfl : j = sl.length := by omega
            have O4 : Hid (OwnB wr W0.heap.size u5 (pathL (a.path.take (k + 1)))) := Lib.hid (by rw [ST1.out]; have := O.out; rw [List.take_length] at this; exact this)
            clear O
            go_wp2_with fail
            exact ⟨⟨k + 1, by omega, by go_num, O4, BR⟩, by simp [intOf]; omega⟩
    · obtain rfl : k = a.path.length := by omega
      have O1 : Hid (OwnB wr W0.heap.size u5 (valL a 2)) := Lib.hid (by have := O.out; rw [List.take_length] at this; rw [show valL a 2 = pathL a.path from by simp [valL]]; exact this)
      clear O
      go_wp2_with fail
      go_ret
      have RB := below_on B.out BR.out
      have RO := ownB_base O1.out B.out.size
      exact ⟨u5, rfl, RO, RB⟩
end Go.Proofs.YtohkbcdnlmjcjaaDoor

/-
  HOW LARGE what a caller hands in may be: slices of whatever and attributes, opened, each with the reach of its slices.
-/
namespace Go.Proofs.YtohkbcdnlmjcjaaDoor
open Go.RowKit Go.ChangeShapes Go.WideShapes

/-- what is read takes no more than the reach. -/
def Sz {H : Type} (P : Program) (t : TypeId) (d : DataW H) : Prop := ∀ n ∈ d.weights P t, n ≤ 140737488351232
set_option maxRecDepth 100000 in
theorem sz_of {H : Type} {P : Program} {ts : List TypeId} {ds : List (DataW H)} (h : (DataW.weightsEach P ts ds).all (· ≤ reachBytes) = true) {j : Nat} {t : TypeId} {d : DataW H} (ht : ts[j]? = some t) (hd : ds[j]? = some d) : Sz P t d := by
  intro n hn
  have := List.all_eq_true.1 h n (DataW.weights_mem_each ht hd n hn)
  exact of_decide_eq_true this
set_option maxRecDepth 100000 in
theorem mem_weightsAll {H : Type} {P : Program} {e : TypeId} : ∀ {ds : List (DataW H)} {d : DataW H}, d ∈ ds → ∀ n ∈ d.weights P e, n ∈ DataW.weightsAll P e ds
  | x :: ds, d, h, n, hn => by
    simp only [DataW.weightsAll, List.mem_append]
    rcases List.mem_cons.1 h with rfl | h
    · exact .inl hn
    · exact .inr (mem_weightsAll h n hn)
  | [], _, h, _, _ => by simp at h
set_option maxRecDepth 100000 in
theorem sz_field {H : Type} {P : Program} {t : TypeId} {fs : Array Field} (hu : P.underlying t = some (.struct fs)) {parts : List (DataW H)} (h : Sz P t (.agg parts)) {j : Nat} {u : TypeId} {d : DataW H} (hf : (fs.toList.map (·.type))[j]? = some u) (hd : parts[j]? = some d) : Sz P u d := by
  intro n hn
  refine h n ?_
  simp only [DataW.weights, hu]
  exact DataW.weights_mem_each hf hd n hn
section
variable {H : Type} {enc : TypeId × Value → H} {w : World} {base : Nat} {spare : Nat → Bool} {held : Bool}
set_option maxRecDepth 100000 in
theorem open_sl_sz {α : Type} {t e : TypeId} {k f bs : Nat} {R : α → List Value → Prop} {S : α → Prop} {cs : List Value} {x : DataW H × List MemPlace} (ht : Tryd.prog.underlying t = some (.slice e)) (hk : Tryd.prog.cellsOf e = k) (hb : Tryd.prog.bytesOf e = bs) (hk0 : 0 < k)
    (hR : ∀ f cs y, DataW.trod enc Tryd.prog w base spare held f e cs = some y → Sz Tryd.prog e y.1 → ∃ a : α, R a cs ∧ S a) (h : DataW.trod enc Tryd.prog w base spare held f t cs = some x) (hz : Sz Tryd.prog t x.1) :
    ∃ v xs, cs = [v] ∧ SlAt w k R v xs ∧ xs.length * bs ≤ 140737488351232 ∧ ∀ x ∈ xs, S x := by
  rcases Deep.open_slice ht h with ⟨h1, _⟩ | ⟨a, len, cap, m, n, D, Pl, h1, _, hlc, hcap, hm, he, hx⟩
  · exact ⟨_, [], h1, SlAt.nil, by simp, fun x hx => by simp at hx⟩
  · rw [hk] at hx
    have hlm : len ≤ m := by rw [hm]; split <;> omega
    have hz1 : ∀ i, i < len → Sz Tryd.prog e (D i) := by
      intro i hi q hq
      refine hz q ?_
      rw [he]
      simp only [DataW.weights, ht, List.mem_cons, List.mem_append]
      exact .inr (.inl (mem_weightsAll (List.mem_map.2 ⟨i, List.mem_range.2 hi, rfl⟩) q hq))
    have hz0 : len * bs ≤ 140737488351232 := by
      have := hz (((List.range len).map D).length * bs + ((List.range (m - len)).map fun j => D (len + j)).length * bs) (by
        rw [he]
        simp only [DataW.weights, ht, hb, List.mem_cons, ← Nat.add_mul]
        exact .inl trivial)
      simp at this
      omega
    have hone : ∀ i : Fin len, ∃ z : α × List Value, S z.1 ∧ z.2.length = k ∧ R z.1 z.2 ∧ ∀ j c, z.2[j]? = some c → w.cell? (a.add (i.val * k + j)) = some c := by
      intro i
      obtain ⟨cs', hcs, ht⟩ := hx i.val (by omega)
      obtain ⟨y, hy, hS⟩ := hR _ _ _ ht (hz1 i.val i.isLt)
      obtain ⟨_, hl, hat⟩ := World.cells?_some hcs
      refine ⟨(y, cs'), hS, hl, hy, fun j c hc => ?_⟩
      have hj : j < k := by rw [← hl]; exact (List.getElem?_eq_some_iff.1 hc).1
      have := hat j hj
      rw [Deep.add_add] at this
      rw [this]; exact hc
    have hch := Classical.axiomOfChoice hone
    obtain ⟨g, hg⟩ := hch
    refine ⟨_, List.ofFn fun i => (g i).1, h1, ⟨some a, cap, by simp, by simp; omega, hcap, fun h0 => ?_⟩, by simpa using hz0, fun x hx => ?_⟩
    · have h0' : 0 < len := by simpa using h0
      have hsp : a.spot = none := by
        obtain ⟨_, e1, _, e3⟩ := hg ⟨0, h0'⟩
        have hlt : 0 < (g ⟨0, h0'⟩).2.length := by rw [e1]; exact hk0
        have hc := e3 0 _ (List.getElem?_eq_getElem hlt)
        have e : a.add (0 * k + 0) = a := by unfold Addr.add; simp
        simp only at hc
        rw [e] at hc
        unfold World.cell? at hc
        cases hq : a.spot with
        | none => rfl
        | some q => rw [hq] at hc; simp at hc; split at hc <;> simp at hc
      have had : ∀ k, a.add k = ⟨a.block, a.off + k, none⟩ := fun k => by
        unfold Addr.add
        split
        · rename_i hk; subst hk; cases a; simp at hsp; simp [hsp]
        · rfl
      refine ⟨a.block, a.off, by cases a; simp at hsp; simp [hsp], fun i s hi => ?_⟩
      have hil : i < len := by
        have := (List.getElem?_eq_some_iff.1 hi).1
        simpa using this
      rw [List.getElem?_ofFn] at hi
      simp [hil] at hi
      subst hi
      obtain ⟨_, e1, e2, e3⟩ := hg ⟨i, hil⟩
      refine ⟨_, e1, e2, fun j c hc => ?_⟩
      have := e3 j c hc
      rw [had, ← Nat.add_assoc] at this
      exact this
    · obtain ⟨i, rfl⟩ := (List.mem_ofFn).1 hx
      exact (hg i).1
set_option maxRecDepth 100000 in
theorem sl_ints_sz {f : Nat} {c : List Value} {y : DataW H × List MemPlace} (h : DataW.trod enc Tryd.prog w base spare held f 25 c = some y) (hz : Sz Tryd.prog 25 y.1) : ∃ v xs, c = [v] ∧ IntsAt w v xs ∧ xs.length * 8 ≤ 140737488351232 := by
  obtain ⟨v, xs, h1, h2, h3, _⟩ := open_sl_sz (k := 1) (bs := 8) (R := IntC) (S := fun _ => True) Tryd.underlying25 (by kernel_rfl) (by kernel_rfl) (by decide) (fun _ _ _ h _ => by obtain ⟨n, hn⟩ := sl_i64 h; exact ⟨n, hn, trivial⟩) h hz
  exact ⟨v, xs, h1, h2, h3⟩
set_option maxRecDepth 100000 in
theorem sl_bytes_sz {f : Nat} {c : List Value} {y : DataW H × List MemPlace} (h : DataW.trod enc Tryd.prog w base spare held f 38 c = some y) (hz : Sz Tryd.prog 38 y.1) : ∃ v xs, c = [v] ∧ BytesAt w v xs ∧ xs.length * 1 ≤ 140737488351232 := by
  obtain ⟨v, xs, h1, h2, h3, _⟩ := open_sl_sz (k := 1) (bs := 1) (R := ByteC) (S := fun _ => True) Tryd.underlying38 (by kernel_rfl) (by kernel_rfl) (by decide) (fun _ _ _ h _ => by obtain ⟨n, hn⟩ := sl_u8 h; exact ⟨n, hn, trivial⟩) h hz
  exact ⟨v, xs, h1, h2, h3⟩
def SgSz (s : Sg) : Prop := s.2.length * 8 ≤ 140737488351232
def OthSz (o : Oth) : Prop := o.2.length ≤ 140737488351232
structure AtSz (a : At) : Prop where
  path : a.path.length * 32 ≤ 140737488351232
  segs : ∀ s ∈ a.path, SgSz s
  comms : a.comms.length * 8 ≤ 140737488351232
  others : a.others.length * 32 ≤ 140737488351232
  vals : ∀ o ∈ a.others, OthSz o
set_option maxRecDepth 100000 in
theorem sl_seg_sz {f : Nat} {cs : List Value} {x : DataW H × List MemPlace} (h : DataW.trod enc Tryd.prog w base spare held f 32 cs = some x) (hz : Sz Tryd.prog 32 x.1) : ∃ s : Sg, SegC w s cs ∧ SgSz s := by
  obtain ⟨xs, n, _, hxe, hl, hxl, hf⟩ := DataW.trod_struct Tryd.underlying32 h
  rw [hxe] at hz
  have hc2 : Tryd.prog.cellsOf 32 = 2 := by kernel_rfl
  have hcb : Tryd.prog.cellsOf 4 = 1 := by kernel_rfl
  have hci : Tryd.prog.cellsOf 25 = 1 := by kernel_rfl
  rw [hc2] at hl
  match cs, hl with
  | [c0, c1], _ =>
    match xs, hxl with
    | [x0, x1], _ =>
      have e0 := hf 0 _ rfl
      have e1 := hf 1 _ rfl
      simp [hcb, hci] at e0 e1
      obtain ⟨s, hs, _⟩ := DataW.trod_bool Tryd.underlying4 e0
      obtain ⟨v, l, hv, hi, hzl⟩ := sl_ints_sz e1 (sz_field Tryd.underlying32 hz (j := 1) rfl rfl)
      simp at hs hv
      subst hs; subst hv
      exact ⟨(s, l), ⟨c1, rfl, hi⟩, hzl⟩
set_option maxRecDepth 100000 in
theorem sl_other_sz {f : Nat} {cs : List Value} {x : DataW H × List MemPlace} (h : DataW.trod enc Tryd.prog w base spare held f 61 cs = some x) (hz : Sz Tryd.prog 61 x.1) : ∃ s : Oth, OthC w s cs ∧ OthSz s := by
  obtain ⟨xs, n, _, hxe, hl, hxl, hf⟩ := DataW.trod_struct Tryd.underlying61 h
  rw [hxe] at hz
  have hc2 : Tryd.prog.cellsOf 61 = 2 := by kernel_rfl
  have hcb : Tryd.prog.cellsOf 3 = 1 := by kernel_rfl
  have hci : Tryd.prog.cellsOf 38 = 1 := by kernel_rfl
  rw [hc2] at hl
  match cs, hl with
  | [c0, c1], _ =>
    match xs, hxl with
    | [x0, x1], _ =>
      have e0 := hf 0 _ rfl
      have e1 := hf 1 _ rfl
      simp [hcb, hci] at e0 e1
      obtain ⟨s, hs, ir⟩ := sl_i64 e0
      obtain ⟨v, l, hv, hi, hzl⟩ := sl_bytes_sz e1 (sz_field Tryd.underlying61 hz (j := 1) rfl rfl)
      simp at hs hv
      subst hs; subst hv
      exact ⟨(s, l), ⟨c1, rfl, ir, hi⟩, by unfold OthSz; simpa using hzl⟩
set_option maxRecDepth 100000 in
theorem sl_attrs_sz {f : Nat} {cs : List Value} {x : DataW H × List MemPlace} (h : DataW.trod enc Tryd.prog w base spare held f 28 cs = some x) (hz : Sz Tryd.prog 28 x.1) : ∃ a : At, AtC w a cs ∧ AtSz a := by
  obtain ⟨xs, n, _, hxe, hl, hxl, hf⟩ := DataW.trod_struct Tryd.underlying28 h
  rw [hxe] at hz
  have hc : Tryd.prog.cellsOf 28 = 10 := by kernel_rfl
  have hc0 : Tryd.prog.cellsOf 3 = 1 := by kernel_rfl
  have hc1 : Tryd.prog.cellsOf 22 = 1 := by kernel_rfl
  have hc2 : Tryd.prog.cellsOf 24 = 1 := by kernel_rfl
  have hc3 : Tryd.prog.cellsOf 25 = 1 := by kernel_rfl
  have hc4 : Tryd.prog.cellsOf 26 = 1 := by kernel_rfl
  rw [hc] at hl
  match cs, hl with
  | [c0, c1, c2, c3, c4, c5, c6, c7, c8, c9], _ =>
    match xs, hxl with
    | [x0, x1, x2, x3, x4, x5, x6, x7, x8, x9], _ =>
      have e0 := hf 0 _ rfl
      have e1 := hf 1 _ rfl
      have e2 := hf 2 _ rfl
      have e3 := hf 3 _ rfl
      have e4 := hf 4 _ rfl
      have e5 := hf 5 _ rfl
      have e6 := hf 6 _ rfl
      have e7 := hf 7 _ rfl
      have e8 := hf 8 _ rfl
      have e9 := hf 9 _ rfl
      simp [hc0, hc1, hc2, hc3, hc4] at e0 e1 e2 e3 e4 e5 e6 e7 e8 e9
      obtain ⟨has, q0, i0⟩ := sl_i64 e0
      obtain ⟨origin, q1, i1⟩ := sl_i64 e1
      obtain ⟨vp, path, q2, i2, z2, s2⟩ := open_sl_sz (k := 2) (bs := 32) (R := SegC w) (S := SgSz) Tryd.underlying22 (by kernel_rfl) (by kernel_rfl) (by decide) (fun _ _ _ h hz => sl_seg_sz h hz) e2 (sz_field Tryd.underlying28 hz (j := 2) rfl rfl)
      obtain ⟨hop, q3, i3⟩ := sl_u32 e3
      obtain ⟨med, q4, i4⟩ := sl_i64 e4
      obtain ⟨loc, q5, i5⟩ := sl_i64 e5
      obtain ⟨aggrAs, q6, i6⟩ := sl_i64 e6
      obtain ⟨aggrId, q7, i7⟩ := sl_u32 e7
      obtain ⟨vc, comms, q8, i8, z8⟩ := sl_ints_sz e8 (sz_field Tryd.underlying28 hz (j := 8) rfl rfl)
      obtain ⟨vo, others, q9, i9, z9, s9⟩ := open_sl_sz (k := 2) (bs := 32) (R := OthC w) (S := OthSz) Tryd.underlying26 (by kernel_rfl) (by kernel_rfl) (by decide) (fun _ _ _ h hz => sl_other_sz h hz) e9 (sz_field Tryd.underlying28 hz (j := 9) rfl rfl)
      simp at q0 q1 q2 q3 q4 q5 q6 q7 q8 q9
      subst q0; subst q1; subst q2; subst q3; subst q4; subst q5; subst q6; subst q7; subst q8; subst q9
      exact ⟨⟨has, origin, path, hop, med, loc, aggrAs, aggrId, comms, others⟩, ⟨c2, c8, c9, rfl, ⟨i0, i1, i3, i4, i5, i6, i7⟩, i2, i8, i9⟩, ⟨z2, s2, z8, z9, s9⟩⟩
set_option maxRecDepth 100000 in
/-- attributes that are handed in. -/
theorem open_at_sz {v : Value} {d : DataW H} {p : List MemPlace} {r : Reach} {b0 : Nat} (hv : Value.okWide Tryd.prog w r b0 28 v) (h : DataW.Trod enc Tryd.prog w base spare held 28 v d p) (hz : Sz Tryd.prog 28 d) :
    ∃ (a : At) (vp vc vo : Value), v = .agg (atV a vp vc vo).toArray ∧ a.Rng ∧ AtL w a vp vc vo ∧ AtSz a := by
  obtain ⟨fuel, h⟩ := h
  obtain ⟨cs, rfl, hcs⟩ := okWide_struct Tryd.underlying28 hv
  obtain ⟨a, ⟨vp, vc, vo, hc, hr, hA⟩, hs⟩ := sl_attrs_sz h hz
  refine ⟨a, vp, vc, vo, ?_, hr, hA, hs⟩
  rw [← hc]
  rfl
end
end Go.Proofs.YtohkbcdnlmjcjaaDoor
