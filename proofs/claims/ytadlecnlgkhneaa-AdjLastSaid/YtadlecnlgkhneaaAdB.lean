/-
  The laws on adj: which messages are let go; attributes that are handed in.
-/
import Derived.Test.YtadlecnlgkhneaaAdM
import Derived.Test.YtadlecnlgkhneaaBits
import Derived.Test.YtadlecnlgkhneaaSz
namespace Go.Proofs.Ytadlecnlgkhneaa
open Go.RowKit Go.ChangeShapes Go.WideShapes

def bigB (m : MV) : Bool := (((decide ((m.gn : Int) > 20) || decide ((m.nn : Int) > 20)) || decide ((m.a.pn : Int) > 6)) || decide ((m.a.cn : Int) > 40)) || decide ((m.a.on : Int) > 5)
theorem big_is {m : MV} {c1 c2 c3 c4 c5 : Bool} (h1 : decide ((m.gn : Int) > 20) = c1) (h2 : decide ((m.nn : Int) > 20) = c2) (h3 : decide ((m.a.pn : Int) > 6) = c3) (h4 : decide ((m.a.cn : Int) > 40) = c4) (h5 : decide ((m.a.on : Int) > 5) = c5) : bigB m = ((((c1 || c2) || c3) || c4) || c5) := by
  unfold bigB
  rw [h1, h2, h3, h4, h5]
set_option maxHeartbeats 1600000 in
set_option maxRecDepth 100000 in
theorem l_big (m : MV) (w : World) : Calls Try.prog 12 #[m.V] w fun e w' => e = .returned (.bool (bigB m)) ∧ Below w.heap.size w w' := by
  have HB := Lib.hid (fun c1 c2 c3 c4 c5 => big_is (m := m) (c1 := c1) (c2 := c2) (c3 := c3) (c4 := c4) (c5 := c5))
  generalize bigB m = z at HB ⊢
  go_enter Try.func12, Try.ntmps12
  go_upto_region 1 with (fail)
  obtain ⟨W0, hW0, q0, hb0, -⟩ := box1 w m.C 43
  rw [← hW0]
  clear hW0
  have k5 : W0.cell? ⟨w.heap.size, 5, none⟩ = some (.slice m.gs m.gn m.gc) := row_cell q0 5
  have k16 : W0.cell? ⟨w.heap.size, 16, none⟩ = some (.slice m.ns m.nn m.nc) := row_cell q0 16
  have k8 : W0.cell? ⟨w.heap.size, 8, none⟩ = some (.slice m.a.ps m.a.pn m.a.pc) := row_cell q0 8
  have k14 : W0.cell? ⟨w.heap.size, 14, none⟩ = some (.slice m.a.cs m.a.cn m.a.cc) := row_cell q0 14
  have k15 : W0.cell? ⟨w.heap.size, 15, none⟩ = some (.slice m.a.os m.a.on m.a.oc) := row_cell q0 15
  have B0 := Lib.hid hb0
  clear q0 hb0
  rcases hc1 : decide ((m.gn : Int) > 20) with _ | _
  · rcases hc2 : decide ((m.nn : Int) > 20) with _ | _
    · rcases hc3 : decide ((m.a.pn : Int) > 6) with _ | _
      · rcases hc4 : decide ((m.a.cn : Int) > 40) with _ | _
        · rcases hc5 : decide ((m.a.on : Int) > 5) with _ | _
          · have Z := Lib.hid (HB.out _ _ _ _ _ hc1 hc2 hc3 hc4 hc5)
            go_wp2_with fail
            go_ret
            exact ⟨ret_bool Z.out.symm, B0.out⟩
          · have Z := Lib.hid (HB.out _ _ _ _ _ hc1 hc2 hc3 hc4 hc5)
            go_wp2_with fail
            go_ret
            exact ⟨ret_bool Z.out.symm, B0.out⟩
        · have Z : Hid (z = true) := Lib.hid (by have := HB.out _ _ _ _ _ hc1 hc2 hc3 hc4 rfl; simpa using this)
          go_wp2_with fail
          go_ret
          exact ⟨ret_bool Z.out.symm, B0.out⟩
      · have Z : Hid (z = true) := Lib.hid (by have := HB.out _ _ _ _ _ hc1 hc2 hc3 rfl rfl; simpa using this)
        go_wp2_with fail
        go_ret
        exact ⟨ret_bool Z.out.symm, B0.out⟩
    · have Z : Hid (z = true) := Lib.hid (by have := HB.out _ _ _ _ _ hc1 hc2 rfl rfl rfl; simpa using this)
      go_wp2_with fail
      go_ret
      exact ⟨ret_bool Z.out.symm, B0.out⟩
  · have Z : Hid (z = true) := Lib.hid (by have := HB.out _ _ _ _ _ hc1 rfl rfl rfl rfl; simpa using this)
    go_wp2_with fail
    go_ret
    exact ⟨ret_bool Z.out.symm, B0.out⟩
theorem and_127 (x : Int) : bits .and .i64 x 127 = x % 128 := and_low_i64 x 7 (by decide)
set_option maxRecDepth 100000 in
/-- attributes that are handed in, as a value. -/
theorem open_av {H : Type} {enc : TypeId × Value → H} {w : World} {base : Nat} {spare : Nat → Bool} {held : Bool} {v : Value} {d : DataW H} {p : List MemPlace} {r : Reach} {b0 : Nat} (hv : Value.okWide Try.prog w r b0 35 v) (h : DataW.Trod enc Try.prog w base spare held 35 v d p) (hz : Sz Try.prog 35 d) :
    ∃ (a : At) (u : AV), v = u.V ∧ AvAt w a u ∧ AtSz a := by
  obtain ⟨a, vp, vc, vo, rfl, -, hl, hs⟩ := open_at_sz hv h hz
  obtain ⟨u, hu, ha⟩ := av_of hl
  exact ⟨a, u, hu.symm, ha, hs⟩
set_option maxRecDepth 100000 in
theorem open_boolv {w : World} {r : Reach} {b0 : Nat} {v : Value} (hv : Value.okWide Try.prog w r b0 4 v) : ∃ b, v = .bool b := okWide_bool Try.underlying4 hv
theorem LR.av {w W W' : World} {rb : Nat} {peer own most : Int} {R : Rts} {F : Nat → Prop} {a : At} {u : AV} (h : LR w W rb peer own most R F) (ha : AvAt w a u) (hk : Kept F W W') : AvAt W' a u := ha.below (h.bel.trans (hk.below h.bel.size h.fw))
/-! ### AdjLast: plain -/
theorem last_1 {p : Pf} {a : At} (hp : rightB p.1 p.2 = true) (ha : passB a.path 9 = false) : ∃ T, updP 9 5 [] 2 [] [p] a = (0, T, [(p, a)]) := by
  have h1 : saidP [] [p] = [p] := setOf_one p
  have h2 : netsP 9 [p] a = [p] := by unfold netsP; rw [ha]; exact setOf_one p
  refine ⟨[p].filter (turnB [] [p] a), ?_⟩
  unfold updP
  rw [if_pos rfl, h1, h2, if_pos (rights_all (by simpa using hp)), if_neg (by simp [cntP, hadB, getL])]
  rfl
theorem getL_self (p : Pf) (a : At) : getL [(p, a)] p = some a := by simp [getL]
theorem delL_self (p : Pf) (a : At) : delL [(p, a)] p = [] := by simp [delL]
theorem last_2 {p : Pf} {a b : At} (hp : rightB p.1 p.2 = true) (hb : passB b.path 9 = false) : updP 9 5 [(p, a)] 2 [] [p] b = (0, if sameA a b then [] else [p], [(p, b)]) := by
  have h1 : saidP [] [p] = [p] := setOf_one p
  have h2 : netsP 9 [p] b = [p] := by unfold netsP; rw [hb]; exact setOf_one p
  have h3 : [p].filter (turnB [(p, a)] [p] b) = if sameA a b then [] else [p] := by
    have : turnB [(p, a)] [p] b p = !(sameA a b) := by unfold turnB; rw [getL_self]; simp
    rw [List.filter_cons, this]
    cases sameA a b <;> simp
  have h4 : putAll (dropAll [(p, a)] [p]) [p] b = [(p, b)] := by
    show putP (delL [(p, a)] p) p b = _
    rw [delL_self]
    rfl
  unfold updP
  rw [if_pos rfl, h1, h2, if_pos (rights_all (by simpa using hp)), if_neg (by simp [cntP, hadB, getL_self]), h3, h4]
theorem last_3 {p : Pf} {a : At} (hp : rightB p.1 p.2 = true) : updP 9 5 [(p, a)] 2 [p] [] (atK 0) = (0, [p], []) := by
  have h1 : saidP [p] [] = [p] := setOf_one p
  have h2 : netsP 9 [] (atK 0) = [] := setOf_nil
  have h3 : [p].filter (turnB [(p, a)] [] (atK 0)) = [p] := by
    have : turnB [(p, a)] [] (atK 0) p = true := by unfold turnB; rw [getL_self]; simp
    simp [this]
  have h4 : putAll (dropAll [(p, a)] [p]) [] (atK 0) = [] := delL_self p a
  unfold updP
  rw [if_pos rfl, h1, h2, if_pos (rights_all (by simpa using hp)), if_neg (by simp [cntP, hadB, getL_self]), h3, h4]
end Go.Proofs.Ytadlecnlgkhneaa
