/- Texts of one proof, one behind another. -/
import Derived.Test.YtadlecnlgkhneaaOw2
import Derived.LoopTactic
import Derived.OwnWalk
import Derived.Deep.DeepCutAuto
import Derived.LoopN
import Derived.Test.YtadlecnlgkhneaaOw1
import Derived.Deep.Heap
import Derived.Deep.MidRow
import Derived.StillTailTactics
/-
  slices.Index, slices.Contains over integers: where the first one is; whether one is there.
-/
namespace Go.Proofs.Ytadlecnlgkhneaa
open Go.RowKit

def idxI (t : Int) : List Int → Nat → Int
  | [], _ => -1
  | r :: rs, k => if t = r then (k : Int) else idxI t rs (k + 1)
theorem idxI_step {t : Int} {rs : List Int} {k : Nat} {r : Int} (h : rs[k]? = some r) : idxI t (rs.drop k) k = if t = r then (k : Int) else idxI t (rs.drop (k + 1)) (k + 1) := by
  obtain ⟨h1, h2⟩ := List.getElem?_eq_some_iff.1 h
  rw [List.drop_eq_getElem_cons h1, h2]; rfl
theorem idxI_has (t : Int) : ∀ (rs : List Int) (k : Nat), decide (idxI t rs k ≥ 0) = rs.contains t
  | [], k => by simp [idxI]
  | r :: rs, k => by
    have ih := idxI_has t rs (k + 1)
    unfold idxI
    rw [List.contains_cons]
    by_cases h : t = r
    · subst h; simp
    · rw [if_neg h, ih]
      simp [h]
set_option maxHeartbeats 1600000 in
theorem sl_Index (v : Value) (xs : List Int) (t : Int) (w : World) (h : IntsAt w v xs) : Calls Try.prog 63 #[v, .int .i64 t] w fun e w' => e = .returned (.int .i64 (idxI t xs 0)) ∧ w = w' := by
  obtain ⟨sa, cap, rfl, hlc, hcm, hV⟩ := h
  have HV := Lib.hid hV
  unfold maxLen at hcm
  clear hV
  go_enter Try.func63, Try.ntmps63
  go_wp2_with fail
  go_loopw [8] (fun i wr => ∃ k : Nat, k ≤ xs.length ∧ i = .int .i64 k ∧ Hid (idxI t xs 0 = idxI t (xs.drop k) k) ∧ wr = w) (fun i _ => xs.length - (intOf i).toNat)
  case atStart => exact ⟨0, by omega, rfl, Lib.hid rfl, rfl⟩
  case round =>
    obtain ⟨k, hk, rfl, E, rfl⟩ := hrel
    by_cases hlt : k < xs.length
    · obtain ⟨r, hr⟩ : ∃ r, xs[k]? = some r := ⟨_, List.getElem?_eq_getElem hlt⟩
      obtain ⟨b, off, hsa, hP⟩ := HV.out (by omega)
      subst hsa
      obtain ⟨cs, _, ⟨rfl, _⟩, hc⟩ := hP k r hr
      have x0 := hc 0 _ rfl
      simp only [Nat.add_zero, Nat.mul_one] at x0
      have E2 : Hid (idxI t xs 0 = if t = r then (k : Int) else idxI t (xs.drop (k + 1)) (k + 1)) := Lib.hid (by rw [E.out, idxI_step hr])
      have j0 : (0 : Int) ≤ (k : Int) := by omega
      have j1 : (k : Int) < (xs.length : Int) := by omega
      clear hP hc hr E
      by_cases hp : t = r
      · have E3 : Hid (idxI t xs 0 = (k : Int)) := Lib.hid (by rw [E2.out, if_pos hp])
        have hb : (t == r) = true := by simpa using hp
        clear E2 hp
        go_wp2_with fail
        go_ret
        exact ⟨ret_int E3.out.symm, rfl⟩
      · have E3 : Hid (idxI t xs 0 = idxI t (xs.drop (k + 1)) (k + 1)) := Lib.hid (by rw [E2.out, if_neg hp])
        have hb : (t == r) = false := by simpa using hp
        clear E2 hp
        go_wp2_with fail
        exact ⟨⟨k + 1, by omega, by go_num, E3, trivial⟩, by simp [intOf]; omega⟩
    · obtain rfl : k = xs.length := by omega
      have E3 : Hid (idxI t xs 0 = -1) := Lib.hid (by rw [E.out, List.drop_length]; rfl)
      clear E
      go_wp2_with fail
      go_ret
      exact ⟨ret_int E3.out.symm, rfl⟩
theorem sl_Contains (v : Value) (xs : List Int) (t : Int) (w : World) (h : IntsAt w v xs) : Calls Try.prog 36 #[v, .int .i64 t] w fun e w' => e = .returned (.bool (xs.contains t)) ∧ w = w' := by
  have RI := Lib.hid (sl_Index v xs t w h)
  have EQ := Lib.hid (idxI_has t xs 0)
  generalize idxI t xs 0 = n at RI EQ
  clear h
  go_enter Try.func36, Try.ntmps36
  go_wp2_with fail
  refine RI.out.mono ?_
  rintro e w1 ⟨rfl, rfl⟩
  go_wp2_with fail
  go_ret
  exact ⟨ret_bool EQ.out, rfl⟩
end Go.Proofs.Ytadlecnlgkhneaa

/-
  ATTRIBUTES: Passes: whether a system is on the path.
-/
namespace Go.Proofs.Ytadlecnlgkhneaa
open Go.RowKit

theorem box1 (w : World) (C : Array Value) (T : TypeId) : ∃ W0, W0 = w.alloc (.cells C T) ∧ W0.heap[w.heap.size]? = some (.cells C T (0, 0)) ∧ Below w.heap.size w W0 ∧ W0.heap.size = w.heap.size + 1 :=
  ⟨_, rfl, heap_alloc_new w _, (Below.refl _ _).alloc (Nat.le_refl _) _, by simp⟩
theorem boxTwo (w : World) (C : Array Value) (T : TypeId) (Z : Array Value) (U : TypeId) : ∃ W0, W0 = (w.alloc (.cells C T)).alloc (.cells Z U) ∧ W0.heap[w.heap.size]? = some (.cells C T (0, 0)) ∧ W0.heap[w.heap.size + 1]? = some (.cells Z U (0, 0)) ∧ Below w.heap.size w W0 := by
  refine ⟨_, rfl, ?_, ?_, ((Below.refl _ _).alloc (Nat.le_refl _) _).alloc (by simp) _⟩
  · have h1 := heap_alloc_new w (.cells C T)
    have h2 : Below (w.alloc (.cells C T)).heap.size (w.alloc (.cells C T)) ((w.alloc (.cells C T)).alloc (.cells Z U)) := (Below.refl _ _).alloc (Nat.le_refl _) _
    exact (h2.block _ (row_lt h1)).trans h1
  · have h1 := heap_alloc_new (w.alloc (.cells C T)) (.cells Z U)
    simpa using h1
/-- whether a system is on a path. -/
def passB (p : List Sg) (t : Int) : Bool := p.any fun s => s.2.contains t
set_option maxHeartbeats 1600000 in
set_option maxRecDepth 100000 in
theorem at_pass1 (b : Bool) (u : Value) (l : List Int) (tb : Nat) (t : Int) (w : World) (hu : IntsAt w u l) (ht : w.cell? ⟨tb, 0, none⟩ = some (.int .i64 t)) :
    Calls Try.prog 35 #[.agg #[.bool b, u], .pointer (some ⟨tb, 0, none⟩)] w fun e w' => e = .returned (.bool (l.contains t)) ∧ Below w.heap.size w w' := by
  have HU := Lib.hid hu
  go_enter Try.func35, Try.ntmps35
  go_upto_region 1 with (fail)
  obtain ⟨W0, hW0, q0, hb0, -⟩ := box1 w #[.bool b, u] 54
  rw [← hW0]
  clear hW0
  have c1 : W0.cell? ⟨w.heap.size, 1, none⟩ = some u := row_cell q0 1
  have t0 := cell_below ht hb0
  have H0 := Lib.hid (HU.out.below hb0)
  clear q0 ht hu
  have CT := Lib.hid (sl_Contains _ l t _ H0.out)
  generalize hz : l.contains t = z at CT
  have HZ := Lib.hid hz
  clear hz
  obtain ⟨sa, cap, rfl, -⟩ := id HU.out
  go_wp2_with fail
  refine CT.out.mono ?_
  rintro e w1 ⟨rfl, rfl⟩
  clear c1 t0
  go_wp2_with fail
  go_ret
  exact ⟨ret_bool HZ.out.symm, hb0⟩
def idxP (t : Int) : List Sg → Nat → Int
  | [], _ => -1
  | r :: rs, k => if r.2.contains t = true then (k : Int) else idxP t rs (k + 1)
theorem idxP_step {t : Int} {rs : List Sg} {k : Nat} {r : Sg} (h : rs[k]? = some r) : idxP t (rs.drop k) k = if r.2.contains t = true then (k : Int) else idxP t (rs.drop (k + 1)) (k + 1) := by
  obtain ⟨h1, h2⟩ := List.getElem?_eq_some_iff.1 h
  rw [List.drop_eq_getElem_cons h1, h2]; rfl
theorem idxP_has (t : Int) : ∀ (rs : List Sg) (k : Nat), decide (idxP t rs k ≥ 0) = passB rs t
  | [], k => by simp [idxP, passB]
  | r :: rs, k => by
    have ih := idxP_has t rs (k + 1)
    unfold idxP
    unfold passB at ih ⊢
    rw [List.any_cons]
    cases h : r.2.contains t
    · simpa using ih
    · simp
set_option maxHeartbeats 3200000 in
set_option maxRecDepth 100000 in
theorem at_IndexF (v : Value) (p : List Sg) (tb : Nat) (t : Int) (w : World) (h : PathAt w v p) (ht : w.cell? ⟨tb, 0, none⟩ = some (.int .i64 t)) :
    Calls Try.prog 62 #[v, .func (.func 35) #[] #[.pointer (some ⟨tb, 0, none⟩)]] w fun e w' => e = .returned (.int .i64 (idxP t p 0)) ∧ Below w.heap.size w w' := by
  obtain ⟨sa, cap, rfl, hlc, hcm, hV⟩ := h
  have HV := Lib.hid hV
  have HT := Lib.hid ht
  unfold maxLen at hcm
  clear hV ht
  go_enter Try.func62, Try.ntmps62
  go_wp2_with fail
  go_loopw [8] (fun i wr => ∃ k : Nat, k ≤ p.length ∧ i = .int .i64 k ∧ Hid (idxP t p 0 = idxP t (p.drop k) k) ∧ Hid (Below w.heap.size w wr)) (fun i _ => p.length - (intOf i).toNat)
  case atStart => exact ⟨0, by omega, rfl, Lib.hid rfl, Lib.hid (Below.refl _ _)⟩
  case round =>
    obtain ⟨k, hk, rfl, E, B⟩ := hrel
    by_cases hlt : k < p.length
    · obtain ⟨r, hr⟩ : ∃ r, p[k]? = some r := ⟨_, List.getElem?_eq_getElem hlt⟩
      obtain ⟨b, off, hsa, hP⟩ := HV.out (by omega)
      subst hsa
      obtain ⟨cs, _, ⟨u, rfl, hu⟩, hc⟩ := hP k r hr
      have x0 := hc 0 _ rfl
      have x1 := hc 1 _ rfl
      simp only [Nat.add_zero] at x0
      have x0 := (B.out.cell (size_lt x0)).trans x0
      have x1 := (B.out.cell (size_lt x1)).trans x1
      have t0 := Lib.hid ((B.out.cell (size_lt HT.out)).trans HT.out)
      have P1 := Lib.hid (at_pass1 r.1 u r.2 tb t wr (hu.below B.out) t0.out)
      obtain ⟨su, cu, rfl, -⟩ := hu
      have E2 : Hid (idxP t p 0 = if r.2.contains t = true then (k : Int) else idxP t (p.drop (k + 1)) (k + 1)) := Lib.hid (by rw [E.out, idxP_step hr])
      have j0 : (0 : Int) ≤ (k : Int) := by omega
      have j1 : (k : Int) < (p.length : Int) := by omega
      clear hP hc hr E t0
      generalize hz : r.2.contains t = z at P1 E2
      go_wp2_with fail
      refine P1.out.mono ?_
      rintro e w2 ⟨rfl, hb2⟩
      have B2 := Lib.hid (below_on B.out hb2)
      clear hb2 B x0 x1 P1 hz
      cases z
      · have E3 : Hid (idxP t p 0 = idxP t (p.drop (k + 1)) (k + 1)) := Lib.hid (by rw [E2.out, if_neg (by simp)])
        clear E2
        go_wp2_with fail
        exact ⟨⟨k + 1, by omega, by go_num, E3, B2⟩, by simp [intOf]; omega⟩
      · have E3 : Hid (idxP t p 0 = (k : Int)) := Lib.hid (by rw [E2.out, if_pos rfl])
        clear E2
        go_wp2_with fail
        go_ret
        exact ⟨ret_int E3.out.symm, B2.out⟩
    · obtain rfl : p.length = k := by omega
      have E3 : Hid (idxP t p 0 = -1) := Lib.hid (by rw [E.out, List.drop_length]; rfl)
      clear E
      go_wp2_with fail
      go_ret
      exact ⟨ret_int E3.out.symm, B.out⟩
theorem at_ContainsF (v : Value) (p : List Sg) (tb : Nat) (t : Int) (w : World) (h : PathAt w v p) (ht : w.cell? ⟨tb, 0, none⟩ = some (.int .i64 t)) :
    Calls Try.prog 34 #[v, .func (.func 35) #[] #[.pointer (some ⟨tb, 0, none⟩)]] w fun e w' => e = .returned (.bool (passB p t)) ∧ Below w.heap.size w w' := by
  have RI := Lib.hid (at_IndexF v p tb t w h ht)
  have EQ := Lib.hid (idxP_has t p 0)
  generalize idxP t p 0 = n at RI EQ
  clear h ht
  go_enter Try.func34, Try.ntmps34
  go_wp2_with fail
  refine RI.out.mono ?_
  rintro e w1 ⟨rfl, hb⟩
  go_wp2_with fail
  go_ret
  exact ⟨ret_bool EQ.out, hb⟩
set_option maxHeartbeats 1600000 in
set_option maxRecDepth 100000 in
theorem at_Passes (a : At) (vp vc vo : Value) (t : Int) (w : World) (hP : PathAt w vp a.path) : Calls Try.prog 13 #[.agg (atV a vp vc vo).toArray, .int .i64 t] w fun e w' => e = .returned (.bool (passB a.path t)) ∧ Below w.heap.size w w' := by
  show Calls Try.prog 13 #[.agg #[.int .i64 a.has, .int .i64 a.origin, vp, .int .u32 a.hop, .int .i64 a.med, .int .i64 a.loc, .int .i64 a.aggrAs, .int .u32 a.aggrId, vc, vo], .int .i64 t] w _
  have HP := Lib.hid hP
  obtain ⟨sa, cap, rfl, -⟩ := hP
  go_enter Try.func13, Try.ntmps13
  go_upto_region 1 with (fail)
  obtain ⟨W0, hW0, q0, q1, hb0⟩ := boxTwo w #[.int .i64 a.has, .int .i64 a.origin, .slice sa a.path.length cap, .int .u32 a.hop, .int .i64 a.med, .int .i64 a.loc, .int .i64 a.aggrAs, .int .u32 a.aggrId, vc, vo] 35 #[.int .i64 t] 3
  rw [← hW0]
  clear hW0
  have c2 : W0.cell? ⟨w.heap.size, 2, none⟩ = some (.slice sa a.path.length cap) := row_cell q0 2
  have t0 : W0.cell? ⟨w.heap.size + 1, 0, none⟩ = some (.int .i64 t) := row_cell q1 0
  have CF := Lib.hid (at_ContainsF _ a.path (w.heap.size + 1) t W0 (HP.out.below hb0) t0)
  clear q0 q1
  go_wp2_with fail
  refine CF.out.mono ?_
  rintro e w1 ⟨rfl, hb⟩
  have hb2 := Lib.hid (below_on hb0 hb)
  clear hb c2 t0 hb0 CF
  go_wp2_with fail
  go_ret
  exact ⟨rfl, hb2.out⟩
end Go.Proofs.Ytadlecnlgkhneaa

/-
  ATTRIBUTES AS VALUES: ten cells; how they are stored into a node of a trie.
-/
namespace Go.Proofs.Ytadlecnlgkhneaa
open Go.RowKit

/-- attributes as the program has them: numbers and three slices. -/
structure AV where
  has : Int
  origin : Int
  ps : Option Addr
  pn : Nat
  pc : Nat
  hop : Nat
  med : Int
  loc : Int
  aggrAs : Int
  aggrId : Nat
  cs : Option Addr
  cn : Nat
  cc : Nat
  os : Option Addr
  on : Nat
  oc : Nat
abbrev AV.C (v : AV) : Array Value := #[.int .i64 v.has, .int .i64 v.origin, .slice v.ps v.pn v.pc, .int .u32 v.hop, .int .i64 v.med, .int .i64 v.loc, .int .i64 v.aggrAs, .int .u32 v.aggrId, .slice v.cs v.cn v.cc, .slice v.os v.on v.oc]
abbrev AV.V (v : AV) : Value := .agg #[.int .i64 v.has, .int .i64 v.origin, .slice v.ps v.pn v.pc, .int .u32 v.hop, .int .i64 v.med, .int .i64 v.loc, .int .i64 v.aggrAs, .int .u32 v.aggrId, .slice v.cs v.cn v.cc, .slice v.os v.on v.oc]
def av0 : AV := ⟨0, 0, none, 0, 0, 0, 0, 0, 0, 0, none, 0, 0, none, 0, 0⟩
/-- a node's row. -/
abbrev nodeR (k0 k1 h : Value) (v : AV) : Array Value := #[k0, k1, h, .int .i64 v.has, .int .i64 v.origin, .slice v.ps v.pn v.pc, .int .u32 v.hop, .int .i64 v.med, .int .i64 v.loc, .int .i64 v.aggrAs, .int .u32 v.aggrId, .slice v.cs v.cn v.cc, .slice v.os v.on v.oc]
/-- attributes stored into a node. -/
def setAV (W : World) (b : Nat) (v : AV) : World :=
  (((((((((W.setCell ⟨b, 3, none⟩ (.int .i64 v.has)).setCell ⟨b, 4, none⟩ (.int .i64 v.origin)).setCell ⟨b, 5, none⟩ (.slice v.ps v.pn v.pc)).setCell ⟨b, 6, none⟩ (.int .u32 v.hop)).setCell ⟨b, 7, none⟩ (.int .i64 v.med)).setCell ⟨b, 8, none⟩ (.int .i64 v.loc)).setCell ⟨b, 9, none⟩ (.int .i64 v.aggrAs)).setCell ⟨b, 10, none⟩ (.int .u32 v.aggrId)).setCell ⟨b, 11, none⟩ (.slice v.cs v.cn v.cc)).setCell ⟨b, 12, none⟩ (.slice v.os v.on v.oc)
theorem AV.one (v : AV) : (v.C.all (·.oneCell')) = true := by simp [AV.C, Value.oneCell']
theorem setAV_eq (W : World) (b : Nat) (v : AV) : W.setCells b 3 v.C.toList = setAV W b v := rfl
theorem setAV_row {W : World} {b : Nat} {k0 k1 h : Value} {u : AV} {tN : TypeId} (hb : W.heap[b]? = some (.cells (nodeR k0 k1 h u) tN (0, 0))) (v : AV) : (setAV W b v).heap[b]? = some (.cells (nodeR k0 k1 h v) tN (0, 0)) := by
  unfold setAV
  rw [set_same (set_same (set_same (set_same (set_same (set_same (set_same (set_same (set_same (set_same hb _ _) _ _) _ _) _ _) _ _) _ _) _ _) _ _) _ _) _ _]
  simp only [List.setIfInBounds_toArray, List.set_cons_succ, List.set_cons_zero]
theorem setAV_other {W : World} {b g : Nat} (h : g ≠ b) (v : AV) : (setAV W b v).heap[g]? = W.heap[g]? := by
  unfold setAV
  rw [set_other _ _ _ h, set_other _ _ _ h, set_other _ _ _ h, set_other _ _ _ h, set_other _ _ _ h, set_other _ _ _ h, set_other _ _ _ h, set_other _ _ _ h, set_other _ _ _ h, set_other _ _ _ h]
theorem node_cells {W : World} {b : Nat} {k0 k1 h : Value} {u : AV} {tN : TypeId} (hb : W.heap[b]? = some (.cells (nodeR k0 k1 h u) tN (0, 0))) :
    W.cell? ⟨b, 3, none⟩ = some (.int .i64 u.has) ∧ W.cell? ⟨b, 4, none⟩ = some (.int .i64 u.origin) ∧ W.cell? ⟨b, 5, none⟩ = some (.slice u.ps u.pn u.pc) ∧ W.cell? ⟨b, 6, none⟩ = some (.int .u32 u.hop) ∧ W.cell? ⟨b, 7, none⟩ = some (.int .i64 u.med) ∧ W.cell? ⟨b, 8, none⟩ = some (.int .i64 u.loc) ∧ W.cell? ⟨b, 9, none⟩ = some (.int .i64 u.aggrAs) ∧ W.cell? ⟨b, 10, none⟩ = some (.int .u32 u.aggrId) ∧ W.cell? ⟨b, 11, none⟩ = some (.slice u.cs u.cn u.cc) ∧ W.cell? ⟨b, 12, none⟩ = some (.slice u.os u.on u.oc) :=
  ⟨row_cell hb 3, row_cell hb 4, row_cell hb 5, row_cell hb 6, row_cell hb 7, row_cell hb 8, row_cell hb 9, row_cell hb 10, row_cell hb 11, row_cell hb 12⟩
theorem node_flag {W : World} {b : Nat} {k0 k1 h : Value} {u : AV} {tN : TypeId} (hb : W.heap[b]? = some (.cells (nodeR k0 k1 h u) tN (0, 0))) (h' : Value) : (W.setCell ⟨b, 2, none⟩ h').drew.heap[b]? = some (.cells (nodeR k0 k1 h' u) tN (0, 0)) := by
  show (W.setCell ⟨b, 2, none⟩ h').heap[b]? = _
  rw [set_same hb]
  simp only [List.setIfInBounds_toArray, List.set_cons_succ, List.set_cons_zero]
theorem exec_ldm {P : Program} {oi : Oper} {ev : Operand → Value} {w : World} (ty : TypeId) (x : Operand) (ho : oi.op = .load ty x) (b o : Nat) (hx : ev x = .pointer (some ⟨b, o, none⟩)) (cs : List Value) (d : TypeDesc) (hc : w.rangeAt b o cs)
    (hu : P.underlying ty = some d) (hd : d.isRow = true) (hi : (P.info? ty).map (·.size) = some cs.length) : (execOp ev oi).run P w = .ok (.value (.agg cs.toArray)) w := by
  unfold execOp
  simp only [ho, hx, Instr.loadAt, Instr.sureAddr, Sem.run_bind, Sem.run_pure, Result.andThen_ok, run_loadVar_mid w b o ty cs d hc hu hd hi]
theorem still_ld {P : Program} {ops : Array Oper} {w : World} {Q : Act → Prop} {a : Act} {o : Oper} {rest : List Oper} (hgd : Region.wanted o (yielded ops a.tmps) = true) {v : Value} (he : (execOp a.eval o).run P w = .ok (.value v) w) (h : wpStill P ops w Q rest (a.put o.dst v)) : wpStill P ops w Q (o :: rest) a := by
  unfold wpStill
  rw [if_pos hgd]
  unfold Oper.still
  rw [he, Oper.stillUpon_value]
  exact h
theorem ldm_at {P : Program} {ops : Array Oper} {rest : List Oper} {o : Oper} {a : Act} {w : World} {Q : Exit → Act → World → Prop} (hgd : Region.wanted o (yielded ops a.tmps) = true) (ty : TypeId) (x : Operand) (ho : o.op = .load ty x)
    (b off : Nat) (hx : a.eval x = .pointer (some ⟨b, off, none⟩)) (cs : List Value) (d : TypeDesc) (hc : w.rangeAt b off cs) (hu : P.underlying ty = some d) (hd : d.isRow = true) (hi : (P.info? ty).map (·.size) = some cs.length)
    (h : wpList P ops Q rest (a.put o.dst (.agg cs.toArray)) w) : wpList P ops Q (o :: rest) a w := by
  unfold wpList
  rw [if_pos hgd]
  exact .inl (wp_load_mid ty x ho b off hx cs d hc hu hd hi h)
theorem node_there {W : World} {b : Nat} {k0 k1 h : Value} {u : AV} {tN : TypeId} (hb : W.heap[b]? = some (.cells (nodeR k0 k1 h u) tN (0, 0))) : W.there b 3 10 := fun j hj => by
  refine ⟨?_, row_free hb _⟩
  rw [row_cell hb, Array.getElem?_eq_getElem (by simp; omega)]
  rfl
theorem node_range {W : World} {b : Nat} {k0 k1 h : Value} {u : AV} {tN : TypeId} (hb : W.heap[b]? = some (.cells (nodeR k0 k1 h u) tN (0, 0))) : W.rangeAt b 3 u.C.toList := fun j v hv => by
  rw [row_cell hb]
  have hj : j < 10 := by have := (List.getElem?_eq_some_iff.1 hv).1; simpa using this
  match j, hj with
  | 0, _ => simpa using hv
  | 1, _ => simpa using hv
  | 2, _ => simpa using hv
  | 3, _ => simpa using hv
  | 4, _ => simpa using hv
  | 5, _ => simpa using hv
  | 6, _ => simpa using hv
  | 7, _ => simpa using hv
  | 8, _ => simpa using hv
  | 9, _ => simpa using hv
end Go.Proofs.Ytadlecnlgkhneaa

/-
  A TRIE IN MEMORY: which nodes there are, what stands at which; what a store turns.
-/
namespace Go.Proofs.Ytadlecnlgkhneaa
open Go.RowKit

abbrev ptrN (o : Option Nat) : Value := .pointer (o.map fun b => ⟨b, 0, none⟩)
/-- a node's cells. -/
abbrev nodeC (z : AV) (N : Nat → Option Nat) (S : List (Nat × AV)) (k : Nat) : Array Value := nodeR (ptrN (N (2 * k))) (ptrN (N (2 * k + 1))) (.bool (getL S k).isSome) ((getL S k).getD z)
abbrev trieC (N : Nat → Option Nat) (S : List (Nat × AV)) (most : Int) : Array Value := #[ptrN (N 1), .int .i64 most, .int .i64 S.length]
structure TrieAt (tT tN : TypeId) (z : AV) (W : World) (tb : Nat) (N : Nat → Option Nat) (S : List (Nat × AV)) (most : Int) : Prop where
  row : W.heap[tb]? = some (.cells (trieC N S most) tT (0, 0))
  node : ∀ k b, N k = some b → W.heap[b]? = some (.cells (nodeC z N S k) tN (0, 0))
  inj : ∀ k k' b, N k = some b → N k' = some b → k = k'
  top : ∀ k, N k ≠ some tb
  up : ∀ k, 2 ≤ k → (N k).isSome → (N (k / 2)).isSome
  pos : N 0 = none
  dom : ∀ p ∈ S, (N p.1).isSome
  deep : ∀ k, 2 ^ 33 ≤ k → N k = none
  ap : KeysApart S
/-- a trie's own blocks. -/
def TOwn (tb : Nat) (N : Nat → Option Nat) (b : Nat) : Prop := b = tb ∨ ∃ k, N k = some b
section
variable {tT tN : TypeId} {z : AV} {W W' : World} {tb : Nat} {N : Nat → Option Nat} {S : List (Nat × AV)} {most : Int}
theorem TrieAt.lt (h : TrieAt tT tN z W tb N S most) : tb < W.heap.size := row_lt h.row
theorem TrieAt.nlt (h : TrieAt tT tN z W tb N S most) {k b : Nat} (hb : N k = some b) : b < W.heap.size := row_lt (h.node k b hb)
theorem TrieAt.own_lt (h : TrieAt tT tN z W tb N S most) {b : Nat} (hb : TOwn tb N b) : b < W.heap.size := by
  rcases hb with rfl | ⟨k, hb⟩
  · exact h.lt
  · exact h.nlt hb
theorem TrieAt.of_blocks (h : TrieAt tT tN z W tb N S most) (hb : ∀ b, TOwn tb N b → W'.heap[b]? = W.heap[b]?) : TrieAt tT tN z W' tb N S most :=
  ⟨(hb tb (.inl rfl)).trans h.row, fun k b hk => (hb b (.inr ⟨k, hk⟩)).trans (h.node k b hk), h.inj, h.top, h.up, h.pos, h.dom, h.deep, h.ap⟩
theorem TrieAt.below (h : TrieAt tT tN z W tb N S most) (hb : Below W.heap.size W W') : TrieAt tT tN z W' tb N S most := h.of_blocks fun _ ho => hb.block _ (h.own_lt ho)
theorem TrieAt.kept {F : Nat → Prop} (h : TrieAt tT tN z W tb N S most) (hk : Kept F W W') (hF : ∀ b, TOwn tb N b → ¬ F b) : TrieAt tT tN z W' tb N S most := h.of_blocks fun b ho => hk.block b (h.own_lt ho) (hF b ho)
theorem ptrN_some (b : Nat) : ptrN (some b) = .pointer (some ⟨b, 0, none⟩) := rfl
theorem TrieAt.cells (h : TrieAt tT tN z W tb N S most) : W.cell? ⟨tb, 0, none⟩ = some (ptrN (N 1)) ∧ W.cell? ⟨tb, 1, none⟩ = some (.int .i64 most) ∧ W.cell? ⟨tb, 2, none⟩ = some (.int .i64 S.length) :=
  ⟨row_cell h.row 0, row_cell h.row 1, row_cell h.row 2⟩
theorem TrieAt.ncells (h : TrieAt tT tN z W tb N S most) {k b : Nat} (hb : N k = some b) : W.cell? ⟨b, 0, none⟩ = some (ptrN (N (2 * k))) ∧ W.cell? ⟨b, 1, none⟩ = some (ptrN (N (2 * k + 1))) ∧ W.cell? ⟨b, 2, none⟩ = some (.bool (getL S k).isSome) :=
  ⟨row_cell (h.node k b hb) 0, row_cell (h.node k b hb) 1, row_cell (h.node k b hb) 2⟩
theorem TrieAt.dom' (h : TrieAt tT tN z W tb N S most) {k : Nat} (hk : (getL S k).isSome = true) : ∃ b, N k = some b := by
  obtain ⟨v, hv⟩ := Option.isSome_iff_exists.1 hk
  exact Option.isSome_iff_exists.1 (h.dom _ (getL_mem hv))
theorem TrieAt.none_of (h : TrieAt tT tN z W tb N S most) {k : Nat} (hk : N k = none) : getL S k = none := by
  cases hg : getL S k with
  | none => rfl
  | some v => obtain ⟨b, hb⟩ := h.dom' (k := k) (by rw [hg]; rfl); rw [hk] at hb; cases hb
theorem TrieAt.up_none (h : TrieAt tT tN z W tb N S most) {k : Nat} (hk : N k = none) (h1 : 1 ≤ k) : N (2 * k) = none ∧ N (2 * k + 1) = none := by
  constructor
  · cases hg : N (2 * k) with
    | none => rfl
    | some v =>
      have := h.up (2 * k) (by omega) (by rw [hg]; rfl)
      rw [show 2 * k / 2 = k by omega, hk] at this; cases this
  · cases hg : N (2 * k + 1) with
    | none => rfl
    | some v =>
      have := h.up (2 * k + 1) (by omega) (by rw [hg]; rfl)
      rw [show (2 * k + 1) / 2 = k by omega, hk] at this; cases this
/-- where a node hangs. -/
def SlotAt (tb : Nat) (N : Nat → Option Nat) (κ : Nat) (ad : Addr) : Prop := (κ = 1 ∧ ad = ⟨tb, 0, none⟩) ∨ (2 ≤ κ ∧ ∃ b, N (κ / 2) = some b ∧ ad = ⟨b, κ % 2, none⟩)
theorem SlotAt.cell {κ : Nat} {ad : Addr} (h : TrieAt tT tN z W tb N S most) (hs : SlotAt tb N κ ad) : W.cell? ad = some (ptrN (N κ)) ∧ W.frozen? ad = false := by
  rcases hs with ⟨rfl, rfl⟩ | ⟨h2, b, hb, rfl⟩
  · exact ⟨h.cells.1, row_free h.row 0⟩
  · refine ⟨?_, row_free (h.node _ _ hb) _⟩
    obtain ⟨c0, c1, _⟩ := h.ncells hb
    rcases Nat.mod_two_eq_zero_or_one κ with e | e
    · rw [e, c0, show 2 * (κ / 2) = κ by omega]
    · rw [e, c1, show 2 * (κ / 2) + 1 = κ by omega]
def updN (N : Nat → Option Nat) (κ : Nat) (o : Option Nat) : Nat → Option Nat := fun k => if k = κ then o else N k
theorem updN_same (N : Nat → Option Nat) (κ : Nat) (o : Option Nat) : updN N κ o κ = o := if_pos rfl
theorem updN_ne (N : Nat → Option Nat) {κ k : Nat} (o : Option Nat) (h : k ≠ κ) : updN N κ o k = N k := if_neg h
/-- a slot is turned: the node that hangs there is another one. -/
theorem TrieAt.hang {W1 : World} {κ : Nat} {ad : Addr} {o : Option Nat} (h : TrieAt tT tN z W tb N S most) (hB : Below W.heap.size W W1) (hs : SlotAt tb N κ ad) (h1 : 1 ≤ κ) (hd : κ < 2 ^ 33)
    (hold : N κ = none ∨ o = none) (hk0 : getL S κ = none) (hl : N (2 * κ) = none) (hr : N (2 * κ + 1) = none) (hnew : ∀ nb, o = some nb → W.heap.size ≤ nb ∧ W1.heap[nb]? = some (.cells (nodeR (.pointer none) (.pointer none) (.bool false) z) tN (0, 0))) :
    TrieAt tT tN z (W1.setCell ad (ptrN o)) tb (updN N κ o) S most := by
  have g := h.below hB
  have hne : ∀ nb, o = some nb → nb ≠ tb ∧ ∀ k, N k ≠ some nb := fun nb e => ⟨by have := (hnew nb e).1; have := h.lt; omega, fun k hk => by have := (hnew nb e).1; have := h.nlt hk; omega⟩
  have hub : ∀ k b, updN N κ o k = some b → (k = κ ∧ o = some b) ∨ (k ≠ κ ∧ N k = some b) := by
    intro k b hk
    by_cases e : k = κ
    · subst e; rw [updN_same] at hk; exact .inl ⟨rfl, hk⟩
    · rw [updN_ne _ _ e] at hk; exact .inr ⟨e, hk⟩
  -- how a node's row turns
  have hrow : ∀ k b, k ≠ κ → N k = some b → (W1.setCell ad (ptrN o)).heap[b]? = some (.cells (nodeC z (updN N κ o) S k) tN (0, 0)) := by
    intro k b hk hb
    by_cases e : κ / 2 = k ∧ 2 ≤ κ
    · obtain ⟨e, e2⟩ := e
      rcases hs with ⟨rfl, _⟩ | ⟨_, b', hb', rfl⟩
      · omega
      rw [e] at hb'
      obtain rfl : b' = b := by rw [hb] at hb'; exact (Option.some.inj hb').symm
      rw [set_same (g.node k b' hb)]
      congr 2
      rcases Nat.mod_two_eq_zero_or_one κ with m | m
      · obtain rfl : κ = 2 * k := by omega
        rw [m]
        simp [nodeC, updN_same, updN_ne]
      · obtain rfl : κ = 2 * k + 1 := by omega
        rw [m]
        simp [nodeC, updN_same, updN_ne]
    · have hbo : b ≠ ad.block := by
        rcases hs with ⟨rfl, rfl⟩ | ⟨h2, b', hb', rfl⟩
        · intro e'
          simp only at e'
          subst e'
          exact h.top k hb
        · intro e'
          simp only at e'
          subst e'
          exact e ⟨(h.inj _ _ _ hb' hb), h2⟩
      have hcell : (W1.setCell ad (ptrN o)).heap[b]? = W1.heap[b]? := Deep.blk_setCell_other W1 ad (ptrN o) b hbo
      rw [hcell, g.node k b hb]
      have e2 : 2 * k ≠ κ := fun x => by
        by_cases k0 : k = 0
        · subst k0; omega
        · exact e ⟨by omega, by omega⟩
      have e3 : 2 * k + 1 ≠ κ := fun x => by
        by_cases k0 : k = 0
        · subst k0; rw [h.pos] at hb; cases hb
        · exact e ⟨by omega, by omega⟩
      simp only [nodeC, updN_ne _ _ e2, updN_ne _ _ e3]
  refine ⟨?_, ?_, ?_, ?_, ?_, ?_, ?_, ?_, h.ap⟩
  · rcases hs with ⟨rfl, rfl⟩ | ⟨h2, b', hb', rfl⟩
    · rw [set_same g.row]
      simp [trieC, updN_same]
    · rw [set_other _ _ _ (fun e => h.top _ (e ▸ hb')), g.row]
      simp only [trieC, updN_ne N o (show 1 ≠ κ by omega)]
  · intro k b hk
    rcases hub k b hk with ⟨rfl, ho⟩ | ⟨e, hb⟩
    · have hbo : b ≠ ad.block := by
        rcases hs with ⟨_, rfl⟩ | ⟨_, b', hb', rfl⟩
        · exact (hne b ho).1
        · intro e'
          simp only at e'
          subst e'
          exact (hne b ho).2 _ hb'
      have hcell : (W1.setCell ad (ptrN o)).heap[b]? = W1.heap[b]? := Deep.blk_setCell_other W1 ad (ptrN o) b hbo
      rw [hcell, (hnew b ho).2]
      simp only [nodeC, updN_ne N o (show 2 * k ≠ k by omega), updN_ne N o (show 2 * k + 1 ≠ k by omega), hl, hr, hk0]
      rfl
    · exact hrow k b e hb
  · intro k k' b hk hk'
    rcases hub k b hk with ⟨rfl, ho⟩ | ⟨e, hb⟩ <;> rcases hub k' b hk' with ⟨rfl, ho'⟩ | ⟨e', hb'⟩
    · rfl
    · exact absurd hb' ((hne b ho).2 _)
    · exact absurd hb ((hne b ho').2 _)
    · exact h.inj _ _ _ hb hb'
  · intro k hk
    rcases hub k tb hk with ⟨rfl, ho⟩ | ⟨e, hb⟩
    · exact (hne tb ho).1 rfl
    · exact h.top k hb
  · intro k h2 hk
    by_cases e : k / 2 = κ
    · have e2 : k ≠ κ := by omega
      rw [updN_ne _ _ e2] at hk
      have : k = 2 * κ ∨ k = 2 * κ + 1 := by omega
      rcases this with rfl | rfl
      · rw [hl] at hk; cases hk
      · rw [hr] at hk; cases hk
    · rw [updN_ne _ _ e]
      by_cases e2 : k = κ
      · subst e2
        rcases hs with ⟨rfl, _⟩ | ⟨_, b', hb', _⟩
        · omega
        · rw [hb']; rfl
      · rw [updN_ne _ _ e2] at hk
        exact h.up k h2 hk
  · rw [updN_ne _ _ (by omega)]; exact h.pos
  · intro p hp
    have e : p.1 ≠ κ := by
      intro e
      have := getL_none.1 hk0 p hp
      exact this e
    rw [updN_ne _ _ e]
    exact h.dom p hp
  · intro k hk
    rw [updN_ne _ _ (by omega)]
    exact h.deep k hk
/-- what stands at a node is turned. -/
theorem TrieAt.turn {κ b : Nat} {S' : List (Nat × AV)} (h : TrieAt tT tN z W tb N S most) (hb : N κ = some b) (hrow : W'.heap[tb]? = some (.cells (trieC N S' most) tT (0, 0))) (hnode : W'.heap[b]? = some (.cells (nodeC z N S' κ) tN (0, 0)))
    (hoth : ∀ g, g ≠ tb → g ≠ b → W'.heap[g]? = W.heap[g]?) (hg : ∀ k, k ≠ κ → getL S' k = getL S k) (hap : KeysApart S') : TrieAt tT tN z W' tb N S' most := by
  refine ⟨hrow, ?_, h.inj, h.top, h.up, h.pos, ?_, h.deep, hap⟩
  · intro k c hk
    by_cases e : k = κ
    · subst e
      rw [hb] at hk
      obtain rfl := Option.some.inj hk
      exact hnode
    · rw [hoth c (fun x => h.top k (x ▸ hk)) (fun x => e (h.inj _ _ _ hk (x ▸ hb))), h.node k c hk]
      simp only [nodeC, hg k e]
  · intro p hp
    by_cases e : p.1 = κ
    · rw [e, hb]; rfl
    · have : getL S p.1 = some p.2 := by rw [← hg p.1 e]; exact getL_of_mem hap hp
      exact h.dom _ (getL_mem this)
theorem getL_snoc (S : List (Nat × AV)) (κ k : Nat) (v : AV) : getL (delL S κ ++ [(κ, v)]) k = if k = κ then some v else getL S k := by
  rw [getL_append, getL_del]
  by_cases e : k = κ
  · subst e; simp [getL]
  · rw [if_neg e, if_neg e]
    simp [getL, Ne.symm e]
theorem apart_snoc {S : List (Nat × AV)} (h : KeysApart S) (κ : Nat) (v : AV) : KeysApart (delL S κ ++ [(κ, v)]) := by
  unfold KeysApart
  rw [List.pairwise_append]
  refine ⟨apart_del h κ, by simp, ?_⟩
  intro p hp q hq
  simp at hq
  subst hq
  exact (mem_del.1 hp).2
theorem len_snoc {S : List (Nat × AV)} (h : KeysApart S) (κ : Nat) (v : AV) : (delL S κ ++ [(κ, v)]).length = if (getL S κ).isSome then S.length else S.length + 1 := by
  rw [List.length_append, len_del h]
  cases hg : getL S κ with
  | none => simp
  | some x =>
    have : 0 < S.length := List.length_pos_of_mem (getL_mem hg)
    simp; omega
theorem TrieAt.putNew {κ b : Nat} (h : TrieAt tT tN z W tb N S most) (hb : N κ = some b) (hno : getL S κ = none) (v : AV) :
    TrieAt tT tN z (setAV ((W.setCell ⟨b, 2, none⟩ (.bool true)).setCell ⟨tb, 2, none⟩ (.int .i64 ((S.length : Int) + 1))) b v) tb N (delL S κ ++ [(κ, v)]) most := by
  have hne : b ≠ tb := fun e => h.top κ (e ▸ hb)
  refine h.turn hb ?_ ?_ ?_ ?_ (apart_snoc h.ap κ v)
  · rw [setAV_other (Ne.symm hne), set_same ((set_other _ _ _ (Ne.symm hne)).trans h.row)]
    congr 2
    have e := len_snoc h.ap κ v
    rw [hno] at e
    simp only [trieC, e]
    rfl
  · have r1 := set_same (h.node κ b hb) 2 (.bool true)
    have r2 : ((W.setCell ⟨b, 2, none⟩ (.bool true)).setCell ⟨tb, 2, none⟩ (.int .i64 ((S.length : Int) + 1))).heap[b]? = _ := (set_other _ _ _ hne).trans r1
    rw [setAV_row r2]
    simp [nodeC, getL_snoc]
  · intro g h1 h2
    rw [setAV_other h2, set_other _ _ _ h1, set_other _ _ _ h2]
  · intro k hk
    rw [getL_snoc, if_neg hk]
theorem TrieAt.putOld {κ b : Nat} (h : TrieAt tT tN z W tb N S most) (hb : N κ = some b) (hy : (getL S κ).isSome = true) (v : AV) :
    TrieAt tT tN z (setAV W b v) tb N (delL S κ ++ [(κ, v)]) most := by
  have hne : b ≠ tb := fun e => h.top κ (e ▸ hb)
  refine h.turn hb ?_ ?_ ?_ ?_ (apart_snoc h.ap κ v)
  · rw [setAV_other (Ne.symm hne), h.row, trieC, trieC, len_snoc h.ap, hy]
    rfl
  · rw [setAV_row (h.node κ b hb)]
    simp [nodeC, getL_snoc, hy]
  · intro g h1 h2
    rw [setAV_other h2]
  · intro k hk
    rw [getL_snoc, if_neg hk]
theorem TrieAt.dropAt {κ b : Nat} (h : TrieAt tT tN z W tb N S most) (hb : N κ = some b) (hy : (getL S κ).isSome = true) (hrow : W'.heap[b]? = some (.cells (nodeR (ptrN (N (2 * κ))) (ptrN (N (2 * κ + 1))) (.bool false) z) tN (0, 0))) (hoth : ∀ g, g < W.heap.size → g ≠ b → W'.heap[g]? = W.heap[g]?) :
    TrieAt tT tN z (W'.setCell ⟨tb, 2, none⟩ (.int .i64 ((S.length : Int) - 1))) tb N (delL S κ) most := by
  have hne : b ≠ tb := fun e => h.top κ (e ▸ hb)
  refine ⟨?_, ?_, h.inj, h.top, h.up, h.pos, ?_, h.deep, apart_del h.ap κ⟩
  · rw [set_same ((hoth _ h.lt (Ne.symm hne)).trans h.row)]
    congr 2
    have hp : 0 < S.length := by
      obtain ⟨v, hv⟩ := Option.isSome_iff_exists.1 hy
      exact List.length_pos_of_mem (getL_mem hv)
    have e := len_del h.ap κ
    rw [hy] at e
    simp only [if_true] at e
    simp only [trieC, e]
    simp
    omega
  · intro k c hk
    have hct : c ≠ tb := fun x => h.top k (x ▸ hk)
    rw [set_other _ _ _ hct]
    by_cases e : k = κ
    · subst e
      rw [hb] at hk
      obtain rfl := Option.some.inj hk
      rw [hrow]
      simp [nodeC, getL_del]
    · rw [hoth c (h.nlt hk) (fun x => e (h.inj _ _ _ hk (x ▸ hb))), h.node k c hk]
      simp only [nodeC, getL_del, if_neg e]
  · intro p hp
    exact h.dom _ (mem_del.1 hp).1
end
end Go.Proofs.Ytadlecnlgkhneaa

/-
  MORE PLAIN ARITHMETIC ON NETS: a net in its form is all addresses from its first to its last; its halves.
-/
namespace Go.Proofs.Ytadlecnlgkhneaa
open Go.RowKit (wrap64)

theorem sub_mod_range (t a M : Int) (hM : 0 < M) (ha : a % M = 0) : (t - t % M = a) ↔ (a ≤ t ∧ t < a + M) := by
  have h1 := Int.emod_nonneg t (show M ≠ 0 by omega)
  have h2 := Int.emod_lt_of_pos t hM
  constructor
  · intro h; omega
  · rintro ⟨h3, h4⟩
    have e : t % M = t - a := by
      have h5 : t = (t - a) + a := by omega
      rw [h5, Int.add_emod, ha, Int.add_zero, Int.emod_emod_of_dvd _ (Int.dvd_refl M)]
      rw [Int.emod_eq_of_lt (by omega) (by omega)]; omega
    omega
/-- how many addresses a net has. -/
def sizeI (n : Int) : Int := 2 ^ lowN n
theorem sizeI_pos (n : Int) : 0 < sizeI n := pow_pos33 _
theorem has_range (a n t : Int) (hr : rightB a n = true) : hasB a n t = true ↔ (a ≤ t ∧ t < a + sizeI n) := by
  unfold hasB
  rw [hr, Bool.true_and, beq_iff_eq]
  exact sub_mod_range t a _ (pow_pos33 _) ((rightB_iff a n).1 hr).1
theorem has_yes {a n t : Int} (hr : rightB a n = true) (h : a ≤ t ∧ t < a + sizeI n) : hasB a n t = true := (has_range a n t hr).2 h
theorem has_no {a n t : Int} (hr : rightB a n = true) (h : ¬ (a ≤ t ∧ t < a + sizeI n)) : hasB a n t = false := by
  cases hh : hasB a n t
  · rfl
  · exact absurd ((has_range a n t hr).1 hh) h
theorem size_succ (n : Int) (h0 : 0 ≤ n) (h : n < 32) : sizeI n = 2 * sizeI (n + 1) := by
  unfold sizeI
  have e : lowN n = lowN (n + 1) + 1 := by rw [lowN_of n h0 (by omega), lowN_of (n + 1) (by omega) (by omega)]; omega
  rw [e, Int.pow_succ]; omega
theorem size_top (n : Int) (h0 : 0 ≤ n) (h : n < 32) : (2 : Int) ^ (31 - n).toNat = sizeI (n + 1) := by
  unfold sizeI
  rw [lowN_of (n + 1) (by omega) (by omega), show (31 - n).toNat = (32 - (n + 1)).toNat by omega]
theorem mod_half (a M : Int) (h : a % (2 * M) = 0) : a % M = 0 := by
  have := Int.emod_emod_of_dvd a (show M ∣ 2 * M from ⟨2, by rw [Int.mul_comm]⟩)
  rw [h] at this
  rw [← this]; simp
theorem right_half0 (a n : Int) (hr : rightB a n = true) (h : n < 32) : rightB a (n + 1) = true := by
  obtain ⟨h1, h2, h3⟩ := (rightB_iff a n).1 hr
  refine (rightB_iff a (n + 1)).2 ⟨?_, by omega, by omega⟩
  have e := size_succ n h2 h
  unfold sizeI at e
  rw [e] at h1
  exact mod_half _ _ h1
theorem right_half1 (a n : Int) (hr : rightB a n = true) (h : n < 32) : rightB (a + sizeI (n + 1)) (n + 1) = true := by
  have h0 := (rightB_iff a (n + 1)).1 (right_half0 a n hr h)
  refine (rightB_iff _ _).2 ⟨?_, h0.2⟩
  have h1 := h0.1
  unfold sizeI
  rw [Int.add_emod, h1]; simp
/-- an address and all behind it, under 2^32, where the net is in its form. -/
theorem right_fits (a n : Int) (ha0 : 0 ≤ a) (ha : a < 4294967296) (hr : rightB a n = true) : a + sizeI n ≤ 4294967296 := by
  obtain ⟨h1, h2, h3⟩ := (rightB_iff a n).1 hr
  have hp := sizeI_pos n
  have hd : sizeI n ∣ 4294967296 := by
    refine ⟨2 ^ (32 - lowN n), ?_⟩
    unfold sizeI
    rw [← Int.pow_add, show lowN n + (32 - lowN n) = 32 by have := lowN_le n; omega]
    decide
  have h4 : (4294967296 : Int) % sizeI n = 0 := Int.emod_eq_zero_of_dvd hd
  rcases Int.lt_or_le 4294967296 (a + sizeI n) with h5 | h5
  · have := (sub_mod_range 4294967296 a (sizeI n) hp h1).2 ⟨by omega, h5⟩
    omega
  · exact h5

/-! ### The greatest address -/
theorem xor_mask (n : Int) : bits .xor .u32 4294967295 (maskI n) = sizeI n - 1 := by
  unfold maskI sizeI
  have hk := lowN_le n
  generalize lowN n = k at hk
  refine cases33 (P := fun k => bits .xor .u32 4294967295 (4294967296 - 2 ^ k) = 2 ^ k - 1) k hk ?_ ?_ ?_ ?_ ?_ ?_ ?_ ?_ ?_ ?_ ?_ ?_ ?_ ?_ ?_ ?_ ?_ ?_ ?_ ?_ ?_ ?_ ?_ ?_ ?_ ?_ ?_ ?_ ?_ ?_ ?_ ?_ ?_ <;> decide +kernel
theorem or_low (a b : Int) (k : Nat) (h0 : 0 ≤ a) (h : a < 4294967296) (hb0 : 0 ≤ b) (hb : b < 2 ^ k) (hk : k ≤ 32) (hm : a % 2 ^ k = 0) : bits .or .u32 a b = a + b := by
  have hp := pow_le33 k hk
  rw [u32_or a b h0 h hb0 (by omega)]
  obtain ⟨x, rfl⟩ := Int.eq_ofNat_of_zero_le h0
  obtain ⟨y, rfl⟩ := Int.eq_ofNat_of_zero_le hb0
  rw [Int.toNat_natCast, Int.toNat_natCast]
  have hy : y < 2 ^ k := by
    have e : ((2 : Int) ^ k) = ((2 ^ k : Nat) : Int) := by simp
    rw [e] at hb; omega
  have hx : x % 2 ^ k = 0 := by
    have e : ((x : Int) % 2 ^ k) = ((x % 2 ^ k : Nat) : Int) := by simp
    rw [e] at hm; omega
  have hd : x = 2 ^ k * (x / 2 ^ k) := by have := Nat.div_add_mod x (2 ^ k); omega
  have := Nat.two_pow_add_eq_or_of_lt hy (x / 2 ^ k)
  rw [← hd] at this
  omega
theorem last_right (a n : Int) (h0 : 0 ≤ a) (h : a < 4294967296) (hr : rightB a n = true) : bits .or .u32 a (bits .xor .u32 4294967295 (maskI n)) = a + sizeI n - 1 := by
  have hp := sizeI_pos n
  rw [xor_mask, or_low a _ (lowN n) h0 h (by omega) (by unfold sizeI; omega) (lowN_le n) ((rightB_iff a n).1 hr).1]
  omega
theorem or_half (a n : Int) (h0 : 0 ≤ a) (h : a < 4294967296) (hr : rightB a n = true) (hn : n < 32) : bits .or .u32 a (2 ^ (31 - n).toNat % 4294967296) = a + sizeI (n + 1) := by
  obtain ⟨h1, h2, h3⟩ := (rightB_iff a n).1 hr
  have hs := size_succ n h2 hn
  have hp := sizeI_pos (n + 1)
  have hle : sizeI n ≤ 4294967296 := pow_le33 _ (lowN_le n)
  rw [size_top n h2 hn, Int.emod_eq_of_lt (by omega) (by omega)]
  exact or_low a _ (lowN n) h0 h (by omega) (by show sizeI (n + 1) < sizeI n; omega) (lowN_le n) h1
/-- a half of a net: its first address. -/
def halfI (a n t : Int) : Int := if t = 0 then a else a + sizeI (n + 1)
theorem halfI_0 (a n : Int) : halfI a n 0 = a := rfl
theorem halfI_1 (a n t : Int) (h : t ≠ 0) : halfI a n t = a + sizeI (n + 1) := if_neg h
/-- a net covers what is in its form, longer, and begins in it. -/
theorem covers_iff (a n b m : Int) (ha : rightB a n = true) : coversB a n b m = true ↔ (rightB b m = true ∧ n ≤ m ∧ a ≤ b ∧ b < a + sizeI n) := by
  unfold coversB
  rw [Bool.and_eq_true, Bool.and_eq_true, decide_eq_true_iff, has_range a n b ha]
  constructor
  · rintro ⟨⟨h1, h2⟩, h3, h4⟩; exact ⟨h1, h2, h3, h4⟩
  · rintro ⟨h1, h2, h3, h4⟩; exact ⟨⟨h1, h2⟩, h3, h4⟩
theorem covers_no {a n b m : Int} (ha : rightB a n = true) (h : ¬ (n ≤ m ∧ a ≤ b ∧ b < a + sizeI n)) : coversB a n b m = false := by
  cases hh : coversB a n b m
  · rfl
  · exact absurd ((covers_iff a n b m ha).1 hh).2 h
end Go.Proofs.Ytadlecnlgkhneaa
