/-
  ATTRIBUTES AS VALUES: ten cells; how they are stored into a node of a trie.
-/
import Derived.Test.YtadlecnlgkhneaaRg2
import Derived.Deep.Heap
import Derived.Test.YtadlecnlgkhneaaMapT
import Derived.Test.YtadlecnlgkhneaaRow
import Derived.Test.YtadlecnlgkhneaaTrK
import Derived.Test.YtadlecnlgkhneaaAtP
import Derived.Deep.MidRow
import Derived.StillTailTactics
namespace Go.Proofs.Ytadlecnlgkhneaa
open Go.RowKit

/-- attributes as the program has them: numbers and three slices. -/
structure AV where
  has : Int
  origin : Int
  ps : Option Addr
  pn : Nat
  pc : Nat
  hop : Nat
  med : Int
  loc : Int
  aggrAs : Int
  aggrId : Nat
  cs : Option Addr
  cn : Nat
  cc : Nat
  os : Option Addr
  on : Nat
  oc : Nat
abbrev AV.C (v : AV) : Array Value := #[.int .i64 v.has, .int .i64 v.origin, .slice v.ps v.pn v.pc, .int .u32 v.hop, .int .i64 v.med, .int .i64 v.loc, .int .i64 v.aggrAs, .int .u32 v.aggrId, .slice v.cs v.cn v.cc, .slice v.os v.on v.oc]
abbrev AV.V (v : AV) : Value := .agg #[.int .i64 v.has, .int .i64 v.origin, .slice v.ps v.pn v.pc, .int .u32 v.hop, .int .i64 v.med, .int .i64 v.loc, .int .i64 v.aggrAs, .int .u32 v.aggrId, .slice v.cs v.cn v.cc, .slice v.os v.on v.oc]
def av0 : AV := ⟨0, 0, none, 0, 0, 0, 0, 0, 0, 0, none, 0, 0, none, 0, 0⟩
/-- a node's row. -/
abbrev nodeR (k0 k1 h : Value) (v : AV) : Array Value := #[k0, k1, h, .int .i64 v.has, .int .i64 v.origin, .slice v.ps v.pn v.pc, .int .u32 v.hop, .int .i64 v.med, .int .i64 v.loc, .int .i64 v.aggrAs, .int .u32 v.aggrId, .slice v.cs v.cn v.cc, .slice v.os v.on v.oc]
/-- attributes stored into a node. -/
def setAV (W : World) (b : Nat) (v : AV) : World :=
  (((((((((W.setCell ⟨b, 3, none⟩ (.int .i64 v.has)).setCell ⟨b, 4, none⟩ (.int .i64 v.origin)).setCell ⟨b, 5, none⟩ (.slice v.ps v.pn v.pc)).setCell ⟨b, 6, none⟩ (.int .u32 v.hop)).setCell ⟨b, 7, none⟩ (.int .i64 v.med)).setCell ⟨b, 8, none⟩ (.int .i64 v.loc)).setCell ⟨b, 9, none⟩ (.int .i64 v.aggrAs)).setCell ⟨b, 10, none⟩ (.int .u32 v.aggrId)).setCell ⟨b, 11, none⟩ (.slice v.cs v.cn v.cc)).setCell ⟨b, 12, none⟩ (.slice v.os v.on v.oc)
theorem AV.one (v : AV) : (v.C.all (·.oneCell')) = true := by simp [AV.C, Value.oneCell']
theorem setAV_eq (W : World) (b : Nat) (v : AV) : W.setCells b 3 v.C.toList = setAV W b v := rfl
theorem setAV_row {W : World} {b : Nat} {k0 k1 h : Value} {u : AV} {tN : TypeId} (hb : W.heap[b]? = some (.cells (nodeR k0 k1 h u) tN (0, 0))) (v : AV) : (setAV W b v).heap[b]? = some (.cells (nodeR k0 k1 h v) tN (0, 0)) := by
  unfold setAV
  rw [set_same (set_same (set_same (set_same (set_same (set_same (set_same (set_same (set_same (set_same hb _ _) _ _) _ _) _ _) _ _) _ _) _ _) _ _) _ _) _ _]
  simp only [List.setIfInBounds_toArray, List.set_cons_succ, List.set_cons_zero]
theorem setAV_other {W : World} {b g : Nat} (h : g ≠ b) (v : AV) : (setAV W b v).heap[g]? = W.heap[g]? := by
  unfold setAV
  rw [set_other _ _ _ h, set_other _ _ _ h, set_other _ _ _ h, set_other _ _ _ h, set_other _ _ _ h, set_other _ _ _ h, set_other _ _ _ h, set_other _ _ _ h, set_other _ _ _ h, set_other _ _ _ h]
theorem node_cells {W : World} {b : Nat} {k0 k1 h : Value} {u : AV} {tN : TypeId} (hb : W.heap[b]? = some (.cells (nodeR k0 k1 h u) tN (0, 0))) :
    W.cell? ⟨b, 3, none⟩ = some (.int .i64 u.has) ∧ W.cell? ⟨b, 4, none⟩ = some (.int .i64 u.origin) ∧ W.cell? ⟨b, 5, none⟩ = some (.slice u.ps u.pn u.pc) ∧ W.cell? ⟨b, 6, none⟩ = some (.int .u32 u.hop) ∧ W.cell? ⟨b, 7, none⟩ = some (.int .i64 u.med) ∧ W.cell? ⟨b, 8, none⟩ = some (.int .i64 u.loc) ∧ W.cell? ⟨b, 9, none⟩ = some (.int .i64 u.aggrAs) ∧ W.cell? ⟨b, 10, none⟩ = some (.int .u32 u.aggrId) ∧ W.cell? ⟨b, 11, none⟩ = some (.slice u.cs u.cn u.cc) ∧ W.cell? ⟨b, 12, none⟩ = some (.slice u.os u.on u.oc) :=
  ⟨row_cell hb 3, row_cell hb 4, row_cell hb 5, row_cell hb 6, row_cell hb 7, row_cell hb 8, row_cell hb 9, row_cell hb 10, row_cell hb 11, row_cell hb 12⟩
theorem node_flag {W : World} {b : Nat} {k0 k1 h : Value} {u : AV} {tN : TypeId} (hb : W.heap[b]? = some (.cells (nodeR k0 k1 h u) tN (0, 0))) (h' : Value) : (W.setCell ⟨b, 2, none⟩ h').drew.heap[b]? = some (.cells (nodeR k0 k1 h' u) tN (0, 0)) := by
  show (W.setCell ⟨b, 2, none⟩ h').heap[b]? = _
  rw [set_same hb]
  simp only [List.setIfInBounds_toArray, List.set_cons_succ, List.set_cons_zero]
theorem exec_ldm {P : Program} {oi : Oper} {ev : Operand → Value} {w : World} (ty : TypeId) (x : Operand) (ho : oi.op = .load ty x) (b o : Nat) (hx : ev x = .pointer (some ⟨b, o, none⟩)) (cs : List Value) (d : TypeDesc) (hc : w.rangeAt b o cs)
    (hu : P.underlying ty = some d) (hd : d.isRow = true) (hi : (P.info? ty).map (·.size) = some cs.length) : (execOp ev oi).run P w = .ok (.value (.agg cs.toArray)) w := by
  unfold execOp
  simp only [ho, hx, Instr.loadAt, Instr.sureAddr, Sem.run_bind, Sem.run_pure, Result.andThen_ok, run_loadVar_mid w b o ty cs d hc hu hd hi]
theorem still_ld {P : Program} {ops : Array Oper} {w : World} {Q : Act → Prop} {a : Act} {o : Oper} {rest : List Oper} (hgd : Region.wanted o (yielded ops a.tmps) = true) {v : Value} (he : (execOp a.eval o).run P w = .ok (.value v) w) (h : wpStill P ops w Q rest (a.put o.dst v)) : wpStill P ops w Q (o :: rest) a := by
  unfold wpStill
  rw [if_pos hgd]
  unfold Oper.still
  rw [he, Oper.stillUpon_value]
  exact h
theorem ldm_at {P : Program} {ops : Array Oper} {rest : List Oper} {o : Oper} {a : Act} {w : World} {Q : Exit → Act → World → Prop} (hgd : Region.wanted o (yielded ops a.tmps) = true) (ty : TypeId) (x : Operand) (ho : o.op = .load ty x)
    (b off : Nat) (hx : a.eval x = .pointer (some ⟨b, off, none⟩)) (cs : List Value) (d : TypeDesc) (hc : w.rangeAt b off cs) (hu : P.underlying ty = some d) (hd : d.isRow = true) (hi : (P.info? ty).map (·.size) = some cs.length)
    (h : wpList P ops Q rest (a.put o.dst (.agg cs.toArray)) w) : wpList P ops Q (o :: rest) a w := by
  unfold wpList
  rw [if_pos hgd]
  exact .inl (wp_load_mid ty x ho b off hx cs d hc hu hd hi h)
theorem node_there {W : World} {b : Nat} {k0 k1 h : Value} {u : AV} {tN : TypeId} (hb : W.heap[b]? = some (.cells (nodeR k0 k1 h u) tN (0, 0))) : W.there b 3 10 := fun j hj => by
  refine ⟨?_, row_free hb _⟩
  rw [row_cell hb, Array.getElem?_eq_getElem (by simp; omega)]
  rfl
theorem node_range {W : World} {b : Nat} {k0 k1 h : Value} {u : AV} {tN : TypeId} (hb : W.heap[b]? = some (.cells (nodeR k0 k1 h u) tN (0, 0))) : W.rangeAt b 3 u.C.toList := fun j v hv => by
  rw [row_cell hb]
  have hj : j < 10 := by have := (List.getElem?_eq_some_iff.1 hv).1; simpa using this
  match j, hj with
  | 0, _ => simpa using hv
  | 1, _ => simpa using hv
  | 2, _ => simpa using hv
  | 3, _ => simpa using hv
  | 4, _ => simpa using hv
  | 5, _ => simpa using hv
  | 6, _ => simpa using hv
  | 7, _ => simpa using hv
  | 8, _ => simpa using hv
  | 9, _ => simpa using hv
end Go.Proofs.Ytadlecnlgkhneaa
