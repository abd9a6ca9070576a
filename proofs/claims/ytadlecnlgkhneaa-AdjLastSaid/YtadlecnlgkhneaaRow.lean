/-
  A BLOCK KNOWN WHOLE: its cells; what a store turns.
-/
import Derived.Test.YtadlecnlgkhneaaRg
import Derived.Deep.Heap
import Derived.Laws.Tables
import Derived.Laws.CopyOwn
import Derived.Laws.Rows
import Derived.Deep.WholeRow
namespace Go.Proofs.Ytadlecnlgkhneaa
open Go.RowKit

section
variable {W W' : World}
theorem row_lt {b : Nat} {o : Obj} (h : W.heap[b]? = some o) : b < W.heap.size := (Array.getElem?_eq_some_iff.1 h).1
theorem row_cell {b : Nat} {cs : Array Value} {t : TypeId} (h : W.heap[b]? = some (.cells cs t (0, 0))) (i : Nat) : W.cell? ⟨b, i, none⟩ = cs[i]? := by simp [World.cell?, h]
theorem row_free {b : Nat} {cs : Array Value} {t : TypeId} (h : W.heap[b]? = some (.cells cs t (0, 0))) (i : Nat) : W.frozen? ⟨b, i, none⟩ = false := by simp [World.frozen?, h]
theorem set_same {b : Nat} {cs : Array Value} {t : TypeId} (h : W.heap[b]? = some (.cells cs t (0, 0))) (i : Nat) (v : Value) : (W.setCell ⟨b, i, none⟩ v).heap[b]? = some (.cells (cs.setIfInBounds i v) t (0, 0)) := by
  rw [setCell_eq_setRow W b i _ _ _ _ h]
  exact setRow_heap W b _ _ _ _ h
theorem set_other {b : Nat} (g i : Nat) (v : Value) (hne : b ≠ g) : (W.setCell ⟨g, i, none⟩ v).heap[b]? = W.heap[b]? := Deep.blk_setCell_other W ⟨g, i, none⟩ v b hne
end
/-! ### whole values loaded and stored; where a walk stops -/
theorem exec_ld {P : Program} {oi : Oper} {ev : Operand → Value} {w : World} (ty : TypeId) (x : Operand) (ho : oi.op = .load ty x)
    (g : Nat) (hx : ev x = .pointer (some ⟨g, 0, none⟩)) (t : TypeId) (cs : Array Value) (fr : Nat × Nat) (d : TypeDesc) (hg : w.heap[g]? = some (.cells cs t fr))
    (hu : P.underlying ty = some d) (hd : (match d with | .struct _ | .array _ _ => true | _ => false) = true) (hi : (P.info? ty).map (·.size) = some cs.size) :
    (execOp ev oi).run P w = .ok (.value (.agg cs)) w := by
  unfold execOp
  simp only [ho, hx, Instr.loadAt, Instr.sureAddr, Sem.run_bind, Sem.run_pure, Result.andThen_ok, run_loadVar_row w g t ty cs fr d hg hu hd hi]
section
variable {P : Program} {ops : Array Oper} {rest : List Oper} {o : Oper} {a : Act} {w : World} {Q : Exit → Act → World → Prop}
theorem ld_at (hgd : Region.wanted o (yielded ops a.tmps) = true) (ty : TypeId) (x : Operand) (ho : o.op = .load ty x)
    (g : Nat) (hx : a.eval x = .pointer (some ⟨g, 0, none⟩)) (t : TypeId) (cs : Array Value) (fr : Nat × Nat) (d : TypeDesc) (hg : w.heap[g]? = some (.cells cs t fr))
    (hu : P.underlying ty = some d) (hd : (match d with | .struct _ | .array _ _ => true | _ => false) = true) (hi : (P.info? ty).map (·.size) = some cs.size)
    (h : wpList P ops Q rest (a.put o.dst (.agg cs)) w) : wpList P ops Q (o :: rest) a w := by
  unfold wpList
  rw [if_pos hgd]
  exact .inl (wp_load_row ty x ho g hx t cs fr d hg hu hd hi h)
theorem st_row (hgd : o.guard = none) (ty : TypeId) (x y : Operand) (ho : o.op = .store ty x y)
    (g : Nat) (hx : a.eval x = .pointer (some ⟨g, 0, none⟩)) (t : TypeId) (old cs : Array Value) (hy : a.eval y = .agg cs) (hg : w.heap[g]? = some (.cells old t (0, 0))) (hi : (P.info? ty).map (·.size) = some cs.size) (hs : old.size = cs.size) (h1 : cs.all (·.oneCell') = true)
    (h : wpList P ops Q rest (a.put o.dst undef) (w.setRow g cs)) : wpList P ops Q (o :: rest) a w :=
  wpList_plain hgd fun _ hK => by
    unfold Oper.wp execOp
    simp only [ho, hx, hy, Instr.storeAt, Instr.sureAddr, Sem.run_bind, Sem.run_pure, Result.andThen_ok, run_storeVar_row w g t ty old cs hg hi hs h1]
    exact hK _ _ h
theorem st_fresh (hgd : o.guard = none) (ty : TypeId) (x y : Operand) (ho : o.op = .store ty x y)
    (hx : a.eval x = .pointer (some ⟨w.heap.size, 0, none⟩)) (c c' : Array Value) (hy : a.eval y = .agg c') (hi : (P.info? ty).map (·.size) = some c'.size) (hs : c.size = c'.size) (h1 : c'.all (·.oneCell') = true)
    (h : wpList P ops Q rest (a.put o.dst undef) (w.alloc (.cells c' ty))) : wpList P ops Q (o :: rest) a (w.alloc (.cells c ty)) :=
  wpList_plain hgd fun _ hK => by
    unfold Oper.wp execOp
    simp only [ho, hx, hy, Instr.storeAt, Instr.sureAddr, Sem.run_bind, Sem.run_pure, Result.andThen_ok, run_storeVar_new w ty c c' hi hs h1]
    exact hK _ _ h
/-- the walk stops where it comes to this operation. -/
def Halt (p : Prop) : Prop := p
theorem halt_at {X : Op} (_ho : o.op = X) (h : Halt (wpList P ops Q (o :: rest) a w)) : wpList P ops Q (o :: rest) a w := h
end
theorem block_other {W : World} {b : Nat} {o : Obj} (hb : W.heap[b]? = some o) (g i : Nat) (v : Value) (hne : b ≠ g) : (W.setCell ⟨g, i, none⟩ v).heap[b]? = some o := by
  rw [Deep.blk_setCell_other W ⟨g, i, none⟩ v b hne]; exact hb
end Go.Proofs.Ytadlecnlgkhneaa
