/-
  WHOLE VALUES LOADED AND STORED; WHERE A WALK STOPS; A MATCH IN MEMORY THAT IS CHANGED.
-/
import Derived.Test.YtkcikblecinnfaaDoorMc
import Derived.Laws.Tables
import Derived.Laws.CopyOwn
import Derived.Deep.Heap
namespace Go.Proofs.YtkcikblecinnfaaDoor
open Go.RowKit

theorem exec_ld {P : Program} {oi : Oper} {ev : Operand → Value} {w : World} (ty : TypeId) (x : Operand) (ho : oi.op = .load ty x)
    (g : Nat) (hx : ev x = .pointer (some ⟨g, 0, none⟩)) (t : TypeId) (cs : Array Value) (fr : Nat × Nat) (d : TypeDesc) (hg : w.heap[g]? = some (.cells cs t fr))
    (hu : P.underlying ty = some d) (hd : (match d with | .struct _ | .array _ _ => true | _ => false) = true) (hi : (P.info? ty).map (·.size) = some cs.size) :
    (execOp ev oi).run P w = .ok (.value (.agg cs)) w := by
  unfold execOp
  simp only [ho, hx, Instr.loadAt, Instr.sureAddr, Sem.run_bind, Sem.run_pure, Result.andThen_ok, run_loadVar_row w g t ty cs fr d hg hu hd hi]
section
variable {P : Program} {ops : Array Oper} {rest : List Oper} {o : Oper} {a : Act} {w : World} {Q : Exit → Act → World → Prop}
theorem ld_at (hgd : Region.wanted o (yielded ops a.tmps) = true) (ty : TypeId) (x : Operand) (ho : o.op = .load ty x)
    (g : Nat) (hx : a.eval x = .pointer (some ⟨g, 0, none⟩)) (t : TypeId) (cs : Array Value) (fr : Nat × Nat) (d : TypeDesc) (hg : w.heap[g]? = some (.cells cs t fr))
    (hu : P.underlying ty = some d) (hd : (match d with | .struct _ | .array _ _ => true | _ => false) = true) (hi : (P.info? ty).map (·.size) = some cs.size)
    (h : wpList P ops Q rest (a.put o.dst (.agg cs)) w) : wpList P ops Q (o :: rest) a w := by
  unfold wpList
  rw [if_pos hgd]
  exact .inl (wp_load_row ty x ho g hx t cs fr d hg hu hd hi h)
theorem st_row (hgd : o.guard = none) (ty : TypeId) (x y : Operand) (ho : o.op = .store ty x y)
    (g : Nat) (hx : a.eval x = .pointer (some ⟨g, 0, none⟩)) (t : TypeId) (old cs : Array Value) (hy : a.eval y = .agg cs) (hg : w.heap[g]? = some (.cells old t (0, 0))) (hi : (P.info? ty).map (·.size) = some cs.size) (hs : old.size = cs.size) (h1 : cs.all (·.oneCell') = true)
    (h : wpList P ops Q rest (a.put o.dst undef) (w.setRow g cs)) : wpList P ops Q (o :: rest) a w :=
  wpList_plain hgd fun _ hK => by
    unfold Oper.wp execOp
    simp only [ho, hx, hy, Instr.storeAt, Instr.sureAddr, Sem.run_bind, Sem.run_pure, Result.andThen_ok, run_storeVar_row w g t ty old cs hg hi hs h1]
    exact hK _ _ h
theorem st_fresh (hgd : o.guard = none) (ty : TypeId) (x y : Operand) (ho : o.op = .store ty x y)
    (hx : a.eval x = .pointer (some ⟨w.heap.size, 0, none⟩)) (c c' : Array Value) (hy : a.eval y = .agg c') (hi : (P.info? ty).map (·.size) = some c'.size) (hs : c.size = c'.size) (h1 : c'.all (·.oneCell') = true)
    (h : wpList P ops Q rest (a.put o.dst undef) (w.alloc (.cells c' ty))) : wpList P ops Q (o :: rest) a (w.alloc (.cells c ty)) :=
  wpList_plain hgd fun _ hK => by
    unfold Oper.wp execOp
    simp only [ho, hx, hy, Instr.storeAt, Instr.sureAddr, Sem.run_bind, Sem.run_pure, Result.andThen_ok, run_storeVar_new w ty c c' hi hs h1]
    exact hK _ _ h
/-- the walk stops where it comes to this operation. -/
def Halt (p : Prop) : Prop := p
theorem halt_at {X : Op} (_ho : o.op = X) (h : Halt (wpList P ops Q (o :: rest) a w)) : wpList P ops Q (o :: rest) a w := h
end
theorem below_put {B : Nat} {w W : World} (h : Below B w W) (b i : Nat) (hb : B ≤ b) (v : Value) : Below B w (W.setCell ⟨b, i, none⟩ v) := h.setCell hb v
theorem block_other {W : World} {b : Nat} {o : Obj} (hb : W.heap[b]? = some o) (g i : Nat) (v : Value) (hne : b ≠ g) : (W.setCell ⟨g, i, none⟩ v).heap[b]? = some o := by
  rw [Deep.blk_setCell_other W ⟨g, i, none⟩ v b hne]; exact hb
def setV (m : Mt) (k v : Nat) : Mt := ⟨fun i => if i = k then v else m.val i, m.mask⟩
def setM (m : Mt) (k v : Nat) : Mt := ⟨m.val, fun i => if i = k then v else m.mask i⟩
theorem MBox.setVal {W : World} {b : Nat} {m : Mt} (hb : MBox W b m) (k v : Nat) (hk : k < 9) : MBox (W.setCell ⟨b, k, none⟩ (.int .u64 v)) b (setV m k v) := by
  rw [setCell_eq_setRow W b k _ _ _ _ hb]
  have e : (mtC m).setIfInBounds k (.int .u64 v) = mtC (setV m k v) := by
    rcases nine_cases k hk with rfl | rfl | rfl | rfl | rfl | rfl | rfl | rfl | rfl <;> rfl
  rw [e]; exact setRow_heap W b _ _ _ _ hb
theorem MBox.setMask {W : World} {b : Nat} {m : Mt} (hb : MBox W b m) (k v : Nat) (hk : k < 9) : MBox (W.setCell ⟨b, 9 + k, none⟩ (.int .u64 v)) b (setM m k v) := by
  rw [setCell_eq_setRow W b (9 + k) _ _ _ _ hb]
  have e : (mtC m).setIfInBounds (9 + k) (.int .u64 v) = mtC (setM m k v) := by
    rcases nine_cases k hk with rfl | rfl | rfl | rfl | rfl | rfl | rfl | rfl | rfl <;> rfl
  rw [e]; exact setRow_heap W b _ _ _ _ hb
theorem MBox.row {W : World} {b : Nat} {m : Mt} (hb : MBox W b m) (m' : Mt) : MBox (W.setRow b (mtC m')) b m' := setRow_heap W b _ _ _ _ hb
theorem MBox.other {W : World} {b : Nat} {m : Mt} (hb : MBox W b m) (g i : Nat) (v : Value) (hne : b ≠ g) : MBox (W.setCell ⟨g, i, none⟩ v) b m := block_other hb g i v hne
theorem MBox.otherRow {W : World} {b g : Nat} {m : Mt} (hb : MBox W b m) (cs : Array Value) (hne : b ≠ g) : MBox (W.setRow g cs) b m := by
  unfold MBox; rw [setRow_other W g b cs hne]; exact hb
theorem MBox.get {W : World} {b : Nat} {m : Mt} (hb : MBox W b m) : (loadVar 25 ⟨b, 0, none⟩).run Tryd.prog W = .ok (mtV m) W := run_loadVar_row W b 25 25 (mtC m) (0, 0) _ hb Tryd.underlying25 rfl (by kernel_rfl)
def mt0 : Mt := ⟨fun _ => 0, fun _ => 0⟩
abbrev mtZ : Array Value := #[.int .u64 0, .int .u64 0, .int .u64 0, .int .u64 0, .int .u64 0, .int .u64 0, .int .u64 0, .int .u64 0, .int .u64 0, .int .u64 0, .int .u64 0, .int .u64 0, .int .u64 0, .int .u64 0, .int .u64 0, .int .u64 0, .int .u64 0, .int .u64 0]
theorem mtZ_eq : mtZ = mtC mt0 := rfl
theorem boxZ (w : World) : ∃ W0, W0 = w.alloc (.cells mtZ 25) ∧ MBox W0 w.heap.size mt0 ∧ Below w.heap.size w W0 :=
  ⟨_, rfl, heap_alloc_new w _, (Below.refl _ _).alloc (Nat.le_refl _) _⟩
end Go.Proofs.YtkcikblecinnfaaDoor
