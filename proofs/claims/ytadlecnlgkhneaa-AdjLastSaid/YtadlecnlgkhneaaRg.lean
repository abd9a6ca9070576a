/-
  SMALL LAWS FOR A STATEMENT THAT DRAWS ITS ORDER AND HOLDS CALLS THAT MAKE MEMORY: its operations are taken one by one; 'S' holds of the world throughout. And what is known of memory that was there before.
-/
import Derived.WalkKit
import Derived.WalkSpells
import Derived.WalkLawsBesides
import Derived.OrdersHeld
import Derived.Deep.RegionHeld
import Derived.Lib.Hide
import Derived.Outline
import Derived.Deep.DeepFit
import Derived.KernelRfl
namespace Go.Proofs.Ytadlecnlgkhneaa
open Go.RowKit

theorem ret_int {k : IntKind} {a b : Int} (h : a = b) : Ending.returned (.int k a) = .returned (.int k b) := by rw [h]
theorem ret_bool {a b : Bool} (h : a = b) : Ending.returned (.bool a) = .returned (.bool b) := by rw [h]

/-! ### An operation by its place -/
theorem at0 {α : Type} {x : α} {l : List α} : (List.toArray (x :: l))[0]? = some x := by simp
theorem atS {α : Type} {x y : α} {l : List α} {n : Nat} (h : (List.toArray l)[n]? = some x) : (List.toArray (y :: l))[n + 1]? = some x := by simpa using h

section
variable {P : Program} {ops : Array Oper} {Q : Exit → Act → World → Prop} {md : Region.Mode} {S : World → Prop}
/-- an operation whose guard is false is passed by. -/
theorem rg_no {i : Nat} {oi : Oper} {fuel : Nat} {listed : Array Bool} {a : Act} {w : World} (hi : ops[i]? = some oi)
    (hs : Region.noSelect ops = true) (hf : Region.free md ops listed i = true) (hr : (Region.ready md ops listed).contains i = true)
    (hQ : ∀ c a w, Q (.panic c) (a.put oi.dst undef) w → Q (.panic c) a w) (hw : Region.wanted oi (yielded ops a.tmps) = false) (hS : S w)
    (h : wpAnyH P md ops Q S fuel (listed.setIfInBounds i true) (a.put oi.dst undef) w) : wpAnyH P md ops Q S (fuel + 1) listed a w :=
  wpAnyH_take hi hs hf hr hQ (.inr ⟨hw, rfl⟩) hS h
/-- an operation that only computes, or reads what S says of memory. -/
theorem rg_yes {i : Nat} {oi : Oper} {v : Value} {fuel : Nat} {listed : Array Bool} {a : Act} {w : World} (hi : ops[i]? = some oi)
    (hs : Region.noSelect ops = true) (hf : Region.free md ops listed i = true) (hr : (Region.ready md ops listed).contains i = true)
    (hQ : ∀ c a w, Q (.panic c) (a.put oi.dst v) w → Q (.panic c) a w) (hw : Region.wanted oi (yielded ops a.tmps) = true) (hy : ∀ w, S w → (execOp a.eval oi).run P w = .ok (.value v) w) (hS : S w)
    (h : wpAnyH P md ops Q S fuel (listed.setIfInBounds i true) (a.put oi.dst v) w) : wpAnyH P md ops Q S (fuel + 1) listed a w :=
  wpAnyH_take hi hs hf hr hQ (.inl ⟨hw, hy⟩) hS h
/-- an operation that comes up alone and is carried out here: a call, a store. -/
theorem rg_call {i : Nat} {oi : Oper} {fuel : Nat} {listed : Array Bool} {a : Act} {w : World} (hi : ops[i]? = some oi)
    (hr : Region.ready md ops listed = [i]) (hw : Region.wanted oi (yielded ops a.tmps) = true)
    (h : ∀ K' : Act → World → Prop, Shut (∀ a w, S w → (S w → wpAnyH P md ops Q S fuel (listed.setIfInBounds i true) a w) → K' a w) → Oper.wp P oi a w K' Q) : wpAnyH P md ops Q S (fuel + 1) listed a w :=
  wpAnyH_ready (rs := [i]) hr (by simp) (AllReadyH.cons hi (fun K hK => by rw [if_pos hw]; exact h K hK) AllReadyH.nil)
end

/-! ### What was there stays -/
theorem cell_below {W W' : World} {a : Addr} {v : Value} (h : W.cell? a = some v) (hb : Below W.heap.size W W') : W'.cell? a = some v :=
  (hb.cell (World.block_lt_of_cell? W a h)).trans h
theorem below_step {B : Nat} {w W W' : World} (h : Below B w W) (hB : B ≤ w.heap.size) (hb : Below W.heap.size W W') : Below B w W' :=
  h.trans (hb.mono (Nat.le_trans hB h.size))
theorem below_on {w W W' : World} (h : Below w.heap.size w W) (hb : Below W.heap.size W W') : Below w.heap.size w W' := below_step h (Nat.le_refl _) hb
theorem below_same (w : World) : Below w.heap.size w w := Below.refl _ _
theorem size_lt {W : World} {b o : Nat} {v : Value} (h : W.cell? ⟨b, o, none⟩ = some v) : b < W.heap.size := World.block_lt_of_cell? W _ h
/-- a value of two cells that is boxed at the call's beginning. -/
theorem box2 (w : World) (v0 v1 : Value) (T : TypeId) : ∃ W0, W0 = w.alloc (.cells #[v0, v1] T) ∧ W0.cell? ⟨w.heap.size, 0, none⟩ = some v0 ∧ W0.cell? ⟨w.heap.size, 1, none⟩ = some v1 ∧ Below w.heap.size w W0 := by
  refine ⟨_, rfl, ?_, ?_, (Below.refl _ _).alloc (Nat.le_refl _) _⟩ <;> simp
/-- two values of two cells that are boxed at the call's beginning. -/
theorem box22 (w : World) (v0 v1 u0 u1 : Value) (T U : TypeId) : ∃ W0, W0 = (w.alloc (.cells #[v0, v1] T)).alloc (.cells #[u0, u1] U) ∧ W0.cell? ⟨w.heap.size, 0, none⟩ = some v0 ∧ W0.cell? ⟨w.heap.size, 1, none⟩ = some v1 ∧
    W0.cell? ⟨w.heap.size + 1, 0, none⟩ = some u0 ∧ W0.cell? ⟨w.heap.size + 1, 1, none⟩ = some u1 ∧ Below w.heap.size w W0 := by
  refine ⟨_, rfl, ?_, ?_, ?_, ?_, ((Below.refl _ _).alloc (Nat.le_refl _) _).alloc (by simp) _⟩ <;> simp
theorem box222 (w : World) (v0 v1 u0 u1 x0 x1 : Value) (T U V : TypeId) : ∃ W0, W0 = ((w.alloc (.cells #[v0, v1] T)).alloc (.cells #[u0, u1] U)).alloc (.cells #[x0, x1] V) ∧ W0.cell? ⟨w.heap.size, 0, none⟩ = some v0 ∧ W0.cell? ⟨w.heap.size, 1, none⟩ = some v1 ∧
    W0.cell? ⟨w.heap.size + 1, 0, none⟩ = some u0 ∧ W0.cell? ⟨w.heap.size + 1, 1, none⟩ = some u1 ∧ W0.cell? ⟨w.heap.size + 2, 0, none⟩ = some x0 ∧ W0.cell? ⟨w.heap.size + 2, 1, none⟩ = some x1 ∧ Below w.heap.size w W0 := by
  obtain ⟨W1, hW1, c0, c1, d0, d1, hB⟩ := box22 w v0 v1 u0 u1 T U
  have hz : W1.heap.size = w.heap.size + 2 := by rw [hW1]; simp
  obtain ⟨W2, hW2, e0, e1, hB2⟩ := box2 W1 x0 x1 V
  rw [hz] at e0 e1
  exact ⟨W2, by rw [hW2, hW1], cell_below c0 hB2, cell_below c1 hB2, cell_below d0 hB2, cell_below d1 hB2, e0, e1, below_on hB hB2⟩
/-- a contract that leaves the world alone, as one that only makes memory. -/
theorem calls_below {P : Program} {f : FuncId} {args : Array Value} {w : World} {E : Ending → Prop} (h : Calls P f args w fun e w' => E e ∧ w = w') : Calls P f args w fun e w' => E e ∧ Below w.heap.size w w' :=
  h.mono fun _ _ ⟨a, b⟩ => ⟨a, b ▸ below_same _⟩
end Go.Proofs.Ytadlecnlgkhneaa
