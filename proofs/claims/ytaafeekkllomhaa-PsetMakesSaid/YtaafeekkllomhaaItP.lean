/-
  THE REFERENCE's LISTS: Put.
-/
import Derived.Test.YtaafeekkllomhaaItm
import Derived.Deep.CutBlock
import Derived.Deep.DeepCutAuto
namespace Go.Proofs.Ytaafeekkllomhaa
open Go.RowKit

/-- all but the one at place i. -/
def exI (i : Int) : List It3 → Nat → List It3
  | [], _ => []
  | y :: l, k => if (k : Int) = i then exI i l (k + 1) else y :: exI i l (k + 1)
theorem exI_append (i : Int) : ∀ (l m : List It3) (k : Nat), exI i (l ++ m) k = exI i l k ++ exI i m (k + l.length)
  | [], m, k => by simp [exI]
  | y :: l, m, k => by
    have ih := exI_append i l m (k + 1)
    simp only [List.cons_append, exI]
    rw [ih, show k + 1 + l.length = k + (y :: l).length by simp; omega]
    split <;> rfl
theorem exI_len (i : Int) : ∀ (l : List It3) (k : Nat), (exI i l k).length ≤ l.length
  | [], k => by simp [exI]
  | y :: l, k => by
    have ih := exI_len i l (k + 1)
    simp only [exI]
    split <;> simp <;> omega
/-- the reference's Put. -/
def refPut (l : List It3) (most : Int) (x : It3) : List It3 × Int :=
  if rightB (x.1 : Int) x.2.1 then (if findI l x.1 x.2.1 < 0 ∧ most ≤ l.length then (l, 3) else (exI (findI l x.1 x.2.1) l 0 ++ [x], 0)) else (l, 1)
def RefPost (w : World) (l : List It3) (c : Value) (e : Ending) (w' : World) : Prop := ∃ v', e = .returned (.tuple #[v', c]) ∧ ItsAt w' v' l ∧ Below w.heap.size w w'
theorem RefPost.of {w w' : World} {l : List It3} {c : Value} {r : List It3 × Int} {v' : Value} {k : Int} (hr : r = (l, k)) (hc : c = .int .i64 k) (hv : ItsAt w' v' l) (hb : Below w.heap.size w w') : RefPost w r.1 (.int .i64 r.2) (.returned (.tuple #[v', c])) w' := by
  subst hr; subst hc; exact ⟨v', rfl, hv, hb⟩
theorem box_3 (w : World) (a b c : Value) (T : TypeId) : ∃ W0, W0 = w.alloc (.cells #[a, b, c] T) ∧ W0.cell? ⟨w.heap.size, 0, none⟩ = some a ∧ W0.cell? ⟨w.heap.size, 1, none⟩ = some b ∧ W0.cell? ⟨w.heap.size, 2, none⟩ = some c ∧ Below w.heap.size w W0 := by
  refine ⟨_, rfl, ?_, ?_, ?_, (Below.refl _ _).alloc (Nat.le_refl _) _⟩ <;> simp
theorem its_cells (W : World) (x : It3) : ∀ j u, (it3C x)[j]? = some u → (W.alloc (.cells #[.int .u32 x.1, .int .i64 x.2.1, .int .i64 x.2.2] 51)).cell? ((⟨W.heap.size, 0, none⟩ : Addr).add j) = some u := by
  intro j u hu
  have hr := heap_alloc_new W (.cells #[.int .u32 x.1, .int .i64 x.2.1, .int .i64 x.2.2] 51)
  have : (⟨W.heap.size, 0, none⟩ : Addr).add j = ⟨W.heap.size, j, none⟩ := by
    unfold Addr.add; split
    · next h => rw [h]
    · simp
  rw [this, row_cell hr]
  unfold it3C at hu
  simpa using hu
theorem own_snoc {W : World} {B : Nat} {v : Value} {l : List It3} {x : It3} (h : W.ownsRow B 51 3 v (l.length + 1) (rowsOf l ++ it3C x)) : OwnIts W B v (l ++ [x]) := by
  unfold OwnIts
  rw [rowsOf_append, List.length_append]
  simpa [rowsOf] using h
theorem own_none (W : World) (B : Nat) (hB : B ≤ W.heap.size) : OwnIts (W.alloc (.cells #[] 51)) B (.slice (some ⟨W.heap.size, 0, none⟩) 0 0) [] :=
  World.ownsRow_made W #[] 0 hB (by decide) rfl

theorem exI_snoc {i : Int} {l : List It3} {k : Nat} {x : It3} (hx : l[k]? = some x) : exI i (l.take (k + 1)) 0 = exI i (l.take k) 0 ++ (if (k : Int) = i then [] else [x]) := by
  have hk : k < l.length := (List.getElem?_eq_some_iff.1 hx).1
  rw [List.take_add_one, hx, Option.toList_some, exI_append]
  congr 1
  rw [List.length_take, Nat.min_eq_left (by omega), Nat.zero_add]
  rfl
theorem own_ge {W : World} {B : Nat} {v : Value} {l : List It3} (h : OwnIts W B v l) : ∀ j, v.ownBlock = some j → B ≤ j := by
  obtain ⟨_, ⟨rfl, _⟩ | ⟨g, cap, cur, rfl, hg, _⟩⟩ := h
  · intro j hj; cases hj
  · intro j hj
    simp [Value.ownBlock] at hj
    omega
theorem it3_one (x : It3) : ∀ u ∈ it3C x, u.oneCell' = true := by
  intro u hu
  simp [it3C] at hu
  rcases hu with rfl | rfl | rfl <;> rfl

end Go.Proofs.Ytaafeekkllomhaa
