/-
  PREFIXES IN ORDER, EACH ONCE; small laws on slices of them.
-/
import Derived.Test.YtadlecnlgkhneaaPsC
import Derived.Test.YtadlecnlgkhneaaPsS
namespace Go.Proofs.Ytadlecnlgkhneaa
open Go.RowKit

/-- the prefixes in order, each once. -/
def setOf (ps : List Pf) : List Pf := comp (ps.mergeSort fun x y => !decide (plt y x))
theorem setOf_srt (ps : List Pf) : Srt (setOf ps) ∧ ∀ p, p ∈ setOf ps ↔ p ∈ ps := by
  have h := List.pairwise_mergeSort (le := fun x y : Pf => !decide (plt y x)) (fun a b c h1 h2 => by
        simp only [Bool.not_eq_true', decide_eq_false_iff_not] at *
        unfold plt at *; omega) (fun a b => by
        simp only [Bool.or_eq_true, Bool.not_eq_true', decide_eq_false_iff_not]
        unfold plt; omega) ps
  have h2 := comp_srt (h.imp fun {a b} k => by simpa only [Bool.not_eq_true', decide_eq_false_iff_not] using k)
  exact ⟨h2.1, fun p => (h2.2 p).trans (List.mergeSort_perm _ _).mem_iff⟩
theorem setOf_is {ps ys : List Pf} (h : Srt ys) (hm : ∀ p, p ∈ ys ↔ p ∈ ps) : setOf ps = ys := srt_ext (setOf_srt ps).1 h fun p => ((setOf_srt ps).2 p).trans (hm p).symm
theorem setOf_len (ps : List Pf) : (setOf ps).length ≤ ps.length := by
  have := comp_len (ps.mergeSort fun x y => !decide (plt y x))
  rw [List.length_mergeSort] at this
  exact this
def rights (ps : List Pf) : Bool := ps.all fun p => rightB p.1 p.2
theorem ownPs_nil (w : World) (B : Nat) : OwnPs w B (.slice none 0 0) [] := ⟨⟨rfl, .inl ⟨rfl, rfl⟩⟩, fun p hp => by simp at hp⟩
theorem box1c (w : World) (v : Value) (T : TypeId) : ∃ W0, W0 = w.alloc (.cells #[v] T) ∧ W0.cell? ⟨w.heap.size, 0, none⟩ = some v ∧ W0.frozen? ⟨w.heap.size, 0, none⟩ = false ∧ Below w.heap.size w W0 ∧ W0.heap.size = w.heap.size + 1 := by
  refine ⟨_, rfl, ?_, ?_, (Below.refl _ _).alloc (Nat.le_refl _) _, by simp⟩
  · rw [row_cell (heap_alloc_new w _)]; rfl
  · exact row_free (heap_alloc_new w _) 0
def AllR (ps : List Pf) (k : Nat) : Prop := ∀ (i : Nat) (x : Pf), i < k → ps[i]? = some x → rightB x.1 x.2 = true
theorem allR_step {ps : List Pf} {k : Nat} {x : Pf} (h : AllR ps k) (hx : ps[k]? = some x) (hr : rightB x.1 x.2 = true) : AllR ps (k + 1) := by
  intro i y hi hy
  by_cases e : i = k
  · subst e; rw [hx] at hy; obtain rfl := Option.some.inj hy; exact hr
  · exact h i y (by omega) hy
theorem allR_all {ps : List Pf} (h : AllR ps ps.length) : rights ps = true := by
  unfold rights
  rw [List.all_eq_true]
  intro x hx
  obtain ⟨i, hi⟩ := List.mem_iff_getElem?.1 hx
  exact h i x (List.getElem?_eq_some_iff.1 hi).1 hi
theorem own_base {w : World} {B B' k n : Nat} {e : TypeId} {v : Value} {xs : List Value} (h : w.ownsRow B e k v n xs) (hB : B' ≤ B) : w.ownsRow B' e k v n xs := by
  obtain ⟨h1, h2⟩ := h
  refine ⟨h1, h2.imp_right ?_⟩
  rintro ⟨g, cap, cur, h3, h4, h5⟩
  exact ⟨g, cap, cur, h3, by omega, h5⟩
/-- a store into an elder block. -/
theorem OwnPs.setElder {w : World} {B B' b : Nat} {v : Value} {xs : List Pf} (h : OwnPs w B v xs) (hb : b < B) (hB : B' ≤ B) (u : Value) : OwnPs (w.setCell ⟨b, 0, none⟩ u) B' v xs := by
  obtain ⟨⟨h1, h2⟩, h3⟩ := h
  refine ⟨⟨h1, h2.imp_right ?_⟩, h3⟩
  rintro ⟨g, cap, cur, h4, h5, h6, h7⟩
  exact ⟨g, cap, cur, h4, by omega, (set_other b 0 u (by omega)).trans h6, h7⟩
end Go.Proofs.Ytadlecnlgkhneaa
