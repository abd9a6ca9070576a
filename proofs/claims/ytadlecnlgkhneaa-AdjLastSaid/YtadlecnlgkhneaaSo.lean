/-
  SLICES OF THE CALL'S OWN, element by element: made by append; made at once and filled.
-/
import Derived.Test.YtadlecnlgkhneaaSl
import Derived.OwnWalk
import Derived.Maps.AppendAt
import Derived.Deep.MidRow
import Derived.Lib.SlBuf
namespace Go.Proofs.Ytadlecnlgkhneaa
open Go.RowKit

section
variable {α : Type} {k : Nat} {C : α → List Value}
theorem flat_len (hC : ∀ x, (C x).length = k) (xs : List α) : (xs.flatMap C).length = xs.length * k := by
  induction xs with
  | nil => simp
  | cons x xs ih => rw [List.flatMap_cons, List.length_append, ih, hC, List.length_cons, Nat.succ_mul]; omega
theorem flat_get (hC : ∀ x, (C x).length = k) : ∀ (xs : List α) (i : Nat) (x : α), xs[i]? = some x → ∀ j, j < k → (xs.flatMap C)[i * k + j]? = (C x)[j]?
  | [], i, x, h, _, _ => by simp at h
  | y :: xs, 0, x, h, j, hj => by
    simp at h; subst h
    rw [List.flatMap_cons, Nat.zero_mul, Nat.zero_add, List.getElem?_append_left (by rw [hC]; exact hj)]
  | y :: xs, i + 1, x, h, j, hj => by
    have ih := flat_get hC xs i x (by simpa using h) j hj
    rw [List.flatMap_cons, List.getElem?_append_right (by rw [hC, Nat.succ_mul]; omega), hC, ← ih]
    congr 1
    rw [Nat.succ_mul]; omega
theorem own_slat {w : World} {B : Nat} {e : TypeId} {v : Value} {xs : List α} (hC : ∀ x, (C x).length = k) (h : w.ownsRow B e k v xs.length (xs.flatMap C)) : SlAt w k (fun x cs => cs = C x) v xs := by
  obtain ⟨_, ⟨rfl, h0⟩ | ⟨g, cap, cur, rfl, _, hg, hn, hm, _, hcur⟩⟩ := h
  · obtain rfl := List.length_eq_zero_iff.1 h0
    exact SlAt.nil
  · refine ⟨some ⟨g, 0, none⟩, cap, rfl, hn, hm, fun _ => ⟨g, 0, rfl, fun i x hx => ⟨C x, hC x, rfl, fun j c hc => ?_⟩⟩⟩
    have hj : j < k := by rw [← hC x]; exact (List.getElem?_eq_some_iff.1 hc).1
    have hi : i < xs.length := (List.getElem?_eq_some_iff.1 hx).1
    have hf := flat_get hC xs i x hx j hj
    rw [← hcur, hc, List.getElem?_take_of_lt (by
      have : (i + 1) * k ≤ xs.length * k := Nat.mul_le_mul_right _ hi
      rw [Nat.succ_mul] at this; omega)] at hf
    rw [row_cell hg, Nat.zero_add]
    simpa using hf
theorem own_below {w w' : World} {B : Nat} {e : TypeId} {n : Nat} {v : Value} {xs : List Value} (h : w.ownsRow B e k v n xs) (hb : Below w.heap.size w w') : w'.ownsRow B e k v n xs := by
  obtain ⟨h1, h2⟩ := h
  refine ⟨h1, h2.imp_right ?_⟩
  rintro ⟨g, cap, cur, h3, h4, h5, h6⟩
  exact ⟨g, cap, cur, h3, h4, (hb.block g (row_lt h5)).trans h5, h6⟩
theorem own_form_le {w : World} {B : Nat} {e : TypeId} {n : Nat} {v : Value} {xs : List Value} (h : w.ownsRow B e k v n xs) : ∀ g, v.ownBlock = some g → B ≤ g := by
  obtain ⟨_, ⟨rfl, _⟩ | ⟨g, cap, cur, rfl, hB, _⟩⟩ := h
  · intro g hg; cases hg
  · intro g' hg; cases hg; exact hB
theorem flat_snoc (xs : List α) (x : α) : (xs ++ [x]).flatMap C = xs.flatMap C ++ C x := by simp
theorem flat_one (h : ∀ x, ∀ u ∈ C x, u.oneCell' = true) (xs : List α) : ∀ u ∈ xs.flatMap C, u.oneCell' = true := by
  intro u hu
  obtain ⟨x, _, hx⟩ := List.mem_flatMap.1 hu
  exact h x u hx
/-- the first elements of a row that is being filled. -/
def Filled (w : World) (b k : Nat) (C : α → List Value) (xs : List α) : Prop := ∀ (i : Nat) (x : α), xs[i]? = some x → w.rangeAt b (i * k) (C x)
theorem there_below {w w' : World} {b o n : Nat} (h : w.there b o n) (hb : Below w.heap.size w w') : w'.there b o n := by
  intro j hj
  obtain ⟨h1, h2⟩ := h j hj
  obtain ⟨v, hv⟩ := Option.isSome_iff_exists.1 h1
  have hlt := size_lt hv
  exact ⟨by rw [cell_below hv hb]; rfl, (hb.frozen (p := ⟨b, o + j, none⟩) hlt).trans h2⟩
theorem Filled.below {w w' : World} {b : Nat} {xs : List α} (h : Filled w b k C xs) (hb : Below w.heap.size w w') : Filled w' b k C xs := fun i x hx j v hv => cell_below (h i x hx j v hv) hb
theorem Filled.set {w : World} {b n : Nat} {xs : List α} (hC : ∀ x, (C x).length = k) (h : Filled w b k C xs) (ht : w.there b 0 (n * k)) (hn : xs.length < n) (x : α) :
    Filled (w.setCells b (xs.length * k) (C x)) b k C (xs ++ [x]) ∧ (w.setCells b (xs.length * k) (C x)).there b 0 (n * k) := by
  refine ⟨fun i y hy => ?_, World.there_setCells ht _ _ _⟩
  by_cases hi : i < xs.length
  · rw [List.getElem?_append_left hi] at hy
    refine World.rangeAt_setCells_apart (h i y hy) _ _ _ (.inr (.inl ?_))
    rw [hC]
    have : (i + 1) * k ≤ xs.length * k := Nat.mul_le_mul_right _ hi
    rw [Nat.succ_mul] at this; exact this
  · rw [List.getElem?_append_right (by omega)] at hy
    have e : i = xs.length := by
      have := (List.getElem?_eq_some_iff.1 hy).1
      simp at this; omega
    subst e
    simp at hy; subst hy
    refine World.rangeAt_setCells_same _ _ _ _ (fun j hj => ?_)
    rw [hC] at hj
    have := ht (xs.length * k + j) (by
      have : (xs.length + 1) * k ≤ n * k := Nat.mul_le_mul_right _ hn
      rw [Nat.succ_mul] at this; omega)
    rw [Nat.zero_add] at this
    exact this
theorem Filled.slat {w : World} {b n : Nat} {xs : List α} (hC : ∀ x, (C x).length = k) (h : Filled w b k C xs) (hn : xs.length = n) (hm : n ≤ maxLen) : SlAt w k (fun x cs => cs = C x) (.slice (some ⟨b, 0, none⟩) n n) xs := by
  subst hn
  refine ⟨_, _, rfl, Nat.le_refl _, hm, fun _ => ⟨b, 0, rfl, fun i x hx => ⟨C x, hC x, rfl, fun j c hc => ?_⟩⟩⟩
  rw [Nat.zero_add]
  exact h i x hx j c hc
theorem Filled.nil {w : World} {b : Nat} : Filled w b k C ([] : List α) := fun i x hx => by simp at hx
theorem there_own {w : World} {B : Nat} {e : TypeId} {g n : Nat} {xs : List Value} (h : w.ownsRow B e k (.slice (some ⟨g, 0, none⟩) n n) n xs) : w.there g 0 (n * k) := by
  obtain ⟨_, ⟨h1, _⟩ | ⟨g', cap, cur, h1, _, hg, _, _, hsz, _⟩⟩ := h
  · cases h1
  · injection h1 with e1 e2 e3
    injection e1 with e1
    injection e1 with e1
    subst e1; subst e3
    intro j hj
    have hlt : j < cur.size := by rw [hsz]; exact hj
    rw [Nat.zero_add]
    exact ⟨by rw [row_cell hg, Array.getElem?_eq_getElem hlt]; rfl, row_free hg j⟩
end
theorem new_cells (W : World) (C : Array Value) (T : TypeId) : ∀ (j : Nat) (u : Value), C.toList[j]? = some u → (W.alloc (.cells C T)).cell? ((⟨W.heap.size, 0, none⟩ : Addr).add j) = some u := by
  intro j u hu
  have hr := heap_alloc_new W (.cells C T)
  have : (⟨W.heap.size, 0, none⟩ : Addr).add j = ⟨W.heap.size, j, none⟩ := by
    unfold Addr.add; split
    · next h => rw [h]
    · simp
  rw [this, row_cell hr]
  simpa using hu
/-- an empty slice of the call's own. -/
theorem own_empty {w : World} {B : Nat} {e : TypeId} {k : Nat} (hB : B ≤ w.heap.size) : (w.alloc (.cells #[] e)).ownsRow B e k (.slice (some ⟨w.heap.size, 0, none⟩) 0 0) 0 [] :=
  ⟨by simp, .inr ⟨w.heap.size, 0, #[], rfl, hB, heap_alloc_new w _, Nat.le_refl _, by simp [maxLen], by simp, by simp⟩⟩
theorem own_setRow {w : World} {B g k : Nat} {e : TypeId} {n : Nat} {v : Value} {xs : List Value} (h : w.ownsRow B e k v n xs) (hg : g < B) (C : Array Value) : (w.setRow g C).ownsRow B e k v n xs := by
  obtain ⟨h1, h2⟩ := h
  refine ⟨h1, h2.imp_right ?_⟩
  rintro ⟨b, cap, cur, h3, h4, h5, h6⟩
  exact ⟨b, cap, cur, h3, h4, by rw [setRow_other _ _ _ _ (by omega)]; exact h5, h6⟩
end Go.Proofs.Ytadlecnlgkhneaa
