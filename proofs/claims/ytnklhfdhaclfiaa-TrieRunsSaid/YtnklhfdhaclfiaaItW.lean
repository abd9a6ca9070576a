/-
  TrieRuns: what holds from step to step; the parts of one step.
-/
import Derived.Test.YtnklhfdhaclfiaaItO
namespace Go.Proofs.Ytnklhfdhaclfiaa
open Go.RowKit

section
variable {w W W' : World} {tb : Nat} {N N' : Nat → Option Nat} {S S' : List (Nat × Value)} {most : Int} {v : Value} {l : List It3}
theorem its_sep (hT : TrI W tb N S most) (hv : ItsAt W v l) : ∀ j, v.ownBlock = some j → ¬ TOwn tb N j := by
  obtain ⟨_, ⟨rfl, _⟩ | ⟨g, cap, cur, rfl, _, hg, _⟩⟩ := hv
  · intro j hj; cases hj
  · intro j hj ho
    simp [Value.ownBlock] at hj
    subst hj
    rcases ho with rfl | ⟨k, hk⟩
    · have := hT.row
      rw [hg] at this
      simp at this
    · have := hT.node k _ hk
      rw [hg] at this
      simp at this
theorem its_kept {F : Nat → Prop} (hv : ItsAt W v l) (hk : Kept F W W') (hne : ∀ j, v.ownBlock = some j → ¬ F j) : ItsAt W' v l := by
  obtain ⟨h1, h2⟩ := hv
  refine ⟨h1, h2.imp_right ?_⟩
  rintro ⟨g, cap, cur, rfl, h4, h5, h6⟩
  exact ⟨g, cap, cur, rfl, h4, (hk.block g (row_lt h5) (hne g rfl)).trans h5, h6⟩
/-- what holds from step to step. -/
structure RSt (w W : World) (tb : Nat) (N : Nat → Option Nat) (S : List (Nat × Value)) (most : Int) (v : Value) (l : List It3) : Prop where
  st : LSt w W tb N S most
  rl : Rl l S
  its : ItsAt W v l
theorem RSt.below (h : RSt w W tb N S most v l) (hb : Below W.heap.size W W') : RSt w W' tb N S most v l := ⟨h.st.below hb, h.rl, OwnIts.below h.its hb⟩
theorem RSt.put {v' : Value} {r : List It3 × Int} {e : Ending} (h : LSt w W tb N S most) (hv : ItsAt W v' r.1) (hp : PutPostR tb N most W r e W') : ∃ N' S', e = .returned (.int .i64 r.2) ∧ RSt w W' tb N' S' most v' r.1 ∧ Kept (TOwn tb N) W W' := by
  obtain ⟨N', S', h1, h2, h3, h4, h5⟩ := hp
  exact ⟨N', S', h1, ⟨h.kept h2 h4.2 h5, h3, its_kept hv h5 (its_sep h.tri hv)⟩, h5⟩
theorem RSt.drop {v' : Value} {r : List It3 × Bool} {e : Ending} (h : LSt w W tb N S most) (hv : ItsAt W v' r.1) (hp : DropPostR tb N most W r e W') : ∃ N' S', e = .returned (.bool r.2) ∧ RSt w W' tb N' S' most v' r.1 ∧ Kept (TOwn tb N) W W' := by
  obtain ⟨N', S', h1, h2, h3, h4, h5⟩ := hp
  exact ⟨N', S', h1, ⟨h.kept h2 (fun k b hk => .inl (h4 k b hk)) h5, h3, its_kept hv h5 (its_sep h.tri hv)⟩, h5⟩
theorem RSt.len (h : RSt w W tb N S most v l) : S.length = l.length := by rw [h.rl.map, List.length_map]
theorem RSt.ok (h : RSt w W tb N S most v l) : ItsOk l := fun _ _ hx => (h.rl.ok _ (List.mem_of_getElem? hx)).1
end
theorem refPut_le (l : List It3) (m : Int) (x : It3) : (refPut l m x).1.length ≤ l.length + 1 := by
  unfold refPut
  split
  · split
    · simp
    · have := exI_len (findI l x.1 x.2.1) l 0; simp; omega
  · simp
theorem refDrop_le (l : List It3) (a : Nat) (n : Int) : (refDrop l a n).1.length ≤ l.length := by
  unfold refDrop
  split
  · simp
  · simp only [List.length_append, List.length_take, List.length_drop]; omega
theorem sel_len : ∀ (c : Nat) (m : List It3), m.length = c → (selS m.length m).length = m.length
  | 0, m, h => by
    obtain rfl := List.length_eq_zero_iff.1 h
    rfl
  | c + 1, m, h => by
    have hp := pickF_lt (m := m) (by omega) m.length (Nat.le_refl _)
    obtain ⟨x, hx⟩ : ∃ x, m[pickF m m.length]? = some x := ⟨_, List.getElem?_eq_getElem hp⟩
    have hc : (m.take (pickF m m.length) ++ m.drop (pickF m m.length + 1)).length = c := by rw [List.length_append, List.length_take, List.length_drop]; omega
    rw [selS_step rfl hx, List.length_cons, sel_len c _ hc]
    omega
theorem sorted_len (l : List It3) (a : Nat) (n : Int) : (refSorted l a n).length ≤ l.length := by
  unfold refSorted
  rw [sel_len _ _ rfl]
  exact filtI_le l a n
theorem gi_made (Wf : World) : ∃ W5, W5 = (Wf.alloc (.cells #[] 55)).alloc (.cells #[.slice (some ⟨Wf.heap.size, 0, none⟩) 0 0] 49) ∧ GI Wf (Wf.heap.size + 1) (fun _ => False) [] W5 := by
  obtain ⟨W1, hW1⟩ : ∃ W1, W1 = Wf.alloc (.cells #[] 55) := ⟨_, rfl⟩
  have b1 : Below Wf.heap.size Wf W1 := by rw [hW1]; exact (Below.refl _ _).alloc (Nat.le_refl _) _
  have o1 : OwnIts W1 Wf.heap.size (.slice (some ⟨Wf.heap.size, 0, none⟩) 0 0) [] := by rw [hW1]; exact own_none Wf _ (Nat.le_refl _)
  have z1 : W1.heap.size = Wf.heap.size + 1 := by rw [hW1]; simp
  have b2 : Below W1.heap.size W1 (W1.alloc (.cells #[.slice (some ⟨Wf.heap.size, 0, none⟩) 0 0] 49)) := (Below.refl _ _).alloc (Nat.le_refl _) _
  have h2 := heap_alloc_new W1 (.cells #[.slice (some ⟨Wf.heap.size, 0, none⟩) 0 0] 49)
  refine ⟨_, rfl, ?_⟩
  rw [← hW1]
  rw [z1] at h2
  exact ⟨below_on b1 b2, ⟨_, h2, o1.below b2, fun _ _ h => h⟩, by omega, fun h => h, fun _ h => h.elim⟩
theorem box_5 (w : World) (a b c d e : Value) (T : TypeId) : ∃ W0, W0 = w.alloc (.cells #[a, b, c, d, e] T) ∧ W0.cell? ⟨w.heap.size, 0, none⟩ = some a ∧ W0.cell? ⟨w.heap.size, 1, none⟩ = some b ∧ W0.cell? ⟨w.heap.size, 2, none⟩ = some c ∧ W0.cell? ⟨w.heap.size, 3, none⟩ = some d ∧ W0.cell? ⟨w.heap.size, 4, none⟩ = some e ∧ Below w.heap.size w W0 := by
  refine ⟨_, rfl, ?_, ?_, ?_, ?_, ?_, (Below.refl _ _).alloc (Nat.le_refl _) _⟩ <;> simp
end Go.Proofs.Ytnklhfdhaclfiaa
