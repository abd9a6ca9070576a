/-
  THE REFERENCE's LISTS: what the selection of the least, again and again, gives.
-/
import Derived.Test.YtaafeekkllomhaaItS
namespace Go.Proofs.Ytaafeekkllomhaa
open Go.RowKit

theorem cut_sub {α : Type} (l : List α) (i : Nat) : (l.take i ++ l.drop (i + 1)).Sublist l := by
  conv => rhs; rw [← List.take_append_drop i l]
  exact (List.Sublist.refl _).append (by rw [show i + 1 = i + 1 from rfl, ← List.drop_drop]; exact List.drop_sublist ..)
theorem less_iff (x y : It3) : lessI x y = true ↔ x.1 < y.1 ∨ (x.1 = y.1 ∧ x.2.1 < y.2.1) := by
  unfold lessI
  simp only [Bool.or_eq_true, Bool.and_eq_true, decide_eq_true_eq, beq_iff_eq]
  omega
theorem less_no (x y : It3) : lessI x y = false ↔ ¬ (x.1 < y.1 ∨ (x.1 = y.1 ∧ x.2.1 < y.2.1)) := by
  rw [← less_iff]; simp
theorem pickF_lt {m : List It3} (h : 0 < m.length) : ∀ k, k ≤ m.length → pickF m k < m.length
  | 0, _ => h
  | k + 1, hk => by
    have ih := pickF_lt h k (by omega)
    obtain ⟨x, hx⟩ : ∃ x, m[k]? = some x := ⟨_, List.getElem?_eq_getElem (by omega)⟩
    obtain ⟨y, hy⟩ : ∃ y, m[pickF m k]? = some y := ⟨_, List.getElem?_eq_getElem ih⟩
    rw [pickF_step hx rfl hy]
    split <;> omega
theorem pickF_min {m : List It3} (h : 0 < m.length) : ∀ k, k ≤ m.length → ∀ j y z, j < k → m[j]? = some y → m[pickF m k]? = some z → lessI y z = false
  | 0, _, j, y, z, hj, _, _ => by omega
  | k + 1, hk, j, y, z, hj, hy, hz => by
    have ih := pickF_min h k (by omega)
    obtain ⟨x, hx⟩ : ∃ x, m[k]? = some x := ⟨_, List.getElem?_eq_getElem (by omega)⟩
    obtain ⟨q, hq⟩ : ∃ y, m[pickF m k]? = some y := ⟨_, List.getElem?_eq_getElem (pickF_lt h k (by omega))⟩
    rw [pickF_step hx rfl hq] at hz
    by_cases hl : lessI x q = true
    · rw [if_pos hl, hx] at hz
      cases hz
      by_cases e : j = k
      · subst e
        rw [hx] at hy; cases hy
        rw [less_no]; omega
      · have h1 := ih j y q (by omega) hy hq
        rw [less_iff] at hl
        rw [less_no] at h1 ⊢
        omega
    · rw [if_neg hl, hq] at hz
      cases hz
      by_cases e : j = k
      · subst e
        rw [hx] at hy; cases hy
        simpa using hl
      · exact ih j y _ (by omega) hy hq
abbrev D3 (x y : It3) : Prop := ¬ (x.1 = y.1 ∧ x.2.1 = y.2.1)
theorem sel_spec : ∀ (c : Nat) (m : List It3), m.length = c → m.Pairwise D3 → (∀ x, x ∈ selS m.length m ↔ x ∈ m) ∧ (selS m.length m).Pairwise fun x y => lessI x y = true
  | 0, m, h, _ => by
    obtain rfl := List.length_eq_zero_iff.1 h
    exact ⟨fun x => by simp [selS], by simp [selS]⟩
  | c + 1, m, h, hd => by
    have hp := pickF_lt (m := m) (by omega) m.length (Nat.le_refl _)
    have hm := pickF_min (m := m) (by omega) m.length (Nat.le_refl _)
    generalize hpe : pickF m m.length = p at hp hm
    obtain ⟨x, hx⟩ : ∃ x, m[p]? = some x := ⟨_, List.getElem?_eq_getElem hp⟩
    obtain ⟨ih1, ih2⟩ := sel_spec c (m.take p ++ m.drop (p + 1)) (by rw [List.length_append, List.length_take, List.length_drop]; omega) (hd.sublist (cut_sub m p))
    have hsp : m = m.take p ++ x :: m.drop (p + 1) := by
      have h1 : m[p] = x := (List.getElem?_eq_some_iff.1 hx).2
      rw [← h1, ← List.drop_eq_getElem_cons hp, List.take_append_drop]
    have hdx : ∀ y, y ∈ m.take p ++ m.drop (p + 1) → D3 x y := by
      intro y hy
      rw [hsp, List.pairwise_append, List.pairwise_cons] at hd
      rcases List.mem_append.1 hy with hy | hy
      · have := hd.2.2 y hy x (by simp)
        exact fun e => this ⟨e.1.symm, e.2.symm⟩
      · exact hd.2.1.1 y hy
    rw [selS_step hpe hx]
    refine ⟨fun y => ?_, ?_⟩
    · rw [List.mem_cons, ih1]
      have hmy : y ∈ m ↔ y ∈ m.take p ++ x :: m.drop (p + 1) := by rw [← hsp]
      rw [hmy]
      simp only [List.mem_append, List.mem_cons]
      constructor
      · rintro (h | h | h) <;> simp [h]
      · rintro (h | h | h) <;> simp [h]
    · refine List.pairwise_cons.2 ⟨fun y hy => ?_, ih2⟩
      rw [ih1] at hy
      have hy2 : y ∈ m := (cut_sub m p).subset hy
      obtain ⟨j, hj⟩ := List.getElem?_of_mem hy2
      have h1 := hm j y x (List.getElem?_eq_some_iff.1 hj).1 hj hx
      have h2 := hdx y hy
      rw [less_no] at h1
      rw [less_iff]
      unfold D3 at h2
      omega
theorem sel_len : ∀ (c : Nat) (m : List It3), m.length = c → (selS m.length m).length = m.length
  | 0, m, h => by
    obtain rfl := List.length_eq_zero_iff.1 h
    rfl
  | c + 1, m, h => by
    have hp := pickF_lt (m := m) (by omega) m.length (Nat.le_refl _)
    obtain ⟨x, hx⟩ : ∃ x, m[pickF m m.length]? = some x := ⟨_, List.getElem?_eq_getElem hp⟩
    have hc : (m.take (pickF m m.length) ++ m.drop (pickF m m.length + 1)).length = c := by rw [List.length_append, List.length_take, List.length_drop]; omega
    rw [selS_step rfl hx, List.length_cons, sel_len c _ hc]
    omega
end Go.Proofs.Ytaafeekkllomhaa
