/-
  THE REFERENCE's LISTS AND WHAT STANDS IN THE TRIE: plain laws: all in order.
-/
import Derived.Test.YtnklhfdhaclfiaaItR
namespace Go.Proofs.Ytnklhfdhaclfiaa
open Go.RowKit

theorem less_iff (x y : It3) : lessI x y = true ↔ x.1 < y.1 ∨ (x.1 = y.1 ∧ x.2.1 < y.2.1) := by
  unfold lessI
  simp only [Bool.or_eq_true, Bool.and_eq_true, decide_eq_true_eq, beq_iff_eq]
  omega
theorem less_no (x y : It3) : lessI x y = false ↔ ¬ (x.1 < y.1 ∨ (x.1 = y.1 ∧ x.2.1 < y.2.1)) := by
  rw [← less_iff]; simp
theorem pickF_lt {m : List It3} (h : 0 < m.length) : ∀ k, k ≤ m.length → pickF m k < m.length
  | 0, _ => h
  | k + 1, hk => by
    have ih := pickF_lt h k (by omega)
    obtain ⟨x, hx⟩ : ∃ x, m[k]? = some x := ⟨_, List.getElem?_eq_getElem (by omega)⟩
    obtain ⟨y, hy⟩ : ∃ y, m[pickF m k]? = some y := ⟨_, List.getElem?_eq_getElem ih⟩
    rw [pickF_step hx rfl hy]
    split <;> omega
theorem pickF_min {m : List It3} (h : 0 < m.length) : ∀ k, k ≤ m.length → ∀ j y z, j < k → m[j]? = some y → m[pickF m k]? = some z → lessI y z = false
  | 0, _, j, y, z, hj, _, _ => by omega
  | k + 1, hk, j, y, z, hj, hy, hz => by
    have ih := pickF_min h k (by omega)
    obtain ⟨x, hx⟩ : ∃ x, m[k]? = some x := ⟨_, List.getElem?_eq_getElem (by omega)⟩
    obtain ⟨q, hq⟩ : ∃ y, m[pickF m k]? = some y := ⟨_, List.getElem?_eq_getElem (pickF_lt h k (by omega))⟩
    rw [pickF_step hx rfl hq] at hz
    by_cases hl : lessI x q = true
    · rw [if_pos hl, hx] at hz
      cases hz
      by_cases e : j = k
      · subst e
        rw [hx] at hy; cases hy
        rw [less_no]; omega
      · have h1 := ih j y q (by omega) hy hq
        rw [less_iff] at hl
        rw [less_no] at h1 ⊢
        omega
    · rw [if_neg hl, hq] at hz
      cases hz
      by_cases e : j = k
      · subst e
        rw [hx] at hy; cases hy
        simpa using hl
      · exact ih j y _ (by omega) hy hq
abbrev D3 (x y : It3) : Prop := ¬ (x.1 = y.1 ∧ x.2.1 = y.2.1)
theorem sel_spec : ∀ (c : Nat) (m : List It3), m.length = c → m.Pairwise D3 → (∀ x, x ∈ selS m.length m ↔ x ∈ m) ∧ (selS m.length m).Pairwise fun x y => lessI x y = true
  | 0, m, h, _ => by
    obtain rfl := List.length_eq_zero_iff.1 h
    exact ⟨fun x => by simp [selS], by simp [selS]⟩
  | c + 1, m, h, hd => by
    have hp := pickF_lt (m := m) (by omega) m.length (Nat.le_refl _)
    have hm := pickF_min (m := m) (by omega) m.length (Nat.le_refl _)
    generalize hpe : pickF m m.length = p at hp hm
    obtain ⟨x, hx⟩ : ∃ x, m[p]? = some x := ⟨_, List.getElem?_eq_getElem hp⟩
    obtain ⟨ih1, ih2⟩ := sel_spec c (m.take p ++ m.drop (p + 1)) (by rw [List.length_append, List.length_take, List.length_drop]; omega) (hd.sublist (cut_sub m p))
    have hsp : m = m.take p ++ x :: m.drop (p + 1) := by
      have h1 : m[p] = x := (List.getElem?_eq_some_iff.1 hx).2
      rw [← h1, ← List.drop_eq_getElem_cons hp, List.take_append_drop]
    have hdx : ∀ y, y ∈ m.take p ++ m.drop (p + 1) → D3 x y := by
      intro y hy
      rw [hsp, List.pairwise_append, List.pairwise_cons] at hd
      rcases List.mem_append.1 hy with hy | hy
      · have := hd.2.2 y hy x (by simp)
        exact fun e => this ⟨e.1.symm, e.2.symm⟩
      · exact hd.2.1.1 y hy
    rw [selS_step hpe hx]
    refine ⟨fun y => ?_, ?_⟩
    · rw [List.mem_cons, ih1]
      have hmy : y ∈ m ↔ y ∈ m.take p ++ x :: m.drop (p + 1) := by rw [← hsp]
      rw [hmy]
      simp only [List.mem_append, List.mem_cons]
      constructor
      · rintro (h | h | h) <;> simp [h]
      · rintro (h | h | h) <;> simp [h]
    · refine List.pairwise_cons.2 ⟨fun y hy => ?_, ih2⟩
      rw [ih1] at hy
      have hy2 : y ∈ m := (cut_sub m p).subset hy
      obtain ⟨j, hj⟩ := List.getElem?_of_mem hy2
      have h1 := hm j y x (List.getElem?_eq_some_iff.1 hj).1 hj hx
      have h2 := hdx y hy
      rw [less_no] at h1
      rw [less_iff]
      unfold D3 at h2
      omega
theorem sorted_ext {α : Type} {R : α → α → Prop} (hR : ∀ x y, R x y → ¬ R y x) : ∀ (l m : List α), l.Pairwise R → m.Pairwise R → (∀ x, x ∈ l ↔ x ∈ m) → l = m
  | [], [], _, _, _ => rfl
  | [], y :: m, _, _, h => by have := (h y).2 (by simp); simp at this
  | x :: l, [], _, _, h => by have := (h x).1 (by simp); simp at this
  | x :: l, y :: m, hl, hm, h => by
    rw [List.pairwise_cons] at hl hm
    have irr : ∀ z, ¬ R z z := fun z hz => hR z z hz hz
    have e : x = y := by
      rcases List.mem_cons.1 ((h x).1 (by simp)) with e | hx
      · exact e
      · rcases List.mem_cons.1 ((h y).2 (by simp)) with e | hy
        · exact e.symm
        · exact absurd (hm.1 x hx) (hR _ _ (hl.1 y hy))
    subst e
    rw [sorted_ext hR l m hl.2 hm.2 fun z => ?_]
    constructor
    · intro hz
      rcases List.mem_cons.1 ((h z).1 (List.mem_cons_of_mem _ hz)) with e | hz2
      · exact absurd (e ▸ hl.1 z hz) (irr _)
      · exact hz2
    · intro hz
      rcases List.mem_cons.1 ((h z).2 (List.mem_cons_of_mem _ hz)) with e | hz2
      · exact absurd (e ▸ hm.1 z hz) (irr _)
      · exact hz2
/-- all in order. -/
theorem Rl.sorted {l : List It3} {S : List (Nat × Value)} (h : Rl l S) {a : Nat} {n : Int} (hp : PfOk (a, n)) : refSorted l a n = (goB S (a, n)).map itOf := by
  obtain ⟨s1, s2⟩ := sel_spec _ (filtI l a n) rfl (h.ap.sublist (List.filter_sublist ..))
  have hfm : ∀ x, x ∈ filtI l a n ↔ x ∈ l ∧ coversB (a : Int) n (x.1 : Int) x.2.1 = true := fun x => by unfold filtI; rw [List.mem_filter]
  have hin := goP_in (S := S) 32 0 0 rfl (by decide)
  have hso := goP_sorted (S := S) 32 0 0 rfl (by decide)
  have fi := goB_filter S hp
  refine sorted_ext (R := fun x y => lessI x y = true) (fun x y h1 h2 => ?_) _ _ ?_ ?_ (fun x => ?_)
  · rw [less_iff] at h1 h2; omega
  · exact s2
  · rw [← fi, List.pairwise_map]
    refine (hso.sublist (List.filter_sublist ..)).imp ?_
    intro x y hxy
    rw [less_iff]
    unfold itLt at hxy
    unfold itOf
    simp only
    omega
  · unfold refSorted
    rw [s1, hfm, ← fi, List.mem_map]
    constructor
    · rintro ⟨hx, hc⟩
      obtain ⟨o1, o2⟩ := h.ok x hx
      obtain ⟨B, m, v⟩ := x
      simp only at o1 o2 hc
      obtain ⟨j, rfl⟩ := Int.eq_ofNat_of_zero_le (rightB_range o2).1
      have hm := right_mod.1 o2
      have hg : getL S (keyN B j) = some (.int .i64 v) := getL_of_mem h.apart (by rw [h.map]; exact List.mem_map.2 ⟨_, hx, rfl⟩)
      exact ⟨((B, j), .int .i64 v), List.mem_filter.2 ⟨goP_mem hm.1 hm.2 hg 32 0 0 rfl (by decide) (Nat.zero_le _) (Nat.zero_le _) (by simpa using o1), hc⟩, rfl⟩
    · rintro ⟨y, hy, rfl⟩
      obtain ⟨hy1, hy2⟩ := List.mem_filter.1 hy
      have ix := hin y hy1
      obtain ⟨⟨B, j⟩, v⟩ := y
      have hB : B < 4294967296 := by have := ix.hi; simpa using this
      have hr : rightB (B : Int) (j : Int) = true := right_mod.2 ⟨ix.form, ix.le32⟩
      have hmem := getL_mem ix.at_
      rw [h.map] at hmem
      obtain ⟨x, hx, hxe⟩ := List.mem_map.1 hmem
      obtain ⟨o1, o2⟩ := h.ok x hx
      obtain ⟨xa, xn, xv⟩ := x
      have hk := congrArg Prod.fst hxe
      have hv := congrArg Prod.snd hxe
      unfold enc3 at hk hv
      simp only at hk hv o1 o2
      obtain ⟨rfl, rfl⟩ := net_key (a := xa) (n := xn) (b := B) (m := (j : Int)) o1 hB o2 hr hk
      subst hv
      exact ⟨hx, hy2⟩
end Go.Proofs.Ytnklhfdhaclfiaa
