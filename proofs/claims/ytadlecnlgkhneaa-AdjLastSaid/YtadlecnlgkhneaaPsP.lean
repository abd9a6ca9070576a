/-
  SETS OF PREFIXES, the plain side: the strict order of prefixes; rows in strict order; neighbours that are one struck out.
-/
import Derived.Test.YtadlecnlgkhneaaIpWalk
namespace Go.Proofs.Ytadlecnlgkhneaa
open Go.RowKit

abbrev Pf := Int × Int
def pcmp (p q : Pf) : Int := prefCmp p.1 p.2 q.1 q.2
def plt (p q : Pf) : Prop := p.1 < q.1 ∨ (p.1 = q.1 ∧ p.2 < q.2)
instance (p q : Pf) : Decidable (plt p q) := by unfold plt; infer_instance
theorem pcmp_val (p q : Pf) : pcmp p q = if plt p q then -1 else if plt q p then 1 else 0 := by
  unfold pcmp prefCmp orI cmpI plt
  repeat' split
  all_goals first | rfl | omega
theorem pcmp_lt {p q : Pf} : pcmp p q < 0 ↔ plt p q := by
  rw [pcmp_val]
  split
  · rename_i h
    simp [h]
  · rename_i h
    split <;> simp [h]
theorem plt_irrefl (p : Pf) : ¬ plt p p := by unfold plt; omega
theorem plt_trans {p q r : Pf} (h : plt p q) (k : plt q r) : plt p r := by unfold plt at *; omega
theorem plt_asymm {p q : Pf} (h : plt p q) : ¬ plt q p := fun k => plt_irrefl p (plt_trans h k)
theorem plt_total {p q : Pf} (h : ¬ plt p q) (k : ¬ plt q p) : p = q := by
  unfold plt at *
  obtain ⟨a, b⟩ := p
  obtain ⟨c, d⟩ := q
  simp only [Prod.mk.injEq] at *
  omega
theorem pcmp_eq {p q : Pf} : pcmp p q = 0 ↔ p = q := by
  rw [pcmp_val]
  split
  · rename_i h
    exact ⟨fun k => absurd k (by decide), fun k => by subst k; exact absurd h (plt_irrefl p)⟩
  · rename_i h
    split
    · rename_i h2
      exact ⟨fun k => absurd k (by decide), fun k => by subst k; exact absurd h2 (plt_irrefl p)⟩
    · rename_i h2
      exact ⟨fun _ => plt_total h h2, fun _ => rfl⟩
theorem pcmp_gt {p q : Pf} : 0 < pcmp p q ↔ plt q p := by
  rw [pcmp_val]
  split
  · rename_i h
    exact ⟨fun k => absurd k (by decide), fun k => absurd k (plt_asymm h)⟩
  · split
    · rename_i h
      exact ⟨fun _ => h, fun _ => by decide⟩
    · rename_i h
      exact ⟨fun k => absurd k (by decide), fun k => absurd k h⟩
theorem pcmp_swap (p q : Pf) : pcmp p q = -pcmp q p := by
  rw [pcmp_val, pcmp_val q p]
  by_cases h : plt p q
  · rw [if_pos h, if_neg (plt_asymm h), if_pos h]; first | done | rfl
  · rw [if_neg h]
    by_cases k : plt q p
    · rw [if_pos k, if_pos k]; first | done | rfl
    · rw [if_neg k, if_neg k, if_neg h]; first | done | rfl
/-- strictly in order. -/
abbrev Srt (l : List Pf) : Prop := l.Pairwise plt
theorem srt_ext : ∀ {l m : List Pf}, Srt l → Srt m → (∀ p, p ∈ l ↔ p ∈ m) → l = m
  | [], [], _, _, _ => rfl
  | [], q :: m, _, _, h => by have := (h q).2 (List.mem_cons_self ..); simp at this
  | p :: l, [], _, _, h => by have := (h p).1 (List.mem_cons_self ..); simp at this
  | p :: l, q :: m, hl, hm, h => by
    rw [Srt, List.pairwise_cons] at hl hm
    have e : p = q := by
      have h1 := (h p).1 (List.mem_cons_self ..)
      have h2 := (h q).2 (List.mem_cons_self ..)
      rcases List.mem_cons.1 h1 with h1 | h1
      · exact h1
      · rcases List.mem_cons.1 h2 with h2 | h2
        · exact h2.symm
        · exact absurd (hl.1 q h2) (plt_asymm (hm.1 p h1))
    subst e
    have := srt_ext hl.2 hm.2 fun x => by
      have hx := h x
      rw [List.mem_cons, List.mem_cons] at hx
      constructor
      · intro k
        rcases hx.1 (.inr k) with e | e
        · subst e; exact absurd (hl.1 _ k) (plt_irrefl _)
        · exact e
      · intro k
        rcases hx.2 (.inr k) with e | e
        · subst e; exact absurd (hm.1 _ k) (plt_irrefl _)
        · exact e
    rw [this]
theorem srt_nodup {l : List Pf} (h : Srt l) : l.Nodup := h.imp fun k e => by subst e; exact plt_irrefl _ k
theorem srt_lt {l : List Pf} (h : Srt l) {i j : Nat} {p q : Pf} (hi : l[i]? = some p) (hj : l[j]? = some q) (hij : i < j) : plt p q := by
  obtain ⟨h1, rfl⟩ := List.getElem?_eq_some_iff.1 hi
  obtain ⟨h2, rfl⟩ := List.getElem?_eq_some_iff.1 hj
  exact List.pairwise_iff_getElem.1 h i j h1 h2 hij
/-! ### neighbours that are one -/
def cstep (acc : List Pf) (x : Pf) : List Pf := if acc.getLast? = some x then acc else acc ++ [x]
def comp (l : List Pf) : List Pf := l.foldl cstep []
theorem comp_snoc (l : List Pf) (x : Pf) : comp (l ++ [x]) = cstep (comp l) x := by unfold comp; rw [List.foldl_append]; rfl
theorem cstep_last (acc : List Pf) (x : Pf) : (cstep acc x).getLast? = some x := by
  unfold cstep
  split
  · assumption
  · simp
theorem comp_last_from : ∀ (l acc : List Pf), (l.foldl cstep acc).getLast? = l.getLast?.or acc.getLast?
  | [], acc => by simp
  | x :: l, acc => by
    rw [List.foldl_cons, comp_last_from l, cstep_last, List.getLast?_cons]
    cases l.getLast? <;> simp
theorem comp_last (l : List Pf) : (comp l).getLast? = l.getLast? := by
  unfold comp
  rw [comp_last_from]; simp
theorem comp_next {l : List Pf} {k : Nat} {x y : Pf} (hx : l[k]? = some x) (hy : l[k + 1]? = some y) : comp (l.take (k + 2)) = if x = y then comp (l.take (k + 1)) else comp (l.take (k + 1)) ++ [y] := by
  have h1 : l.take (k + 2) = l.take (k + 1) ++ [y] := by rw [List.take_add_one, hy]; rfl
  have h2 : (l.take (k + 1)).getLast? = some x := by rw [List.take_add_one, hx]; simp
  rw [h1, comp_snoc]
  unfold cstep
  rw [comp_last, h2]
  simp only [Option.some.injEq]
theorem comp_one {l : List Pf} {x : Pf} (hx : l[0]? = some x) : comp (l.take 1) = [x] := by
  rw [List.take_add_one, hx]; rfl
theorem comp_len_from : ∀ (l acc : List Pf), acc.length ≤ (l.foldl cstep acc).length ∧ (l.foldl cstep acc).length ≤ acc.length + l.length
  | [], acc => by simp
  | x :: l, acc => by
    have h := comp_len_from l (cstep acc x)
    have h2 : acc.length ≤ (cstep acc x).length ∧ (cstep acc x).length ≤ acc.length + 1 := by unfold cstep; split <;> simp
    rw [List.foldl_cons, List.length_cons]; omega
theorem comp_len (l : List Pf) : (comp l).length ≤ l.length := by have := (comp_len_from l []).2; unfold comp; simpa using this
/-- so far no two neighbours are one: nothing was struck. -/
theorem comp_whole {l : List Pf} (k : Nat) (h : ∀ (i : Nat) (x y : Pf), i + 1 < k → l[i]? = some x → l[i + 1]? = some y → x ≠ y) (hk : k ≤ l.length) : comp (l.take k) = l.take k := by
  induction k with
  | zero => rfl
  | succ k ih =>
    cases k with
    | zero =>
      obtain ⟨x, hx⟩ : ∃ x, l[0]? = some x := ⟨_, List.getElem?_eq_getElem (by omega)⟩
      rw [comp_one hx, List.take_add_one, hx]; rfl
    | succ k =>
      obtain ⟨x, hx⟩ : ∃ x, l[k]? = some x := ⟨_, List.getElem?_eq_getElem (by omega)⟩
      obtain ⟨y, hy⟩ : ∃ y, l[k + 1]? = some y := ⟨_, List.getElem?_eq_getElem (by omega)⟩
      rw [comp_next hx hy, if_neg (h k x y (by omega) hx hy), ih (fun i x y hi => h i x y (by omega)) (by omega), List.take_add_one (i := k + 1), hy]; rfl
theorem comp_sub_from : ∀ (l acc : List Pf) (p : Pf), p ∈ l.foldl cstep acc → p ∈ acc ∨ p ∈ l
  | [], acc, p, h => .inl h
  | x :: l, acc, p, h => by
    rcases comp_sub_from l (cstep acc x) p h with h | h
    · unfold cstep at h
      split at h
      · exact .inl h
      · rcases List.mem_append.1 h with h | h
        · exact .inl h
        · exact .inr (by rw [List.mem_singleton.1 h]; exact List.mem_cons_self ..)
    · exact .inr (List.mem_cons_of_mem _ h)
theorem comp_sub {l : List Pf} {p : Pf} (h : p ∈ comp l) : p ∈ l := (comp_sub_from l [] p h).resolve_left (by simp)
theorem comp_srt_from : ∀ (l acc : List Pf), Srt acc → (∀ a ∈ acc, ∀ x ∈ l, ¬ plt x a) → l.Pairwise (fun x y => ¬ plt y x) → Srt (l.foldl cstep acc) ∧ ∀ p, p ∈ l.foldl cstep acc ↔ p ∈ acc ∨ p ∈ l
  | [], acc, h, _, _ => ⟨h, fun p => by simp⟩
  | x :: l, acc, h, ha, hl => by
    rw [List.pairwise_cons] at hl
    rw [List.foldl_cons]
    by_cases e : acc.getLast? = some x
    · rw [show cstep acc x = acc by unfold cstep; rw [if_pos e]]
      have ih := comp_srt_from l acc h (fun a h1 y h2 => ha a h1 y (List.mem_cons_of_mem _ h2)) hl.2
      refine ⟨ih.1, fun p => ?_⟩
      rw [ih.2, List.mem_cons]
      constructor
      · rintro (k | k)
        · exact .inl k
        · exact .inr (.inr k)
      · rintro (k | rfl | k)
        · exact .inl k
        · exact .inl (List.mem_of_getLast? e)
        · exact .inr k
    · rw [show cstep acc x = acc ++ [x] by unfold cstep; rw [if_neg e]]
      have hs : Srt (acc ++ [x]) := by
        rw [Srt, List.pairwise_append]
        refine ⟨h, List.pairwise_singleton _ _, fun a h1 y h2 => ?_⟩
        obtain rfl := List.mem_singleton.1 h2
        have h3 := ha a h1 y (List.mem_cons_self ..)
        by_cases h4 : plt a y
        · exact h4
        · exfalso
          obtain rfl := plt_total h4 h3
          obtain ⟨i, hi⟩ := List.mem_iff_getElem?.1 h1
          have hlast : acc[acc.length - 1]? = acc.getLast? := (List.getLast?_eq_getElem? ..).symm
          obtain ⟨hil, -⟩ := List.getElem?_eq_some_iff.1 hi
          obtain ⟨z, hz⟩ : ∃ z, acc[acc.length - 1]? = some z := ⟨_, List.getElem?_eq_getElem (by omega)⟩
          by_cases hi2 : i = acc.length - 1
          · subst hi2
            rw [← hlast, hi] at e
            exact e rfl
          · have h5 := srt_lt h hi hz (by omega)
            exact ha z (List.mem_of_getElem? hz) a (List.mem_cons_self ..) h5
      have ih := comp_srt_from l (acc ++ [x]) hs (fun a h1 y h2 => by
        rcases List.mem_append.1 h1 with h1 | h1
        · exact ha a h1 y (List.mem_cons_of_mem _ h2)
        · obtain rfl := List.mem_singleton.1 h1
          exact hl.1 y h2) hl.2
      refine ⟨ih.1, fun p => ?_⟩
      rw [ih.2, List.mem_append, List.mem_singleton, List.mem_cons, or_assoc]
theorem comp_srt {l : List Pf} (hl : l.Pairwise (fun x y => ¬ plt y x)) : Srt (comp l) ∧ ∀ p, p ∈ comp l ↔ p ∈ l := by
  have h := comp_srt_from l [] List.Pairwise.nil (fun a h => by simp at h) hl
  exact ⟨h.1, fun p => by have := h.2 p; simpa [comp] using this⟩
end Go.Proofs.Ytadlecnlgkhneaa
