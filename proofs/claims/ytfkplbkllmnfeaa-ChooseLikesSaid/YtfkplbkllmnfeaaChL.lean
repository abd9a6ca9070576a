/-
  CHOOSE: plain laws: which one is the best, by definition.
-/
import Derived.Test.YtfkplbkllmnfeaaChB
namespace Go.Proofs.Ytfkplbkllmnfeaa
open Go.RowKit

theorem cmpI_zero {a b : Int} : cmpI a b = 0 ↔ a = b := by unfold cmpI; split <;> (try split) <;> omega
theorem cmpI_neg {a b : Int} : cmpI a b < 0 ↔ a < b := by unfold cmpI; split <;> (try split) <;> omega
theorem or3_neg {x y z : Int} : or3 x y z < 0 ↔ x < 0 ∨ (x = 0 ∧ (y < 0 ∨ (y = 0 ∧ z < 0))) := by unfold or3; split <;> (try split) <;> omega
theorem or3_zero {x y z : Int} : or3 x y z = 0 ↔ x = 0 ∧ y = 0 ∧ z = 0 := by unfold or3; split <;> (try split) <;> omega
/-- ahead, by what comes before the Med. -/
def AhP (q r : Rk) : Prop := r.loc < q.loc ∨ (q.loc = r.loc ∧ (q.hops < r.hops ∨ (q.hops = r.hops ∧ q.origin < r.origin)))
def EqP (q r : Rk) : Prop := q.loc = r.loc ∧ q.hops = r.hops ∧ q.origin = r.origin
def BhP (q r : Rk) : Prop := q.id < r.id ∨ (q.id = r.id ∧ (q.peer < r.peer ∨ (q.peer = r.peer ∧ q.place < r.place)))
theorem ahead_neg {q r : Rk} : aheadI q r < 0 ↔ AhP q r := by
  unfold aheadI AhP
  rw [or3_neg, cmpI_neg, cmpI_zero, cmpI_neg, cmpI_zero, cmpI_neg]
  constructor <;> rintro (h | ⟨h1, h | ⟨h2, h3⟩⟩) <;> omega
theorem ahead_zero {q r : Rk} : aheadI q r = 0 ↔ EqP q r := by
  unfold aheadI EqP
  rw [or3_zero, cmpI_zero, cmpI_zero, cmpI_zero]
  constructor <;> rintro ⟨h1, h2, h3⟩ <;> exact ⟨h1.symm, h2, h3⟩
theorem behind_neg {q r : Rk} : behindI q r < 0 ↔ BhP q r := by
  unfold behindI BhP
  rw [or3_neg, cmpI_neg, cmpI_zero, cmpI_neg, cmpI_zero, cmpI_neg]
  constructor <;> rintro (h | ⟨h1, h | ⟨h2, h3⟩⟩) <;> omega
theorem minBy_spec (f : Rk → Rk → Int) (irr : ∀ x, ¬ f x x < 0) (tr : ∀ x y z, f x y < 0 → f y z < 0 → f x z < 0) : ∀ (l : List Rk) (r : Rk), minBy f r l ∈ r :: l ∧ ∀ x ∈ r :: l, ¬ f x (minBy f r l) < 0
  | [], r => ⟨List.mem_cons_self .., fun x hx => by rw [List.mem_singleton.1 hx]; exact irr r⟩
  | y :: l, r => by
    have e : minBy f r (y :: l) = minBy f (if f y r < 0 then y else r) l := rfl
    rw [e]
    by_cases h : f y r < 0
    · rw [if_pos h]
      obtain ⟨h1, h2⟩ := minBy_spec f irr tr l y
      refine ⟨List.mem_cons_of_mem _ h1, fun x hx => ?_⟩
      rcases List.mem_cons.1 hx with rfl | hx
      · intro hlt
        exact h2 y (List.mem_cons_self ..) (tr _ _ _ h hlt)
      · exact h2 x hx
    · rw [if_neg h]
      obtain ⟨h1, h2⟩ := minBy_spec f irr tr l r
      refine ⟨?_, fun x hx => ?_⟩
      · rcases List.mem_cons.1 h1 with h3 | h3
        · rw [h3]; exact List.mem_cons_self ..
        · exact List.mem_cons_of_mem _ (List.mem_cons_of_mem _ h3)
      · rcases List.mem_cons.1 hx with rfl | hx
        · exact h2 _ (List.mem_cons_self ..)
        · rcases List.mem_cons.1 hx with rfl | hx
          · -- what is not less than the first is not less than the least
            intro hlt
            rcases List.mem_cons.1 h1 with h3 | h3
            · rw [h3] at hlt; exact h hlt
            · have h4 := h2 r (List.mem_cons_self ..)
              exact minBy_gap f irr tr l r x h hlt
          · exact h2 x (List.mem_cons_of_mem _ hx)
where
  minBy_gap (f : Rk → Rk → Int) (irr : ∀ x, ¬ f x x < 0) (tr : ∀ x y z, f x y < 0 → f y z < 0 → f x z < 0) (l : List Rk) (r x : Rk) (h : ¬ f x r < 0) : f x (minBy f r l) < 0 → False := by
    induction l generalizing r with
    | nil => exact h
    | cons y l ih =>
      have e : minBy f r (y :: l) = minBy f (if f y r < 0 then y else r) l := rfl
      rw [e]
      by_cases hy : f y r < 0
      · rw [if_pos hy]
        exact ih y (fun hxy => h (tr _ _ _ hxy hy))
      · rw [if_neg hy]; exact ih r h
theorem ah_irr (x : Rk) : ¬ aheadI x x < 0 := by rw [ahead_neg]; unfold AhP; omega
theorem ah_tr (x y z : Rk) : aheadI x y < 0 → aheadI y z < 0 → aheadI x z < 0 := by simp only [ahead_neg]; unfold AhP; omega
theorem bh_irr (x : Rk) : ¬ behindI x x < 0 := by rw [behind_neg]; unfold BhP; omega
theorem bh_tr (x y z : Rk) : behindI x y < 0 → behindI y z < 0 → behindI x z < 0 := by simp only [behind_neg]; unfold BhP; omega
theorem least_spec (T : Rk) (l : List Rk) : ∀ k, k ≤ l.length →
    (∀ r ∈ l.take k, EqP r T → ∃ m, getL (leastL T (l.take k)) r.first = some m ∧ m ≤ r.med) ∧
    (∀ f m, getL (leastL T (l.take k)) f = some m → ∃ r ∈ l.take k, EqP r T ∧ r.first = f ∧ r.med = m)
  | 0, _ => ⟨fun r hr => by simp at hr, fun f m h => by simp [leastL, getL] at h⟩
  | k + 1, hk => by
    obtain ⟨i1, i2⟩ := least_spec T l k (by omega)
    obtain ⟨r, hr⟩ : ∃ r, l[k]? = some r := ⟨_, List.getElem?_eq_getElem hk⟩
    obtain ⟨g1, g2⟩ := List.getElem?_eq_some_iff.1 hr
    have ht : l.take (k + 1) = l.take k ++ [r] := by rw [List.take_succ_eq_append_getElem g1, g2]
    have hst := leastL_step T hr
    have hmem : ∀ x, x ∈ l.take (k + 1) ↔ x ∈ l.take k ∨ x = r := fun x => by rw [ht]; simp
    generalize leastL T (l.take k) = L at *
    generalize leastL T (l.take (k + 1)) = L' at *
    subst hst
    unfold leastP
    by_cases h0 : aheadI r T = 0
    · rw [if_pos h0]
      have hE := ahead_zero.1 h0
      cases hg : getL L r.first with
      | none =>
        simp only
        refine ⟨fun x hx hxE => ?_, fun f m hm => ?_⟩
        · rw [getL_put]
          by_cases hf : x.first = r.first
          · rw [if_pos hf]
            rcases (hmem x).1 hx with hx | rfl
            · obtain ⟨m, hm, _⟩ := i1 x hx hxE
              rw [hf, hg] at hm; cases hm
            · exact ⟨_, rfl, Int.le_refl _⟩
          · rw [if_neg hf]
            rcases (hmem x).1 hx with hx | rfl
            · exact i1 x hx hxE
            · exact absurd rfl hf
        · rw [getL_put] at hm
          by_cases hf : f = r.first
          · rw [if_pos hf] at hm
            exact ⟨r, (hmem r).2 (.inr rfl), hE, hf.symm, Option.some.inj hm⟩
          · rw [if_neg hf] at hm
            obtain ⟨x, hx, h⟩ := i2 f m hm
            exact ⟨x, (hmem x).2 (.inl hx), h⟩
      | some m0 =>
        simp only
        by_cases hlt : r.med < m0
        · rw [if_pos hlt]
          refine ⟨fun x hx hxE => ?_, fun f m hm => ?_⟩
          · rw [getL_put]
            by_cases hf : x.first = r.first
            · rw [if_pos hf]
              refine ⟨_, rfl, ?_⟩
              rcases (hmem x).1 hx with hx | rfl
              · obtain ⟨m, hm, hle⟩ := i1 x hx hxE
                rw [hf, hg] at hm; cases hm; omega
              · exact Int.le_refl _
            · rw [if_neg hf]
              rcases (hmem x).1 hx with hx | rfl
              · exact i1 x hx hxE
              · exact absurd rfl hf
          · rw [getL_put] at hm
            by_cases hf : f = r.first
            · rw [if_pos hf] at hm
              exact ⟨r, (hmem r).2 (.inr rfl), hE, hf.symm, Option.some.inj hm⟩
            · rw [if_neg hf] at hm
              obtain ⟨x, hx, h⟩ := i2 f m hm
              exact ⟨x, (hmem x).2 (.inl hx), h⟩
        · rw [if_neg hlt]
          refine ⟨fun x hx hxE => ?_, fun f m hm => ?_⟩
          · rcases (hmem x).1 hx with hx | rfl
            · exact i1 x hx hxE
            · exact ⟨m0, hg, by omega⟩
          · obtain ⟨x, hx, h⟩ := i2 f m hm
            exact ⟨x, (hmem x).2 (.inl hx), h⟩
    · rw [if_neg h0]
      refine ⟨fun x hx hxE => ?_, fun f m hm => ?_⟩
      · rcases (hmem x).1 hx with hx | rfl
        · exact i1 x hx hxE
        · exact absurd (ahead_zero.2 hxE) h0
      · obtain ⟨x, hx, h⟩ := i2 f m hm
        exact ⟨x, (hmem x).2 (.inl hx), h⟩
/-- what is left when the Med has been looked at. -/
def InLeft (l : List Rk) (r : Rk) : Prop := (∀ q ∈ l, ¬ AhP q r) ∧ ∀ q ∈ l, EqP q r → q.first = r.first → r.med ≤ q.med
structure IsBest (l : List Rk) (r : Rk) : Prop where
  mem : r ∈ l
  left : InLeft l r
  last : ∀ q ∈ l, InLeft l q → ¬ BhP q r
theorem eq_ah {q r s : Rk} (h : EqP r s) : AhP q r ↔ AhP q s := by
  obtain ⟨h1, h2, h3⟩ := h; unfold AhP; rw [h1, h2, h3]
theorem top_eq {l : List Rk} {T q : Rk} (hT : T ∈ l) (h : ∀ x ∈ l, ¬ AhP x T) (hq : q ∈ l) (h2 : ∀ x ∈ l, ¬ AhP x q) : EqP q T := by
  have a := h q hq
  have b := h2 T hT
  unfold AhP at a b
  unfold EqP
  omega
theorem left_iff {l : List Rk} {T : Rk} (hT : T ∈ l) (h : ∀ x ∈ l, ¬ AhP x T) (r : Rk) (hr : r ∈ l) : leftB T (leastL T l) r = true ↔ InLeft l r := by
  obtain ⟨s1, s2⟩ := least_spec T l l.length (Nat.le_refl _)
  rw [List.take_length] at s1 s2
  unfold leftB
  rw [Bool.and_eq_true, decide_eq_true_eq, ahead_zero, beq_iff_eq]
  constructor
  · rintro ⟨hE, hm⟩
    refine ⟨fun q hq => by rw [eq_ah hE]; exact h q hq, fun q hq hqE hf => ?_⟩
    have hqT : EqP q T := ⟨hqE.1.trans hE.1, hqE.2.1.trans hE.2.1, hqE.2.2.trans hE.2.2⟩
    obtain ⟨m, g1, g2⟩ := s1 q hq hqT
    rw [hf] at g1
    rw [hm, g1]
    exact g2
  · rintro ⟨h1, h2⟩
    have hE := top_eq hT h hr h1
    refine ⟨hE, ?_⟩
    obtain ⟨m, g1, g2⟩ := s1 r hr hE
    obtain ⟨q, hq, qE, qf, qm⟩ := s2 _ _ g1
    have := h2 q hq ⟨qE.1.trans hE.1.symm, qE.2.1.trans hE.2.1.symm, qE.2.2.trans hE.2.2.symm⟩ qf
    rw [g1]
    show r.med = m
    omega
theorem top_spec (r0 : Rk) (rs : List Rk) : minBy aheadI r0 rs ∈ r0 :: rs ∧ ∀ x ∈ r0 :: rs, ¬ AhP x (minBy aheadI r0 rs) := by
  obtain ⟨h1, h2⟩ := minBy_spec aheadI ah_irr ah_tr rs r0
  exact ⟨h1, fun x hx => by rw [← ahead_neg]; exact h2 x hx⟩
theorem left_ne (r0 : Rk) (rs : List Rk) : leftL (minBy aheadI r0 rs) (leastL (minBy aheadI r0 rs) (r0 :: rs)) (r0 :: rs) ≠ [] := by
  obtain ⟨h1, h2⟩ := top_spec r0 rs
  obtain ⟨s1, s2⟩ := least_spec (minBy aheadI r0 rs) (r0 :: rs) (r0 :: rs).length (Nat.le_refl _)
  rw [List.take_length] at s1 s2
  obtain ⟨m, g1, g2⟩ := s1 _ h1 ⟨rfl, rfl, rfl⟩
  obtain ⟨q, hq, qE, qf, qm⟩ := s2 _ _ g1
  intro he
  have hin : q ∈ leftL (minBy aheadI r0 rs) (leastL (minBy aheadI r0 rs) (r0 :: rs)) (r0 :: rs) := by
    unfold leftL
    rw [List.mem_filter]
    refine ⟨hq, ?_⟩
    unfold leftB
    rw [Bool.and_eq_true, decide_eq_true_eq, ahead_zero, beq_iff_eq]
    refine ⟨qE, ?_⟩
    rw [qf, g1]; exact qm
  rw [he] at hin
  simp at hin
theorem best_spec (r0 : Rk) (rs : List Rk) : IsBest (r0 :: rs) (bestR r0 rs) := by
  obtain ⟨h1, h2⟩ := top_spec r0 rs
  have hne := left_ne r0 rs
  have hin : ∀ q, q ∈ leftL (minBy aheadI r0 rs) (leastL (minBy aheadI r0 rs) (r0 :: rs)) (r0 :: rs) ↔ q ∈ r0 :: rs ∧ InLeft (r0 :: rs) q := fun q => by
    unfold leftL
    rw [List.mem_filter]
    constructor
    · rintro ⟨a, b⟩; exact ⟨a, (left_iff h1 h2 q a).1 b⟩
    · rintro ⟨a, b⟩; exact ⟨a, (left_iff h1 h2 q a).2 b⟩
  unfold bestR
  cases hL : leftL (minBy aheadI r0 rs) (leastL (minBy aheadI r0 rs) (r0 :: rs)) (r0 :: rs) with
  | nil => exact absurd hL hne
  | cons x xs =>
    rw [hL] at hin
    simp only
    obtain ⟨b1, b2⟩ := minBy_spec behindI bh_irr bh_tr xs x
    obtain ⟨c1, c2⟩ := (hin _).1 b1
    exact ⟨c1, c2, fun q hq hl => by rw [← behind_neg]; exact b2 q ((hin q).2 ⟨hq, hl⟩)⟩
theorem best_one {l : List Rk} {r s : Rk} (hr : IsBest l r) (hs : IsBest l s) (hp : ∀ q ∈ l, ∀ q' ∈ l, q.place = q'.place → q = q') : r = s := by
  have a := hr.last s hs.mem hs.left
  have b := hs.last r hr.mem hr.left
  refine hp r hr.mem s hs.mem ?_
  unfold BhP at a b
  omega
end Go.Proofs.Ytfkplbkllmnfeaa
