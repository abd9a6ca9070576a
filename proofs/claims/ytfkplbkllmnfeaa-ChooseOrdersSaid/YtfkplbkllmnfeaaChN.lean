/-
  CHOOSE: plain law of Order: of those not gone yet the best one.
-/
import Derived.Test.YtfkplbkllmnfeaaChQ
namespace Go.Proofs.Ytfkplbkllmnfeaa
open Go.RowKit

/-- the indices not gone. -/
def idxs (n : Nat) (gone : List Int) : List Nat := (List.range n).filter fun i => !gone.contains (i : Int)
theorem idxs_sorted (n : Nat) (gone : List Int) : (idxs n gone).Pairwise (· < ·) := List.pairwise_lt_range.filter _
theorem idxs_lt {n : Nat} {gone : List Int} {i : Nat} (h : i ∈ idxs n gone) : i < n := List.mem_range.1 (List.mem_filter.1 h).1
abbrev cdZ0 : Cd := ⟨0, 0, 0, ⟨0, 0, [], 0, 0, 0, 0, 0, [], []⟩, 0⟩
def restOf (xs : List Cd) (gone : List Int) : List Cd := (idxs xs.length gone).map fun i => xs.getD i cdZ0
theorem rest_get {xs : List Cd} {gone : List Int} {p i : Nat} (h : (idxs xs.length gone)[p]? = some i) : ∃ c, xs[i]? = some c ∧ (restOf xs gone)[p]? = some c := by
  have hl := idxs_lt (List.mem_of_getElem? h)
  refine ⟨xs[i], List.getElem?_eq_getElem hl, ?_⟩
  unfold restOf
  rw [List.getElem?_map, h]
  simp [List.getD_eq_getElem?_getD, hl]
theorem mem_left {xs : List Cd} {gone : List Int} {r : Rk} : r ∈ leftOf (rksOf xs) gone ↔ ∃ (i : Nat) (c : Cd), xs[i]? = some c ∧ r = rkOf i c ∧ i ∈ idxs xs.length gone := by
  unfold leftOf
  rw [List.mem_filter, rksOf_mem]
  constructor
  · rintro ⟨⟨i, c, h, rfl⟩, hg⟩
    exact ⟨i, c, h, rfl, List.mem_filter.2 ⟨List.mem_range.2 (List.getElem?_eq_some_iff.1 h).1, hg⟩⟩
  · rintro ⟨i, c, h, rfl, hm⟩
    exact ⟨⟨i, c, h, rfl⟩, (List.mem_filter.1 hm).2⟩
theorem rest_best {xs : List Cd} {gone : List Int} {r : Rk} (h : IsBest (leftOf (rksOf xs) gone) r) : ∃ p : Nat, bestI (restOf xs gone) = p ∧ ∃ i : Nat, (idxs xs.length gone)[p]? = some i ∧ r.place = i := by
  obtain ⟨i, c, hi, rfl, hm⟩ := mem_left.1 h.mem
  obtain ⟨p, hp⟩ := List.getElem?_of_mem hm
  obtain ⟨c', hc', hr⟩ := rest_get hp
  rw [hi] at hc'
  cases hc'
  have up : ∀ q ∈ rksOf (restOf xs gone), ∃ (k : Nat) (j : Nat) (d : Cd), q = rkOf k d ∧ (idxs xs.length gone)[k]? = some j ∧ xs[j]? = some d ∧ rkOf j d ∈ leftOf (rksOf xs) gone := by
    intro q hq
    obtain ⟨k, d, hk, rfl⟩ := rksOf_mem.1 hq
    have hkl : k < (idxs xs.length gone).length := by
      have := (List.getElem?_eq_some_iff.1 hk).1
      unfold restOf at this; simpa using this
    obtain ⟨d', h1, h2⟩ := rest_get (List.getElem?_eq_getElem hkl)
    rw [hk] at h2
    cases h2
    exact ⟨k, _, d, rfl, List.getElem?_eq_getElem hkl, h1, mem_left.2 ⟨_, d, h1, rfl, List.getElem_mem hkl⟩⟩
  have dn : ∀ q ∈ leftOf (rksOf xs) gone, ∃ (k : Nat) (j : Nat) (d : Cd), q = rkOf j d ∧ rkOf k d ∈ rksOf (restOf xs gone) := by
    intro q hq
    obtain ⟨j, d, hj, rfl, hm⟩ := mem_left.1 hq
    obtain ⟨k, hk⟩ := List.getElem?_of_mem hm
    obtain ⟨d', h1, h2⟩ := rest_get hk
    rw [hj] at h1
    cases h1
    exact ⟨k, j, d, rfl, rksOf_mem.2 ⟨k, d, h2, rfl⟩⟩
  have inl : ∀ (k j : Nat) (d : Cd), InLeft (rksOf (restOf xs gone)) (rkOf k d) → InLeft (leftOf (rksOf xs) gone) (rkOf j d) := by
    rintro k j d ⟨a, b⟩
    refine ⟨fun q hq hA => ?_, fun q hq hE hf => ?_⟩
    · obtain ⟨k', j', d', rfl, hm⟩ := dn q hq
      exact a _ hm hA
    · obtain ⟨k', j', d', rfl, hm⟩ := dn q hq
      exact b (rkOf k' d') hm hE hf
  have inr : ∀ (k j : Nat) (d : Cd), InLeft (leftOf (rksOf xs) gone) (rkOf j d) → InLeft (rksOf (restOf xs gone)) (rkOf k d) := by
    rintro k j d ⟨a, b⟩
    refine ⟨fun q hq hA => ?_, fun q hq hE hf => ?_⟩
    · obtain ⟨k', j', d', rfl, _, _, hm⟩ := up q hq
      exact a _ hm hA
    · obtain ⟨k', j', d', rfl, _, _, hm⟩ := up q hq
      exact b (rkOf j' d') hm hE hf
  refine ⟨p, bestI_of hr ⟨rksOf_mem.2 ⟨p, c, hr, rfl⟩, inr p i c h.left, fun q hq hl hB => ?_⟩, i, hp, rfl⟩
  obtain ⟨k, j, d, rfl, hk, hj, hm⟩ := up q hq
  have h1 := h.last _ hm (inl k j d hl)
  have hmono : k < p → j < i := fun hkp => by
    obtain ⟨a1, a2⟩ := List.getElem?_eq_some_iff.1 hk
    obtain ⟨b1, b2⟩ := List.getElem?_eq_some_iff.1 hp
    have := (List.pairwise_iff_getElem.1 (idxs_sorted xs.length gone)) k p a1 b1 hkp
    rw [a2, b2] at this
    exact this
  unfold BhP rkOf at h1 hB
  simp only at h1 hB
  omega
end Go.Proofs.Ytfkplbkllmnfeaa
