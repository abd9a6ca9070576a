/-
  CHOOSE: plain laws: the same candidates in another order have the same best one. And candidates in memory with their values.
-/
import Derived.Test.YtfkplbkllmnfeaaChG
namespace Go.Proofs.Ytfkplbkllmnfeaa
open Go.RowKit

/-- no two are alike in id and peer. -/
def Dist (xs : List Cd) : Prop := ∀ (i k : Nat) (c d : Cd), xs[i]? = some c → xs[k]? = some d → i ≠ k → ¬ (c.id = d.id ∧ c.peer = d.peer)
theorem perm_best {xs ys : List Cd} (hx : Dist xs) (hy : Dist ys) (hm : ∀ c, c ∈ xs ↔ c ∈ ys) {i j : Nat} {c : Cd} (hi : xs[i]? = some c) (hb : bestI xs = i) (hj : ys[j]? = some c) : bestI ys = j := by
  obtain ⟨i', c', hi', e, hB⟩ := bestI_spec (xs := xs) (by rintro rfl; simp at hi)
  rw [hb] at e
  have : i = i' := by omega
  subst this
  rw [hi] at hi'
  cases hi'
  have hleft : ∀ (k : Nat) (d : Cd), ys[k]? = some d → ∀ k' : Nat, xs[k']? = some d → (InLeft (rksOf ys) (rkOf k d) → InLeft (rksOf xs) (rkOf k' d)) ∧ (InLeft (rksOf xs) (rkOf k' d) → InLeft (rksOf ys) (rkOf k d)) := by
    intro k d _ k' _
    constructor
    · rintro ⟨a, b⟩
      refine ⟨fun q hq hA => ?_, fun q hq hE hf => ?_⟩
      · obtain ⟨m, u, hu, rfl⟩ := rksOf_mem.1 hq
        obtain ⟨m', hm'⟩ := List.getElem?_of_mem ((hm u).1 (List.mem_of_getElem? hu))
        exact a (rkOf m' u) (rksOf_mem.2 ⟨m', u, hm', rfl⟩) hA
      · obtain ⟨m, u, hu, rfl⟩ := rksOf_mem.1 hq
        obtain ⟨m', hm'⟩ := List.getElem?_of_mem ((hm u).1 (List.mem_of_getElem? hu))
        exact b (rkOf m' u) (rksOf_mem.2 ⟨m', u, hm', rfl⟩) hE hf
    · rintro ⟨a, b⟩
      refine ⟨fun q hq hA => ?_, fun q hq hE hf => ?_⟩
      · obtain ⟨m, u, hu, rfl⟩ := rksOf_mem.1 hq
        obtain ⟨m', hm'⟩ := List.getElem?_of_mem ((hm u).2 (List.mem_of_getElem? hu))
        exact a (rkOf m' u) (rksOf_mem.2 ⟨m', u, hm', rfl⟩) hA
      · obtain ⟨m, u, hu, rfl⟩ := rksOf_mem.1 hq
        obtain ⟨m', hm'⟩ := List.getElem?_of_mem ((hm u).2 (List.mem_of_getElem? hu))
        exact b (rkOf m' u) (rksOf_mem.2 ⟨m', u, hm', rfl⟩) hE hf
  refine bestI_of hj ⟨rksOf_mem.2 ⟨j, c, hj, rfl⟩, (hleft j c hj i hi).2 hB.left, fun q hq hl hBh => ?_⟩
  obtain ⟨k, d, hk, rfl⟩ := rksOf_mem.1 hq
  obtain ⟨k', hk'⟩ := List.getElem?_of_mem ((hm d).2 (List.mem_of_getElem? hk))
  have h1 := hB.last _ (rksOf_mem.2 ⟨k', d, hk', rfl⟩) ((hleft k d hk k' hk').1 hl)
  unfold BhP rkOf at h1 hBh
  simp only at h1 hBh
  by_cases he : d.id = c.id ∧ d.peer = c.peer
  · by_cases hkj : k = j
    · subst hkj; omega
    · exact hy k j d c hk hj hkj he
  · omega
theorem turn_get (xs : List Cd) {b : Nat} (hb : b < xs.length) {k : Nat} {c : Cd} (h : (xs.drop b ++ xs.take b)[k]? = some c) : k < xs.length ∧ xs[(k + b) % xs.length]? = some c := by
  have hk : k < xs.length := by
    have := (List.getElem?_eq_some_iff.1 h).1
    simp at this; omega
  refine ⟨hk, ?_⟩
  by_cases h1 : k < xs.length - b
  · rw [List.getElem?_append_left (by simpa using h1), List.getElem?_drop] at h
    rw [Nat.mod_eq_of_lt (by omega), Nat.add_comm k b]
    exact h
  · rw [List.getElem?_append_right (by simp; omega), List.length_drop, List.getElem?_take_of_lt (by omega)] at h
    rw [show (k + b) % xs.length = k - (xs.length - b) from by
      rw [show k + b = (k - (xs.length - b)) + xs.length by omega, Nat.add_mod_right, Nat.mod_eq_of_lt (by omega)]]
    exact h
theorem turn_at (xs : List Cd) {b : Nat} (hb : b < xs.length) {i : Nat} {c : Cd} (h : xs[i]? = some c) : (xs.drop b ++ xs.take b)[(i + xs.length - b) % xs.length]? = some c := by
  have hi := (List.getElem?_eq_some_iff.1 h).1
  by_cases h1 : b ≤ i
  · rw [show (i + xs.length - b) % xs.length = i - b from by
      rw [show i + xs.length - b = (i - b) + xs.length by omega, Nat.add_mod_right, Nat.mod_eq_of_lt (by omega)]]
    rw [List.getElem?_append_left (by simp; omega), List.getElem?_drop]
    rw [show b + (i - b) = i by omega]; exact h
  · rw [Nat.mod_eq_of_lt (by omega), List.getElem?_append_right (by simp; omega), List.length_drop, List.getElem?_take_of_lt (by omega)]
    rw [show i + xs.length - b - (xs.length - b) = i by omega]; exact h
theorem turn_dist {xs : List Cd} (hx : Dist xs) {b : Nat} (hb : b < xs.length) : Dist (xs.drop b ++ xs.take b) := by
  intro i k c d hi hk hne
  obtain ⟨a1, a2⟩ := turn_get xs hb hi
  obtain ⟨b1, b2⟩ := turn_get xs hb hk
  refine hx _ _ c d a2 b2 (fun e => hne ?_)
  have h0 : 0 < xs.length := by omega
  have md : ∀ q, q < xs.length → (q + b) % xs.length = if q + b < xs.length then q + b else q + b - xs.length := by
    intro q hq
    split
    · next h => exact Nat.mod_eq_of_lt h
    · next h => rw [Nat.mod_eq_sub_mod (by omega), Nat.mod_eq_of_lt (by omega)]
  rw [md i a1, md k b1] at e
  split at e <;> split at e <;> omega
theorem turn_mem (xs : List Cd) (b : Nat) (c : Cd) : c ∈ xs ↔ c ∈ xs.drop b ++ xs.take b := by
  conv => lhs; rw [← List.take_append_drop b xs]
  simp only [List.mem_append]
  exact or_comm
theorem rev_dist {xs : List Cd} (hx : Dist xs) : Dist xs.reverse := by
  intro i k c d hi hk hne
  have li := (List.getElem?_eq_some_iff.1 hi).1
  have lk := (List.getElem?_eq_some_iff.1 hk).1
  rw [List.length_reverse] at li lk
  rw [List.getElem?_reverse li] at hi
  rw [List.getElem?_reverse lk] at hk
  exact hx _ _ c d hi hk (by omega)
theorem rev_at {xs : List Cd} {i : Nat} {c : Cd} (h : xs[i]? = some c) : xs.reverse[xs.length - 1 - i]? = some c := by
  have hi := (List.getElem?_eq_some_iff.1 h).1
  rw [List.getElem?_reverse (by omega), show xs.length - 1 - (xs.length - 1 - i) = i by omega]
  exact h
/-- candidates that lie in memory, with their values. -/
theorem cds_ces {w : World} {v : Value} {xs : List Cd} (h : CdsAt w v xs) : ∃ L : List Ce, L.map Ce.c = xs ∧ (∀ x ∈ L, x.Ok w) ∧ SlAt w 14 (fun x cs => cs = ceL x) v L := by
  obtain ⟨sa, cap, h1, h2, h3, h4⟩ := h
  by_cases h0 : 0 < xs.length
  · obtain ⟨b, off, h5, h6⟩ := h4 h0
    have hone : ∀ i : Fin xs.length, ∃ x : Ce, x.c = xs[i] ∧ x.Ok w ∧ ∀ j u, (ceL x)[j]? = some u → w.cell? ⟨b, off + i.val * 14 + j, none⟩ = some u := by
      intro i
      obtain ⟨cs, _, ⟨vp, vc, vo, rfl, hr, hA⟩, hc⟩ := h6 i.val xs[i] (List.getElem?_eq_getElem i.isLt)
      exact ⟨⟨xs[i], vp, vc, vo⟩, rfl, ⟨hr, hA⟩, hc⟩
    obtain ⟨g, hg⟩ := Classical.axiomOfChoice hone
    refine ⟨List.ofFn g, ?_, fun x hx => ?_, sa, cap, by rw [h1]; simp, by simpa using h2, h3, fun _ => ⟨b, off, h5, fun i x hx => ?_⟩⟩
    · refine List.ext_getElem (by simp) (fun i p q => ?_)
      rw [List.getElem_map, List.getElem_ofFn]
      exact (hg ⟨i, q⟩).1
    · obtain ⟨i, rfl⟩ := (List.mem_ofFn (f := g)).1 hx
      exact (hg i).2.1
    · have hil : i < xs.length := by
        have := (List.getElem?_eq_some_iff.1 hx).1
        simpa using this
      rw [List.getElem?_ofFn] at hx
      simp [hil] at hx
      subst hx
      exact ⟨_, ceL_len _, rfl, fun j c hc => (hg ⟨i, hil⟩).2.2 j c hc⟩
  · have : xs = [] := List.length_eq_zero_iff.1 (by omega)
    subst this
    exact ⟨[], rfl, fun x hx => by simp at hx, sa, cap, h1, h2, h3, fun h => absurd h (by simp)⟩
theorem flat_range {w : World} {b off : Nat} {L : List Ce} (h : ∀ (i : Nat) (x : Ce), L[i]? = some x → ∀ j c, (ceL x)[j]? = some c → w.cell? ⟨b, off + i * 14 + j, none⟩ = some c) (d : Nat) (M : List Ce) (hM : ∀ (i : Nat) (x : Ce), M[i]? = some x → L[d + i]? = some x) :
    ∀ (q : Nat) (u : Value), (M.flatMap ceL)[q]? = some u → w.cell? ((⟨b, off + d * 14, none⟩ : Addr).add q) = some u := by
  intro q u hu
  have hq : q < M.length * 14 := by
    have := (List.getElem?_eq_some_iff.1 hu).1
    rwa [flat_len ceL_len] at this
  have hi : q / 14 < M.length := by omega
  obtain ⟨x, hx⟩ : ∃ x, M[q / 14]? = some x := ⟨_, List.getElem?_eq_getElem hi⟩
  have hf := flat_get ceL_len M (q / 14) x hx (q % 14) (Nat.mod_lt _ (by decide))
  rw [show q / 14 * 14 + q % 14 = q by omega, hu] at hf
  have := h (d + q / 14) x (hM _ _ hx) (q % 14) u hf.symm
  rw [show off + (d + q / 14) * 14 + q % 14 = off + d * 14 + q by omega] at this
  rw [World.addr_add_mid]
  exact this
where World.addr_add_mid {b o j : Nat} : (⟨b, o, none⟩ : Addr).add j = ⟨b, o + j, none⟩ := Addr.add_mid b o j
end Go.Proofs.Ytfkplbkllmnfeaa
