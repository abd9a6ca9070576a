/-
  CHOOSE: plain laws: the reference's best one is the best one.
-/
import Derived.Test.YtfkplbkllmnfeaaChX
namespace Go.Proofs.Ytfkplbkllmnfeaa
open Go.RowKit

theorem mem_keep {l : List Nat} {num : List Int} {i : Nat} : i ∈ keepL l num ↔ i ∈ l ∧ ∀ k ∈ l, num.getD i 0 ≤ num.getD k 0 := by
  unfold keepL keepB
  rw [List.mem_filter, List.all_eq_true]
  constructor
  · rintro ⟨h1, h2⟩
    exact ⟨h1, fun k hk => by have := h2 k hk; simp only [decide_eq_true_eq] at this; omega⟩
  · rintro ⟨h1, h2⟩
    exact ⟨h1, fun k hk => by have := h2 k hk; simp only [decide_eq_true_eq]; omega⟩
theorem min_mem (f : Nat → Int) : ∀ (l : List Nat), l ≠ [] → ∃ i ∈ l, ∀ k ∈ l, f i ≤ f k
  | [], h => absurd rfl h
  | [x], _ => ⟨x, by simp, by simp⟩
  | x :: y :: l, _ => by
    obtain ⟨i, hi, hm⟩ := min_mem f (y :: l) (by simp)
    by_cases h : f x ≤ f i
    · refine ⟨x, by simp, fun k hk => ?_⟩
      rcases List.mem_cons.1 hk with rfl | hk
      · exact Int.le_refl _
      · exact Int.le_trans h (hm k hk)
    · refine ⟨i, List.mem_cons_of_mem _ hi, fun k hk => ?_⟩
      rcases List.mem_cons.1 hk with rfl | hk
      · omega
      · exact hm k hk
theorem keep_ne {l : List Nat} (num : List Int) (h : l ≠ []) : keepL l num ≠ [] := by
  obtain ⟨i, hi, hm⟩ := min_mem (fun i => num.getD i 0) l h
  intro e
  have : i ∈ keepL l num := mem_keep.2 ⟨hi, hm⟩
  rw [e] at this
  simp at this
section
variable {rs : List Rt}
abbrev gR (rs : List Rt) (i : Nat) : Rt := rs.getD i rtZ
theorem get_map (f : Rt → Int) {i : Nat} (h : i < rs.length) : (rs.map f).getD i 0 = f (gR rs i) := by
  simp only [gR, List.getD_eq_getElem?_getD, List.getElem?_map, List.getElem?_eq_getElem h]
  rfl
theorem mem1 {i : Nat} : i ∈ rb1 rs ↔ i < rs.length ∧ ∀ k, k < rs.length → (gR rs k).loc ≤ (gR rs i).loc := by
  unfold rb1 rtLike
  rw [mem_keep, List.mem_range]
  constructor
  · rintro ⟨h1, h2⟩
    refine ⟨h1, fun k hk => ?_⟩
    have := h2 k (List.mem_range.2 hk)
    rw [get_map _ h1, get_map _ hk] at this
    omega
  · rintro ⟨h1, h2⟩
    refine ⟨h1, fun k hk => ?_⟩
    have hk' := List.mem_range.1 hk
    have := h2 k hk'
    rw [get_map _ h1, get_map _ hk']
    omega
theorem mem2 {i : Nat} : i ∈ rb2 rs ↔ i ∈ rb1 rs ∧ ∀ k ∈ rb1 rs, (gR rs i).hops ≤ (gR rs k).hops := by
  unfold rb2 rtHops
  rw [mem_keep]
  refine and_congr_right fun hi => forall_congr' fun k => ?_
  refine imp_congr_right fun hk => ?_
  rw [get_map _ ((rb_lt rs).1 i hi), get_map _ ((rb_lt rs).1 k hk)]
theorem mem3 {i : Nat} : i ∈ rb3 rs ↔ i ∈ rb2 rs ∧ ∀ k ∈ rb2 rs, (gR rs i).origin ≤ (gR rs k).origin := by
  unfold rb3 rtOrig
  rw [mem_keep]
  refine and_congr_right fun hi => forall_congr' fun k => ?_
  refine imp_congr_right fun hk => ?_
  rw [get_map _ ((rb_lt rs).2.1 i hi), get_map _ ((rb_lt rs).2.1 k hk)]
def AhT (q r : Rt) : Prop := r.loc < q.loc ∨ (q.loc = r.loc ∧ (q.hops < r.hops ∨ (q.hops = r.hops ∧ q.origin < r.origin)))
theorem top3 {i : Nat} : i ∈ rb3 rs ↔ i < rs.length ∧ ∀ k, k < rs.length → ¬ AhT (gR rs k) (gR rs i) := by
  constructor
  · intro h3
    obtain ⟨h2, g3⟩ := mem3.1 h3
    obtain ⟨h1, g2⟩ := mem2.1 h2
    obtain ⟨h0, g1⟩ := mem1.1 h1
    refine ⟨h0, fun k hk hA => ?_⟩
    have a := g1 k hk
    rcases hA with hA | ⟨e1, hA⟩
    · omega
    · have k1 : k ∈ rb1 rs := mem1.2 ⟨hk, fun q hq => by have := g1 q hq; omega⟩
      have b := g2 k k1
      rcases hA with hA | ⟨e2, hA⟩
      · omega
      · have k2 : k ∈ rb2 rs := mem2.2 ⟨k1, fun q hq => by have := g2 q hq; omega⟩
        have := g3 k k2
        omega
  · rintro ⟨h0, hA⟩
    have h1 : i ∈ rb1 rs := mem1.2 ⟨h0, fun k hk => by have := hA k hk; unfold AhT at this; omega⟩
    have h2 : i ∈ rb2 rs := mem2.2 ⟨h1, fun k hk => by
      obtain ⟨hk0, hk1⟩ := mem1.1 hk
      have a := hk1 i h0
      have b := (mem1.1 h1).2 k hk0
      have := hA k hk0
      unfold AhT at this; omega⟩
    refine mem3.2 ⟨h2, fun k hk => ?_⟩
    obtain ⟨k1, k2⟩ := mem2.1 hk
    obtain ⟨hk0, hk1⟩ := mem1.1 k1
    have a := hk1 i h0
    have b := (mem1.1 h1).2 k hk0
    have c := k2 i h1
    have d := (mem2.1 h2).2 k k1
    have := hA k hk0
    unfold AhT at this; omega
theorem mem4 {i : Nat} : i ∈ rb4 rs ↔ i ∈ rb3 rs ∧ ∀ k ∈ rb3 rs, (gR rs k).first = (gR rs i).first → (gR rs i).med ≤ (gR rs k).med := by
  unfold rb4 medQ medC
  rw [List.mem_filter, List.all_eq_true]
  refine and_congr_right fun hi => forall_congr' fun k => imp_congr_right fun hk => ?_
  simp only [Bool.not_eq_true', Bool.and_eq_false_iff, beq_eq_false_iff_ne, decide_eq_false_iff_not]
  show ((gR rs k).first ≠ (gR rs i).first ∨ ¬ (gR rs k).med < (gR rs i).med) ↔ ((gR rs k).first = (gR rs i).first → (gR rs i).med ≤ (gR rs k).med)
  constructor
  · rintro (h | h) e
    · exact absurd e h
    · omega
  · intro h
    by_cases e : (gR rs k).first = (gR rs i).first
    · exact .inr (by have := h e; omega)
    · exact .inl e
theorem mem5 {i : Nat} : i ∈ rb5 rs ↔ i ∈ rb4 rs ∧ ∀ k ∈ rb4 rs, ((gR rs i).id : Int) ≤ (gR rs k).id := by
  unfold rb5 rtIds
  rw [mem_keep]
  refine and_congr_right fun hi => forall_congr' fun k => ?_
  refine imp_congr_right fun hk => ?_
  rw [get_map _ ((rb_lt rs).2.2.2.1 i hi), get_map _ ((rb_lt rs).2.2.2.1 k hk)]
theorem mem6 {i : Nat} : i ∈ rb6 rs ↔ i ∈ rb5 rs ∧ ∀ k ∈ rb5 rs, (gR rs i).peer ≤ (gR rs k).peer := by
  unfold rb6 rtPeer
  rw [mem_keep]
  refine and_congr_right fun hi => forall_congr' fun k => ?_
  refine imp_congr_right fun hk => ?_
  rw [get_map _ ((rb_lt rs).2.2.2.2.1 i hi), get_map _ ((rb_lt rs).2.2.2.2.1 k hk)]
theorem rb4_ne (h : rs ≠ []) : rb4 rs ≠ [] := by
  have h0 : List.range rs.length ≠ [] := by
    intro e
    have := congrArg List.length e
    simp at this
    exact h this
  have h3 : rb3 rs ≠ [] := keep_ne _ (keep_ne _ (keep_ne _ h0))
  obtain ⟨i, hi, hm⟩ := min_mem (fun i => (gR rs i).med) (rb3 rs) h3
  intro e
  have : i ∈ rb4 rs := mem4.2 ⟨hi, fun k hk _ => hm k hk⟩
  rw [e] at this
  simp at this
theorem rb6_ne (h : rs ≠ []) : rb6 rs ≠ [] := keep_ne _ (keep_ne _ (rb4_ne h))
theorem rb6_sorted : (rb6 rs).Pairwise (· < ·) := by
  have h0 : (List.range rs.length).Pairwise (· < ·) := List.pairwise_lt_range
  exact ((((((h0.filter _).filter _).filter _).filter _).filter _).filter _)
end
theorem ref_best (xs : List Cd) (hne : xs ≠ []) (hmed : ∀ c ∈ xs, medOf c.a = c.a.med) : rbestI (xs.map rtOf) = bestI xs := by
  have hrs : xs.map rtOf ≠ [] := by simpa using hne
  obtain ⟨i, is, hi⟩ : ∃ i is, rb6 (xs.map rtOf) = i :: is := by
    cases hq : rb6 (xs.map rtOf) with
    | nil => exact absurd hq (rb6_ne hrs)
    | cons i is => exact ⟨i, is, rfl⟩
  have hsort := rb6_sorted (rs := xs.map rtOf)
  rw [hi, List.pairwise_cons] at hsort
  have h6 : i ∈ rb6 (xs.map rtOf) := by rw [hi]; simp
  have hlt := (rb_lt (xs.map rtOf)).2.2.2.2.2 i h6
  rw [List.length_map] at hlt
  have hget : ∀ (k : Nat) (c : Cd), xs[k]? = some c → gR (xs.map rtOf) k = rtOf c := fun k c hk => by simp [gR, List.getD_eq_getElem?_getD, List.getElem?_map, hk]
  have hle : ∀ (k : Nat) (c : Cd), xs[k]? = some c → k < (xs.map rtOf).length := fun k c hk => by rw [List.length_map]; exact (List.getElem?_eq_some_iff.1 hk).1
  obtain ⟨c, hc⟩ : ∃ c, xs[i]? = some c := ⟨_, List.getElem?_eq_getElem hlt⟩
  have gi := hget i c hc
  obtain ⟨h5, g6⟩ := mem6.1 h6
  obtain ⟨h4, g5⟩ := mem5.1 h5
  -- who is left
  have hleft : ∀ (k : Nat) (d : Cd), xs[k]? = some d → (InLeft (rksOf xs) (rkOf k d) ↔ k ∈ rb4 (xs.map rtOf)) := by
    intro k d hd
    have gk := hget k d hd
    have hah : ∀ (q : Nat) (e : Cd), xs[q]? = some e → (AhP (rkOf q e) (rkOf k d) ↔ AhT (gR (xs.map rtOf) q) (gR (xs.map rtOf) k)) := fun q e he => by
      rw [hget q e he, gk]; rfl
    constructor
    · rintro ⟨a, b⟩
      have h3 : k ∈ rb3 (xs.map rtOf) := top3.2 ⟨hle k d hd, fun q hq => by
        rw [List.length_map] at hq
        obtain ⟨e, he⟩ : ∃ e, xs[q]? = some e := ⟨_, List.getElem?_eq_getElem hq⟩
        rw [← hah q e he]
        exact a _ (rksOf_mem.2 ⟨q, e, he, rfl⟩)⟩
      refine mem4.2 ⟨h3, fun q hq hf => ?_⟩
      have hql := (rb_lt (xs.map rtOf)).2.2.1 q hq
      rw [List.length_map] at hql
      obtain ⟨e, he⟩ : ∃ e, xs[q]? = some e := ⟨_, List.getElem?_eq_getElem hql⟩
      have h1 := (top3.1 hq).2 k (hle k d hd)
      have h2 := (top3.1 h3).2 q (hle q e he)
      rw [hget q e he, gk] at h1 h2 hf ⊢
      have hE : EqP (rkOf q e) (rkOf k d) := by
        unfold AhT rtOf at h1 h2
        simp only at h1 h2
        unfold EqP rkOf
        simp only
        omega
      have := b _ (rksOf_mem.2 ⟨q, e, he, rfl⟩) hE hf
      have m1 := hmed d (List.mem_of_getElem? hd)
      have m2 := hmed e (List.mem_of_getElem? he)
      simp only [rkOf, rtOf] at this ⊢
      rw [m1, m2] at this
      exact this
    · intro h4
      obtain ⟨h3, g4⟩ := mem4.1 h4
      refine ⟨fun q hq => ?_, fun q hq hE hf => ?_⟩
      · obtain ⟨j, e, he, rfl⟩ := rksOf_mem.1 hq
        rw [hah j e he]
        exact (top3.1 h3).2 j (hle j e he)
      · obtain ⟨j, e, he, rfl⟩ := rksOf_mem.1 hq
        have hj3 : j ∈ rb3 (xs.map rtOf) := top3.2 ⟨hle j e he, fun q hq hA => by
          refine (top3.1 h3).2 q hq ?_
          rw [gk]
          rw [hget j e he] at hA
          unfold EqP rkOf at hE
          simp only at hE
          unfold AhT rtOf at hA ⊢
          simp only at hA ⊢
          omega⟩
        have := g4 j hj3 (by rw [hget j e he, gk]; exact hf)
        rw [hget j e he, gk] at this
        have m1 := hmed d (List.mem_of_getElem? hd)
        have m2 := hmed e (List.mem_of_getElem? he)
        simp only [rkOf, rtOf] at this ⊢
        rw [m1, m2]
        exact this
  have hb : IsBest (rksOf xs) (rkOf i c) := by
    refine ⟨rksOf_mem.2 ⟨i, c, hc, rfl⟩, (hleft i c hc).2 h4, fun q hq hl hB => ?_⟩
    obtain ⟨k, d, hd, rfl⟩ := rksOf_mem.1 hq
    have k4 := (hleft k d hd).1 hl
    have gk := hget k d hd
    have a := g5 k k4
    rw [gi, gk] at a
    unfold BhP rkOf at hB
    simp only [rtOf] at hB a
    rcases hB with hB | ⟨e1, hB⟩
    · omega
    · have k5 : k ∈ rb5 (xs.map rtOf) := mem5.2 ⟨k4, fun q hq => by
        have := g5 q hq
        rw [gi] at this
        rw [gk]
        simp only [rtOf] at this ⊢
        omega⟩
      have b := g6 k k5
      rw [gi, gk] at b
      simp only [rtOf] at b
      rcases hB with hB | ⟨e2, hB⟩
      · omega
      · have k6 : k ∈ rb6 (xs.map rtOf) := mem6.2 ⟨k5, fun q hq => by
          have := g6 q hq
          rw [gi] at this
          rw [gk]
          simp only [rtOf] at this ⊢
          omega⟩
        rw [hi] at k6
        rcases List.mem_cons.1 k6 with e | k6
        · omega
        · have := hsort.1 k k6
          omega
  rw [bestI_of hc hb]
  unfold rbestI
  rw [hi]
end Go.Proofs.Ytfkplbkllmnfeaa
