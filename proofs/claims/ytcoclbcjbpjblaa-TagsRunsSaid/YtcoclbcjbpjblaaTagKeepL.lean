/-
  PLAIN LAWS FOR TagsKeep: what holds of the pool and of the two maps, step by step.
-/
import Derived.Test.YtcoclbcjbpjblaaSteps
namespace Go.Proofs.Ytcoclbcjbpjblaa
open Go.RowKit
def numL {κ : Type} [DecidableEq κ] (L : List (κ × Int)) (k : κ) : Int := (getL L k).getD 0
structure KeepI (n i : Nat) (p : Pl) (L1 L2 : List (Ky × Int)) : Prop where
  most : p.most = n
  tgl : p.tg.length ≤ i
  hdl : p.hd.length ≤ i
  l1 : L1.length ≤ i
  l2 : L2.length ≤ i
  c1 : ∀ k t, getL p.tg k = some t → ∃ u, getL p.hd t = some (k, u)
  c2 : ∀ t k u, getL p.hd t = some (k, u) → getL p.tg k = some t ∧ 0 ≤ u ∧ u ≤ i ∧ KyOk k ∧ I64 t ∧ numL L2 k = u
  c3 : ∀ k, 0 < numL L2 k → getL p.tg k = some (numL L1 k)
  c4 : ∀ k, I64 (numL L1 k)
  c5 : ∀ k, 0 ≤ numL L2 k ∧ numL L2 k ≤ i
theorem numL_put (L : List (Ky × Int)) (k j : Ky) (v : Int) : numL (putL L k v) j = if j = k then v else numL L j := by
  unfold numL; rw [getL_put]; split <;> rfl
theorem len_put_le {κ υ : Type} [DecidableEq κ] (L : List (κ × υ)) (a : κ) (v : υ) : (putL L a v).length ≤ L.length + 1 := by
  rw [len_put]; split <;> omega
theorem KeepI.start (n : Nat) : KeepI n 0 ⟨n, [], []⟩ [] [] := by
  refine ⟨rfl, Nat.le_refl _, Nat.le_refl _, Nat.le_refl _, Nat.le_refl _, ?_, ?_, ?_, ?_, ?_⟩
  · intro k t h; cases h
  · intro t k u h; cases h
  · intro k h; exact absurd h (show ¬ (0 : Int) < 0 by omega)
  · intro k; exact show I64 0 by unfold I64; omega
  · intro k; exact ⟨show (0 : Int) ≤ 0 by omega, show (0 : Int) ≤ ((0 : Nat) : Int) by omega⟩
theorem KeepI.idle {n i : Nat} {p : Pl} {L1 L2 : List (Ky × Int)} (h : KeepI n i p L1 L2) : KeepI n (i + 1) p L1 L2 :=
  ⟨h.most, by have := h.tgl; omega, by have := h.hdl; omega, by have := h.l1; omega, by have := h.l2; omega, h.c1, fun t k u e => by have := h.c2 t k u e; exact ⟨this.1, this.2.1, by omega, this.2.2.2⟩, h.c3, h.c4, fun k => by have := h.c5 k; omega⟩
theorem KeepI.had {n i : Nat} {p : Pl} {L1 L2 : List (Ky × Int)} (h : KeepI n i p L1 L2) (k : Ky) (t u : Int) (ht : getL p.tg k = some t) (hu : getL p.hd t = some (k, u)) :
    KeepI n (i + 1) { p with hd := putL p.hd t (k, u + 1) } (putL L1 k t) (putL L2 k (numL L2 k + 1)) := by
  obtain ⟨_, hu0, hui, hk, htI, hU⟩ := h.c2 t k u hu
  refine ⟨h.most, by have := h.tgl; simp only; omega, Nat.le_trans (len_put_le _ _ _) (by have := h.hdl; omega), Nat.le_trans (len_put_le _ _ _) (by have := h.l1; omega), Nat.le_trans (len_put_le _ _ _) (by have := h.l2; omega), ?_, ?_, ?_, ?_, ?_⟩
  · intro j s hs
    obtain ⟨v, hv⟩ := h.c1 j s hs
    simp only [getL_put]
    by_cases e : s = t
    · subst e; rw [hu] at hv; injection hv with hv; injection hv with e1 e2; subst e1; exact ⟨_, if_pos rfl⟩
    · rw [if_neg e]; exact ⟨v, hv⟩
  · intro s j v hv
    simp only [getL_put] at hv
    rw [numL_put]
    by_cases e : s = t
    · subst e; rw [if_pos rfl] at hv; injection hv with hv; injection hv with e1 e2; subst e1; subst e2
      rw [if_pos rfl]; exact ⟨ht, by omega, by omega, hk, htI, by omega⟩
    · rw [if_neg e] at hv
      obtain ⟨a1, a2, a3, a4, a5, a6⟩ := h.c2 s j v hv
      have : j ≠ k := fun e2 => by subst e2; rw [ht] at a1; injection a1 with a1; exact e a1.symm
      rw [if_neg this]; exact ⟨a1, a2, by omega, a4, a5, a6⟩
  · intro j hj
    rw [numL_put] at hj ⊢
    by_cases e : j = k
    · subst e; rw [if_pos rfl]; exact ht
    · rw [if_neg e] at hj ⊢; exact h.c3 j hj
  · intro j; rw [numL_put]; split
    · exact htI
    · exact h.c4 j
  · intro j; rw [numL_put]; have := h.c5 j; have := h.c5 k; split <;> omega
theorem KeepI.new {n i : Nat} {p : Pl} {L1 L2 : List (Ky × Int)} (h : KeepI n i p L1 L2) (k : Ky) (hk : KyOk k) (t : Int) (htI : I64 t) (ht : getL p.tg k = none) (hf : getL p.hd t = none) :
    KeepI n (i + 1) { p with tg := putL p.tg k t, hd := putL p.hd t (k, 1) } (putL L1 k t) (putL L2 k (numL L2 k + 1)) := by
  have hU : numL L2 k = 0 := by
    have h5 := h.c5 k
    by_cases e : 0 < numL L2 k
    · have := h.c3 k e; rw [ht] at this; cases this
    · omega
  refine ⟨h.most, Nat.le_trans (len_put_le _ _ _) (by have := h.tgl; omega), Nat.le_trans (len_put_le _ _ _) (by have := h.hdl; omega), Nat.le_trans (len_put_le _ _ _) (by have := h.l1; omega), Nat.le_trans (len_put_le _ _ _) (by have := h.l2; omega), ?_, ?_, ?_, ?_, ?_⟩
  · intro j s hs
    simp only [getL_put] at hs ⊢
    by_cases e : j = k
    · subst e; rw [if_pos rfl] at hs; injection hs with hs; subst hs; exact ⟨_, if_pos rfl⟩
    · rw [if_neg e] at hs
      obtain ⟨v, hv⟩ := h.c1 j s hs
      have : s ≠ t := fun e2 => by subst e2; rw [hf] at hv; cases hv
      rw [if_neg this]; exact ⟨v, hv⟩
  · intro s j v hv
    simp only [getL_put] at hv ⊢
    rw [numL_put]
    by_cases e : s = t
    · subst e; rw [if_pos rfl] at hv; injection hv with hv; injection hv with e1 e2; subst e1; subst e2
      rw [if_pos rfl, if_pos rfl]; exact ⟨rfl, by omega, by omega, hk, htI, by omega⟩
    · rw [if_neg e] at hv
      obtain ⟨a1, a2, a3, a4, a5, a6⟩ := h.c2 s j v hv
      have : j ≠ k := fun e2 => by subst e2; rw [ht] at a1; cases a1
      rw [if_neg this, if_neg this]; exact ⟨a1, a2, by omega, a4, a5, a6⟩
  · intro j hj
    rw [numL_put] at hj ⊢
    simp only [getL_put]
    by_cases e : j = k
    · subst e; rw [if_pos rfl, if_pos rfl]
    · rw [if_neg e] at hj ⊢; rw [if_neg e]; exact h.c3 j hj
  · intro j; rw [numL_put]; split
    · exact htI
    · exact h.c4 j
  · intro j; rw [numL_put]; have := h.c5 j; split <;> omega
theorem KeepI.give {n i : Nat} {p : Pl} {L1 L2 : List (Ky × Int)} (h : KeepI n i p L1 L2) (k : Ky) (t u : Int) (hu : getL p.hd t = some (k, u)) (h1 : 1 ≤ u) :
    KeepI n (i + 1) { p with hd := putL p.hd t (k, u - 1) } L1 (putL L2 k (numL L2 k - 1)) := by
  obtain ⟨ht, hu0, hui, hk, htI, hU⟩ := h.c2 t k u hu
  refine ⟨h.most, by have := h.tgl; simp only; omega, Nat.le_trans (len_put_le _ _ _) (by have := h.hdl; omega), by have := h.l1; omega, Nat.le_trans (len_put_le _ _ _) (by have := h.l2; omega), ?_, ?_, ?_, h.c4, ?_⟩
  · intro j s hs
    obtain ⟨v, hv⟩ := h.c1 j s hs
    simp only [getL_put]
    by_cases e : s = t
    · subst e; rw [hu] at hv; injection hv with hv; injection hv with e1 e2; subst e1; exact ⟨_, if_pos rfl⟩
    · rw [if_neg e]; exact ⟨v, hv⟩
  · intro s j v hv
    simp only [getL_put] at hv
    rw [numL_put]
    by_cases e : s = t
    · subst e; rw [if_pos rfl] at hv; injection hv with hv; injection hv with e1 e2; subst e1; subst e2
      rw [if_pos rfl]; exact ⟨ht, by omega, by omega, hk, htI, by omega⟩
    · rw [if_neg e] at hv
      obtain ⟨a1, a2, a3, a4, a5, a6⟩ := h.c2 s j v hv
      have : j ≠ k := fun e2 => by subst e2; rw [ht] at a1; injection a1 with a1; exact e a1.symm
      rw [if_neg this]; exact ⟨a1, a2, by omega, a4, a5, a6⟩
  · intro j hj
    rw [numL_put] at hj
    by_cases e : j = k
    · subst e; exact h.c3 j (by omega)
    · rw [if_neg e] at hj; exact h.c3 j hj
  · intro j; rw [numL_put]; have := h.c5 j; have := h.c5 k; split <;> omega
theorem sweep_hd_get (hd : List (Int × Sl)) (hh : KeysApart hd) (t : Int) (s : Sl) : getL (hdS hd []) t = some s ↔ getL hd t = some s ∧ s.2 ≠ 0 := by
  rw [(sweep_end [] _).1, getL_iff (hh.filter _), getL_iff hh, List.mem_filter]
  simp
theorem sweep_tg_get (tg : List (Ky × Int)) (hd : List (Int × Sl)) (ht : KeysApart tg) (k : Ky) (t : Int) : getL (tgS tg hd []) k = some t ↔ getL tg k = some t ∧ ∀ e ∈ hd, e.2.2 = 0 → e.2.1 ≠ k := by
  rw [(sweep_end _ _).2.1, getL_iff (ht.filter _), getL_iff ht, List.mem_filter]
  simp only [Bool.not_eq_true', List.any_eq_false, Bool.and_eq_true, beq_iff_eq, not_and]
theorem KeepI.sweep {n i : Nat} {p : Pl} {L1 L2 : List (Ky × Int)} (h : KeepI n i p L1 L2) (ht : KeysApart p.tg) (hh : KeysApart p.hd) :
    KeepI n (i + 1) { p with tg := tgS p.tg p.hd [], hd := hdS p.hd [] } L1 L2 := by
  have keep : ∀ k t u, getL p.hd t = some (k, u) → u ≠ 0 → ∀ e ∈ p.hd, e.2.2 = 0 → e.2.1 ≠ k := by
    intro k t u hu h0 e he e0 ek
    obtain ⟨s, j, v⟩ := e
    simp only at e0 ek
    subst e0; subst ek
    have h1 := (getL_iff hh).2 he
    have a1 := (h.c2 _ _ _ h1).1
    have a2 := (h.c2 _ _ _ hu).1
    rw [a1] at a2; injection a2 with a2; subst a2
    rw [h1] at hu; injection hu with hu; injection hu with _ e2; exact h0 e2.symm
  refine ⟨h.most, Nat.le_trans (List.length_filter_le _ _) (by have := h.tgl; omega), Nat.le_trans (List.length_filter_le _ _) (by have := h.hdl; omega), by have := h.l1; omega, by have := h.l2; omega, ?_, ?_, ?_, h.c4, fun k => by have := h.c5 k; omega⟩
  · intro k t hk
    obtain ⟨h1, h2⟩ := (sweep_tg_get _ _ ht k t).1 hk
    obtain ⟨u, hu⟩ := h.c1 k t h1
    refine ⟨u, (sweep_hd_get _ hh _ _).2 ⟨hu, fun h0 => ?_⟩⟩
    exact h2 _ (getL_mem hu) h0 rfl
  · intro t k u hu
    obtain ⟨h1, h2⟩ := (sweep_hd_get _ hh _ _).1 hu
    obtain ⟨a1, a2, a3, a4⟩ := h.c2 t k u h1
    exact ⟨(sweep_tg_get _ _ ht k t).2 ⟨a1, keep k t u h1 h2⟩, a2, by omega, a4⟩
  · intro k hk
    have h1 := h.c3 k hk
    obtain ⟨u, hu⟩ := h.c1 _ _ h1
    have h2 := (h.c2 _ _ _ hu).2.2.2.2.2
    exact (sweep_tg_get _ _ ht k _).2 ⟨h1, keep k _ u hu (by omega)⟩
/-- what the check asks. -/
theorem KeepI.apart {n i : Nat} {p : Pl} {L1 L2 : List (Ky × Int)} (h : KeepI n i p L1 L2) {k l : Ky} (hk : 0 < numL L2 k) (hl : 0 < numL L2 l) (hne : k ≠ l) : numL L1 k ≠ numL L1 l := by
  intro e
  have h1 := h.c3 k hk
  have h2 := h.c3 l hl
  rw [← e] at h2
  obtain ⟨u, hu⟩ := h.c1 _ _ h1
  obtain ⟨v, hv⟩ := h.c1 _ _ h2
  rw [hu] at hv; injection hv with hv; injection hv with e1 _; exact hne e1
theorem KeepI.held {n i : Nat} {p : Pl} {L1 L2 : List (Ky × Int)} (h : KeepI n i p L1 L2) {k : Ky} (hk : 0 < numL L2 k) : ∃ u, getL p.hd (numL L1 k) = some (k, u) := h.c1 _ _ (h.c3 k hk)
/-- the least that is free. -/
theorem least_free (f : Nat → Bool) (n : Nat) : (∀ j, j < n → f j = true) ∨ ∃ t, t < n ∧ f t = false ∧ ∀ j, j < t → f j = true := by
  induction n with
  | zero => exact .inl fun j hj => absurd hj (by omega)
  | succ n ih =>
    rcases ih with h | ⟨t, h1, h2, h3⟩
    · cases hn : f n
      · exact .inr ⟨n, by omega, hn, h⟩
      · refine .inl fun j hj => ?_
        by_cases e : j = n
        · subst e; exact hn
        · exact h j (by omega)
    · exact .inr ⟨t, by omega, h2, h3⟩
end Go.Proofs.Ytcoclbcjbpjblaa
