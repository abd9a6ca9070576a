/-
  PLAIN LAWS FOR TagsRuns: what holds of the pool, step by step; the list by which it is checked.
-/
import Derived.Test.YtcoclbcjbpjblaaTagKeepL
namespace Go.Proofs.Ytcoclbcjbpjblaa
open Go.RowKit
structure RunI (n i : Nat) (p : Pl) : Prop where
  most : p.most = n
  tgl : p.tg.length ≤ i
  hdl : p.hd.length ≤ i
  c1 : ∀ k t, getL p.tg k = some t → ∃ u, getL p.hd t = some (k, u)
  c2 : ∀ t k u, getL p.hd t = some (k, u) → getL p.tg k = some t ∧ 0 ≤ u ∧ u ≤ i ∧ KyOk k ∧ 0 ≤ t ∧ t < n
theorem RunI.start (n : Nat) : RunI n 0 ⟨n, [], []⟩ := by
  refine ⟨rfl, Nat.le_refl _, Nat.le_refl _, ?_, ?_⟩
  · intro k t h; cases h
  · intro t k u h; cases h
theorem RunI.idle {n i : Nat} {p : Pl} (h : RunI n i p) : RunI n (i + 1) p :=
  ⟨h.most, by have := h.tgl; omega, by have := h.hdl; omega, h.c1, fun t k u e => by have := h.c2 t k u e; exact ⟨this.1, this.2.1, by omega, this.2.2.2⟩⟩
theorem RunI.had {n i : Nat} {p : Pl} (h : RunI n i p) (k : Ky) (t u : Int) (ht : getL p.tg k = some t) (hu : getL p.hd t = some (k, u)) : RunI n (i + 1) { p with hd := putL p.hd t (k, u + 1) } := by
  obtain ⟨_, hu0, hui, hk, ht0, htn⟩ := h.c2 t k u hu
  refine ⟨h.most, by have := h.tgl; simp only; omega, Nat.le_trans (len_put_le _ _ _) (by have := h.hdl; omega), ?_, ?_⟩
  · intro j s hs
    obtain ⟨v, hv⟩ := h.c1 j s hs
    simp only [getL_put]
    by_cases e : s = t
    · subst e; rw [hu] at hv; injection hv with hv; injection hv with e1 e2; subst e1; exact ⟨_, if_pos rfl⟩
    · rw [if_neg e]; exact ⟨v, hv⟩
  · intro s j v hv
    simp only [getL_put] at hv
    by_cases e : s = t
    · subst e; rw [if_pos rfl] at hv; injection hv with hv; injection hv with e1 e2; subst e1; subst e2
      exact ⟨ht, by omega, by omega, hk, ht0, htn⟩
    · rw [if_neg e] at hv
      obtain ⟨a1, a2, a3, a4⟩ := h.c2 s j v hv
      exact ⟨a1, a2, by omega, a4⟩
theorem RunI.new {n i : Nat} {p : Pl} (h : RunI n i p) (k : Ky) (hk : KyOk k) (t : Int) (ht0 : 0 ≤ t) (htn : t < n) (ht : getL p.tg k = none) (hf : getL p.hd t = none) : RunI n (i + 1) { p with tg := putL p.tg k t, hd := putL p.hd t (k, 1) } := by
  refine ⟨h.most, Nat.le_trans (len_put_le _ _ _) (by have := h.tgl; omega), Nat.le_trans (len_put_le _ _ _) (by have := h.hdl; omega), ?_, ?_⟩
  · intro j s hs
    simp only [getL_put] at hs ⊢
    by_cases e : j = k
    · subst e; rw [if_pos rfl] at hs; injection hs with hs; subst hs; exact ⟨_, if_pos rfl⟩
    · rw [if_neg e] at hs
      obtain ⟨v, hv⟩ := h.c1 j s hs
      have : s ≠ t := fun e2 => by subst e2; rw [hf] at hv; cases hv
      rw [if_neg this]; exact ⟨v, hv⟩
  · intro s j v hv
    simp only [getL_put] at hv ⊢
    by_cases e : s = t
    · subst e; rw [if_pos rfl] at hv; injection hv with hv; injection hv with e1 e2; subst e1; subst e2
      rw [if_pos rfl]; exact ⟨rfl, by omega, by omega, hk, ht0, htn⟩
    · rw [if_neg e] at hv
      obtain ⟨a1, a2, a3, a4⟩ := h.c2 s j v hv
      have : j ≠ k := fun e2 => by subst e2; rw [ht] at a1; cases a1
      rw [if_neg this]; exact ⟨a1, a2, by omega, a4⟩
theorem RunI.give {n i : Nat} {p : Pl} (h : RunI n i p) (k : Ky) (t u : Int) (hu : getL p.hd t = some (k, u)) (h1 : 1 ≤ u) : RunI n (i + 1) { p with hd := putL p.hd t (k, u - 1) } := by
  obtain ⟨ht, hu0, hui, hk, ht0, htn⟩ := h.c2 t k u hu
  refine ⟨h.most, by have := h.tgl; simp only; omega, Nat.le_trans (len_put_le _ _ _) (by have := h.hdl; omega), ?_, ?_⟩
  · intro j s hs
    obtain ⟨v, hv⟩ := h.c1 j s hs
    simp only [getL_put]
    by_cases e : s = t
    · subst e; rw [hu] at hv; injection hv with hv; injection hv with e1 e2; subst e1; exact ⟨_, if_pos rfl⟩
    · rw [if_neg e]; exact ⟨v, hv⟩
  · intro s j v hv
    simp only [getL_put] at hv
    by_cases e : s = t
    · subst e; rw [if_pos rfl] at hv; injection hv with hv; injection hv with e1 e2; subst e1; subst e2
      exact ⟨ht, by omega, by omega, hk, ht0, htn⟩
    · rw [if_neg e] at hv
      obtain ⟨a1, a2, a3, a4⟩ := h.c2 s j v hv
      exact ⟨a1, a2, by omega, a4⟩
theorem RunI.drop {n i : Nat} {p : Pl} (h : RunI n i p) (k : Ky) (t u : Int) (hu : getL p.hd t = some (k, u)) : RunI n (i + 1) { p with tg := delL p.tg k, hd := delL (putL p.hd t (k, 0)) t } := by
  obtain ⟨ht, hu0, hui, hk, ht0, htn⟩ := h.c2 t k u hu
  refine ⟨h.most, Nat.le_trans (List.length_filter_le _ _) (by have := h.tgl; omega), Nat.le_trans (List.length_filter_le _ _) (Nat.le_trans (len_put_le _ _ _) (by have := h.hdl; omega)), ?_, ?_⟩
  · intro j s hs
    simp only [getL_del] at hs
    split at hs
    · cases hs
    · rename_i hjk
      obtain ⟨v, hv⟩ := h.c1 j s hs
      simp only [getL_del, getL_put]
      have : s ≠ t := fun e => by subst e; rw [hu] at hv; injection hv with hv; injection hv with e1 _; exact hjk e1.symm
      rw [if_neg this, if_neg this]; exact ⟨v, hv⟩
  · intro s j v hv
    simp only [getL_del, getL_put] at hv ⊢
    split at hv
    · cases hv
    · rename_i hst
      obtain ⟨a1, a2, a3, a4⟩ := h.c2 s j v hv
      have : j ≠ k := fun e => by subst e; rw [ht] at a1; injection a1 with a1; exact hst a1.symm
      rw [if_neg this]
      exact ⟨a1, a2, by omega, a4⟩
theorem RunI.sweep {n i : Nat} {p : Pl} (h : RunI n i p) (ht : KeysApart p.tg) (hh : KeysApart p.hd) : RunI n (i + 1) { p with tg := tgS p.tg p.hd [], hd := hdS p.hd [] } := by
  have keep : ∀ k t u, getL p.hd t = some (k, u) → u ≠ 0 → ∀ e ∈ p.hd, e.2.2 = 0 → e.2.1 ≠ k := by
    intro k t u hu h0 e he e0 ek
    obtain ⟨s, j, v⟩ := e
    simp only at e0 ek
    subst e0; subst ek
    have h1 := (getL_iff hh).2 he
    have a1 := (h.c2 _ _ _ h1).1
    have a2 := (h.c2 _ _ _ hu).1
    rw [a1] at a2; injection a2 with a2; subst a2
    rw [h1] at hu; injection hu with hu; injection hu with _ e2; exact h0 e2.symm
  refine ⟨h.most, Nat.le_trans (List.length_filter_le _ _) (by have := h.tgl; omega), Nat.le_trans (List.length_filter_le _ _) (by have := h.hdl; omega), ?_, ?_⟩
  · intro k t hk
    obtain ⟨h1, h2⟩ := (sweep_tg_get _ _ ht k t).1 hk
    obtain ⟨u, hu⟩ := h.c1 k t h1
    refine ⟨u, (sweep_hd_get _ hh _ _).2 ⟨hu, fun h0 => ?_⟩⟩
    exact h2 _ (getL_mem hu) h0 rfl
  · intro t k u hu
    obtain ⟨h1, h2⟩ := (sweep_hd_get _ hh _ _).1 hu
    obtain ⟨a1, a2, a3, a4⟩ := h.c2 t k u h1
    exact ⟨(sweep_tg_get _ _ ht k t).2 ⟨a1, keep k t u h1 h2⟩, a2, by omega, a4⟩
/-- so many different numbers below n. -/
theorem few : ∀ (n : Nat) (L : List (Int × Sl)), KeysApart L → (∀ p ∈ L, 0 ≤ p.1 ∧ p.1 < n) → L.length ≤ n
  | 0, L, _, h => by
    cases L with
    | nil => simp
    | cons p r => have := h p (by simp); omega
  | n + 1, L, hd, h => by
    have h1 := few n (delL L (n : Int)) (apart_del hd _) fun p hp => by
      obtain ⟨a, b⟩ := mem_del.1 hp
      have := h p a
      omega
    rw [len_del hd] at h1
    split at h1 <;> omega
theorem RunI.short {n i : Nat} {p : Pl} (h : RunI n i p) (hh : KeysApart p.hd) : p.hd.length ≤ n :=
  few n p.hd hh fun e he => by
    obtain ⟨t, k, u⟩ := e
    have := h.c2 t k u (getL_of_mem hh he)
    exact ⟨this.2.2.2.2.1, this.2.2.2.2.2⟩
/-- what the check's own sweep has left of the list. -/
def swB (j : Nat) (e : Int × Sl) : Bool := e.2.2 == 0 && decide (e.1 < j)
def swL (L : List (Int × Sl)) (j : Nat) : List (Int × Sl) := L.filter fun e => !swB j e
def swN (L : List (Int × Sl)) (j : Nat) : Nat := (L.filter (swB j)).length
theorem sw_step {L : List (Int × Sl)} (hd : KeysApart L) (j : Nat) :
    (∀ k u, getL (swL L j) (j : Int) = some (k, u) → u = 0 → swL L (j + 1) = delL (swL L j) (j : Int) ∧ swN L (j + 1) = swN L j + 1) ∧
    ((∀ k u, getL (swL L j) (j : Int) = some (k, u) → u ≠ 0) → swL L (j + 1) = swL L j ∧ swN L (j + 1) = swN L j) := by
  have hds : KeysApart (swL L j) := hd.filter _
  constructor
  · intro k u hg hu
    subst hu
    have hm : ((j : Int), (k, (0 : Int))) ∈ L := (List.mem_filter.1 (getL_mem hg)).1
    have key : ∀ e ∈ L, swB (j + 1) e = (swB j e || e.1 == (j : Int)) := by
      intro e he
      unfold swB
      by_cases e1 : e.1 = (j : Int)
      · have g1 := getL_of_mem hd (a := e.1) (v := e.2) he
        have g2 := getL_of_mem hd hm
        rw [e1, g2] at g1; injection g1 with g1
        have : e.2.2 = 0 := by rw [← g1]
        have h3 : e.1 < ((j + 1 : Nat) : Int) := by omega
        simp [this, e1]
        omega
      · have h3 : (e.1 < ((j + 1 : Nat) : Int)) ↔ (e.1 < (j : Int)) := by omega
        have h4 : (e.1 == (j : Int)) = false := by rw [beq_eq_false_iff_ne]; exact e1
        rw [h4, Bool.or_false]
        congr 1
        exact decide_eq_decide.2 h3
    constructor
    · unfold swL delL
      rw [List.filter_filter]
      refine List.filter_congr fun e he => ?_
      rw [key e he]
      by_cases h : e.1 = (j : Int) <;> simp [h]
    · unfold swN
      have aux : ∀ (M : List (Int × Sl)), KeysApart M → (∀ e ∈ M, e ∈ L) → (M.filter (swB (j + 1))).length = (M.filter (swB j)).length + if ((j : Int), (k, (0 : Int))) ∈ M then 1 else 0 := by
        intro M
        induction M with
        | nil => intro _ _; simp
        | cons x M ih =>
          intro hM hsub
          obtain ⟨a1, a2⟩ := List.pairwise_cons.1 hM
          have ih := ih a2 fun e he => hsub e (List.mem_cons_of_mem _ he)
          have hx := hsub x (by simp)
          simp only [List.filter_cons]
          rw [key x hx]
          by_cases hxp : x = ((j : Int), (k, (0 : Int)))
          · subst hxp
            have hn : ((j : Int), (k, (0 : Int))) ∉ M := fun hm => a1 _ hm rfl
            rw [if_neg hn] at ih
            have gp : swB j ((j : Int), (k, (0 : Int))) = false := by unfold swB; simp
            simp [gp, ih]
          · have hne : (x.1 == (j : Int)) = false := by
              rw [beq_eq_false_iff_ne]; intro e1
              have g1 := getL_of_mem hd (a := x.1) (v := x.2) hx
              have g2 := getL_of_mem hd hm
              rw [e1, g2] at g1; injection g1 with g1
              exact hxp (Prod.ext e1 g1.symm)
            have hmem : (((j : Int), (k, (0 : Int))) ∈ x :: M) ↔ ((j : Int), (k, (0 : Int))) ∈ M := ⟨fun h => by rcases List.mem_cons.1 h with e | h; exact absurd e.symm hxp; exact h, List.mem_cons_of_mem _⟩
            rw [hne, Bool.or_false]
            cases swB j x
            · simp only [Bool.false_eq_true, if_false, hmem]; exact ih
            · simp only [if_true, List.length_cons, hmem]; omega
      have := aux L hd fun e he => he
      rw [if_pos hm] at this
      exact this
  · intro hno
    have key : ∀ e ∈ L, swB (j + 1) e = swB j e := by
      intro e he
      unfold swB
      by_cases e1 : e.1 = (j : Int)
      · have hin : e ∈ swL L j := List.mem_filter.2 ⟨he, by unfold swB; simp [e1]⟩
        have g1 := getL_of_mem hds (a := e.1) (v := e.2) hin
        rw [e1] at g1
        have h5 := hno e.2.1 e.2.2 g1
        have h6 : (e.2.2 == 0) = false := by rw [beq_eq_false_iff_ne]; exact h5
        rw [h6]; rfl
      · have h3 : (e.1 < ((j + 1 : Nat) : Int)) ↔ (e.1 < (j : Int)) := by omega
        congr 1
        exact decide_eq_decide.2 h3
    constructor
    · unfold swL; exact List.filter_congr fun e he => by rw [key e he]
    · unfold swN; rw [List.filter_congr fun e he => key e he]
theorem sw_start (L : List (Int × Sl)) (h0 : ∀ p ∈ L, 0 ≤ p.1) : swL L 0 = L ∧ swN L 0 = 0 := by
  have key : ∀ e ∈ L, swB 0 e = false := by
    intro e he
    unfold swB
    have : ¬ (e.1 < ((0 : Nat) : Int)) := by have := h0 e he; omega
    simp only [this, decide_false, Bool.and_false]
  constructor
  · unfold swL; rw [List.filter_eq_self]; intro e he; rw [key e he]; rfl
  · unfold swN
    have : L.filter (swB 0) = [] := by rw [List.filter_eq_nil_iff]; intro e he; rw [key e he]; simp
    rw [this]; rfl
theorem sw_end (L : List (Int × Sl)) (n : Nat) (hn : ∀ p ∈ L, p.1 < n) : swL L n = hdS L [] ∧ swN L n = nS L [] := by
  have key : ∀ e ∈ L, swB n e = (e.2.2 == 0) := by
    intro e he
    unfold swB
    rw [decide_eq_true (hn e he), Bool.and_true]
  rw [(sweep_end [] L).1, (sweep_end [] L).2.2]
  constructor
  · unfold swL; exact List.filter_congr fun e he => by rw [key e he]
  · unfold swN; rw [List.filter_congr fun e he => key e he]
theorem swN_le (L : List (Int × Sl)) (j : Nat) : swN L j ≤ L.length := List.length_filter_le _ _
end Go.Proofs.Ytcoclbcjbpjblaa
