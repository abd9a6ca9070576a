/-
  WHAT LIES BELOW A NODE, IN ORDER: plain laws.
-/
import Derived.Test.YtadlecnlgkhneaaTaB
namespace Go.Proofs.Ytadlecnlgkhneaa
open Go.RowKit

theorem here_mem {S : List (Nat × AV)} {A i : Nat} {x : Itm} : x ∈ hereP S A i ↔ x.1 = (A, i) ∧ getL S (keyN A i) = some x.2 := by
  unfold hereP
  cases hg : getL S (keyN A i) with
  | none => simp
  | some v =>
    obtain ⟨y, u⟩ := x
    simp only [List.mem_singleton, Prod.mk.injEq, Option.some.injEq]
    constructor
    · rintro ⟨rfl, rfl⟩; exact ⟨rfl, rfl⟩
    · rintro ⟨rfl, rfl⟩; exact ⟨rfl, rfl⟩
theorem pow_half {i : Nat} (hi : i < 32) : 2 ^ (32 - i) = 2 ^ (31 - i) * 2 ∧ 2 ^ (32 - (i + 1)) = 2 ^ (31 - i) := by
  refine ⟨by rw [show 32 - i = (31 - i) + 1 by omega, Nat.pow_succ], by rw [show 32 - (i + 1) = 31 - i by omega]⟩
/-- what an item below a net is. -/
structure ItemIn (S : List (Nat × AV)) (A i : Nat) (x : Itm) : Prop where
  form : x.1.1 % 2 ^ (32 - x.1.2) = 0
  le32 : x.1.2 ≤ 32
  deep : i ≤ x.1.2
  lo : A ≤ x.1.1
  hi : x.1.1 < A + 2 ^ (32 - i)
  at_ : getL S (keyN x.1.1 x.1.2) = some x.2
theorem goP_in {S : List (Nat × AV)} : ∀ (d A i : Nat), i + d = 32 → A % 2 ^ (32 - i) = 0 → ∀ x ∈ goP S d A i, ItemIn S A i x
  | 0, A, i, hi, hr, x, hx => by
    obtain ⟨h1, h2⟩ := here_mem.1 hx
    obtain ⟨⟨B, j⟩, v⟩ := x
    cases h1
    exact ⟨hr, by simp only; omega, Nat.le_refl _, Nat.le_refl _, Nat.lt_add_of_pos_right (Nat.pow_pos (by decide)), h2⟩
  | d + 1, A, i, hi, hr, x, hx => by
    obtain ⟨q1, q2⟩ := pow_half (show i < 32 by omega)
    have q3 := Nat.pow_pos (n := 31 - i) (show 0 < 2 by decide)
    unfold goP at hx
    rw [List.mem_append, List.mem_append] at hx
    rcases hx with hx | hx | hx
    · obtain ⟨h1, h2⟩ := here_mem.1 hx
      obtain ⟨⟨B, j⟩, v⟩ := x
      cases h1
      exact ⟨hr, by simp only; omega, Nat.le_refl _, Nat.le_refl _, Nat.lt_add_of_pos_right (Nat.pow_pos (by decide)), h2⟩
    · obtain ⟨a1, a2, a3, a4, a5, a6⟩ := goP_in d A (i + 1) (by omega) (mod_left (by omega) hr) x hx
      exact ⟨a1, a2, by omega, a4, by rw [q2] at a5; omega, a6⟩
    · obtain ⟨a1, a2, a3, a4, a5, a6⟩ := goP_in d (A + 2 ^ (31 - i)) (i + 1) (by omega) (mod_right (by omega) hr) x hx
      exact ⟨a1, a2, by omega, by omega, by rw [q2] at a5; omega, a6⟩
/-- two multiples of a size that lie within it are one. -/
theorem same_block {A B M : Nat} (ha : A % M = 0) (hb : B % M = 0) (h1 : A ≤ B) (h2 : B < A + M) : B = A := by
  obtain ⟨p, rfl⟩ := Nat.dvd_of_mod_eq_zero ha
  obtain ⟨q, rfl⟩ := Nat.dvd_of_mod_eq_zero hb
  have hM : 0 < M := by
    rcases Nat.eq_zero_or_pos M with h | h
    · subst h; simp at h2
    · exact h
  have : q < p + 1 := by
    have : M * q < M * (p + 1) := by rw [Nat.mul_add, Nat.mul_one]; exact h2
    exact Nat.lt_of_mul_lt_mul_left this
  have : p ≤ q := Nat.le_of_mul_le_mul_left h1 hM
  have e : q = p := by omega
  rw [e]
theorem goP_mem {S : List (Nat × AV)} {B j : Nat} {v : AV} (hb : B % 2 ^ (32 - j) = 0) (hj : j ≤ 32) (hg : getL S (keyN B j) = some v) : ∀ (d A i : Nat), i + d = 32 → A % 2 ^ (32 - i) = 0 → i ≤ j → A ≤ B → B < A + 2 ^ (32 - i) → ((B, j), v) ∈ goP S d A i
  | 0, A, i, hi, hr, h1, h2, h3 => by
    obtain rfl : j = i := by omega
    obtain rfl := same_block hr hb h2 h3
    exact here_mem.2 ⟨rfl, hg⟩
  | d + 1, A, i, hi, hr, h1, h2, h3 => by
    obtain ⟨q1, q2⟩ := pow_half (show i < 32 by omega)
    unfold goP
    rw [List.mem_append, List.mem_append]
    by_cases e : j = i
    · subst e
      obtain rfl := same_block hr hb h2 h3
      exact .inl (here_mem.2 ⟨rfl, hg⟩)
    · by_cases hh : B < A + 2 ^ (31 - i)
      · exact .inr (.inl (goP_mem hb hj hg d A (i + 1) (by omega) (mod_left (by omega) hr) (by omega) h2 (by rw [q2]; exact hh)))
      · exact .inr (.inr (goP_mem hb hj hg d (A + 2 ^ (31 - i)) (i + 1) (by omega) (mod_right (by omega) hr) (by omega) (by omega) (by rw [q2]; omega)))
/-- the order of nets. -/
def itLt (x y : Itm) : Prop := x.1.1 < y.1.1 ∨ (x.1.1 = y.1.1 ∧ x.1.2 < y.1.2)
theorem goP_sorted {S : List (Nat × AV)} : ∀ (d A i : Nat), i + d = 32 → A % 2 ^ (32 - i) = 0 → (goP S d A i).Pairwise itLt
  | 0, A, i, hi, hr => by
    unfold goP hereP
    split <;> simp
  | d + 1, A, i, hi, hr => by
    obtain ⟨q1, q2⟩ := pow_half (show i < 32 by omega)
    have q3 := Nat.pow_pos (n := 31 - i) (show 0 < 2 by decide)
    have hl := mod_left (show i < 32 by omega) hr
    have hrr := mod_right (show i < 32 by omega) hr
    unfold goP
    rw [List.pairwise_append, List.pairwise_append]
    refine ⟨?_, ⟨goP_sorted d A (i + 1) (by omega) hl, goP_sorted d _ (i + 1) (by omega) hrr, ?_⟩, ?_⟩
    · unfold hereP; split <;> simp
    · intro x hx y hy
      have hx := goP_in d A (i + 1) (by omega) hl x hx
      have hy := goP_in d _ (i + 1) (by omega) hrr y hy
      have := hx.hi
      rw [q2] at this
      have := hy.lo
      exact .inl (by omega)
    · intro x hx y hy
      obtain ⟨h1, h2⟩ := here_mem.1 hx
      rcases List.mem_append.1 hy with hy | hy
      · have hy := goP_in d A (i + 1) (by omega) hl y hy
        have a1 := hy.lo
        have a2 := hy.deep
        unfold itLt
        rw [h1]
        simp only
        omega
      · have hy := goP_in d _ (i + 1) (by omega) hrr y hy
        have a1 := hy.lo
        unfold itLt
        rw [h1]
        simp only
        omega
theorem key_block {A B i : Nat} (ha : A % 2 ^ (32 - i) = 0) (hb : B % 2 ^ (32 - i) = 0) (h : A / 2 ^ (32 - i) = B / 2 ^ (32 - i)) : A = B := by
  have h1 := Nat.div_add_mod A (2 ^ (32 - i))
  have h2 := Nat.div_add_mod B (2 ^ (32 - i))
  rw [ha] at h1
  rw [hb, ← h] at h2
  omega
/-- every key is a net's. -/
def KeysOk (S : List (Nat × AV)) : Prop := ∀ κ v, getL S κ = some v → ∃ B j : Nat, B < 4294967296 ∧ j ≤ 32 ∧ B % 2 ^ (32 - j) = 0 ∧ κ = keyN B j
theorem goP_len {S : List (Nat × AV)} (hd : KeysApart S) (hk : KeysOk S) : (goP S 32 0 0).length = S.length := by
  have hin := goP_in (S := S) 32 0 0 rfl (by decide)
  have hso := goP_sorted (S := S) 32 0 0 rfl (by decide)
  have lt32 : ∀ x ∈ goP S 32 0 0, x.1.1 < 4294967296 := fun x hx => by have := (hin x hx).hi; simpa using this
  have nd : ((goP S 32 0 0).map fun x => keyN x.1.1 x.1.2).Nodup := by
    unfold List.Nodup
    rw [List.pairwise_map]
    refine List.Pairwise.imp_of_mem ?_ hso
    intro x y hx hy hlt e
    have ix := hin x hx
    have iy := hin y hy
    obtain ⟨e1, e2⟩ := keyN_inj (lt32 x hx) (lt32 y hy) ix.le32 iy.le32 e
    have fx := ix.form
    have fy := iy.form
    rw [← e1] at fy
    have := key_block fx fy e2
    unfold itLt at hlt
    omega
  have nd2 : (S.map (·.1)).Nodup := by
    unfold List.Nodup
    rw [List.pairwise_map]
    exact hd
  have p : ((goP S 32 0 0).map fun x => keyN x.1.1 x.1.2).Perm (S.map (·.1)) := by
    rw [List.perm_ext_iff_of_nodup nd nd2]
    intro κ
    rw [List.mem_map, List.mem_map]
    constructor
    · rintro ⟨x, hx, rfl⟩
      exact ⟨_, getL_mem (hin x hx).at_, rfl⟩
    · rintro ⟨q, hq, rfl⟩
      have hg := getL_of_mem hd (show (q.1, q.2) ∈ S from hq)
      obtain ⟨B, j, hB, hj, hf, e⟩ := hk _ _ hg
      rw [e] at hg
      exact ⟨((B, j), q.2), goP_mem hf hj hg 32 0 0 rfl (by decide) (Nat.zero_le _) (Nat.zero_le _) (by simpa using hB), e.symm⟩
  have := p.length_eq
  simpa using this
end Go.Proofs.Ytadlecnlgkhneaa
