/-
  MORE PLAIN ARITHMETIC ON NETS: a net in its form is all addresses from its first to its last; its halves.
-/
import Derived.Test.YtadlecnlgkhneaaIpPlain
namespace Go.Proofs.Ytadlecnlgkhneaa
open Go.RowKit (wrap64)

theorem sub_mod_range (t a M : Int) (hM : 0 < M) (ha : a % M = 0) : (t - t % M = a) ↔ (a ≤ t ∧ t < a + M) := by
  have h1 := Int.emod_nonneg t (show M ≠ 0 by omega)
  have h2 := Int.emod_lt_of_pos t hM
  constructor
  · intro h; omega
  · rintro ⟨h3, h4⟩
    have e : t % M = t - a := by
      have h5 : t = (t - a) + a := by omega
      rw [h5, Int.add_emod, ha, Int.add_zero, Int.emod_emod_of_dvd _ (Int.dvd_refl M)]
      rw [Int.emod_eq_of_lt (by omega) (by omega)]; omega
    omega
/-- how many addresses a net has. -/
def sizeI (n : Int) : Int := 2 ^ lowN n
theorem sizeI_pos (n : Int) : 0 < sizeI n := pow_pos33 _
theorem has_range (a n t : Int) (hr : rightB a n = true) : hasB a n t = true ↔ (a ≤ t ∧ t < a + sizeI n) := by
  unfold hasB
  rw [hr, Bool.true_and, beq_iff_eq]
  exact sub_mod_range t a _ (pow_pos33 _) ((rightB_iff a n).1 hr).1
theorem has_yes {a n t : Int} (hr : rightB a n = true) (h : a ≤ t ∧ t < a + sizeI n) : hasB a n t = true := (has_range a n t hr).2 h
theorem has_no {a n t : Int} (hr : rightB a n = true) (h : ¬ (a ≤ t ∧ t < a + sizeI n)) : hasB a n t = false := by
  cases hh : hasB a n t
  · rfl
  · exact absurd ((has_range a n t hr).1 hh) h
theorem size_succ (n : Int) (h0 : 0 ≤ n) (h : n < 32) : sizeI n = 2 * sizeI (n + 1) := by
  unfold sizeI
  have e : lowN n = lowN (n + 1) + 1 := by rw [lowN_of n h0 (by omega), lowN_of (n + 1) (by omega) (by omega)]; omega
  rw [e, Int.pow_succ]; omega
theorem size_top (n : Int) (h0 : 0 ≤ n) (h : n < 32) : (2 : Int) ^ (31 - n).toNat = sizeI (n + 1) := by
  unfold sizeI
  rw [lowN_of (n + 1) (by omega) (by omega), show (31 - n).toNat = (32 - (n + 1)).toNat by omega]
theorem mod_half (a M : Int) (h : a % (2 * M) = 0) : a % M = 0 := by
  have := Int.emod_emod_of_dvd a (show M ∣ 2 * M from ⟨2, by rw [Int.mul_comm]⟩)
  rw [h] at this
  rw [← this]; simp
theorem right_half0 (a n : Int) (hr : rightB a n = true) (h : n < 32) : rightB a (n + 1) = true := by
  obtain ⟨h1, h2, h3⟩ := (rightB_iff a n).1 hr
  refine (rightB_iff a (n + 1)).2 ⟨?_, by omega, by omega⟩
  have e := size_succ n h2 h
  unfold sizeI at e
  rw [e] at h1
  exact mod_half _ _ h1
theorem right_half1 (a n : Int) (hr : rightB a n = true) (h : n < 32) : rightB (a + sizeI (n + 1)) (n + 1) = true := by
  have h0 := (rightB_iff a (n + 1)).1 (right_half0 a n hr h)
  refine (rightB_iff _ _).2 ⟨?_, h0.2⟩
  have h1 := h0.1
  unfold sizeI
  rw [Int.add_emod, h1]; simp
/-- an address and all behind it, under 2^32, where the net is in its form. -/
theorem right_fits (a n : Int) (ha0 : 0 ≤ a) (ha : a < 4294967296) (hr : rightB a n = true) : a + sizeI n ≤ 4294967296 := by
  obtain ⟨h1, h2, h3⟩ := (rightB_iff a n).1 hr
  have hp := sizeI_pos n
  have hd : sizeI n ∣ 4294967296 := by
    refine ⟨2 ^ (32 - lowN n), ?_⟩
    unfold sizeI
    rw [← Int.pow_add, show lowN n + (32 - lowN n) = 32 by have := lowN_le n; omega]
    decide
  have h4 : (4294967296 : Int) % sizeI n = 0 := Int.emod_eq_zero_of_dvd hd
  rcases Int.lt_or_le 4294967296 (a + sizeI n) with h5 | h5
  · have := (sub_mod_range 4294967296 a (sizeI n) hp h1).2 ⟨by omega, h5⟩
    omega
  · exact h5

/-! ### The greatest address -/
theorem xor_mask (n : Int) : bits .xor .u32 4294967295 (maskI n) = sizeI n - 1 := by
  unfold maskI sizeI
  have hk := lowN_le n
  generalize lowN n = k at hk
  refine cases33 (P := fun k => bits .xor .u32 4294967295 (4294967296 - 2 ^ k) = 2 ^ k - 1) k hk ?_ ?_ ?_ ?_ ?_ ?_ ?_ ?_ ?_ ?_ ?_ ?_ ?_ ?_ ?_ ?_ ?_ ?_ ?_ ?_ ?_ ?_ ?_ ?_ ?_ ?_ ?_ ?_ ?_ ?_ ?_ ?_ ?_ <;> decide +kernel
theorem or_low (a b : Int) (k : Nat) (h0 : 0 ≤ a) (h : a < 4294967296) (hb0 : 0 ≤ b) (hb : b < 2 ^ k) (hk : k ≤ 32) (hm : a % 2 ^ k = 0) : bits .or .u32 a b = a + b := by
  have hp := pow_le33 k hk
  rw [u32_or a b h0 h hb0 (by omega)]
  obtain ⟨x, rfl⟩ := Int.eq_ofNat_of_zero_le h0
  obtain ⟨y, rfl⟩ := Int.eq_ofNat_of_zero_le hb0
  rw [Int.toNat_natCast, Int.toNat_natCast]
  have hy : y < 2 ^ k := by
    have e : ((2 : Int) ^ k) = ((2 ^ k : Nat) : Int) := by simp
    rw [e] at hb; omega
  have hx : x % 2 ^ k = 0 := by
    have e : ((x : Int) % 2 ^ k) = ((x % 2 ^ k : Nat) : Int) := by simp
    rw [e] at hm; omega
  have hd : x = 2 ^ k * (x / 2 ^ k) := by have := Nat.div_add_mod x (2 ^ k); omega
  have := Nat.two_pow_add_eq_or_of_lt hy (x / 2 ^ k)
  rw [← hd] at this
  omega
theorem last_right (a n : Int) (h0 : 0 ≤ a) (h : a < 4294967296) (hr : rightB a n = true) : bits .or .u32 a (bits .xor .u32 4294967295 (maskI n)) = a + sizeI n - 1 := by
  have hp := sizeI_pos n
  rw [xor_mask, or_low a _ (lowN n) h0 h (by omega) (by unfold sizeI; omega) (lowN_le n) ((rightB_iff a n).1 hr).1]
  omega
theorem or_half (a n : Int) (h0 : 0 ≤ a) (h : a < 4294967296) (hr : rightB a n = true) (hn : n < 32) : bits .or .u32 a (2 ^ (31 - n).toNat % 4294967296) = a + sizeI (n + 1) := by
  obtain ⟨h1, h2, h3⟩ := (rightB_iff a n).1 hr
  have hs := size_succ n h2 hn
  have hp := sizeI_pos (n + 1)
  have hle : sizeI n ≤ 4294967296 := pow_le33 _ (lowN_le n)
  rw [size_top n h2 hn, Int.emod_eq_of_lt (by omega) (by omega)]
  exact or_low a _ (lowN n) h0 h (by omega) (by show sizeI (n + 1) < sizeI n; omega) (lowN_le n) h1
/-- a half of a net: its first address. -/
def halfI (a n t : Int) : Int := if t = 0 then a else a + sizeI (n + 1)
theorem halfI_0 (a n : Int) : halfI a n 0 = a := rfl
theorem halfI_1 (a n t : Int) (h : t ≠ 0) : halfI a n t = a + sizeI (n + 1) := if_neg h
/-- a net covers what is in its form, longer, and begins in it. -/
theorem covers_iff (a n b m : Int) (ha : rightB a n = true) : coversB a n b m = true ↔ (rightB b m = true ∧ n ≤ m ∧ a ≤ b ∧ b < a + sizeI n) := by
  unfold coversB
  rw [Bool.and_eq_true, Bool.and_eq_true, decide_eq_true_iff, has_range a n b ha]
  constructor
  · rintro ⟨⟨h1, h2⟩, h3, h4⟩; exact ⟨h1, h2, h3, h4⟩
  · rintro ⟨h1, h2, h3, h4⟩; exact ⟨⟨h1, h2⟩, h3, h4⟩
theorem covers_no {a n b m : Int} (ha : rightB a n = true) (h : ¬ (n ≤ m ∧ a ≤ b ∧ b < a + sizeI n)) : coversB a n b m = false := by
  cases hh : coversB a n b m
  · rfl
  · exact absurd ((covers_iff a n b m ha).1 hh).2 h
end Go.Proofs.Ytadlecnlgkhneaa
