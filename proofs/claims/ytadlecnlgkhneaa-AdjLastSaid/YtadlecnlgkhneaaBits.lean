/-
  PLAIN LAWS ON BITS OF WHOLE NUMBERS: an int under a mask of its lowest bits; two numbers laid side by side.
-/
import Derived.Laws.BitsAllLaws
import Derived.IntWalk
namespace Go.Proofs.Ytadlecnlgkhneaa

theorem ofInt64_nat (x : Int) : (BitVec.ofInt 64 x).toNat = (x % 18446744073709551616).toNat := by
  rw [BitVec.toNat_ofInt]; rfl
/-- an int's lowest k bits: what is left by 2^k. -/
theorem and_low_i64 (x : Int) (k : Nat) (hk : k ≤ 62) : bits .and .i64 x ((2 ^ k - 1 : Nat) : Int) = x % ((2 ^ k : Nat) : Int) := by
  have hp : 0 < 2 ^ k := Nat.two_pow_pos k
  have hle : 2 ^ k ≤ 2 ^ 62 := Nat.pow_le_pow_right (by decide) hk
  show IntKind.i64.wrap ((BitVec.ofInt 64 x &&& BitVec.ofInt 64 ((2 ^ k - 1 : Nat) : Int)).toNat : Int) = _
  rw [BitVec.toNat_and, ofInt64_nat, ofInt64_nat]
  have e1 : ((((2 ^ k - 1 : Nat) : Int)) % 18446744073709551616).toNat = 2 ^ k - 1 := by omega
  rw [e1, Nat.and_two_pow_sub_one_eq_mod]
  have hd : ((2 ^ k : Nat) : Int) ∣ 18446744073709551616 := by
    refine ⟨((2 ^ (64 - k) : Nat) : Int), ?_⟩
    rw [← Int.natCast_mul, ← Nat.pow_add, show k + (64 - k) = 64 by omega]
    decide
  have h0 : 0 ≤ x % 18446744073709551616 := Int.emod_nonneg _ (by decide)
  have e2 : (((x % 18446744073709551616).toNat % 2 ^ k : Nat) : Int) = x % ((2 ^ k : Nat) : Int) := by
    rw [Int.natCast_emod, Int.toNat_of_nonneg h0, Int.emod_emod_of_dvd _ hd]
  rw [e2]
  have h1 := Int.emod_nonneg x (show ((2 ^ k : Nat) : Int) ≠ 0 by omega)
  have h2 := Int.emod_lt_of_pos x (show (0 : Int) < ((2 ^ k : Nat) : Int) by omega)
  exact IntWalk.i64_in _ (by omega)
theorem and_15 (x : Int) : bits .and .i64 x 15 = x % 16 := and_low_i64 x 4 (by decide)
theorem and_31 (x : Int) : bits .and .i64 x 31 = x % 32 := and_low_i64 x 5 (by decide)
theorem and_63 (x : Int) : bits .and .i64 x 63 = x % 64 := and_low_i64 x 6 (by decide)
theorem and_255 (x : Int) : bits .and .i64 x 255 = x % 256 := and_low_i64 x 8 (by decide)
theorem and_1023 (x : Int) : bits .and .i64 x 1023 = x % 1024 := and_low_i64 x 10 (by decide)
theorem and_65535 (x : Int) : bits .and .i64 x 65535 = x % 65536 := and_low_i64 x 16 (by decide)
/-- two numbers of 16 bits side by side. -/
theorem or_side (h l : Int) (h0 : 0 ≤ h) (h1 : h < 65536) (l0 : 0 ≤ l) (l1 : l < 65536) : bits .or .i64 (h * 65536) l = h * 65536 + l := by
  obtain ⟨x, rfl⟩ := Int.eq_ofNat_of_zero_le h0
  obtain ⟨y, rfl⟩ := Int.eq_ofNat_of_zero_le l0
  show IntKind.i64.wrap ((BitVec.ofInt 64 ((x : Int) * 65536) ||| BitVec.ofInt 64 (y : Int)).toNat : Int) = _
  rw [BitVec.toNat_or, ofInt64_nat, ofInt64_nat]
  have e1 : (((x : Int) * 65536) % 18446744073709551616).toNat = 2 ^ 16 * x := by omega
  have e2 : (((y : Int)) % 18446744073709551616).toNat = y := by omega
  rw [e1, e2, ← Nat.two_pow_add_eq_or_of_lt (by omega)]
  rw [IntWalk.i64_in _ (by omega)]
  omega
end Go.Proofs.Ytadlecnlgkhneaa
