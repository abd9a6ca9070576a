/-
  NUMBERS FOR NETS: a net's node is its bits behind a one.
-/
import Derived.Test.YtadlecnlgkhneaaIpPlain
namespace Go.Proofs.Ytadlecnlgkhneaa

/-- the node of a net of i bits. -/
def keyN (a i : Nat) : Nat := 2 ^ i + a / 2 ^ (32 - i)
theorem keyN_0 (a : Nat) (ha : a < 4294967296) : keyN a 0 = 1 := by
  unfold keyN
  rw [Nat.div_eq_of_lt (by simpa using ha)]
theorem keyN_succ (a i : Nat) (hi : i < 32) : keyN a (i + 1) = 2 * keyN a i + a / 2 ^ (31 - i) % 2 := by
  unfold keyN
  have h1 : 32 - (i + 1) = 31 - i := by omega
  have h2 : 2 ^ (32 - i) = 2 ^ (31 - i) * 2 := by rw [show 32 - i = (31 - i) + 1 by omega, Nat.pow_succ]
  rw [h1, h2, ← Nat.div_div_eq_div_mul, Nat.pow_succ]
  generalize a / 2 ^ (31 - i) = x
  generalize 2 ^ i = y
  omega
theorem keyN_half (a i : Nat) (hi : i < 32) : keyN a (i + 1) / 2 = keyN a i := by rw [keyN_succ a i hi]; omega
theorem keyN_mod (a i : Nat) (hi : i < 32) : keyN a (i + 1) % 2 = a / 2 ^ (31 - i) % 2 := by rw [keyN_succ a i hi]; omega
theorem keyN_lo (a i : Nat) : 2 ^ i ≤ keyN a i := Nat.le_add_right _ _
theorem keyN_pos (a i : Nat) : 1 ≤ keyN a i := Nat.le_trans (Nat.pow_pos (by decide)) (keyN_lo a i)
theorem keyN_two (a i : Nat) : 2 ≤ keyN a (i + 1) := Nat.le_trans (by rw [Nat.pow_succ]; have := Nat.pow_pos (n := i) (show 0 < 2 by decide); omega) (keyN_lo a (i + 1))
theorem keyN_hi (a i : Nat) (ha : a < 4294967296) (hi : i ≤ 32) : keyN a i < 2 ^ (i + 1) := by
  unfold keyN
  have : a / 2 ^ (32 - i) < 2 ^ i := by
    refine Nat.div_lt_of_lt_mul ?_
    rw [← Nat.pow_add, show 32 - i + i = 32 by omega]
    exact ha
  rw [Nat.pow_succ]
  omega
theorem keyN_deep (a i : Nat) (ha : a < 4294967296) (hi : i ≤ 32) : keyN a i < 2 ^ 33 := by
  refine Nat.lt_of_lt_of_le (keyN_hi a i ha hi) (Nat.pow_le_pow_right (by decide) (by omega))
theorem keyN_len {a b i j : Nat} (ha : a < 4294967296) (hb : b < 4294967296) (hi : i ≤ 32) (hj : j ≤ 32) (h : keyN a i = keyN b j) : i = j := by
  have a1 := keyN_lo a i
  have a2 := keyN_hi a i ha hi
  have b1 := keyN_lo b j
  have b2 := keyN_hi b j hb hj
  rw [h] at a1 a2
  have h1 : i < j + 1 := (Nat.pow_lt_pow_iff_right (by decide)).1 (Nat.lt_of_le_of_lt a1 b2)
  have h2 : j < i + 1 := (Nat.pow_lt_pow_iff_right (by decide)).1 (Nat.lt_of_le_of_lt b1 a2)
  omega
theorem keyN_inj {a b i j : Nat} (ha : a < 4294967296) (hb : b < 4294967296) (hi : i ≤ 32) (hj : j ≤ 32) (h : keyN a i = keyN b j) : i = j ∧ a / 2 ^ (32 - i) = b / 2 ^ (32 - i) := by
  obtain rfl := keyN_len ha hb hi hj h
  refine ⟨rfl, ?_⟩
  unfold keyN at h
  omega
theorem bit_key (a i : Nat) (hi : i < 32) : bitI (a : Int) (i : Int) = ((a / 2 ^ (31 - i) % 2 : Nat) : Int) := by
  have := bitI_nat a (31 - i) (by omega)
  rw [show (31 - ((31 - i : Nat) : Int)) = (i : Int) by omega] at this
  exact this
end Go.Proofs.Ytadlecnlgkhneaa
