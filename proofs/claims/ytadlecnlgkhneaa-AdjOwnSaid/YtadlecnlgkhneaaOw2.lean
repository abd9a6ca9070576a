/- Texts of one proof, one behind another. -/
import Derived.Laws.BitsAllLaws
import Derived.RowKit
import Derived.Test.YtadlecnlgkhneaaRows
import Derived.Test.YtadlecnlgkhneaaOw1
import Derived.ProofKit
import Derived.OpenShut
import Derived.Deep.Slices
import Derived.OwnWalk
import Derived.Maps.AppendAt
import Derived.Deep.MidRow
import Derived.Lib.SlBuf
/-
  PLAIN ARITHMETIC FOR THE ADDRESSES AND PREFIXES: no program in sight. Masks of 32 bits, the number that is left of an address under a mask, bits of an address.
-/
namespace Go.Proofs.Ytadlecnlgkhneaa
open Go.RowKit (wrap64 wrap32)

theorem cases33 {P : Nat → Prop} (k : Nat) (hk : k ≤ 32) (h0 : P 0) (h1 : P 1) (h2 : P 2) (h3 : P 3) (h4 : P 4) (h5 : P 5) (h6 : P 6) (h7 : P 7) (h8 : P 8) (h9 : P 9) (h10 : P 10) (h11 : P 11) (h12 : P 12) (h13 : P 13) (h14 : P 14) (h15 : P 15) (h16 : P 16)
    (h17 : P 17) (h18 : P 18) (h19 : P 19) (h20 : P 20) (h21 : P 21) (h22 : P 22) (h23 : P 23) (h24 : P 24) (h25 : P 25) (h26 : P 26) (h27 : P 27) (h28 : P 28) (h29 : P 29) (h30 : P 30) (h31 : P 31) (h32 : P 32) : P k := by
  match k, hk with
  | 0, _ => exact h0
  | 1, _ => exact h1
  | 2, _ => exact h2
  | 3, _ => exact h3
  | 4, _ => exact h4
  | 5, _ => exact h5
  | 6, _ => exact h6
  | 7, _ => exact h7
  | 8, _ => exact h8
  | 9, _ => exact h9
  | 10, _ => exact h10
  | 11, _ => exact h11
  | 12, _ => exact h12
  | 13, _ => exact h13
  | 14, _ => exact h14
  | 15, _ => exact h15
  | 16, _ => exact h16
  | 17, _ => exact h17
  | 18, _ => exact h18
  | 19, _ => exact h19
  | 20, _ => exact h20
  | 21, _ => exact h21
  | 22, _ => exact h22
  | 23, _ => exact h23
  | 24, _ => exact h24
  | 25, _ => exact h25
  | 26, _ => exact h26
  | 27, _ => exact h27
  | 28, _ => exact h28
  | 29, _ => exact h29
  | 30, _ => exact h30
  | 31, _ => exact h31
  | 32, _ => exact h32
  | k + 33, h => omega

/-- n brought into 0 to 32. -/
def cl (n : Int) : Int := min (max n 0) 32
theorem cl_lo (n : Int) : 0 ≤ cl n := by unfold cl; omega
theorem cl_hi (n : Int) : cl n ≤ 32 := by unfold cl; omega
theorem cl_of (n : Int) (h0 : 0 ≤ n) (h : n ≤ 32) : cl n = n := by unfold cl; omega
/-- how many low bits a mask of length n leaves out. -/
def lowN (n : Int) : Nat := (32 - cl n).toNat
theorem lowN_le (n : Int) : lowN n ≤ 32 := by have := cl_lo n; unfold lowN; omega
theorem lowN_of (n : Int) (h0 : 0 ≤ n) (h : n ≤ 32) : lowN n = (32 - n).toNat := by unfold lowN; rw [cl_of n h0 h]
/-- the mask of length n, as a number. -/
def maskI (n : Int) : Int := 4294967296 - 2 ^ lowN n
/-- what is left of a under that mask. -/
def keepI (a n : Int) : Int := a - a % 2 ^ lowN n

theorem pow33 (k : Nat) (hk : k ≤ 32) : (4294967295 * 2 ^ k % 4294967296 : Int) = 4294967296 - 2 ^ k := by
  refine cases33 (P := fun k => (4294967295 * 2 ^ k % 4294967296 : Int) = 4294967296 - 2 ^ k) k hk ?_ ?_ ?_ ?_ ?_ ?_ ?_ ?_ ?_ ?_ ?_ ?_ ?_ ?_ ?_ ?_ ?_ ?_ ?_ ?_ ?_ ?_ ?_ ?_ ?_ ?_ ?_ ?_ ?_ ?_ ?_ ?_ ?_ <;> decide
theorem mask_walk (n : Int) : (4294967295 * 2 ^ (32 - cl n).toNat % 4294967296 : Int) = maskI n := pow33 _ (lowN_le n)
theorem pow_pos33 (k : Nat) : (0 : Int) < 2 ^ k := Int.pow_pos (by decide)
theorem pow_le33 (k : Nat) (hk : k ≤ 32) : (2 ^ k : Int) ≤ 4294967296 := by
  refine cases33 (P := fun k => (2 ^ k : Int) ≤ 4294967296) k hk ?_ ?_ ?_ ?_ ?_ ?_ ?_ ?_ ?_ ?_ ?_ ?_ ?_ ?_ ?_ ?_ ?_ ?_ ?_ ?_ ?_ ?_ ?_ ?_ ?_ ?_ ?_ ?_ ?_ ?_ ?_ ?_ ?_ <;> decide
theorem maskI_lo (n : Int) : 0 ≤ maskI n := by have := pow_le33 _ (lowN_le n); unfold maskI; omega
theorem maskI_hi (n : Int) : maskI n < 4294967296 := by have := pow_pos33 (lowN n); unfold maskI; omega
theorem keepI_lo (a n : Int) (h0 : 0 ≤ a) : 0 ≤ keepI a n := by
  unfold keepI
  have hp := pow_pos33 (lowN n)
  have h1 := Int.mul_ediv_add_emod a (2 ^ lowN n)
  have h2 : 0 ≤ 2 ^ lowN n * (a / 2 ^ lowN n) := Int.mul_nonneg (by omega) (Int.ediv_nonneg h0 (by omega))
  omega
theorem keepI_le (a n : Int) : keepI a n ≤ a := by
  unfold keepI
  have h1 : 0 ≤ a % 2 ^ lowN n := Int.emod_nonneg a (by have := pow_pos33 (lowN n); omega)
  omega

theorem nat_and_mask (a k : Nat) (ha : a < 4294967296) (hk : k ≤ 32) : a &&& (4294967296 - 2 ^ k) = a - a % 2 ^ k := by
  have e1 : 4294967296 - 2 ^ k = (2 ^ (32 - k) - 1) <<< k := by
    rw [Nat.shiftLeft_eq, Nat.sub_mul, ← Nat.pow_add, show 32 - k + k = 32 by omega]; omega
  have e2 : a - a % 2 ^ k = (a >>> k) <<< k := by
    rw [Nat.shiftLeft_eq, Nat.shiftRight_eq_div_pow]
    have := Nat.div_add_mod a (2 ^ k)
    rw [Nat.mul_comm] at this
    omega
  rw [e1, e2]
  apply Nat.eq_of_testBit_eq
  intro i
  rw [Nat.testBit_and, Nat.testBit_shiftLeft, Nat.testBit_shiftLeft, Nat.testBit_two_pow_sub_one, Nat.testBit_shiftRight]
  by_cases hi : k ≤ i
  · rw [show k + (i - k) = i by omega]
    by_cases h32 : i < 32
    · have : i - k < 32 - k := by omega
      simp [hi, this]
    · have hlt : a < 2 ^ i := Nat.lt_of_lt_of_le ha (by have : 2 ^ 32 ≤ 2 ^ i := Nat.pow_le_pow_right (by decide) (by omega); omega)
      rw [Nat.testBit_lt_two_pow hlt]; simp
  · simp [hi]
theorem and_mask (a n : Int) (h0 : 0 ≤ a) (h : a < 4294967296) : bits .and .u32 a (maskI n) = keepI a n := by
  rw [u32_and a _ h0 h (maskI_lo n) (maskI_hi n)]
  obtain ⟨x, rfl⟩ := Int.eq_ofNat_of_zero_le h0
  have e : (maskI n).toNat = 4294967296 - 2 ^ lowN n := by
    unfold maskI
    have h1 := pow_le33 _ (lowN_le n)
    have h2 : ((2 : Int) ^ lowN n) = ((2 ^ lowN n : Nat) : Int) := by simp
    rw [h2] at h1 ⊢; omega
  have hle : x % 2 ^ lowN n ≤ x := Nat.mod_le _ _
  rw [e, Int.toNat_natCast, nat_and_mask x _ (by omega) (lowN_le n), keepI]
  have h2 : ((x : Int) % 2 ^ lowN n) = ((x % 2 ^ lowN n : Nat) : Int) := by simp
  rw [h2]; omega

/-- the bit n of an address: bit 0 is its highest. -/
def bitI (a n : Int) : Int := if 0 ≤ n ∧ n < 32 then a / 2 ^ (31 - n).toNat % 2 else 0
theorem bitI_01 (a n : Int) : bitI a n = 0 ∨ bitI a n = 1 := by
  unfold bitI
  split
  · generalize a / 2 ^ (31 - n).toNat = x; omega
  · exact .inl rfl
theorem and_one (x : Int) (h0 : 0 ≤ x) (h : x < 4294967296) : bits .and .u32 x 1 = x % 2 := by
  rw [u32_and x 1 h0 h (by decide) (by decide)]
  obtain ⟨y, rfl⟩ := Int.eq_ofNat_of_zero_le h0
  have : y &&& 1 = y % 2 := Nat.and_one_is_mod y
  simp [this]
theorem bit_walk (a n : Int) (h0 : 0 ≤ a) (h : a < 4294967296) (hn0 : 0 ≤ n) (hn : n < 32) : wrap64 (bits .and .u32 (a / 2 ^ (31 - n).toNat) 1) = bitI a n := by
  have hp := pow_pos33 (31 - n).toNat
  have h1 : 0 ≤ a / 2 ^ (31 - n).toNat := Int.ediv_nonneg h0 (by omega)
  have h2 : a / 2 ^ (31 - n).toNat ≤ a := Int.ediv_le_self _ h0
  rw [and_one _ h1 (by omega), bitI, if_pos ⟨hn0, hn⟩]
  generalize a / 2 ^ (31 - n).toNat = x at *
  unfold wrap64; omega

/-! ### Prefixes -/
/-- is a net in its form? -/
def rightB (a n : Int) : Bool := a == keepI a n && n == cl n
/-- does an address lie in a net? -/
def hasB (a n x : Int) : Bool := rightB a n && keepI x n == a
/-- does one net cover another one? -/
def coversB (a n b m : Int) : Bool := rightB b m && decide (n ≤ m) && hasB a n b
/-- the number of an answer: 0 for right, 1 for a wrong argument. -/
def errI (b : Bool) : Int := if b then 0 else 1
theorem errI_zero (b : Bool) : (errI b == 0) = b := by cases b <;> rfl
theorem rightB_no {a n : Int} (h : (!a == keepI a n) = true ∨ (!n == cl n) = true) : rightB a n = false := by
  unfold rightB; cases h1 : (a == keepI a n) <;> cases h2 : (n == cl n) <;> simp [h1, h2] at h ⊢
theorem rightB_yes {a n : Int} (h : (!a == keepI a n) = false ∧ (!n == cl n) = false) : rightB a n = true := by
  unfold rightB; cases h1 : (a == keepI a n) <;> cases h2 : (n == cl n) <;> simp [h1, h2] at h ⊢
theorem rightB_iff (a n : Int) : rightB a n = true ↔ a % 2 ^ lowN n = 0 ∧ 0 ≤ n ∧ n ≤ 32 := by
  unfold rightB keepI
  have h1 := cl_lo n
  have h2 := cl_hi n
  rw [Bool.and_eq_true, beq_iff_eq, beq_iff_eq]
  constructor
  · rintro ⟨ha, hn⟩; exact ⟨by omega, by omega, by omega⟩
  · rintro ⟨ha, hn, hn'⟩; exact ⟨by omega, (cl_of n hn hn').symm⟩
theorem rightB_range {a n : Int} (h : rightB a n = true) : 0 ≤ n ∧ n ≤ 32 := ((rightB_iff a n).1 h).2
theorem rightB_out {a n : Int} (h : n < 0 ∨ 32 < n) : rightB a n = false := by
  cases hr : rightB a n
  · rfl
  · have := rightB_range hr; omega

/-! ### Bits -/
theorem low_bits (x : Nat) : ∀ K : Nat, (x % 2 ^ K = 0) ↔ ∀ i, i < K → x / 2 ^ i % 2 = 0
  | 0 => by simp; omega
  | K + 1 => by
    have ih := low_bits x K
    have e := Nat.mod_pow_succ (x := x) (b := 2) (k := K)
    have hp : 0 < 2 ^ K := Nat.two_pow_pos K
    have h2 : x / 2 ^ K % 2 = 0 ∨ x / 2 ^ K % 2 = 1 := by omega
    rw [e]
    constructor
    · intro h i hi
      rcases h2 with h2 | h2
      · rw [h2] at h
        rcases Nat.lt_or_ge i K with h3 | h3
        · exact ih.1 (by omega) i h3
        · obtain rfl : i = K := by omega
          exact h2
      · rw [h2] at h; omega
    · intro h
      rw [ih.2 (fun i hi => h i (by omega)), h K (by omega)]; simp
theorem bitI_nat (x i : Nat) (hi : i < 32) : bitI (x : Int) (31 - (i : Int)) = ((x / 2 ^ i % 2 : Nat) : Int) := by
  unfold bitI
  rw [if_pos (by omega)]
  have e : (31 - (31 - (i : Int))).toNat = i := by omega
  rw [e]; simp
theorem right_bits (a : Int) (m : Nat) (h0 : 0 ≤ a) (hm : m ≤ 32) : rightB a m = true ↔ ∀ j : Nat, m ≤ j → j < 32 → bitI a j = 0 := by
  obtain ⟨x, rfl⟩ := Int.eq_ofNat_of_zero_le h0
  rw [rightB_iff, lowN_of _ (by omega) (by omega), show (32 - (m : Int)).toNat = 32 - m by omega]
  have e : ((x : Int) % 2 ^ (32 - m)) = ((x % 2 ^ (32 - m) : Nat) : Int) := by simp
  rw [e]
  have hl := low_bits x (32 - m)
  constructor
  · rintro ⟨h, _⟩ j hj hj'
    have := hl.1 (by omega) (31 - j) (by omega)
    have hb := bitI_nat x (31 - j) (by omega)
    rw [show (31 - ((31 - j : Nat) : Int)) = (j : Int) by omega, this] at hb
    exact hb
  · intro h
    refine ⟨?_, by omega, by omega⟩
    have := hl.2 (fun i hi => by
      have hb := bitI_nat x i (by omega)
      have h2 := h (31 - i) (by omega) (by omega)
      rw [show ((31 - i : Nat) : Int) = 31 - (i : Int) by omega, hb] at h2
      omega)
    omega
theorem nat_eq_bits (p q n : Nat) (hp : p < 2 ^ n) (hq : q < 2 ^ n) (h : ∀ i, i < n → p / 2 ^ i % 2 = q / 2 ^ i % 2) : p = q := by
  apply Nat.eq_of_testBit_eq
  intro i
  rw [Nat.testBit_eq_decide_div_mod_eq, Nat.testBit_eq_decide_div_mod_eq]
  rcases Nat.lt_or_ge i n with hi | hi
  · rw [h i hi]
  · have h1 : 2 ^ n ≤ 2 ^ i := Nat.pow_le_pow_right (by decide) hi
    rw [Nat.div_eq_of_lt (by omega), Nat.div_eq_of_lt (by omega)]
theorem keep_div (a n : Int) : keepI a n = 2 ^ lowN n * (a / 2 ^ lowN n) := by
  have := Int.mul_ediv_add_emod a (2 ^ lowN n)
  unfold keepI; omega
theorem keep_right (a n : Int) (h : rightB a n = true) : keepI a n = a := by
  have := (rightB_iff a n).1 h
  unfold keepI; omega
/-- equal under a mask just if the first bits are equal. -/
theorem keep_bits (x y : Int) (m : Nat) (hx0 : 0 ≤ x) (hx : x < 4294967296) (hy0 : 0 ≤ y) (hy : y < 4294967296) (hm : m ≤ 32) : keepI x m = keepI y m ↔ ∀ j : Nat, j < m → bitI x j = bitI y j := by
  obtain ⟨p, rfl⟩ := Int.eq_ofNat_of_zero_le hx0
  obtain ⟨q, rfl⟩ := Int.eq_ofNat_of_zero_le hy0
  have hK : lowN (m : Int) = 32 - m := by rw [lowN_of _ (by omega) (by omega)]; omega
  rw [keep_div, keep_div, hK]
  have hpos : (0 : Int) < 2 ^ (32 - m) := pow_pos33 _
  have e1 : ((p : Int) / 2 ^ (32 - m)) = ((p / 2 ^ (32 - m) : Nat) : Int) := by simp
  have e2 : ((q : Int) / 2 ^ (32 - m)) = ((q / 2 ^ (32 - m) : Nat) : Int) := by simp
  have hmul : (2 ^ (32 - m) * ((p : Int) / 2 ^ (32 - m)) = 2 ^ (32 - m) * ((q : Int) / 2 ^ (32 - m))) ↔ p / 2 ^ (32 - m) = q / 2 ^ (32 - m) := by
    rw [e1, e2]
    constructor
    · intro h
      have := Int.eq_of_mul_eq_mul_left (by omega) h
      omega
    · intro h; rw [h]
  rw [hmul]
  have hb : ∀ (z i : Nat), i < m → z / 2 ^ (32 - m) / 2 ^ i % 2 = z / 2 ^ (32 - m + i) % 2 := fun z i _ => by rw [Nat.div_div_eq_div_mul, Nat.pow_add]
  have hj : ∀ (z j : Nat), j < m → bitI (z : Int) j = ((z / 2 ^ (32 - m + (m - 1 - j)) % 2 : Nat) : Int) := fun z j hjm => by
    have := bitI_nat z (31 - j) (by omega)
    rw [show (31 - ((31 - j : Nat) : Int)) = (j : Int) by omega] at this
    rw [this, show 32 - m + (m - 1 - j) = 31 - j by omega]
  have hlt : ∀ z : Nat, z < 4294967296 → z / 2 ^ (32 - m) < 2 ^ m := fun z hz => by
    rw [Nat.div_lt_iff_lt_mul (Nat.two_pow_pos _), ← Nat.pow_add, show m + (32 - m) = 32 by omega]; omega
  constructor
  · intro h j hjm
    rw [hj p j hjm, hj q j hjm, ← hb p _ (by omega), ← hb q _ (by omega), h]
  · intro h
    refine nat_eq_bits _ _ m (hlt p (by omega)) (hlt q (by omega)) (fun i hi => ?_)
    rw [hb p i hi, hb q i hi]
    have := h (m - 1 - i) (by omega)
    rw [hj p _ (by omega), hj q _ (by omega), show m - 1 - (m - 1 - i) = i by omega] at this
    omega
theorem has_bits (a x : Int) (m : Nat) (h0 : 0 ≤ a) (h : a < 4294967296) (k0 : 0 ≤ x) (k : x < 4294967296) (hm : m ≤ 32) (hr : rightB a m = true) : hasB a m x = true ↔ ∀ j : Nat, j < m → bitI a j = bitI x j := by
  unfold hasB
  rw [hr, Bool.true_and, beq_iff_eq]
  have := keep_bits a x m h0 h k0 k hm
  rw [keep_right a m hr] at this
  rw [← this]
  exact eq_comm
theorem Has_ref {a n x : Int} : hasB a n x = (rightB a n && keepI x n == a) := rfl

/-! ### A number out of its bits -/
def numF (f : Nat → Int) : Nat → Int
  | 0 => 0
  | k + 1 => (2 * numF f k + f k % 4294967296) % 4294967296
theorem numF_congr (f g : Nat → Int) : ∀ k, (∀ j, j < k → f j = g j) → numF f k = numF g k
  | 0, _ => rfl
  | k + 1, h => by rw [numF, numF, numF_congr f g k (fun j hj => h j (by omega)), h k (by omega)]
def oneF (n : Int) (j : Nat) : Int := if (j : Int) < n then 1 else 0
theorem num_mask (n : Int) : numF (oneF n) 32 = maskI n := by
  have e : numF (oneF n) 32 = numF (oneF ((32 - lowN n : Nat) : Int)) 32 := numF_congr _ _ _ (fun j hj => by
    unfold oneF lowN
    have h1 := cl_lo n
    have h2 := cl_hi n
    have h3 : (j : Int) < n ↔ (j : Int) < ((32 - (32 - cl n).toNat : Nat) : Int) := by unfold cl at *; omega
    by_cases h : (j : Int) < n
    · rw [if_pos h, if_pos (h3.1 h)]
    · rw [if_neg h, if_neg (fun h' => h (h3.2 h'))])
  rw [e]
  unfold maskI
  generalize hk : lowN n = k
  have hk' : k ≤ 32 := by rw [← hk]; exact lowN_le n
  refine cases33 (P := fun k => numF (oneF ((32 - k : Nat) : Int)) 32 = 4294967296 - 2 ^ k) k hk' ?_ ?_ ?_ ?_ ?_ ?_ ?_ ?_ ?_ ?_ ?_ ?_ ?_ ?_ ?_ ?_ ?_ ?_ ?_ ?_ ?_ ?_ ?_ ?_ ?_ ?_ ?_ ?_ ?_ ?_ ?_ ?_ ?_ <;> decide +kernel

/-! ### A number under its own mask -/
theorem lowN_cl (n : Int) : lowN (cl n) = lowN n := by unfold lowN cl; omega
theorem keepI_cl (a n : Int) : keepI a (cl n) = keepI a n := by unfold keepI; rw [lowN_cl]
theorem keepI_mod (a n : Int) : keepI a n % 2 ^ lowN n = 0 := by rw [keep_div]; exact Int.mul_emod_right _ _
theorem right_keep (a n : Int) : rightB (keepI a n) (cl n) = true := by
  rw [rightB_iff, lowN_cl]; exact ⟨keepI_mod a n, cl_lo n, cl_hi n⟩
theorem keep_keep (a n : Int) : keepI (keepI a n) n = keepI a n := by
  have := keepI_mod a n
  show keepI a n - keepI a n % 2 ^ lowN n = keepI a n
  omega
theorem has_keep (a n : Int) : hasB (keepI a n) (cl n) a = true := by
  unfold hasB; rw [right_keep, keepI_cl]; simp
end Go.Proofs.Ytadlecnlgkhneaa

/-
  NUMBERS FOR NETS: a net's node is its bits behind a one.
-/
namespace Go.Proofs.Ytadlecnlgkhneaa

/-- the node of a net of i bits. -/
def keyN (a i : Nat) : Nat := 2 ^ i + a / 2 ^ (32 - i)
theorem keyN_0 (a : Nat) (ha : a < 4294967296) : keyN a 0 = 1 := by
  unfold keyN
  rw [Nat.div_eq_of_lt (by simpa using ha)]
theorem keyN_succ (a i : Nat) (hi : i < 32) : keyN a (i + 1) = 2 * keyN a i + a / 2 ^ (31 - i) % 2 := by
  unfold keyN
  have h1 : 32 - (i + 1) = 31 - i := by omega
  have h2 : 2 ^ (32 - i) = 2 ^ (31 - i) * 2 := by rw [show 32 - i = (31 - i) + 1 by omega, Nat.pow_succ]
  rw [h1, h2, ← Nat.div_div_eq_div_mul, Nat.pow_succ]
  generalize a / 2 ^ (31 - i) = x
  generalize 2 ^ i = y
  omega
theorem keyN_half (a i : Nat) (hi : i < 32) : keyN a (i + 1) / 2 = keyN a i := by rw [keyN_succ a i hi]; omega
theorem keyN_mod (a i : Nat) (hi : i < 32) : keyN a (i + 1) % 2 = a / 2 ^ (31 - i) % 2 := by rw [keyN_succ a i hi]; omega
theorem keyN_lo (a i : Nat) : 2 ^ i ≤ keyN a i := Nat.le_add_right _ _
theorem keyN_pos (a i : Nat) : 1 ≤ keyN a i := Nat.le_trans (Nat.pow_pos (by decide)) (keyN_lo a i)
theorem keyN_two (a i : Nat) : 2 ≤ keyN a (i + 1) := Nat.le_trans (by rw [Nat.pow_succ]; have := Nat.pow_pos (n := i) (show 0 < 2 by decide); omega) (keyN_lo a (i + 1))
theorem keyN_hi (a i : Nat) (ha : a < 4294967296) (hi : i ≤ 32) : keyN a i < 2 ^ (i + 1) := by
  unfold keyN
  have : a / 2 ^ (32 - i) < 2 ^ i := by
    refine Nat.div_lt_of_lt_mul ?_
    rw [← Nat.pow_add, show 32 - i + i = 32 by omega]
    exact ha
  rw [Nat.pow_succ]
  omega
theorem keyN_deep (a i : Nat) (ha : a < 4294967296) (hi : i ≤ 32) : keyN a i < 2 ^ 33 := by
  refine Nat.lt_of_lt_of_le (keyN_hi a i ha hi) (Nat.pow_le_pow_right (by decide) (by omega))
theorem keyN_len {a b i j : Nat} (ha : a < 4294967296) (hb : b < 4294967296) (hi : i ≤ 32) (hj : j ≤ 32) (h : keyN a i = keyN b j) : i = j := by
  have a1 := keyN_lo a i
  have a2 := keyN_hi a i ha hi
  have b1 := keyN_lo b j
  have b2 := keyN_hi b j hb hj
  rw [h] at a1 a2
  have h1 : i < j + 1 := (Nat.pow_lt_pow_iff_right (by decide)).1 (Nat.lt_of_le_of_lt a1 b2)
  have h2 : j < i + 1 := (Nat.pow_lt_pow_iff_right (by decide)).1 (Nat.lt_of_le_of_lt b1 a2)
  omega
theorem keyN_inj {a b i j : Nat} (ha : a < 4294967296) (hb : b < 4294967296) (hi : i ≤ 32) (hj : j ≤ 32) (h : keyN a i = keyN b j) : i = j ∧ a / 2 ^ (32 - i) = b / 2 ^ (32 - i) := by
  obtain rfl := keyN_len ha hb hi hj h
  refine ⟨rfl, ?_⟩
  unfold keyN at h
  omega
theorem bit_key (a i : Nat) (hi : i < 32) : bitI (a : Int) (i : Int) = ((a / 2 ^ (31 - i) % 2 : Nat) : Int) := by
  have := bitI_nat a (31 - i) (by omega)
  rw [show (31 - ((31 - i : Nat) : Int)) = (i : Int) by omega] at this
  exact this
end Go.Proofs.Ytadlecnlgkhneaa

/-
  FOR THE STATEMENTS' LAST STEP: what the arguments are, by their types.
-/
namespace Go.Proofs.Ytadlecnlgkhneaa
open Go.RowKit Go.ChangeShapes Go.WideShapes Go.ChangeAt

theorem fr_own : ownKnob Try.prog.godebug = none := by kernel_rfl
theorem fr_laidOut : laidOutB Try.prog = true := by kernel_rfl

section
variable {w : World} {r : Reach} {b : Nat}
set_option maxRecDepth 100000 in
theorem cell_int {t : TypeId} {k : IntKind} {v : Value} (ht : Try.prog.underlying t = some (.int k)) (h : Cell.okWide Try.prog w r b t v) : ∃ n, v = .int k n ∧ k.has n := by
  simp only [Cell.okWide, ht] at h
  cases v <;> simp_all [Cell.ok]
theorem has_u32 {n : Int} (h : IntKind.u32.has n) : 0 ≤ n ∧ n < 4294967296 := by
  simp [IntKind.has, IntKind.min, IntKind.max, IntKind.bits, IntKind.signed] at h; omega
theorem has_i64 {n : Int} (h : IntKind.i64.has n) : -9223372036854775808 ≤ n ∧ n ≤ 9223372036854775807 := by
  simp [IntKind.has, IntKind.min, IntKind.max, IntKind.bits, IntKind.signed] at h; omega
set_option maxRecDepth 100000 in
theorem open_i64 {v : Value} (h : Value.okWide Try.prog w r b 3 v) : ∃ n, v = .int .i64 n ∧ -9223372036854775808 ≤ n ∧ n ≤ 9223372036854775807 := by
  simp only [Value.okWide, Try.underlying3] at h
  obtain ⟨n, rfl, hn⟩ := cell_int Try.underlying3 h
  exact ⟨n, rfl, has_i64 hn⟩
set_option maxRecDepth 100000 in
theorem open_u32 {v : Value} (h : Value.okWide Try.prog w r b 27 v) : ∃ n, v = .int .u32 n ∧ 0 ≤ n ∧ n < 4294967296 := by
  simp only [Value.okWide, Try.underlying27] at h
  obtain ⟨n, rfl, hn⟩ := cell_int Try.underlying27 h
  exact ⟨n, rfl, has_u32 hn⟩
set_option maxRecDepth 100000 in
theorem open_pref {v : Value} (h : Value.okWide Try.prog w r b 29 v) : ∃ a n, v = .agg #[.int .u32 a, .int .i64 n] ∧ 0 ≤ a ∧ a < 4294967296 ∧ -9223372036854775808 ≤ n ∧ n ≤ 9223372036854775807 := by
  simp only [Value.okWide, Try.underlying29] at h
  obtain ⟨cs, rfl, hsz, ts, hts, _, hc⟩ := h
  have e : Try.prog.cellTypes Try.prog.depth 29 = some [27, 3] := by kernel_rfl
  rw [e] at hts
  obtain rfl := Option.some.inj hts
  have hn : Try.prog.cellsOf 29 = 2 := by kernel_rfl
  rw [hn] at hsz
  match cs, hsz with
  | ⟨[x, y]⟩, _ =>
    obtain ⟨u0, hu0, h0⟩ := hc 0 x (by simp)
    obtain ⟨u1, hu1, h1⟩ := hc 1 y (by simp)
    simp at hu0 hu1
    subst hu0; subst hu1
    obtain ⟨a, rfl, ha⟩ := cell_int Try.underlying27 h0
    obtain ⟨n, rfl, hn⟩ := cell_int Try.underlying3 h1
    exact ⟨a, n, rfl, (has_u32 ha).1, (has_u32 ha).2, (has_i64 hn).1, (has_i64 hn).2⟩
end
end Go.Proofs.Ytadlecnlgkhneaa

/-
  SLICES OF WHATEVER: what a slice holds, element by element: 'k' cells each, 'R' says what an element's cells are; slices that a caller hands in, opened.
-/
namespace Go.Proofs.Ytadlecnlgkhneaa
open Go.RowKit Go.ChangeShapes Go.WideShapes

def SlAt {α : Type} (w : World) (k : Nat) (R : α → List Value → Prop) (v : Value) (xs : List α) : Prop :=
  ∃ (sa : Option Addr) (cap : Nat), v = .slice sa xs.length cap ∧ xs.length ≤ cap ∧ cap ≤ maxLen ∧ (0 < xs.length → ∃ b off : Nat, sa = some ⟨b, off, none⟩ ∧
    ∀ (i : Nat) (x : α), xs[i]? = some x → ∃ cs : List Value, cs.length = k ∧ R x cs ∧ ∀ (j : Nat) (c : Value), cs[j]? = some c → w.cell? ⟨b, off + i * k + j, none⟩ = some c)
theorem SlAt.below {α : Type} {w w' : World} {k : Nat} {R R' : α → List Value → Prop} {v : Value} {xs : List α} (h : SlAt w k R v xs) (hb : Below w.heap.size w w') (hR : ∀ x cs, R x cs → R' x cs) : SlAt w' k R' v xs := by
  obtain ⟨sa, cap, h1, h2, h3, h4⟩ := h
  refine ⟨sa, cap, h1, h2, h3, fun h0 => ?_⟩
  obtain ⟨b, off, h5, h6⟩ := h4 h0
  refine ⟨b, off, h5, fun i x hx => ?_⟩
  obtain ⟨cs, c1, c2, c3⟩ := h6 i x hx
  exact ⟨cs, c1, hR _ _ c2, fun j c hc => cell_below (c3 j c hc) hb⟩
theorem SlAt.nil {α : Type} {w : World} {k : Nat} {R : α → List Value → Prop} : SlAt w k R (.slice none 0 0) ([] : List α) := ⟨none, 0, rfl, Nat.le_refl _, by simp [maxLen], fun h => absurd h (by simp)⟩
theorem SlAt.imp {α : Type} {w : World} {k : Nat} {R R' : α → List Value → Prop} {v : Value} {xs : List α} (h : SlAt w k R v xs) (hR : ∀ x cs, x ∈ xs → R x cs → R' x cs) : SlAt w k R' v xs := by
  obtain ⟨sa, cap, h1, h2, h3, h4⟩ := h
  refine ⟨sa, cap, h1, h2, h3, fun h0 => ?_⟩
  obtain ⟨b, off, h5, h6⟩ := h4 h0
  refine ⟨b, off, h5, fun i x hx => ?_⟩
  obtain ⟨cs, c1, c2, c3⟩ := h6 i x hx
  exact ⟨cs, c1, hR _ _ (List.mem_of_getElem? hx) c2, c3⟩

section
variable {H : Type} {enc : TypeId × Value → H} {w : World} {base : Nat} {spare : Nat → Bool} {held : Bool}
theorem open_sl {α : Type} {t e : TypeId} {k f : Nat} {R : α → List Value → Prop} {cs : List Value} {x : DataW H × List MemPlace} (ht : Try.prog.underlying t = some (.slice e)) (hk : Try.prog.cellsOf e = k) (hk0 : 0 < k)
    (hR : ∀ f cs y, DataW.trod enc Try.prog w base spare held f e cs = some y → ∃ a : α, R a cs) (h : DataW.trod enc Try.prog w base spare held f t cs = some x) : ∃ v xs, cs = [v] ∧ SlAt w k R v xs := by
  rcases Deep.open_slice ht h with ⟨h1, _⟩ | ⟨a, len, cap, m, n, D, Pl, h1, _, hlc, hcap, hm, _, hx⟩
  · exact ⟨_, [], h1, SlAt.nil⟩
  · rw [hk] at hx
    have hlm : len ≤ m := by rw [hm]; split <;> omega
    have hone : ∀ i : Fin len, ∃ z : α × List Value, z.2.length = k ∧ R z.1 z.2 ∧ ∀ j c, z.2[j]? = some c → w.cell? (a.add (i.val * k + j)) = some c := by
      intro i
      obtain ⟨cs', hcs, ht⟩ := hx i.val (by omega)
      obtain ⟨y, hy⟩ := hR _ _ _ ht
      obtain ⟨_, hl, hat⟩ := World.cells?_some hcs
      refine ⟨(y, cs'), hl, hy, fun j c hc => ?_⟩
      have hj : j < k := by rw [← hl]; exact (List.getElem?_eq_some_iff.1 hc).1
      have := hat j hj
      rw [Deep.add_add] at this
      rw [this]; exact hc
    have hch := Classical.axiomOfChoice hone
    obtain ⟨g, hg⟩ := hch
    refine ⟨_, List.ofFn fun i => (g i).1, h1, some a, cap, by simp, by simp; omega, hcap, fun h0 => ?_⟩
    have h0' : 0 < len := by simpa using h0
    have hsp : a.spot = none := by
      obtain ⟨e1, _, e3⟩ := hg ⟨0, h0'⟩
      have hlt : 0 < (g ⟨0, h0'⟩).2.length := by rw [e1]; exact hk0
      have hc := e3 0 _ (List.getElem?_eq_getElem hlt)
      have e : a.add (0 * k + 0) = a := by unfold Addr.add; simp
      simp only at hc
      rw [e] at hc
      unfold World.cell? at hc
      cases hq : a.spot with
      | none => rfl
      | some q => rw [hq] at hc; simp at hc; split at hc <;> simp at hc
    have had : ∀ k, a.add k = ⟨a.block, a.off + k, none⟩ := fun k => by
      unfold Addr.add
      split
      · rename_i hk; subst hk; cases a; simp at hsp; simp [hsp]
      · rfl
    refine ⟨a.block, a.off, by cases a; simp at hsp; simp [hsp], fun i s hi => ?_⟩
    have hil : i < len := by
      have := (List.getElem?_eq_some_iff.1 hi).1
      simpa using this
    rw [List.getElem?_ofFn] at hi
    simp [hil] at hi
    subst hi
    obtain ⟨e1, e2, e3⟩ := hg ⟨i, hil⟩
    refine ⟨_, e1, e2, fun j c hc => ?_⟩
    have := e3 j c hc
    rw [had, ← Nat.add_assoc] at this
    exact this
def I64r (n : Int) : Prop := -9223372036854775808 ≤ n ∧ n ≤ 9223372036854775807
def IntC (n : Int) (cs : List Value) : Prop := cs = [.int .i64 n] ∧ I64r n
theorem sl_i64 {f : Nat} {c : List Value} {y : DataW H × List MemPlace} (h : DataW.trod enc Try.prog w base spare held f 3 c = some y) : ∃ n : Int, IntC n c := by
  obtain ⟨n, h1, _, h2⟩ := DataW.trod_int Try.underlying3 h
  refine ⟨n, h1, ?_⟩
  simp [Lit.wf, IntKind.min, IntKind.max, IntKind.bits, IntKind.signed] at h2
  unfold I64r; omega
end
/-- integers in memory. -/
abbrev IntsAt (w : World) (v : Value) (xs : List Int) : Prop := SlAt w 1 IntC v xs
theorem IntsAt.below {w w' : World} {v : Value} {xs : List Int} (h : IntsAt w v xs) (hb : Below w.heap.size w w') : IntsAt w' v xs := SlAt.below h hb fun _ _ h => h
end Go.Proofs.Ytadlecnlgkhneaa

/-
  ATTRIBUTES: what they hold, in memory; attributes that a caller hands in, opened.
-/
namespace Go.Proofs.Ytadlecnlgkhneaa
open Go.RowKit Go.ChangeShapes Go.WideShapes

abbrev Sg := Bool × List Int
abbrev Oth := Int × List Nat
structure At where
  has : Int
  origin : Int
  path : List Sg
  hop : Nat
  med : Int
  loc : Int
  aggrAs : Int
  aggrId : Nat
  comms : List Int
  others : List Oth
def ByteC (n : Nat) (cs : List Value) : Prop := cs = [.int .u8 n] ∧ n < 256
abbrev BytesAt (w : World) (v : Value) (xs : List Nat) : Prop := SlAt w 1 ByteC v xs
def SegC (w : World) (s : Sg) (cs : List Value) : Prop := ∃ u, cs = [.bool s.1, u] ∧ IntsAt w u s.2
def OthC (w : World) (o : Oth) (cs : List Value) : Prop := ∃ u, cs = [.int .i64 o.1, u] ∧ I64r o.1 ∧ BytesAt w u o.2
abbrev PathAt (w : World) (v : Value) (p : List Sg) : Prop := SlAt w 2 (SegC w) v p
abbrev OthersAt (w : World) (v : Value) (os : List Oth) : Prop := SlAt w 2 (OthC w) v os
theorem BytesAt.below {w w' : World} {v : Value} {xs : List Nat} (h : BytesAt w v xs) (hb : Below w.heap.size w w') : BytesAt w' v xs := SlAt.below h hb fun _ _ h => h
theorem SegC.below {w w' : World} {s : Sg} {cs : List Value} (h : SegC w s cs) (hb : Below w.heap.size w w') : SegC w' s cs := by
  obtain ⟨u, h1, h2⟩ := h; exact ⟨u, h1, h2.below hb⟩
theorem OthC.below {w w' : World} {s : Oth} {cs : List Value} (h : OthC w s cs) (hb : Below w.heap.size w w') : OthC w' s cs := by
  obtain ⟨u, h1, h2, h3⟩ := h; exact ⟨u, h1, h2, h3.below hb⟩
theorem PathAt.below {w w' : World} {v : Value} {p : List Sg} (h : PathAt w v p) (hb : Below w.heap.size w w') : PathAt w' v p := SlAt.below h hb fun _ _ h => h.below hb
theorem OthersAt.below {w w' : World} {v : Value} {p : List Oth} (h : OthersAt w v p) (hb : Below w.heap.size w w') : OthersAt w' v p := SlAt.below h hb fun _ _ h => h.below hb
/-- the values of attributes: three of them are slices. -/
def atV (a : At) (vp vc vo : Value) : List Value := [.int .i64 a.has, .int .i64 a.origin, vp, .int .u32 a.hop, .int .i64 a.med, .int .i64 a.loc, .int .i64 a.aggrAs, .int .u32 a.aggrId, vc, vo]
def At.Rng (a : At) : Prop := I64r a.has ∧ I64r a.origin ∧ a.hop < 4294967296 ∧ I64r a.med ∧ I64r a.loc ∧ I64r a.aggrAs ∧ a.aggrId < 4294967296
def AtL (w : World) (a : At) (vp vc vo : Value) : Prop := PathAt w vp a.path ∧ IntsAt w vc a.comms ∧ OthersAt w vo a.others
theorem AtL.below {w w' : World} {a : At} {vp vc vo : Value} (h : AtL w a vp vc vo) (hb : Below w.heap.size w w') : AtL w' a vp vc vo := ⟨h.1.below hb, h.2.1.below hb, h.2.2.below hb⟩
def AtC (w : World) (a : At) (cs : List Value) : Prop := ∃ vp vc vo, cs = atV a vp vc vo ∧ a.Rng ∧ AtL w a vp vc vo
theorem AtC.below {w w' : World} {a : At} {cs : List Value} (h : AtC w a cs) (hb : Below w.heap.size w w') : AtC w' a cs := by
  obtain ⟨vp, vc, vo, h1, h2, h3⟩ := h; exact ⟨vp, vc, vo, h1, h2, h3.below hb⟩
section
variable {H : Type} {enc : TypeId × Value → H} {w : World} {base : Nat} {spare : Nat → Bool} {held : Bool}
theorem sl_u32 {f : Nat} {c : List Value} {y : DataW H × List MemPlace} (h : DataW.trod enc Try.prog w base spare held f 27 c = some y) : ∃ n : Nat, c = [.int .u32 n] ∧ n < 4294967296 := by
  obtain ⟨n, h1, _, h2⟩ := DataW.trod_int Try.underlying27 h
  simp [Lit.wf, IntKind.min, IntKind.max, IntKind.bits, IntKind.signed] at h2
  obtain ⟨m, rfl⟩ := Int.eq_ofNat_of_zero_le (show 0 ≤ n by omega)
  exact ⟨m, h1, by omega⟩
theorem sl_u8 {f : Nat} {c : List Value} {y : DataW H × List MemPlace} (h : DataW.trod enc Try.prog w base spare held f 5 c = some y) : ∃ n : Nat, ByteC n c := by
  obtain ⟨n, h1, _, h2⟩ := DataW.trod_int Try.underlying5 h
  simp [Lit.wf, IntKind.min, IntKind.max, IntKind.bits, IntKind.signed] at h2
  obtain ⟨m, rfl⟩ := Int.eq_ofNat_of_zero_le (show 0 ≤ n by omega)
  exact ⟨m, h1, by omega⟩
theorem sl_ints {f : Nat} {c : List Value} {y : DataW H × List MemPlace} (h : DataW.trod enc Try.prog w base spare held f 32 c = some y) : ∃ v xs, c = [v] ∧ IntsAt w v xs :=
  open_sl Try.underlying32 (by kernel_rfl) (by decide) (fun _ _ _ h => sl_i64 h) h
theorem sl_bytes {f : Nat} {c : List Value} {y : DataW H × List MemPlace} (h : DataW.trod enc Try.prog w base spare held f 95 c = some y) : ∃ v xs, c = [v] ∧ BytesAt w v xs :=
  open_sl Try.underlying95 (by kernel_rfl) (by decide) (fun _ _ _ h => sl_u8 h) h
set_option maxRecDepth 100000 in
theorem sl_seg {f : Nat} {cs : List Value} {x : DataW H × List MemPlace} (h : DataW.trod enc Try.prog w base spare held f 54 cs = some x) : ∃ s : Sg, SegC w s cs := by
  obtain ⟨xs, n, _, _, hl, hxl, hf⟩ := DataW.trod_struct Try.underlying54 h
  have hc2 : Try.prog.cellsOf 54 = 2 := by kernel_rfl
  have hcb : Try.prog.cellsOf 4 = 1 := by kernel_rfl
  have hci : Try.prog.cellsOf 32 = 1 := by kernel_rfl
  rw [hc2] at hl
  match cs, hl with
  | [c0, c1], _ =>
    match xs, hxl with
    | [x0, x1], _ =>
      have e0 := hf 0 _ rfl
      have e1 := hf 1 _ rfl
      simp [hcb, hci] at e0 e1
      obtain ⟨s, hs, _⟩ := DataW.trod_bool Try.underlying4 e0
      obtain ⟨v, l, hv, hi⟩ := sl_ints e1
      simp at hs hv
      subst hs; subst hv
      exact ⟨(s, l), c1, rfl, hi⟩
set_option maxRecDepth 100000 in
theorem sl_other {f : Nat} {cs : List Value} {x : DataW H × List MemPlace} (h : DataW.trod enc Try.prog w base spare held f 97 cs = some x) : ∃ s : Oth, OthC w s cs := by
  obtain ⟨xs, n, _, _, hl, hxl, hf⟩ := DataW.trod_struct Try.underlying97 h
  have hc2 : Try.prog.cellsOf 97 = 2 := by kernel_rfl
  have hcb : Try.prog.cellsOf 3 = 1 := by kernel_rfl
  have hci : Try.prog.cellsOf 95 = 1 := by kernel_rfl
  rw [hc2] at hl
  match cs, hl with
  | [c0, c1], _ =>
    match xs, hxl with
    | [x0, x1], _ =>
      have e0 := hf 0 _ rfl
      have e1 := hf 1 _ rfl
      simp [hcb, hci] at e0 e1
      obtain ⟨s, hs, ir⟩ := sl_i64 e0
      obtain ⟨v, l, hv, hi⟩ := sl_bytes e1
      simp at hs hv
      subst hs; subst hv
      exact ⟨(s, l), c1, rfl, ir, hi⟩
set_option maxRecDepth 100000 in
theorem sl_attrs {f : Nat} {cs : List Value} {x : DataW H × List MemPlace} (h : DataW.trod enc Try.prog w base spare held f 35 cs = some x) : ∃ a : At, AtC w a cs := by
  obtain ⟨xs, n, _, _, hl, hxl, hf⟩ := DataW.trod_struct Try.underlying35 h
  have hc : Try.prog.cellsOf 35 = 10 := by kernel_rfl
  have hc0 : Try.prog.cellsOf 3 = 1 := by kernel_rfl
  have hc1 : Try.prog.cellsOf 31 = 1 := by kernel_rfl
  have hc2 : Try.prog.cellsOf 27 = 1 := by kernel_rfl
  have hc3 : Try.prog.cellsOf 32 = 1 := by kernel_rfl
  have hc4 : Try.prog.cellsOf 33 = 1 := by kernel_rfl
  rw [hc] at hl
  match cs, hl with
  | [c0, c1, c2, c3, c4, c5, c6, c7, c8, c9], _ =>
    match xs, hxl with
    | [x0, x1, x2, x3, x4, x5, x6, x7, x8, x9], _ =>
      have e0 := hf 0 _ rfl
      have e1 := hf 1 _ rfl
      have e2 := hf 2 _ rfl
      have e3 := hf 3 _ rfl
      have e4 := hf 4 _ rfl
      have e5 := hf 5 _ rfl
      have e6 := hf 6 _ rfl
      have e7 := hf 7 _ rfl
      have e8 := hf 8 _ rfl
      have e9 := hf 9 _ rfl
      simp [hc0, hc1, hc2, hc3, hc4] at e0 e1 e2 e3 e4 e5 e6 e7 e8 e9
      obtain ⟨has, q0, i0⟩ := sl_i64 e0
      obtain ⟨origin, q1, i1⟩ := sl_i64 e1
      obtain ⟨vp, path, q2, i2⟩ := open_sl (k := 2) (R := SegC w) Try.underlying31 (by kernel_rfl) (by decide) (fun _ _ _ h => sl_seg h) e2
      obtain ⟨hop, q3, i3⟩ := sl_u32 e3
      obtain ⟨med, q4, i4⟩ := sl_i64 e4
      obtain ⟨loc, q5, i5⟩ := sl_i64 e5
      obtain ⟨aggrAs, q6, i6⟩ := sl_i64 e6
      obtain ⟨aggrId, q7, i7⟩ := sl_u32 e7
      obtain ⟨vc, comms, q8, i8⟩ := sl_ints e8
      obtain ⟨vo, others, q9, i9⟩ := open_sl (k := 2) (R := OthC w) Try.underlying33 (by kernel_rfl) (by decide) (fun _ _ _ h => sl_other h) e9
      simp at q0 q1 q2 q3 q4 q5 q6 q7 q8 q9
      subst q0; subst q1; subst q2; subst q3; subst q4; subst q5; subst q6; subst q7; subst q8; subst q9
      exact ⟨⟨has, origin, path, hop, med, loc, aggrAs, aggrId, comms, others⟩, c2, c8, c9, rfl, ⟨i0, i1, i3, i4, i5, i6, i7⟩, i2, i8, i9⟩
end
end Go.Proofs.Ytadlecnlgkhneaa

/-
  SLICES OF THE CALL'S OWN, element by element: made by append; made at once and filled.
-/
namespace Go.Proofs.Ytadlecnlgkhneaa
open Go.RowKit

section
variable {α : Type} {k : Nat} {C : α → List Value}
theorem flat_len (hC : ∀ x, (C x).length = k) (xs : List α) : (xs.flatMap C).length = xs.length * k := by
  induction xs with
  | nil => simp
  | cons x xs ih => rw [List.flatMap_cons, List.length_append, ih, hC, List.length_cons, Nat.succ_mul]; omega
theorem flat_get (hC : ∀ x, (C x).length = k) : ∀ (xs : List α) (i : Nat) (x : α), xs[i]? = some x → ∀ j, j < k → (xs.flatMap C)[i * k + j]? = (C x)[j]?
  | [], i, x, h, _, _ => by simp at h
  | y :: xs, 0, x, h, j, hj => by
    simp at h; subst h
    rw [List.flatMap_cons, Nat.zero_mul, Nat.zero_add, List.getElem?_append_left (by rw [hC]; exact hj)]
  | y :: xs, i + 1, x, h, j, hj => by
    have ih := flat_get hC xs i x (by simpa using h) j hj
    rw [List.flatMap_cons, List.getElem?_append_right (by rw [hC, Nat.succ_mul]; omega), hC, ← ih]
    congr 1
    rw [Nat.succ_mul]; omega
theorem own_slat {w : World} {B : Nat} {e : TypeId} {v : Value} {xs : List α} (hC : ∀ x, (C x).length = k) (h : w.ownsRow B e k v xs.length (xs.flatMap C)) : SlAt w k (fun x cs => cs = C x) v xs := by
  obtain ⟨_, ⟨rfl, h0⟩ | ⟨g, cap, cur, rfl, _, hg, hn, hm, _, hcur⟩⟩ := h
  · obtain rfl := List.length_eq_zero_iff.1 h0
    exact SlAt.nil
  · refine ⟨some ⟨g, 0, none⟩, cap, rfl, hn, hm, fun _ => ⟨g, 0, rfl, fun i x hx => ⟨C x, hC x, rfl, fun j c hc => ?_⟩⟩⟩
    have hj : j < k := by rw [← hC x]; exact (List.getElem?_eq_some_iff.1 hc).1
    have hi : i < xs.length := (List.getElem?_eq_some_iff.1 hx).1
    have hf := flat_get hC xs i x hx j hj
    rw [← hcur, hc, List.getElem?_take_of_lt (by
      have : (i + 1) * k ≤ xs.length * k := Nat.mul_le_mul_right _ hi
      rw [Nat.succ_mul] at this; omega)] at hf
    rw [row_cell hg, Nat.zero_add]
    simpa using hf
theorem own_below {w w' : World} {B : Nat} {e : TypeId} {n : Nat} {v : Value} {xs : List Value} (h : w.ownsRow B e k v n xs) (hb : Below w.heap.size w w') : w'.ownsRow B e k v n xs := by
  obtain ⟨h1, h2⟩ := h
  refine ⟨h1, h2.imp_right ?_⟩
  rintro ⟨g, cap, cur, h3, h4, h5, h6⟩
  exact ⟨g, cap, cur, h3, h4, (hb.block g (row_lt h5)).trans h5, h6⟩
theorem own_form_le {w : World} {B : Nat} {e : TypeId} {n : Nat} {v : Value} {xs : List Value} (h : w.ownsRow B e k v n xs) : ∀ g, v.ownBlock = some g → B ≤ g := by
  obtain ⟨_, ⟨rfl, _⟩ | ⟨g, cap, cur, rfl, hB, _⟩⟩ := h
  · intro g hg; cases hg
  · intro g' hg; cases hg; exact hB
theorem flat_snoc (xs : List α) (x : α) : (xs ++ [x]).flatMap C = xs.flatMap C ++ C x := by simp
theorem flat_one (h : ∀ x, ∀ u ∈ C x, u.oneCell' = true) (xs : List α) : ∀ u ∈ xs.flatMap C, u.oneCell' = true := by
  intro u hu
  obtain ⟨x, _, hx⟩ := List.mem_flatMap.1 hu
  exact h x u hx
/-- the first elements of a row that is being filled. -/
def Filled (w : World) (b k : Nat) (C : α → List Value) (xs : List α) : Prop := ∀ (i : Nat) (x : α), xs[i]? = some x → w.rangeAt b (i * k) (C x)
theorem there_below {w w' : World} {b o n : Nat} (h : w.there b o n) (hb : Below w.heap.size w w') : w'.there b o n := by
  intro j hj
  obtain ⟨h1, h2⟩ := h j hj
  obtain ⟨v, hv⟩ := Option.isSome_iff_exists.1 h1
  have hlt := size_lt hv
  exact ⟨by rw [cell_below hv hb]; rfl, (hb.frozen (p := ⟨b, o + j, none⟩) hlt).trans h2⟩
theorem Filled.below {w w' : World} {b : Nat} {xs : List α} (h : Filled w b k C xs) (hb : Below w.heap.size w w') : Filled w' b k C xs := fun i x hx j v hv => cell_below (h i x hx j v hv) hb
theorem Filled.set {w : World} {b n : Nat} {xs : List α} (hC : ∀ x, (C x).length = k) (h : Filled w b k C xs) (ht : w.there b 0 (n * k)) (hn : xs.length < n) (x : α) :
    Filled (w.setCells b (xs.length * k) (C x)) b k C (xs ++ [x]) ∧ (w.setCells b (xs.length * k) (C x)).there b 0 (n * k) := by
  refine ⟨fun i y hy => ?_, World.there_setCells ht _ _ _⟩
  by_cases hi : i < xs.length
  · rw [List.getElem?_append_left hi] at hy
    refine World.rangeAt_setCells_apart (h i y hy) _ _ _ (.inr (.inl ?_))
    rw [hC]
    have : (i + 1) * k ≤ xs.length * k := Nat.mul_le_mul_right _ hi
    rw [Nat.succ_mul] at this; exact this
  · rw [List.getElem?_append_right (by omega)] at hy
    have e : i = xs.length := by
      have := (List.getElem?_eq_some_iff.1 hy).1
      simp at this; omega
    subst e
    simp at hy; subst hy
    refine World.rangeAt_setCells_same _ _ _ _ (fun j hj => ?_)
    rw [hC] at hj
    have := ht (xs.length * k + j) (by
      have : (xs.length + 1) * k ≤ n * k := Nat.mul_le_mul_right _ hn
      rw [Nat.succ_mul] at this; omega)
    rw [Nat.zero_add] at this
    exact this
theorem Filled.slat {w : World} {b n : Nat} {xs : List α} (hC : ∀ x, (C x).length = k) (h : Filled w b k C xs) (hn : xs.length = n) (hm : n ≤ maxLen) : SlAt w k (fun x cs => cs = C x) (.slice (some ⟨b, 0, none⟩) n n) xs := by
  subst hn
  refine ⟨_, _, rfl, Nat.le_refl _, hm, fun _ => ⟨b, 0, rfl, fun i x hx => ⟨C x, hC x, rfl, fun j c hc => ?_⟩⟩⟩
  rw [Nat.zero_add]
  exact h i x hx j c hc
theorem Filled.nil {w : World} {b : Nat} : Filled w b k C ([] : List α) := fun i x hx => by simp at hx
theorem there_own {w : World} {B : Nat} {e : TypeId} {g n : Nat} {xs : List Value} (h : w.ownsRow B e k (.slice (some ⟨g, 0, none⟩) n n) n xs) : w.there g 0 (n * k) := by
  obtain ⟨_, ⟨h1, _⟩ | ⟨g', cap, cur, h1, _, hg, _, _, hsz, _⟩⟩ := h
  · cases h1
  · injection h1 with e1 e2 e3
    injection e1 with e1
    injection e1 with e1
    subst e1; subst e3
    intro j hj
    have hlt : j < cur.size := by rw [hsz]; exact hj
    rw [Nat.zero_add]
    exact ⟨by rw [row_cell hg, Array.getElem?_eq_getElem hlt]; rfl, row_free hg j⟩
end
theorem new_cells (W : World) (C : Array Value) (T : TypeId) : ∀ (j : Nat) (u : Value), C.toList[j]? = some u → (W.alloc (.cells C T)).cell? ((⟨W.heap.size, 0, none⟩ : Addr).add j) = some u := by
  intro j u hu
  have hr := heap_alloc_new W (.cells C T)
  have : (⟨W.heap.size, 0, none⟩ : Addr).add j = ⟨W.heap.size, j, none⟩ := by
    unfold Addr.add; split
    · next h => rw [h]
    · simp
  rw [this, row_cell hr]
  simpa using hu
/-- an empty slice of the call's own. -/
theorem own_empty {w : World} {B : Nat} {e : TypeId} {k : Nat} (hB : B ≤ w.heap.size) : (w.alloc (.cells #[] e)).ownsRow B e k (.slice (some ⟨w.heap.size, 0, none⟩) 0 0) 0 [] :=
  ⟨by simp, .inr ⟨w.heap.size, 0, #[], rfl, hB, heap_alloc_new w _, Nat.le_refl _, by simp [maxLen], by simp, by simp⟩⟩
theorem own_setRow {w : World} {B g k : Nat} {e : TypeId} {n : Nat} {v : Value} {xs : List Value} (h : w.ownsRow B e k v n xs) (hg : g < B) (C : Array Value) : (w.setRow g C).ownsRow B e k v n xs := by
  obtain ⟨h1, h2⟩ := h
  refine ⟨h1, h2.imp_right ?_⟩
  rintro ⟨b, cap, cur, h3, h4, h5, h6⟩
  exact ⟨b, cap, cur, h3, h4, by rw [setRow_other _ _ _ _ (by omega)]; exact h5, h6⟩
end Go.Proofs.Ytadlecnlgkhneaa
