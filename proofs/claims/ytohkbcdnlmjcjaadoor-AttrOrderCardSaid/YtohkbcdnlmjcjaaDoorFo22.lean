/- Texts of one proof, one behind another. -/
import Derived.Laws.BitsAllLaws
import Derived.RowKit
import Derived.Test.YtohkbcdnlmjcjaaDoorFo6
import Derived.Deep.Heap
import Derived.Test.YtohkbcdnlmjcjaaDoorFo4
import Derived.Test.YtohkbcdnlmjcjaaDoorFo1
import Derived.Test.YtohkbcdnlmjcjaaDoorFo9
import Derived.Deep.MidRow
import Derived.StillTailTactics
/-
  PLAIN ARITHMETIC FOR THE ADDRESSES AND PREFIXES: no program in sight. Masks of 32 bits, the number that is left of an address under a mask, bits of an address.
-/
namespace Go.Proofs.YtohkbcdnlmjcjaaDoor
open Go.RowKit (wrap64 wrap32)

set_option maxRecDepth 100000 in
theorem cases33 {P : Nat → Prop} (k : Nat) (hk : k ≤ 32) (h0 : P 0) (h1 : P 1) (h2 : P 2) (h3 : P 3) (h4 : P 4) (h5 : P 5) (h6 : P 6) (h7 : P 7) (h8 : P 8) (h9 : P 9) (h10 : P 10) (h11 : P 11) (h12 : P 12) (h13 : P 13) (h14 : P 14) (h15 : P 15) (h16 : P 16)
    (h17 : P 17) (h18 : P 18) (h19 : P 19) (h20 : P 20) (h21 : P 21) (h22 : P 22) (h23 : P 23) (h24 : P 24) (h25 : P 25) (h26 : P 26) (h27 : P 27) (h28 : P 28) (h29 : P 29) (h30 : P 30) (h31 : P 31) (h32 : P 32) : P k := by
  match k, hk with
  | 0, _ => exact h0
  | 1, _ => exact h1
  | 2, _ => exact h2
  | 3, _ => exact h3
  | 4, _ => exact h4
  | 5, _ => exact h5
  | 6, _ => exact h6
  | 7, _ => exact h7
  | 8, _ => exact h8
  | 9, _ => exact h9
  | 10, _ => exact h10
  | 11, _ => exact h11
  | 12, _ => exact h12
  | 13, _ => exact h13
  | 14, _ => exact h14
  | 15, _ => exact h15
  | 16, _ => exact h16
  | 17, _ => exact h17
  | 18, _ => exact h18
  | 19, _ => exact h19
  | 20, _ => exact h20
  | 21, _ => exact h21
  | 22, _ => exact h22
  | 23, _ => exact h23
  | 24, _ => exact h24
  | 25, _ => exact h25
  | 26, _ => exact h26
  | 27, _ => exact h27
  | 28, _ => exact h28
  | 29, _ => exact h29
  | 30, _ => exact h30
  | 31, _ => exact h31
  | 32, _ => exact h32
  | k + 33, h => omega

/-- n brought into 0 to 32. -/
def cl (n : Int) : Int := min (max n 0) 32
set_option maxRecDepth 100000 in
theorem cl_lo (n : Int) : 0 ≤ cl n := by unfold cl; omega
set_option maxRecDepth 100000 in
theorem cl_hi (n : Int) : cl n ≤ 32 := by unfold cl; omega
set_option maxRecDepth 100000 in
theorem cl_of (n : Int) (h0 : 0 ≤ n) (h : n ≤ 32) : cl n = n := by unfold cl; omega
/-- how many low bits a mask of length n leaves out. -/
def lowN (n : Int) : Nat := (32 - cl n).toNat
set_option maxRecDepth 100000 in
theorem lowN_le (n : Int) : lowN n ≤ 32 := by have := cl_lo n; unfold lowN; omega
set_option maxRecDepth 100000 in
theorem lowN_of (n : Int) (h0 : 0 ≤ n) (h : n ≤ 32) : lowN n = (32 - n).toNat := by unfold lowN; rw [cl_of n h0 h]
/-- the mask of length n, as a number. -/
def maskI (n : Int) : Int := 4294967296 - 2 ^ lowN n
/-- what is left of a under that mask. -/
def keepI (a n : Int) : Int := a - a % 2 ^ lowN n

set_option maxRecDepth 100000 in
theorem pow33 (k : Nat) (hk : k ≤ 32) : (4294967295 * 2 ^ k % 4294967296 : Int) = 4294967296 - 2 ^ k := by
  refine cases33 (P := fun k => (4294967295 * 2 ^ k % 4294967296 : Int) = 4294967296 - 2 ^ k) k hk ?_ ?_ ?_ ?_ ?_ ?_ ?_ ?_ ?_ ?_ ?_ ?_ ?_ ?_ ?_ ?_ ?_ ?_ ?_ ?_ ?_ ?_ ?_ ?_ ?_ ?_ ?_ ?_ ?_ ?_ ?_ ?_ ?_ <;> decide
set_option maxRecDepth 100000 in
theorem mask_walk (n : Int) : (4294967295 * 2 ^ (32 - cl n).toNat % 4294967296 : Int) = maskI n := pow33 _ (lowN_le n)
set_option maxRecDepth 100000 in
theorem pow_pos33 (k : Nat) : (0 : Int) < 2 ^ k := Int.pow_pos (by decide)
set_option maxRecDepth 100000 in
theorem pow_le33 (k : Nat) (hk : k ≤ 32) : (2 ^ k : Int) ≤ 4294967296 := by
  refine cases33 (P := fun k => (2 ^ k : Int) ≤ 4294967296) k hk ?_ ?_ ?_ ?_ ?_ ?_ ?_ ?_ ?_ ?_ ?_ ?_ ?_ ?_ ?_ ?_ ?_ ?_ ?_ ?_ ?_ ?_ ?_ ?_ ?_ ?_ ?_ ?_ ?_ ?_ ?_ ?_ ?_ <;> decide
set_option maxRecDepth 100000 in
theorem maskI_lo (n : Int) : 0 ≤ maskI n := by have := pow_le33 _ (lowN_le n); unfold maskI; omega
set_option maxRecDepth 100000 in
theorem maskI_hi (n : Int) : maskI n < 4294967296 := by have := pow_pos33 (lowN n); unfold maskI; omega
set_option maxRecDepth 100000 in
theorem keepI_lo (a n : Int) (h0 : 0 ≤ a) : 0 ≤ keepI a n := by
  unfold keepI
  have hp := pow_pos33 (lowN n)
  have h1 := Int.mul_ediv_add_emod a (2 ^ lowN n)
  have h2 : 0 ≤ 2 ^ lowN n * (a / 2 ^ lowN n) := Int.mul_nonneg (by omega) (Int.ediv_nonneg h0 (by omega))
  omega
set_option maxRecDepth 100000 in
theorem keepI_le (a n : Int) : keepI a n ≤ a := by
  unfold keepI
  have h1 : 0 ≤ a % 2 ^ lowN n := Int.emod_nonneg a (by have := pow_pos33 (lowN n); omega)
  omega

set_option maxRecDepth 100000 in
theorem nat_and_mask (a k : Nat) (ha : a < 4294967296) (hk : k ≤ 32) : a &&& (4294967296 - 2 ^ k) = a - a % 2 ^ k := by
  have e1 : 4294967296 - 2 ^ k = (2 ^ (32 - k) - 1) <<< k := by
    rw [Nat.shiftLeft_eq, Nat.sub_mul, ← Nat.pow_add, show 32 - k + k = 32 by omega]; omega
  have e2 : a - a % 2 ^ k = (a >>> k) <<< k := by
    rw [Nat.shiftLeft_eq, Nat.shiftRight_eq_div_pow]
    have := Nat.div_add_mod a (2 ^ k)
    rw [Nat.mul_comm] at this
    omega
  rw [e1, e2]
  apply Nat.eq_of_testBit_eq
  intro i
  rw [Nat.testBit_and, Nat.testBit_shiftLeft, Nat.testBit_shiftLeft, Nat.testBit_two_pow_sub_one, Nat.testBit_shiftRight]
  by_cases hi : k ≤ i
  · rw [show k + (i - k) = i by omega]
    by_cases h32 : i < 32
    · have : i - k < 32 - k := by omega
      simp [hi, this]
    · have hlt : a < 2 ^ i := Nat.lt_of_lt_of_le ha (by have : 2 ^ 32 ≤ 2 ^ i := Nat.pow_le_pow_right (by decide) (by omega); omega)
      rw [Nat.testBit_lt_two_pow hlt]; simp
  · simp [hi]
set_option maxRecDepth 100000 in
theorem and_mask (a n : Int) (h0 : 0 ≤ a) (h : a < 4294967296) : bits .and .u32 a (maskI n) = keepI a n := by
  rw [u32_and a _ h0 h (maskI_lo n) (maskI_hi n)]
  obtain ⟨x, rfl⟩ := Int.eq_ofNat_of_zero_le h0
  have e : (maskI n).toNat = 4294967296 - 2 ^ lowN n := by
    unfold maskI
    have h1 := pow_le33 _ (lowN_le n)
    have h2 : ((2 : Int) ^ lowN n) = ((2 ^ lowN n : Nat) : Int) := by simp
    rw [h2] at h1 ⊢; omega
  have hle : x % 2 ^ lowN n ≤ x := Nat.mod_le _ _
  rw [e, Int.toNat_natCast, nat_and_mask x _ (by omega) (lowN_le n), keepI]
  have h2 : ((x : Int) % 2 ^ lowN n) = ((x % 2 ^ lowN n : Nat) : Int) := by simp
  rw [h2]; omega

/-- the bit n of an address: bit 0 is its highest. -/
def bitI (a n : Int) : Int := if 0 ≤ n ∧ n < 32 then a / 2 ^ (31 - n).toNat % 2 else 0
set_option maxRecDepth 100000 in
theorem bitI_01 (a n : Int) : bitI a n = 0 ∨ bitI a n = 1 := by
  unfold bitI
  split
  · generalize a / 2 ^ (31 - n).toNat = x; omega
  · exact .inl rfl
set_option maxRecDepth 100000 in
theorem and_one (x : Int) (h0 : 0 ≤ x) (h : x < 4294967296) : bits .and .u32 x 1 = x % 2 := by
  rw [u32_and x 1 h0 h (by decide) (by decide)]
  obtain ⟨y, rfl⟩ := Int.eq_ofNat_of_zero_le h0
  have : y &&& 1 = y % 2 := Nat.and_one_is_mod y
  simp [this]
set_option maxRecDepth 100000 in
theorem bit_walk (a n : Int) (h0 : 0 ≤ a) (h : a < 4294967296) (hn0 : 0 ≤ n) (hn : n < 32) : wrap64 (bits .and .u32 (a / 2 ^ (31 - n).toNat) 1) = bitI a n := by
  have hp := pow_pos33 (31 - n).toNat
  have h1 : 0 ≤ a / 2 ^ (31 - n).toNat := Int.ediv_nonneg h0 (by omega)
  have h2 : a / 2 ^ (31 - n).toNat ≤ a := Int.ediv_le_self _ h0
  rw [and_one _ h1 (by omega), bitI, if_pos ⟨hn0, hn⟩]
  generalize a / 2 ^ (31 - n).toNat = x at *
  unfold wrap64; omega

/-! ### Prefixes -/
/-- is a net in its form? -/
def rightB (a n : Int) : Bool := a == keepI a n && n == cl n
/-- does an address lie in a net? -/
def hasB (a n x : Int) : Bool := rightB a n && keepI x n == a
/-- does one net cover another one? -/
def coversB (a n b m : Int) : Bool := rightB b m && decide (n ≤ m) && hasB a n b
/-- the number of an answer: 0 for right, 1 for a wrong argument. -/
def errI (b : Bool) : Int := if b then 0 else 1
set_option maxRecDepth 100000 in
theorem errI_zero (b : Bool) : (errI b == 0) = b := by cases b <;> rfl
set_option maxRecDepth 100000 in
theorem rightB_no {a n : Int} (h : (!a == keepI a n) = true ∨ (!n == cl n) = true) : rightB a n = false := by
  unfold rightB; cases h1 : (a == keepI a n) <;> cases h2 : (n == cl n) <;> simp [h1, h2] at h ⊢
set_option maxRecDepth 100000 in
theorem rightB_yes {a n : Int} (h : (!a == keepI a n) = false ∧ (!n == cl n) = false) : rightB a n = true := by
  unfold rightB; cases h1 : (a == keepI a n) <;> cases h2 : (n == cl n) <;> simp [h1, h2] at h ⊢
set_option maxRecDepth 100000 in
theorem rightB_iff (a n : Int) : rightB a n = true ↔ a % 2 ^ lowN n = 0 ∧ 0 ≤ n ∧ n ≤ 32 := by
  unfold rightB keepI
  have h1 := cl_lo n
  have h2 := cl_hi n
  rw [Bool.and_eq_true, beq_iff_eq, beq_iff_eq]
  constructor
  · rintro ⟨ha, hn⟩; exact ⟨by omega, by omega, by omega⟩
  · rintro ⟨ha, hn, hn'⟩; exact ⟨by omega, (cl_of n hn hn').symm⟩
set_option maxRecDepth 100000 in
theorem rightB_range {a n : Int} (h : rightB a n = true) : 0 ≤ n ∧ n ≤ 32 := ((rightB_iff a n).1 h).2
set_option maxRecDepth 100000 in
theorem rightB_out {a n : Int} (h : n < 0 ∨ 32 < n) : rightB a n = false := by
  cases hr : rightB a n
  · rfl
  · have := rightB_range hr; omega

/-! ### Bits -/
set_option maxRecDepth 100000 in
theorem low_bits (x : Nat) : ∀ K : Nat, (x % 2 ^ K = 0) ↔ ∀ i, i < K → x / 2 ^ i % 2 = 0
  | 0 => by simp; omega
  | K + 1 => by
    have ih := low_bits x K
    have e := Nat.mod_pow_succ (x := x) (b := 2) (k := K)
    have hp : 0 < 2 ^ K := Nat.two_pow_pos K
    have h2 : x / 2 ^ K % 2 = 0 ∨ x / 2 ^ K % 2 = 1 := by omega
    rw [e]
    constructor
    · intro h i hi
      rcases h2 with h2 | h2
      · rw [h2] at h
        rcases Nat.lt_or_ge i K with h3 | h3
        · exact ih.1 (by omega) i h3
        · obtain rfl : i = K := by omega
          exact h2
      · rw [h2] at h; omega
    · intro h
      rw [ih.2 (fun i hi => h i (by omega)), h K (by omega)]; simp
set_option maxRecDepth 100000 in
theorem bitI_nat (x i : Nat) (hi : i < 32) : bitI (x : Int) (31 - (i : Int)) = ((x / 2 ^ i % 2 : Nat) : Int) := by
  unfold bitI
  rw [if_pos (by omega)]
  have e : (31 - (31 - (i : Int))).toNat = i := by omega
  rw [e]; simp
set_option maxRecDepth 100000 in
theorem right_bits (a : Int) (m : Nat) (h0 : 0 ≤ a) (hm : m ≤ 32) : rightB a m = true ↔ ∀ j : Nat, m ≤ j → j < 32 → bitI a j = 0 := by
  obtain ⟨x, rfl⟩ := Int.eq_ofNat_of_zero_le h0
  rw [rightB_iff, lowN_of _ (by omega) (by omega), show (32 - (m : Int)).toNat = 32 - m by omega]
  have e : ((x : Int) % 2 ^ (32 - m)) = ((x % 2 ^ (32 - m) : Nat) : Int) := by simp
  rw [e]
  have hl := low_bits x (32 - m)
  constructor
  · rintro ⟨h, _⟩ j hj hj'
    have := hl.1 (by omega) (31 - j) (by omega)
    have hb := bitI_nat x (31 - j) (by omega)
    rw [show (31 - ((31 - j : Nat) : Int)) = (j : Int) by omega, this] at hb
    exact hb
  · intro h
    refine ⟨?_, by omega, by omega⟩
    have := hl.2 (fun i hi => by
      have hb := bitI_nat x i (by omega)
      have h2 := h (31 - i) (by omega) (by omega)
      rw [show ((31 - i : Nat) : Int) = 31 - (i : Int) by omega, hb] at h2
      omega)
    omega
set_option maxRecDepth 100000 in
theorem nat_eq_bits (p q n : Nat) (hp : p < 2 ^ n) (hq : q < 2 ^ n) (h : ∀ i, i < n → p / 2 ^ i % 2 = q / 2 ^ i % 2) : p = q := by
  apply Nat.eq_of_testBit_eq
  intro i
  rw [Nat.testBit_eq_decide_div_mod_eq, Nat.testBit_eq_decide_div_mod_eq]
  rcases Nat.lt_or_ge i n with hi | hi
  · rw [h i hi]
  · have h1 : 2 ^ n ≤ 2 ^ i := Nat.pow_le_pow_right (by decide) hi
    rw [Nat.div_eq_of_lt (by omega), Nat.div_eq_of_lt (by omega)]
set_option maxRecDepth 100000 in
theorem keep_div (a n : Int) : keepI a n = 2 ^ lowN n * (a / 2 ^ lowN n) := by
  have := Int.mul_ediv_add_emod a (2 ^ lowN n)
  unfold keepI; omega
set_option maxRecDepth 100000 in
theorem keep_right (a n : Int) (h : rightB a n = true) : keepI a n = a := by
  have := (rightB_iff a n).1 h
  unfold keepI; omega
set_option maxRecDepth 100000 in
/-- equal under a mask just if the first bits are equal. -/
theorem keep_bits (x y : Int) (m : Nat) (hx0 : 0 ≤ x) (hx : x < 4294967296) (hy0 : 0 ≤ y) (hy : y < 4294967296) (hm : m ≤ 32) : keepI x m = keepI y m ↔ ∀ j : Nat, j < m → bitI x j = bitI y j := by
  obtain ⟨p, rfl⟩ := Int.eq_ofNat_of_zero_le hx0
  obtain ⟨q, rfl⟩ := Int.eq_ofNat_of_zero_le hy0
  have hK : lowN (m : Int) = 32 - m := by rw [lowN_of _ (by omega) (by omega)]; omega
  rw [keep_div, keep_div, hK]
  have hpos : (0 : Int) < 2 ^ (32 - m) := pow_pos33 _
  have e1 : ((p : Int) / 2 ^ (32 - m)) = ((p / 2 ^ (32 - m) : Nat) : Int) := by simp
  have e2 : ((q : Int) / 2 ^ (32 - m)) = ((q / 2 ^ (32 - m) : Nat) : Int) := by simp
  have hmul : (2 ^ (32 - m) * ((p : Int) / 2 ^ (32 - m)) = 2 ^ (32 - m) * ((q : Int) / 2 ^ (32 - m))) ↔ p / 2 ^ (32 - m) = q / 2 ^ (32 - m) := by
    rw [e1, e2]
    constructor
    · intro h
      have := Int.eq_of_mul_eq_mul_left (by omega) h
      omega
    · intro h; rw [h]
  rw [hmul]
  have hb : ∀ (z i : Nat), i < m → z / 2 ^ (32 - m) / 2 ^ i % 2 = z / 2 ^ (32 - m + i) % 2 := fun z i _ => by rw [Nat.div_div_eq_div_mul, Nat.pow_add]
  have hj : ∀ (z j : Nat), j < m → bitI (z : Int) j = ((z / 2 ^ (32 - m + (m - 1 - j)) % 2 : Nat) : Int) := fun z j hjm => by
    have := bitI_nat z (31 - j) (by omega)
    rw [show (31 - ((31 - j : Nat) : Int)) = (j : Int) by omega] at this
    rw [this, show 32 - m + (m - 1 - j) = 31 - j by omega]
  have hlt : ∀ z : Nat, z < 4294967296 → z / 2 ^ (32 - m) < 2 ^ m := fun z hz => by
    rw [Nat.div_lt_iff_lt_mul (Nat.two_pow_pos _), ← Nat.pow_add, show m + (32 - m) = 32 by omega]; omega
  constructor
  · intro h j hjm
    rw [hj p j hjm, hj q j hjm, ← hb p _ (by omega), ← hb q _ (by omega), h]
  · intro h
    refine nat_eq_bits _ _ m (hlt p (by omega)) (hlt q (by omega)) (fun i hi => ?_)
    rw [hb p i hi, hb q i hi]
    have := h (m - 1 - i) (by omega)
    rw [hj p _ (by omega), hj q _ (by omega), show m - 1 - (m - 1 - i) = i by omega] at this
    omega
set_option maxRecDepth 100000 in
theorem has_bits (a x : Int) (m : Nat) (h0 : 0 ≤ a) (h : a < 4294967296) (k0 : 0 ≤ x) (k : x < 4294967296) (hm : m ≤ 32) (hr : rightB a m = true) : hasB a m x = true ↔ ∀ j : Nat, j < m → bitI a j = bitI x j := by
  unfold hasB
  rw [hr, Bool.true_and, beq_iff_eq]
  have := keep_bits a x m h0 h k0 k hm
  rw [keep_right a m hr] at this
  rw [← this]
  exact eq_comm
set_option maxRecDepth 100000 in
theorem Has_ref {a n x : Int} : hasB a n x = (rightB a n && keepI x n == a) := rfl

/-! ### A number out of its bits -/
def numF (f : Nat → Int) : Nat → Int
  | 0 => 0
  | k + 1 => (2 * numF f k + f k % 4294967296) % 4294967296
set_option maxRecDepth 100000 in
theorem numF_congr (f g : Nat → Int) : ∀ k, (∀ j, j < k → f j = g j) → numF f k = numF g k
  | 0, _ => rfl
  | k + 1, h => by rw [numF, numF, numF_congr f g k (fun j hj => h j (by omega)), h k (by omega)]
def oneF (n : Int) (j : Nat) : Int := if (j : Int) < n then 1 else 0
set_option maxRecDepth 100000 in
theorem num_mask (n : Int) : numF (oneF n) 32 = maskI n := by
  have e : numF (oneF n) 32 = numF (oneF ((32 - lowN n : Nat) : Int)) 32 := numF_congr _ _ _ (fun j hj => by
    unfold oneF lowN
    have h1 := cl_lo n
    have h2 := cl_hi n
    have h3 : (j : Int) < n ↔ (j : Int) < ((32 - (32 - cl n).toNat : Nat) : Int) := by unfold cl at *; omega
    by_cases h : (j : Int) < n
    · rw [if_pos h, if_pos (h3.1 h)]
    · rw [if_neg h, if_neg (fun h' => h (h3.2 h'))])
  rw [e]
  unfold maskI
  generalize hk : lowN n = k
  have hk' : k ≤ 32 := by rw [← hk]; exact lowN_le n
  refine cases33 (P := fun k => numF (oneF ((32 - k : Nat) : Int)) 32 = 4294967296 - 2 ^ k) k hk' ?_ ?_ ?_ ?_ ?_ ?_ ?_ ?_ ?_ ?_ ?_ ?_ ?_ ?_ ?_ ?_ ?_ ?_ ?_ ?_ ?_ ?_ ?_ ?_ ?_ ?_ ?_ ?_ ?_ ?_ ?_ ?_ ?_ <;> decide +kernel

/-! ### A number under its own mask -/
set_option maxRecDepth 100000 in
theorem lowN_cl (n : Int) : lowN (cl n) = lowN n := by unfold lowN cl; omega
set_option maxRecDepth 100000 in
theorem keepI_cl (a n : Int) : keepI a (cl n) = keepI a n := by unfold keepI; rw [lowN_cl]
set_option maxRecDepth 100000 in
theorem keepI_mod (a n : Int) : keepI a n % 2 ^ lowN n = 0 := by rw [keep_div]; exact Int.mul_emod_right _ _
set_option maxRecDepth 100000 in
theorem right_keep (a n : Int) : rightB (keepI a n) (cl n) = true := by
  rw [rightB_iff, lowN_cl]; exact ⟨keepI_mod a n, cl_lo n, cl_hi n⟩
set_option maxRecDepth 100000 in
theorem keep_keep (a n : Int) : keepI (keepI a n) n = keepI a n := by
  have := keepI_mod a n
  show keepI a n - keepI a n % 2 ^ lowN n = keepI a n
  omega
set_option maxRecDepth 100000 in
theorem has_keep (a n : Int) : hasB (keepI a n) (cl n) a = true := by
  unfold hasB; rw [right_keep, keepI_cl]; simp
end Go.Proofs.YtohkbcdnlmjcjaaDoor

/-
  NUMBERS FOR NETS: a net's node is its bits behind a one.
-/
namespace Go.Proofs.YtohkbcdnlmjcjaaDoor

/-- the node of a net of i bits. -/
def keyN (a i : Nat) : Nat := 2 ^ i + a / 2 ^ (32 - i)
set_option maxRecDepth 100000 in
theorem keyN_0 (a : Nat) (ha : a < 4294967296) : keyN a 0 = 1 := by
  unfold keyN
  rw [Nat.div_eq_of_lt (by simpa using ha)]
set_option maxRecDepth 100000 in
theorem keyN_succ (a i : Nat) (hi : i < 32) : keyN a (i + 1) = 2 * keyN a i + a / 2 ^ (31 - i) % 2 := by
  unfold keyN
  have h1 : 32 - (i + 1) = 31 - i := by omega
  have h2 : 2 ^ (32 - i) = 2 ^ (31 - i) * 2 := by rw [show 32 - i = (31 - i) + 1 by omega, Nat.pow_succ]
  rw [h1, h2, ← Nat.div_div_eq_div_mul, Nat.pow_succ]
  generalize a / 2 ^ (31 - i) = x
  generalize 2 ^ i = y
  omega
set_option maxRecDepth 100000 in
theorem keyN_half (a i : Nat) (hi : i < 32) : keyN a (i + 1) / 2 = keyN a i := by rw [keyN_succ a i hi]; omega
set_option maxRecDepth 100000 in
theorem keyN_mod (a i : Nat) (hi : i < 32) : keyN a (i + 1) % 2 = a / 2 ^ (31 - i) % 2 := by rw [keyN_succ a i hi]; omega
set_option maxRecDepth 100000 in
theorem keyN_lo (a i : Nat) : 2 ^ i ≤ keyN a i := Nat.le_add_right _ _
set_option maxRecDepth 100000 in
theorem keyN_pos (a i : Nat) : 1 ≤ keyN a i := Nat.le_trans (Nat.pow_pos (by decide)) (keyN_lo a i)
set_option maxRecDepth 100000 in
theorem keyN_two (a i : Nat) : 2 ≤ keyN a (i + 1) := Nat.le_trans (by rw [Nat.pow_succ]; have := Nat.pow_pos (n := i) (show 0 < 2 by decide); omega) (keyN_lo a (i + 1))
set_option maxRecDepth 100000 in
theorem keyN_hi (a i : Nat) (ha : a < 4294967296) (hi : i ≤ 32) : keyN a i < 2 ^ (i + 1) := by
  unfold keyN
  have : a / 2 ^ (32 - i) < 2 ^ i := by
    refine Nat.div_lt_of_lt_mul ?_
    rw [← Nat.pow_add, show 32 - i + i = 32 by omega]
    exact ha
  rw [Nat.pow_succ]
  omega
set_option maxRecDepth 100000 in
theorem keyN_deep (a i : Nat) (ha : a < 4294967296) (hi : i ≤ 32) : keyN a i < 2 ^ 33 := by
  refine Nat.lt_of_lt_of_le (keyN_hi a i ha hi) (Nat.pow_le_pow_right (by decide) (by omega))
set_option maxRecDepth 100000 in
theorem keyN_len {a b i j : Nat} (ha : a < 4294967296) (hb : b < 4294967296) (hi : i ≤ 32) (hj : j ≤ 32) (h : keyN a i = keyN b j) : i = j := by
  have a1 := keyN_lo a i
  have a2 := keyN_hi a i ha hi
  have b1 := keyN_lo b j
  have b2 := keyN_hi b j hb hj
  rw [h] at a1 a2
  have h1 : i < j + 1 := (Nat.pow_lt_pow_iff_right (by decide)).1 (Nat.lt_of_le_of_lt a1 b2)
  have h2 : j < i + 1 := (Nat.pow_lt_pow_iff_right (by decide)).1 (Nat.lt_of_le_of_lt b1 a2)
  omega
set_option maxRecDepth 100000 in
theorem keyN_inj {a b i j : Nat} (ha : a < 4294967296) (hb : b < 4294967296) (hi : i ≤ 32) (hj : j ≤ 32) (h : keyN a i = keyN b j) : i = j ∧ a / 2 ^ (32 - i) = b / 2 ^ (32 - i) := by
  obtain rfl := keyN_len ha hb hi hj h
  refine ⟨rfl, ?_⟩
  unfold keyN at h
  omega
set_option maxRecDepth 100000 in
theorem bit_key (a i : Nat) (hi : i < 32) : bitI (a : Int) (i : Int) = ((a / 2 ^ (31 - i) % 2 : Nat) : Int) := by
  have := bitI_nat a (31 - i) (by omega)
  rw [show (31 - ((31 - i : Nat) : Int)) = (i : Int) by omega] at this
  exact this
end Go.Proofs.YtohkbcdnlmjcjaaDoor

/-
  ATTRIBUTES AS VALUES: ten cells; how they are stored into a node of a trie.
-/
namespace Go.Proofs.YtohkbcdnlmjcjaaDoor
open Go.RowKit

/-- attributes as the program has them: numbers and three slices. -/
structure AV where
  has : Int
  origin : Int
  ps : Option Addr
  pn : Nat
  pc : Nat
  hop : Nat
  med : Int
  loc : Int
  aggrAs : Int
  aggrId : Nat
  cs : Option Addr
  cn : Nat
  cc : Nat
  os : Option Addr
  on : Nat
  oc : Nat
abbrev AV.C (v : AV) : Array Value := #[.int .i64 v.has, .int .i64 v.origin, .slice v.ps v.pn v.pc, .int .u32 v.hop, .int .i64 v.med, .int .i64 v.loc, .int .i64 v.aggrAs, .int .u32 v.aggrId, .slice v.cs v.cn v.cc, .slice v.os v.on v.oc]
abbrev AV.V (v : AV) : Value := .agg #[.int .i64 v.has, .int .i64 v.origin, .slice v.ps v.pn v.pc, .int .u32 v.hop, .int .i64 v.med, .int .i64 v.loc, .int .i64 v.aggrAs, .int .u32 v.aggrId, .slice v.cs v.cn v.cc, .slice v.os v.on v.oc]
def av0 : AV := ⟨0, 0, none, 0, 0, 0, 0, 0, 0, 0, none, 0, 0, none, 0, 0⟩
/-- a node's row. -/
abbrev nodeR (k0 k1 h : Value) (v : AV) : Array Value := #[k0, k1, h, .int .i64 v.has, .int .i64 v.origin, .slice v.ps v.pn v.pc, .int .u32 v.hop, .int .i64 v.med, .int .i64 v.loc, .int .i64 v.aggrAs, .int .u32 v.aggrId, .slice v.cs v.cn v.cc, .slice v.os v.on v.oc]
/-- attributes stored into a node. -/
def setAV (W : World) (b : Nat) (v : AV) : World :=
  (((((((((W.setCell ⟨b, 3, none⟩ (.int .i64 v.has)).setCell ⟨b, 4, none⟩ (.int .i64 v.origin)).setCell ⟨b, 5, none⟩ (.slice v.ps v.pn v.pc)).setCell ⟨b, 6, none⟩ (.int .u32 v.hop)).setCell ⟨b, 7, none⟩ (.int .i64 v.med)).setCell ⟨b, 8, none⟩ (.int .i64 v.loc)).setCell ⟨b, 9, none⟩ (.int .i64 v.aggrAs)).setCell ⟨b, 10, none⟩ (.int .u32 v.aggrId)).setCell ⟨b, 11, none⟩ (.slice v.cs v.cn v.cc)).setCell ⟨b, 12, none⟩ (.slice v.os v.on v.oc)
set_option maxRecDepth 100000 in
theorem AV.one (v : AV) : (v.C.all (·.oneCell')) = true := by simp [AV.C, Value.oneCell']
set_option maxRecDepth 100000 in
theorem setAV_eq (W : World) (b : Nat) (v : AV) : W.setCells b 3 v.C.toList = setAV W b v := rfl
set_option maxRecDepth 100000 in
theorem setAV_row {W : World} {b : Nat} {k0 k1 h : Value} {u : AV} {tN : TypeId} (hb : W.heap[b]? = some (.cells (nodeR k0 k1 h u) tN (0, 0))) (v : AV) : (setAV W b v).heap[b]? = some (.cells (nodeR k0 k1 h v) tN (0, 0)) := by
  unfold setAV
  rw [set_same (set_same (set_same (set_same (set_same (set_same (set_same (set_same (set_same (set_same hb _ _) _ _) _ _) _ _) _ _) _ _) _ _) _ _) _ _) _ _]
  simp only [List.setIfInBounds_toArray, List.set_cons_succ, List.set_cons_zero]
set_option maxRecDepth 100000 in
theorem setAV_other {W : World} {b g : Nat} (h : g ≠ b) (v : AV) : (setAV W b v).heap[g]? = W.heap[g]? := by
  unfold setAV
  rw [set_other _ _ _ h, set_other _ _ _ h, set_other _ _ _ h, set_other _ _ _ h, set_other _ _ _ h, set_other _ _ _ h, set_other _ _ _ h, set_other _ _ _ h, set_other _ _ _ h, set_other _ _ _ h]
set_option maxRecDepth 100000 in
theorem node_cells {W : World} {b : Nat} {k0 k1 h : Value} {u : AV} {tN : TypeId} (hb : W.heap[b]? = some (.cells (nodeR k0 k1 h u) tN (0, 0))) :
    W.cell? ⟨b, 3, none⟩ = some (.int .i64 u.has) ∧ W.cell? ⟨b, 4, none⟩ = some (.int .i64 u.origin) ∧ W.cell? ⟨b, 5, none⟩ = some (.slice u.ps u.pn u.pc) ∧ W.cell? ⟨b, 6, none⟩ = some (.int .u32 u.hop) ∧ W.cell? ⟨b, 7, none⟩ = some (.int .i64 u.med) ∧ W.cell? ⟨b, 8, none⟩ = some (.int .i64 u.loc) ∧ W.cell? ⟨b, 9, none⟩ = some (.int .i64 u.aggrAs) ∧ W.cell? ⟨b, 10, none⟩ = some (.int .u32 u.aggrId) ∧ W.cell? ⟨b, 11, none⟩ = some (.slice u.cs u.cn u.cc) ∧ W.cell? ⟨b, 12, none⟩ = some (.slice u.os u.on u.oc) :=
  ⟨row_cell hb 3, row_cell hb 4, row_cell hb 5, row_cell hb 6, row_cell hb 7, row_cell hb 8, row_cell hb 9, row_cell hb 10, row_cell hb 11, row_cell hb 12⟩
set_option maxRecDepth 100000 in
theorem node_flag {W : World} {b : Nat} {k0 k1 h : Value} {u : AV} {tN : TypeId} (hb : W.heap[b]? = some (.cells (nodeR k0 k1 h u) tN (0, 0))) (h' : Value) : (W.setCell ⟨b, 2, none⟩ h').drew.heap[b]? = some (.cells (nodeR k0 k1 h' u) tN (0, 0)) := by
  show (W.setCell ⟨b, 2, none⟩ h').heap[b]? = _
  rw [set_same hb]
  simp only [List.setIfInBounds_toArray, List.set_cons_succ, List.set_cons_zero]
set_option maxRecDepth 100000 in
theorem exec_ldm {P : Program} {oi : Oper} {ev : Operand → Value} {w : World} (ty : TypeId) (x : Operand) (ho : oi.op = .load ty x) (b o : Nat) (hx : ev x = .pointer (some ⟨b, o, none⟩)) (cs : List Value) (d : TypeDesc) (hc : w.rangeAt b o cs)
    (hu : P.underlying ty = some d) (hd : d.isRow = true) (hi : (P.info? ty).map (·.size) = some cs.length) : (execOp ev oi).run P w = .ok (.value (.agg cs.toArray)) w := by
  unfold execOp
  simp only [ho, hx, Instr.loadAt, Instr.sureAddr, Sem.run_bind, Sem.run_pure, Result.andThen_ok, run_loadVar_mid w b o ty cs d hc hu hd hi]
set_option maxRecDepth 100000 in
theorem still_ld {P : Program} {ops : Array Oper} {w : World} {Q : Act → Prop} {a : Act} {o : Oper} {rest : List Oper} (hgd : Region.wanted o (yielded ops a.tmps) = true) {v : Value} (he : (execOp a.eval o).run P w = .ok (.value v) w) (h : wpStill P ops w Q rest (a.put o.dst v)) : wpStill P ops w Q (o :: rest) a := by
  unfold wpStill
  rw [if_pos hgd]
  unfold Oper.still
  rw [he, Oper.stillUpon_value]
  exact h
set_option maxRecDepth 100000 in
theorem ldm_at {P : Program} {ops : Array Oper} {rest : List Oper} {o : Oper} {a : Act} {w : World} {Q : Exit → Act → World → Prop} (hgd : Region.wanted o (yielded ops a.tmps) = true) (ty : TypeId) (x : Operand) (ho : o.op = .load ty x)
    (b off : Nat) (hx : a.eval x = .pointer (some ⟨b, off, none⟩)) (cs : List Value) (d : TypeDesc) (hc : w.rangeAt b off cs) (hu : P.underlying ty = some d) (hd : d.isRow = true) (hi : (P.info? ty).map (·.size) = some cs.length)
    (h : wpList P ops Q rest (a.put o.dst (.agg cs.toArray)) w) : wpList P ops Q (o :: rest) a w := by
  unfold wpList
  rw [if_pos hgd]
  exact .inl (wp_load_mid ty x ho b off hx cs d hc hu hd hi h)
set_option maxRecDepth 100000 in
theorem node_there {W : World} {b : Nat} {k0 k1 h : Value} {u : AV} {tN : TypeId} (hb : W.heap[b]? = some (.cells (nodeR k0 k1 h u) tN (0, 0))) : W.there b 3 10 := fun j hj => by
  refine ⟨?_, row_free hb _⟩
  rw [row_cell hb, Array.getElem?_eq_getElem (by simp; omega)]
  rfl
set_option maxRecDepth 100000 in
theorem node_range {W : World} {b : Nat} {k0 k1 h : Value} {u : AV} {tN : TypeId} (hb : W.heap[b]? = some (.cells (nodeR k0 k1 h u) tN (0, 0))) : W.rangeAt b 3 u.C.toList := fun j v hv => by
  rw [row_cell hb]
  have hj : j < 10 := by have := (List.getElem?_eq_some_iff.1 hv).1; simpa using this
  match j, hj with
  | 0, _ => simpa using hv
  | 1, _ => simpa using hv
  | 2, _ => simpa using hv
  | 3, _ => simpa using hv
  | 4, _ => simpa using hv
  | 5, _ => simpa using hv
  | 6, _ => simpa using hv
  | 7, _ => simpa using hv
  | 8, _ => simpa using hv
  | 9, _ => simpa using hv
end Go.Proofs.YtohkbcdnlmjcjaaDoor
