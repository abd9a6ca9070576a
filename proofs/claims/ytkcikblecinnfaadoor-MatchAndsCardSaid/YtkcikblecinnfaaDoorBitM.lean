/-
  MATCHES, BIT BY BIT: plain laws.
-/
import Derived.Test.YtkcikblecinnfaaDoorLawM
namespace Go.Proofs.YtkcikblecinnfaaDoor
open Go.RowKit

theorem compl_bit (y i : Nat) (hy : y < 18446744073709551616) : (18446744073709551615 - y).testBit i = (decide (i < 64) && !y.testBit i) := by
  have := Nat.testBit_two_pow_sub_succ (x := y) (n := 64) (by simpa using hy) i
  rw [show 2 ^ 64 - (y + 1) = 18446744073709551615 - y by omega] at this
  exact this
theorem bit_lt {x n i : Nat} (h : x.testBit i = true) (hx : x < 2 ^ n) : i < n := by
  rcases Nat.lt_or_ge i n with h' | h'
  · exact h'
  · rw [Nat.testBit_lt_two_pow (Nat.lt_of_lt_of_le hx (Nat.pow_le_pow_right (by decide) h'))] at h; cases h
theorem and_zero_iff (x y : Nat) : x &&& y = 0 ↔ ∀ i, x.testBit i = true → y.testBit i = false := by
  constructor
  · intro h i hx
    have := congrArg (·.testBit i) h
    simp only [Nat.testBit_and, Nat.zero_testBit] at this
    rw [hx] at this
    simpa using this
  · intro h
    apply Nat.eq_of_testBit_eq
    intro i
    simp only [Nat.testBit_and, Nat.zero_testBit]
    cases hx : x.testBit i
    · rfl
    · rw [h i hx]; rfl
theorem full_of (f : Int) : ∃ w : Nat, w ≤ 48 ∧ fullI f = ((2 ^ w - 1 : Nat) : Int) := by
  rcases widthI_cases f with h | h | h | h | h
  · exact ⟨0, by omega, (fullI_of h).trans (by decide)⟩
  · exact ⟨8, by omega, (fullI_of h).trans (by decide)⟩
  · exact ⟨16, by omega, (fullI_of h).trans (by decide)⟩
  · exact ⟨32, by omega, (fullI_of h).trans (by decide)⟩
  · exact ⟨48, by omega, (fullI_of h).trans (by decide)⟩
theorem pow48 {w : Nat} (h : w ≤ 48) : 2 ^ w ≤ 281474976710656 := Nat.pow_le_pow_right (n := 2) (by decide) h
theorem mask_fits (f : Int) (k : Nat) (hk : k < 18446744073709551616) : (bits .andNot .u64 (k : Int) (fullI f) == 0) = !decide (fullI f < (k : Int)) := by
  obtain ⟨w, hw, e⟩ := full_of f
  have p := pow48 hw
  have p0 : 0 < 2 ^ w := Nat.two_pow_pos w
  rw [e, u64_andNot_nat k (2 ^ w - 1) hk (by omega)]
  have key : (k &&& (18446744073709551615 - (2 ^ w - 1))) = 0 ↔ k < 2 ^ w := by
    rw [and_zero_iff]
    constructor
    · intro h
      apply Nat.lt_pow_two_of_testBit
      intro i hi
      cases hx : k.testBit i
      · rfl
      · have := h i hx
        rw [compl_bit _ _ (by omega), Nat.testBit_two_pow_sub_one] at this
        have h64 : i < 64 := bit_lt hx (by simpa using hk)
        simp at this
        omega
    · intro h i hx
      have hi := bit_lt hx h
      rw [compl_bit _ _ (by omega), Nat.testBit_two_pow_sub_one]
      simp [hi]
  by_cases hk2 : k < 2 ^ w
  · have := key.2 hk2
    rw [this]
    have : ¬ (((2 ^ w - 1 : Nat) : Int) < (k : Int)) := by omega
    simp only [this, decide_false]
    rfl
  · have h0 : (k &&& (18446744073709551615 - (2 ^ w - 1))) ≠ 0 := fun h => hk2 (key.1 h)
    have : (((2 ^ w - 1 : Nat) : Int) < (k : Int)) := by omega
    simp only [this, decide_true]
    simp
    exact h0
theorem val_fits (v k : Nat) (hv : v < 18446744073709551616) (hk : k < 18446744073709551616) : (bits .andNot .u64 (v : Int) (k : Int) == 0) = (bits .and .u64 (v : Int) (k : Int) == (v : Int)) := by
  rw [u64_andNot_nat v k hv hk, u64_and_nat v k hv hk]
  have key : v &&& (18446744073709551615 - k) = 0 ↔ v &&& k = v := by
    rw [and_zero_iff]
    constructor
    · intro h
      apply Nat.eq_of_testBit_eq
      intro i
      rw [Nat.testBit_and]
      cases hx : v.testBit i
      · rfl
      · have := h i hx
        rw [compl_bit _ _ hk] at this
        have h64 : i < 64 := bit_lt hx (by simpa using hv)
        simpa [h64] using this
    · intro h i hx
      have := congrArg (·.testBit i) h
      simp only [Nat.testBit_and, hx, Bool.true_and] at this
      rw [compl_bit _ _ hk, this]
      simp
  by_cases h : v &&& k = v
  · rw [key.2 h, h]; simp
  · have h0 : v &&& (18446744073709551615 - k) ≠ 0 := fun h' => h (key.1 h')
    have e1 : (((v &&& (18446744073709551615 - k) : Nat) : Int) == 0) = false := by simp; exact h0
    have e2 : (((v &&& k : Nat) : Int) == (v : Int)) = false := by rw [beq_eq_false_iff_ne]; intro h'; exact h (Int.ofNat_inj.mp h')
    rw [e1, e2]
theorem right_law (f : Int) (v k : Nat) (hv : v < 18446744073709551616) (hk : k < 18446744073709551616) : rightI f v k = lrI f v k := by
  unfold rightI lrI; rw [mask_fits f k hk, val_fits v k hv hk]
theorem check_law (m : Mt) (ok : m.Ok) : checkM m = lawR m := by
  unfold checkM lawR
  rw [Bool.eq_iff_iff]
  simp only [List.all_eq_true, List.mem_range]
  constructor
  · intro h j hj; rw [← right_law _ _ _ (ok.val j hj) (ok.mask j hj)]; exact h j hj
  · intro h j hj; rw [right_law _ _ _ (ok.val j hj) (ok.mask j hj)]; exact h j hj
/-- the masks of a match in its form have 48 bits at most. -/
theorem lawR_mask {m : Mt} (h : lawR m = true) (j : Nat) (hj : j < 9) : (m.mask j : Int) ≤ fullI j ∧ m.mask j < 281474976710656 ∧ (bits .and .u64 (m.val j) (m.mask j) == (m.val j : Int)) = true := by
  unfold lawR at h
  simp only [List.all_eq_true, List.mem_range] at h
  have := h j hj
  unfold lrI at this
  simp only [Bool.and_eq_true, Bool.not_eq_true', decide_eq_false_iff_not] at this
  have hf := fullI_hi j
  exact ⟨by omega, by omega, this.2⟩
/-- the number of a field. -/
def getN (h : Hdr) (k : Nat) : Nat := (getI h k).toNat
theorem getI_lo' (h : Hdr) (f : Int) (ok : h.Ok) : 0 ≤ getI h f := by
  have a := (macI_range _ _ _ _ _ _ ok.src).1
  have b := (macI_range _ _ _ _ _ _ ok.dst).1
  have c := ok.sip.1
  have d := ok.dip.1
  unfold getI
  repeat (first | omega | split)
theorem getI_hi' (h : Hdr) (f : Int) (ok : h.Ok) : getI h f < 281474976710656 := by
  have a := (macI_range _ _ _ _ _ _ ok.src).2
  have b := (macI_range _ _ _ _ _ _ ok.dst).2
  have c := ok.sip.2
  have d := ok.dip.2
  unfold getI
  repeat (first | omega | split)
theorem getN_eq (h : Hdr) (k : Nat) (ok : h.Ok) : ((getN h k : Nat) : Int) = getI h k := by unfold getN; have := getI_lo' h k ok; omega
theorem getN_hi (h : Hdr) (k : Nat) (ok : h.Ok) : getN h k < 281474976710656 := by have := getN_eq h k ok; have := getI_hi' h k ok; omega
/-- the lowest b bits that the mask asks for are alike. -/
def bitsOk (g v k : Nat) (b : Nat) : Bool := (List.range b).all fun i => !k.testBit i || (v.testBit i == g.testBit i)
theorem bitsOk_succ (g v k b : Nat) : bitsOk g v k (b + 1) = (bitsOk g v k b && (!k.testBit b || (v.testBit b == g.testBit b))) := by
  unfold bitsOk; rw [List.range_succ, List.all_append]; simp
theorem hit_law (g v k : Nat) (hg : g < 281474976710656) (hv : v < 18446744073709551616) (hk : k < 281474976710656) : (hitI g v k == 0) = bitsOk g v k 48 := by
  have hx : g ^^^ v < 2 ^ 64 := Nat.xor_lt_two_pow (by omega) (by omega)
  unfold hitI
  rw [u64_xor_nat g v (by omega) hv, u64_and_nat (g ^^^ v) k (by simpa using hx) (by omega)]
  have key : (g ^^^ v) &&& k = 0 ↔ bitsOk g v k 48 = true := by
    rw [Nat.and_comm, and_zero_iff]
    unfold bitsOk
    simp only [List.all_eq_true, List.mem_range]
    constructor
    · intro h i _
      cases hb : k.testBit i
      · rfl
      · have := h i hb
        rw [Nat.testBit_xor] at this
        cases h1 : g.testBit i <;> cases h2 : v.testBit i <;> simp_all
    · intro h i hb
      have := h i (bit_lt hb (by simpa using hk))
      rw [hb] at this
      rw [Nat.testBit_xor]
      cases h1 : g.testBit i <;> cases h2 : v.testBit i <;> simp_all
  cases hb : bitsOk g v k 48
  · have : (g ^^^ v) &&& k ≠ 0 := fun h => by rw [key.1 h] at hb; cases hb
    simp; exact this
  · rw [key.2 hb]; rfl
end Go.Proofs.YtkcikblecinnfaaDoor
