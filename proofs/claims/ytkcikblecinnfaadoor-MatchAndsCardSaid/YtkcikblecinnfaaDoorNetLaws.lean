/-
  MATCHES OF NETS: plain laws.
-/
import Derived.Test.YtkcikblecinnfaaDoorNet
import Derived.Test.YtkcikblecinnfaaDoorBitM
namespace Go.Proofs.YtkcikblecinnfaaDoor
open Go.RowKit

def mkN (k : Nat) : Nat := 4294967296 - 2 ^ (32 - k)
theorem maskN_mk (n : Int) (h0 : 0 ≤ n) (h : n ≤ 32) : maskN n = mkN n.toNat := by
  have e := maskN_eq n
  have hp : (2 : Nat) ^ (32 - n.toNat) ≤ 4294967296 := by
    have := Nat.pow_le_pow_right (n := 2) (by decide) (show 32 - n.toNat ≤ 32 by omega)
    simpa using this
  unfold maskI at e
  rw [lowN_of n h0 h, show (32 - n).toNat = 32 - n.toNat by omega] at e
  have e2 : ((2 : Int) ^ (32 - n.toNat)) = ((2 ^ (32 - n.toNat) : Nat) : Int) := by simp
  rw [e2] at e
  unfold mkN
  omega
theorem mk_pairs : ∀ n, n < 33 → ∀ m, m < 33 → (decide (mkN n &&& mkN m = mkN n) = decide (n ≤ m)) := by decide +kernel
theorem mk_and (n m : Nat) (hn : n ≤ 32) (hm : m ≤ 32) : mkN n &&& mkN m = mkN n ↔ n ≤ m := by
  have := mk_pairs n (by omega) m (by omega)
  constructor
  · intro h; rw [decide_eq_true h] at this; exact of_decide_eq_true this.symm
  · intro h; rw [decide_eq_true h] at this; exact of_decide_eq_true this
theorem nat_keep (a : Nat) (n : Int) (ha : a < 4294967296) : ((a &&& maskN n : Nat) : Int) = keepI a n := by
  have h := and_mask a n (by omega) (by omega)
  rw [← maskN_eq n, u32_and_nat a (maskN n) ha (maskN_hi n)] at h
  exact h
theorem net_on (a : Nat) (n : Int) (ha : a < 4294967296) (hr : rightB a n = true) : onOk 5 a (maskN n) = true := by
  have hm := maskN_hi n
  have hk := keep_right a n hr
  have h1 : bits .and .u64 (a : Int) (maskN n : Int) = a := by rw [u64_and_nat a (maskN n) (by omega) (by omega), nat_keep a n ha, hk]
  have h2 : fullI 5 = 4294967295 := by decide
  unfold onOk
  rw [right_law 5 a (maskN n) (by omega) (by omega)]
  unfold lrI
  rw [h1, h2]
  have : ¬ ((4294967295 : Int) < (maskN n : Int)) := by omega
  simp [this]
theorem net_E (a : Nat) (n : Int) (ha : a < 4294967296) : netE 5 a n = rightB a n := by
  unfold netE netOk
  cases hr : rightB a n
  · simp
  · rw [net_on a n ha hr]; simp
theorem net_M (a : Nat) (n : Int) (ha : a < 4294967296) (hr : rightB a n = true) : netM 5 a n = m1 5 a (maskN n) := by
  unfold netM netOk onM
  rw [hr, net_on a n ha hr]
  rfl
theorem m1_ok (v k : Nat) (hv : v < 18446744073709551616) (hk : k < 18446744073709551616) : (m1 5 v k).Ok :=
  ⟨fun i _ => by show (if i = 5 then v else 0) < _; split <;> omega, fun i _ => by show (if i = 5 then k else 0) < _; split <;> omega⟩
theorem all_five {P : Nat → Bool} (h : ∀ j, j < 9 → j ≠ 5 → P j = true) : (List.range 9).all P = P 5 := by
  rw [show List.range 9 = [0, 1, 2, 3, 4, 5, 6, 7, 8] from rfl]
  simp [h 0 (by decide) (by decide), h 1 (by decide) (by decide), h 2 (by decide) (by decide), h 3 (by decide) (by decide), h 4 (by decide) (by decide), h 6 (by decide) (by decide), h 7 (by decide) (by decide), h 8 (by decide) (by decide)]
theorem m1_off (v k j : Nat) (hj : j ≠ 5) : (m1 5 v k).val j = 0 ∧ (m1 5 v k).mask j = 0 := by
  constructor
  · show (if j = 5 then v else 0) = 0; rw [if_neg hj]
  · show (if j = 5 then k else 0) = 0; rw [if_neg hj]
theorem covers_five (a p b q : Nat) : coversM (m1 5 a p) (m1 5 b q) = covI a p b q := by
  unfold coversM
  rw [all_five (fun j _ hj => by rw [(m1_off a p j hj).1, (m1_off a p j hj).2, (m1_off b q j hj).1, (m1_off b q j hj).2]; decide)]
  rfl
theorem and_five (a p b q : Nat) : andOk (m1 5 a p) (m1 5 b q) = (clashI a p b q == 0) := by
  unfold andOk
  rw [all_five (fun j _ hj => by rw [(m1_off a p j hj).1, (m1_off a p j hj).2, (m1_off b q j hj).1, (m1_off b q j hj).2]; decide)]
  rfl
theorem xor_and_zero (a b p : Nat) : (a ^^^ b) &&& p = 0 ↔ a &&& p = b &&& p := by
  constructor
  · intro h
    apply Nat.eq_of_testBit_eq
    intro i
    have := congrArg (·.testBit i) h
    simp only [Nat.testBit_and, Nat.testBit_xor, Nat.zero_testBit] at this ⊢
    cases h1 : a.testBit i <;> cases h2 : b.testBit i <;> cases h3 : p.testBit i <;> simp_all
  · intro h
    apply Nat.eq_of_testBit_eq
    intro i
    have := congrArg (·.testBit i) h
    simp only [Nat.testBit_and, Nat.testBit_xor, Nat.zero_testBit] at this ⊢
    cases h1 : a.testBit i <;> cases h2 : b.testBit i <;> cases h3 : p.testBit i <;> simp_all
theorem net_clash (a b p : Nat) (ha : a < 4294967296) (hb : b < 4294967296) (hp : p < 4294967296) : (bits .and .u64 (bits .xor .u64 (a : Int) (b : Int)) (p : Int) == 0) = decide (a &&& p = b &&& p) := by
  have hx : a ^^^ b < 2 ^ 32 := Nat.xor_lt_two_pow (by omega) (by omega)
  rw [u64_xor_nat a b (by omega) (by omega), u64_and_nat (a ^^^ b) p (by omega) (by omega)]
  by_cases h : a &&& p = b &&& p
  · rw [decide_eq_true h, (xor_and_zero a b p).2 h]; rfl
  · rw [decide_eq_false h]
    have : (a ^^^ b) &&& p ≠ 0 := fun h' => h ((xor_and_zero a b p).1 h')
    simp; exact this
theorem keep_eq (a b : Nat) (n : Int) (ha : a < 4294967296) (hb : b < 4294967296) (hr : rightB a n = true) : decide (a &&& maskN n = b &&& maskN n) = (keepI b n == (a : Int)) := by
  have e1 := nat_keep a n ha
  have e2 := nat_keep b n hb
  rw [keep_right a n hr] at e1
  rw [← e2, ← e1]
  by_cases h : a &&& maskN n = b &&& maskN n
  · rw [decide_eq_true h, h]; simp
  · rw [decide_eq_false h]
    symm
    rw [beq_eq_false_iff_ne]
    intro h'
    exact h (Int.ofNat_inj.mp h').symm
theorem net_covers (a b : Nat) (n m : Int) (ha : a < 4294967296) (hb : b < 4294967296) (hra : rightB a n = true) (hrb : rightB b m = true) :
    coversM (netM 5 a n) (netM 5 b m) = coversB a n b m := by
  obtain ⟨n0, n1⟩ := rightB_range hra
  obtain ⟨m0, m1'⟩ := rightB_range hrb
  rw [net_M a n ha hra, net_M b m hb hrb, covers_five]
  have hn := maskN_hi n
  have hm := maskN_hi m
  unfold covI coversB hasB
  rw [val_fits (maskN n) (maskN m) (by omega) (by omega), net_clash a b _ ha hb hn, keep_eq a b n ha hb hra, hra, hrb, u64_and_nat (maskN n) (maskN m) (by omega) (by omega)]
  have key := mk_and n.toNat m.toNat (by omega) (by omega)
  rw [← maskN_mk n n0 n1, ← maskN_mk m m0 m1'] at key
  by_cases h : n ≤ m
  · have h2 := key.2 (by omega)
    rw [h2]; simp [h]
  · have h2 : (((maskN n &&& maskN m : Nat) : Int) == (maskN n : Int)) = false := by
      rw [beq_eq_false_iff_ne]; intro h'
      have := key.1 (Int.ofNat_inj.mp h')
      omega
    rw [h2]; simp [h]
theorem net_meets (a b : Nat) (n m : Int) (ha : a < 4294967296) (hb : b < 4294967296) (hra : rightB a n = true) (hrb : rightB b m = true) :
    andOk (netM 5 a n) (netM 5 b m) = (coversB a n b m || coversB b m a n) := by
  obtain ⟨n0, n1⟩ := rightB_range hra
  obtain ⟨m0, m1'⟩ := rightB_range hrb
  have hn := maskN_hi n
  have hm := maskN_hi m
  have k1 := mk_and n.toNat m.toNat (by omega) (by omega)
  have k2 := mk_and m.toNat n.toNat (by omega) (by omega)
  rw [← maskN_mk n n0 n1, ← maskN_mk m m0 m1'] at k1
  rw [← maskN_mk n n0 n1, ← maskN_mk m m0 m1'] at k2
  rw [net_M a n ha hra, net_M b m hb hrb, and_five]
  have hx : a ^^^ b < 2 ^ 32 := Nat.xor_lt_two_pow (by omega) (by omega)
  have hxn : (a ^^^ b) &&& maskN n < 2 ^ 32 := Nat.lt_of_le_of_lt Nat.and_le_left hx
  have hcl : (clashI a (maskN n) b (maskN m) == 0) = decide (a &&& (maskN n &&& maskN m) = b &&& (maskN n &&& maskN m)) := by
    unfold clashI
    rw [u64_xor_nat a b (by omega) (by omega), u64_and_nat (a ^^^ b) (maskN n) (by omega) (by omega), u64_and_nat ((a ^^^ b) &&& maskN n) (maskN m) (by omega) (by omega), Nat.and_assoc]
    by_cases h : a &&& (maskN n &&& maskN m) = b &&& (maskN n &&& maskN m)
    · rw [decide_eq_true h, (xor_and_zero a b _).2 h]; rfl
    · rw [decide_eq_false h]
      have : (a ^^^ b) &&& (maskN n &&& maskN m) ≠ 0 := fun h' => h ((xor_and_zero a b _).1 h')
      simp; exact this
  rw [hcl]
  unfold coversB hasB
  rw [hra, hrb]
  by_cases h : n ≤ m
  · rw [k1.2 (by omega), keep_eq a b n ha hb hra]
    by_cases h2 : m ≤ n
    · obtain rfl : n = m := by omega
      rw [keep_right a n hra, keep_right b n hrb]
      cases h3 : ((b : Int) == (a : Int))
      · have : ((a : Int) == (b : Int)) = false := by rw [beq_eq_false_iff_ne] at h3 ⊢; exact fun h' => h3 h'.symm
        simp [this]
      · simp
    · simp [h, h2]
  · have h2 : m ≤ n := by omega
    rw [Nat.and_comm (maskN n) (maskN m), k2.2 (by omega)]
    have := keep_eq b a m hb ha hrb
    have e : decide (a &&& maskN m = b &&& maskN m) = decide (b &&& maskN m = a &&& maskN m) := by
      by_cases h' : a &&& maskN m = b &&& maskN m
      · rw [decide_eq_true h', decide_eq_true h'.symm]
      · rw [decide_eq_false h', decide_eq_false (fun h'' => h' h''.symm)]
    rw [e, this]
    simp [h, h2]
end Go.Proofs.YtkcikblecinnfaaDoor
