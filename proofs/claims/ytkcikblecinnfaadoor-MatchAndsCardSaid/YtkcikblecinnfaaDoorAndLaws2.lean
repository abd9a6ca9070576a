/-
  TWO MATCHES IN THEIR FORM: plain laws on what hits both, on covering, on a header that says that one does not cover.
-/
import Derived.Test.YtkcikblecinnfaaDoorAndLaws
namespace Go.Proofs.YtkcikblecinnfaaDoor
open Go.RowKit

/-- a match in its form. -/
structure Good (m : Mt) : Prop where
  ok : m.Ok
  law : lawR m = true
theorem Good.mask {m : Mt} (g : Good m) (j : Nat) (hj : j < 9) : m.mask j < 281474976710656 := (lawR_mask g.law j hj).2.1
theorem Good.full {m : Mt} (g : Good m) (j : Nat) (hj : j < 9) : (m.mask j : Int) ≤ fullI j := (lawR_mask g.law j hj).1
theorem Good.form {m : Mt} (g : Good m) (j : Nat) (hj : j < 9) : m.val j &&& m.mask j = m.val j := by
  have := (lawR_mask g.law j hj).2.2
  rw [u64_and_nat _ _ (g.ok.val j hj) (g.ok.mask j hj)] at this
  exact Int.ofNat_inj.mp (eq_of_beq this)
theorem Good.val {m : Mt} (g : Good m) (j : Nat) (hj : j < 9) : m.val j < 281474976710656 := by
  rw [← g.form j hj]
  exact Nat.lt_of_le_of_lt Nat.and_le_right (g.mask j hj)
theorem hits_iff {m : Mt} (gm : Good m) (h : Hdr) (ok : h.Ok) : hitsM m h = true ↔ ∀ j, j < 9 → getN h j &&& m.mask j = m.val j &&& m.mask j := by
  unfold hitsM
  simp only [List.all_eq_true, List.mem_range]
  have key : ∀ j : Nat, j < 9 → ((hitI (getI h j) (m.val j) (m.mask j) == 0) = true ↔ getN h j &&& m.mask j = m.val j &&& m.mask j) := fun j hj => by
    have := getN_hi h j ok
    rw [← getN_eq h j ok, hit_and _ _ _ (by omega) (gm.ok.val j hj) (gm.ok.mask j hj)]
    exact decide_eq_true_iff
  constructor
  · intro a j hj; exact (key j hj).1 (a j hj)
  · intro a j hj; exact (key j hj).2 (a j hj)
theorem clash_nat (a p b q : Nat) (ha : a < 281474976710656) (hp : p < 281474976710656) (hb : b < 281474976710656) (hq : q < 281474976710656) : (clashI a p b q == 0) = decide (((a ^^^ b) &&& p) &&& q = 0) := by
  have hx : a ^^^ b < 2 ^ 48 := Nat.xor_lt_two_pow (by omega) (by omega)
  have hxp : (a ^^^ b) &&& p < 2 ^ 48 := Nat.lt_of_le_of_lt Nat.and_le_left hx
  unfold clashI
  rw [u64_xor_nat a b (by omega) (by omega), u64_and_nat (a ^^^ b) p (by omega) (by omega), u64_and_nat ((a ^^^ b) &&& p) q (by omega) (by omega)]
  exact cast_beq (((a ^^^ b) &&& p) &&& q) 0
theorem andOk_iff {m n : Mt} (gm : Good m) (gn : Good n) : andOk m n = true ↔ ∀ j, j < 9 → ((m.val j ^^^ n.val j) &&& m.mask j) &&& n.mask j = 0 := by
  unfold andOk
  simp only [List.all_eq_true, List.mem_range]
  constructor
  · intro a j hj
    have := a j hj
    rw [clash_nat _ _ _ _ (gm.val j hj) (gm.mask j hj) (gn.val j hj) (gn.mask j hj)] at this
    exact of_decide_eq_true this
  · intro a j hj
    rw [clash_nat _ _ _ _ (gm.val j hj) (gm.mask j hj) (gn.val j hj) (gn.mask j hj)]
    exact decide_eq_true (a j hj)
theorem cov_iff {m n : Mt} (gm : Good m) (gn : Good n) : coversM m n = true ↔ ∀ j, j < 9 → m.mask j &&& n.mask j = m.mask j ∧ (m.val j ^^^ n.val j) &&& m.mask j = 0 := by
  unfold coversM
  simp only [List.all_eq_true, List.mem_range]
  have key : ∀ j, j < 9 → (covI (m.val j) (m.mask j) (n.val j) (n.mask j) = true ↔ m.mask j &&& n.mask j = m.mask j ∧ (m.val j ^^^ n.val j) &&& m.mask j = 0) := fun j hj => by
    have h1 := gm.val j hj
    have h2 := gm.mask j hj
    have h3 := gn.val j hj
    have h4 := gn.mask j hj
    have hx : m.val j ^^^ n.val j < 2 ^ 48 := Nat.xor_lt_two_pow (by omega) (by omega)
    unfold covI
    rw [val_fits _ _ (by omega) (by omega), u64_and_nat _ _ (by omega) (by omega), u64_xor_nat _ _ (by omega) (by omega), u64_and_nat _ _ (by omega) (by omega), cast_beq]
    have e : ((((m.val j ^^^ n.val j) &&& m.mask j : Nat) : Int) == 0) = ((m.val j ^^^ n.val j) &&& m.mask j == 0) := cast_beq ((m.val j ^^^ n.val j) &&& m.mask j) 0
    rw [e]
    simp
  constructor
  · intro a j hj; exact (key j hj).1 (a j hj)
  · intro a j hj; exact (key j hj).2 (a j hj)
theorem both_val (m n : Mt) (j : Nat) (hj : j < 9) : (both m n 9).val j = m.val j ||| n.val j ∧ (both m n 9).mask j = m.mask j ||| n.mask j := by
  unfold both; simp [hj]
theorem both_good {m n : Mt} (gm : Good m) (gn : Good n) : Good (both m n 9) := by
  have hv : ∀ j, j < 9 → (both m n 9).val j < 281474976710656 := fun j hj => by
    rw [(both_val m n j hj).1]
    exact Nat.or_lt_two_pow (n := 48) (gm.val j hj) (gn.val j hj)
  have hm : ∀ j, j < 9 → (both m n 9).mask j < 281474976710656 := fun j hj => by
    rw [(both_val m n j hj).2]
    exact Nat.or_lt_two_pow (n := 48) (gm.mask j hj) (gn.mask j hj)
  have ok : (both m n 9).Ok := ⟨fun j hj => by have := hv j hj; omega, fun j hj => by have := hm j hj; omega⟩
  refine ⟨ok, lawR_yes fun j hj => ?_⟩
  unfold lrI
  rw [u64_and_nat _ _ (ok.val j hj) (ok.mask j hj), (both_val m n j hj).1, (both_val m n j hj).2, or_form _ _ _ _ (gm.form j hj) (gn.form j hj)]
  obtain ⟨w, hw, e⟩ := full_of j
  have p0 : 0 < 2 ^ w := Nat.two_pow_pos w
  have f1 := gm.full j hj
  have f2 := gn.full j hj
  rw [e] at f1 f2
  have hlt : m.mask j ||| n.mask j < 2 ^ w := Nat.or_lt_two_pow (by omega) (by omega)
  have : ¬ (fullI j < ((m.mask j ||| n.mask j : Nat) : Int)) := by rw [e]; omega
  simp [this]
theorem mt0_good : Good mt0 := ⟨⟨fun _ _ => show 0 < 18446744073709551616 by decide, fun _ _ => show 0 < 18446744073709551616 by decide⟩, by decide +kernel⟩
theorem and_good {m n : Mt} (gm : Good m) (gn : Good n) : Good (andM m n) := by
  unfold andM
  split
  · exact both_good gm gn
  · exact mt0_good
theorem andOk_comm {m n : Mt} (gm : Good m) (gn : Good n) : andOk n m = andOk m n := by
  rw [Bool.eq_iff_iff, andOk_iff gm gn, andOk_iff gn gm]
  have : ∀ j, ((n.val j ^^^ m.val j) &&& n.mask j) &&& m.mask j = ((m.val j ^^^ n.val j) &&& m.mask j) &&& n.mask j := fun j => by
    rw [Nat.xor_comm, Nat.and_assoc, Nat.and_comm (n.mask j), ← Nat.and_assoc]
  constructor
  · intro a j hj; rw [← this]; exact a j hj
  · intro a j hj; rw [this]; exact a j hj
theorem andM_comm {m n : Mt} (gm : Good m) (gn : Good n) : eqM (andM m n) (andM n m) = true := by
  rw [eqM_iff]
  intro j hj
  unfold andM
  rw [andOk_comm gm gn]
  split
  · rw [(both_val m n j hj).1, (both_val m n j hj).2, (both_val n m j hj).1, (both_val n m j hj).2]
    exact ⟨Nat.or_comm _ _, Nat.or_comm _ _⟩
  · exact ⟨rfl, rfl⟩
theorem hits_both {m n : Mt} (gm : Good m) (gn : Good n) (h : Hdr) (ok : h.Ok) : (hitsM m h && hitsM n h) = (andOk m n && hitsM (andM m n) h) := by
  rw [Bool.eq_iff_iff]
  simp only [Bool.and_eq_true]
  rw [hits_iff gm h ok, hits_iff gn h ok]
  constructor
  · rintro ⟨x, y⟩
    have k := fun j hj => (both_bits (getN h j) _ _ _ _ (gm.form j hj) (gn.form j hj)).1 ⟨x j hj, y j hj⟩
    have ho : andOk m n = true := (andOk_iff gm gn).2 fun j hj => (k j hj).1
    refine ⟨ho, ?_⟩
    unfold andM
    rw [ho, if_pos rfl, hits_iff (both_good gm gn) h ok]
    intro j hj
    rw [(both_val m n j hj).1, (both_val m n j hj).2]
    exact (k j hj).2
  · rintro ⟨ho, z⟩
    unfold andM at z
    rw [ho, if_pos rfl, hits_iff (both_good gm gn) h ok] at z
    have o := (andOk_iff gm gn).1 ho
    have k := fun j hj => (both_bits (getN h j) _ _ _ _ (gm.form j hj) (gn.form j hj)).2 ⟨o j hj, by have := z j hj; rwa [(both_val m n j hj).1, (both_val m n j hj).2] at this⟩
    exact ⟨fun j hj => (k j hj).1, fun j hj => (k j hj).2⟩
theorem covers_both {m n : Mt} (gm : Good m) (gn : Good n) : coversM m n = (andOk m n && eqM (andM m n) n) := by
  rw [Bool.eq_iff_iff]
  simp only [Bool.and_eq_true]
  rw [cov_iff gm gn]
  constructor
  · intro x
    have k := fun j hj => (cov_bits _ _ _ _ (gm.form j hj) (gn.form j hj)).1 (x j hj)
    have ho : andOk m n = true := (andOk_iff gm gn).2 fun j hj => (k j hj).1
    refine ⟨ho, ?_⟩
    unfold andM
    rw [ho, if_pos rfl, eqM_iff]
    intro j hj
    rw [(both_val m n j hj).1, (both_val m n j hj).2]
    exact (k j hj).2
  · rintro ⟨ho, z⟩
    unfold andM at z
    rw [ho, if_pos rfl, eqM_iff] at z
    have o := (andOk_iff gm gn).1 ho
    intro j hj
    exact (cov_bits _ _ _ _ (gm.form j hj) (gn.form j hj)).2 ⟨o j hj, by have := z j hj; rwa [(both_val m n j hj).1, (both_val m n j hj).2] at this⟩
/-! ### A header that says so -/
/-- the number of the field j of the header that hits n and, where it can, misses m. -/
def witN (m n : Mt) (j : Nat) : Nat := n.val j ||| (((18446744073709551615 - m.val j) &&& (18446744073709551615 - n.mask j)) &&& fullN j)
theorem wit_bits {m n : Mt} (gm : Good m) (gn : Good n) (j : Nat) (hj : j < 9) (i : Nat) : (witN m n j).testBit i = ((n.val j).testBit i || ((!(m.val j).testBit i && !(n.mask j).testBit i) && (fullN j).testBit i)) := by
  have h1 := gm.val j hj
  have h2 := gn.mask j hj
  have h3 := fullN_hi j
  unfold witN
  rw [Nat.testBit_or, Nat.testBit_and, Nat.testBit_and, compl_bit _ _ (by omega), compl_bit _ _ (by omega)]
  cases hf : (fullN j).testBit i
  · simp
  · have : i < 64 := by have := bit_lt (n := 48) hf (by omega); omega
    simp [this]
theorem mask_bits {m : Mt} (gm : Good m) (j : Nat) (hj : j < 9) (i : Nat) (h : (m.mask j).testBit i = true) : (fullN j).testBit i = true := by
  have e := full_and j (m.mask j) (gm.full j hj)
  have := (eq_bits _ _).1 e i
  rw [Nat.testBit_and, h] at this
  simpa using this
theorem wit_full {m n : Mt} (gn : Good n) (j : Nat) (hj : j < 9) : ((witN m n j : Nat) : Int) ≤ fullI j := by
  obtain ⟨w, hw, e⟩ := full_of j
  have e2 : fullN j = 2 ^ w - 1 := by have := fullN_eq j; omega
  have p0 : 0 < 2 ^ w := Nat.two_pow_pos w
  have h1 : n.val j < 2 ^ w := by
    have f := gn.full j hj
    rw [e] at f
    have := gn.form j hj
    have : n.val j ≤ n.mask j := by rw [← this]; exact Nat.and_le_right
    omega
  have h2 : ((18446744073709551615 - m.val j) &&& (18446744073709551615 - n.mask j)) &&& fullN j < 2 ^ w := Nat.lt_of_le_of_lt Nat.and_le_right (by omega)
  have h3 : witN m n j < 2 ^ w := Nat.or_lt_two_pow h1 h2
  rw [e]
  omega
/-- it hits n. -/
theorem wit_hits {m n : Mt} (gm : Good m) (gn : Good n) (j : Nat) (hj : j < 9) : witN m n j &&& n.mask j = n.val j &&& n.mask j := by
  rw [eq_bits]
  intro i
  rw [Nat.testBit_and, Nat.testBit_and, wit_bits gm gn j hj]
  cases h1 : (n.mask j).testBit i <;> cases h2 : (n.val j).testBit i <;> simp
/-- where m asks what n does not, it misses m. -/
theorem wit_miss {m n : Mt} (gm : Good m) (gn : Good n) (j : Nat) (hj : j < 9) (h : ¬ (m.mask j &&& n.mask j = m.mask j ∧ (m.val j ^^^ n.val j) &&& m.mask j = 0)) : ¬ (witN m n j &&& m.mask j = m.val j &&& m.mask j) := by
  intro he
  apply h
  have hb : ∀ i, (m.mask j).testBit i = true → (n.mask j).testBit i = true ∧ (m.val j).testBit i = (n.val j).testBit i := by
    intro i hi
    have := (eq_bits _ _).1 he i
    rw [Nat.testBit_and, Nat.testBit_and, wit_bits gm gn j hj, hi, mask_bits gm j hj i hi] at this
    have hf := form_bits (gn.form j hj) i
    cases h1 : (n.mask j).testBit i <;> cases h2 : (n.val j).testBit i <;> cases h3 : (m.val j).testBit i <;> simp_all
  constructor
  · rw [eq_bits]
    intro i
    rw [Nat.testBit_and]
    cases hi : (m.mask j).testBit i
    · rfl
    · rw [(hb i hi).1]; rfl
  · rw [eq_bits]
    intro i
    rw [Nat.testBit_and, Nat.testBit_xor, Nat.zero_testBit]
    cases hi : (m.mask j).testBit i
    · simp
    · rw [(hb i hi).2]; simp
end Go.Proofs.YtkcikblecinnfaaDoor
