/-
  CHOOSE: plain laws of ChooseLikes: what the best one is not worse than; the one that is liked most.
-/
import Derived.Test.YtfkplbkllmnfeaaChG
import Derived.Test.YtfkplbkllmnfeaaBits
namespace Go.Proofs.Ytfkplbkllmnfeaa
open Go.RowKit

/-- the best one, and another. -/
theorem likes_one {xs : List Cd} {i : Nat} {b : Cd} (hb : IsBest (rksOf xs) (rkOf i b)) (hm : ∀ c ∈ xs, medOf c.a = c.a.med) (hib : xs[i]? = some b) {k : Nat} {c : Cd} (hc : xs[k]? = some c) :
    ¬ ((rtOf b).loc < (rtOf c).loc) ∧ ((rtOf c).loc = (rtOf b).loc → ¬ (rtOf c).hops < (rtOf b).hops) ∧ ((rtOf c).loc = (rtOf b).loc → (rtOf c).hops = (rtOf b).hops → ¬ (rtOf c).origin < (rtOf b).origin) ∧
    ((rtOf c).loc = (rtOf b).loc → (rtOf c).hops = (rtOf b).hops → (rtOf c).origin = (rtOf b).origin → (rtOf c).first = (rtOf b).first → ¬ (rtOf c).med < (rtOf b).med) := by
  have hmem : rkOf k c ∈ rksOf xs := rksOf_mem.2 ⟨k, c, hc, rfl⟩
  have h1 := hb.left.1 _ hmem
  have h2 := hb.left.2 _ hmem
  have m1 := hm c (List.mem_of_getElem? hc)
  have m2 := hm b (List.mem_of_getElem? hib)
  unfold AhP rkOf at h1
  unfold EqP rkOf at h2
  simp only at h1 h2
  rw [m1, m2] at h2
  unfold rtOf
  simp only
  refine ⟨fun h => h1 (.inl h), fun e h => h1 (.inr ⟨e, .inl (by omega)⟩), fun e e2 h => h1 (.inr ⟨e, .inr ⟨by omega, h⟩⟩), fun e e2 e3 e4 h => ?_⟩
  have := h2 ⟨e, by omega, e3⟩ e4
  omega
/-- the one that is liked most. -/
theorem most_one {xs : List Cd} {k : Nat} {c : Cd} (hk : xs[k]? = some c) (hc : locOf c.a = 4294967295) (ho : ∀ (i : Nat) (d : Cd), xs[i]? = some d → i ≠ k → locOf d.a ≠ 4294967295 ∧ locOf d.a ≤ 4294967295) : bestI xs = k := by
  have one : ∀ (i : Nat) (d : Cd), xs[i]? = some d → i = k ∧ d = c ∨ locOf d.a < 4294967295 := by
    intro i d hd
    by_cases e : i = k
    · subst e
      rw [hk] at hd
      cases hd
      exact .inl ⟨rfl, rfl⟩
    · have := ho i d hd e
      exact .inr (by omega)
  refine bestI_of hk ⟨rksOf_mem.2 ⟨k, c, hk, rfl⟩, ⟨fun q hq hA => ?_, fun q hq hE _ => ?_⟩, fun q hq hl hB => ?_⟩
  · obtain ⟨i, d, hd, rfl⟩ := rksOf_mem.1 hq
    unfold AhP rkOf at hA
    simp only at hA
    rcases one i d hd with ⟨rfl, rfl⟩ | h <;> omega
  · obtain ⟨i, d, hd, rfl⟩ := rksOf_mem.1 hq
    unfold EqP rkOf at hE
    simp only at hE
    rcases one i d hd with ⟨rfl, rfl⟩ | h
    · exact Int.le_refl _
    · omega
  · obtain ⟨i, d, hd, rfl⟩ := rksOf_mem.1 hq
    rcases one i d hd with ⟨rfl, rfl⟩ | h
    · unfold BhP rkOf at hB
      simp only at hB
      omega
    · have := hl.1 (rkOf k c) (rksOf_mem.2 ⟨k, c, hk, rfl⟩)
      unfold AhP rkOf at this
      simp only at this
      omega
/-- it is liked most: the bit, and the number. -/
def likeA (a : At) : At := { a with has := bits .or .i64 a.has 32, loc := 4294967295 }
def likeC (c : Cd) : Cd := { c with a := likeA c.a }
theorem or32_nat (N : Nat) : (N ||| 32) / 32 % 2 = 1 := by
  have h : (N ||| 32).testBit 5 = true := by rw [Nat.testBit_or, show Nat.testBit 32 5 = true by decide, Bool.or_true]
  rw [Nat.testBit_eq_decide_div_mod_eq] at h
  simpa using h
theorem or32_wrap (x : Int) : ∃ n : Nat, n < 18446744073709551616 ∧ n / 32 % 2 = 1 ∧ bits .or .i64 x 32 = IntKind.i64.wrap (n : Int) := by
  refine ⟨(BitVec.ofInt 64 x ||| BitVec.ofInt 64 32).toNat, (BitVec.ofInt 64 x ||| BitVec.ofInt 64 32).isLt, ?_, rfl⟩
  rw [BitVec.toNat_or]
  exact or32_nat _
theorem wrap_cases (n : Nat) (h : n < 18446744073709551616) : (IntKind.i64.wrap (n : Int) = n ∧ n < 9223372036854775808) ∨ (IntKind.i64.wrap (n : Int) = (n : Int) - 18446744073709551616 ∧ 9223372036854775808 ≤ n) := by
  unfold IntKind.wrap
  simp only [IntKind.bits, IntKind.signed]
  simp
  omega
theorem or32_all (x : Int) : I64r (bits .or .i64 x 32) ∧ isB (bits .or .i64 x 32) 5 = true := by
  obtain ⟨n, h1, h2, h3⟩ := or32_wrap x
  have h4 := wrap_cases n h1
  rw [← h3] at h4
  have hb : bitB (bits .or .i64 x 32) 5 = true := by
    unfold bitB
    have := and_low_i64 (bits .or .i64 x 32 / 2 ^ 5) 1 (by decide)
    rw [show ((2 ^ 1 - 1 : Nat) : Int) = 1 by decide] at this
    rw [this, beq_iff_eq]
    omega
  refine ⟨by unfold I64r; omega, ?_⟩
  unfold isB
  rw [show (5 : Int).toNat = 5 by decide, hb]
  decide
end Go.Proofs.Ytfkplbkllmnfeaa
