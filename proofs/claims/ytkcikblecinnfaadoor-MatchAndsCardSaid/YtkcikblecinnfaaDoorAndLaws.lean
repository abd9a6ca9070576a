/-
  WHAT HITS BOTH OF TWO MATCHES: plain laws, bit by bit.
-/
import Derived.Test.YtkcikblecinnfaaDoorMtEq
import Derived.Test.YtkcikblecinnfaaDoorMakesLaws
namespace Go.Proofs.YtkcikblecinnfaaDoor
open Go.RowKit

theorem eq_bits (x y : Nat) : x = y ↔ ∀ i, x.testBit i = y.testBit i := ⟨fun h i => by rw [h], Nat.eq_of_testBit_eq⟩
/-- a number under a mask, in its form. -/
theorem form_bits {a p : Nat} (h : a &&& p = a) (i : Nat) : a.testBit i = true → p.testBit i = true := by
  intro ha
  have := (eq_bits _ _).1 h i
  rw [Nat.testBit_and, ha] at this
  simpa using this
/-- who hits both. -/
theorem both_bits (g a p b q : Nat) (ha : a &&& p = a) (hb : b &&& q = b) : (g &&& p = a &&& p ∧ g &&& q = b &&& q) ↔ (((a ^^^ b) &&& p) &&& q = 0 ∧ g &&& (p ||| q) = (a ||| b) &&& (p ||| q)) := by
  simp only [eq_bits, Nat.testBit_and, Nat.testBit_xor, Nat.testBit_or, Nat.zero_testBit]
  have key : ∀ i, ((g.testBit i && p.testBit i) = (a.testBit i && p.testBit i) ∧ (g.testBit i && q.testBit i) = (b.testBit i && q.testBit i)) ↔ ((((a.testBit i ^^ b.testBit i) && p.testBit i) && q.testBit i) = false ∧ (g.testBit i && (p.testBit i || q.testBit i)) = ((a.testBit i || b.testBit i) && (p.testBit i || q.testBit i))) := by
    intro i
    have h1 := form_bits ha i
    have h2 := form_bits hb i
    cases h3 : g.testBit i <;> cases h4 : a.testBit i <;> cases h5 : p.testBit i <;> cases h6 : b.testBit i <;> cases h7 : q.testBit i <;> simp_all
  constructor
  · rintro ⟨x, y⟩
    exact ⟨fun i => ((key i).1 ⟨x i, y i⟩).1, fun i => ((key i).1 ⟨x i, y i⟩).2⟩
  · rintro ⟨x, y⟩
    exact ⟨fun i => ((key i).2 ⟨x i, y i⟩).1, fun i => ((key i).2 ⟨x i, y i⟩).2⟩
/-- who covers. -/
theorem cov_bits (a p b q : Nat) (ha : a &&& p = a) (hb : b &&& q = b) : (p &&& q = p ∧ (a ^^^ b) &&& p = 0) ↔ (((a ^^^ b) &&& p) &&& q = 0 ∧ a ||| b = b ∧ p ||| q = q) := by
  simp only [eq_bits, Nat.testBit_and, Nat.testBit_xor, Nat.testBit_or, Nat.zero_testBit]
  have key : ∀ i, ((p.testBit i && q.testBit i) = p.testBit i ∧ ((a.testBit i ^^ b.testBit i) && p.testBit i) = false) ↔ ((((a.testBit i ^^ b.testBit i) && p.testBit i) && q.testBit i) = false ∧ (a.testBit i || b.testBit i) = b.testBit i ∧ (p.testBit i || q.testBit i) = q.testBit i) := by
    intro i
    have h1 := form_bits ha i
    have h2 := form_bits hb i
    cases h4 : a.testBit i <;> cases h5 : p.testBit i <;> cases h6 : b.testBit i <;> cases h7 : q.testBit i <;> simp_all
  constructor
  · rintro ⟨x, y⟩
    exact ⟨fun i => ((key i).1 ⟨x i, y i⟩).1, fun i => ((key i).1 ⟨x i, y i⟩).2.1, fun i => ((key i).1 ⟨x i, y i⟩).2.2⟩
  · rintro ⟨x, y, z⟩
    exact ⟨fun i => ((key i).2 ⟨x i, y i, z i⟩).1, fun i => ((key i).2 ⟨x i, y i, z i⟩).2⟩
/-- both are in their form. -/
theorem or_form (a p b q : Nat) (ha : a &&& p = a) (hb : b &&& q = b) : (a ||| b) &&& (p ||| q) = a ||| b := by
  rw [eq_bits]
  intro i
  simp only [Nat.testBit_and, Nat.testBit_or]
  have h1 := form_bits ha i
  have h2 := form_bits hb i
  cases h4 : a.testBit i <;> cases h5 : p.testBit i <;> cases h6 : b.testBit i <;> cases h7 : q.testBit i <;> simp_all
end Go.Proofs.YtkcikblecinnfaaDoor
