/-
  FOR THE STATEMENTS' LAST STEP: what the arguments are, by their types.
-/
import Derived.Test.YtadlecnlgkhneaaRows
import Derived.Test.YtadlecnlgkhneaaRg
import Derived.ProofKit
import Derived.OpenShut
namespace Go.Proofs.Ytadlecnlgkhneaa
open Go.RowKit Go.ChangeShapes Go.WideShapes Go.ChangeAt

theorem fr_own : ownKnob Try.prog.godebug = none := by kernel_rfl
theorem fr_laidOut : laidOutB Try.prog = true := by kernel_rfl

section
variable {w : World} {r : Reach} {b : Nat}
set_option maxRecDepth 100000 in
theorem cell_int {t : TypeId} {k : IntKind} {v : Value} (ht : Try.prog.underlying t = some (.int k)) (h : Cell.okWide Try.prog w r b t v) : ∃ n, v = .int k n ∧ k.has n := by
  simp only [Cell.okWide, ht] at h
  cases v <;> simp_all [Cell.ok]
theorem has_u32 {n : Int} (h : IntKind.u32.has n) : 0 ≤ n ∧ n < 4294967296 := by
  simp [IntKind.has, IntKind.min, IntKind.max, IntKind.bits, IntKind.signed] at h; omega
theorem has_i64 {n : Int} (h : IntKind.i64.has n) : -9223372036854775808 ≤ n ∧ n ≤ 9223372036854775807 := by
  simp [IntKind.has, IntKind.min, IntKind.max, IntKind.bits, IntKind.signed] at h; omega
set_option maxRecDepth 100000 in
theorem open_i64 {v : Value} (h : Value.okWide Try.prog w r b 3 v) : ∃ n, v = .int .i64 n ∧ -9223372036854775808 ≤ n ∧ n ≤ 9223372036854775807 := by
  simp only [Value.okWide, Try.underlying3] at h
  obtain ⟨n, rfl, hn⟩ := cell_int Try.underlying3 h
  exact ⟨n, rfl, has_i64 hn⟩
set_option maxRecDepth 100000 in
theorem open_u32 {v : Value} (h : Value.okWide Try.prog w r b 27 v) : ∃ n, v = .int .u32 n ∧ 0 ≤ n ∧ n < 4294967296 := by
  simp only [Value.okWide, Try.underlying27] at h
  obtain ⟨n, rfl, hn⟩ := cell_int Try.underlying27 h
  exact ⟨n, rfl, has_u32 hn⟩
set_option maxRecDepth 100000 in
theorem open_pref {v : Value} (h : Value.okWide Try.prog w r b 29 v) : ∃ a n, v = .agg #[.int .u32 a, .int .i64 n] ∧ 0 ≤ a ∧ a < 4294967296 ∧ -9223372036854775808 ≤ n ∧ n ≤ 9223372036854775807 := by
  simp only [Value.okWide, Try.underlying29] at h
  obtain ⟨cs, rfl, hsz, ts, hts, _, hc⟩ := h
  have e : Try.prog.cellTypes Try.prog.depth 29 = some [27, 3] := by kernel_rfl
  rw [e] at hts
  obtain rfl := Option.some.inj hts
  have hn : Try.prog.cellsOf 29 = 2 := by kernel_rfl
  rw [hn] at hsz
  match cs, hsz with
  | ⟨[x, y]⟩, _ =>
    obtain ⟨u0, hu0, h0⟩ := hc 0 x (by simp)
    obtain ⟨u1, hu1, h1⟩ := hc 1 y (by simp)
    simp at hu0 hu1
    subst hu0; subst hu1
    obtain ⟨a, rfl, ha⟩ := cell_int Try.underlying27 h0
    obtain ⟨n, rfl, hn⟩ := cell_int Try.underlying3 h1
    exact ⟨a, n, rfl, (has_u32 ha).1, (has_u32 ha).2, (has_i64 hn).1, (has_i64 hn).2⟩
end
end Go.Proofs.Ytadlecnlgkhneaa
