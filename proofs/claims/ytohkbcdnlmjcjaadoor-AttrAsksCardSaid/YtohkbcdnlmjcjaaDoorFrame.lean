/-
  FOR THE STATEMENTS' LAST STEP: what the arguments are, by their types.
-/
import Derived.Test.YtohkbcdnlmjcjaaDoorRows
import Derived.Test.YtohkbcdnlmjcjaaDoorRg
import Derived.ProofKit
import Derived.OpenShut
namespace Go.Proofs.YtohkbcdnlmjcjaaDoor
open Go.RowKit Go.ChangeShapes Go.WideShapes Go.ChangeAt

set_option maxRecDepth 100000 in
theorem fr_own : ownKnob Tryd.prog.godebug = none := by kernel_rfl
set_option maxRecDepth 100000 in
theorem fr_laidOut : laidOutB Tryd.prog = true := by kernel_rfl

section
variable {w : World} {r : Reach} {b : Nat}
set_option maxRecDepth 100000 in
theorem cell_int {t : TypeId} {k : IntKind} {v : Value} (ht : Tryd.prog.underlying t = some (.int k)) (h : Cell.okWide Tryd.prog w r b t v) : ∃ n, v = .int k n ∧ k.has n := by
  simp only [Cell.okWide, ht] at h
  cases v <;> simp_all [Cell.ok]
set_option maxRecDepth 100000 in
theorem has_u32 {n : Int} (h : IntKind.u32.has n) : 0 ≤ n ∧ n < 4294967296 := by
  simp [IntKind.has, IntKind.min, IntKind.max, IntKind.bits, IntKind.signed] at h; omega
set_option maxRecDepth 100000 in
theorem has_i64 {n : Int} (h : IntKind.i64.has n) : -9223372036854775808 ≤ n ∧ n ≤ 9223372036854775807 := by
  simp [IntKind.has, IntKind.min, IntKind.max, IntKind.bits, IntKind.signed] at h; omega
set_option maxRecDepth 100000 in
theorem open_i64 {v : Value} (h : Value.okWide Tryd.prog w r b 3 v) : ∃ n, v = .int .i64 n ∧ -9223372036854775808 ≤ n ∧ n ≤ 9223372036854775807 := by
  simp only [Value.okWide, Tryd.underlying3] at h
  obtain ⟨n, rfl, hn⟩ := cell_int Tryd.underlying3 h
  exact ⟨n, rfl, has_i64 hn⟩
set_option maxRecDepth 100000 in
theorem open_u32 {v : Value} (h : Value.okWide Tryd.prog w r b 24 v) : ∃ n, v = .int .u32 n ∧ 0 ≤ n ∧ n < 4294967296 := by
  simp only [Value.okWide, Tryd.underlying24] at h
  obtain ⟨n, rfl, hn⟩ := cell_int Tryd.underlying24 h
  exact ⟨n, rfl, has_u32 hn⟩
end
end Go.Proofs.YtohkbcdnlmjcjaaDoor
