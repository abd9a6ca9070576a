/-
  A POOL THAT IS NONE.
-/
import Derived.Test.YtcoclbcjbpjblaaPoolT
import Derived.Test.YtcoclbcjbpjblaaPoolS
namespace Go.Proofs.Ytcoclbcjbpjblaa
open Go.RowKit
theorem nil_Len (W : World) : Calls Try.prog 10 #[.pointer none] W fun e w' => e = .returned (.int .i64 0) ∧ W = w' := by
  go_enter Try.func10, Try.ntmps10
  go_wp2
  go_ret
  exact ⟨rfl, rfl⟩
theorem nil_Uses (t : Int) (W : World) : Calls Try.prog 14 #[.pointer none, .int .i64 t] W fun e w' => e = .returned (.int .i64 0) ∧ W = w' := by
  go_enter Try.func14, Try.ntmps14
  go_wp2
  go_ret
  exact ⟨rfl, rfl⟩
theorem nil_Sweep (W : World) : Calls Try.prog 11 #[.pointer none] W fun e w' => e = .returned (.int .i64 0) ∧ W = w' := by
  go_enter Try.func11, Try.ntmps11
  go_wp2
  go_ret
  exact ⟨rfl, rfl⟩
theorem nil_Give (t : Int) (W : World) : Calls Try.prog 9 #[.pointer none, .int .i64 t] W fun e w' => e = .returned (.int .i64 1) ∧ W = w' := by
  go_enter Try.func9, Try.ntmps9
  go_wp2
  go_ret
  exact ⟨rfl, rfl⟩
theorem nil_Drop (t : Int) (W : World) : Calls Try.prog 13 #[.pointer none, .int .i64 t] W fun e w' => e = .returned (.int .i64 1) ∧ W = w' := by
  go_enter Try.func13, Try.ntmps13
  go_wp2_with fail
  refine (nil_Give t W).mono ?_
  rintro e w' ⟨rfl, rfl⟩
  go_wp2
  go_ret
  exact ⟨rfl, rfl⟩
theorem nil_Take (k1 k2 k3 : Int) (W : World) : Calls Try.prog 8 #[.pointer none, .agg #[.int .i64 k1, .int .i64 k2, .int .i64 k3]] W fun e w' => e = .returned (.tuple #[.int .i64 0, .int .i64 1]) ∧ Below W.heap.size W w' := by
  go_enter Try.func8, Try.ntmps8
  go_wp2
  go_ret2
  exact ⟨rfl, (Below.refl _ _).alloc (Nat.le_refl _) _⟩
theorem nil_Key (t : Int) (W : World) : Calls Try.prog 12 #[.pointer none, .int .i64 t] W fun e w' => e = .returned (.tuple #[kyV (0, 0, 0), .bool false]) ∧ Below W.heap.size W w' := by
  go_enter Try.func12, Try.ntmps12
  go_wp2
  exact bodyPost_ret (v := .tuple #[kyV (0, 0, 0), .bool false]) (by simp [results, Try.results12, go_sem]) rfl ⟨rfl, (Below.refl _ _).alloc (Nat.le_refl _) _⟩
end Go.Proofs.Ytcoclbcjbpjblaa
