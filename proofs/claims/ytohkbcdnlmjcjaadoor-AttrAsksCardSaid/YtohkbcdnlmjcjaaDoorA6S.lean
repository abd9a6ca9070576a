/-
  ATTRIBUTES: slices.SortFunc of no others.
-/
import Derived.Test.YtohkbcdnlmjcjaaDoorA6R
namespace Go.Proofs.YtohkbcdnlmjcjaaDoor
open Go.RowKit

set_option maxHeartbeats 1600000 in
set_option maxRecDepth 100000 in
theorem ins_none (sa : Option Addr) (cap : Nat) (fv : Value) (w : World) : Calls Tryd.prog 68 #[.slice sa 0 cap, .int .i64 0, .int .i64 0, fv] w fun e w' => e = .returned (.tuple #[]) ∧ w = w' := by
  go_enter Tryd.func68, Tryd.ntmps68
  go_wp2_with fail
  go_loopw [8] (fun t wr => t = .int .i64 1 ∧ wr = w) (fun _ _ => 0)
  case atStart => exact ⟨rfl, rfl⟩
  case round =>
    obtain ⟨rfl, rfl⟩ := hrel
    go_wp2_with fail
    exact bodyPost_end (results_none Tryd.results68 _ _ _) rfl ⟨rfl, rfl⟩
set_option maxRecDepth 100000 in
theorem len64_zero (w : World) : Calls Tryd.prog 77 #[.int .u64 0] w fun e w' => e = .returned (.int .i64 0) ∧ w = w' := by
  go_enter Tryd.func77, Tryd.ntmps77
  go_wp2_with fail
  go_ret
  exact ⟨ret_int (by decide +kernel), rfl⟩
set_option maxRecDepth 100000 in
theorem len_zero (w : World) : Calls Tryd.prog 65 #[.int .u64 0] w fun e w' => e = .returned (.int .i64 0) ∧ w = w' := by
  go_enter Tryd.func65, Tryd.ntmps65
  go_wp2_with fail
  refine (len64_zero _).mono ?_
  rintro e w1 ⟨rfl, rfl⟩
  go_wp2_with fail
  go_ret
  exact ⟨rfl, rfl⟩
set_option maxHeartbeats 1600000 in
set_option maxRecDepth 100000 in
theorem pdq_none (sa : Option Addr) (cap : Nat) (fv : Value) (w : World) : Calls Tryd.prog 64 #[.slice sa 0 cap, .int .i64 0, .int .i64 0, .int .i64 0, fv] w fun e w' => e = .returned (.tuple #[]) ∧ w = w' := by
  go_enter Tryd.func64, Tryd.ntmps64
  go_wp2_with fail
  go_loopw [1, 2, 3, 10, 11] (fun a b c d e wr => a = .int .i64 0 ∧ b = .int .i64 0 ∧ c = .int .i64 0 ∧ d = .bool true ∧ e = .bool true ∧ wr = w) (fun _ _ _ _ _ _ => 0)
  case atStart => exact ⟨rfl, rfl, rfl, rfl, rfl, rfl⟩
  case round =>
    obtain ⟨rfl, rfl, rfl, rfl, rfl, rfl⟩ := hrel
    go_wp2_with fail
    refine (ins_none sa cap fv _).mono ?_
    rintro e w1 ⟨rfl, rfl⟩
    go_wp2_with fail
    exact bodyPost_ret (results_none Tryd.results64 _ _ _) rfl ⟨rfl, rfl⟩
set_option maxRecDepth 100000 in
theorem sort_none (sa : Option Addr) (cap : Nat) (fv : Value) (w : World) : Calls Tryd.prog 45 #[.slice sa 0 cap, fv] w fun e w' => e = .returned (.tuple #[]) ∧ w = w' := by
  go_enter Tryd.func45, Tryd.ntmps45
  go_wp2_with fail
  refine (len_zero _).mono ?_
  rintro e w1 ⟨rfl, rfl⟩
  go_wp2_with fail
  refine (pdq_none sa cap fv _).mono ?_
  rintro e w1 ⟨rfl, rfl⟩
  go_wp2_with fail
  exact bodyPost_end (results_none Tryd.results45 _ _ _) rfl ⟨rfl, rfl⟩
end Go.Proofs.YtohkbcdnlmjcjaaDoor
