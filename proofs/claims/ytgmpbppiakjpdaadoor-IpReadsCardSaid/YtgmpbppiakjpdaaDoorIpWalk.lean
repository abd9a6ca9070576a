/-
  THE WALKS OF PACKAGE ip: what each function gives back, as plain numbers; what was in memory stays.
-/
import Derived.Test.YtgmpbppiakjpdaaDoorRows
import Derived.Test.YtgmpbppiakjpdaaDoorIpPlain
import Derived.Test.YtgmpbppiakjpdaaDoorIpMore
import Derived.Test.YtgmpbppiakjpdaaDoorRg
import Derived.RegionTactic
import Derived.ChangeAlike
namespace Go.Proofs.YtgmpbppiakjpdaaDoor
open Go.RowKit

set_option maxHeartbeats 400000 in
theorem ip_within (n : Int) (w : World) :
    Calls Tryd.prog 29 #[.int .i64 n] w fun e w' => e = .returned (.int .i64 (cl n)) ∧ w = w' := by
  go_enter Tryd.func29, Tryd.ntmps29
  go_wp2
  all_goals
    go_ret
    exact ⟨ret_int (by unfold cl; omega), rfl⟩

set_option maxHeartbeats 400000 in
theorem ip_Mask (n : Int) (w : World) :
    Calls Tryd.prog 28 #[.int .i64 n] w fun e w' => e = .returned (.int .u32 (maskI n)) ∧ w = w' := by
  have h1 := cl_lo n
  have h2 := cl_hi n
  go_enter Tryd.func28, Tryd.ntmps28
  go_wp2_with (go_at_call 29; refine (ip_within _ _).mono ?_; rintro e w' ⟨rfl, rfl⟩)
  go_ret
  exact ⟨ret_int (mask_walk n), rfl⟩

set_option maxHeartbeats 400000 in
theorem ip_Of (a n : Int) (w : World) (h0 : 0 ≤ a) (h : a < 4294967296) :
    Calls Tryd.prog 22 #[.int .u32 a, .int .i64 n] w fun e w' => e = .returned (.agg #[.int .u32 (keepI a n), .int .i64 (cl n)]) ∧ Below w.heap.size w w' := by
  have E := Lib.hid (and_mask a n h0 h)
  go_enter Tryd.func22, Tryd.ntmps22
  go_wp2_with (first
    | (go_at_call 29; refine (ip_within _ _).mono ?_; rintro e w' ⟨rfl, rfl⟩)
    | (go_at_call 28; refine (ip_Mask _ _).mono ?_; rintro e w' ⟨rfl, rfl⟩))
  rw [E.out]
  exact bodyPost_ret (v := .agg #[.int .u32 (keepI a n), .int .i64 (cl n)]) (by simp [results, Tryd.results22, go_sem]) rfl ⟨rfl, (Below.refl _ _).alloc (Nat.le_refl _) _⟩

/-! ### Two nets held against each other -/
theorem undPrefix : Tryd.prog.underlying 25 = some (.struct (Tryd.prog.fieldsOf 25)) := by kernel_rfl
theorem stoPrefix : Tryd.prog.stoodInHeld 25 = false := by kernel_rfl
set_option maxRecDepth 100000 in
theorem run_eql_pref (a b c d : Int) (w : World) : (binOp .eql 25 (.agg #[.int .u32 a, .int .i64 b]) (.agg #[.int .u32 c, .int .i64 d])).run Tryd.prog w = .ok (.bool (a == c && b == d)) w := by
  rw [run_eql_struct, run_equalIn_struct w 9999 25 _ _ undPrefix stoPrefix, Program.fieldsOf, Tryd.underlying25]
  simp only [Op.eqFields]
  by_cases h1 : a = c <;> by_cases h2 : b = d <;> simp [go_sem, h1, h2]
set_option maxRecDepth 100000 in
theorem run_neq_pref (a b c d : Int) (w : World) : (binOp .neq 25 (.agg #[.int .u32 a, .int .i64 b]) (.agg #[.int .u32 c, .int .i64 d])).run Tryd.prog w = .ok (.bool (!(a == c && b == d))) w := by
  rw [run_neq_struct, run_equalIn_struct w 9999 25 _ _ undPrefix stoPrefix, Program.fieldsOf, Tryd.underlying25]
  simp only [Op.eqFields]
  by_cases h1 : a = c <;> by_cases h2 : b = d <;> simp [go_sem, h1, h2]
attribute [go_sem ↓] run_eql_pref run_neq_pref

attribute [go_sem] errI_zero

set_option maxHeartbeats 400000 in
theorem ip_Check (a n : Int) (w : World) (h0 : 0 ≤ a) (h : a < 4294967296) :
    Calls Tryd.prog 12 #[.agg #[.int .u32 a, .int .i64 n]] w fun e w' => e = .returned (.int .i64 (errI (rightB a n))) ∧ Below w.heap.size w w' := by
  go_enter Tryd.func12, Tryd.ntmps12
  go_wp2_with fail
  obtain ⟨W0, hW0, c0, c1, hB⟩ := box2 w (.int .u32 a) (.int .i64 n) 25
  rw [← hW0]; clear hW0
  refine wp_region_held_drew (S := fun w' => Below W0.heap.size W0 w') (by kernel_rfl) ?_ (fun hHeld => ?_)
  · exact (Below.refl _ _).drew
  refine rg_yes (i := 0) (v := ?_) at0 (by kernel_rfl) (by kernel_rfl) (by kernel_rfl) (fun _ _ _ h => h) ?_ ?_ hHeld ?_; rotate_left 1; (· rfl); (· intro w' hSw; (try dsimp only at hSw); have c0 := cell_below c0 hSw; have c1 := cell_below c1 hSw; (try clear hHeld); go_simp; try with_reducible rfl)
  try simp only [Act.put, List.setIfInBounds_toArray, List.set_cons_zero, List.set_cons_succ]
  refine rg_yes (i := 1) (v := ?_) (atS at0) (by kernel_rfl) (by kernel_rfl) (by kernel_rfl) (fun _ _ _ h => h) ?_ ?_ hHeld ?_; rotate_left 1; (· rfl); (· intro w' hSw; (try dsimp only at hSw); (try clear hHeld); go_simp; try with_reducible rfl)
  try simp only [Act.put, List.setIfInBounds_toArray, List.set_cons_zero, List.set_cons_succ]
  refine rg_yes (i := 2) (v := ?_) (atS (atS at0)) (by kernel_rfl) (by kernel_rfl) (by kernel_rfl) (fun _ _ _ h => h) ?_ ?_ hHeld ?_; rotate_left 1; (· rfl); (· intro w' hSw; (try dsimp only at hSw); have c0 := cell_below c0 hSw; have c1 := cell_below c1 hSw; (try clear hHeld); go_simp; try with_reducible rfl)
  try simp only [Act.put, List.setIfInBounds_toArray, List.set_cons_zero, List.set_cons_succ]
  refine rg_yes (i := 3) (v := ?_) (atS (atS (atS at0))) (by kernel_rfl) (by kernel_rfl) (by kernel_rfl) (fun _ _ _ h => h) ?_ ?_ hHeld ?_; rotate_left 1; (· rfl); (· intro w' hSw; (try dsimp only at hSw); (try clear hHeld); go_simp; try with_reducible rfl)
  try simp only [Act.put, List.setIfInBounds_toArray, List.set_cons_zero, List.set_cons_succ]
  refine rg_yes (i := 4) (v := ?_) (atS (atS (atS (atS at0)))) (by kernel_rfl) (by kernel_rfl) (by kernel_rfl) (fun _ _ _ h => h) ?_ ?_ hHeld ?_; rotate_left 1; (· rfl); (· intro w' hSw; (try dsimp only at hSw); have c0 := cell_below c0 hSw; have c1 := cell_below c1 hSw; (try clear hHeld); go_simp; try with_reducible rfl)
  try simp only [Act.put, List.setIfInBounds_toArray, List.set_cons_zero, List.set_cons_succ]
  refine rg_call (i := 5) (atS (atS (atS (atS (atS at0))))) (by kernel_rfl) ?_ (fun K hK => ?_); (· rfl); (try clear hb); go_simp; (refine (ip_Of a n _ h0 h).mono ?_; rintro e w1 ⟨rfl, hb⟩); go_wp2_with fail; refine hK.out _ _ ?_ (fun hHeld => ?_); (· exact hHeld.trans (hb.mono hHeld.size)); clear hK K
  try simp only [Act.put, List.setIfInBounds_toArray, List.set_cons_zero, List.set_cons_succ]
  refine rg_yes (i := 6) (v := ?_) (atS (atS (atS (atS (atS (atS at0)))))) (by kernel_rfl) (by kernel_rfl) (by kernel_rfl) (fun _ _ _ h => h) ?_ ?_ hHeld ?_; rotate_left 1; (· rfl); (· intro w' hSw; (try dsimp only at hSw); (try clear hHeld); go_simp; try with_reducible rfl)
  try simp only [Act.put, List.setIfInBounds_toArray, List.set_cons_zero, List.set_cons_succ]
  refine wpAnyH_done (by kernel_rfl) ?_ _
  have hB' := below_on hB hHeld
  clear hHeld hb
  go_wp2
  · have hr := rightB_no ‹_ ∨ _›
    go_ret
    exact ⟨ret_int (by rw [hr]; rfl), hB'⟩
  · have hr := rightB_yes ‹_ = false ∧ _ = false›
    go_ret
    exact ⟨ret_int (by rw [hr]; rfl), hB'⟩




theorem frozen_below {W W' : World} {a : Addr} (hz : a.block < W.heap.size) (h : W.frozen? a = false) (hb : Below W.heap.size W W') : W'.frozen? a = false := (hb.frozen hz).trans h
end Go.Proofs.YtgmpbppiakjpdaaDoor
