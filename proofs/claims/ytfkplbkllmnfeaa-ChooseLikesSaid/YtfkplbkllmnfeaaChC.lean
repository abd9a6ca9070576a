/-
  CHOOSE: ranks; cmp.Compare, cmp.Or of three; ahead, behind.
-/
import Derived.Test.YtfkplbkllmnfeaaSl
import Derived.Test.YtfkplbkllmnfeaaRg2
import Derived.LoopTactic
import Derived.OwnWalk
import Derived.Deep.DeepCutAuto
import Derived.LoopN
namespace Go.Proofs.Ytfkplbkllmnfeaa
open Go.RowKit

def cmpI (a b : Int) : Int := if a < b then -1 else if b < a then 1 else 0
set_option maxHeartbeats 400000 in
theorem cmp_CompareAddr (a b : Int) (w : World) :
    Calls Try.prog 41 #[.int .u32 a, .int .u32 b] w fun e w' => e = .returned (.int .i64 (cmpI a b)) ∧ w = w' := by
  go_enter Try.func41, Try.ntmps41
  go_wp2
  all_goals
    go_ret
    exact ⟨ret_int (by unfold cmpI; repeat (first | rw [if_pos (by omega)] | rw [if_neg (by omega)])), rfl⟩
set_option maxHeartbeats 400000 in
theorem cmp_CompareInt (a b : Int) (w : World) :
    Calls Try.prog 40 #[.int .i64 a, .int .i64 b] w fun e w' => e = .returned (.int .i64 (cmpI a b)) ∧ w = w' := by
  go_enter Try.func40, Try.ntmps40
  go_wp2
  all_goals
    go_ret
    exact ⟨ret_int (by unfold cmpI; repeat (first | rw [if_pos (by omega)] | rw [if_neg (by omega)])), rfl⟩
def or3 (x y z : Int) : Int := if x = 0 then (if y = 0 then z else y) else x
set_option maxHeartbeats 800000 in
theorem cmp_OrInt3 (g c : Nat) (x y z : Int) (w : World) (hx : w.cell? ⟨g, 0, none⟩ = some (.int .i64 x)) (hy : w.cell? ⟨g, 1, none⟩ = some (.int .i64 y)) (hz : w.cell? ⟨g, 2, none⟩ = some (.int .i64 z)) :
    Calls Try.prog 39 #[.slice (some ⟨g, 0, none⟩) 3 c] w fun e w' => e = .returned (.int .i64 (or3 x y z)) ∧ w = w' := by
  by_cases e1 : x = 0
  · by_cases e2 : y = 0
    · subst e1; subst e2
      by_cases e3 : z = 0
      · subst e3
        go_enter Try.func39, Try.ntmps39
        go_wp2
        refine wp_loop_rounds 4 ?_
        iterate 4 (rw [rounds_succ]; go_wp2)
        go_ret
        exact ⟨rfl, rfl⟩
      · have n3 : (z != 0) = true := by simpa using e3
        go_enter Try.func39, Try.ntmps39
        go_wp2
        refine wp_loop_rounds 4 ?_
        iterate 3 (rw [rounds_succ]; go_wp2)
        go_ret
        exact ⟨ret_int (by unfold or3; simp), rfl⟩
    · subst e1
      have n3 : (y != 0) = true := by simpa using e2
      go_enter Try.func39, Try.ntmps39
      go_wp2
      refine wp_loop_rounds 4 ?_
      iterate 2 (rw [rounds_succ]; go_wp2)
      go_ret
      exact ⟨ret_int (by unfold or3; simp [e2]), rfl⟩
  · have n3 : (x != 0) = true := by simpa using e1
    go_enter Try.func39, Try.ntmps39
    go_wp2
    refine wp_loop_rounds 4 ?_
    rw [rounds_succ]
    go_wp2
    go_ret
    exact ⟨ret_int (by unfold or3; simp [e1]), rfl⟩

structure Rk where
  place : Int
  loc : Int
  hops : Int
  origin : Int
  first : Int
  med : Int
  id : Nat
  peer : Int
def rkL (r : Rk) : List Value := [.int .i64 r.place, .int .i64 r.loc, .int .i64 r.hops, .int .i64 r.origin, .int .i64 r.first, .int .i64 r.med, .int .u32 r.id, .int .i64 r.peer]
abbrev rkA (r : Rk) : Array Value := #[.int .i64 r.place, .int .i64 r.loc, .int .i64 r.hops, .int .i64 r.origin, .int .i64 r.first, .int .i64 r.med, .int .u32 r.id, .int .i64 r.peer]
def aheadI (a b : Rk) : Int := or3 (cmpI b.loc a.loc) (cmpI a.hops b.hops) (cmpI a.origin b.origin)
def behindI (a b : Rk) : Int := or3 (cmpI a.id b.id) (cmpI a.peer b.peer) (cmpI a.place b.place)
/-- two ranks are boxed at the call's beginning. -/
theorem boxR (w : World) (a b : Rk) : ∃ W0, W0 = (w.alloc (.cells (rkA a) 54)).alloc (.cells (rkA b) 54) ∧ W0.heap[w.heap.size]? = some (.cells (rkA a) 54 (0, 0)) ∧ W0.heap[w.heap.size + 1]? = some (.cells (rkA b) 54 (0, 0)) ∧ Below w.heap.size w W0 := by
  refine ⟨_, rfl, ?_, ?_, ((Below.refl _ _).alloc (Nat.le_refl _) _).alloc (by simp) _⟩
  · have h1 := heap_alloc_new w (.cells (rkA a) 54)
    have h2 : Below (w.alloc (.cells (rkA a) 54)).heap.size (w.alloc (.cells (rkA a) 54)) ((w.alloc (.cells (rkA a) 54)).alloc (.cells (rkA b) 54)) := (Below.refl _ _).alloc (Nat.le_refl _) _
    exact (h2.block _ (row_lt h1)).trans h1
  · have h1 := heap_alloc_new (w.alloc (.cells (rkA a) 54)) (.cells (rkA b) 54)
    simpa using h1
set_option maxHeartbeats 1600000 in
set_option maxRecDepth 100000 in
theorem ch_ahead (a b : Rk) (w : World) :
    Calls Try.prog 32 #[.agg (rkA a), .agg (rkA b)] w fun e w' => e = .returned (.int .i64 (aheadI a b)) ∧ Below w.heap.size w w' := by
  go_enter Try.func32, Try.ntmps32
  go_wp2_with fail
  obtain ⟨W0, hW0, ra, rb, hB⟩ := boxR w a b
  rw [← hW0]; clear hW0
  have c0 : W0.cell? ⟨w.heap.size, 0, none⟩ = some (.int .i64 a.place) := row_cell ra 0
  have c1 : W0.cell? ⟨w.heap.size, 1, none⟩ = some (.int .i64 a.loc) := row_cell ra 1
  have c2 : W0.cell? ⟨w.heap.size, 2, none⟩ = some (.int .i64 a.hops) := row_cell ra 2
  have c3 : W0.cell? ⟨w.heap.size, 3, none⟩ = some (.int .i64 a.origin) := row_cell ra 3
  have c6 : W0.cell? ⟨w.heap.size, 6, none⟩ = some (.int .u32 a.id) := row_cell ra 6
  have c7 : W0.cell? ⟨w.heap.size, 7, none⟩ = some (.int .i64 a.peer) := row_cell ra 7
  have d0 : W0.cell? ⟨w.heap.size + 1, 0, none⟩ = some (.int .i64 b.place) := row_cell rb 0
  have d1 : W0.cell? ⟨w.heap.size + 1, 1, none⟩ = some (.int .i64 b.loc) := row_cell rb 1
  have d2 : W0.cell? ⟨w.heap.size + 1, 2, none⟩ = some (.int .i64 b.hops) := row_cell rb 2
  have d3 : W0.cell? ⟨w.heap.size + 1, 3, none⟩ = some (.int .i64 b.origin) := row_cell rb 3
  have d6 : W0.cell? ⟨w.heap.size + 1, 6, none⟩ = some (.int .u32 b.id) := row_cell rb 6
  have d7 : W0.cell? ⟨w.heap.size + 1, 7, none⟩ = some (.int .i64 b.peer) := row_cell rb 7
  clear ra rb
  refine wp_region_held_drew (S := fun w' => Below W0.heap.size W0 w') (by kernel_rfl) ?_ (fun hHeld => ?_)
  · exact (Below.refl _ _).drew
  refine rg_yes (i := 0) (v := ?_) at0 (by kernel_rfl) (by kernel_rfl) (by kernel_rfl) (fun _ _ _ h => h) ?_ ?_ hHeld ?_; rotate_left 1; (· rfl); (· intro w' hSw; (try dsimp only at hSw); (try clear hHeld); go_simp; try with_reducible rfl)
  try simp only [Act.put, List.setIfInBounds_toArray, List.set_cons_zero, List.set_cons_succ]
  refine rg_yes (i := 1) (v := ?_) (atS at0) (by kernel_rfl) (by kernel_rfl) (by kernel_rfl) (fun _ _ _ h => h) ?_ ?_ hHeld ?_; rotate_left 1; (· rfl); (· intro w' hSw; (try dsimp only at hSw); have c1 := cell_below c1 hSw; have c2 := cell_below c2 hSw; have c3 := cell_below c3 hSw; have d1 := cell_below d1 hSw; have d2 := cell_below d2 hSw; have d3 := cell_below d3 hSw; (try clear hHeld); go_simp; try with_reducible rfl)
  try simp only [Act.put, List.setIfInBounds_toArray, List.set_cons_zero, List.set_cons_succ]
  refine rg_yes (i := 2) (v := ?_) (atS (atS at0)) (by kernel_rfl) (by kernel_rfl) (by kernel_rfl) (fun _ _ _ h => h) ?_ ?_ hHeld ?_; rotate_left 1; (· rfl); (· intro w' hSw; (try dsimp only at hSw); (try clear hHeld); go_simp; try with_reducible rfl)
  try simp only [Act.put, List.setIfInBounds_toArray, List.set_cons_zero, List.set_cons_succ]
  refine rg_yes (i := 3) (v := ?_) (atS (atS (atS at0))) (by kernel_rfl) (by kernel_rfl) (by kernel_rfl) (fun _ _ _ h => h) ?_ ?_ hHeld ?_; rotate_left 1; (· rfl); (· intro w' hSw; (try dsimp only at hSw); have c1 := cell_below c1 hSw; have c2 := cell_below c2 hSw; have c3 := cell_below c3 hSw; have d1 := cell_below d1 hSw; have d2 := cell_below d2 hSw; have d3 := cell_below d3 hSw; (try clear hHeld); go_simp; try with_reducible rfl)
  try simp only [Act.put, List.setIfInBounds_toArray, List.set_cons_zero, List.set_cons_succ]
  refine rg_yes (i := 5) (v := ?_) (atS (atS (atS (atS (atS at0))))) (by kernel_rfl) (by kernel_rfl) (by kernel_rfl) (fun _ _ _ h => h) ?_ ?_ hHeld ?_; rotate_left 1; (· rfl); (· intro w' hSw; (try dsimp only at hSw); (try clear hHeld); go_simp; try with_reducible rfl)
  try simp only [Act.put, List.setIfInBounds_toArray, List.set_cons_zero, List.set_cons_succ]
  refine rg_yes (i := 6) (v := ?_) (atS (atS (atS (atS (atS (atS at0)))))) (by kernel_rfl) (by kernel_rfl) (by kernel_rfl) (fun _ _ _ h => h) ?_ ?_ hHeld ?_; rotate_left 1; (· rfl); (· intro w' hSw; (try dsimp only at hSw); have c1 := cell_below c1 hSw; have c2 := cell_below c2 hSw; have c3 := cell_below c3 hSw; have d1 := cell_below d1 hSw; have d2 := cell_below d2 hSw; have d3 := cell_below d3 hSw; (try clear hHeld); go_simp; try with_reducible rfl)
  try simp only [Act.put, List.setIfInBounds_toArray, List.set_cons_zero, List.set_cons_succ]
  refine rg_yes (i := 7) (v := ?_) (atS (atS (atS (atS (atS (atS (atS at0))))))) (by kernel_rfl) (by kernel_rfl) (by kernel_rfl) (fun _ _ _ h => h) ?_ ?_ hHeld ?_; rotate_left 1; (· rfl); (· intro w' hSw; (try dsimp only at hSw); (try clear hHeld); go_simp; try with_reducible rfl)
  try simp only [Act.put, List.setIfInBounds_toArray, List.set_cons_zero, List.set_cons_succ]
  refine rg_yes (i := 8) (v := ?_) (atS (atS (atS (atS (atS (atS (atS (atS at0)))))))) (by kernel_rfl) (by kernel_rfl) (by kernel_rfl) (fun _ _ _ h => h) ?_ ?_ hHeld ?_; rotate_left 1; (· rfl); (· intro w' hSw; (try dsimp only at hSw); have c1 := cell_below c1 hSw; have c2 := cell_below c2 hSw; have c3 := cell_below c3 hSw; have d1 := cell_below d1 hSw; have d2 := cell_below d2 hSw; have d3 := cell_below d3 hSw; (try clear hHeld); go_simp; try with_reducible rfl)
  try simp only [Act.put, List.setIfInBounds_toArray, List.set_cons_zero, List.set_cons_succ]
  refine rg_yes (i := 10) (v := ?_) (atS (atS (atS (atS (atS (atS (atS (atS (atS (atS at0)))))))))) (by kernel_rfl) (by kernel_rfl) (by kernel_rfl) (fun _ _ _ h => h) ?_ ?_ hHeld ?_; rotate_left 1; (· rfl); (· intro w' hSw; (try dsimp only at hSw); (try clear hHeld); go_simp; try with_reducible rfl)
  try simp only [Act.put, List.setIfInBounds_toArray, List.set_cons_zero, List.set_cons_succ]
  refine rg_yes (i := 11) (v := ?_) (atS (atS (atS (atS (atS (atS (atS (atS (atS (atS (atS at0))))))))))) (by kernel_rfl) (by kernel_rfl) (by kernel_rfl) (fun _ _ _ h => h) ?_ ?_ hHeld ?_; rotate_left 1; (· rfl); (· intro w' hSw; (try dsimp only at hSw); have c1 := cell_below c1 hSw; have c2 := cell_below c2 hSw; have c3 := cell_below c3 hSw; have d1 := cell_below d1 hSw; have d2 := cell_below d2 hSw; have d3 := cell_below d3 hSw; (try clear hHeld); go_simp; try with_reducible rfl)
  try simp only [Act.put, List.setIfInBounds_toArray, List.set_cons_zero, List.set_cons_succ]
  refine rg_yes (i := 12) (v := ?_) (atS (atS (atS (atS (atS (atS (atS (atS (atS (atS (atS (atS at0)))))))))))) (by kernel_rfl) (by kernel_rfl) (by kernel_rfl) (fun _ _ _ h => h) ?_ ?_ hHeld ?_; rotate_left 1; (· rfl); (· intro w' hSw; (try dsimp only at hSw); (try clear hHeld); go_simp; try with_reducible rfl)
  try simp only [Act.put, List.setIfInBounds_toArray, List.set_cons_zero, List.set_cons_succ]
  refine rg_yes (i := 13) (v := ?_) (atS (atS (atS (atS (atS (atS (atS (atS (atS (atS (atS (atS (atS at0))))))))))))) (by kernel_rfl) (by kernel_rfl) (by kernel_rfl) (fun _ _ _ h => h) ?_ ?_ hHeld ?_; rotate_left 1; (· rfl); (· intro w' hSw; (try dsimp only at hSw); have c1 := cell_below c1 hSw; have c2 := cell_below c2 hSw; have c3 := cell_below c3 hSw; have d1 := cell_below d1 hSw; have d2 := cell_below d2 hSw; have d3 := cell_below d3 hSw; (try clear hHeld); go_simp; try with_reducible rfl)
  try simp only [Act.put, List.setIfInBounds_toArray, List.set_cons_zero, List.set_cons_succ]
  refine rg_call (i := 4) (atS (atS (atS (atS at0)))) (by kernel_rfl) ?_ (fun K hK => ?_); (· rfl); (try clear hb); go_simp; (refine (calls_below (cmp_CompareInt _ _ _)).mono ?_; rintro e w1 ⟨rfl, hb⟩); go_wp2_with fail; refine hK.out _ _ ?_ (fun hHeld => ?_); (· first | exact hHeld.trans (hb.mono hHeld.size) | exact hHeld.alloc hHeld.size _); clear hK K
  try simp only [Act.put, List.setIfInBounds_toArray, List.set_cons_zero, List.set_cons_succ]
  refine rg_call (i := 9) (atS (atS (atS (atS (atS (atS (atS (atS (atS at0))))))))) (by kernel_rfl) ?_ (fun K hK => ?_); (· rfl); (try clear hb); go_simp; (refine (calls_below (cmp_CompareInt _ _ _)).mono ?_; rintro e w1 ⟨rfl, hb⟩); go_wp2_with fail; refine hK.out _ _ ?_ (fun hHeld => ?_); (· first | exact hHeld.trans (hb.mono hHeld.size) | exact hHeld.alloc hHeld.size _); clear hK K
  try simp only [Act.put, List.setIfInBounds_toArray, List.set_cons_zero, List.set_cons_succ]
  refine rg_call (i := 14) (atS (atS (atS (atS (atS (atS (atS (atS (atS (atS (atS (atS (atS (atS at0)))))))))))))) (by kernel_rfl) ?_ (fun K hK => ?_); (· rfl); (try clear hb); go_simp; (refine (calls_below (cmp_CompareInt _ _ _)).mono ?_; rintro e w1 ⟨rfl, hb⟩); go_wp2_with fail; refine hK.out _ _ ?_ (fun hHeld => ?_); (· first | exact hHeld.trans (hb.mono hHeld.size) | exact hHeld.alloc hHeld.size _); clear hK K
  try simp only [Act.put, List.setIfInBounds_toArray, List.set_cons_zero, List.set_cons_succ]
  refine rg_call (i := 15) (atS (atS (atS (atS (atS (atS (atS (atS (atS (atS (atS (atS (atS (atS (atS at0))))))))))))))) (by kernel_rfl) ?_ (fun K hK => ?_); (· rfl); (try clear hb); go_simp; go_wp2_with fail; refine hK.out _ _ ?_ (fun hHeld => ?_); (· first | exact hHeld.trans (hb.mono hHeld.size) | exact hHeld.alloc hHeld.size _); clear hK K
  try simp only [Act.put, List.setIfInBounds_toArray, List.set_cons_zero, List.set_cons_succ]
  refine rg_call (i := 16) (atS (atS (atS (atS (atS (atS (atS (atS (atS (atS (atS (atS (atS (atS (atS (atS at0)))))))))))))))) (by kernel_rfl) ?_ (fun K hK => ?_); (· rfl); (try clear hb); go_simp; (refine (calls_below (cmp_OrInt3 _ 3 (cmpI b.loc a.loc) (cmpI a.hops b.hops) (cmpI a.origin b.origin) _ (by simp) (by simp) (by simp))).mono ?_; rintro e w1 ⟨rfl, hb⟩); go_wp2_with fail; refine hK.out _ _ ?_ (fun hHeld => ?_); (· first | exact hHeld.trans (hb.mono hHeld.size) | exact hHeld.alloc hHeld.size _); clear hK K
  try simp only [Act.put, List.setIfInBounds_toArray, List.set_cons_zero, List.set_cons_succ]
  refine rg_yes (i := 17) (v := ?_) (atS (atS (atS (atS (atS (atS (atS (atS (atS (atS (atS (atS (atS (atS (atS (atS (atS at0))))))))))))))))) (by kernel_rfl) (by kernel_rfl) (by kernel_rfl) (fun _ _ _ h => h) ?_ ?_ hHeld ?_; rotate_left 1; (· rfl); (· intro w' hSw; (try dsimp only at hSw); (try clear hHeld); go_simp; try with_reducible rfl)
  try simp only [Act.put, List.setIfInBounds_toArray, List.set_cons_zero, List.set_cons_succ]
  refine wpAnyH_done (by kernel_rfl) ?_ _
  have hB' := below_on hB hHeld
  clear hHeld hb
  go_wp2
  go_ret
  exact ⟨ret_int rfl, hB'⟩
set_option maxHeartbeats 1600000 in
set_option maxRecDepth 100000 in
theorem ch_behind (a b : Rk) (w : World) :
    Calls Try.prog 33 #[.agg (rkA a), .agg (rkA b)] w fun e w' => e = .returned (.int .i64 (behindI a b)) ∧ Below w.heap.size w w' := by
  go_enter Try.func33, Try.ntmps33
  go_wp2_with fail
  obtain ⟨W0, hW0, ra, rb, hB⟩ := boxR w a b
  rw [← hW0]; clear hW0
  have c0 : W0.cell? ⟨w.heap.size, 0, none⟩ = some (.int .i64 a.place) := row_cell ra 0
  have c1 : W0.cell? ⟨w.heap.size, 1, none⟩ = some (.int .i64 a.loc) := row_cell ra 1
  have c2 : W0.cell? ⟨w.heap.size, 2, none⟩ = some (.int .i64 a.hops) := row_cell ra 2
  have c3 : W0.cell? ⟨w.heap.size, 3, none⟩ = some (.int .i64 a.origin) := row_cell ra 3
  have c6 : W0.cell? ⟨w.heap.size, 6, none⟩ = some (.int .u32 a.id) := row_cell ra 6
  have c7 : W0.cell? ⟨w.heap.size, 7, none⟩ = some (.int .i64 a.peer) := row_cell ra 7
  have d0 : W0.cell? ⟨w.heap.size + 1, 0, none⟩ = some (.int .i64 b.place) := row_cell rb 0
  have d1 : W0.cell? ⟨w.heap.size + 1, 1, none⟩ = some (.int .i64 b.loc) := row_cell rb 1
  have d2 : W0.cell? ⟨w.heap.size + 1, 2, none⟩ = some (.int .i64 b.hops) := row_cell rb 2
  have d3 : W0.cell? ⟨w.heap.size + 1, 3, none⟩ = some (.int .i64 b.origin) := row_cell rb 3
  have d6 : W0.cell? ⟨w.heap.size + 1, 6, none⟩ = some (.int .u32 b.id) := row_cell rb 6
  have d7 : W0.cell? ⟨w.heap.size + 1, 7, none⟩ = some (.int .i64 b.peer) := row_cell rb 7
  clear ra rb
  refine wp_region_held_drew (S := fun w' => Below W0.heap.size W0 w') (by kernel_rfl) ?_ (fun hHeld => ?_)
  · exact (Below.refl _ _).drew
  refine rg_yes (i := 0) (v := ?_) at0 (by kernel_rfl) (by kernel_rfl) (by kernel_rfl) (fun _ _ _ h => h) ?_ ?_ hHeld ?_; rotate_left 1; (· rfl); (· intro w' hSw; (try dsimp only at hSw); (try clear hHeld); go_simp; try with_reducible rfl)
  try simp only [Act.put, List.setIfInBounds_toArray, List.set_cons_zero, List.set_cons_succ]
  refine rg_yes (i := 1) (v := ?_) (atS at0) (by kernel_rfl) (by kernel_rfl) (by kernel_rfl) (fun _ _ _ h => h) ?_ ?_ hHeld ?_; rotate_left 1; (· rfl); (· intro w' hSw; (try dsimp only at hSw); have c0 := cell_below c0 hSw; have c6 := cell_below c6 hSw; have c7 := cell_below c7 hSw; have d0 := cell_below d0 hSw; have d6 := cell_below d6 hSw; have d7 := cell_below d7 hSw; (try clear hHeld); go_simp; try with_reducible rfl)
  try simp only [Act.put, List.setIfInBounds_toArray, List.set_cons_zero, List.set_cons_succ]
  refine rg_yes (i := 2) (v := ?_) (atS (atS at0)) (by kernel_rfl) (by kernel_rfl) (by kernel_rfl) (fun _ _ _ h => h) ?_ ?_ hHeld ?_; rotate_left 1; (· rfl); (· intro w' hSw; (try dsimp only at hSw); (try clear hHeld); go_simp; try with_reducible rfl)
  try simp only [Act.put, List.setIfInBounds_toArray, List.set_cons_zero, List.set_cons_succ]
  refine rg_yes (i := 3) (v := ?_) (atS (atS (atS at0))) (by kernel_rfl) (by kernel_rfl) (by kernel_rfl) (fun _ _ _ h => h) ?_ ?_ hHeld ?_; rotate_left 1; (· rfl); (· intro w' hSw; (try dsimp only at hSw); have c0 := cell_below c0 hSw; have c6 := cell_below c6 hSw; have c7 := cell_below c7 hSw; have d0 := cell_below d0 hSw; have d6 := cell_below d6 hSw; have d7 := cell_below d7 hSw; (try clear hHeld); go_simp; try with_reducible rfl)
  try simp only [Act.put, List.setIfInBounds_toArray, List.set_cons_zero, List.set_cons_succ]
  refine rg_yes (i := 5) (v := ?_) (atS (atS (atS (atS (atS at0))))) (by kernel_rfl) (by kernel_rfl) (by kernel_rfl) (fun _ _ _ h => h) ?_ ?_ hHeld ?_; rotate_left 1; (· rfl); (· intro w' hSw; (try dsimp only at hSw); (try clear hHeld); go_simp; try with_reducible rfl)
  try simp only [Act.put, List.setIfInBounds_toArray, List.set_cons_zero, List.set_cons_succ]
  refine rg_yes (i := 6) (v := ?_) (atS (atS (atS (atS (atS (atS at0)))))) (by kernel_rfl) (by kernel_rfl) (by kernel_rfl) (fun _ _ _ h => h) ?_ ?_ hHeld ?_; rotate_left 1; (· rfl); (· intro w' hSw; (try dsimp only at hSw); have c0 := cell_below c0 hSw; have c6 := cell_below c6 hSw; have c7 := cell_below c7 hSw; have d0 := cell_below d0 hSw; have d6 := cell_below d6 hSw; have d7 := cell_below d7 hSw; (try clear hHeld); go_simp; try with_reducible rfl)
  try simp only [Act.put, List.setIfInBounds_toArray, List.set_cons_zero, List.set_cons_succ]
  refine rg_yes (i := 7) (v := ?_) (atS (atS (atS (atS (atS (atS (atS at0))))))) (by kernel_rfl) (by kernel_rfl) (by kernel_rfl) (fun _ _ _ h => h) ?_ ?_ hHeld ?_; rotate_left 1; (· rfl); (· intro w' hSw; (try dsimp only at hSw); (try clear hHeld); go_simp; try with_reducible rfl)
  try simp only [Act.put, List.setIfInBounds_toArray, List.set_cons_zero, List.set_cons_succ]
  refine rg_yes (i := 8) (v := ?_) (atS (atS (atS (atS (atS (atS (atS (atS at0)))))))) (by kernel_rfl) (by kernel_rfl) (by kernel_rfl) (fun _ _ _ h => h) ?_ ?_ hHeld ?_; rotate_left 1; (· rfl); (· intro w' hSw; (try dsimp only at hSw); have c0 := cell_below c0 hSw; have c6 := cell_below c6 hSw; have c7 := cell_below c7 hSw; have d0 := cell_below d0 hSw; have d6 := cell_below d6 hSw; have d7 := cell_below d7 hSw; (try clear hHeld); go_simp; try with_reducible rfl)
  try simp only [Act.put, List.setIfInBounds_toArray, List.set_cons_zero, List.set_cons_succ]
  refine rg_yes (i := 10) (v := ?_) (atS (atS (atS (atS (atS (atS (atS (atS (atS (atS at0)))))))))) (by kernel_rfl) (by kernel_rfl) (by kernel_rfl) (fun _ _ _ h => h) ?_ ?_ hHeld ?_; rotate_left 1; (· rfl); (· intro w' hSw; (try dsimp only at hSw); (try clear hHeld); go_simp; try with_reducible rfl)
  try simp only [Act.put, List.setIfInBounds_toArray, List.set_cons_zero, List.set_cons_succ]
  refine rg_yes (i := 11) (v := ?_) (atS (atS (atS (atS (atS (atS (atS (atS (atS (atS (atS at0))))))))))) (by kernel_rfl) (by kernel_rfl) (by kernel_rfl) (fun _ _ _ h => h) ?_ ?_ hHeld ?_; rotate_left 1; (· rfl); (· intro w' hSw; (try dsimp only at hSw); have c0 := cell_below c0 hSw; have c6 := cell_below c6 hSw; have c7 := cell_below c7 hSw; have d0 := cell_below d0 hSw; have d6 := cell_below d6 hSw; have d7 := cell_below d7 hSw; (try clear hHeld); go_simp; try with_reducible rfl)
  try simp only [Act.put, List.setIfInBounds_toArray, List.set_cons_zero, List.set_cons_succ]
  refine rg_yes (i := 12) (v := ?_) (atS (atS (atS (atS (atS (atS (atS (atS (atS (atS (atS (atS at0)))))))))))) (by kernel_rfl) (by kernel_rfl) (by kernel_rfl) (fun _ _ _ h => h) ?_ ?_ hHeld ?_; rotate_left 1; (· rfl); (· intro w' hSw; (try dsimp only at hSw); (try clear hHeld); go_simp; try with_reducible rfl)
  try simp only [Act.put, List.setIfInBounds_toArray, List.set_cons_zero, List.set_cons_succ]
  refine rg_yes (i := 13) (v := ?_) (atS (atS (atS (atS (atS (atS (atS (atS (atS (atS (atS (atS (atS at0))))))))))))) (by kernel_rfl) (by kernel_rfl) (by kernel_rfl) (fun _ _ _ h => h) ?_ ?_ hHeld ?_; rotate_left 1; (· rfl); (· intro w' hSw; (try dsimp only at hSw); have c0 := cell_below c0 hSw; have c6 := cell_below c6 hSw; have c7 := cell_below c7 hSw; have d0 := cell_below d0 hSw; have d6 := cell_below d6 hSw; have d7 := cell_below d7 hSw; (try clear hHeld); go_simp; try with_reducible rfl)
  try simp only [Act.put, List.setIfInBounds_toArray, List.set_cons_zero, List.set_cons_succ]
  refine rg_call (i := 4) (atS (atS (atS (atS at0)))) (by kernel_rfl) ?_ (fun K hK => ?_); (· rfl); (try clear hb); go_simp; (refine (calls_below (cmp_CompareAddr a.id b.id _)).mono ?_; rintro e w1 ⟨rfl, hb⟩); go_wp2_with fail; refine hK.out _ _ ?_ (fun hHeld => ?_); (· first | exact hHeld.trans (hb.mono hHeld.size) | exact hHeld.alloc hHeld.size _); clear hK K
  try simp only [Act.put, List.setIfInBounds_toArray, List.set_cons_zero, List.set_cons_succ]
  refine rg_call (i := 9) (atS (atS (atS (atS (atS (atS (atS (atS (atS at0))))))))) (by kernel_rfl) ?_ (fun K hK => ?_); (· rfl); (try clear hb); go_simp; (refine (calls_below (cmp_CompareInt _ _ _)).mono ?_; rintro e w1 ⟨rfl, hb⟩); go_wp2_with fail; refine hK.out _ _ ?_ (fun hHeld => ?_); (· first | exact hHeld.trans (hb.mono hHeld.size) | exact hHeld.alloc hHeld.size _); clear hK K
  try simp only [Act.put, List.setIfInBounds_toArray, List.set_cons_zero, List.set_cons_succ]
  refine rg_call (i := 14) (atS (atS (atS (atS (atS (atS (atS (atS (atS (atS (atS (atS (atS (atS at0)))))))))))))) (by kernel_rfl) ?_ (fun K hK => ?_); (· rfl); (try clear hb); go_simp; (refine (calls_below (cmp_CompareInt _ _ _)).mono ?_; rintro e w1 ⟨rfl, hb⟩); go_wp2_with fail; refine hK.out _ _ ?_ (fun hHeld => ?_); (· first | exact hHeld.trans (hb.mono hHeld.size) | exact hHeld.alloc hHeld.size _); clear hK K
  try simp only [Act.put, List.setIfInBounds_toArray, List.set_cons_zero, List.set_cons_succ]
  refine rg_call (i := 15) (atS (atS (atS (atS (atS (atS (atS (atS (atS (atS (atS (atS (atS (atS (atS at0))))))))))))))) (by kernel_rfl) ?_ (fun K hK => ?_); (· rfl); (try clear hb); go_simp; go_wp2_with fail; refine hK.out _ _ ?_ (fun hHeld => ?_); (· first | exact hHeld.trans (hb.mono hHeld.size) | exact hHeld.alloc hHeld.size _); clear hK K
  try simp only [Act.put, List.setIfInBounds_toArray, List.set_cons_zero, List.set_cons_succ]
  refine rg_call (i := 16) (atS (atS (atS (atS (atS (atS (atS (atS (atS (atS (atS (atS (atS (atS (atS (atS at0)))))))))))))))) (by kernel_rfl) ?_ (fun K hK => ?_); (· rfl); (try clear hb); go_simp; (refine (calls_below (cmp_OrInt3 _ 3 (cmpI a.id b.id) (cmpI a.peer b.peer) (cmpI a.place b.place) _ (by simp) (by simp) (by simp))).mono ?_; rintro e w1 ⟨rfl, hb⟩); go_wp2_with fail; refine hK.out _ _ ?_ (fun hHeld => ?_); (· first | exact hHeld.trans (hb.mono hHeld.size) | exact hHeld.alloc hHeld.size _); clear hK K
  try simp only [Act.put, List.setIfInBounds_toArray, List.set_cons_zero, List.set_cons_succ]
  refine rg_yes (i := 17) (v := ?_) (atS (atS (atS (atS (atS (atS (atS (atS (atS (atS (atS (atS (atS (atS (atS (atS (atS at0))))))))))))))))) (by kernel_rfl) (by kernel_rfl) (by kernel_rfl) (fun _ _ _ h => h) ?_ ?_ hHeld ?_; rotate_left 1; (· rfl); (· intro w' hSw; (try dsimp only at hSw); (try clear hHeld); go_simp; try with_reducible rfl)
  try simp only [Act.put, List.setIfInBounds_toArray, List.set_cons_zero, List.set_cons_succ]
  refine wpAnyH_done (by kernel_rfl) ?_ _
  have hB' := below_on hB hHeld
  clear hHeld hb
  go_wp2
  go_ret
  exact ⟨ret_int rfl, hB'⟩
end Go.Proofs.Ytfkplbkllmnfeaa
