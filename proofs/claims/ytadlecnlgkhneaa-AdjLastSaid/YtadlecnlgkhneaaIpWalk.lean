/-
  THE WALKS OF PACKAGE ip: what each function gives back, as plain numbers; what was in memory stays.
-/
import Derived.Test.YtadlecnlgkhneaaRows
import Derived.Test.YtadlecnlgkhneaaIpPlain
import Derived.Test.YtadlecnlgkhneaaIpMore
import Derived.Test.YtadlecnlgkhneaaRg
import Derived.RegionTactic
import Derived.ChangeAlike
namespace Go.Proofs.Ytadlecnlgkhneaa
open Go.RowKit

set_option maxHeartbeats 400000 in
theorem ip_Bit (a n : Int) (w : World) (ha0 : 0 ≤ a) (ha : a < 4294967296) :
    Calls Try.prog 60 #[.int .u32 a, .int .i64 n] w fun e w' => e = .returned (.int .i64 (bitI a n)) ∧ w = w' := by
  by_cases h1 : n < 0
  · have e : bitI a n = 0 := by unfold bitI; rw [if_neg (by omega)]
    have E := Lib.hid e; clear e
    go_enter Try.func60, Try.ntmps60
    go_wp2
    go_ret
    exact ⟨ret_int E.out.symm, rfl⟩
  · by_cases h2 : n < 32
    · have e := bit_walk a n ha0 ha (by omega) h2
      have E := Lib.hid e; clear e
      go_enter Try.func60, Try.ntmps60
      go_wp2
      go_ret
      exact ⟨ret_int E.out, rfl⟩
    · have e : bitI a n = 0 := by unfold bitI; rw [if_neg (by omega)]
      have E := Lib.hid e; clear e
      go_enter Try.func60, Try.ntmps60
      go_wp2
      go_ret
      exact ⟨ret_int E.out.symm, rfl⟩

set_option maxHeartbeats 400000 in
theorem ip_within (n : Int) (w : World) :
    Calls Try.prog 72 #[.int .i64 n] w fun e w' => e = .returned (.int .i64 (cl n)) ∧ w = w' := by
  go_enter Try.func72, Try.ntmps72
  go_wp2
  all_goals
    go_ret
    exact ⟨ret_int (by unfold cl; omega), rfl⟩

set_option maxHeartbeats 400000 in
theorem ip_Mask (n : Int) (w : World) :
    Calls Try.prog 71 #[.int .i64 n] w fun e w' => e = .returned (.int .u32 (maskI n)) ∧ w = w' := by
  have h1 := cl_lo n
  have h2 := cl_hi n
  go_enter Try.func71, Try.ntmps71
  go_wp2_with (go_at_call 72; refine (ip_within _ _).mono ?_; rintro e w' ⟨rfl, rfl⟩)
  go_ret
  exact ⟨ret_int (mask_walk n), rfl⟩

set_option maxHeartbeats 400000 in
theorem ip_Of (a n : Int) (w : World) (h0 : 0 ≤ a) (h : a < 4294967296) :
    Calls Try.prog 67 #[.int .u32 a, .int .i64 n] w fun e w' => e = .returned (.agg #[.int .u32 (keepI a n), .int .i64 (cl n)]) ∧ Below w.heap.size w w' := by
  have E := Lib.hid (and_mask a n h0 h)
  go_enter Try.func67, Try.ntmps67
  go_wp2_with (first
    | (go_at_call 72; refine (ip_within _ _).mono ?_; rintro e w' ⟨rfl, rfl⟩)
    | (go_at_call 71; refine (ip_Mask _ _).mono ?_; rintro e w' ⟨rfl, rfl⟩))
  rw [E.out]
  exact bodyPost_ret (v := .agg #[.int .u32 (keepI a n), .int .i64 (cl n)]) (by simp [results, Try.results67, go_sem]) rfl ⟨rfl, (Below.refl _ _).alloc (Nat.le_refl _) _⟩

/-! ### Two nets held against each other -/
theorem undPrefix : Try.prog.underlying 29 = some (.struct (Try.prog.fieldsOf 29)) := by kernel_rfl
theorem stoPrefix : Try.prog.stoodInHeld 29 = false := by kernel_rfl
set_option maxRecDepth 100000 in
theorem run_eql_pref (a b c d : Int) (w : World) : (binOp .eql 29 (.agg #[.int .u32 a, .int .i64 b]) (.agg #[.int .u32 c, .int .i64 d])).run Try.prog w = .ok (.bool (a == c && b == d)) w := by
  rw [run_eql_struct, run_equalIn_struct w 9999 29 _ _ undPrefix stoPrefix, Program.fieldsOf, Try.underlying29]
  simp only [Op.eqFields]
  by_cases h1 : a = c <;> by_cases h2 : b = d <;> simp [go_sem, h1, h2]
set_option maxRecDepth 100000 in
theorem run_neq_pref (a b c d : Int) (w : World) : (binOp .neq 29 (.agg #[.int .u32 a, .int .i64 b]) (.agg #[.int .u32 c, .int .i64 d])).run Try.prog w = .ok (.bool (!(a == c && b == d))) w := by
  rw [run_neq_struct, run_equalIn_struct w 9999 29 _ _ undPrefix stoPrefix, Program.fieldsOf, Try.underlying29]
  simp only [Op.eqFields]
  by_cases h1 : a = c <;> by_cases h2 : b = d <;> simp [go_sem, h1, h2]
attribute [go_sem ↓] run_eql_pref run_neq_pref

attribute [go_sem] errI_zero

set_option maxHeartbeats 400000 in
theorem ip_Check (a n : Int) (w : World) (h0 : 0 ≤ a) (h : a < 4294967296) :
    Calls Try.prog 55 #[.agg #[.int .u32 a, .int .i64 n]] w fun e w' => e = .returned (.int .i64 (errI (rightB a n))) ∧ Below w.heap.size w w' := by
  go_enter Try.func55, Try.ntmps55
  go_wp2_with fail
  obtain ⟨W0, hW0, c0, c1, hB⟩ := box2 w (.int .u32 a) (.int .i64 n) 29
  rw [← hW0]; clear hW0
  refine wp_region_held_drew (S := fun w' => Below W0.heap.size W0 w') (by kernel_rfl) ?_ (fun hHeld => ?_)
  · exact (Below.refl _ _).drew
  refine rg_yes (i := 0) (v := ?_) at0 (by kernel_rfl) (by kernel_rfl) (by kernel_rfl) (fun _ _ _ h => h) ?_ ?_ hHeld ?_; rotate_left 1; (· rfl); (· intro w' hSw; (try dsimp only at hSw); have c0 := cell_below c0 hSw; have c1 := cell_below c1 hSw; (try clear hHeld); go_simp; try with_reducible rfl)
  try simp only [Act.put, List.setIfInBounds_toArray, List.set_cons_zero, List.set_cons_succ]
  refine rg_yes (i := 1) (v := ?_) (atS at0) (by kernel_rfl) (by kernel_rfl) (by kernel_rfl) (fun _ _ _ h => h) ?_ ?_ hHeld ?_; rotate_left 1; (· rfl); (· intro w' hSw; (try dsimp only at hSw); (try clear hHeld); go_simp; try with_reducible rfl)
  try simp only [Act.put, List.setIfInBounds_toArray, List.set_cons_zero, List.set_cons_succ]
  refine rg_yes (i := 2) (v := ?_) (atS (atS at0)) (by kernel_rfl) (by kernel_rfl) (by kernel_rfl) (fun _ _ _ h => h) ?_ ?_ hHeld ?_; rotate_left 1; (· rfl); (· intro w' hSw; (try dsimp only at hSw); have c0 := cell_below c0 hSw; have c1 := cell_below c1 hSw; (try clear hHeld); go_simp; try with_reducible rfl)
  try simp only [Act.put, List.setIfInBounds_toArray, List.set_cons_zero, List.set_cons_succ]
  refine rg_yes (i := 3) (v := ?_) (atS (atS (atS at0))) (by kernel_rfl) (by kernel_rfl) (by kernel_rfl) (fun _ _ _ h => h) ?_ ?_ hHeld ?_; rotate_left 1; (· rfl); (· intro w' hSw; (try dsimp only at hSw); (try clear hHeld); go_simp; try with_reducible rfl)
  try simp only [Act.put, List.setIfInBounds_toArray, List.set_cons_zero, List.set_cons_succ]
  refine rg_yes (i := 4) (v := ?_) (atS (atS (atS (atS at0)))) (by kernel_rfl) (by kernel_rfl) (by kernel_rfl) (fun _ _ _ h => h) ?_ ?_ hHeld ?_; rotate_left 1; (· rfl); (· intro w' hSw; (try dsimp only at hSw); have c0 := cell_below c0 hSw; have c1 := cell_below c1 hSw; (try clear hHeld); go_simp; try with_reducible rfl)
  try simp only [Act.put, List.setIfInBounds_toArray, List.set_cons_zero, List.set_cons_succ]
  refine rg_call (i := 5) (atS (atS (atS (atS (atS at0))))) (by kernel_rfl) ?_ (fun K hK => ?_); (· rfl); (try clear hb); go_simp; (refine (ip_Of a n _ h0 h).mono ?_; rintro e w1 ⟨rfl, hb⟩); go_wp2_with fail; refine hK.out _ _ ?_ (fun hHeld => ?_); (· exact hHeld.trans (hb.mono hHeld.size)); clear hK K
  try simp only [Act.put, List.setIfInBounds_toArray, List.set_cons_zero, List.set_cons_succ]
  refine rg_yes (i := 6) (v := ?_) (atS (atS (atS (atS (atS (atS at0)))))) (by kernel_rfl) (by kernel_rfl) (by kernel_rfl) (fun _ _ _ h => h) ?_ ?_ hHeld ?_; rotate_left 1; (· rfl); (· intro w' hSw; (try dsimp only at hSw); (try clear hHeld); go_simp; try with_reducible rfl)
  try simp only [Act.put, List.setIfInBounds_toArray, List.set_cons_zero, List.set_cons_succ]
  refine wpAnyH_done (by kernel_rfl) ?_ _
  have hB' := below_on hB hHeld
  clear hHeld hb
  go_wp2
  · have hr := rightB_no ‹_ ∨ _›
    go_ret
    exact ⟨ret_int (by rw [hr]; rfl), hB'⟩
  · have hr := rightB_yes ‹_ = false ∧ _ = false›
    go_ret
    exact ⟨ret_int (by rw [hr]; rfl), hB'⟩




theorem frozen_below {W W' : World} {a : Addr} (hz : a.block < W.heap.size) (h : W.frozen? a = false) (hb : Below W.heap.size W W') : W'.frozen? a = false := (hb.frozen hz).trans h
def lastI (a n : Int) : Int := bits .or .u32 a (bits .xor .u32 4294967295 (maskI n))
def cmpI (a b : Int) : Int := if a < b then -1 else if b < a then 1 else 0
set_option maxHeartbeats 400000 in
theorem cmp_CompareAddr (a b : Int) (w : World) :
    Calls Try.prog 53 #[.int .u32 a, .int .u32 b] w fun e w' => e = .returned (.int .i64 (cmpI a b)) ∧ w = w' := by
  go_enter Try.func53, Try.ntmps53
  go_wp2
  all_goals
    go_ret
    exact ⟨ret_int (by unfold cmpI; repeat (first | rw [if_pos (by omega)] | rw [if_neg (by omega)])), rfl⟩
set_option maxHeartbeats 400000 in
theorem cmp_CompareInt (a b : Int) (w : World) :
    Calls Try.prog 54 #[.int .i64 a, .int .i64 b] w fun e w' => e = .returned (.int .i64 (cmpI a b)) ∧ w = w' := by
  go_enter Try.func54, Try.ntmps54
  go_wp2
  all_goals
    go_ret
    exact ⟨ret_int (by unfold cmpI; repeat (first | rw [if_pos (by omega)] | rw [if_neg (by omega)])), rfl⟩

def orI (x y : Int) : Int := if x = 0 then y else x
theorem orI_ne {x y : Int} (h : (x != 0) = true) : orI x y = x := by unfold orI; rw [if_neg (by simpa using h)]
set_option maxHeartbeats 400000 in
theorem cmp_OrInt2 (g c : Nat) (x y : Int) (w : World) (hx : w.cell? ⟨g, 0, none⟩ = some (.int .i64 x)) (hy : w.cell? ⟨g, 1, none⟩ = some (.int .i64 y)) :
    Calls Try.prog 52 #[.slice (some ⟨g, 0, none⟩) 2 c] w fun e w' => e = .returned (.int .i64 (orI x y)) ∧ w = w' := by
  go_enter Try.func52, Try.ntmps52
  go_wp2
  go_loop [8] (fun t => ∃ k : Nat, k ≤ 2 ∧ t = .int .i64 k ∧ (1 ≤ k → x = 0) ∧ (2 ≤ k → y = 0)) (fun t => 2 - (intOf t).toNat)
  case atStart => exact ⟨0, by omega, rfl, by omega, by omega⟩
  case round =>
    obtain ⟨k, hk, rfl, h1, h2⟩ := hrel
    rcases (by omega : k = 0 ∨ k = 1 ∨ k = 2) with rfl | rfl | rfl
    · clear h1 h2
      go_wp2
      · go_ret
        exact ⟨ret_int (orI_ne ‹_›).symm, rfl⟩
      · exact ⟨⟨1, by omega, rfl, fun _ => by simpa using ‹(x != 0) = false›, by omega⟩, by simp [intOf]⟩
    · clear h2
      have e := h1 (by omega)
      subst e
      clear h1
      go_wp2
      · go_ret
        exact ⟨ret_int rfl, rfl⟩
      · exact ⟨⟨2, by omega, rfl, fun _ => trivial, fun _ => by simpa using ‹(y != 0) = false›⟩, by simp [intOf]⟩
    · obtain rfl := h1 (by omega)
      obtain rfl := h2 (by omega)
      clear h1 h2
      go_wp2
      go_ret
      exact ⟨rfl, rfl⟩

/-- the order of nets. -/
def prefCmp (a n b m : Int) : Int := orI (cmpI a b) (cmpI n m)
set_option maxHeartbeats 400000 in
theorem ip_Cmp (a n b m : Int) (w : World) :
    Calls Try.prog 23 #[.agg #[.int .u32 a, .int .i64 n], .agg #[.int .u32 b, .int .i64 m]] w fun e w' => e = .returned (.int .i64 (prefCmp a n b m)) ∧ Below w.heap.size w w' := by
  go_enter Try.func23, Try.ntmps23
  go_wp2_with fail
  obtain ⟨W0, hW0, c0, c1, d0, d1, hB⟩ := box22 w (.int .u32 a) (.int .i64 n) (.int .u32 b) (.int .i64 m) 29 29
  rw [← hW0]; clear hW0
  refine wp_region_held_drew (S := fun w' => Below W0.heap.size W0 w') (by kernel_rfl) ?_ (fun hHeld => ?_)
  · exact (Below.refl _ _).drew
  refine rg_yes (i := 0) (v := ?_) at0 (by kernel_rfl) (by kernel_rfl) (by kernel_rfl) (fun _ _ _ h => h) ?_ ?_ hHeld ?_; rotate_left 1; (· rfl); (· intro w' hSw; (try dsimp only at hSw); (try clear hHeld); go_simp; try with_reducible rfl)
  try simp only [Act.put, List.setIfInBounds_toArray, List.set_cons_zero, List.set_cons_succ]
  refine rg_yes (i := 1) (v := ?_) (atS at0) (by kernel_rfl) (by kernel_rfl) (by kernel_rfl) (fun _ _ _ h => h) ?_ ?_ hHeld ?_; rotate_left 1; (· rfl); (· intro w' hSw; (try dsimp only at hSw); have c0 := cell_below c0 hSw; have c1 := cell_below c1 hSw; have d0 := cell_below d0 hSw; have d1 := cell_below d1 hSw; (try clear hHeld); go_simp; try with_reducible rfl)
  try simp only [Act.put, List.setIfInBounds_toArray, List.set_cons_zero, List.set_cons_succ]
  refine rg_yes (i := 2) (v := ?_) (atS (atS at0)) (by kernel_rfl) (by kernel_rfl) (by kernel_rfl) (fun _ _ _ h => h) ?_ ?_ hHeld ?_; rotate_left 1; (· rfl); (· intro w' hSw; (try dsimp only at hSw); (try clear hHeld); go_simp; try with_reducible rfl)
  try simp only [Act.put, List.setIfInBounds_toArray, List.set_cons_zero, List.set_cons_succ]
  refine rg_yes (i := 3) (v := ?_) (atS (atS (atS at0))) (by kernel_rfl) (by kernel_rfl) (by kernel_rfl) (fun _ _ _ h => h) ?_ ?_ hHeld ?_; rotate_left 1; (· rfl); (· intro w' hSw; (try dsimp only at hSw); have c0 := cell_below c0 hSw; have c1 := cell_below c1 hSw; have d0 := cell_below d0 hSw; have d1 := cell_below d1 hSw; (try clear hHeld); go_simp; try with_reducible rfl)
  try simp only [Act.put, List.setIfInBounds_toArray, List.set_cons_zero, List.set_cons_succ]
  refine rg_yes (i := 5) (v := ?_) (atS (atS (atS (atS (atS at0))))) (by kernel_rfl) (by kernel_rfl) (by kernel_rfl) (fun _ _ _ h => h) ?_ ?_ hHeld ?_; rotate_left 1; (· rfl); (· intro w' hSw; (try dsimp only at hSw); (try clear hHeld); go_simp; try with_reducible rfl)
  try simp only [Act.put, List.setIfInBounds_toArray, List.set_cons_zero, List.set_cons_succ]
  refine rg_yes (i := 6) (v := ?_) (atS (atS (atS (atS (atS (atS at0)))))) (by kernel_rfl) (by kernel_rfl) (by kernel_rfl) (fun _ _ _ h => h) ?_ ?_ hHeld ?_; rotate_left 1; (· rfl); (· intro w' hSw; (try dsimp only at hSw); have c0 := cell_below c0 hSw; have c1 := cell_below c1 hSw; have d0 := cell_below d0 hSw; have d1 := cell_below d1 hSw; (try clear hHeld); go_simp; try with_reducible rfl)
  try simp only [Act.put, List.setIfInBounds_toArray, List.set_cons_zero, List.set_cons_succ]
  refine rg_yes (i := 7) (v := ?_) (atS (atS (atS (atS (atS (atS (atS at0))))))) (by kernel_rfl) (by kernel_rfl) (by kernel_rfl) (fun _ _ _ h => h) ?_ ?_ hHeld ?_; rotate_left 1; (· rfl); (· intro w' hSw; (try dsimp only at hSw); (try clear hHeld); go_simp; try with_reducible rfl)
  try simp only [Act.put, List.setIfInBounds_toArray, List.set_cons_zero, List.set_cons_succ]
  refine rg_yes (i := 8) (v := ?_) (atS (atS (atS (atS (atS (atS (atS (atS at0)))))))) (by kernel_rfl) (by kernel_rfl) (by kernel_rfl) (fun _ _ _ h => h) ?_ ?_ hHeld ?_; rotate_left 1; (· rfl); (· intro w' hSw; (try dsimp only at hSw); have c0 := cell_below c0 hSw; have c1 := cell_below c1 hSw; have d0 := cell_below d0 hSw; have d1 := cell_below d1 hSw; (try clear hHeld); go_simp; try with_reducible rfl)
  try simp only [Act.put, List.setIfInBounds_toArray, List.set_cons_zero, List.set_cons_succ]
  refine rg_call (i := 4) (atS (atS (atS (atS at0)))) (by kernel_rfl) ?_ (fun K hK => ?_); (· rfl); (try clear hb); go_simp; (refine (calls_below (cmp_CompareAddr a b _)).mono ?_; rintro e w1 ⟨rfl, hb⟩); go_wp2_with fail; refine hK.out _ _ ?_ (fun hHeld => ?_); (· first | exact hHeld.trans (hb.mono hHeld.size) | exact hHeld.alloc hHeld.size _); clear hK K
  try simp only [Act.put, List.setIfInBounds_toArray, List.set_cons_zero, List.set_cons_succ]
  refine rg_call (i := 9) (atS (atS (atS (atS (atS (atS (atS (atS (atS at0))))))))) (by kernel_rfl) ?_ (fun K hK => ?_); (· rfl); (try clear hb); go_simp; (refine (calls_below (cmp_CompareInt n m _)).mono ?_; rintro e w1 ⟨rfl, hb⟩); go_wp2_with fail; refine hK.out _ _ ?_ (fun hHeld => ?_); (· first | exact hHeld.trans (hb.mono hHeld.size) | exact hHeld.alloc hHeld.size _); clear hK K
  try simp only [Act.put, List.setIfInBounds_toArray, List.set_cons_zero, List.set_cons_succ]
  refine rg_call (i := 10) (atS (atS (atS (atS (atS (atS (atS (atS (atS (atS at0)))))))))) (by kernel_rfl) ?_ (fun K hK => ?_); (· rfl); (try clear hb); go_simp; go_wp2_with fail; refine hK.out _ _ ?_ (fun hHeld => ?_); (· first | exact hHeld.trans (hb.mono hHeld.size) | exact hHeld.alloc hHeld.size _); clear hK K
  try simp only [Act.put, List.setIfInBounds_toArray, List.set_cons_zero, List.set_cons_succ]
  refine rg_call (i := 11) (atS (atS (atS (atS (atS (atS (atS (atS (atS (atS (atS at0))))))))))) (by kernel_rfl) ?_ (fun K hK => ?_); (· rfl); (try clear hb); go_simp; (refine (calls_below (cmp_OrInt2 _ 2 (cmpI a b) (cmpI n m) _ (by simp) (by simp))).mono ?_; rintro e w1 ⟨rfl, hb⟩); go_wp2_with fail; refine hK.out _ _ ?_ (fun hHeld => ?_); (· first | exact hHeld.trans (hb.mono hHeld.size) | exact hHeld.alloc hHeld.size _); clear hK K
  try simp only [Act.put, List.setIfInBounds_toArray, List.set_cons_zero, List.set_cons_succ]
  refine rg_yes (i := 12) (v := ?_) (atS (atS (atS (atS (atS (atS (atS (atS (atS (atS (atS (atS at0)))))))))))) (by kernel_rfl) (by kernel_rfl) (by kernel_rfl) (fun _ _ _ h => h) ?_ ?_ hHeld ?_; rotate_left 1; (· rfl); (· intro w' hSw; (try dsimp only at hSw); (try clear hHeld); go_simp; try with_reducible rfl)
  try simp only [Act.put, List.setIfInBounds_toArray, List.set_cons_zero, List.set_cons_succ]
  refine wpAnyH_done (by kernel_rfl) ?_ _
  have hB' := below_on hB hHeld
  clear hHeld hb
  go_wp2
  go_ret
  exact ⟨ret_int rfl, hB'⟩

set_option maxHeartbeats 400000 in
theorem ip_Half_bad (a n t : Int) (w : World) (h0 : 0 ≤ a) (h : a < 4294967296) (hbad : rightB a n = false ∨ (n == 32) = true) :
    Calls Try.prog 83 #[.agg #[.int .u32 a, .int .i64 n], .int .i64 t] w fun e w' => e = .returned (.tuple #[.agg #[.int .u32 0, .int .i64 0], .int .i64 1]) ∧ Below w.heap.size w w' := by
  cases hR : rightB a n
  all_goals
    try (have h32 : (n == 32) = true := by simpa [hR] using hbad)
    clear hbad
    go_enter Try.func83, Try.ntmps83
    go_wp2_with fail
    obtain ⟨W0, hW0, c0, c1, r0, r1, hB⟩ := box22 w (.int .u32 a) (.int .i64 n) (.int .u32 0) (.int .i64 0) 29 29
    have f0 : W0.frozen? ⟨w.heap.size + 1, 0, none⟩ = false := by rw [hW0]; simp
    have f1 : W0.frozen? ⟨w.heap.size + 1, 1, none⟩ = false := by rw [hW0]; simp
    rw [← hW0]; clear hW0
    go_wp2_with (go_at_call 55; refine (ip_Check _ _ _ h0 h).mono ?_; rintro e w1 ⟨rfl, hb⟩; have c0 := cell_below c0 hb; have c1 := cell_below c1 hb; have f0 := frozen_below (size_lt r0) f0 hb; have f1 := frozen_below (size_lt r1) f1 hb; have r0 := cell_below r0 hb; have r1 := cell_below r1 hb; have hB := below_on hB hb; clear hb)
    refine bodyPost_ret (v := .tuple #[.agg #[.int .u32 0, .int .i64 0], .int .i64 1]) (by simp [results, Try.results83, go_sem, r0, r1]) rfl ⟨rfl, ?_⟩
    exact (hB.setCell (by simp) _).setCell (by simp) _

set_option maxHeartbeats 400000 in
theorem ip_Half_zero (a n : Int) (w : World) (h0 : 0 ≤ a) (h : a < 4294967296) (hR : rightB a n = true) (hn : (n == 32) = false) (hn0 : 0 ≤ n) (hn1 : n ≤ 32) :
    Calls Try.prog 83 #[.agg #[.int .u32 a, .int .i64 n], .int .i64 0] w fun e w' => e = .returned (.tuple #[.agg #[.int .u32 a, .int .i64 (n + 1)], .int .i64 0]) ∧ Below w.heap.size w w' := by
  go_enter Try.func83, Try.ntmps83
  go_wp2_with fail
  obtain ⟨W0, hW0, c0, c1, r0, r1, hB⟩ := box22 w (.int .u32 a) (.int .i64 n) (.int .u32 0) (.int .i64 0) 29 29
  have f0 : W0.frozen? ⟨w.heap.size + 1, 0, none⟩ = false := by rw [hW0]; simp
  have f1 : W0.frozen? ⟨w.heap.size + 1, 1, none⟩ = false := by rw [hW0]; simp
  rw [← hW0]; clear hW0
  go_wp2_with (go_at_call 55; refine (ip_Check _ _ _ h0 h).mono ?_; rintro e w1 ⟨rfl, hb⟩; have c0 := cell_below c0 hb; have c1 := cell_below c1 hb; have f0 := frozen_below (size_lt r0) f0 hb; have f1 := frozen_below (size_lt r1) f1 hb; have hz := size_lt (cell_below r0 hb); have r0 := cell_below r0 hb; have r1 := cell_below r1 hb; have hB := below_on hB hb; clear hb)
  refine bodyPost_ret (v := .tuple #[.agg #[.int .u32 a, .int .i64 (n + 1)], .int .i64 0]) (by simp [results, Try.results83, go_sem, r0, r1, hz]) rfl ⟨rfl, ?_⟩
  exact ((hB.setCell (by simp) _).setCell (by simp) _).alloc (by simp; omega) _

set_option maxHeartbeats 400000 in
theorem ip_Half_one (a n t : Int) (w : World) (h0 : 0 ≤ a) (h : a < 4294967296) (hR : rightB a n = true) (hn : (n == 32) = false) (hn0 : 0 ≤ n) (hn1 : n ≤ 31) (ht : (t != 0) = true) :
    Calls Try.prog 83 #[.agg #[.int .u32 a, .int .i64 n], .int .i64 t] w fun e w' => e = .returned (.tuple #[.agg #[.int .u32 (bits .or .u32 a (2 ^ (31 - n).toNat % 4294967296)), .int .i64 (n + 1)], .int .i64 0]) ∧ Below w.heap.size w w' := by
  go_enter Try.func83, Try.ntmps83
  go_wp2_with fail
  obtain ⟨W0, hW0, c0, c1, r0, r1, hB⟩ := box22 w (.int .u32 a) (.int .i64 n) (.int .u32 0) (.int .i64 0) 29 29
  have f0 : W0.frozen? ⟨w.heap.size + 1, 0, none⟩ = false := by rw [hW0]; simp
  have f1 : W0.frozen? ⟨w.heap.size + 1, 1, none⟩ = false := by rw [hW0]; simp
  rw [← hW0]; clear hW0
  go_wp2_with (go_at_call 55; refine (ip_Check _ _ _ h0 h).mono ?_; rintro e w1 ⟨rfl, hb⟩; have c0 := cell_below c0 hb; have c1 := cell_below c1 hb; have f0 := frozen_below (size_lt r0) f0 hb; have f1 := frozen_below (size_lt r1) f1 hb; have hz := size_lt (cell_below r0 hb); have r0 := cell_below r0 hb; have r1 := cell_below r1 hb; have hB := below_on hB hb; clear hb)
  obtain ⟨W2, hW2, e0, e1, hb2⟩ := box2 w1 (.int .u32 a) (.int .i64 (n + 1)) 29
  have g0 : W2.frozen? ⟨w1.heap.size, 0, none⟩ = false := by rw [hW2]; simp
  rw [← hW2]; clear hW2
  have c1 := cell_below c1 hb2
  have f0 := frozen_below (size_lt r0) f0 hb2
  have f1 := frozen_below (size_lt r1) f1 hb2
  have r0 := cell_below r0 hb2
  have r1 := cell_below r1 hb2
  have hB := below_on hB hb2
  have hne : ¬ w.heap.size + 1 = w1.heap.size := by omega
  have hne' : ¬ w1.heap.size = w.heap.size + 1 := by omega
  clear hb2
  go_region
  go_wp2
  refine bodyPost_ret (v := .tuple #[.agg #[.int .u32 (bits .or .u32 a (2 ^ (31 - n).toNat % 4294967296)), .int .i64 (n + 1)], .int .i64 0]) (by simp [results, Try.results83, go_sem, r0, r1]) rfl ⟨rfl, ?_⟩
  exact (((hB.setCell (by simp; omega) _).setCell (by simp) _).setCell (by simp) _).drew

theorem ip_Half (a n t : Int) (w : World) (h0 : 0 ≤ a) (h : a < 4294967296) (hR : rightB a n = true) (hn : n < 32) :
    Calls Try.prog 83 #[.agg #[.int .u32 a, .int .i64 n], .int .i64 t] w fun e w' => e = .returned (.tuple #[.agg #[.int .u32 (halfI a n t), .int .i64 (n + 1)], .int .i64 0]) ∧ Below w.heap.size w w' := by
  have hr := rightB_range hR
  have hn' : (n == 32) = false := by simp; omega
  by_cases ht : t = 0
  · subst ht
    exact ip_Half_zero a n w h0 h hR hn' hr.1 hr.2
  · rw [halfI_1 a n t ht, ← or_half a n h0 h hR hn]
    exact ip_Half_one a n t w h0 h hR hn' hr.1 (by omega) (by simpa using ht)
end Go.Proofs.Ytadlecnlgkhneaa
