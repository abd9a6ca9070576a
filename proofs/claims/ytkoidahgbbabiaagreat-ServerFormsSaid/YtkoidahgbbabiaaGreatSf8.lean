/- Texts of one proof, one behind another. -/
import Derived.Test.YtkoidahgbbabiaaGreatRows
import Derived.Test.YtkoidahgbbabiaaGreatSf7
import Derived.Test.YtkoidahgbbabiaaGreatSf1
import Derived.RegionTactic
import Derived.ChangeAlike
import Derived.LoopTactic
import Derived.Deep.QuietTactic
import Derived.BigQuiet
import Derived.LoopN
import Derived.Deep.CutBlock
import Derived.Deep.DeepCutAuto
/-
  THE WALKS OF PACKAGE ip: what each function gives back, as plain numbers; what was in memory stays.
-/
namespace Go.Proofs.YtkoidahgbbabiaaGreat
open Go.RowKit
set_option maxHeartbeats 400000 in
theorem ip_Bit (a n : Int) (w : World) (ha0 : 0 ≤ a) (ha : a < 4294967296) :
    Calls Tryz.prog 137 #[.int .u32 a, .int .i64 n] w fun e w' => e = .returned (.int .i64 (bitI a n)) ∧ w = w' := by
  by_cases h1 : n < 0
  · have e : bitI a n = 0 := by unfold bitI; rw [if_neg (by omega)]
    have E := Lib.hid e; clear e
    go_enter Tryz.func137, Tryz.ntmps137
    go_wp2
    go_ret
    exact ⟨ret_int E.out.symm, rfl⟩
  · by_cases h2 : n < 32
    · have e := bit_walk a n ha0 ha (by omega) h2
      have E := Lib.hid e; clear e
      go_enter Tryz.func137, Tryz.ntmps137
      go_wp2
      go_ret
      exact ⟨ret_int E.out, rfl⟩
    · have e : bitI a n = 0 := by unfold bitI; rw [if_neg (by omega)]
      have E := Lib.hid e; clear e
      go_enter Tryz.func137, Tryz.ntmps137
      go_wp2
      go_ret
      exact ⟨ret_int E.out.symm, rfl⟩
set_option maxHeartbeats 400000 in
theorem ip_within (n : Int) (w : World) :
    Calls Tryz.prog 114 #[.int .i64 n] w fun e w' => e = .returned (.int .i64 (cl n)) ∧ w = w' := by
  go_enter Tryz.func114, Tryz.ntmps114
  go_wp2
  all_goals
    go_ret
    exact ⟨ret_int (by unfold cl; omega), rfl⟩
set_option maxHeartbeats 400000 in
theorem ip_Mask (n : Int) (w : World) :
    Calls Tryz.prog 113 #[.int .i64 n] w fun e w' => e = .returned (.int .u32 (maskI n)) ∧ w = w' := by
  have h1 := cl_lo n
  have h2 := cl_hi n
  go_enter Tryz.func113, Tryz.ntmps113
  go_wp2_with (go_at_call 114; refine (ip_within _ _).mono ?_; rintro e w' ⟨rfl, rfl⟩)
  go_ret
  exact ⟨ret_int (mask_walk n), rfl⟩
set_option maxHeartbeats 400000 in
theorem ip_Of (a n : Int) (w : World) (h0 : 0 ≤ a) (h : a < 4294967296) :
    Calls Tryz.prog 62 #[.int .u32 a, .int .i64 n] w fun e w' => e = .returned (.agg #[.int .u32 (keepI a n), .int .i64 (cl n)]) ∧ Below w.heap.size w w' := by
  have E := Lib.hid (and_mask a n h0 h)
  go_enter Tryz.func62, Tryz.ntmps62
  go_wp2_with (first
    | (go_at_call 114; refine (ip_within _ _).mono ?_; rintro e w' ⟨rfl, rfl⟩)
    | (go_at_call 113; refine (ip_Mask _ _).mono ?_; rintro e w' ⟨rfl, rfl⟩))
  rw [E.out]
  exact bodyPost_ret (v := .agg #[.int .u32 (keepI a n), .int .i64 (cl n)]) (by simp [results, Tryz.results62, go_sem]) rfl ⟨rfl, (Below.refl _ _).alloc (Nat.le_refl _) _⟩
theorem undPrefix : Tryz.prog.underlying 53 = some (.struct (Tryz.prog.fieldsOf 53)) := by kernel_rfl
theorem stoPrefix : Tryz.prog.stoodInHeld 53 = false := by kernel_rfl
set_option maxRecDepth 100000 in
theorem run_eql_pref (a b c d : Int) (w : World) : (binOp .eql 53 (.agg #[.int .u32 a, .int .i64 b]) (.agg #[.int .u32 c, .int .i64 d])).run Tryz.prog w = .ok (.bool (a == c && b == d)) w := by
  rw [run_eql_struct, run_equalIn_struct w 9999 53 _ _ undPrefix stoPrefix, Program.fieldsOf, Tryz.underlying53]
  simp only [Op.eqFields]
  by_cases h1 : a = c <;> by_cases h2 : b = d <;> simp [go_sem, h1, h2]
set_option maxRecDepth 100000 in
theorem run_neq_pref (a b c d : Int) (w : World) : (binOp .neq 53 (.agg #[.int .u32 a, .int .i64 b]) (.agg #[.int .u32 c, .int .i64 d])).run Tryz.prog w = .ok (.bool (!(a == c && b == d))) w := by
  rw [run_neq_struct, run_equalIn_struct w 9999 53 _ _ undPrefix stoPrefix, Program.fieldsOf, Tryz.underlying53]
  simp only [Op.eqFields]
  by_cases h1 : a = c <;> by_cases h2 : b = d <;> simp [go_sem, h1, h2]
attribute [go_sem ↓] run_eql_pref run_neq_pref
attribute [go_sem] errI_zero
set_option maxHeartbeats 400000 in
theorem ip_Check (a n : Int) (w : World) (h0 : 0 ≤ a) (h : a < 4294967296) :
    Calls Tryz.prog 21 #[.agg #[.int .u32 a, .int .i64 n]] w fun e w' => e = .returned (.int .i64 (errI (rightB a n))) ∧ Below w.heap.size w w' := by
  go_enter Tryz.func21, Tryz.ntmps21
  go_wp2_with fail
  obtain ⟨W0, hW0, c0, c1, hB⟩ := box2 w (.int .u32 a) (.int .i64 n) 53
  rw [← hW0]; clear hW0
  refine wp_region_held_drew (S := fun w' => Below W0.heap.size W0 w') (by kernel_rfl) ?_ (fun hHeld => ?_)
  · exact (Below.refl _ _).drew
  refine rg_yes (i := 0) (v := ?_) at0 (by kernel_rfl) (by kernel_rfl) (by kernel_rfl) (fun _ _ _ h => h) ?_ ?_ hHeld ?_; rotate_left 1; (· rfl); (· intro w' hSw; (try dsimp only at hSw); have c0 := cell_below c0 hSw; have c1 := cell_below c1 hSw; (try clear hHeld); go_simp; try with_reducible rfl)
  try simp only [zp1, zp3, zp4, zp5]
  refine rg_yes (i := 1) (v := ?_) (atS at0) (by kernel_rfl) (by kernel_rfl) (by kernel_rfl) (fun _ _ _ h => h) ?_ ?_ hHeld ?_; rotate_left 1; (· rfl); (· intro w' hSw; (try dsimp only at hSw); (try clear hHeld); go_simp; try with_reducible rfl)
  try simp only [zp1, zp3, zp4, zp5]
  refine rg_yes (i := 2) (v := ?_) (atS (atS at0)) (by kernel_rfl) (by kernel_rfl) (by kernel_rfl) (fun _ _ _ h => h) ?_ ?_ hHeld ?_; rotate_left 1; (· rfl); (· intro w' hSw; (try dsimp only at hSw); have c0 := cell_below c0 hSw; have c1 := cell_below c1 hSw; (try clear hHeld); go_simp; try with_reducible rfl)
  try simp only [zp1, zp3, zp4, zp5]
  refine rg_yes (i := 3) (v := ?_) (atS (atS (atS at0))) (by kernel_rfl) (by kernel_rfl) (by kernel_rfl) (fun _ _ _ h => h) ?_ ?_ hHeld ?_; rotate_left 1; (· rfl); (· intro w' hSw; (try dsimp only at hSw); (try clear hHeld); go_simp; try with_reducible rfl)
  try simp only [zp1, zp3, zp4, zp5]
  refine rg_yes (i := 4) (v := ?_) (atS (atS (atS (atS at0)))) (by kernel_rfl) (by kernel_rfl) (by kernel_rfl) (fun _ _ _ h => h) ?_ ?_ hHeld ?_; rotate_left 1; (· rfl); (· intro w' hSw; (try dsimp only at hSw); have c0 := cell_below c0 hSw; have c1 := cell_below c1 hSw; (try clear hHeld); go_simp; try with_reducible rfl)
  try simp only [zp1, zp3, zp4, zp5]
  refine rg_call (i := 5) (atS (atS (atS (atS (atS at0))))) (by kernel_rfl) ?_ (fun K hK => ?_); (· rfl); (try clear hb); go_simp; (refine (ip_Of a n _ h0 h).mono ?_; rintro e w1 ⟨rfl, hb⟩); go_wp2_with fail; refine hK.out _ _ ?_ (fun hHeld => ?_); (· exact hHeld.trans (hb.mono hHeld.size)); clear hK K
  try simp only [zp1, zp3, zp4, zp5]
  refine rg_yes (i := 6) (v := ?_) (atS (atS (atS (atS (atS (atS at0)))))) (by kernel_rfl) (by kernel_rfl) (by kernel_rfl) (fun _ _ _ h => h) ?_ ?_ hHeld ?_; rotate_left 1; (· rfl); (· intro w' hSw; (try dsimp only at hSw); (try clear hHeld); go_simp; try with_reducible rfl)
  try simp only [zp1, zp3, zp4, zp5]
  refine wpAnyH_done (by kernel_rfl) ?_ _
  have hB' := below_on hB hHeld
  clear hHeld hb
  go_wp2
  · have hr := rightB_no ‹_ ∨ _›
    go_ret
    exact ⟨ret_int (by rw [hr]; rfl), hB'⟩
  · have hr := rightB_yes ‹_ = false ∧ _ = false›
    go_ret
    exact ⟨ret_int (by rw [hr]; rfl), hB'⟩
theorem frozen_below {W W' : World} {a : Addr} (hz : a.block < W.heap.size) (h : W.frozen? a = false) (hb : Below W.heap.size W W') : W'.frozen? a = false := (hb.frozen hz).trans h
def cmpI (a b : Int) : Int := if a < b then -1 else if b < a then 1 else 0
set_option maxHeartbeats 400000 in
theorem cmp_CompareAddr (a b : Int) (w : World) :
    Calls Tryz.prog 64 #[.int .u32 a, .int .u32 b] w fun e w' => e = .returned (.int .i64 (cmpI a b)) ∧ w = w' := by
  go_enter Tryz.func64, Tryz.ntmps64
  go_wp2
  all_goals
    go_ret
    exact ⟨ret_int (by unfold cmpI; repeat (first | rw [if_pos (by omega)] | rw [if_neg (by omega)])), rfl⟩
set_option maxHeartbeats 400000 in
theorem cmp_CompareInt (a b : Int) (w : World) :
    Calls Tryz.prog 65 #[.int .i64 a, .int .i64 b] w fun e w' => e = .returned (.int .i64 (cmpI a b)) ∧ w = w' := by
  go_enter Tryz.func65, Tryz.ntmps65
  go_wp2
  all_goals
    go_ret
    exact ⟨ret_int (by unfold cmpI; repeat (first | rw [if_pos (by omega)] | rw [if_neg (by omega)])), rfl⟩
def orI (x y : Int) : Int := if x = 0 then y else x
theorem orI_ne {x y : Int} (h : (x != 0) = true) : orI x y = x := by unfold orI; rw [if_neg (by simpa using h)]
set_option maxHeartbeats 400000 in
theorem cmp_OrInt2 (g c : Nat) (x y : Int) (w : World) (hx : w.cell? ⟨g, 0, none⟩ = some (.int .i64 x)) (hy : w.cell? ⟨g, 1, none⟩ = some (.int .i64 y)) :
    Calls Tryz.prog 63 #[.slice (some ⟨g, 0, none⟩) 2 c] w fun e w' => e = .returned (.int .i64 (orI x y)) ∧ w = w' := by
  go_enter Tryz.func63, Tryz.ntmps63
  go_wp2
  go_loop [8] (fun t => ∃ k : Nat, k ≤ 2 ∧ t = .int .i64 k ∧ (1 ≤ k → x = 0) ∧ (2 ≤ k → y = 0)) (fun t => 2 - (intOf t).toNat)
  case atStart => exact ⟨0, by omega, rfl, by omega, by omega⟩
  case round =>
    obtain ⟨k, hk, rfl, h1, h2⟩ := hrel
    rcases (by omega : k = 0 ∨ k = 1 ∨ k = 2) with rfl | rfl | rfl
    · clear h1 h2
      go_wp2
      · go_ret
        exact ⟨ret_int (orI_ne ‹_›).symm, rfl⟩
      · exact ⟨⟨1, by omega, rfl, fun _ => by simpa using ‹(x != 0) = false›, by omega⟩, by simp [intOf]⟩
    · clear h2
      have e := h1 (by omega)
      subst e
      clear h1
      go_wp2
      · go_ret
        exact ⟨ret_int rfl, rfl⟩
      · exact ⟨⟨2, by omega, rfl, fun _ => trivial, fun _ => by simpa using ‹(y != 0) = false›⟩, by simp [intOf]⟩
    · obtain rfl := h1 (by omega)
      obtain rfl := h2 (by omega)
      clear h1 h2
      go_wp2
      go_ret
      exact ⟨rfl, rfl⟩
def prefCmp (a n b m : Int) : Int := orI (cmpI a b) (cmpI n m)
set_option maxHeartbeats 400000 in
theorem ip_Cmp (a n b m : Int) (w : World) :
    Calls Tryz.prog 22 #[.agg #[.int .u32 a, .int .i64 n], .agg #[.int .u32 b, .int .i64 m]] w fun e w' => e = .returned (.int .i64 (prefCmp a n b m)) ∧ Below w.heap.size w w' := by
  go_enter Tryz.func22, Tryz.ntmps22
  go_wp2_with fail
  obtain ⟨W0, hW0, c0, c1, d0, d1, hB⟩ := box22 w (.int .u32 a) (.int .i64 n) (.int .u32 b) (.int .i64 m) 53 53
  rw [← hW0]; clear hW0
  refine wp_region_held_drew (S := fun w' => Below W0.heap.size W0 w') (by kernel_rfl) ?_ (fun hHeld => ?_)
  · exact (Below.refl _ _).drew
  refine rg_yes (i := 0) (v := ?_) at0 (by kernel_rfl) (by kernel_rfl) (by kernel_rfl) (fun _ _ _ h => h) ?_ ?_ hHeld ?_; rotate_left 1; (· rfl); (· intro w' hSw; (try dsimp only at hSw); (try clear hHeld); go_simp; try with_reducible rfl)
  try simp only [zp1, zp3, zp4, zp5]
  refine rg_yes (i := 1) (v := ?_) (atS at0) (by kernel_rfl) (by kernel_rfl) (by kernel_rfl) (fun _ _ _ h => h) ?_ ?_ hHeld ?_; rotate_left 1; (· rfl); (· intro w' hSw; (try dsimp only at hSw); have c0 := cell_below c0 hSw; have c1 := cell_below c1 hSw; have d0 := cell_below d0 hSw; have d1 := cell_below d1 hSw; (try clear hHeld); go_simp; try with_reducible rfl)
  try simp only [zp1, zp3, zp4, zp5]
  refine rg_yes (i := 2) (v := ?_) (atS (atS at0)) (by kernel_rfl) (by kernel_rfl) (by kernel_rfl) (fun _ _ _ h => h) ?_ ?_ hHeld ?_; rotate_left 1; (· rfl); (· intro w' hSw; (try dsimp only at hSw); (try clear hHeld); go_simp; try with_reducible rfl)
  try simp only [zp1, zp3, zp4, zp5]
  refine rg_yes (i := 3) (v := ?_) (atS (atS (atS at0))) (by kernel_rfl) (by kernel_rfl) (by kernel_rfl) (fun _ _ _ h => h) ?_ ?_ hHeld ?_; rotate_left 1; (· rfl); (· intro w' hSw; (try dsimp only at hSw); have c0 := cell_below c0 hSw; have c1 := cell_below c1 hSw; have d0 := cell_below d0 hSw; have d1 := cell_below d1 hSw; (try clear hHeld); go_simp; try with_reducible rfl)
  try simp only [zp1, zp3, zp4, zp5]
  refine rg_yes (i := 5) (v := ?_) (atS (atS (atS (atS (atS at0))))) (by kernel_rfl) (by kernel_rfl) (by kernel_rfl) (fun _ _ _ h => h) ?_ ?_ hHeld ?_; rotate_left 1; (· rfl); (· intro w' hSw; (try dsimp only at hSw); (try clear hHeld); go_simp; try with_reducible rfl)
  try simp only [zp1, zp3, zp4, zp5]
  refine rg_yes (i := 6) (v := ?_) (atS (atS (atS (atS (atS (atS at0)))))) (by kernel_rfl) (by kernel_rfl) (by kernel_rfl) (fun _ _ _ h => h) ?_ ?_ hHeld ?_; rotate_left 1; (· rfl); (· intro w' hSw; (try dsimp only at hSw); have c0 := cell_below c0 hSw; have c1 := cell_below c1 hSw; have d0 := cell_below d0 hSw; have d1 := cell_below d1 hSw; (try clear hHeld); go_simp; try with_reducible rfl)
  try simp only [zp1, zp3, zp4, zp5]
  refine rg_yes (i := 7) (v := ?_) (atS (atS (atS (atS (atS (atS (atS at0))))))) (by kernel_rfl) (by kernel_rfl) (by kernel_rfl) (fun _ _ _ h => h) ?_ ?_ hHeld ?_; rotate_left 1; (· rfl); (· intro w' hSw; (try dsimp only at hSw); (try clear hHeld); go_simp; try with_reducible rfl)
  try simp only [zp1, zp3, zp4, zp5]
  refine rg_yes (i := 8) (v := ?_) (atS (atS (atS (atS (atS (atS (atS (atS at0)))))))) (by kernel_rfl) (by kernel_rfl) (by kernel_rfl) (fun _ _ _ h => h) ?_ ?_ hHeld ?_; rotate_left 1; (· rfl); (· intro w' hSw; (try dsimp only at hSw); have c0 := cell_below c0 hSw; have c1 := cell_below c1 hSw; have d0 := cell_below d0 hSw; have d1 := cell_below d1 hSw; (try clear hHeld); go_simp; try with_reducible rfl)
  try simp only [zp1, zp3, zp4, zp5]
  refine rg_call (i := 4) (atS (atS (atS (atS at0)))) (by kernel_rfl) ?_ (fun K hK => ?_); (· rfl); (try clear hb); go_simp; (refine (calls_below (cmp_CompareAddr a b _)).mono ?_; rintro e w1 ⟨rfl, hb⟩); go_wp2_with fail; refine hK.out _ _ ?_ (fun hHeld => ?_); (· first | exact hHeld.trans (hb.mono hHeld.size) | exact hHeld.alloc hHeld.size _); clear hK K
  try simp only [zp1, zp3, zp4, zp5]
  refine rg_call (i := 9) (atS (atS (atS (atS (atS (atS (atS (atS (atS at0))))))))) (by kernel_rfl) ?_ (fun K hK => ?_); (· rfl); (try clear hb); go_simp; (refine (calls_below (cmp_CompareInt n m _)).mono ?_; rintro e w1 ⟨rfl, hb⟩); go_wp2_with fail; refine hK.out _ _ ?_ (fun hHeld => ?_); (· first | exact hHeld.trans (hb.mono hHeld.size) | exact hHeld.alloc hHeld.size _); clear hK K
  try simp only [zp1, zp3, zp4, zp5]
  refine rg_call (i := 10) (atS (atS (atS (atS (atS (atS (atS (atS (atS (atS at0)))))))))) (by kernel_rfl) ?_ (fun K hK => ?_); (· rfl); (try clear hb); go_simp; go_wp2_with fail; refine hK.out _ _ ?_ (fun hHeld => ?_); (· first | exact hHeld.trans (hb.mono hHeld.size) | exact hHeld.alloc hHeld.size _); clear hK K
  try simp only [zp1, zp3, zp4, zp5]
  refine rg_call (i := 11) (atS (atS (atS (atS (atS (atS (atS (atS (atS (atS (atS at0))))))))))) (by kernel_rfl) ?_ (fun K hK => ?_); (· rfl); (try clear hb); go_simp; (refine (calls_below (cmp_OrInt2 _ 2 (cmpI a b) (cmpI n m) _ (by simp) (by simp))).mono ?_; rintro e w1 ⟨rfl, hb⟩); go_wp2_with fail; refine hK.out _ _ ?_ (fun hHeld => ?_); (· first | exact hHeld.trans (hb.mono hHeld.size) | exact hHeld.alloc hHeld.size _); clear hK K
  try simp only [zp1, zp3, zp4, zp5]
  refine rg_yes (i := 12) (v := ?_) (atS (atS (atS (atS (atS (atS (atS (atS (atS (atS (atS (atS at0)))))))))))) (by kernel_rfl) (by kernel_rfl) (by kernel_rfl) (fun _ _ _ h => h) ?_ ?_ hHeld ?_; rotate_left 1; (· rfl); (· intro w' hSw; (try dsimp only at hSw); (try clear hHeld); go_simp; try with_reducible rfl)
  try simp only [zp1, zp3, zp4, zp5]
  refine wpAnyH_done (by kernel_rfl) ?_ _
  have hB' := below_on hB hHeld
  clear hHeld hb
  go_wp2
  go_ret
  exact ⟨ret_int rfl, hB'⟩
set_option maxHeartbeats 400000 in
theorem ip_Half_bad (a n t : Int) (w : World) (h0 : 0 ≤ a) (h : a < 4294967296) (hbad : rightB a n = false ∨ (n == 32) = true) :
    Calls Tryz.prog 189 #[.agg #[.int .u32 a, .int .i64 n], .int .i64 t] w fun e w' => e = .returned (.tuple #[.agg #[.int .u32 0, .int .i64 0], .int .i64 1]) ∧ Below w.heap.size w w' := by
  cases hR : rightB a n
  all_goals
    try (have h32 : (n == 32) = true := by simpa [hR] using hbad)
    clear hbad
    go_enter Tryz.func189, Tryz.ntmps189
    go_wp2_with fail
    obtain ⟨W0, hW0, c0, c1, r0, r1, hB⟩ := box22 w (.int .u32 a) (.int .i64 n) (.int .u32 0) (.int .i64 0) 53 53
    have f0 : W0.frozen? ⟨w.heap.size + 1, 0, none⟩ = false := by rw [hW0]; simp
    have f1 : W0.frozen? ⟨w.heap.size + 1, 1, none⟩ = false := by rw [hW0]; simp
    rw [← hW0]; clear hW0
    go_wp2_with (go_at_call 21; refine (ip_Check _ _ _ h0 h).mono ?_; rintro e w1 ⟨rfl, hb⟩; have c0 := cell_below c0 hb; have c1 := cell_below c1 hb; have f0 := frozen_below (size_lt r0) f0 hb; have f1 := frozen_below (size_lt r1) f1 hb; have r0 := cell_below r0 hb; have r1 := cell_below r1 hb; have hB := below_on hB hb; clear hb)
    refine bodyPost_ret (v := .tuple #[.agg #[.int .u32 0, .int .i64 0], .int .i64 1]) (by simp [results, Tryz.results189, go_sem, r0, r1]) rfl ⟨rfl, ?_⟩
    exact (hB.setCell (by simp) _).setCell (by simp) _
set_option maxHeartbeats 400000 in
theorem ip_Half_zero (a n : Int) (w : World) (h0 : 0 ≤ a) (h : a < 4294967296) (hR : rightB a n = true) (hn : (n == 32) = false) (hn0 : 0 ≤ n) (hn1 : n ≤ 32) :
    Calls Tryz.prog 189 #[.agg #[.int .u32 a, .int .i64 n], .int .i64 0] w fun e w' => e = .returned (.tuple #[.agg #[.int .u32 a, .int .i64 (n + 1)], .int .i64 0]) ∧ Below w.heap.size w w' := by
  go_enter Tryz.func189, Tryz.ntmps189
  go_wp2_with fail
  obtain ⟨W0, hW0, c0, c1, r0, r1, hB⟩ := box22 w (.int .u32 a) (.int .i64 n) (.int .u32 0) (.int .i64 0) 53 53
  have f0 : W0.frozen? ⟨w.heap.size + 1, 0, none⟩ = false := by rw [hW0]; simp
  have f1 : W0.frozen? ⟨w.heap.size + 1, 1, none⟩ = false := by rw [hW0]; simp
  rw [← hW0]; clear hW0
  go_wp2_with (go_at_call 21; refine (ip_Check _ _ _ h0 h).mono ?_; rintro e w1 ⟨rfl, hb⟩; have c0 := cell_below c0 hb; have c1 := cell_below c1 hb; have f0 := frozen_below (size_lt r0) f0 hb; have f1 := frozen_below (size_lt r1) f1 hb; have hz := size_lt (cell_below r0 hb); have r0 := cell_below r0 hb; have r1 := cell_below r1 hb; have hB := below_on hB hb; clear hb)
  refine bodyPost_ret (v := .tuple #[.agg #[.int .u32 a, .int .i64 (n + 1)], .int .i64 0]) (by simp [results, Tryz.results189, go_sem, r0, r1, hz]) rfl ⟨rfl, ?_⟩
  exact ((hB.setCell (by simp) _).setCell (by simp) _).alloc (by simp; omega) _
set_option maxHeartbeats 400000 in
theorem ip_Half_one (a n t : Int) (w : World) (h0 : 0 ≤ a) (h : a < 4294967296) (hR : rightB a n = true) (hn : (n == 32) = false) (hn0 : 0 ≤ n) (hn1 : n ≤ 31) (ht : (t != 0) = true) :
    Calls Tryz.prog 189 #[.agg #[.int .u32 a, .int .i64 n], .int .i64 t] w fun e w' => e = .returned (.tuple #[.agg #[.int .u32 (bits .or .u32 a (2 ^ (31 - n).toNat % 4294967296)), .int .i64 (n + 1)], .int .i64 0]) ∧ Below w.heap.size w w' := by
  go_enter Tryz.func189, Tryz.ntmps189
  go_wp2_with fail
  obtain ⟨W0, hW0, c0, c1, r0, r1, hB⟩ := box22 w (.int .u32 a) (.int .i64 n) (.int .u32 0) (.int .i64 0) 53 53
  have f0 : W0.frozen? ⟨w.heap.size + 1, 0, none⟩ = false := by rw [hW0]; simp
  have f1 : W0.frozen? ⟨w.heap.size + 1, 1, none⟩ = false := by rw [hW0]; simp
  rw [← hW0]; clear hW0
  go_wp2_with (go_at_call 21; refine (ip_Check _ _ _ h0 h).mono ?_; rintro e w1 ⟨rfl, hb⟩; have c0 := cell_below c0 hb; have c1 := cell_below c1 hb; have f0 := frozen_below (size_lt r0) f0 hb; have f1 := frozen_below (size_lt r1) f1 hb; have hz := size_lt (cell_below r0 hb); have r0 := cell_below r0 hb; have r1 := cell_below r1 hb; have hB := below_on hB hb; clear hb)
  obtain ⟨W2, hW2, e0, e1, hb2⟩ := box2 w1 (.int .u32 a) (.int .i64 (n + 1)) 53
  have g0 : W2.frozen? ⟨w1.heap.size, 0, none⟩ = false := by rw [hW2]; simp
  rw [← hW2]; clear hW2
  have c1 := cell_below c1 hb2
  have f0 := frozen_below (size_lt r0) f0 hb2
  have f1 := frozen_below (size_lt r1) f1 hb2
  have r0 := cell_below r0 hb2
  have r1 := cell_below r1 hb2
  have hB := below_on hB hb2
  have hne : ¬ w.heap.size + 1 = w1.heap.size := by omega
  have hne' : ¬ w1.heap.size = w.heap.size + 1 := by omega
  clear hb2
  go_region
  go_wp2
  refine bodyPost_ret (v := .tuple #[.agg #[.int .u32 (bits .or .u32 a (2 ^ (31 - n).toNat % 4294967296)), .int .i64 (n + 1)], .int .i64 0]) (by simp [results, Tryz.results189, go_sem, r0, r1]) rfl ⟨rfl, ?_⟩
  exact (((hB.setCell (by simp; omega) _).setCell (by simp) _).setCell (by simp) _).drew
theorem ip_Half (a n t : Int) (w : World) (h0 : 0 ≤ a) (h : a < 4294967296) (hR : rightB a n = true) (hn : n < 32) :
    Calls Tryz.prog 189 #[.agg #[.int .u32 a, .int .i64 n], .int .i64 t] w fun e w' => e = .returned (.tuple #[.agg #[.int .u32 (halfI a n t), .int .i64 (n + 1)], .int .i64 0]) ∧ Below w.heap.size w w' := by
  have hr := rightB_range hR
  have hn' : (n == 32) = false := by simp; omega
  by_cases ht : t = 0
  · subst ht
    exact ip_Half_zero a n w h0 h hR hn' hr.1 hr.2
  · rw [halfI_1 a n t ht, ← or_half a n h0 h hR hn]
    exact ip_Half_one a n t w h0 h hR hn' hr.1 (by omega) (by simpa using ht)
end Go.Proofs.YtkoidahgbbabiaaGreat
/-
  A TRIE OF ATTRIBUTES: New, Len, find.
-/
namespace Go.Proofs.YtkoidahgbbabiaaGreat
open Go.RowKit
abbrev TrI := TrieAt 213 221 av0
theorem below_drewN {B : Nat} {a w : World} (h : Below B a w) (n : Nat) : Below B a (w.drewN n) := h.trans ⟨rfl, rfl, rfl, Nat.le_refl _, fun _ _ => rfl⟩
theorem trI_made (w : World) (most : Int) : TrI (w.alloc (.cells #[.pointer none, .int .i64 most, .int .i64 0] 213)) w.heap.size (fun _ => none) [] most :=
  ⟨heap_alloc_new w _, fun _ _ h => (by cases h), fun _ _ _ h => (by cases h), fun _ h => (by cases h), fun _ _ h => (by cases h), rfl, fun _ h => absurd h (by simp), fun _ _ => rfl, by simp [KeysApart]⟩
set_option maxHeartbeats 400000 in
theorem trI_New (n : Int) (w : World) : Calls Tryz.prog 90 #[.int .i64 n] w fun e w' => e = .returned (.pointer (some ⟨w.heap.size, 0, none⟩)) ∧ TrI w' w.heap.size (fun _ => none) [] (min (max n 0) 4096) ∧ Below w.heap.size w w' := by
  have E : Hid (∀ m, m = min (max n 0) 4096 → TrI (w.alloc (.cells #[.pointer none, .int .i64 m, .int .i64 0] 213)) w.heap.size (fun _ => none) [] (min (max n 0) 4096)) := Lib.hid fun m hm => by rw [← hm]; exact trI_made w m
  go_enter Tryz.func90, Tryz.ntmps90
  go_wp2_with fail
  all_goals
    go_ret
    exact ⟨rfl, E.out _ (by omega), (Below.refl _ _).alloc (Nat.le_refl _) _⟩
set_option maxHeartbeats 400000 in
theorem trI_Len {tb : Nat} {N : Nat → Option Nat} {S : List (Nat × AV)} {most : Int} {w : World} (h : TrI w tb N S most) : Calls Tryz.prog 96 #[.pointer (some ⟨tb, 0, none⟩)] w fun e w' => e = .returned (.int .i64 S.length) ∧ w = w' := by
  obtain ⟨c0, c1, c2⟩ := h.cells
  clear h
  go_enter Tryz.func96, Tryz.ntmps96
  go_wp2_with fail
  go_ret
  exact ⟨rfl, rfl⟩
set_option maxHeartbeats 400000 in
theorem trI_find_no (p : Addr) (a n : Int) (w : World) (h0 : 0 ≤ a) (h : a < 4294967296) (hR : rightB a n = false) : Calls Tryz.prog 136 #[.pointer (some p), .agg #[.int .u32 a, .int .i64 n]] w fun e w' => e = .returned (.pointer none) ∧ Below w.heap.size w w' := by
  go_enter Tryz.func136, Tryz.ntmps136
  go_wp2_with fail
  obtain ⟨W0, hW0, c0, c1, hB⟩ := box2 w (.int .u32 a) (.int .i64 n) 53
  rw [← hW0]; clear hW0
  refine (ip_Check a n W0 h0 h).mono ?_
  rintro e w1 ⟨rfl, hb⟩
  have hB := below_on hB hb
  rw [hR]
  go_wp2_with fail
  go_ret
  exact ⟨rfl, hB⟩
theorem bit_q (a i : Nat) (ha : a < 4294967296) (hi : i < 32) (w : World) : Calls Tryz.prog 137 #[.int .u32 a, .int .i64 i] w fun e w' => e = .returned (.int .i64 (a / 2 ^ (31 - i) % 2 : Nat)) ∧ w' = w := by
  refine (ip_Bit a i w (by omega) (by omega)).mono ?_
  rintro e w' ⟨rfl, rfl⟩
  rw [bit_key a i hi]
  exact ⟨rfl, rfl⟩
set_option maxHeartbeats 1600000 in
set_option maxRecDepth 100000 in
theorem trI_find {tb : Nat} {N : Nat → Option Nat} {S : List (Nat × AV)} {most : Int} (a n : Nat) (w : World) (h : TrI w tb N S most) (ha : a < 4294967296) (hR : rightB a n = true) :
    Calls Tryz.prog 136 #[.pointer (some ⟨tb, 0, none⟩), .agg #[.int .u32 a, .int .i64 n]] w fun e w' => e = .returned (ptrN (N (keyN a n))) ∧ Below w.heap.size w w' := by
  have hn : n ≤ 32 := by have := (rightB_range hR).2; omega
  have CK := ip_Check a n (h0 := by omega) (h := by omega)
  have H := Lib.hid h
  have K0 := Lib.hid (keyN_0 a ha)
  clear h
  go_enter Tryz.func136, Tryz.ntmps136
  go_wp2_with fail
  obtain ⟨W0, hW0, c0, c1, hB⟩ := box2 w (.int .u32 a) (.int .i64 n) 53
  rw [← hW0]; clear hW0
  refine (CK W0).mono ?_
  rintro e w1 ⟨rfl, hb⟩
  have c0 := cell_below c0 hb
  have c1 := cell_below c1 hb
  have hB := below_on hB hb
  have H1 := Lib.hid (H.out.below hB)
  have t0 := H1.out.cells.1
  clear hb CK
  rw [hR]
  go_wp2_with fail
  clear t0
  go_loopw [5, 6] (fun x i wr => ∃ k : Nat, k ≤ n ∧ i = .int .i64 k ∧ x = ptrN (N (keyN a k)) ∧ Below w1.heap.size w1 wr) (fun _ i _ => n - (intOf i).toNat)
  case atStart => exact ⟨0, by omega, rfl, by rw [K0.out], Below.refl _ _⟩
  case round =>
    obtain ⟨k, hk, rfl, rfl, hbr⟩ := hrel
    have c0 := cell_below c0 hbr
    have c1 := cell_below c1 hbr
    have hBr := below_on hB hbr
    have Hr := Lib.hid (H1.out.below hbr)
    by_cases hlt : k < n
    · cases hx : N (keyN a k) with
      | none =>
        have E : Hid (N (keyN a n) = none) := Lib.hid (by
          have aux : ∀ d, k + d ≤ n → N (keyN a (k + d)) = none := by
            intro d
            induction d with
            | zero => intro _; exact hx
            | succ d ih =>
              intro hd
              have h1 := ih (by omega)
              rw [show k + (d + 1) = (k + d) + 1 by omega, keyN_succ a (k + d) (by omega)]
              obtain ⟨u1, u2⟩ := Hr.out.up_none h1 (keyN_pos a _)
              rcases Nat.mod_two_eq_zero_or_one (a / 2 ^ (31 - (k + d))) with m | m
              · rw [m]; exact u1
              · rw [m]; exact u2
          have := aux (n - k) (by omega)
          rwa [show k + (n - k) = n by omega] at this)
        clear hx
        go_wp2_with fail
        go_ret
        exact ⟨by rw [E.out]; rfl, hBr⟩
      | some b =>
        obtain ⟨d0, d1, _⟩ := Hr.out.ncells hx
        have hbit := Nat.mod_two_eq_zero_or_one (a / 2 ^ (31 - k))
        have KS := keyN_succ a k (by omega)
        have BQ := fun W => bit_q a k ha (by omega) W
        clear hx
        rw [ptrN_some]
        rcases hbit with m | m
        · rw [m] at KS BQ
          have KS := Lib.hid KS
          have BQ := Lib.hid BQ
          clear m
          go_wp2_with fail
          go_quiet ((go_at_call 137; exact Calls.quiet_of_same (BQ.out _)))
          go_wp2_with fail
          exact ⟨⟨k + 1, by omega, by go_num, by rw [KS.out]; rfl, below_drewN hbr _⟩, by simp [intOf]; omega⟩
        · rw [m] at KS BQ
          have KS := Lib.hid KS
          have BQ := Lib.hid BQ
          clear m
          go_wp2_with fail
          go_quiet ((go_at_call 137; exact Calls.quiet_of_same (BQ.out _)))
          go_wp2_with fail
          exact ⟨⟨k + 1, by omega, by go_num, by rw [KS.out], below_drewN hbr _⟩, by simp [intOf]; omega⟩
    · obtain rfl : k = n := by omega
      go_wp2_with fail
      go_ret
      exact ⟨rfl, hBr⟩
end Go.Proofs.YtkoidahgbbabiaaGreat
/-
  A TRIE OF ATTRIBUTES: reach.
-/
namespace Go.Proofs.YtkoidahgbbabiaaGreat
open Go.RowKit
def TExt (N N' : Nat → Option Nat) (B : Nat) : Prop := (∀ k b, N k = some b → N' k = some b) ∧ ∀ k b, N' k = some b → N k = some b ∨ B ≤ b
theorem TExt.refl (N : Nat → Option Nat) (B : Nat) : TExt N N B := ⟨fun _ _ h => h, fun _ _ h => .inl h⟩
theorem TExt.upd {N N' : Nat → Option Nat} {B κ nb : Nat} (h : TExt N N' B) (hn : N' κ = none) (hB : B ≤ nb) : TExt N (updN N' κ (some nb)) B := by
  refine ⟨fun k b hk => ?_, fun k b hk => ?_⟩
  · have h1 := h.1 k b hk
    rw [updN_ne _ _ (fun e => by rw [e, hn] at h1; cases h1)]
    exact h1
  · by_cases e : k = κ
    · subst e
      rw [updN_same] at hk
      cases hk
      exact .inr hB
    · rw [updN_ne _ _ e] at hk
      exact h.2 k b hk
theorem Kept.put {F : Nat → Prop} {w w1 : World} (h : Kept F w w1) (p : Addr) (v : Value) (hF : F p.block ∨ w.heap.size ≤ p.block) : Kept F w (w1.setCell p v) := by
  refine ⟨h.os, h.tape, h.output, by simpa [World.setCell] using h.size, fun k hk hf => ?_⟩
  rw [Deep.blk_setCell_other w1 p v k (fun e => by
    subst e
    rcases hF with hF | hF
    · exact hf hF
    · omega)]
  exact h.block k hk hf
theorem Kept.grow {F : Nat → Prop} {w w1 w2 : World} (h : Kept F w w1) (hb : Below w1.heap.size w1 w2) : Kept F w w2 := h.trans (Kept.of_below hb)
theorem slot_own {tb : Nat} {N N' : Nat → Option Nat} {B κ : Nat} {ad : Addr} (hs : SlotAt tb N' κ ad) (hx : TExt N N' B) : TOwn tb N ad.block ∨ B ≤ ad.block := by
  rcases hs with ⟨_, rfl⟩ | ⟨_, b, hb, rfl⟩
  · exact .inl (.inl rfl)
  · rcases hx.2 _ _ hb with h | h
    · exact .inl (.inr ⟨_, h⟩)
    · exact .inr h
def ReachPost (tb : Nat) (N : Nat → Option Nat) (S : List (Nat × AV)) (most : Int) (w : World) (κ : Nat) (e : Ending) (w' : World) : Prop :=
  ∃ N' b, e = .returned (.pointer (some ⟨b, 0, none⟩)) ∧ N' κ = some b ∧ TrI w' tb N' S most ∧ TExt N N' w.heap.size ∧ Kept (TOwn tb N) w w'
theorem hang_node {tb : Nat} {N : Nat → Option Nat} {S : List (Nat × AV)} {most : Int} {W : World} (h : TrI W tb N S most) {κ : Nat} {ad : Addr} (hs : SlotAt tb N κ ad) (hn : N κ = none) (h1 : 1 ≤ κ) (hd : κ < 2 ^ 33) :
    TrI ((W.alloc (.cells #[.pointer none, .pointer none, .bool false, .int .i64 0, .int .i64 0, .slice none 0 0, .int .u32 0, .int .i64 0, .int .i64 0, .int .i64 0, .int .u32 0, .slice none 0 0, .slice none 0 0] 221)).setCell ad (.pointer (some ⟨W.heap.size, 0, none⟩))) tb (updN N κ (some W.heap.size)) S most :=
  h.hang (o := some W.heap.size) ((Below.refl _ _).alloc (Nat.le_refl _) _) hs h1 hd (.inl hn) (h.none_of hn) (h.up_none hn h1).1 (h.up_none hn h1).2 (fun nb e => by
    cases e; exact ⟨Nat.le_refl _, heap_alloc_new W _⟩)
theorem slot_next {tb : Nat} {N : Nat → Option Nat} {a k b d : Nat} (hk : k < 32) (hb : N (keyN a k) = some b) (hd : a / 2 ^ (31 - k) % 2 = d) : SlotAt tb N (keyN a (k + 1)) ⟨b, d, none⟩ :=
  .inr ⟨keyN_two a k, b, by rw [keyN_half a k hk]; exact hb, by rw [keyN_mod a k hk, hd]⟩
set_option maxHeartbeats 3200000 in
set_option maxRecDepth 100000 in
theorem trI_reach {tb : Nat} {N : Nat → Option Nat} {S : List (Nat × AV)} {most : Int} (a n : Nat) (w : World) (h : TrI w tb N S most) (ha : a < 4294967296) (hn : n ≤ 32) :
    Calls Tryz.prog 138 #[.pointer (some ⟨tb, 0, none⟩), .agg #[.int .u32 a, .int .i64 n]] w (ReachPost tb N S most w (keyN a n)) := by
  have H := Lib.hid h
  have K0 := Lib.hid (keyN_0 a ha)
  clear h
  go_enter Tryz.func138, Tryz.ntmps138
  go_wp2_with fail
  obtain ⟨W0, hW0, c0, c1, hB⟩ := box2 w (.int .u32 a) (.int .i64 n) 53
  rw [← hW0]; clear hW0
  have H1 := Lib.hid (H.out.below hB)
  have nf : Hid (¬ TOwn tb N w.heap.size) := Lib.hid fun ho => by have := H.out.own_lt ho; omega
  go_loopw [5, 6] (fun x i wr => ∃ (k : Nat) (N' : Nat → Option Nat) (ad : Addr), k ≤ n ∧ i = .int .i64 k ∧ x = .pointer (some ad) ∧ Hid (SlotAt tb N' (keyN a k) ad ∧ TrI wr tb N' S most ∧ TExt N N' W0.heap.size ∧ Kept (TOwn tb N) W0 wr)) (fun _ i _ => n - (intOf i).toNat)
  case atStart => exact ⟨0, N, ⟨tb, 0, none⟩, by omega, rfl, rfl, Lib.hid ⟨.inl ⟨K0.out, rfl⟩, H1.out, TExt.refl _ _, Kept.refl _ _⟩⟩
  case round =>
    obtain ⟨k, N', ad, hk, rfl, rfl, C⟩ := hrel
    have c0 := C.out.2.2.2.cell c0 nf.out
    have c1 := C.out.2.2.2.cell c1 nf.out
    obtain ⟨ac, af⟩ := C.out.1.cell C.out.2.1
    have BQ := Lib.hid (fun W (h32 : k < 32) => bit_q a k ha h32 W)
    cases hx : N' (keyN a k) with
    | none =>
      rw [hx] at ac
      have ac : wr.cell? ad = some (.pointer none) := ac
      have hal : Below wr.heap.size wr (wr.alloc (.cells #[.pointer none, .pointer none, .bool false, .int .i64 0, .int .i64 0, .slice none 0 0, .int .u32 0, .int .i64 0, .int .i64 0, .int .i64 0, .int .u32 0, .slice none 0 0, .slice none 0 0] 221)) := (Below.refl _ _).alloc (Nat.le_refl _) _
      have ac' := cell_below ac hal
      have af' := frozen_below (World.block_lt_of_cell? wr ad ac) af hal
      go_upto_region 6 with (fail)
      obtain ⟨W2, hW2⟩ : ∃ W2, W2 = (wr.alloc (.cells #[.pointer none, .pointer none, .bool false, .int .i64 0, .int .i64 0, .slice none 0 0, .int .u32 0, .int .i64 0, .int .i64 0, .int .i64 0, .int .u32 0, .slice none 0 0, .slice none 0 0] 221)).setCell ad (.pointer (some ⟨wr.heap.size, 0, none⟩)) := ⟨_, rfl⟩
      have T2 : TrI W2 tb (updN N' (keyN a k) (some wr.heap.size)) S most := by rw [hW2]; exact hang_node C.out.2.1 C.out.1 hx (keyN_pos _ _) (keyN_deep a k ha (by omega))
      have K2 : Kept (TOwn tb N) W0 W2 := by
        rw [hW2]
        exact (C.out.2.2.2.grow ((Below.refl _ _).alloc (Nat.le_refl _) _)).put _ _ (slot_own C.out.1 C.out.2.2.1)
      have X2 : TExt N (updN N' (keyN a k) (some wr.heap.size)) W0.heap.size := C.out.2.2.1.upd hx C.out.2.2.2.size
      have S2 : SlotAt tb (updN N' (keyN a k) (some wr.heap.size)) (keyN a k) ad := by
        rcases C.out.1 with ⟨e, rfl⟩ | ⟨e, b', hb', rfl⟩
        · exact .inl ⟨e, rfl⟩
        · exact .inr ⟨e, b', by rw [updN_ne _ _ (by omega)]; exact hb', rfl⟩
      have ac2 := (S2.cell T2).1
      rw [updN_same] at ac2
      have hb2 := updN_same N' (keyN a k) (some wr.heap.size)
      have C2 := Lib.hid (And.intro T2 (And.intro X2 K2))
      rw [← hW2]
      generalize updN N' (keyN a k) (some wr.heap.size) = Nv at C2 hb2
      clear hW2 T2 K2 X2 S2 ac af ac' af' hal c0 c1
      have c0 := C2.out.2.2.cell ‹W0.cell? ⟨w.heap.size, 0, none⟩ = _› nf.out
      have c1 := C2.out.2.2.cell ‹W0.cell? ⟨w.heap.size, 1, none⟩ = _› nf.out
      generalize wr.heap.size = b at ac2 hb2 ⊢
      rw [ptrN_some] at ac2
      by_cases hlt : k < n
      · have z1 : ((k : Int) == (n : Int)) = false := by rw [beq_eq_false_iff_ne]; omega
        obtain ⟨d0, d1, _⟩ := C2.out.1.ncells hb2
        have HB2 := Lib.hid hb2
        clear hb2
        rcases Nat.mod_two_eq_zero_or_one (a / 2 ^ (31 - k)) with m | m
        · have BQ' := Lib.hid (fun W => BQ.out W (by omega))
          rw [m] at BQ'
          have M := Lib.hid m
          clear m
          go_wp2_with fail
          go_quiet ((go_at_call 137; exact Calls.quiet_of_same (BQ'.out _)))
          go_wp2_with fail
          exact ⟨⟨k + 1, Nv, ⟨b, 0, none⟩, by omega, by go_num, rfl, Lib.hid ⟨slot_next (by omega) HB2.out M.out, C2.out.1.below (below_drewN (Below.refl _ _) _), C2.out.2.1, C2.out.2.2.grow (below_drewN (Below.refl _ _) _)⟩⟩, by simp [intOf]; omega⟩
        · have BQ' := Lib.hid (fun W => BQ.out W (by omega))
          rw [m] at BQ'
          have M := Lib.hid m
          clear m
          go_wp2_with fail
          go_quiet ((go_at_call 137; exact Calls.quiet_of_same (BQ'.out _)))
          go_wp2_with fail
          exact ⟨⟨k + 1, Nv, ⟨b, 1, none⟩, by omega, by go_num, rfl, Lib.hid ⟨slot_next (by omega) HB2.out M.out, C2.out.1.below (below_drewN (Below.refl _ _) _), C2.out.2.1, C2.out.2.2.grow (below_drewN (Below.refl _ _) _)⟩⟩, by simp [intOf]; omega⟩
      · obtain rfl : k = n := by omega
        have HB2 := Lib.hid hb2
        clear hb2
        go_wp2_with fail
        go_ret
        exact ⟨Nv, b, rfl, HB2.out, C2.out.1, ⟨C2.out.2.1.1, fun k' b' hk' => (C2.out.2.1.2 k' b' hk').imp_right (fun h => by have := hB.size; omega)⟩, (Kept.of_below hB).trans C2.out.2.2⟩
    | some b =>
      rw [hx] at ac
      have C2 := Lib.hid (And.intro C.out.2.1 (And.intro C.out.2.2.1 C.out.2.2.2))
      have hb2 := hx
      have ac2 := ac
      clear hx ac
      obtain ⟨W2, hW2⟩ : ∃ W2, W2 = wr := ⟨_, rfl⟩
      obtain ⟨Nv, hNv⟩ : ∃ Nv, Nv = N' := ⟨_, rfl⟩
      subst hW2 hNv
      rw [ptrN_some] at ac2
      by_cases hlt : k < n
      · have z1 : ((k : Int) == (n : Int)) = false := by rw [beq_eq_false_iff_ne]; omega
        obtain ⟨d0, d1, _⟩ := C2.out.1.ncells hb2
        have HB2 := Lib.hid hb2
        clear hb2
        rcases Nat.mod_two_eq_zero_or_one (a / 2 ^ (31 - k)) with m | m
        · have BQ' := Lib.hid (fun W => BQ.out W (by omega))
          rw [m] at BQ'
          have M := Lib.hid m
          clear m
          go_wp2_with fail
          go_quiet ((go_at_call 137; exact Calls.quiet_of_same (BQ'.out _)))
          go_wp2_with fail
          exact ⟨⟨k + 1, Nv, ⟨b, 0, none⟩, by omega, by go_num, rfl, Lib.hid ⟨slot_next (by omega) HB2.out M.out, C2.out.1.below (below_drewN (Below.refl _ _) _), C2.out.2.1, C2.out.2.2.grow (below_drewN (Below.refl _ _) _)⟩⟩, by simp [intOf]; omega⟩
        · have BQ' := Lib.hid (fun W => BQ.out W (by omega))
          rw [m] at BQ'
          have M := Lib.hid m
          clear m
          go_wp2_with fail
          go_quiet ((go_at_call 137; exact Calls.quiet_of_same (BQ'.out _)))
          go_wp2_with fail
          exact ⟨⟨k + 1, Nv, ⟨b, 1, none⟩, by omega, by go_num, rfl, Lib.hid ⟨slot_next (by omega) HB2.out M.out, C2.out.1.below (below_drewN (Below.refl _ _) _), C2.out.2.1, C2.out.2.2.grow (below_drewN (Below.refl _ _) _)⟩⟩, by simp [intOf]; omega⟩
      · obtain rfl : k = n := by omega
        have HB2 := Lib.hid hb2
        clear hb2
        go_wp2_with fail
        go_ret
        exact ⟨Nv, b, rfl, HB2.out, C2.out.1, ⟨C2.out.2.1.1, fun k' b' hk' => (C2.out.2.1.2 k' b' hk').imp_right (fun h => by have := hB.size; omega)⟩, (Kept.of_below hB).trans C2.out.2.2⟩
end Go.Proofs.YtkoidahgbbabiaaGreat
/-
  A TRIE OF ATTRIBUTES: Put, Get.
-/
namespace Go.Proofs.YtkoidahgbbabiaaGreat
open Go.RowKit
theorem TExt.mono {N N' : Nat → Option Nat} {B B' : Nat} (h : TExt N N' B) (hB : B' ≤ B) : TExt N N' B' := ⟨h.1, fun k b hk => (h.2 k b hk).imp_right fun h => by omega⟩
def putR (S : List (Nat × AV)) (most : Int) (κ : Nat) (v : AV) : Int × List (Nat × AV) :=
  if (getL S κ).isSome then (0, delL S κ ++ [(κ, v)]) else if most ≤ S.length then (3, S) else (0, delL S κ ++ [(κ, v)])
theorem putR_old {S : List (Nat × AV)} {most : Int} {κ : Nat} {v : AV} (h : (getL S κ).isSome = true) : putR S most κ v = (0, delL S κ ++ [(κ, v)]) := if_pos h
theorem putR_full {S : List (Nat × AV)} {most : Int} {κ : Nat} {v : AV} (h : getL S κ = none) (hm : most ≤ S.length) : putR S most κ v = (3, S) := by unfold putR; rw [h, if_neg (by decide), if_pos hm]
theorem putR_new {S : List (Nat × AV)} {most : Int} {κ : Nat} {v : AV} (h : getL S κ = none) (hm : ¬ most ≤ S.length) : putR S most κ v = (0, delL S κ ++ [(κ, v)]) := by unfold putR; rw [h, if_neg (by decide), if_neg hm]
theorem ret_put {r : Int × List (Nat × AV)} {c : Int} {S' : List (Nat × AV)} (h : r = (c, S')) : Ending.returned (.int .i64 c) = .returned (.int .i64 r.1) := by rw [h]
def getE (S : List (Nat × AV)) (κ : Nat) : Ending := .returned (.tuple #[((getL S κ).getD av0).V, .bool (getL S κ).isSome])
theorem getE_no {S : List (Nat × AV)} {κ : Nat} (h : getL S κ = none) : Ending.returned (.tuple #[av0.V, .bool false]) = getE S κ := by unfold getE; rw [h]; rfl
theorem getE_yes {S : List (Nat × AV)} {κ : Nat} {x : AV} (h : getL S κ = some x) : Ending.returned (.tuple #[x.V, .bool true]) = getE S κ := by unfold getE; rw [h]; rfl
def PutPost (tb : Nat) (N : Nat → Option Nat) (most : Int) (w : World) (r : Int × List (Nat × AV)) (e : Ending) (w' : World) : Prop :=
  ∃ N', e = .returned (.int .i64 r.1) ∧ TrI w' tb N' r.2 most ∧ TExt N N' w.heap.size ∧ Kept (TOwn tb N) w w'
theorem Kept.putAV {F : Nat → Prop} {w w1 : World} (h : Kept F w w1) (v : AV) {b : Nat} (hF : F b ∨ w.heap.size ≤ b) : Kept F w (setAV w1 b v) := by
  unfold setAV
  exact ((((((((((h.put _ _ hF).put _ _ hF).put _ _ hF).put _ _ hF).put _ _ hF).put _ _ hF).put _ _ hF).put _ _ hF).put _ _ hF).put _ _ hF)
theorem box_pa (w : World) (a n : Int) (v : AV) : ∃ W0, W0 = (w.alloc (.cells #[.int .u32 a, .int .i64 n] 53)).alloc (.cells v.C 42) ∧ W0.cell? ⟨w.heap.size, 0, none⟩ = some (.int .u32 a) ∧ W0.cell? ⟨w.heap.size, 1, none⟩ = some (.int .i64 n) ∧ W0.heap[w.heap.size + 1]? = some (.cells v.C 42 (0, 0)) ∧ Below w.heap.size w W0 := by
  obtain ⟨W0, h1, h2, h3, h4⟩ := boxTwo w #[.int .u32 a, .int .i64 n] 53 v.C 42
  exact ⟨W0, h1, row_cell h2 0, row_cell h2 1, h3, h4⟩
set_option maxHeartbeats 3200000 in
set_option maxRecDepth 100000 in
theorem trI_Put {tb : Nat} {N : Nat → Option Nat} {S : List (Nat × AV)} {most : Int} (a n : Nat) (v : AV) (w : World) (h : TrI w tb N S most) (hm : most ≤ 4096) (ha : a < 4294967296) (hR : rightB a n = true) :
    Calls Tryz.prog 100 #[.pointer (some ⟨tb, 0, none⟩), .agg #[.int .u32 a, .int .i64 n], v.V] w (PutPost tb N most w (putR S most (keyN a n) v)) := by
  have hn : n ≤ 32 := by have := (rightB_range hR).2; omega
  have CK := ip_Check a n (h0 := by omega) (h := by omega)
  have H := Lib.hid h
  have FD := Lib.hid (fun W (h : TrI W tb N S most) => trI_find a n W h ha hR)
  have RC := Lib.hid (fun W (h : TrI W tb N S most) => trI_reach a n W h ha hn)
  clear h
  generalize hκ : keyN a n = κ at *
  clear hκ
  go_enter Tryz.func100, Tryz.ntmps100
  go_upto_region 1 with (fail)
  obtain ⟨W0, hW0, c0, c1, rv, hB⟩ := box_pa w a n v
  rw [← hW0]; clear hW0
  have RV0 := Lib.hid rv
  have bn : Hid (¬ TOwn tb N (w.heap.size + 1)) := Lib.hid fun ho => by have := H.out.own_lt ho; omega
  clear rv
  go_wp2_with fail
  refine (CK W0).mono ?_
  rintro e w1 ⟨rfl, hb⟩
  have c0 := cell_below c0 hb
  have c1 := cell_below c1 hb
  have RV1 := Lib.hid ((hb.block _ (row_lt RV0.out)).trans RV0.out)
  have hB := below_on hB hb
  clear hb CK RV0
  rw [hR]
  go_wp2_with fail
  refine (FD.out _ (H.out.below hB)).mono ?_
  rintro e w2 ⟨rfl, hb⟩
  have c0 := cell_below c0 hb
  have c1 := cell_below c1 hb
  have RV := Lib.hid ((hb.block _ (row_lt RV1.out)).trans RV1.out)
  have hB := below_on hB hb
  clear hb RV1
  have T2 := Lib.hid (H.out.below hB)
  obtain ⟨_, t1, t2⟩ := T2.out.cells
  cases hg : getL S κ with
  | none =>
    cases hx : N κ with
    | none =>
      have HG := Lib.hid hg
      have HX := Lib.hid hx
      clear hg hx
      by_cases hf : most ≤ (S.length : Int)
      · have E := Lib.hid (putR_full (v := v) HG.out hf)
        go_wp2_with fail
        go_quiet (fail)
        go_wp2_with fail
        go_ret
        exact ⟨N, ret_put E.out, by rw [E.out]; exact T2.out.below (below_drewN (Below.refl _ _) _), TExt.refl _ _, ((Kept.refl (TOwn tb N) w).grow hB).grow (below_drewN (Below.refl _ _) _)⟩
      · have E := Lib.hid (putR_new (v := v) HG.out hf)
        go_wp2_with fail
        go_quiet (fail)
        go_wp2_with fail
        refine (RC.out _ (T2.out.below (below_drewN (Below.refl _ _) _))).mono ?_
        rintro e w4 ⟨N', b4, rfl, hb4, T4, X4, K4⟩
        have K4' := Lib.hid (((Kept.refl (TOwn tb N) w).grow (hB.trans ((below_drewN (Below.refl _ _) nq).mono hB.size))).trans K4)
        have X4' := Lib.hid (X4.mono (show w.heap.size ≤ (w2.drewN nq).heap.size from hB.size))
        obtain ⟨_, _, s2⟩ := T4.cells
        obtain ⟨_, _, e2⟩ := T4.ncells hb4
        have g2 := row_free (T4.node κ b4 hb4) 2
        have g4 := row_free T4.row 2
        have n1 : ¬ b4 = tb := fun e => T4.top κ (e ▸ hb4)
        have n2 : ¬ tb = b4 := fun e => n1 e.symm
        have PN := Lib.hid (T4.putNew hb4 HG.out v)
        have HB4 := Lib.hid hb4
        have RV4 : Hid (w4.heap[w.heap.size + 1]? = some (.cells v.C 42 (0, 0))) := Lib.hid ((K4.block _ (row_lt RV.out) bn.out).trans RV.out)
        rw [HG.out] at e2
        have e2 : w4.cell? ⟨b4, 2, none⟩ = some (.bool false) := e2
        have NT4 := Lib.hid (set_same (T4.node κ b4 hb4) 2 (.bool true))
        have hown : Hid (TOwn tb N b4 ∨ w.heap.size ≤ b4) := Lib.hid ((X4'.out.2 _ _ HB4.out).imp_left fun h => .inr ⟨κ, h⟩)
        have q1 : Hid (¬ (w.heap.size + 1 = b4)) := Lib.hid (fun e => by
          rcases X4.2 _ _ hb4 with h | h
          · exact bn.out (.inr ⟨κ, by rw [e]; exact h⟩)
          · have := row_lt RV.out; have h : w2.heap.size ≤ b4 := h; omega)
        have q2 : Hid (¬ (w.heap.size + 1 = tb)) := Lib.hid (fun e => bn.out (.inl e))
        clear K4 X4 T4 hb4
        go_wp2_with (with_reducible refine halt_at (X := .load 42 (.tmp 5)) ?_ ?_; (· rfl))
        obtain ⟨W5, hW5⟩ : ∃ W5, W5 = (w4.setCell ⟨b4, 2, none⟩ (.bool true)).setCell ⟨tb, 2, none⟩ (.int .i64 ((S.length : Int) + 1)) := ⟨_, rfl⟩
        have RV5 : Hid (W5.heap[w.heap.size + 1]? = some (.cells v.C 42 (0, 0))) := Lib.hid (by rw [hW5, set_other _ _ _ q2.out, set_other _ _ _ q1.out]; exact RV4.out)
        have NT5 : Hid (W5.there b4 3 10) := Lib.hid (node_there (by rw [hW5, set_other _ _ _ n1]; exact NT4.out))
        have PN5 : Hid (TrI (setAV W5 b4 v) tb N' (delL S κ ++ [(κ, v)]) most) := Lib.hid (by rw [hW5]; exact PN.out)
        have K5 : Hid (Kept (TOwn tb N) w (setAV W5 b4 v)) := Lib.hid (by rw [hW5]; exact ((K4'.out.put _ _ hown.out).put _ _ (.inl (.inl rfl))).putAV v hown.out)
        rw [← hW5]
        clear hW5 s2 e2 g2 g4 PN RV4 NT4
        unfold Halt
        refine ld_at (by rfl) 42 (.tmp 5) rfl (w.heap.size + 1) rfl 42 v.C (0, 0) _ RV5.out Tryz.underlying42 rfl (by kernel_rfl) ?_
        go_wp2_with (with_reducible refine halt_at (X := .store 42 (.tmp 52) (.tmp 50)) ?_ ?_; (· rfl))
        unfold Halt
        refine wpList_store_mid rfl 42 (.tmp 52) (.tmp 50) rfl b4 3 v.C rfl rfl NT5.out (by kernel_rfl) v.one ?_
        rw [setAV_eq]
        generalize setAV W5 b4 v = W6 at PN5 K5 ⊢
        go_wp2_with fail
        go_ret
        exact ⟨N', ret_put E.out, by rw [E.out]; exact PN5.out, X4'.out, K5.out⟩
    | some b =>
      obtain ⟨_, _, d2⟩ := T2.out.ncells hx
      rw [hg] at d2
      have d2 : w2.cell? ⟨b, 2, none⟩ = some (.bool false) := d2
      rw [ptrN_some]
      have HG := Lib.hid hg
      have HX := Lib.hid hx
      clear hg hx
      by_cases hf : most ≤ (S.length : Int)
      · have E := Lib.hid (putR_full (v := v) HG.out hf)
        go_wp2_with fail
        go_quiet (fail)
        go_wp2_with fail
        go_ret
        exact ⟨N, ret_put E.out, by rw [E.out]; exact T2.out.below (below_drewN (Below.refl _ _) _), TExt.refl _ _, ((Kept.refl (TOwn tb N) w).grow hB).grow (below_drewN (Below.refl _ _) _)⟩
      · have E := Lib.hid (putR_new (v := v) HG.out hf)
        go_wp2_with fail
        go_quiet (fail)
        go_wp2_with fail
        refine (RC.out _ (T2.out.below (below_drewN (Below.refl _ _) _))).mono ?_
        rintro e w4 ⟨N', b4, rfl, hb4, T4, X4, K4⟩
        have K4' := Lib.hid (((Kept.refl (TOwn tb N) w).grow (hB.trans ((below_drewN (Below.refl _ _) nq).mono hB.size))).trans K4)
        have X4' := Lib.hid (X4.mono (show w.heap.size ≤ (w2.drewN nq).heap.size from hB.size))
        obtain ⟨_, _, s2⟩ := T4.cells
        obtain ⟨_, _, e2⟩ := T4.ncells hb4
        have g2 := row_free (T4.node κ b4 hb4) 2
        have g4 := row_free T4.row 2
        have n1 : ¬ b4 = tb := fun e => T4.top κ (e ▸ hb4)
        have n2 : ¬ tb = b4 := fun e => n1 e.symm
        have PN := Lib.hid (T4.putNew hb4 HG.out v)
        have HB4 := Lib.hid hb4
        have RV4 : Hid (w4.heap[w.heap.size + 1]? = some (.cells v.C 42 (0, 0))) := Lib.hid ((K4.block _ (row_lt RV.out) bn.out).trans RV.out)
        rw [HG.out] at e2
        have e2 : w4.cell? ⟨b4, 2, none⟩ = some (.bool false) := e2
        have NT4 := Lib.hid (set_same (T4.node κ b4 hb4) 2 (.bool true))
        have hown : Hid (TOwn tb N b4 ∨ w.heap.size ≤ b4) := Lib.hid ((X4'.out.2 _ _ HB4.out).imp_left fun h => .inr ⟨κ, h⟩)
        have q1 : Hid (¬ (w.heap.size + 1 = b4)) := Lib.hid (fun e => by
          rcases X4.2 _ _ hb4 with h | h
          · exact bn.out (.inr ⟨κ, by rw [e]; exact h⟩)
          · have := row_lt RV.out; have h : w2.heap.size ≤ b4 := h; omega)
        have q2 : Hid (¬ (w.heap.size + 1 = tb)) := Lib.hid (fun e => bn.out (.inl e))
        clear K4 X4 T4 hb4
        go_wp2_with (with_reducible refine halt_at (X := .load 42 (.tmp 5)) ?_ ?_; (· rfl))
        obtain ⟨W5, hW5⟩ : ∃ W5, W5 = (w4.setCell ⟨b4, 2, none⟩ (.bool true)).setCell ⟨tb, 2, none⟩ (.int .i64 ((S.length : Int) + 1)) := ⟨_, rfl⟩
        have RV5 : Hid (W5.heap[w.heap.size + 1]? = some (.cells v.C 42 (0, 0))) := Lib.hid (by rw [hW5, set_other _ _ _ q2.out, set_other _ _ _ q1.out]; exact RV4.out)
        have NT5 : Hid (W5.there b4 3 10) := Lib.hid (node_there (by rw [hW5, set_other _ _ _ n1]; exact NT4.out))
        have PN5 : Hid (TrI (setAV W5 b4 v) tb N' (delL S κ ++ [(κ, v)]) most) := Lib.hid (by rw [hW5]; exact PN.out)
        have K5 : Hid (Kept (TOwn tb N) w (setAV W5 b4 v)) := Lib.hid (by rw [hW5]; exact ((K4'.out.put _ _ hown.out).put _ _ (.inl (.inl rfl))).putAV v hown.out)
        rw [← hW5]
        clear hW5 s2 e2 g2 g4 PN RV4 NT4
        unfold Halt
        refine ld_at (by rfl) 42 (.tmp 5) rfl (w.heap.size + 1) rfl 42 v.C (0, 0) _ RV5.out Tryz.underlying42 rfl (by kernel_rfl) ?_
        go_wp2_with (with_reducible refine halt_at (X := .store 42 (.tmp 52) (.tmp 50)) ?_ ?_; (· rfl))
        unfold Halt
        refine wpList_store_mid rfl 42 (.tmp 52) (.tmp 50) rfl b4 3 v.C rfl rfl NT5.out (by kernel_rfl) v.one ?_
        rw [setAV_eq]
        generalize setAV W5 b4 v = W6 at PN5 K5 ⊢
        go_wp2_with fail
        go_ret
        exact ⟨N', ret_put E.out, by rw [E.out]; exact PN5.out, X4'.out, K5.out⟩
  | some x =>
    obtain ⟨b, hx⟩ := H.out.dom' (k := κ) (by rw [hg]; rfl)
    obtain ⟨_, _, d2⟩ := T2.out.ncells hx
    have NT := Lib.hid (node_there (T2.out.node κ b hx))
    rw [hg] at d2
    have d2 : w2.cell? ⟨b, 2, none⟩ = some (.bool true) := d2
    rw [hx, ptrN_some]
    have PO := Lib.hid (T2.out.putOld hx (by rw [hg]; rfl) v)
    have E := Lib.hid (putR_old (most := most) (κ := κ) (v := v) (S := S) (by rw [hg]; rfl))
    have KP := Lib.hid (((Kept.refl (TOwn tb N) w).grow hB).putAV v (b := b) (.inl (.inr ⟨κ, hx⟩)))
    clear hg hx
    go_wp2_with (with_reducible refine halt_at (X := .load 42 (.tmp 5)) ?_ ?_; (· rfl))
    unfold Halt
    refine ld_at (by rfl) 42 (.tmp 5) rfl (w.heap.size + 1) rfl 42 v.C (0, 0) _ RV.out Tryz.underlying42 rfl (by kernel_rfl) ?_
    go_wp2_with (with_reducible refine halt_at (X := .store 42 (.tmp 52) (.tmp 50)) ?_ ?_; (· rfl))
    unfold Halt
    refine wpList_store_mid rfl 42 (.tmp 52) (.tmp 50) rfl b 3 v.C rfl rfl NT.out (by kernel_rfl) v.one ?_
    rw [setAV_eq]
    generalize setAV w2 b v = W5 at PO KP ⊢
    go_wp2_with fail
    go_ret
    exact ⟨N, ret_put E.out, by rw [E.out]; exact PO.out, TExt.refl _ _, KP.out⟩
theorem results_Get (tmps : Array Value) (W : World) (b : Nat) (v : AV) (c : Bool) (h4 : tmps.getD 4 undef = .pointer (some ⟨b, 0, none⟩)) (h5 : tmps.getD 5 undef = .bool c) (hb : W.heap[b]? = some (.cells v.C 42 (0, 0))) :
    (results Tryz.f97 tmps).run Tryz.prog W = .ok (.tuple #[v.V, .bool c]) W := by
  have hl := run_loadVar_row (P := Tryz.prog) W b 42 42 v.C (0, 0) _ hb Tryz.underlying42 rfl (by kernel_rfl)
  unfold results
  rw [Tryz.results97]
  simp [h4, h5, hl, asAddr, -Array.getD_eq_getD_getElem?]
theorem box_pz (w : World) (a n : Int) : ∃ W0, W0 = (w.alloc (.cells #[.int .u32 a, .int .i64 n] 53)).alloc (.cells #[.int .i64 0, .int .i64 0, .slice none 0 0, .int .u32 0, .int .i64 0, .int .i64 0, .int .i64 0, .int .u32 0, .slice none 0 0, .slice none 0 0] 42) ∧ W0.cell? ⟨w.heap.size, 0, none⟩ = some (.int .u32 a) ∧ W0.cell? ⟨w.heap.size, 1, none⟩ = some (.int .i64 n) ∧ W0.heap[w.heap.size + 1]? = some (.cells av0.C 42 (0, 0)) ∧ Below w.heap.size w W0 := by
  obtain ⟨W0, h1, h2, h3, h4⟩ := boxTwo w #[.int .u32 a, .int .i64 n] 53 av0.C 42
  exact ⟨W0, h1, row_cell h2 0, row_cell h2 1, h3, h4⟩
theorem box_z (w : World) : ∃ W0, W0 = w.alloc (.cells #[.int .i64 0, .int .i64 0, .slice none 0 0, .int .u32 0, .int .i64 0, .int .i64 0, .int .i64 0, .int .u32 0, .slice none 0 0, .slice none 0 0] 42) ∧ W0.heap[w.heap.size]? = some (.cells av0.C 42 (0, 0)) ∧ Below w.heap.size w W0 ∧ W0.heap.size = w.heap.size + 1 := box1 w av0.C 42
set_option maxHeartbeats 1600000 in
set_option maxRecDepth 100000 in
theorem trI_Get_no (p : Addr) (a n : Int) (w : World) (h0 : 0 ≤ a) (h : a < 4294967296) (hR : rightB a n = false) : Calls Tryz.prog 97 #[.pointer (some p), .agg #[.int .u32 a, .int .i64 n]] w fun e w' => e = .returned (.tuple #[av0.V, .bool false]) ∧ Below w.heap.size w w' := by
  have E : Hid (Ending.returned (.tuple #[av0.V, .bool false]) = .returned (.tuple #[av0.V, .bool false])) := Lib.hid rfl
  go_enter Tryz.func97, Tryz.ntmps97
  go_upto_region 1 with (fail)
  obtain ⟨W0, hW0, c0, c1, rz, hB⟩ := box_pz w a n
  rw [← hW0]; clear hW0
  have RZ0 := Lib.hid rz
  clear rz
  go_wp2_with fail
  refine (trI_find_no p a n _ h0 h hR).mono ?_
  rintro e w2 ⟨rfl, hb⟩
  have hB := below_on hB hb
  have RZ := Lib.hid ((hb.block _ (row_lt RZ0.out)).trans RZ0.out)
  clear hb RZ0 c0 c1
  go_upto_region 4 with (fail); (obtain ⟨W3, hW3, rz, hb3, -⟩ := box_z w2); rw [← hW3]; clear hW3; (have R3 := Lib.hid rz); (have RZ3 := Lib.hid ((hb3.block _ (row_lt RZ.out)).trans RZ.out)); (have B3 := Lib.hid (below_on hB hb3)); clear rz hb3; go_wp2_with (with_reducible refine halt_at (X := .load 42 (.tmp 7)) ?_ ?_; (· rfl)); unfold Halt; refine ld_at (by rfl) 42 (.tmp 7) rfl w2.heap.size rfl 42 av0.C (0, 0) _ R3.out Tryz.underlying42 rfl (by kernel_rfl) ?_; go_wp2_with (with_reducible refine halt_at (X := .store 42 (.tmp 4) (.tmp 20)) ?_ ?_; (· rfl)); unfold Halt; refine st_row rfl 42 _ _ rfl (w.heap.size + 1) rfl 42 av0.C av0.C rfl RZ3.out (by kernel_rfl) rfl av0.one ?_; go_wp2_with fail; refine bodyPost_ret (results_Get _ _ (w.heap.size + 1) av0 false ?_ ?_ (setRow_heap _ _ _ _ _ _ RZ3.out)) rfl ⟨(by first | exact E.out | rfl), below_setRow B3.out (Nat.le_succ _) _⟩ <;> rfl
set_option maxHeartbeats 1600000 in
set_option maxRecDepth 100000 in
theorem trI_Get {tb : Nat} {N : Nat → Option Nat} {S : List (Nat × AV)} {most : Int} (a n : Nat) (w : World) (h : TrI w tb N S most) (ha : a < 4294967296) (hR : rightB a n = true) :
    Calls Tryz.prog 97 #[.pointer (some ⟨tb, 0, none⟩), .agg #[.int .u32 a, .int .i64 n]] w fun e w' => e = getE S (keyN a n) ∧ Below w.heap.size w w' := by
  have H := Lib.hid h
  have FD := Lib.hid (fun W (h : TrI W tb N S most) => trI_find a n W h ha hR)
  clear h
  generalize keyN a n = κ at *
  go_enter Tryz.func97, Tryz.ntmps97
  go_upto_region 1 with (fail)
  obtain ⟨W0, hW0, c0, c1, rz, hB⟩ := box_pz w a n
  rw [← hW0]; clear hW0
  have RZ0 := Lib.hid rz
  clear rz
  go_wp2_with fail
  refine (FD.out _ (H.out.below hB)).mono ?_
  rintro e w2 ⟨rfl, hb⟩
  have hB := below_on hB hb
  have RZ := Lib.hid ((hb.block _ (row_lt RZ0.out)).trans RZ0.out)
  clear hb RZ0 c0 c1
  have T2 := Lib.hid (H.out.below hB)
  cases hx : N κ with
  | none =>
    have E := Lib.hid (getE_no (H.out.none_of hx))
    go_upto_region 4 with (fail); (obtain ⟨W3, hW3, rz, hb3, -⟩ := box_z w2); rw [← hW3]; clear hW3; (have R3 := Lib.hid rz); (have RZ3 := Lib.hid ((hb3.block _ (row_lt RZ.out)).trans RZ.out)); (have B3 := Lib.hid (below_on hB hb3)); clear rz hb3; go_wp2_with (with_reducible refine halt_at (X := .load 42 (.tmp 7)) ?_ ?_; (· rfl)); unfold Halt; refine ld_at (by rfl) 42 (.tmp 7) rfl w2.heap.size rfl 42 av0.C (0, 0) _ R3.out Tryz.underlying42 rfl (by kernel_rfl) ?_; go_wp2_with (with_reducible refine halt_at (X := .store 42 (.tmp 4) (.tmp 20)) ?_ ?_; (· rfl)); unfold Halt; refine st_row rfl 42 _ _ rfl (w.heap.size + 1) rfl 42 av0.C av0.C rfl RZ3.out (by kernel_rfl) rfl av0.one ?_; go_wp2_with fail; refine bodyPost_ret (results_Get _ _ (w.heap.size + 1) av0 false ?_ ?_ (setRow_heap _ _ _ _ _ _ RZ3.out)) rfl ⟨(by first | exact E.out | rfl), below_setRow B3.out (Nat.le_succ _) _⟩ <;> rfl
  | some b =>
    obtain ⟨_, _, d2⟩ := T2.out.ncells hx
    rw [ptrN_some]
    cases hg : getL S κ with
    | none =>
      rw [hg] at d2
      have d2 : w2.cell? ⟨b, 2, none⟩ = some (.bool false) := d2
      have E := Lib.hid (getE_no hg)
      clear hg hx
      go_upto_region 4 with (fail); (obtain ⟨W3, hW3, rz, hb3, -⟩ := box_z w2); rw [← hW3]; clear hW3; (have R3 := Lib.hid rz); (have RZ3 := Lib.hid ((hb3.block _ (row_lt RZ.out)).trans RZ.out)); (have B3 := Lib.hid (below_on hB hb3)); clear rz hb3; go_wp2_with (with_reducible refine halt_at (X := .load 42 (.tmp 7)) ?_ ?_; (· rfl)); unfold Halt; refine ld_at (by rfl) 42 (.tmp 7) rfl w2.heap.size rfl 42 av0.C (0, 0) _ R3.out Tryz.underlying42 rfl (by kernel_rfl) ?_; go_wp2_with (with_reducible refine halt_at (X := .store 42 (.tmp 4) (.tmp 20)) ?_ ?_; (· rfl)); unfold Halt; refine st_row rfl 42 _ _ rfl (w.heap.size + 1) rfl 42 av0.C av0.C rfl RZ3.out (by kernel_rfl) rfl av0.one ?_; go_wp2_with fail; refine bodyPost_ret (results_Get _ _ (w.heap.size + 1) av0 false ?_ ?_ (setRow_heap _ _ _ _ _ _ RZ3.out)) rfl ⟨(by first | exact E.out | rfl), below_setRow B3.out (Nat.le_succ _) _⟩ <;> rfl
    | some x =>
      have NR := node_range (T2.out.node κ b hx)
      rw [hg] at d2 NR
      have d2 : w2.cell? ⟨b, 2, none⟩ = some (.bool true) := d2
      have NR : Hid (w2.rangeAt b 3 x.C.toList) := Lib.hid NR
      have E := Lib.hid (getE_yes hg)
      clear hg hx
      go_wp2_with (with_reducible refine halt_at (X := .load 42 (.tmp 23)) ?_ ?_; (· rfl))
      unfold Halt
      refine wpList_load_mid rfl 42 (.tmp 23) rfl b 3 rfl x.C.toList _ NR.out Tryz.underlying42 rfl (by kernel_rfl) ?_
      go_wp2_with (with_reducible refine halt_at (X := .store 42 (.tmp 4) (.tmp 24)) ?_ ?_; (· rfl))
      unfold Halt
      refine st_row rfl 42 _ _ rfl (w.heap.size + 1) rfl 42 av0.C x.C rfl RZ.out (by kernel_rfl) rfl x.one ?_
      go_wp2_with fail
      refine bodyPost_ret (results_Get _ _ (w.heap.size + 1) x true ?_ ?_ (setRow_heap _ _ _ _ _ _ RZ.out)) rfl ⟨E.out, below_setRow hB (Nat.le_succ _) _⟩ <;> rfl
end Go.Proofs.YtkoidahgbbabiaaGreat
