/- Texts of one proof, one behind another. -/
import Derived.Test.YtadlecnlgkhneaaRu1
import Derived.Test.YtadlecnlgkhneaaRows
import Derived.RegionTactic
import Derived.ChangeAlike
import Derived.Test.YtadlecnlgkhneaaRu2
import Derived.LoopTactic
import Derived.Deep.QuietTactic
import Derived.BigQuiet
import Derived.LoopN
import Derived.Deep.CutBlock
import Derived.Deep.DeepCutAuto
/-
  MORE PLAIN ARITHMETIC ON NETS: a net in its form is all addresses from its first to its last; its halves.
-/
namespace Go.Proofs.Ytadlecnlgkhneaa
open Go.RowKit (wrap64)

theorem sub_mod_range (t a M : Int) (hM : 0 < M) (ha : a % M = 0) : (t - t % M = a) ↔ (a ≤ t ∧ t < a + M) := by
  have h1 := Int.emod_nonneg t (show M ≠ 0 by omega)
  have h2 := Int.emod_lt_of_pos t hM
  constructor
  · intro h; omega
  · rintro ⟨h3, h4⟩
    have e : t % M = t - a := by
      have h5 : t = (t - a) + a := by omega
      rw [h5, Int.add_emod, ha, Int.add_zero, Int.emod_emod_of_dvd _ (Int.dvd_refl M)]
      rw [Int.emod_eq_of_lt (by omega) (by omega)]; omega
    omega
/-- how many addresses a net has. -/
def sizeI (n : Int) : Int := 2 ^ lowN n
theorem sizeI_pos (n : Int) : 0 < sizeI n := pow_pos33 _
theorem has_range (a n t : Int) (hr : rightB a n = true) : hasB a n t = true ↔ (a ≤ t ∧ t < a + sizeI n) := by
  unfold hasB
  rw [hr, Bool.true_and, beq_iff_eq]
  exact sub_mod_range t a _ (pow_pos33 _) ((rightB_iff a n).1 hr).1
theorem has_yes {a n t : Int} (hr : rightB a n = true) (h : a ≤ t ∧ t < a + sizeI n) : hasB a n t = true := (has_range a n t hr).2 h
theorem has_no {a n t : Int} (hr : rightB a n = true) (h : ¬ (a ≤ t ∧ t < a + sizeI n)) : hasB a n t = false := by
  cases hh : hasB a n t
  · rfl
  · exact absurd ((has_range a n t hr).1 hh) h
theorem size_succ (n : Int) (h0 : 0 ≤ n) (h : n < 32) : sizeI n = 2 * sizeI (n + 1) := by
  unfold sizeI
  have e : lowN n = lowN (n + 1) + 1 := by rw [lowN_of n h0 (by omega), lowN_of (n + 1) (by omega) (by omega)]; omega
  rw [e, Int.pow_succ]; omega
theorem size_top (n : Int) (h0 : 0 ≤ n) (h : n < 32) : (2 : Int) ^ (31 - n).toNat = sizeI (n + 1) := by
  unfold sizeI
  rw [lowN_of (n + 1) (by omega) (by omega), show (31 - n).toNat = (32 - (n + 1)).toNat by omega]
theorem mod_half (a M : Int) (h : a % (2 * M) = 0) : a % M = 0 := by
  have := Int.emod_emod_of_dvd a (show M ∣ 2 * M from ⟨2, by rw [Int.mul_comm]⟩)
  rw [h] at this
  rw [← this]; simp
theorem right_half0 (a n : Int) (hr : rightB a n = true) (h : n < 32) : rightB a (n + 1) = true := by
  obtain ⟨h1, h2, h3⟩ := (rightB_iff a n).1 hr
  refine (rightB_iff a (n + 1)).2 ⟨?_, by omega, by omega⟩
  have e := size_succ n h2 h
  unfold sizeI at e
  rw [e] at h1
  exact mod_half _ _ h1
theorem right_half1 (a n : Int) (hr : rightB a n = true) (h : n < 32) : rightB (a + sizeI (n + 1)) (n + 1) = true := by
  have h0 := (rightB_iff a (n + 1)).1 (right_half0 a n hr h)
  refine (rightB_iff _ _).2 ⟨?_, h0.2⟩
  have h1 := h0.1
  unfold sizeI
  rw [Int.add_emod, h1]; simp
/-- an address and all behind it, under 2^32, where the net is in its form. -/
theorem right_fits (a n : Int) (ha0 : 0 ≤ a) (ha : a < 4294967296) (hr : rightB a n = true) : a + sizeI n ≤ 4294967296 := by
  obtain ⟨h1, h2, h3⟩ := (rightB_iff a n).1 hr
  have hp := sizeI_pos n
  have hd : sizeI n ∣ 4294967296 := by
    refine ⟨2 ^ (32 - lowN n), ?_⟩
    unfold sizeI
    rw [← Int.pow_add, show lowN n + (32 - lowN n) = 32 by have := lowN_le n; omega]
    decide
  have h4 : (4294967296 : Int) % sizeI n = 0 := Int.emod_eq_zero_of_dvd hd
  rcases Int.lt_or_le 4294967296 (a + sizeI n) with h5 | h5
  · have := (sub_mod_range 4294967296 a (sizeI n) hp h1).2 ⟨by omega, h5⟩
    omega
  · exact h5

/-! ### The greatest address -/
theorem xor_mask (n : Int) : bits .xor .u32 4294967295 (maskI n) = sizeI n - 1 := by
  unfold maskI sizeI
  have hk := lowN_le n
  generalize lowN n = k at hk
  refine cases33 (P := fun k => bits .xor .u32 4294967295 (4294967296 - 2 ^ k) = 2 ^ k - 1) k hk ?_ ?_ ?_ ?_ ?_ ?_ ?_ ?_ ?_ ?_ ?_ ?_ ?_ ?_ ?_ ?_ ?_ ?_ ?_ ?_ ?_ ?_ ?_ ?_ ?_ ?_ ?_ ?_ ?_ ?_ ?_ ?_ ?_ <;> decide +kernel
theorem or_low (a b : Int) (k : Nat) (h0 : 0 ≤ a) (h : a < 4294967296) (hb0 : 0 ≤ b) (hb : b < 2 ^ k) (hk : k ≤ 32) (hm : a % 2 ^ k = 0) : bits .or .u32 a b = a + b := by
  have hp := pow_le33 k hk
  rw [u32_or a b h0 h hb0 (by omega)]
  obtain ⟨x, rfl⟩ := Int.eq_ofNat_of_zero_le h0
  obtain ⟨y, rfl⟩ := Int.eq_ofNat_of_zero_le hb0
  rw [Int.toNat_natCast, Int.toNat_natCast]
  have hy : y < 2 ^ k := by
    have e : ((2 : Int) ^ k) = ((2 ^ k : Nat) : Int) := by simp
    rw [e] at hb; omega
  have hx : x % 2 ^ k = 0 := by
    have e : ((x : Int) % 2 ^ k) = ((x % 2 ^ k : Nat) : Int) := by simp
    rw [e] at hm; omega
  have hd : x = 2 ^ k * (x / 2 ^ k) := by have := Nat.div_add_mod x (2 ^ k); omega
  have := Nat.two_pow_add_eq_or_of_lt hy (x / 2 ^ k)
  rw [← hd] at this
  omega
theorem last_right (a n : Int) (h0 : 0 ≤ a) (h : a < 4294967296) (hr : rightB a n = true) : bits .or .u32 a (bits .xor .u32 4294967295 (maskI n)) = a + sizeI n - 1 := by
  have hp := sizeI_pos n
  rw [xor_mask, or_low a _ (lowN n) h0 h (by omega) (by unfold sizeI; omega) (lowN_le n) ((rightB_iff a n).1 hr).1]
  omega
theorem or_half (a n : Int) (h0 : 0 ≤ a) (h : a < 4294967296) (hr : rightB a n = true) (hn : n < 32) : bits .or .u32 a (2 ^ (31 - n).toNat % 4294967296) = a + sizeI (n + 1) := by
  obtain ⟨h1, h2, h3⟩ := (rightB_iff a n).1 hr
  have hs := size_succ n h2 hn
  have hp := sizeI_pos (n + 1)
  have hle : sizeI n ≤ 4294967296 := pow_le33 _ (lowN_le n)
  rw [size_top n h2 hn, Int.emod_eq_of_lt (by omega) (by omega)]
  exact or_low a _ (lowN n) h0 h (by omega) (by show sizeI (n + 1) < sizeI n; omega) (lowN_le n) h1
/-- a half of a net: its first address. -/
def halfI (a n t : Int) : Int := if t = 0 then a else a + sizeI (n + 1)
theorem halfI_0 (a n : Int) : halfI a n 0 = a := rfl
theorem halfI_1 (a n t : Int) (h : t ≠ 0) : halfI a n t = a + sizeI (n + 1) := if_neg h
/-- a net covers what is in its form, longer, and begins in it. -/
theorem covers_iff (a n b m : Int) (ha : rightB a n = true) : coversB a n b m = true ↔ (rightB b m = true ∧ n ≤ m ∧ a ≤ b ∧ b < a + sizeI n) := by
  unfold coversB
  rw [Bool.and_eq_true, Bool.and_eq_true, decide_eq_true_iff, has_range a n b ha]
  constructor
  · rintro ⟨⟨h1, h2⟩, h3, h4⟩; exact ⟨h1, h2, h3, h4⟩
  · rintro ⟨h1, h2, h3, h4⟩; exact ⟨⟨h1, h2⟩, h3, h4⟩
theorem covers_no {a n b m : Int} (ha : rightB a n = true) (h : ¬ (n ≤ m ∧ a ≤ b ∧ b < a + sizeI n)) : coversB a n b m = false := by
  cases hh : coversB a n b m
  · rfl
  · exact absurd ((covers_iff a n b m ha).1 hh).2 h
end Go.Proofs.Ytadlecnlgkhneaa

/-
  THE WALKS OF PACKAGE ip: what each function gives back, as plain numbers; what was in memory stays.
-/
namespace Go.Proofs.Ytadlecnlgkhneaa
open Go.RowKit

set_option maxHeartbeats 400000 in
theorem ip_Bit (a n : Int) (w : World) (ha0 : 0 ≤ a) (ha : a < 4294967296) :
    Calls Try.prog 60 #[.int .u32 a, .int .i64 n] w fun e w' => e = .returned (.int .i64 (bitI a n)) ∧ w = w' := by
  by_cases h1 : n < 0
  · have e : bitI a n = 0 := by unfold bitI; rw [if_neg (by omega)]
    have E := Lib.hid e; clear e
    go_enter Try.func60, Try.ntmps60
    go_wp2
    go_ret
    exact ⟨ret_int E.out.symm, rfl⟩
  · by_cases h2 : n < 32
    · have e := bit_walk a n ha0 ha (by omega) h2
      have E := Lib.hid e; clear e
      go_enter Try.func60, Try.ntmps60
      go_wp2
      go_ret
      exact ⟨ret_int E.out, rfl⟩
    · have e : bitI a n = 0 := by unfold bitI; rw [if_neg (by omega)]
      have E := Lib.hid e; clear e
      go_enter Try.func60, Try.ntmps60
      go_wp2
      go_ret
      exact ⟨ret_int E.out.symm, rfl⟩

set_option maxHeartbeats 400000 in
theorem ip_within (n : Int) (w : World) :
    Calls Try.prog 72 #[.int .i64 n] w fun e w' => e = .returned (.int .i64 (cl n)) ∧ w = w' := by
  go_enter Try.func72, Try.ntmps72
  go_wp2
  all_goals
    go_ret
    exact ⟨ret_int (by unfold cl; omega), rfl⟩

set_option maxHeartbeats 400000 in
theorem ip_Mask (n : Int) (w : World) :
    Calls Try.prog 71 #[.int .i64 n] w fun e w' => e = .returned (.int .u32 (maskI n)) ∧ w = w' := by
  have h1 := cl_lo n
  have h2 := cl_hi n
  go_enter Try.func71, Try.ntmps71
  go_wp2_with (go_at_call 72; refine (ip_within _ _).mono ?_; rintro e w' ⟨rfl, rfl⟩)
  go_ret
  exact ⟨ret_int (mask_walk n), rfl⟩

set_option maxHeartbeats 400000 in
theorem ip_Of (a n : Int) (w : World) (h0 : 0 ≤ a) (h : a < 4294967296) :
    Calls Try.prog 67 #[.int .u32 a, .int .i64 n] w fun e w' => e = .returned (.agg #[.int .u32 (keepI a n), .int .i64 (cl n)]) ∧ Below w.heap.size w w' := by
  have E := Lib.hid (and_mask a n h0 h)
  go_enter Try.func67, Try.ntmps67
  go_wp2_with (first
    | (go_at_call 72; refine (ip_within _ _).mono ?_; rintro e w' ⟨rfl, rfl⟩)
    | (go_at_call 71; refine (ip_Mask _ _).mono ?_; rintro e w' ⟨rfl, rfl⟩))
  rw [E.out]
  exact bodyPost_ret (v := .agg #[.int .u32 (keepI a n), .int .i64 (cl n)]) (by simp [results, Try.results67, go_sem]) rfl ⟨rfl, (Below.refl _ _).alloc (Nat.le_refl _) _⟩

/-! ### Two nets held against each other -/
theorem undPrefix : Try.prog.underlying 29 = some (.struct (Try.prog.fieldsOf 29)) := by kernel_rfl
theorem stoPrefix : Try.prog.stoodInHeld 29 = false := by kernel_rfl
set_option maxRecDepth 100000 in
theorem run_eql_pref (a b c d : Int) (w : World) : (binOp .eql 29 (.agg #[.int .u32 a, .int .i64 b]) (.agg #[.int .u32 c, .int .i64 d])).run Try.prog w = .ok (.bool (a == c && b == d)) w := by
  rw [run_eql_struct, run_equalIn_struct w 9999 29 _ _ undPrefix stoPrefix, Program.fieldsOf, Try.underlying29]
  simp only [Op.eqFields]
  by_cases h1 : a = c <;> by_cases h2 : b = d <;> simp [go_sem, h1, h2]
set_option maxRecDepth 100000 in
theorem run_neq_pref (a b c d : Int) (w : World) : (binOp .neq 29 (.agg #[.int .u32 a, .int .i64 b]) (.agg #[.int .u32 c, .int .i64 d])).run Try.prog w = .ok (.bool (!(a == c && b == d))) w := by
  rw [run_neq_struct, run_equalIn_struct w 9999 29 _ _ undPrefix stoPrefix, Program.fieldsOf, Try.underlying29]
  simp only [Op.eqFields]
  by_cases h1 : a = c <;> by_cases h2 : b = d <;> simp [go_sem, h1, h2]
attribute [go_sem ↓] run_eql_pref run_neq_pref

attribute [go_sem] errI_zero

set_option maxHeartbeats 400000 in
theorem ip_Check (a n : Int) (w : World) (h0 : 0 ≤ a) (h : a < 4294967296) :
    Calls Try.prog 55 #[.agg #[.int .u32 a, .int .i64 n]] w fun e w' => e = .returned (.int .i64 (errI (rightB a n))) ∧ Below w.heap.size w w' := by
  go_enter Try.func55, Try.ntmps55
  go_wp2_with fail
  obtain ⟨W0, hW0, c0, c1, hB⟩ := box2 w (.int .u32 a) (.int .i64 n) 29
  rw [← hW0]; clear hW0
  refine wp_region_held_drew (S := fun w' => Below W0.heap.size W0 w') (by kernel_rfl) ?_ (fun hHeld => ?_)
  · exact (Below.refl _ _).drew
  refine rg_yes (i := 0) (v := ?_) at0 (by kernel_rfl) (by kernel_rfl) (by kernel_rfl) (fun _ _ _ h => h) ?_ ?_ hHeld ?_; rotate_left 1; (· rfl); (· intro w' hSw; (try dsimp only at hSw); have c0 := cell_below c0 hSw; have c1 := cell_below c1 hSw; (try clear hHeld); go_simp; try with_reducible rfl)
  try simp only [Act.put, List.setIfInBounds_toArray, List.set_cons_zero, List.set_cons_succ]
  refine rg_yes (i := 1) (v := ?_) (atS at0) (by kernel_rfl) (by kernel_rfl) (by kernel_rfl) (fun _ _ _ h => h) ?_ ?_ hHeld ?_; rotate_left 1; (· rfl); (· intro w' hSw; (try dsimp only at hSw); (try clear hHeld); go_simp; try with_reducible rfl)
  try simp only [Act.put, List.setIfInBounds_toArray, List.set_cons_zero, List.set_cons_succ]
  refine rg_yes (i := 2) (v := ?_) (atS (atS at0)) (by kernel_rfl) (by kernel_rfl) (by kernel_rfl) (fun _ _ _ h => h) ?_ ?_ hHeld ?_; rotate_left 1; (· rfl); (· intro w' hSw; (try dsimp only at hSw); have c0 := cell_below c0 hSw; have c1 := cell_below c1 hSw; (try clear hHeld); go_simp; try with_reducible rfl)
  try simp only [Act.put, List.setIfInBounds_toArray, List.set_cons_zero, List.set_cons_succ]
  refine rg_yes (i := 3) (v := ?_) (atS (atS (atS at0))) (by kernel_rfl) (by kernel_rfl) (by kernel_rfl) (fun _ _ _ h => h) ?_ ?_ hHeld ?_; rotate_left 1; (· rfl); (· intro w' hSw; (try dsimp only at hSw); (try clear hHeld); go_simp; try with_reducible rfl)
  try simp only [Act.put, List.setIfInBounds_toArray, List.set_cons_zero, List.set_cons_succ]
  refine rg_yes (i := 4) (v := ?_) (atS (atS (atS (atS at0)))) (by kernel_rfl) (by kernel_rfl) (by kernel_rfl) (fun _ _ _ h => h) ?_ ?_ hHeld ?_; rotate_left 1; (· rfl); (· intro w' hSw; (try dsimp only at hSw); have c0 := cell_below c0 hSw; have c1 := cell_below c1 hSw; (try clear hHeld); go_simp; try with_reducible rfl)
  try simp only [Act.put, List.setIfInBounds_toArray, List.set_cons_zero, List.set_cons_succ]
  refine rg_call (i := 5) (atS (atS (atS (atS (atS at0))))) (by kernel_rfl) ?_ (fun K hK => ?_); (· rfl); (try clear hb); go_simp; (refine (ip_Of a n _ h0 h).mono ?_; rintro e w1 ⟨rfl, hb⟩); go_wp2_with fail; refine hK.out _ _ ?_ (fun hHeld => ?_); (· exact hHeld.trans (hb.mono hHeld.size)); clear hK K
  try simp only [Act.put, List.setIfInBounds_toArray, List.set_cons_zero, List.set_cons_succ]
  refine rg_yes (i := 6) (v := ?_) (atS (atS (atS (atS (atS (atS at0)))))) (by kernel_rfl) (by kernel_rfl) (by kernel_rfl) (fun _ _ _ h => h) ?_ ?_ hHeld ?_; rotate_left 1; (· rfl); (· intro w' hSw; (try dsimp only at hSw); (try clear hHeld); go_simp; try with_reducible rfl)
  try simp only [Act.put, List.setIfInBounds_toArray, List.set_cons_zero, List.set_cons_succ]
  refine wpAnyH_done (by kernel_rfl) ?_ _
  have hB' := below_on hB hHeld
  clear hHeld hb
  go_wp2
  · have hr := rightB_no ‹_ ∨ _›
    go_ret
    exact ⟨ret_int (by rw [hr]; rfl), hB'⟩
  · have hr := rightB_yes ‹_ = false ∧ _ = false›
    go_ret
    exact ⟨ret_int (by rw [hr]; rfl), hB'⟩




theorem frozen_below {W W' : World} {a : Addr} (hz : a.block < W.heap.size) (h : W.frozen? a = false) (hb : Below W.heap.size W W') : W'.frozen? a = false := (hb.frozen hz).trans h
def lastI (a n : Int) : Int := bits .or .u32 a (bits .xor .u32 4294967295 (maskI n))
def cmpI (a b : Int) : Int := if a < b then -1 else if b < a then 1 else 0
set_option maxHeartbeats 400000 in
theorem cmp_CompareAddr (a b : Int) (w : World) :
    Calls Try.prog 53 #[.int .u32 a, .int .u32 b] w fun e w' => e = .returned (.int .i64 (cmpI a b)) ∧ w = w' := by
  go_enter Try.func53, Try.ntmps53
  go_wp2
  all_goals
    go_ret
    exact ⟨ret_int (by unfold cmpI; repeat (first | rw [if_pos (by omega)] | rw [if_neg (by omega)])), rfl⟩
set_option maxHeartbeats 400000 in
theorem cmp_CompareInt (a b : Int) (w : World) :
    Calls Try.prog 54 #[.int .i64 a, .int .i64 b] w fun e w' => e = .returned (.int .i64 (cmpI a b)) ∧ w = w' := by
  go_enter Try.func54, Try.ntmps54
  go_wp2
  all_goals
    go_ret
    exact ⟨ret_int (by unfold cmpI; repeat (first | rw [if_pos (by omega)] | rw [if_neg (by omega)])), rfl⟩

def orI (x y : Int) : Int := if x = 0 then y else x
theorem orI_ne {x y : Int} (h : (x != 0) = true) : orI x y = x := by unfold orI; rw [if_neg (by simpa using h)]
set_option maxHeartbeats 400000 in
theorem cmp_OrInt2 (g c : Nat) (x y : Int) (w : World) (hx : w.cell? ⟨g, 0, none⟩ = some (.int .i64 x)) (hy : w.cell? ⟨g, 1, none⟩ = some (.int .i64 y)) :
    Calls Try.prog 52 #[.slice (some ⟨g, 0, none⟩) 2 c] w fun e w' => e = .returned (.int .i64 (orI x y)) ∧ w = w' := by
  go_enter Try.func52, Try.ntmps52
  go_wp2
  go_loop [8] (fun t => ∃ k : Nat, k ≤ 2 ∧ t = .int .i64 k ∧ (1 ≤ k → x = 0) ∧ (2 ≤ k → y = 0)) (fun t => 2 - (intOf t).toNat)
  case atStart => exact ⟨0, by omega, rfl, by omega, by omega⟩
  case round =>
    obtain ⟨k, hk, rfl, h1, h2⟩ := hrel
    rcases (by omega : k = 0 ∨ k = 1 ∨ k = 2) with rfl | rfl | rfl
    · clear h1 h2
      go_wp2
      · go_ret
        exact ⟨ret_int (orI_ne ‹_›).symm, rfl⟩
      · exact ⟨⟨1, by omega, rfl, fun _ => by simpa using ‹(x != 0) = false›, by omega⟩, by simp [intOf]⟩
    · clear h2
      have e := h1 (by omega)
      subst e
      clear h1
      go_wp2
      · go_ret
        exact ⟨ret_int rfl, rfl⟩
      · exact ⟨⟨2, by omega, rfl, fun _ => trivial, fun _ => by simpa using ‹(y != 0) = false›⟩, by simp [intOf]⟩
    · obtain rfl := h1 (by omega)
      obtain rfl := h2 (by omega)
      clear h1 h2
      go_wp2
      go_ret
      exact ⟨rfl, rfl⟩

/-- the order of nets. -/
def prefCmp (a n b m : Int) : Int := orI (cmpI a b) (cmpI n m)
set_option maxHeartbeats 400000 in
theorem ip_Cmp (a n b m : Int) (w : World) :
    Calls Try.prog 23 #[.agg #[.int .u32 a, .int .i64 n], .agg #[.int .u32 b, .int .i64 m]] w fun e w' => e = .returned (.int .i64 (prefCmp a n b m)) ∧ Below w.heap.size w w' := by
  go_enter Try.func23, Try.ntmps23
  go_wp2_with fail
  obtain ⟨W0, hW0, c0, c1, d0, d1, hB⟩ := box22 w (.int .u32 a) (.int .i64 n) (.int .u32 b) (.int .i64 m) 29 29
  rw [← hW0]; clear hW0
  refine wp_region_held_drew (S := fun w' => Below W0.heap.size W0 w') (by kernel_rfl) ?_ (fun hHeld => ?_)
  · exact (Below.refl _ _).drew
  refine rg_yes (i := 0) (v := ?_) at0 (by kernel_rfl) (by kernel_rfl) (by kernel_rfl) (fun _ _ _ h => h) ?_ ?_ hHeld ?_; rotate_left 1; (· rfl); (· intro w' hSw; (try dsimp only at hSw); (try clear hHeld); go_simp; try with_reducible rfl)
  try simp only [Act.put, List.setIfInBounds_toArray, List.set_cons_zero, List.set_cons_succ]
  refine rg_yes (i := 1) (v := ?_) (atS at0) (by kernel_rfl) (by kernel_rfl) (by kernel_rfl) (fun _ _ _ h => h) ?_ ?_ hHeld ?_; rotate_left 1; (· rfl); (· intro w' hSw; (try dsimp only at hSw); have c0 := cell_below c0 hSw; have c1 := cell_below c1 hSw; have d0 := cell_below d0 hSw; have d1 := cell_below d1 hSw; (try clear hHeld); go_simp; try with_reducible rfl)
  try simp only [Act.put, List.setIfInBounds_toArray, List.set_cons_zero, List.set_cons_succ]
  refine rg_yes (i := 2) (v := ?_) (atS (atS at0)) (by kernel_rfl) (by kernel_rfl) (by kernel_rfl) (fun _ _ _ h => h) ?_ ?_ hHeld ?_; rotate_left 1; (· rfl); (· intro w' hSw; (try dsimp only at hSw); (try clear hHeld); go_simp; try with_reducible rfl)
  try simp only [Act.put, List.setIfInBounds_toArray, List.set_cons_zero, List.set_cons_succ]
  refine rg_yes (i := 3) (v := ?_) (atS (atS (atS at0))) (by kernel_rfl) (by kernel_rfl) (by kernel_rfl) (fun _ _ _ h => h) ?_ ?_ hHeld ?_; rotate_left 1; (· rfl); (· intro w' hSw; (try dsimp only at hSw); have c0 := cell_below c0 hSw; have c1 := cell_below c1 hSw; have d0 := cell_below d0 hSw; have d1 := cell_below d1 hSw; (try clear hHeld); go_simp; try with_reducible rfl)
  try simp only [Act.put, List.setIfInBounds_toArray, List.set_cons_zero, List.set_cons_succ]
  refine rg_yes (i := 5) (v := ?_) (atS (atS (atS (atS (atS at0))))) (by kernel_rfl) (by kernel_rfl) (by kernel_rfl) (fun _ _ _ h => h) ?_ ?_ hHeld ?_; rotate_left 1; (· rfl); (· intro w' hSw; (try dsimp only at hSw); (try clear hHeld); go_simp; try with_reducible rfl)
  try simp only [Act.put, List.setIfInBounds_toArray, List.set_cons_zero, List.set_cons_succ]
  refine rg_yes (i := 6) (v := ?_) (atS (atS (atS (atS (atS (atS at0)))))) (by kernel_rfl) (by kernel_rfl) (by kernel_rfl) (fun _ _ _ h => h) ?_ ?_ hHeld ?_; rotate_left 1; (· rfl); (· intro w' hSw; (try dsimp only at hSw); have c0 := cell_below c0 hSw; have c1 := cell_below c1 hSw; have d0 := cell_below d0 hSw; have d1 := cell_below d1 hSw; (try clear hHeld); go_simp; try with_reducible rfl)
  try simp only [Act.put, List.setIfInBounds_toArray, List.set_cons_zero, List.set_cons_succ]
  refine rg_yes (i := 7) (v := ?_) (atS (atS (atS (atS (atS (atS (atS at0))))))) (by kernel_rfl) (by kernel_rfl) (by kernel_rfl) (fun _ _ _ h => h) ?_ ?_ hHeld ?_; rotate_left 1; (· rfl); (· intro w' hSw; (try dsimp only at hSw); (try clear hHeld); go_simp; try with_reducible rfl)
  try simp only [Act.put, List.setIfInBounds_toArray, List.set_cons_zero, List.set_cons_succ]
  refine rg_yes (i := 8) (v := ?_) (atS (atS (atS (atS (atS (atS (atS (atS at0)))))))) (by kernel_rfl) (by kernel_rfl) (by kernel_rfl) (fun _ _ _ h => h) ?_ ?_ hHeld ?_; rotate_left 1; (· rfl); (· intro w' hSw; (try dsimp only at hSw); have c0 := cell_below c0 hSw; have c1 := cell_below c1 hSw; have d0 := cell_below d0 hSw; have d1 := cell_below d1 hSw; (try clear hHeld); go_simp; try with_reducible rfl)
  try simp only [Act.put, List.setIfInBounds_toArray, List.set_cons_zero, List.set_cons_succ]
  refine rg_call (i := 4) (atS (atS (atS (atS at0)))) (by kernel_rfl) ?_ (fun K hK => ?_); (· rfl); (try clear hb); go_simp; (refine (calls_below (cmp_CompareAddr a b _)).mono ?_; rintro e w1 ⟨rfl, hb⟩); go_wp2_with fail; refine hK.out _ _ ?_ (fun hHeld => ?_); (· first | exact hHeld.trans (hb.mono hHeld.size) | exact hHeld.alloc hHeld.size _); clear hK K
  try simp only [Act.put, List.setIfInBounds_toArray, List.set_cons_zero, List.set_cons_succ]
  refine rg_call (i := 9) (atS (atS (atS (atS (atS (atS (atS (atS (atS at0))))))))) (by kernel_rfl) ?_ (fun K hK => ?_); (· rfl); (try clear hb); go_simp; (refine (calls_below (cmp_CompareInt n m _)).mono ?_; rintro e w1 ⟨rfl, hb⟩); go_wp2_with fail; refine hK.out _ _ ?_ (fun hHeld => ?_); (· first | exact hHeld.trans (hb.mono hHeld.size) | exact hHeld.alloc hHeld.size _); clear hK K
  try simp only [Act.put, List.setIfInBounds_toArray, List.set_cons_zero, List.set_cons_succ]
  refine rg_call (i := 10) (atS (atS (atS (atS (atS (atS (atS (atS (atS (atS at0)))))))))) (by kernel_rfl) ?_ (fun K hK => ?_); (· rfl); (try clear hb); go_simp; go_wp2_with fail; refine hK.out _ _ ?_ (fun hHeld => ?_); (· first | exact hHeld.trans (hb.mono hHeld.size) | exact hHeld.alloc hHeld.size _); clear hK K
  try simp only [Act.put, List.setIfInBounds_toArray, List.set_cons_zero, List.set_cons_succ]
  refine rg_call (i := 11) (atS (atS (atS (atS (atS (atS (atS (atS (atS (atS (atS at0))))))))))) (by kernel_rfl) ?_ (fun K hK => ?_); (· rfl); (try clear hb); go_simp; (refine (calls_below (cmp_OrInt2 _ 2 (cmpI a b) (cmpI n m) _ (by simp) (by simp))).mono ?_; rintro e w1 ⟨rfl, hb⟩); go_wp2_with fail; refine hK.out _ _ ?_ (fun hHeld => ?_); (· first | exact hHeld.trans (hb.mono hHeld.size) | exact hHeld.alloc hHeld.size _); clear hK K
  try simp only [Act.put, List.setIfInBounds_toArray, List.set_cons_zero, List.set_cons_succ]
  refine rg_yes (i := 12) (v := ?_) (atS (atS (atS (atS (atS (atS (atS (atS (atS (atS (atS (atS at0)))))))))))) (by kernel_rfl) (by kernel_rfl) (by kernel_rfl) (fun _ _ _ h => h) ?_ ?_ hHeld ?_; rotate_left 1; (· rfl); (· intro w' hSw; (try dsimp only at hSw); (try clear hHeld); go_simp; try with_reducible rfl)
  try simp only [Act.put, List.setIfInBounds_toArray, List.set_cons_zero, List.set_cons_succ]
  refine wpAnyH_done (by kernel_rfl) ?_ _
  have hB' := below_on hB hHeld
  clear hHeld hb
  go_wp2
  go_ret
  exact ⟨ret_int rfl, hB'⟩

set_option maxHeartbeats 400000 in
theorem ip_Half_bad (a n t : Int) (w : World) (h0 : 0 ≤ a) (h : a < 4294967296) (hbad : rightB a n = false ∨ (n == 32) = true) :
    Calls Try.prog 83 #[.agg #[.int .u32 a, .int .i64 n], .int .i64 t] w fun e w' => e = .returned (.tuple #[.agg #[.int .u32 0, .int .i64 0], .int .i64 1]) ∧ Below w.heap.size w w' := by
  cases hR : rightB a n
  all_goals
    try (have h32 : (n == 32) = true := by simpa [hR] using hbad)
    clear hbad
    go_enter Try.func83, Try.ntmps83
    go_wp2_with fail
    obtain ⟨W0, hW0, c0, c1, r0, r1, hB⟩ := box22 w (.int .u32 a) (.int .i64 n) (.int .u32 0) (.int .i64 0) 29 29
    have f0 : W0.frozen? ⟨w.heap.size + 1, 0, none⟩ = false := by rw [hW0]; simp
    have f1 : W0.frozen? ⟨w.heap.size + 1, 1, none⟩ = false := by rw [hW0]; simp
    rw [← hW0]; clear hW0
    go_wp2_with (go_at_call 55; refine (ip_Check _ _ _ h0 h).mono ?_; rintro e w1 ⟨rfl, hb⟩; have c0 := cell_below c0 hb; have c1 := cell_below c1 hb; have f0 := frozen_below (size_lt r0) f0 hb; have f1 := frozen_below (size_lt r1) f1 hb; have r0 := cell_below r0 hb; have r1 := cell_below r1 hb; have hB := below_on hB hb; clear hb)
    refine bodyPost_ret (v := .tuple #[.agg #[.int .u32 0, .int .i64 0], .int .i64 1]) (by simp [results, Try.results83, go_sem, r0, r1]) rfl ⟨rfl, ?_⟩
    exact (hB.setCell (by simp) _).setCell (by simp) _

set_option maxHeartbeats 400000 in
theorem ip_Half_zero (a n : Int) (w : World) (h0 : 0 ≤ a) (h : a < 4294967296) (hR : rightB a n = true) (hn : (n == 32) = false) (hn0 : 0 ≤ n) (hn1 : n ≤ 32) :
    Calls Try.prog 83 #[.agg #[.int .u32 a, .int .i64 n], .int .i64 0] w fun e w' => e = .returned (.tuple #[.agg #[.int .u32 a, .int .i64 (n + 1)], .int .i64 0]) ∧ Below w.heap.size w w' := by
  go_enter Try.func83, Try.ntmps83
  go_wp2_with fail
  obtain ⟨W0, hW0, c0, c1, r0, r1, hB⟩ := box22 w (.int .u32 a) (.int .i64 n) (.int .u32 0) (.int .i64 0) 29 29
  have f0 : W0.frozen? ⟨w.heap.size + 1, 0, none⟩ = false := by rw [hW0]; simp
  have f1 : W0.frozen? ⟨w.heap.size + 1, 1, none⟩ = false := by rw [hW0]; simp
  rw [← hW0]; clear hW0
  go_wp2_with (go_at_call 55; refine (ip_Check _ _ _ h0 h).mono ?_; rintro e w1 ⟨rfl, hb⟩; have c0 := cell_below c0 hb; have c1 := cell_below c1 hb; have f0 := frozen_below (size_lt r0) f0 hb; have f1 := frozen_below (size_lt r1) f1 hb; have hz := size_lt (cell_below r0 hb); have r0 := cell_below r0 hb; have r1 := cell_below r1 hb; have hB := below_on hB hb; clear hb)
  refine bodyPost_ret (v := .tuple #[.agg #[.int .u32 a, .int .i64 (n + 1)], .int .i64 0]) (by simp [results, Try.results83, go_sem, r0, r1, hz]) rfl ⟨rfl, ?_⟩
  exact ((hB.setCell (by simp) _).setCell (by simp) _).alloc (by simp; omega) _

set_option maxHeartbeats 400000 in
theorem ip_Half_one (a n t : Int) (w : World) (h0 : 0 ≤ a) (h : a < 4294967296) (hR : rightB a n = true) (hn : (n == 32) = false) (hn0 : 0 ≤ n) (hn1 : n ≤ 31) (ht : (t != 0) = true) :
    Calls Try.prog 83 #[.agg #[.int .u32 a, .int .i64 n], .int .i64 t] w fun e w' => e = .returned (.tuple #[.agg #[.int .u32 (bits .or .u32 a (2 ^ (31 - n).toNat % 4294967296)), .int .i64 (n + 1)], .int .i64 0]) ∧ Below w.heap.size w w' := by
  go_enter Try.func83, Try.ntmps83
  go_wp2_with fail
  obtain ⟨W0, hW0, c0, c1, r0, r1, hB⟩ := box22 w (.int .u32 a) (.int .i64 n) (.int .u32 0) (.int .i64 0) 29 29
  have f0 : W0.frozen? ⟨w.heap.size + 1, 0, none⟩ = false := by rw [hW0]; simp
  have f1 : W0.frozen? ⟨w.heap.size + 1, 1, none⟩ = false := by rw [hW0]; simp
  rw [← hW0]; clear hW0
  go_wp2_with (go_at_call 55; refine (ip_Check _ _ _ h0 h).mono ?_; rintro e w1 ⟨rfl, hb⟩; have c0 := cell_below c0 hb; have c1 := cell_below c1 hb; have f0 := frozen_below (size_lt r0) f0 hb; have f1 := frozen_below (size_lt r1) f1 hb; have hz := size_lt (cell_below r0 hb); have r0 := cell_below r0 hb; have r1 := cell_below r1 hb; have hB := below_on hB hb; clear hb)
  obtain ⟨W2, hW2, e0, e1, hb2⟩ := box2 w1 (.int .u32 a) (.int .i64 (n + 1)) 29
  have g0 : W2.frozen? ⟨w1.heap.size, 0, none⟩ = false := by rw [hW2]; simp
  rw [← hW2]; clear hW2
  have c1 := cell_below c1 hb2
  have f0 := frozen_below (size_lt r0) f0 hb2
  have f1 := frozen_below (size_lt r1) f1 hb2
  have r0 := cell_below r0 hb2
  have r1 := cell_below r1 hb2
  have hB := below_on hB hb2
  have hne : ¬ w.heap.size + 1 = w1.heap.size := by omega
  have hne' : ¬ w1.heap.size = w.heap.size + 1 := by omega
  clear hb2
  go_region
  go_wp2
  refine bodyPost_ret (v := .tuple #[.agg #[.int .u32 (bits .or .u32 a (2 ^ (31 - n).toNat % 4294967296)), .int .i64 (n + 1)], .int .i64 0]) (by simp [results, Try.results83, go_sem, r0, r1]) rfl ⟨rfl, ?_⟩
  exact (((hB.setCell (by simp; omega) _).setCell (by simp) _).setCell (by simp) _).drew

theorem ip_Half (a n t : Int) (w : World) (h0 : 0 ≤ a) (h : a < 4294967296) (hR : rightB a n = true) (hn : n < 32) :
    Calls Try.prog 83 #[.agg #[.int .u32 a, .int .i64 n], .int .i64 t] w fun e w' => e = .returned (.tuple #[.agg #[.int .u32 (halfI a n t), .int .i64 (n + 1)], .int .i64 0]) ∧ Below w.heap.size w w' := by
  have hr := rightB_range hR
  have hn' : (n == 32) = false := by simp; omega
  by_cases ht : t = 0
  · subst ht
    exact ip_Half_zero a n w h0 h hR hn' hr.1 hr.2
  · rw [halfI_1 a n t ht, ← or_half a n h0 h hR hn]
    exact ip_Half_one a n t w h0 h hR hn' hr.1 (by omega) (by simpa using ht)
end Go.Proofs.Ytadlecnlgkhneaa

/-
  A TRIE OF ATTRIBUTES: New, Len, find.
-/
namespace Go.Proofs.Ytadlecnlgkhneaa
open Go.RowKit

abbrev TrI := TrieAt 112 122 av0
theorem below_drewN {B : Nat} {a w : World} (h : Below B a w) (n : Nat) : Below B a (w.drewN n) := h.trans ⟨rfl, rfl, rfl, Nat.le_refl _, fun _ _ => rfl⟩
theorem trI_made (w : World) (most : Int) : TrI (w.alloc (.cells #[.pointer none, .int .i64 most, .int .i64 0] 112)) w.heap.size (fun _ => none) [] most :=
  ⟨heap_alloc_new w _, fun _ _ h => (by cases h), fun _ _ _ h => (by cases h), fun _ h => (by cases h), fun _ _ h => (by cases h), rfl, fun _ h => absurd h (by simp), fun _ _ => rfl, by simp [KeysApart]⟩

set_option maxHeartbeats 400000 in
theorem trI_New (n : Int) (w : World) : Calls Try.prog 24 #[.int .i64 n] w fun e w' => e = .returned (.pointer (some ⟨w.heap.size, 0, none⟩)) ∧ TrI w' w.heap.size (fun _ => none) [] (min (max n 0) 4096) ∧ Below w.heap.size w w' := by
  have E : Hid (∀ m, m = min (max n 0) 4096 → TrI (w.alloc (.cells #[.pointer none, .int .i64 m, .int .i64 0] 112)) w.heap.size (fun _ => none) [] (min (max n 0) 4096)) := Lib.hid fun m hm => by rw [← hm]; exact trI_made w m
  go_enter Try.func24, Try.ntmps24
  go_wp2_with fail
  all_goals
    go_ret
    exact ⟨rfl, E.out _ (by omega), (Below.refl _ _).alloc (Nat.le_refl _) _⟩

set_option maxHeartbeats 400000 in
theorem trI_Len {tb : Nat} {N : Nat → Option Nat} {S : List (Nat × AV)} {most : Int} {w : World} (h : TrI w tb N S most) : Calls Try.prog 29 #[.pointer (some ⟨tb, 0, none⟩)] w fun e w' => e = .returned (.int .i64 S.length) ∧ w = w' := by
  obtain ⟨c0, c1, c2⟩ := h.cells
  clear h
  go_enter Try.func29, Try.ntmps29
  go_wp2_with fail
  go_ret
  exact ⟨rfl, rfl⟩
set_option maxHeartbeats 400000 in
theorem trI_Len_nil (w : World) : Calls Try.prog 29 #[.pointer none] w fun e w' => e = .returned (.int .i64 0) ∧ w = w' := by
  go_enter Try.func29, Try.ntmps29
  go_wp2_with fail
  go_ret
  exact ⟨rfl, rfl⟩

set_option maxHeartbeats 400000 in
theorem trI_find_nil (a n : Int) (w : World) : Calls Try.prog 59 #[.pointer none, .agg #[.int .u32 a, .int .i64 n]] w fun e w' => e = .returned (.pointer none) ∧ Below w.heap.size w w' := by
  go_enter Try.func59, Try.ntmps59
  go_wp2_with fail
  go_ret
  exact ⟨rfl, (Below.refl _ _).alloc (Nat.le_refl _) _⟩
set_option maxHeartbeats 400000 in
theorem trI_find_no (p : Addr) (a n : Int) (w : World) (h0 : 0 ≤ a) (h : a < 4294967296) (hR : rightB a n = false) : Calls Try.prog 59 #[.pointer (some p), .agg #[.int .u32 a, .int .i64 n]] w fun e w' => e = .returned (.pointer none) ∧ Below w.heap.size w w' := by
  go_enter Try.func59, Try.ntmps59
  go_wp2_with fail
  obtain ⟨W0, hW0, c0, c1, hB⟩ := box2 w (.int .u32 a) (.int .i64 n) 29
  rw [← hW0]; clear hW0
  refine (ip_Check a n W0 h0 h).mono ?_
  rintro e w1 ⟨rfl, hb⟩
  have hB := below_on hB hb
  rw [hR]
  go_wp2_with fail
  go_ret
  exact ⟨rfl, hB⟩
theorem bit_q (a i : Nat) (ha : a < 4294967296) (hi : i < 32) (w : World) : Calls Try.prog 60 #[.int .u32 a, .int .i64 i] w fun e w' => e = .returned (.int .i64 (a / 2 ^ (31 - i) % 2 : Nat)) ∧ w' = w := by
  refine (ip_Bit a i w (by omega) (by omega)).mono ?_
  rintro e w' ⟨rfl, rfl⟩
  rw [bit_key a i hi]
  exact ⟨rfl, rfl⟩

set_option maxHeartbeats 1600000 in
set_option maxRecDepth 100000 in
theorem trI_find {tb : Nat} {N : Nat → Option Nat} {S : List (Nat × AV)} {most : Int} (a n : Nat) (w : World) (h : TrI w tb N S most) (ha : a < 4294967296) (hR : rightB a n = true) :
    Calls Try.prog 59 #[.pointer (some ⟨tb, 0, none⟩), .agg #[.int .u32 a, .int .i64 n]] w fun e w' => e = .returned (ptrN (N (keyN a n))) ∧ Below w.heap.size w w' := by
  have hn : n ≤ 32 := by have := (rightB_range hR).2; omega
  have CK := ip_Check a n (h0 := by omega) (h := by omega)
  have H := Lib.hid h
  have K0 := Lib.hid (keyN_0 a ha)
  clear h
  go_enter Try.func59, Try.ntmps59
  go_wp2_with fail
  obtain ⟨W0, hW0, c0, c1, hB⟩ := box2 w (.int .u32 a) (.int .i64 n) 29
  rw [← hW0]; clear hW0
  refine (CK W0).mono ?_
  rintro e w1 ⟨rfl, hb⟩
  have c0 := cell_below c0 hb
  have c1 := cell_below c1 hb
  have hB := below_on hB hb
  have H1 := Lib.hid (H.out.below hB)
  have t0 := H1.out.cells.1
  clear hb CK
  rw [hR]
  go_wp2_with fail
  clear t0
  go_loopw [5, 6] (fun x i wr => ∃ k : Nat, k ≤ n ∧ i = .int .i64 k ∧ x = ptrN (N (keyN a k)) ∧ Below w1.heap.size w1 wr) (fun _ i _ => n - (intOf i).toNat)
  case atStart => exact ⟨0, by omega, rfl, by rw [K0.out], Below.refl _ _⟩
  case round =>
    obtain ⟨k, hk, rfl, rfl, hbr⟩ := hrel
    have c0 := cell_below c0 hbr
    have c1 := cell_below c1 hbr
    have hBr := below_on hB hbr
    have Hr := Lib.hid (H1.out.below hbr)
    by_cases hlt : k < n
    · cases hx : N (keyN a k) with
      | none =>
        have E : Hid (N (keyN a n) = none) := Lib.hid (by
          have aux : ∀ d, k + d ≤ n → N (keyN a (k + d)) = none := by
            intro d
            induction d with
            | zero => intro _; exact hx
            | succ d ih =>
              intro hd
              have h1 := ih (by omega)
              rw [show k + (d + 1) = (k + d) + 1 by omega, keyN_succ a (k + d) (by omega)]
              obtain ⟨u1, u2⟩ := Hr.out.up_none h1 (keyN_pos a _)
              rcases Nat.mod_two_eq_zero_or_one (a / 2 ^ (31 - (k + d))) with m | m
              · rw [m]; exact u1
              · rw [m]; exact u2
          have := aux (n - k) (by omega)
          rwa [show k + (n - k) = n by omega] at this)
        clear hx
        go_wp2_with fail
        go_ret
        exact ⟨by rw [E.out]; rfl, hBr⟩
      | some b =>
        obtain ⟨d0, d1, _⟩ := Hr.out.ncells hx
        have hbit := Nat.mod_two_eq_zero_or_one (a / 2 ^ (31 - k))
        have KS := keyN_succ a k (by omega)
        have BQ := fun W => bit_q a k ha (by omega) W
        clear hx
        rw [ptrN_some]
        rcases hbit with m | m
        · rw [m] at KS BQ
          have KS := Lib.hid KS
          have BQ := Lib.hid BQ
          clear m
          go_wp2_with fail
          go_quiet ((go_at_call 60; exact Calls.quiet_of_same (BQ.out _)))
          go_wp2_with fail
          exact ⟨⟨k + 1, by omega, by go_num, by rw [KS.out]; rfl, below_drewN hbr _⟩, by simp [intOf]; omega⟩
        · rw [m] at KS BQ
          have KS := Lib.hid KS
          have BQ := Lib.hid BQ
          clear m
          go_wp2_with fail
          go_quiet ((go_at_call 60; exact Calls.quiet_of_same (BQ.out _)))
          go_wp2_with fail
          exact ⟨⟨k + 1, by omega, by go_num, by rw [KS.out], below_drewN hbr _⟩, by simp [intOf]; omega⟩
    · obtain rfl : k = n := by omega
      go_wp2_with fail
      go_ret
      exact ⟨rfl, hBr⟩
end Go.Proofs.Ytadlecnlgkhneaa

/-
  A TRIE OF ATTRIBUTES: reach.
-/
namespace Go.Proofs.Ytadlecnlgkhneaa
open Go.RowKit

/-- more nodes, all of them new. -/
def TExt (N N' : Nat → Option Nat) (B : Nat) : Prop := (∀ k b, N k = some b → N' k = some b) ∧ ∀ k b, N' k = some b → N k = some b ∨ B ≤ b
theorem TExt.refl (N : Nat → Option Nat) (B : Nat) : TExt N N B := ⟨fun _ _ h => h, fun _ _ h => .inl h⟩
theorem TExt.upd {N N' : Nat → Option Nat} {B κ nb : Nat} (h : TExt N N' B) (hn : N' κ = none) (hB : B ≤ nb) : TExt N (updN N' κ (some nb)) B := by
  refine ⟨fun k b hk => ?_, fun k b hk => ?_⟩
  · have h1 := h.1 k b hk
    rw [updN_ne _ _ (fun e => by rw [e, hn] at h1; cases h1)]
    exact h1
  · by_cases e : k = κ
    · subst e
      rw [updN_same] at hk
      cases hk
      exact .inr hB
    · rw [updN_ne _ _ e] at hk
      exact h.2 k b hk
theorem Kept.put {F : Nat → Prop} {w w1 : World} (h : Kept F w w1) (p : Addr) (v : Value) (hF : F p.block ∨ w.heap.size ≤ p.block) : Kept F w (w1.setCell p v) := by
  refine ⟨h.os, h.tape, h.output, by simpa [World.setCell] using h.size, fun k hk hf => ?_⟩
  rw [Deep.blk_setCell_other w1 p v k (fun e => by
    subst e
    rcases hF with hF | hF
    · exact hf hF
    · omega)]
  exact h.block k hk hf
theorem Kept.grow {F : Nat → Prop} {w w1 w2 : World} (h : Kept F w w1) (hb : Below w1.heap.size w1 w2) : Kept F w w2 := h.trans (Kept.of_below hb)
theorem slot_own {tb : Nat} {N N' : Nat → Option Nat} {B κ : Nat} {ad : Addr} (hs : SlotAt tb N' κ ad) (hx : TExt N N' B) : TOwn tb N ad.block ∨ B ≤ ad.block := by
  rcases hs with ⟨_, rfl⟩ | ⟨_, b, hb, rfl⟩
  · exact .inl (.inl rfl)
  · rcases hx.2 _ _ hb with h | h
    · exact .inl (.inr ⟨_, h⟩)
    · exact .inr h
def ReachPost (tb : Nat) (N : Nat → Option Nat) (S : List (Nat × AV)) (most : Int) (w : World) (κ : Nat) (e : Ending) (w' : World) : Prop :=
  ∃ N' b, e = .returned (.pointer (some ⟨b, 0, none⟩)) ∧ N' κ = some b ∧ TrI w' tb N' S most ∧ TExt N N' w.heap.size ∧ Kept (TOwn tb N) w w'
theorem hang_node {tb : Nat} {N : Nat → Option Nat} {S : List (Nat × AV)} {most : Int} {W : World} (h : TrI W tb N S most) {κ : Nat} {ad : Addr} (hs : SlotAt tb N κ ad) (hn : N κ = none) (h1 : 1 ≤ κ) (hd : κ < 2 ^ 33) :
    TrI ((W.alloc (.cells #[.pointer none, .pointer none, .bool false, .int .i64 0, .int .i64 0, .slice none 0 0, .int .u32 0, .int .i64 0, .int .i64 0, .int .i64 0, .int .u32 0, .slice none 0 0, .slice none 0 0] 122)).setCell ad (.pointer (some ⟨W.heap.size, 0, none⟩))) tb (updN N κ (some W.heap.size)) S most :=
  h.hang (o := some W.heap.size) ((Below.refl _ _).alloc (Nat.le_refl _) _) hs h1 hd (.inl hn) (h.none_of hn) (h.up_none hn h1).1 (h.up_none hn h1).2 (fun nb e => by
    cases e; exact ⟨Nat.le_refl _, heap_alloc_new W _⟩)
theorem slot_next {tb : Nat} {N : Nat → Option Nat} {a k b d : Nat} (hk : k < 32) (hb : N (keyN a k) = some b) (hd : a / 2 ^ (31 - k) % 2 = d) : SlotAt tb N (keyN a (k + 1)) ⟨b, d, none⟩ :=
  .inr ⟨keyN_two a k, b, by rw [keyN_half a k hk]; exact hb, by rw [keyN_mod a k hk, hd]⟩

set_option maxHeartbeats 3200000 in
set_option maxRecDepth 100000 in
theorem trI_reach {tb : Nat} {N : Nat → Option Nat} {S : List (Nat × AV)} {most : Int} (a n : Nat) (w : World) (h : TrI w tb N S most) (ha : a < 4294967296) (hn : n ≤ 32) :
    Calls Try.prog 61 #[.pointer (some ⟨tb, 0, none⟩), .agg #[.int .u32 a, .int .i64 n]] w (ReachPost tb N S most w (keyN a n)) := by
  have H := Lib.hid h
  have K0 := Lib.hid (keyN_0 a ha)
  clear h
  go_enter Try.func61, Try.ntmps61
  go_wp2_with fail
  obtain ⟨W0, hW0, c0, c1, hB⟩ := box2 w (.int .u32 a) (.int .i64 n) 29
  rw [← hW0]; clear hW0
  have H1 := Lib.hid (H.out.below hB)
  have nf : Hid (¬ TOwn tb N w.heap.size) := Lib.hid fun ho => by have := H.out.own_lt ho; omega
  go_loopw [5, 6] (fun x i wr => ∃ (k : Nat) (N' : Nat → Option Nat) (ad : Addr), k ≤ n ∧ i = .int .i64 k ∧ x = .pointer (some ad) ∧ Hid (SlotAt tb N' (keyN a k) ad ∧ TrI wr tb N' S most ∧ TExt N N' W0.heap.size ∧ Kept (TOwn tb N) W0 wr)) (fun _ i _ => n - (intOf i).toNat)
  case atStart => exact ⟨0, N, ⟨tb, 0, none⟩, by omega, rfl, rfl, Lib.hid ⟨.inl ⟨K0.out, rfl⟩, H1.out, TExt.refl _ _, Kept.refl _ _⟩⟩
  case round =>
    obtain ⟨k, N', ad, hk, rfl, rfl, C⟩ := hrel
    have c0 := C.out.2.2.2.cell c0 nf.out
    have c1 := C.out.2.2.2.cell c1 nf.out
    obtain ⟨ac, af⟩ := C.out.1.cell C.out.2.1
    have BQ := Lib.hid (fun W (h32 : k < 32) => bit_q a k ha h32 W)
    cases hx : N' (keyN a k) with
    | none =>
      rw [hx] at ac
      have ac : wr.cell? ad = some (.pointer none) := ac
      have hal : Below wr.heap.size wr (wr.alloc (.cells #[.pointer none, .pointer none, .bool false, .int .i64 0, .int .i64 0, .slice none 0 0, .int .u32 0, .int .i64 0, .int .i64 0, .int .i64 0, .int .u32 0, .slice none 0 0, .slice none 0 0] 122)) := (Below.refl _ _).alloc (Nat.le_refl _) _
      have ac' := cell_below ac hal
      have af' := frozen_below (World.block_lt_of_cell? wr ad ac) af hal
      go_upto_region 6 with (fail)
      obtain ⟨W2, hW2⟩ : ∃ W2, W2 = (wr.alloc (.cells #[.pointer none, .pointer none, .bool false, .int .i64 0, .int .i64 0, .slice none 0 0, .int .u32 0, .int .i64 0, .int .i64 0, .int .i64 0, .int .u32 0, .slice none 0 0, .slice none 0 0] 122)).setCell ad (.pointer (some ⟨wr.heap.size, 0, none⟩)) := ⟨_, rfl⟩
      have T2 : TrI W2 tb (updN N' (keyN a k) (some wr.heap.size)) S most := by rw [hW2]; exact hang_node C.out.2.1 C.out.1 hx (keyN_pos _ _) (keyN_deep a k ha (by omega))
      have K2 : Kept (TOwn tb N) W0 W2 := by
        rw [hW2]
        exact (C.out.2.2.2.grow ((Below.refl _ _).alloc (Nat.le_refl _) _)).put _ _ (slot_own C.out.1 C.out.2.2.1)
      have X2 : TExt N (updN N' (keyN a k) (some wr.heap.size)) W0.heap.size := C.out.2.2.1.upd hx C.out.2.2.2.size
      have S2 : SlotAt tb (updN N' (keyN a k) (some wr.heap.size)) (keyN a k) ad := by
        rcases C.out.1 with ⟨e, rfl⟩ | ⟨e, b', hb', rfl⟩
        · exact .inl ⟨e, rfl⟩
        · exact .inr ⟨e, b', by rw [updN_ne _ _ (by omega)]; exact hb', rfl⟩
      have ac2 := (S2.cell T2).1
      rw [updN_same] at ac2
      have hb2 := updN_same N' (keyN a k) (some wr.heap.size)
      have C2 := Lib.hid (And.intro T2 (And.intro X2 K2))
      rw [← hW2]
      generalize updN N' (keyN a k) (some wr.heap.size) = Nv at C2 hb2
      clear hW2 T2 K2 X2 S2 ac af ac' af' hal c0 c1
      have c0 := C2.out.2.2.cell ‹W0.cell? ⟨w.heap.size, 0, none⟩ = _› nf.out
      have c1 := C2.out.2.2.cell ‹W0.cell? ⟨w.heap.size, 1, none⟩ = _› nf.out
      generalize wr.heap.size = b at ac2 hb2 ⊢
      rw [ptrN_some] at ac2
      by_cases hlt : k < n
      · have z1 : ((k : Int) == (n : Int)) = false := by rw [beq_eq_false_iff_ne]; omega
        obtain ⟨d0, d1, _⟩ := C2.out.1.ncells hb2
        have HB2 := Lib.hid hb2
        clear hb2
        rcases Nat.mod_two_eq_zero_or_one (a / 2 ^ (31 - k)) with m | m
        · have BQ' := Lib.hid (fun W => BQ.out W (by omega))
          rw [m] at BQ'
          have M := Lib.hid m
          clear m
          go_wp2_with fail
          go_quiet ((go_at_call 60; exact Calls.quiet_of_same (BQ'.out _)))
          go_wp2_with fail
          exact ⟨⟨k + 1, Nv, ⟨b, 0, none⟩, by omega, by go_num, rfl, Lib.hid ⟨slot_next (by omega) HB2.out M.out, C2.out.1.below (below_drewN (Below.refl _ _) _), C2.out.2.1, C2.out.2.2.grow (below_drewN (Below.refl _ _) _)⟩⟩, by simp [intOf]; omega⟩
        · have BQ' := Lib.hid (fun W => BQ.out W (by omega))
          rw [m] at BQ'
          have M := Lib.hid m
          clear m
          go_wp2_with fail
          go_quiet ((go_at_call 60; exact Calls.quiet_of_same (BQ'.out _)))
          go_wp2_with fail
          exact ⟨⟨k + 1, Nv, ⟨b, 1, none⟩, by omega, by go_num, rfl, Lib.hid ⟨slot_next (by omega) HB2.out M.out, C2.out.1.below (below_drewN (Below.refl _ _) _), C2.out.2.1, C2.out.2.2.grow (below_drewN (Below.refl _ _) _)⟩⟩, by simp [intOf]; omega⟩
      · obtain rfl : k = n := by omega
        have HB2 := Lib.hid hb2
        clear hb2
        go_wp2_with fail
        go_ret
        exact ⟨Nv, b, rfl, HB2.out, C2.out.1, ⟨C2.out.2.1.1, fun k' b' hk' => (C2.out.2.1.2 k' b' hk').imp_right (fun h => by have := hB.size; omega)⟩, (Kept.of_below hB).trans C2.out.2.2⟩
    | some b =>
      rw [hx] at ac
      have C2 := Lib.hid (And.intro C.out.2.1 (And.intro C.out.2.2.1 C.out.2.2.2))
      have hb2 := hx
      have ac2 := ac
      clear hx ac
      obtain ⟨W2, hW2⟩ : ∃ W2, W2 = wr := ⟨_, rfl⟩
      obtain ⟨Nv, hNv⟩ : ∃ Nv, Nv = N' := ⟨_, rfl⟩
      subst hW2 hNv
      rw [ptrN_some] at ac2
      by_cases hlt : k < n
      · have z1 : ((k : Int) == (n : Int)) = false := by rw [beq_eq_false_iff_ne]; omega
        obtain ⟨d0, d1, _⟩ := C2.out.1.ncells hb2
        have HB2 := Lib.hid hb2
        clear hb2
        rcases Nat.mod_two_eq_zero_or_one (a / 2 ^ (31 - k)) with m | m
        · have BQ' := Lib.hid (fun W => BQ.out W (by omega))
          rw [m] at BQ'
          have M := Lib.hid m
          clear m
          go_wp2_with fail
          go_quiet ((go_at_call 60; exact Calls.quiet_of_same (BQ'.out _)))
          go_wp2_with fail
          exact ⟨⟨k + 1, Nv, ⟨b, 0, none⟩, by omega, by go_num, rfl, Lib.hid ⟨slot_next (by omega) HB2.out M.out, C2.out.1.below (below_drewN (Below.refl _ _) _), C2.out.2.1, C2.out.2.2.grow (below_drewN (Below.refl _ _) _)⟩⟩, by simp [intOf]; omega⟩
        · have BQ' := Lib.hid (fun W => BQ.out W (by omega))
          rw [m] at BQ'
          have M := Lib.hid m
          clear m
          go_wp2_with fail
          go_quiet ((go_at_call 60; exact Calls.quiet_of_same (BQ'.out _)))
          go_wp2_with fail
          exact ⟨⟨k + 1, Nv, ⟨b, 1, none⟩, by omega, by go_num, rfl, Lib.hid ⟨slot_next (by omega) HB2.out M.out, C2.out.1.below (below_drewN (Below.refl _ _) _), C2.out.2.1, C2.out.2.2.grow (below_drewN (Below.refl _ _) _)⟩⟩, by simp [intOf]; omega⟩
      · obtain rfl : k = n := by omega
        have HB2 := Lib.hid hb2
        clear hb2
        go_wp2_with fail
        go_ret
        exact ⟨Nv, b, rfl, HB2.out, C2.out.1, ⟨C2.out.2.1.1, fun k' b' hk' => (C2.out.2.1.2 k' b' hk').imp_right (fun h => by have := hB.size; omega)⟩, (Kept.of_below hB).trans C2.out.2.2⟩
end Go.Proofs.Ytadlecnlgkhneaa
