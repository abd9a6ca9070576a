/-
  HeadWidths: how many bits any field has, and the number whose lowest bits are 1, as many; for every number of a field. The condition: the table of widths is as the program's text lays it, which the card ties.
-/
import Derived.Test.YtbodkbaafaamlaaDoorWid
import Derived.Test.YtbodkbaafaamlaaDoorFrame
import Derived.Test.YtbodkbaafaamlaaDoorCards
import Derived.Test.YtbodkbaafaamlaaDoorTie
import Derived.Deep.DeepHandedRow
import Derived.LoopTactic
namespace Go.Proofs.YtbodkbaafaamlaaDoor
open Go.RowKit

def onesI (k : Nat) : Int := 2 ^ k - 1
set_option maxRecDepth 100000 in
set_option maxHeartbeats 3200000 in
theorem law_HeadWidths (f : Int) (w : World) (hT : Wid w) :
    Calls Tryd.prog 3 #[.int .i64 f] w fun e w' => e = .returned (.bool true) ∧ Below w.heap.size w w' := by
  have HT := Lib.hid hT
  clear hT
  have b1 : widthI 1 = 48 := by decide
  have b2 : fullI 0 = 255 := by decide
  have hs : ∀ k, onesI (k + 1) = 2 * onesI k + 1 := fun k => by unfold onesI; rw [Int.pow_succ]; omega
  have HS := Lib.hid hs; clear hs
  have hr : ∀ k, k ≤ 48 → 0 ≤ onesI k ∧ onesI k < 281474976710656 := fun k hk => by
    have h1 : (0 : Int) < 2 ^ k := Int.pow_pos (by decide)
    have h3 : 2 ^ k ≤ 2 ^ 48 := Nat.pow_le_pow_right (by decide) hk
    have h2 : ((2 : Int) ^ k) = ((2 ^ k : Nat) : Int) := by simp
    unfold onesI; omega
  have HR := Lib.hid hr; clear hr
  rcases field_cases f with h | h | rfl | rfl | rfl | rfl | rfl | rfl | rfl | rfl | rfl
  · have e1 : widthI f = 0 := by first | decide | exact widthI_out (by omega)
    have e2 : fullI f = onesI 0 := fullI_of e1
    have E1 := Lib.hid e1
    have E2 := Lib.hid e2
    clear e1 e2
    go_enter Tryd.func3, Tryd.ntmps3
    go_wp2_with (first | (go_at_call 9; refine (head_Width _ _ HT.out).mono ?_; rintro e w1 ⟨rfl, rfl⟩) | (go_at_call 10; refine (head_Full _ _ HT.out).mono ?_; rintro e w1 ⟨rfl, rfl⟩))
    clear b1 b2
    go_loop [5, 6] (fun x t => ∃ k : Nat, k ≤ 0 ∧ t = .int .i64 k ∧ x = .int .u64 (onesI k)) (fun _ t => 0 - (intOf t).toNat)
    case atStart => exact ⟨0, by omega, rfl, rfl⟩
    case round =>
      obtain ⟨k, hk, rfl, rfl⟩ := hrel
      have r1 := (HR.out k (by omega)).1
      have r2 := (HR.out k (by omega)).2
      by_cases hlt : k < 0
      · first | (exfalso; omega) | (go_wp2; exact ⟨⟨k + 1, by omega, by go_num, congrArg (Value.int .u64) (by first | (rw [HS.out]; done) | (rw [HS.out]; omega))⟩, by first | (simp [intOf]; done) | (simp [intOf]; omega)⟩)
      · obtain rfl : k = 0 := by omega
        have e1 := E1.out
        have e2 := E2.out
        have hT' : Wid (w.alloc (.cells #[.int .i64 8, .int .i64 48, .int .i64 48, .int .i64 16, .int .i64 32, .int .i64 32, .int .i64 8, .int .i64 16, .int .i64 16] 3)) := HT.out.below ((Below.refl _ _).alloc (Nat.le_refl _) _)
        have HT' := Lib.hid hT'
        clear hT'
        go_wp2_with (first | (go_at_call 9; refine (head_Width _ _ HT'.out).mono ?_; rintro e w1 ⟨rfl, rfl⟩) | (go_at_call 10; refine (head_Full _ _ HT'.out).mono ?_; rintro e w1 ⟨rfl, rfl⟩))
        go_ret
        exact ⟨ret_bool (by first | rfl | simp), (Below.refl _ _).alloc (Nat.le_refl _) _⟩
  · have e1 : widthI f = 0 := by first | decide | exact widthI_out (by omega)
    have e2 : fullI f = onesI 0 := fullI_of e1
    have E1 := Lib.hid e1
    have E2 := Lib.hid e2
    clear e1 e2
    go_enter Tryd.func3, Tryd.ntmps3
    go_wp2_with (first | (go_at_call 9; refine (head_Width _ _ HT.out).mono ?_; rintro e w1 ⟨rfl, rfl⟩) | (go_at_call 10; refine (head_Full _ _ HT.out).mono ?_; rintro e w1 ⟨rfl, rfl⟩))
    clear b1 b2
    go_loop [5, 6] (fun x t => ∃ k : Nat, k ≤ 0 ∧ t = .int .i64 k ∧ x = .int .u64 (onesI k)) (fun _ t => 0 - (intOf t).toNat)
    case atStart => exact ⟨0, by omega, rfl, rfl⟩
    case round =>
      obtain ⟨k, hk, rfl, rfl⟩ := hrel
      have r1 := (HR.out k (by omega)).1
      have r2 := (HR.out k (by omega)).2
      by_cases hlt : k < 0
      · first | (exfalso; omega) | (go_wp2; exact ⟨⟨k + 1, by omega, by go_num, congrArg (Value.int .u64) (by first | (rw [HS.out]; done) | (rw [HS.out]; omega))⟩, by first | (simp [intOf]; done) | (simp [intOf]; omega)⟩)
      · obtain rfl : k = 0 := by omega
        have e1 := E1.out
        have e2 := E2.out
        have hT' : Wid (w.alloc (.cells #[.int .i64 8, .int .i64 48, .int .i64 48, .int .i64 16, .int .i64 32, .int .i64 32, .int .i64 8, .int .i64 16, .int .i64 16] 3)) := HT.out.below ((Below.refl _ _).alloc (Nat.le_refl _) _)
        have HT' := Lib.hid hT'
        clear hT'
        go_wp2_with (first | (go_at_call 9; refine (head_Width _ _ HT'.out).mono ?_; rintro e w1 ⟨rfl, rfl⟩) | (go_at_call 10; refine (head_Full _ _ HT'.out).mono ?_; rintro e w1 ⟨rfl, rfl⟩))
        go_ret
        exact ⟨ret_bool (by first | rfl | simp), (Below.refl _ _).alloc (Nat.le_refl _) _⟩
  · have e1 : widthI 0 = 8 := by first | decide | exact widthI_out (by omega)
    have e2 : fullI 0 = onesI 8 := fullI_of e1
    have E1 := Lib.hid e1
    have E2 := Lib.hid e2
    clear e1 e2
    go_enter Tryd.func3, Tryd.ntmps3
    go_wp2_with (first | (go_at_call 9; refine (head_Width _ _ HT.out).mono ?_; rintro e w1 ⟨rfl, rfl⟩) | (go_at_call 10; refine (head_Full _ _ HT.out).mono ?_; rintro e w1 ⟨rfl, rfl⟩))
    clear b1 b2
    go_loop [5, 6] (fun x t => ∃ k : Nat, k ≤ 8 ∧ t = .int .i64 k ∧ x = .int .u64 (onesI k)) (fun _ t => 8 - (intOf t).toNat)
    case atStart => exact ⟨0, by omega, rfl, rfl⟩
    case round =>
      obtain ⟨k, hk, rfl, rfl⟩ := hrel
      have r1 := (HR.out k (by omega)).1
      have r2 := (HR.out k (by omega)).2
      by_cases hlt : k < 8
      · first | (exfalso; omega) | (go_wp2; exact ⟨⟨k + 1, by omega, by go_num, congrArg (Value.int .u64) (by first | (rw [HS.out]; done) | (rw [HS.out]; omega))⟩, by first | (simp [intOf]; done) | (simp [intOf]; omega)⟩)
      · obtain rfl : k = 8 := by omega
        have e1 := E1.out
        have e2 := E2.out
        have hT' : Wid (w.alloc (.cells #[.int .i64 8, .int .i64 48, .int .i64 48, .int .i64 16, .int .i64 32, .int .i64 32, .int .i64 8, .int .i64 16, .int .i64 16] 3)) := HT.out.below ((Below.refl _ _).alloc (Nat.le_refl _) _)
        have HT' := Lib.hid hT'
        clear hT'
        go_wp2_with (first | (go_at_call 9; refine (head_Width _ _ HT'.out).mono ?_; rintro e w1 ⟨rfl, rfl⟩) | (go_at_call 10; refine (head_Full _ _ HT'.out).mono ?_; rintro e w1 ⟨rfl, rfl⟩))
        go_ret
        exact ⟨ret_bool (by first | rfl | simp), (Below.refl _ _).alloc (Nat.le_refl _) _⟩
  · have e1 : widthI 1 = 48 := by first | decide | exact widthI_out (by omega)
    have e2 : fullI 1 = onesI 48 := fullI_of e1
    have E1 := Lib.hid e1
    have E2 := Lib.hid e2
    clear e1 e2
    go_enter Tryd.func3, Tryd.ntmps3
    go_wp2_with (first | (go_at_call 9; refine (head_Width _ _ HT.out).mono ?_; rintro e w1 ⟨rfl, rfl⟩) | (go_at_call 10; refine (head_Full _ _ HT.out).mono ?_; rintro e w1 ⟨rfl, rfl⟩))
    clear b1 b2
    go_loop [5, 6] (fun x t => ∃ k : Nat, k ≤ 48 ∧ t = .int .i64 k ∧ x = .int .u64 (onesI k)) (fun _ t => 48 - (intOf t).toNat)
    case atStart => exact ⟨0, by omega, rfl, rfl⟩
    case round =>
      obtain ⟨k, hk, rfl, rfl⟩ := hrel
      have r1 := (HR.out k (by omega)).1
      have r2 := (HR.out k (by omega)).2
      by_cases hlt : k < 48
      · first | (exfalso; omega) | (go_wp2; exact ⟨⟨k + 1, by omega, by go_num, congrArg (Value.int .u64) (by first | (rw [HS.out]; done) | (rw [HS.out]; omega))⟩, by first | (simp [intOf]; done) | (simp [intOf]; omega)⟩)
      · obtain rfl : k = 48 := by omega
        have e1 := E1.out
        have e2 := E2.out
        have hT' : Wid (w.alloc (.cells #[.int .i64 8, .int .i64 48, .int .i64 48, .int .i64 16, .int .i64 32, .int .i64 32, .int .i64 8, .int .i64 16, .int .i64 16] 3)) := HT.out.below ((Below.refl _ _).alloc (Nat.le_refl _) _)
        have HT' := Lib.hid hT'
        clear hT'
        go_wp2_with (first | (go_at_call 9; refine (head_Width _ _ HT'.out).mono ?_; rintro e w1 ⟨rfl, rfl⟩) | (go_at_call 10; refine (head_Full _ _ HT'.out).mono ?_; rintro e w1 ⟨rfl, rfl⟩))
        go_ret
        exact ⟨ret_bool (by first | rfl | simp), (Below.refl _ _).alloc (Nat.le_refl _) _⟩
  · have e1 : widthI 2 = 48 := by first | decide | exact widthI_out (by omega)
    have e2 : fullI 2 = onesI 48 := fullI_of e1
    have E1 := Lib.hid e1
    have E2 := Lib.hid e2
    clear e1 e2
    go_enter Tryd.func3, Tryd.ntmps3
    go_wp2_with (first | (go_at_call 9; refine (head_Width _ _ HT.out).mono ?_; rintro e w1 ⟨rfl, rfl⟩) | (go_at_call 10; refine (head_Full _ _ HT.out).mono ?_; rintro e w1 ⟨rfl, rfl⟩))
    clear b1 b2
    go_loop [5, 6] (fun x t => ∃ k : Nat, k ≤ 48 ∧ t = .int .i64 k ∧ x = .int .u64 (onesI k)) (fun _ t => 48 - (intOf t).toNat)
    case atStart => exact ⟨0, by omega, rfl, rfl⟩
    case round =>
      obtain ⟨k, hk, rfl, rfl⟩ := hrel
      have r1 := (HR.out k (by omega)).1
      have r2 := (HR.out k (by omega)).2
      by_cases hlt : k < 48
      · first | (exfalso; omega) | (go_wp2; exact ⟨⟨k + 1, by omega, by go_num, congrArg (Value.int .u64) (by first | (rw [HS.out]; done) | (rw [HS.out]; omega))⟩, by first | (simp [intOf]; done) | (simp [intOf]; omega)⟩)
      · obtain rfl : k = 48 := by omega
        have e1 := E1.out
        have e2 := E2.out
        have hT' : Wid (w.alloc (.cells #[.int .i64 8, .int .i64 48, .int .i64 48, .int .i64 16, .int .i64 32, .int .i64 32, .int .i64 8, .int .i64 16, .int .i64 16] 3)) := HT.out.below ((Below.refl _ _).alloc (Nat.le_refl _) _)
        have HT' := Lib.hid hT'
        clear hT'
        go_wp2_with (first | (go_at_call 9; refine (head_Width _ _ HT'.out).mono ?_; rintro e w1 ⟨rfl, rfl⟩) | (go_at_call 10; refine (head_Full _ _ HT'.out).mono ?_; rintro e w1 ⟨rfl, rfl⟩))
        go_ret
        exact ⟨ret_bool (by first | rfl | simp), (Below.refl _ _).alloc (Nat.le_refl _) _⟩
  · have e1 : widthI 3 = 16 := by first | decide | exact widthI_out (by omega)
    have e2 : fullI 3 = onesI 16 := fullI_of e1
    have E1 := Lib.hid e1
    have E2 := Lib.hid e2
    clear e1 e2
    go_enter Tryd.func3, Tryd.ntmps3
    go_wp2_with (first | (go_at_call 9; refine (head_Width _ _ HT.out).mono ?_; rintro e w1 ⟨rfl, rfl⟩) | (go_at_call 10; refine (head_Full _ _ HT.out).mono ?_; rintro e w1 ⟨rfl, rfl⟩))
    clear b1 b2
    go_loop [5, 6] (fun x t => ∃ k : Nat, k ≤ 16 ∧ t = .int .i64 k ∧ x = .int .u64 (onesI k)) (fun _ t => 16 - (intOf t).toNat)
    case atStart => exact ⟨0, by omega, rfl, rfl⟩
    case round =>
      obtain ⟨k, hk, rfl, rfl⟩ := hrel
      have r1 := (HR.out k (by omega)).1
      have r2 := (HR.out k (by omega)).2
      by_cases hlt : k < 16
      · first | (exfalso; omega) | (go_wp2; exact ⟨⟨k + 1, by omega, by go_num, congrArg (Value.int .u64) (by first | (rw [HS.out]; done) | (rw [HS.out]; omega))⟩, by first | (simp [intOf]; done) | (simp [intOf]; omega)⟩)
      · obtain rfl : k = 16 := by omega
        have e1 := E1.out
        have e2 := E2.out
        have hT' : Wid (w.alloc (.cells #[.int .i64 8, .int .i64 48, .int .i64 48, .int .i64 16, .int .i64 32, .int .i64 32, .int .i64 8, .int .i64 16, .int .i64 16] 3)) := HT.out.below ((Below.refl _ _).alloc (Nat.le_refl _) _)
        have HT' := Lib.hid hT'
        clear hT'
        go_wp2_with (first | (go_at_call 9; refine (head_Width _ _ HT'.out).mono ?_; rintro e w1 ⟨rfl, rfl⟩) | (go_at_call 10; refine (head_Full _ _ HT'.out).mono ?_; rintro e w1 ⟨rfl, rfl⟩))
        go_ret
        exact ⟨ret_bool (by first | rfl | simp), (Below.refl _ _).alloc (Nat.le_refl _) _⟩
  · have e1 : widthI 4 = 32 := by first | decide | exact widthI_out (by omega)
    have e2 : fullI 4 = onesI 32 := fullI_of e1
    have E1 := Lib.hid e1
    have E2 := Lib.hid e2
    clear e1 e2
    go_enter Tryd.func3, Tryd.ntmps3
    go_wp2_with (first | (go_at_call 9; refine (head_Width _ _ HT.out).mono ?_; rintro e w1 ⟨rfl, rfl⟩) | (go_at_call 10; refine (head_Full _ _ HT.out).mono ?_; rintro e w1 ⟨rfl, rfl⟩))
    clear b1 b2
    go_loop [5, 6] (fun x t => ∃ k : Nat, k ≤ 32 ∧ t = .int .i64 k ∧ x = .int .u64 (onesI k)) (fun _ t => 32 - (intOf t).toNat)
    case atStart => exact ⟨0, by omega, rfl, rfl⟩
    case round =>
      obtain ⟨k, hk, rfl, rfl⟩ := hrel
      have r1 := (HR.out k (by omega)).1
      have r2 := (HR.out k (by omega)).2
      by_cases hlt : k < 32
      · first | (exfalso; omega) | (go_wp2; exact ⟨⟨k + 1, by omega, by go_num, congrArg (Value.int .u64) (by first | (rw [HS.out]; done) | (rw [HS.out]; omega))⟩, by first | (simp [intOf]; done) | (simp [intOf]; omega)⟩)
      · obtain rfl : k = 32 := by omega
        have e1 := E1.out
        have e2 := E2.out
        have hT' : Wid (w.alloc (.cells #[.int .i64 8, .int .i64 48, .int .i64 48, .int .i64 16, .int .i64 32, .int .i64 32, .int .i64 8, .int .i64 16, .int .i64 16] 3)) := HT.out.below ((Below.refl _ _).alloc (Nat.le_refl _) _)
        have HT' := Lib.hid hT'
        clear hT'
        go_wp2_with (first | (go_at_call 9; refine (head_Width _ _ HT'.out).mono ?_; rintro e w1 ⟨rfl, rfl⟩) | (go_at_call 10; refine (head_Full _ _ HT'.out).mono ?_; rintro e w1 ⟨rfl, rfl⟩))
        go_ret
        exact ⟨ret_bool (by first | rfl | simp), (Below.refl _ _).alloc (Nat.le_refl _) _⟩
  · have e1 : widthI 5 = 32 := by first | decide | exact widthI_out (by omega)
    have e2 : fullI 5 = onesI 32 := fullI_of e1
    have E1 := Lib.hid e1
    have E2 := Lib.hid e2
    clear e1 e2
    go_enter Tryd.func3, Tryd.ntmps3
    go_wp2_with (first | (go_at_call 9; refine (head_Width _ _ HT.out).mono ?_; rintro e w1 ⟨rfl, rfl⟩) | (go_at_call 10; refine (head_Full _ _ HT.out).mono ?_; rintro e w1 ⟨rfl, rfl⟩))
    clear b1 b2
    go_loop [5, 6] (fun x t => ∃ k : Nat, k ≤ 32 ∧ t = .int .i64 k ∧ x = .int .u64 (onesI k)) (fun _ t => 32 - (intOf t).toNat)
    case atStart => exact ⟨0, by omega, rfl, rfl⟩
    case round =>
      obtain ⟨k, hk, rfl, rfl⟩ := hrel
      have r1 := (HR.out k (by omega)).1
      have r2 := (HR.out k (by omega)).2
      by_cases hlt : k < 32
      · first | (exfalso; omega) | (go_wp2; exact ⟨⟨k + 1, by omega, by go_num, congrArg (Value.int .u64) (by first | (rw [HS.out]; done) | (rw [HS.out]; omega))⟩, by first | (simp [intOf]; done) | (simp [intOf]; omega)⟩)
      · obtain rfl : k = 32 := by omega
        have e1 := E1.out
        have e2 := E2.out
        have hT' : Wid (w.alloc (.cells #[.int .i64 8, .int .i64 48, .int .i64 48, .int .i64 16, .int .i64 32, .int .i64 32, .int .i64 8, .int .i64 16, .int .i64 16] 3)) := HT.out.below ((Below.refl _ _).alloc (Nat.le_refl _) _)
        have HT' := Lib.hid hT'
        clear hT'
        go_wp2_with (first | (go_at_call 9; refine (head_Width _ _ HT'.out).mono ?_; rintro e w1 ⟨rfl, rfl⟩) | (go_at_call 10; refine (head_Full _ _ HT'.out).mono ?_; rintro e w1 ⟨rfl, rfl⟩))
        go_ret
        exact ⟨ret_bool (by first | rfl | simp), (Below.refl _ _).alloc (Nat.le_refl _) _⟩
  · have e1 : widthI 6 = 8 := by first | decide | exact widthI_out (by omega)
    have e2 : fullI 6 = onesI 8 := fullI_of e1
    have E1 := Lib.hid e1
    have E2 := Lib.hid e2
    clear e1 e2
    go_enter Tryd.func3, Tryd.ntmps3
    go_wp2_with (first | (go_at_call 9; refine (head_Width _ _ HT.out).mono ?_; rintro e w1 ⟨rfl, rfl⟩) | (go_at_call 10; refine (head_Full _ _ HT.out).mono ?_; rintro e w1 ⟨rfl, rfl⟩))
    clear b1 b2
    go_loop [5, 6] (fun x t => ∃ k : Nat, k ≤ 8 ∧ t = .int .i64 k ∧ x = .int .u64 (onesI k)) (fun _ t => 8 - (intOf t).toNat)
    case atStart => exact ⟨0, by omega, rfl, rfl⟩
    case round =>
      obtain ⟨k, hk, rfl, rfl⟩ := hrel
      have r1 := (HR.out k (by omega)).1
      have r2 := (HR.out k (by omega)).2
      by_cases hlt : k < 8
      · first | (exfalso; omega) | (go_wp2; exact ⟨⟨k + 1, by omega, by go_num, congrArg (Value.int .u64) (by first | (rw [HS.out]; done) | (rw [HS.out]; omega))⟩, by first | (simp [intOf]; done) | (simp [intOf]; omega)⟩)
      · obtain rfl : k = 8 := by omega
        have e1 := E1.out
        have e2 := E2.out
        have hT' : Wid (w.alloc (.cells #[.int .i64 8, .int .i64 48, .int .i64 48, .int .i64 16, .int .i64 32, .int .i64 32, .int .i64 8, .int .i64 16, .int .i64 16] 3)) := HT.out.below ((Below.refl _ _).alloc (Nat.le_refl _) _)
        have HT' := Lib.hid hT'
        clear hT'
        go_wp2_with (first | (go_at_call 9; refine (head_Width _ _ HT'.out).mono ?_; rintro e w1 ⟨rfl, rfl⟩) | (go_at_call 10; refine (head_Full _ _ HT'.out).mono ?_; rintro e w1 ⟨rfl, rfl⟩))
        go_ret
        exact ⟨ret_bool (by first | rfl | simp), (Below.refl _ _).alloc (Nat.le_refl _) _⟩
  · have e1 : widthI 7 = 16 := by first | decide | exact widthI_out (by omega)
    have e2 : fullI 7 = onesI 16 := fullI_of e1
    have E1 := Lib.hid e1
    have E2 := Lib.hid e2
    clear e1 e2
    go_enter Tryd.func3, Tryd.ntmps3
    go_wp2_with (first | (go_at_call 9; refine (head_Width _ _ HT.out).mono ?_; rintro e w1 ⟨rfl, rfl⟩) | (go_at_call 10; refine (head_Full _ _ HT.out).mono ?_; rintro e w1 ⟨rfl, rfl⟩))
    clear b1 b2
    go_loop [5, 6] (fun x t => ∃ k : Nat, k ≤ 16 ∧ t = .int .i64 k ∧ x = .int .u64 (onesI k)) (fun _ t => 16 - (intOf t).toNat)
    case atStart => exact ⟨0, by omega, rfl, rfl⟩
    case round =>
      obtain ⟨k, hk, rfl, rfl⟩ := hrel
      have r1 := (HR.out k (by omega)).1
      have r2 := (HR.out k (by omega)).2
      by_cases hlt : k < 16
      · first | (exfalso; omega) | (go_wp2; exact ⟨⟨k + 1, by omega, by go_num, congrArg (Value.int .u64) (by first | (rw [HS.out]; done) | (rw [HS.out]; omega))⟩, by first | (simp [intOf]; done) | (simp [intOf]; omega)⟩)
      · obtain rfl : k = 16 := by omega
        have e1 := E1.out
        have e2 := E2.out
        have hT' : Wid (w.alloc (.cells #[.int .i64 8, .int .i64 48, .int .i64 48, .int .i64 16, .int .i64 32, .int .i64 32, .int .i64 8, .int .i64 16, .int .i64 16] 3)) := HT.out.below ((Below.refl _ _).alloc (Nat.le_refl _) _)
        have HT' := Lib.hid hT'
        clear hT'
        go_wp2_with (first | (go_at_call 9; refine (head_Width _ _ HT'.out).mono ?_; rintro e w1 ⟨rfl, rfl⟩) | (go_at_call 10; refine (head_Full _ _ HT'.out).mono ?_; rintro e w1 ⟨rfl, rfl⟩))
        go_ret
        exact ⟨ret_bool (by first | rfl | simp), (Below.refl _ _).alloc (Nat.le_refl _) _⟩
  · have e1 : widthI 8 = 16 := by first | decide | exact widthI_out (by omega)
    have e2 : fullI 8 = onesI 16 := fullI_of e1
    have E1 := Lib.hid e1
    have E2 := Lib.hid e2
    clear e1 e2
    go_enter Tryd.func3, Tryd.ntmps3
    go_wp2_with (first | (go_at_call 9; refine (head_Width _ _ HT.out).mono ?_; rintro e w1 ⟨rfl, rfl⟩) | (go_at_call 10; refine (head_Full _ _ HT.out).mono ?_; rintro e w1 ⟨rfl, rfl⟩))
    clear b1 b2
    go_loop [5, 6] (fun x t => ∃ k : Nat, k ≤ 16 ∧ t = .int .i64 k ∧ x = .int .u64 (onesI k)) (fun _ t => 16 - (intOf t).toNat)
    case atStart => exact ⟨0, by omega, rfl, rfl⟩
    case round =>
      obtain ⟨k, hk, rfl, rfl⟩ := hrel
      have r1 := (HR.out k (by omega)).1
      have r2 := (HR.out k (by omega)).2
      by_cases hlt : k < 16
      · first | (exfalso; omega) | (go_wp2; exact ⟨⟨k + 1, by omega, by go_num, congrArg (Value.int .u64) (by first | (rw [HS.out]; done) | (rw [HS.out]; omega))⟩, by first | (simp [intOf]; done) | (simp [intOf]; omega)⟩)
      · obtain rfl : k = 16 := by omega
        have e1 := E1.out
        have e2 := E2.out
        have hT' : Wid (w.alloc (.cells #[.int .i64 8, .int .i64 48, .int .i64 48, .int .i64 16, .int .i64 32, .int .i64 32, .int .i64 8, .int .i64 16, .int .i64 16] 3)) := HT.out.below ((Below.refl _ _).alloc (Nat.le_refl _) _)
        have HT' := Lib.hid hT'
        clear hT'
        go_wp2_with (first | (go_at_call 9; refine (head_Width _ _ HT'.out).mono ?_; rintro e w1 ⟨rfl, rfl⟩) | (go_at_call 10; refine (head_Full _ _ HT'.out).mono ?_; rintro e w1 ⟨rfl, rfl⟩))
        go_ret
        exact ⟨ret_bool (by first | rfl | simp), (Below.refl _ _).alloc (Nat.le_refl _) _⟩

theorem open_field {w : World} {r : Reach} {b : Nat} {v : Value} (h : Value.okWide Tryd.prog w r b 22 v) : ∃ n, v = .int .i64 n ∧ -9223372036854775808 ≤ n ∧ n ≤ 9223372036854775807 := by
  simp only [Value.okWide, Tryd.underlying22] at h
  obtain ⟨n, rfl, hn⟩ := cell_int Tryd.underlying22 h
  exact ⟨n, rfl, has_i64 hn⟩
namespace headWidths
open Go.ChangeShapes Go.WideShapes Go.ChangeAt Go.RowKit
set_option linter.unusedVariables false
set_option maxRecDepth 100000 in
theorem contract (H : Type) (enc : TypeId × Value → H) (W : World) (base : Nat) (args : Array Value) (ds gs : List (DataW H)) (before : List MemPlace)
    (hval : ∀ (j : Nat) t v, Tryd.f3.params[j]? = some t → args[j]? = some v → Value.okWide Tryd.prog W .any base t v)
    (hW : DataW.Whole enc Tryd.prog Tryd.f3.params.toList Rows.headWidthsSpec.vars false W args.toList ds gs before) (hL : laidMetH Tryd.prog Rows.headWidthsRow.laid W) :
    Calls Tryd.prog 3 args W fun e W' => ∃ v, e = .returned v ∧ Rows.headWidthsSpec.post enc Tryd.prog Tryd.f3 false true false false W args v W' := by
  have hW' := hW
  obtain ⟨p, q, hA0, hV, rfl, hfz, hnd⟩ := hW
  have hA : DataW.TrodAll enc Tryd.prog W 0 (fun _ => true) true Tryd.f3.params.toList args.toList ds p := hA0
  rw [Tryd.params3] at hA hval
  obtain ⟨v0, vs0, d0, ds0, p0, q0, hargs, rfl, rfl, h0, r0⟩ := trodAll_cons hA
  obtain ⟨rfl, rfl, rfl⟩ := trodAll_nil r0
  obtain rfl : args = #[v0] := by cases args; simp_all
  obtain ⟨rfl, rfl⟩ := trodVars_none hV
  have lt0 : ∀ x ∈ p0, x.block < W.heap.size := by obtain ⟨m, hm⟩ := h0; exact DataW.trod_lt m _ _ _ hm
  obtain ⟨f, rfl, f0, f1⟩ := open_field (hval 0 22 v0 rfl rfl)
  clear hA0
  have hT : Wid W := Lib.tabIs_of_head (rest := []) gWid gWidType Tryd.underlying52 Tryd.underlying3 cellsInt cellsArr9 hL
  refine (law_HeadWidths f W hT).mono fun e W' ⟨he, bel⟩ => ?_
  subst he
  exact ⟨_, rfl, _, _, _, [], _, [], hW', trodAll_mk1 (shut_bool Tryd.underlying4 _), (trodAll_cons_mk (Below.trod fr_laidOut (by kernel_rfl) (of_decide_eq_true (by kernel_rfl)) h0 bel lt0) trodAll_mk0), rfl, bel.frame _, fun h => by cases h⟩
/-- A world for the witness. -/
noncomputable def laidWorld (os : Os) : World := { World.holding Tryd.prog os ⟨#[], #[], []⟩ with heap := (World.holding Tryd.prog os ⟨#[], #[], []⟩).heap.modify 0 (fun | .cells _ t frozen => .cells #[.int .i64 8, .int .i64 48, .int .i64 48, .int .i64 16, .int .i64 32, .int .i64 32, .int .i64 8, .int .i64 16, .int .i64 16] t frozen | o => o) }
theorem laid_met (os : Os) : laidMet Tryd.prog Rows.headWidthsRow.laid ((laidWorld os).forCall (fun _ _ => 0) ⟨#[], #[.int .i64 0], []⟩).memory := laidMet_of_run' 8 (by kernel_rfl) (by kernel_rfl)
theorem reads (os : Os) {H : Type} (enc : TypeId × Value → H) : DataW.whole enc Tryd.prog ((laidWorld os).forCall (fun _ _ => 0) ⟨#[], #[.int .i64 0], []⟩).memory Tryd.f3.params.toList Rows.headWidthsSpec.vars false (#[.int .i64 0] : Array Value).toList 8 = some ([.lit (.int .i64 0)], [], []) := by kernel_rfl
set_option maxRecDepth 100000 in
theorem lifted (os : Os) (started : os.Started) (H : Type) (enc : TypeId × Value → H) (F : Stop.Interp) :
    ReturnsInHanded {} Tryd.checked os 3 .any ((OpenSpec.ofChange Rows.headWidthsSpec).preRow enc Tryd.prog Tryd.f3 Rows.headWidthsRow.domain false Rows.headWidthsRow.laid) (((OpenSpec.ofChange Rows.headWidthsSpec).at F).post enc Tryd.prog Tryd.f3 false true false false) := by
  refine returnsInHanded_of_row (C := Tryd.checked) (s := OpenSpec.ofChange Rows.headWidthsSpec) fr_own started (by kernel_rfl) Tryd.func3
    (witness_row_at (enc := enc) (C := Tryd.checked) false (laidWorld os) #[.int .i64 0] rfl (by kernel_rfl) (by kernel_rfl) (by kernel_rfl)
      (OpenSpec.preRow_of_cond 8 (reads os enc) (by kernel_rfl) (fun k hk => by cases hk) (by kernel_rfl) (laid_met os))) ?_
  intro W base args ds gs before hval hW _ _ _ hL _ _
  exact contract H enc W base args ds gs before hval hW hL
theorem said : Rows.HeadWidthsSaid :=
  OpenClaim.holds_of_cond 3 Tryd.f3 rfl rfl rfl rfl rfl rfl rfl ⟨rfl, rfl, rfl, rfl, rfl⟩ rfl rfl rfl rfl rfl (by kernel_rfl) Tryd.func3 (by kernel_rfl)
    (of_decide_eq_true (by kernel_rfl)) (by unfold Func.isWrapper; first | (rw [if_pos (by decide +kernel)]; kernel_rfl) | (rw [if_neg (by decide +kernel)]; exact ⟨rfl, rfl⟩))
    (fun os started H enc _ F => by rw [OpenClaim.pre_eq_preRow]; exact lifted os started H enc F)
theorem plain (f : FuncId) (fn : Func) (hf : Tryd.pinned.checked.prog.funcNamed "carrefour/carrefourlaw04.HeadWidths" = some f) (hfn : Tryd.pinned.checked.prog.funcs[f]? = some fn) :
    false = Tryd.pinned.checked.prog.looks [] ∧ ∀ (j : Nat) t, fn.params[j]? = some t → Tryd.pinned.checked.prog.wantsStandIn t = false := by
  obtain rfl : f = 3 := Option.some.inj ((show Tryd.prog.funcNamed "carrefour/carrefourlaw04.HeadWidths" = some 3 by kernel_rfl).symm.trans hf) |>.symm
  obtain rfl : fn = Tryd.f3 := (Option.some.inj (Tryd.func3.symm.trans hfn)).symm
  refine ⟨by kernel_rfl, fun j t ht => ?_⟩
  rw [Tryd.params3] at ht
  have hm : t ∈ [22] := by have := Array.mem_of_getElem? ht; simpa using this
  have hall : ∀ t ∈ [22], Tryd.prog.wantsStandIn t = false := by
    intro t ht
    simp only [List.mem_cons, List.not_mem_nil, or_false] at ht
    subst ht
    kernel_rfl
  exact hall t hm
/-- THE CARD HeadWidths. -/
theorem proved : Rows.HeadWidthsCardSaid :=
  Claim7.holds_tied_plain_at .later [] _ _ _ _ said (fun _ h => by cases h) (by kernel_rfl) (fun _ h => by cases h) headWidths_row_tie rfl ⟨rfl, rfl⟩ (by kernel_rfl) rfl plain (by kernel_rfl)
#print axioms proved
end headWidths
end Go.Proofs.YtbodkbaafaamlaaDoor
