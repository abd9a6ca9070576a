/-
  HeadMacs: any address of a frame as a number, and back; any number as an address; for every six bytes and every number; no condition.
-/
import Derived.Test.YtbodkbaafaamlaaMac
import Derived.Test.YtbodkbaafaamlaaFrame
namespace Go.Proofs.Ytbodkbaafaamlaa
open Go.RowKit

theorem byteI_mac (b0 b1 b2 b3 b4 b5 : Int) (h0 : Byte b0) (h1 : Byte b1) (h2 : Byte b2) (h3 : Byte b3) (h4 : Byte b4) (h5 : Byte b5) :
    byteI (macI b0 b1 b2 b3 b4 b5) 0 = b0 ∧ byteI (macI b0 b1 b2 b3 b4 b5) 1 = b1 ∧ byteI (macI b0 b1 b2 b3 b4 b5) 2 = b2 ∧ byteI (macI b0 b1 b2 b3 b4 b5) 3 = b3 ∧ byteI (macI b0 b1 b2 b3 b4 b5) 4 = b4 ∧ byteI (macI b0 b1 b2 b3 b4 b5) 5 = b5 := by
  unfold Byte at *
  unfold byteI macI
  refine ⟨?_, ?_, ?_, ?_, ?_, ?_⟩ <;> omega
theorem mac_byteI (n : Int) (_h0 : 0 ≤ n) : macI (byteI n 0) (byteI n 1) (byteI n 2) (byteI n 3) (byteI n 4) (byteI n 5) = n % 281474976710656 := by
  unfold byteI macI; omega
theorem macI_lo (b0 b1 b2 b3 b4 b5 : Int) (h0 : Byte b0) (h1 : Byte b1) (h2 : Byte b2) (h3 : Byte b3) (h4 : Byte b4) (h5 : Byte b5) : 0 ≤ macI b0 b1 b2 b3 b4 b5 ∧ macI b0 b1 b2 b3 b4 b5 < 281474976710656 := by
  unfold Byte at *; unfold macI; omega

theorem fold_add (x b : Int) (h0 : 0 ≤ x) (h1 : x < 72057594037927936) (b0 : 0 ≤ b) (b1 : b < 256) : IntKind.u64.wrap (IntKind.u64.wrap (x * 256) + b) = x * 256 + b := by
  rw [IntWalk.u64_in (x * 256) (by omega), IntWalk.u64_in _ (by omega)]
set_option maxRecDepth 100000 in
set_option maxHeartbeats 3200000 in
theorem law_HeadMacs (b0 b1 b2 b3 b4 b5 n : Int) (w : World) (h0 : Byte b0) (h1 : Byte b1) (h2 : Byte b2) (h3 : Byte b3) (h4 : Byte b4) (h5 : Byte b5) (n0 : 0 ≤ n) (n1 : n < 18446744073709551616) :
    Calls Try.prog 4 #[macV b0 b1 b2 b3 b4 b5, .int .u64 n] w fun e w' => e = .returned (.bool true) ∧ Below w.heap.size w w' := by
  obtain ⟨x0, x1⟩ := macI_lo b0 b1 b2 b3 b4 b5 h0 h1 h2 h3 h4 h5
  obtain ⟨q0, q1, q2, q3, q4, q5⟩ := byteI_mac b0 b1 b2 b3 b4 b5 h0 h1 h2 h3 h4 h5
  have hN := mac_byteI n n0
  have z0 : byteI 258 0 = 0 := rfl
  have z1 : byteI 258 1 = 0 := rfl
  have z2 : byteI 258 2 = 0 := rfl
  have z3 : byteI 258 3 = 0 := rfl
  have z4 : byteI 258 4 = 1 := rfl
  have z5 : byteI 258 5 = 2 := rfl
  have z6 : macI 0 0 0 0 1 2 = 258 := rfl
  have HX := Lib.hid (⟨h0, h1, h2, h3, h4, h5⟩ : Byte b0 ∧ Byte b1 ∧ Byte b2 ∧ Byte b3 ∧ Byte b4 ∧ Byte b5)
  have HQ := Lib.hid (⟨q0, q1, q2, q3, q4, q5⟩ : byteI (macI b0 b1 b2 b3 b4 b5) 0 = b0 ∧ byteI (macI b0 b1 b2 b3 b4 b5) 1 = b1 ∧ byteI (macI b0 b1 b2 b3 b4 b5) 2 = b2 ∧ byteI (macI b0 b1 b2 b3 b4 b5) 3 = b3 ∧ byteI (macI b0 b1 b2 b3 b4 b5) 4 = b4 ∧ byteI (macI b0 b1 b2 b3 b4 b5) 5 = b5)
  have HN := Lib.hid hN
  clear q0 q1 q2 q3 q4 q5 hN
  unfold macV
  unfold Byte at h0 h1 h2 h3 h4 h5
  go_enter Try.func4, Try.ntmps4
  go_wp2_with fail
  obtain ⟨W0, hW0, ⟨c0, c1, c2, c3, c4, c5⟩, hB⟩ := box6 w (.int .u8 b0) (.int .u8 b1) (.int .u8 b2) (.int .u8 b3) (.int .u8 b4) (.int .u8 b5) 25
  rw [← hW0]; clear hW0
  go_wp2_with (first | (go_at_call 10; refine (head_Of' _ _ (by decide) (by decide)).mono ?_; rintro e w1 ⟨rfl, hb⟩; have c0 := cell_below c0 hb; have c1 := cell_below c1 hb; have c2 := cell_below c2 hb; have c3 := cell_below c3 hb; have c4 := cell_below c4 hb; have c5 := cell_below c5 hb; have hB := below_on hB hb; clear hb) | (go_at_call 11; refine (head_Num' _ _ _ _ _ _ _ (by unfold Byte; decide)).mono ?_; rintro e w1 ⟨rfl, hb⟩; have c0 := cell_below c0 hb; have c1 := cell_below c1 hb; have c2 := cell_below c2 hb; have c3 := cell_below c3 hb; have c4 := cell_below c4 hb; have c5 := cell_below c5 hb; have hB := below_on hB hb; clear hb))
  clear z0 z1 z2 z3 z4 z5 z6
  go_loop [5, 17] (fun x t => ∃ k : Nat, k ≤ 6 ∧ t = .int .i64 k ∧ x = .int .u64 (foldK b0 b1 b2 b3 b4 b5 k)) (fun _ t => 6 - (intOf t).toNat)
  case atStart => exact ⟨0, by omega, rfl, rfl⟩
  case round =>
    obtain ⟨k, hk, rfl, rfl⟩ := hrel
    rcases (by omega : k = 0 ∨ k = 1 ∨ k = 2 ∨ k = 3 ∨ k = 4 ∨ k = 5 ∨ k = 6) with rfl | rfl | rfl | rfl | rfl | rfl | rfl
    · have i0 : ∀ w, (Instr.index 25 (.agg #[.int .u8 b0, .int .u8 b1, .int .u8 b2, .int .u8 b3, .int .u8 b4, .int .u8 b5]) (.int .i64 0)).run Try.prog w = .ok (.int .u8 b0) w := fun _ => by kernel_rfl
      go_wp2
      exact ⟨⟨1, by omega, rfl, congrArg (Value.int .u64) (by rw [fold_add _ _ (by simp only [foldK]; omega) (by simp only [foldK]; omega) h0.1 h0.2]; simp [foldK])⟩, by simp [intOf]⟩
    · have i0 : ∀ w, (Instr.index 25 (.agg #[.int .u8 b0, .int .u8 b1, .int .u8 b2, .int .u8 b3, .int .u8 b4, .int .u8 b5]) (.int .i64 1)).run Try.prog w = .ok (.int .u8 b1) w := fun _ => by kernel_rfl
      go_wp2
      exact ⟨⟨2, by omega, rfl, congrArg (Value.int .u64) (by rw [fold_add _ _ (by simp only [foldK]; omega) (by simp only [foldK]; omega) h1.1 h1.2]; simp [foldK])⟩, by simp [intOf]⟩
    · have i0 : ∀ w, (Instr.index 25 (.agg #[.int .u8 b0, .int .u8 b1, .int .u8 b2, .int .u8 b3, .int .u8 b4, .int .u8 b5]) (.int .i64 2)).run Try.prog w = .ok (.int .u8 b2) w := fun _ => by kernel_rfl
      go_wp2
      exact ⟨⟨3, by omega, rfl, congrArg (Value.int .u64) (by rw [fold_add _ _ (by simp only [foldK]; omega) (by simp only [foldK]; omega) h2.1 h2.2]; simp [foldK])⟩, by simp [intOf]⟩
    · have i0 : ∀ w, (Instr.index 25 (.agg #[.int .u8 b0, .int .u8 b1, .int .u8 b2, .int .u8 b3, .int .u8 b4, .int .u8 b5]) (.int .i64 3)).run Try.prog w = .ok (.int .u8 b3) w := fun _ => by kernel_rfl
      go_wp2
      exact ⟨⟨4, by omega, rfl, congrArg (Value.int .u64) (by rw [fold_add _ _ (by simp only [foldK]; omega) (by simp only [foldK]; omega) h3.1 h3.2]; simp [foldK])⟩, by simp [intOf]⟩
    · have i0 : ∀ w, (Instr.index 25 (.agg #[.int .u8 b0, .int .u8 b1, .int .u8 b2, .int .u8 b3, .int .u8 b4, .int .u8 b5]) (.int .i64 4)).run Try.prog w = .ok (.int .u8 b4) w := fun _ => by kernel_rfl
      go_wp2
      exact ⟨⟨5, by omega, rfl, congrArg (Value.int .u64) (by rw [fold_add _ _ (by simp only [foldK]; omega) (by simp only [foldK]; omega) h4.1 h4.2]; simp [foldK])⟩, by simp [intOf]⟩
    · have i0 : ∀ w, (Instr.index 25 (.agg #[.int .u8 b0, .int .u8 b1, .int .u8 b2, .int .u8 b3, .int .u8 b4, .int .u8 b5]) (.int .i64 5)).run Try.prog w = .ok (.int .u8 b5) w := fun _ => by kernel_rfl
      go_wp2
      exact ⟨⟨6, by omega, rfl, congrArg (Value.int .u64) (by rw [fold_add _ _ (by simp only [foldK]; omega) (by simp only [foldK]; omega) h5.1 h5.2]; simp [foldK])⟩, by simp [intOf]⟩
    · have hm : foldK b0 b1 b2 b3 b4 b5 6 = macI b0 b1 b2 b3 b4 b5 := rfl
      rw [hm]
      clear hm
      obtain ⟨q0, q1, q2, q3, q4, q5⟩ := HQ.out
      have hN := HN.out
      have x2 : macI b0 b1 b2 b3 b4 b5 < 18446744073709551616 := by omega
      go_wp2_with fail
      refine wp_region_held_drew (S := fun w' => Below w1.heap.size w1 w') (by kernel_rfl) ?_ (fun hHeld => ?_)
      · exact (Below.refl _ _).drew
      refine rg_yes (i := 0) (v := ?_) at0 (by kernel_rfl) (by kernel_rfl) (by kernel_rfl) (fun _ _ _ h => h) ?_ ?_ hHeld ?_; rotate_left 1; (· rfl); (· intro w' hSw; (try dsimp only at hSw); have c0 := cell_below c0 hSw; have c1 := cell_below c1 hSw; have c2 := cell_below c2 hSw; have c3 := cell_below c3 hSw; have c4 := cell_below c4 hSw; have c5 := cell_below c5 hSw; (try clear hHeld); go_simp; try with_reducible rfl)
      try simp only [Act.put, List.setIfInBounds_toArray, List.set_cons_zero, List.set_cons_succ]
      refine rg_yes (i := 2) (v := ?_) (atS (atS at0)) (by kernel_rfl) (by kernel_rfl) (by kernel_rfl) (fun _ _ _ h => h) ?_ ?_ hHeld ?_; rotate_left 1; (· rfl); (· intro w' hSw; (try dsimp only at hSw); (try clear hHeld); go_simp; try with_reducible rfl)
      try simp only [Act.put, List.setIfInBounds_toArray, List.set_cons_zero, List.set_cons_succ]
      refine rg_call (i := 1) (atS at0) (by kernel_rfl) ?_ (fun K hK => ?_); (· rfl); (try clear hb); go_simp; (refine (head_Num' _ _ _ _ _ _ _ HX.out).mono ?_; rintro e w1 ⟨rfl, hb⟩); go_wp2_with fail; refine hK.out _ _ ?_ (fun hHeld => ?_); (· exact hHeld.trans (hb.mono hHeld.size)); clear hK K
      try simp only [Act.put, List.setIfInBounds_toArray, List.set_cons_zero, List.set_cons_succ]
      refine rg_yes (i := 3) (v := ?_) (atS (atS (atS at0))) (by kernel_rfl) (by kernel_rfl) (by kernel_rfl) (fun _ _ _ h => h) ?_ ?_ hHeld ?_; rotate_left 1; (· rfl); (· intro w' hSw; (try dsimp only at hSw); (try clear hHeld); go_simp; try with_reducible rfl)
      try simp only [Act.put, List.setIfInBounds_toArray, List.set_cons_zero, List.set_cons_succ]
      refine rg_yes (i := 4) (v := ?_) (atS (atS (atS (atS at0)))) (by kernel_rfl) (by kernel_rfl) (by kernel_rfl) (fun _ _ _ h => h) ?_ ?_ hHeld ?_; rotate_left 1; (· rfl); (· intro w' hSw; (try dsimp only at hSw); (try clear hHeld); go_simp; try with_reducible rfl)
      try simp only [Act.put, List.setIfInBounds_toArray, List.set_cons_zero, List.set_cons_succ]
      first | (refine rg_no (i := 5) (atS (atS (atS (atS (atS at0))))) (by kernel_rfl) (by kernel_rfl) (by kernel_rfl) (fun _ _ _ h => h) ?_ hHeld ?_; (· rfl)) | (refine rg_yes (i := 5) (v := ?_) (atS (atS (atS (atS (atS at0))))) (by kernel_rfl) (by kernel_rfl) (by kernel_rfl) (fun _ _ _ h => h) ?_ ?_ hHeld ?_; rotate_left 1; (· rfl); (· intro w' hSw; (try dsimp only at hSw); (try clear hHeld); go_simp; try with_reducible rfl))
      try simp only [Act.put, List.setIfInBounds_toArray, List.set_cons_zero, List.set_cons_succ]
      first | (refine rg_no (i := 7) (atS (atS (atS (atS (atS (atS (atS at0))))))) (by kernel_rfl) (by kernel_rfl) (by kernel_rfl) (fun _ _ _ h => h) ?_ hHeld ?_; (· rfl)) | (refine rg_yes (i := 7) (v := ?_) (atS (atS (atS (atS (atS (atS (atS at0))))))) (by kernel_rfl) (by kernel_rfl) (by kernel_rfl) (fun _ _ _ h => h) ?_ ?_ hHeld ?_; rotate_left 1; (· rfl); (· intro w' hSw; (try dsimp only at hSw); have c0 := cell_below c0 hSw; have c1 := cell_below c1 hSw; have c2 := cell_below c2 hSw; have c3 := cell_below c3 hSw; have c4 := cell_below c4 hSw; have c5 := cell_below c5 hSw; (try clear hHeld); go_simp; try with_reducible rfl))
      try simp only [Act.put, List.setIfInBounds_toArray, List.set_cons_zero, List.set_cons_succ]
      first | (refine rg_no (i := 6) (atS (atS (atS (atS (atS (atS at0)))))) (by kernel_rfl) (by kernel_rfl) (by kernel_rfl) (fun _ _ _ h => h) ?_ hHeld ?_; (· rfl)) | (refine rg_call (i := 6) (atS (atS (atS (atS (atS (atS at0)))))) (by kernel_rfl) ?_ (fun K hK => ?_); (· rfl); (try clear hb); go_simp; (refine (head_Of' _ _ x0 x2).mono ?_; rintro e w1 ⟨rfl, hb⟩); go_wp2_with fail; refine hK.out _ _ ?_ (fun hHeld => ?_); (· exact hHeld.trans (hb.mono hHeld.size)); clear hK K)
      try simp only [Act.put, List.setIfInBounds_toArray, List.set_cons_zero, List.set_cons_succ]
      first | (refine rg_no (i := 8) (atS (atS (atS (atS (atS (atS (atS (atS at0)))))))) (by kernel_rfl) (by kernel_rfl) (by kernel_rfl) (fun _ _ _ h => h) ?_ hHeld ?_; (· rfl)) | (refine rg_yes (i := 8) (v := ?_) (atS (atS (atS (atS (atS (atS (atS (atS at0)))))))) (by kernel_rfl) (by kernel_rfl) (by kernel_rfl) (fun _ _ _ h => h) ?_ ?_ hHeld ?_; rotate_left 1; (· rfl); (· intro w' hSw; (try dsimp only at hSw); (try clear hHeld); go_simp; try with_reducible rfl))
      try simp only [Act.put, List.setIfInBounds_toArray, List.set_cons_zero, List.set_cons_succ]
      refine rg_yes (i := 9) (v := ?_) (atS (atS (atS (atS (atS (atS (atS (atS (atS at0))))))))) (by kernel_rfl) (by kernel_rfl) (by kernel_rfl) (fun _ _ _ h => h) ?_ ?_ hHeld ?_; rotate_left 1; (· rfl); (· intro w' hSw; (try dsimp only at hSw); (try clear hHeld); go_simp; try with_reducible rfl)
      try simp only [Act.put, List.setIfInBounds_toArray, List.set_cons_zero, List.set_cons_succ]
      refine rg_yes (i := 10) (v := ?_) (atS (atS (atS (atS (atS (atS (atS (atS (atS (atS at0)))))))))) (by kernel_rfl) (by kernel_rfl) (by kernel_rfl) (fun _ _ _ h => h) ?_ ?_ hHeld ?_; rotate_left 1; (· rfl); (· intro w' hSw; (try dsimp only at hSw); (try clear hHeld); go_simp; try with_reducible rfl)
      try simp only [Act.put, List.setIfInBounds_toArray, List.set_cons_zero, List.set_cons_succ]
      first | (refine rg_no (i := 11) (atS (atS (atS (atS (atS (atS (atS (atS (atS (atS (atS at0))))))))))) (by kernel_rfl) (by kernel_rfl) (by kernel_rfl) (fun _ _ _ h => h) ?_ hHeld ?_; (· rfl)) | (refine rg_yes (i := 11) (v := ?_) (atS (atS (atS (atS (atS (atS (atS (atS (atS (atS (atS at0))))))))))) (by kernel_rfl) (by kernel_rfl) (by kernel_rfl) (fun _ _ _ h => h) ?_ ?_ hHeld ?_; rotate_left 1; (· rfl); (· intro w' hSw; (try dsimp only at hSw); (try clear hHeld); go_simp; try with_reducible rfl))
      try simp only [Act.put, List.setIfInBounds_toArray, List.set_cons_zero, List.set_cons_succ]
      first | (refine rg_no (i := 14) (atS (atS (atS (atS (atS (atS (atS (atS (atS (atS (atS (atS (atS (atS at0)))))))))))))) (by kernel_rfl) (by kernel_rfl) (by kernel_rfl) (fun _ _ _ h => h) ?_ hHeld ?_; (· rfl)) | (refine rg_yes (i := 14) (v := ?_) (atS (atS (atS (atS (atS (atS (atS (atS (atS (atS (atS (atS (atS (atS at0)))))))))))))) (by kernel_rfl) (by kernel_rfl) (by kernel_rfl) (fun _ _ _ h => h) ?_ ?_ hHeld ?_; rotate_left 1; (· rfl); (· intro w' hSw; (try dsimp only at hSw); (try clear hHeld); go_simp; try with_reducible rfl))
      try simp only [Act.put, List.setIfInBounds_toArray, List.set_cons_zero, List.set_cons_succ]
      first | (refine rg_no (i := 15) (atS (atS (atS (atS (atS (atS (atS (atS (atS (atS (atS (atS (atS (atS (atS at0))))))))))))))) (by kernel_rfl) (by kernel_rfl) (by kernel_rfl) (fun _ _ _ h => h) ?_ hHeld ?_; (· rfl)) | (refine rg_yes (i := 15) (v := ?_) (atS (atS (atS (atS (atS (atS (atS (atS (atS (atS (atS (atS (atS (atS (atS at0))))))))))))))) (by kernel_rfl) (by kernel_rfl) (by kernel_rfl) (fun _ _ _ h => h) ?_ ?_ hHeld ?_; rotate_left 1; (· rfl); (· intro w' hSw; (try dsimp only at hSw); (try clear hHeld); go_simp; try with_reducible rfl))
      try simp only [Act.put, List.setIfInBounds_toArray, List.set_cons_zero, List.set_cons_succ]
      first | (refine rg_no (i := 12) (atS (atS (atS (atS (atS (atS (atS (atS (atS (atS (atS (atS at0)))))))))))) (by kernel_rfl) (by kernel_rfl) (by kernel_rfl) (fun _ _ _ h => h) ?_ hHeld ?_; (· rfl)) | (refine rg_call (i := 12) (atS (atS (atS (atS (atS (atS (atS (atS (atS (atS (atS (atS at0)))))))))))) (by kernel_rfl) ?_ (fun K hK => ?_); (· rfl); (try clear hb); go_simp; (refine (head_Of' _ _ n0 n1).mono ?_; rintro e w1 ⟨rfl, hb⟩); go_wp2_with fail; refine hK.out _ _ ?_ (fun hHeld => ?_); (· exact hHeld.trans (hb.mono hHeld.size)); clear hK K)
      try simp only [Act.put, List.setIfInBounds_toArray, List.set_cons_zero, List.set_cons_succ]
      first | (refine rg_no (i := 13) (atS (atS (atS (atS (atS (atS (atS (atS (atS (atS (atS (atS (atS at0))))))))))))) (by kernel_rfl) (by kernel_rfl) (by kernel_rfl) (fun _ _ _ h => h) ?_ hHeld ?_; (· rfl)) | (refine rg_call (i := 13) (atS (atS (atS (atS (atS (atS (atS (atS (atS (atS (atS (atS (atS at0))))))))))))) (by kernel_rfl) ?_ (fun K hK => ?_); (· rfl); (try clear hb); go_simp; (refine (head_Num' _ _ _ _ _ _ _ (bytes_ok n)).mono ?_; rintro e w1 ⟨rfl, hb⟩); go_wp2_with fail; refine hK.out _ _ ?_ (fun hHeld => ?_); (· exact hHeld.trans (hb.mono hHeld.size)); clear hK K)
      try simp only [Act.put, List.setIfInBounds_toArray, List.set_cons_zero, List.set_cons_succ]
      first | (refine rg_no (i := 16) (atS (atS (atS (atS (atS (atS (atS (atS (atS (atS (atS (atS (atS (atS (atS (atS at0)))))))))))))))) (by kernel_rfl) (by kernel_rfl) (by kernel_rfl) (fun _ _ _ h => h) ?_ hHeld ?_; (· rfl)) | (refine rg_yes (i := 16) (v := ?_) (atS (atS (atS (atS (atS (atS (atS (atS (atS (atS (atS (atS (atS (atS (atS (atS at0)))))))))))))))) (by kernel_rfl) (by kernel_rfl) (by kernel_rfl) (fun _ _ _ h => h) ?_ ?_ hHeld ?_; rotate_left 1; (· rfl); (· intro w' hSw; (try dsimp only at hSw); (try clear hHeld); go_simp; try with_reducible rfl))
      try simp only [Act.put, List.setIfInBounds_toArray, List.set_cons_zero, List.set_cons_succ]
      refine rg_yes (i := 17) (v := ?_) (atS (atS (atS (atS (atS (atS (atS (atS (atS (atS (atS (atS (atS (atS (atS (atS (atS at0))))))))))))))))) (by kernel_rfl) (by kernel_rfl) (by kernel_rfl) (fun _ _ _ h => h) ?_ ?_ hHeld ?_; rotate_left 1; (· rfl); (· intro w' hSw; (try dsimp only at hSw); (try clear hHeld); go_simp; try with_reducible rfl)
      try simp only [Act.put, List.setIfInBounds_toArray, List.set_cons_zero, List.set_cons_succ]
      refine rg_yes (i := 18) (v := ?_) (atS (atS (atS (atS (atS (atS (atS (atS (atS (atS (atS (atS (atS (atS (atS (atS (atS (atS at0)))))))))))))))))) (by kernel_rfl) (by kernel_rfl) (by kernel_rfl) (fun _ _ _ h => h) ?_ ?_ hHeld ?_; rotate_left 1; (· rfl); (· intro w' hSw; (try dsimp only at hSw); (try clear hHeld); go_simp; try with_reducible rfl)
      try simp only [Act.put, List.setIfInBounds_toArray, List.set_cons_zero, List.set_cons_succ]
      refine wpAnyH_done (by kernel_rfl) ?_ _
      have hB := below_on hB hHeld
      clear hHeld hb
      go_wp2
      go_ret
      exact ⟨ret_bool (by simp; exact (IntWalk.rem_in n _ n0).symm), hB⟩

theorem open_mac {w : World} {r : Reach} {b : Nat} {v : Value} (h : Value.okWide Try.prog w r b 25 v) : ∃ b0 b1 b2 b3 b4 b5, v = macV b0 b1 b2 b3 b4 b5 ∧ Byte b0 ∧ Byte b1 ∧ Byte b2 ∧ Byte b3 ∧ Byte b4 ∧ Byte b5 := by
  simp only [Value.okWide, Try.underlying25] at h
  obtain ⟨cs, rfl, hsz, ts, hts, _, hc⟩ := h
  have e : Try.prog.cellTypes Try.prog.depth 25 = some [5, 5, 5, 5, 5, 5] := by kernel_rfl
  rw [e] at hts
  obtain rfl := Option.some.inj hts
  have hn : Try.prog.cellsOf 25 = 6 := by kernel_rfl
  rw [hn] at hsz
  have hb : ∀ v : Value, Cell.okWide Try.prog w r b 5 v → ∃ n, v = .int .u8 n ∧ Byte n := fun v hv => by
    obtain ⟨n, rfl, hn⟩ := cell_int Try.underlying5 hv
    refine ⟨n, rfl, ?_⟩
    simp [IntKind.has, IntKind.min, IntKind.max, IntKind.bits, IntKind.signed] at hn
    unfold Byte; omega
  match cs, hsz with
  | ⟨[v0, v1, v2, v3, v4, v5]⟩, _ =>
    obtain ⟨u0, hu0, h0⟩ := hc 0 v0 (by simp)
    obtain ⟨u1, hu1, h1⟩ := hc 1 v1 (by simp)
    obtain ⟨u2, hu2, h2⟩ := hc 2 v2 (by simp)
    obtain ⟨u3, hu3, h3⟩ := hc 3 v3 (by simp)
    obtain ⟨u4, hu4, h4⟩ := hc 4 v4 (by simp)
    obtain ⟨u5, hu5, h5⟩ := hc 5 v5 (by simp)
    simp at hu0 hu1 hu2 hu3 hu4 hu5
    subst hu0 hu1 hu2 hu3 hu4 hu5
    obtain ⟨b0, rfl, k0⟩ := hb _ h0
    obtain ⟨b1, rfl, k1⟩ := hb _ h1
    obtain ⟨b2, rfl, k2⟩ := hb _ h2
    obtain ⟨b3, rfl, k3⟩ := hb _ h3
    obtain ⟨b4, rfl, k4⟩ := hb _ h4
    obtain ⟨b5, rfl, k5⟩ := hb _ h5
    exact ⟨b0, b1, b2, b3, b4, b5, rfl, k0, k1, k2, k3, k4, k5⟩
theorem open_u64 {w : World} {r : Reach} {b : Nat} {v : Value} (h : Value.okWide Try.prog w r b 26 v) : ∃ n, v = .int .u64 n ∧ 0 ≤ n ∧ n < 18446744073709551616 := by
  simp only [Value.okWide, Try.underlying26] at h
  obtain ⟨n, rfl, hn⟩ := cell_int Try.underlying26 h
  refine ⟨n, rfl, ?_⟩
  simp [IntKind.has, IntKind.min, IntKind.max, IntKind.bits, IntKind.signed] at hn
  omega

namespace headMacs
open Go.ChangeShapes Go.WideShapes Go.ChangeAt Go.RowKit
set_option linter.unusedVariables false
set_option maxRecDepth 100000 in
theorem lifted (os : Os) (started : os.Started) (H : Type) (enc : TypeId × Value → H) :
    ReturnsInHanded {} Try.checked os 4 .any (Rows.headMacsSpec.pre6 enc Try.prog Try.f4 Rows.headMacsRow.domain false) (Rows.headMacsSpec.post enc Try.prog Try.f4 false true false false) := by
  refine returnsInHanded_of_change (C := Try.checked) fr_own started (by kernel_rfl) Try.func4
    (ChangeSpec.witness6 (enc := enc) (C := Try.checked) false ⟨#[], #[.agg #[.int .u8 0, .int .u8 0, .int .u8 0, .int .u8 0, .int .u8 0, .int .u8 0], .int .u64 0], []⟩ 8 (by kernel_rfl) (by kernel_rfl) (by kernel_rfl) (by kernel_rfl)) ?_
  intro W base args ds gs before hval0 hW hcnd _
  have hval : ∀ (j : Nat) t v, Try.f4.params[j]? = some t → args[j]? = some v → Value.okWide Try.prog W .any base t v := hval0
  have hW' := hW
  obtain ⟨p, q, hA0, hV, rfl, hfz, hnd⟩ := hW
  have hA : DataW.TrodAll enc Try.prog W 0 (fun _ => true) true Try.f4.params.toList args.toList ds p := hA0
  rw [Try.params4] at hA hval
  obtain ⟨v0, vs0, d0, ds0, p0, q0, hargs, rfl, rfl, h0, r0⟩ := trodAll_cons hA
  obtain ⟨v1, vs1, d1, ds1, p1, q1, rfl, rfl, rfl, h1, r1⟩ := trodAll_cons r0
  obtain ⟨rfl, rfl, rfl⟩ := trodAll_nil r1
  obtain rfl : args = #[v0, v1] := by cases args; simp_all
  obtain ⟨rfl, rfl⟩ := trodVars_none hV
  have lt0 : ∀ x ∈ p0, x.block < W.heap.size := by obtain ⟨m, hm⟩ := h0; exact DataW.trod_lt m _ _ _ hm
  have lt1 : ∀ x ∈ p1, x.block < W.heap.size := by obtain ⟨m, hm⟩ := h1; exact DataW.trod_lt m _ _ _ hm
  obtain ⟨b0, b1, b2, b3, b4, b5, rfl, k0, k1, k2, k3, k4, k5⟩ := open_mac (hval 0 25 v0 rfl rfl)
  obtain ⟨n, rfl, n0, n1⟩ := open_u64 (hval 1 26 v1 rfl rfl)
  clear hA0 hval0
  refine (law_HeadMacs b0 b1 b2 b3 b4 b5 n W k0 k1 k2 k3 k4 k5 n0 n1).mono fun e W' ⟨he, bel⟩ => ?_
  subst he
  exact ⟨_, rfl, _, _, _, [], _, [], hW', trodAll_mk1 (shut_bool Try.underlying4 _), (trodAll_cons_mk (Below.trod fr_laidOut (by kernel_rfl) (of_decide_eq_true (by kernel_rfl)) h0 bel lt0) (trodAll_cons_mk (Below.trod fr_laidOut (by kernel_rfl) (of_decide_eq_true (by kernel_rfl)) h1 bel lt1) trodAll_mk0)), rfl, bel.frame _, fun h => by cases h⟩
theorem over : Rows.headMacsRow.holds Try.pinned (OpenSpec.ofChange Rows.headMacsSpec) :=
  OpenClaim.holds_of_wide 4 Try.f4 rfl rfl rfl rfl rfl rfl rfl ⟨rfl, rfl, rfl, rfl, rfl⟩ rfl rfl rfl rfl rfl (by kernel_rfl) Try.func4 (by kernel_rfl)
    (of_decide_eq_true (by kernel_rfl)) (by unfold Func.isWrapper; first | (rw [if_pos (by decide +kernel)]; kernel_rfl) | (rw [if_neg (by decide +kernel)]; exact ⟨rfl, rfl⟩))
    (fun os started H enc _ => lifted os started H enc)
/-- THE STATEMENT HeadMacs. -/
theorem proved : Rows.HeadMacsSaid := over
#print axioms proved
end headMacs
end Go.Proofs.Ytbodkbaafaamlaa
