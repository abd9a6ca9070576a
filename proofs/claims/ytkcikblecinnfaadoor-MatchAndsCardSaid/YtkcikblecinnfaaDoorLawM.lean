/-
  MATCHES: what the statements of layer 15 say by themselves: right, example.
-/
import Derived.Test.YtkcikblecinnfaaDoorAnd
import Derived.Test.YtkcikblecinnfaaDoorHits
namespace Go.Proofs.YtkcikblecinnfaaDoor
open Go.RowKit

def lrI (f v k : Int) : Bool := !decide (fullI f < k) && (bits .and .u64 v k == v)
def lawR (m : Mt) : Bool := (List.range 9).all fun j : Nat => lrI j (m.val j) (m.mask j)
theorem lawR_yes {m : Mt} (h : ∀ j : Nat, j < 9 → lrI j (m.val j) (m.mask j) = true) : lawR m = true := by
  unfold lawR; simpa using h
theorem lawR_no {m : Mt} {j : Nat} (hj : j < 9) (h : lrI j (m.val j) (m.mask j) = false) : lawR m = false := by
  unfold lawR; rw [List.all_eq_false]; exact ⟨j, by simpa using hj, by simp [h]⟩
set_option maxRecDepth 100000 in
set_option maxHeartbeats 3200000 in
theorem law_right (m : Mt) (w : World) (hT : Wid w) :
    Calls Tryd.prog 9 #[mtV m] w fun e w' => e = .returned (.bool (lawR m)) ∧ Below w.heap.size w w' := by
  have HT := Lib.hid hT
  clear hT
  go_enter Tryd.func9, Tryd.ntmps9
  go_wp2_with fail
  obtain ⟨W0, hW0, hm, hB⟩ := boxM w m
  rw [← hW0]; clear hW0
  have C0 := Lib.hid (⟨hB, HT.out.below hB, hm⟩ : Below w.heap.size w W0 ∧ Wid W0 ∧ MBox W0 w.heap.size m)
  clear hB hm
  go_loopw [3] (fun t wr => ∃ k : Nat, k ≤ 9 ∧ t = .int .i64 k ∧ (∀ j : Nat, j < k → lrI j (m.val j) (m.mask j) = true) ∧ (Below w.heap.size w wr ∧ Wid wr ∧ MBox wr w.heap.size m)) (fun t _ => 9 - (intOf t).toNat)
  case atStart => exact ⟨0, by omega, rfl, fun j h => absurd h (by omega), C0.out⟩
  case round =>
    obtain ⟨k, hk, rfl, hj, hC⟩ := hrel
    have C := Lib.hid hC
    have HJ := Lib.hid hj
    clear hC hj C0
    rcases Nat.lt_or_ge k 9 with hlt | hge
    · have hk9 : ((k : Int) < 9) := by omega
      have hw : IntKind.i64.wrap ((k : Int) + 1) = ((k + 1 : Nat) : Int) := by rw [IntWalk.i64_in _ (by omega)]; omega
      have cv := C.out.2.2.val k hlt
      have cm := C.out.2.2.mask k hlt
      have C2 : Hid (∀ q, Below w.heap.size w (wr.drewN q) ∧ Wid (wr.drewN q) ∧ MBox (wr.drewN q) w.heap.size m) := Lib.hid fun q =>
        ⟨below_drewN'' C.out.1 q, C.out.2.1.below (below_drewN'' (Below.refl _ _) q), C.out.2.2.below (below_drewN'' (Below.refl _ _) q)⟩
      rcases widthI_cases k with h | h | h | h | h
      · exfalso
        rcases nine_cases k hlt with rfl | rfl | rfl | rfl | rfl | rfl | rfl | rfl | rfl <;> exact absurd h (by decide)
      · have hf : fullI k = 255 := (fullI_of h).trans (by decide)
        cases h1 : decide ((255 : Int) < (m.mask k : Int))
        · cases h2 : (bits .and .u64 (m.val k) (m.mask k) == (m.val k : Int))
          · have HN := Lib.hid (lawR_no hlt (show lrI k (m.val k) (m.mask k) = false by unfold lrI; rw [hf, h1, h2]; rfl))
            have h3 : (bits .and .u64 (m.val k) (m.mask k) != (m.val k : Int)) = true := by simp [bne, h2]
            clear h2 hf
            go_wp2_with (first | (go_at_call 24; refine (head_Width _ _ C.out.2.1).mono ?_; rintro e w1 ⟨rfl, rfl⟩) | go_quiet (fail))
            go_ret
            exact ⟨ret_bool (by rw [HN.out]), (C2.out _).1⟩
          · have HY := Lib.hid (show lrI k (m.val k) (m.mask k) = true by unfold lrI; rw [hf, h1, h2]; rfl)
            have h3 : (bits .and .u64 (m.val k) (m.mask k) != (m.val k : Int)) = false := by simp [bne, h2]
            have HJ2 : Hid (∀ j : Nat, j < k + 1 → lrI j (m.val j) (m.mask j) = true) := Lib.hid fun j hj => by
              rcases (by omega : j < k ∨ j = k) with h | rfl
              · exact HJ.out j h
              · exact HY.out
            clear h2 hf HJ
            go_wp2_with (first | (go_at_call 24; refine (head_Width _ _ C.out.2.1).mono ?_; rintro e w1 ⟨rfl, rfl⟩) | go_quiet (fail))
            refine ⟨⟨k + 1, by omega, by simp, HJ2.out, C2.out _⟩, by simp [intOf]; omega⟩
        · have HN := Lib.hid (lawR_no hlt (show lrI k (m.val k) (m.mask k) = false by unfold lrI; rw [hf, h1]; rfl))
          clear hf
          go_wp2_with (first | (go_at_call 24; refine (head_Width _ _ C.out.2.1).mono ?_; rintro e w1 ⟨rfl, rfl⟩) | go_quiet (fail))
          go_ret
          exact ⟨ret_bool (by rw [HN.out]), (C2.out _).1⟩
      · have hf : fullI k = 65535 := (fullI_of h).trans (by decide)
        cases h1 : decide ((65535 : Int) < (m.mask k : Int))
        · cases h2 : (bits .and .u64 (m.val k) (m.mask k) == (m.val k : Int))
          · have HN := Lib.hid (lawR_no hlt (show lrI k (m.val k) (m.mask k) = false by unfold lrI; rw [hf, h1, h2]; rfl))
            have h3 : (bits .and .u64 (m.val k) (m.mask k) != (m.val k : Int)) = true := by simp [bne, h2]
            clear h2 hf
            go_wp2_with (first | (go_at_call 24; refine (head_Width _ _ C.out.2.1).mono ?_; rintro e w1 ⟨rfl, rfl⟩) | go_quiet (fail))
            go_ret
            exact ⟨ret_bool (by rw [HN.out]), (C2.out _).1⟩
          · have HY := Lib.hid (show lrI k (m.val k) (m.mask k) = true by unfold lrI; rw [hf, h1, h2]; rfl)
            have h3 : (bits .and .u64 (m.val k) (m.mask k) != (m.val k : Int)) = false := by simp [bne, h2]
            have HJ2 : Hid (∀ j : Nat, j < k + 1 → lrI j (m.val j) (m.mask j) = true) := Lib.hid fun j hj => by
              rcases (by omega : j < k ∨ j = k) with h | rfl
              · exact HJ.out j h
              · exact HY.out
            clear h2 hf HJ
            go_wp2_with (first | (go_at_call 24; refine (head_Width _ _ C.out.2.1).mono ?_; rintro e w1 ⟨rfl, rfl⟩) | go_quiet (fail))
            refine ⟨⟨k + 1, by omega, by simp, HJ2.out, C2.out _⟩, by simp [intOf]; omega⟩
        · have HN := Lib.hid (lawR_no hlt (show lrI k (m.val k) (m.mask k) = false by unfold lrI; rw [hf, h1]; rfl))
          clear hf
          go_wp2_with (first | (go_at_call 24; refine (head_Width _ _ C.out.2.1).mono ?_; rintro e w1 ⟨rfl, rfl⟩) | go_quiet (fail))
          go_ret
          exact ⟨ret_bool (by rw [HN.out]), (C2.out _).1⟩
      · have hf : fullI k = 4294967295 := (fullI_of h).trans (by decide)
        cases h1 : decide ((4294967295 : Int) < (m.mask k : Int))
        · cases h2 : (bits .and .u64 (m.val k) (m.mask k) == (m.val k : Int))
          · have HN := Lib.hid (lawR_no hlt (show lrI k (m.val k) (m.mask k) = false by unfold lrI; rw [hf, h1, h2]; rfl))
            have h3 : (bits .and .u64 (m.val k) (m.mask k) != (m.val k : Int)) = true := by simp [bne, h2]
            clear h2 hf
            go_wp2_with (first | (go_at_call 24; refine (head_Width _ _ C.out.2.1).mono ?_; rintro e w1 ⟨rfl, rfl⟩) | go_quiet (fail))
            go_ret
            exact ⟨ret_bool (by rw [HN.out]), (C2.out _).1⟩
          · have HY := Lib.hid (show lrI k (m.val k) (m.mask k) = true by unfold lrI; rw [hf, h1, h2]; rfl)
            have h3 : (bits .and .u64 (m.val k) (m.mask k) != (m.val k : Int)) = false := by simp [bne, h2]
            have HJ2 : Hid (∀ j : Nat, j < k + 1 → lrI j (m.val j) (m.mask j) = true) := Lib.hid fun j hj => by
              rcases (by omega : j < k ∨ j = k) with h | rfl
              · exact HJ.out j h
              · exact HY.out
            clear h2 hf HJ
            go_wp2_with (first | (go_at_call 24; refine (head_Width _ _ C.out.2.1).mono ?_; rintro e w1 ⟨rfl, rfl⟩) | go_quiet (fail))
            refine ⟨⟨k + 1, by omega, by simp, HJ2.out, C2.out _⟩, by simp [intOf]; omega⟩
        · have HN := Lib.hid (lawR_no hlt (show lrI k (m.val k) (m.mask k) = false by unfold lrI; rw [hf, h1]; rfl))
          clear hf
          go_wp2_with (first | (go_at_call 24; refine (head_Width _ _ C.out.2.1).mono ?_; rintro e w1 ⟨rfl, rfl⟩) | go_quiet (fail))
          go_ret
          exact ⟨ret_bool (by rw [HN.out]), (C2.out _).1⟩
      · have hf : fullI k = 281474976710655 := (fullI_of h).trans (by decide)
        cases h1 : decide ((281474976710655 : Int) < (m.mask k : Int))
        · cases h2 : (bits .and .u64 (m.val k) (m.mask k) == (m.val k : Int))
          · have HN := Lib.hid (lawR_no hlt (show lrI k (m.val k) (m.mask k) = false by unfold lrI; rw [hf, h1, h2]; rfl))
            have h3 : (bits .and .u64 (m.val k) (m.mask k) != (m.val k : Int)) = true := by simp [bne, h2]
            clear h2 hf
            go_wp2_with (first | (go_at_call 24; refine (head_Width _ _ C.out.2.1).mono ?_; rintro e w1 ⟨rfl, rfl⟩) | go_quiet (fail))
            go_ret
            exact ⟨ret_bool (by rw [HN.out]), (C2.out _).1⟩
          · have HY := Lib.hid (show lrI k (m.val k) (m.mask k) = true by unfold lrI; rw [hf, h1, h2]; rfl)
            have h3 : (bits .and .u64 (m.val k) (m.mask k) != (m.val k : Int)) = false := by simp [bne, h2]
            have HJ2 : Hid (∀ j : Nat, j < k + 1 → lrI j (m.val j) (m.mask j) = true) := Lib.hid fun j hj => by
              rcases (by omega : j < k ∨ j = k) with h | rfl
              · exact HJ.out j h
              · exact HY.out
            clear h2 hf HJ
            go_wp2_with (first | (go_at_call 24; refine (head_Width _ _ C.out.2.1).mono ?_; rintro e w1 ⟨rfl, rfl⟩) | go_quiet (fail))
            refine ⟨⟨k + 1, by omega, by simp, HJ2.out, C2.out _⟩, by simp [intOf]; omega⟩
        · have HN := Lib.hid (lawR_no hlt (show lrI k (m.val k) (m.mask k) = false by unfold lrI; rw [hf, h1]; rfl))
          clear hf
          go_wp2_with (first | (go_at_call 24; refine (head_Width _ _ C.out.2.1).mono ?_; rintro e w1 ⟨rfl, rfl⟩) | go_quiet (fail))
          go_ret
          exact ⟨ret_bool (by rw [HN.out]), (C2.out _).1⟩
    · obtain rfl : k = 9 := by omega
      have HY := Lib.hid (lawR_yes HJ.out)
      clear HJ
      go_wp2_with fail
      go_ret
      exact ⟨ret_bool (by rw [HY.out]), C.out.1⟩

/-! ### example -/
def ex1 : Mt := m1 8 80 65520
def ex2 : Mt := m1 8 100 65535
def hd (p : Int) : Hdr := ⟨0, 0, 0, 0, 0, 0, 0, 0, 0, 0, 0, 0, 0, 0, 0, 0, 0, 0, p⟩
theorem hd_ok (p : Int) (h : I64 p) : (hd p).Ok := by constructor <;> simp [hd, I64, U32, Byte]; exact h
theorem ex_on : onOk 8 (80 : Nat) (65520 : Nat) = true := by decide +kernel
theorem ex_exact : onOk 8 (100 : Nat) (fullN 8) = true := by decide +kernel
theorem ex_onM : onM 8 80 65520 = ex1 := by unfold onM; rw [ex_on]; rfl
theorem ex_exactM : onM 8 100 (fullN 8) = ex2 := by unfold onM; rw [ex_exact]; rfl
theorem ex1_ok : ex1.Ok := ⟨fun k _ => by show (if k = 8 then 80 else 0) < _; split <;> decide, fun k _ => by show (if k = 8 then 65520 else 0) < _; split <;> decide⟩
theorem ex2_ok : ex2.Ok := ⟨fun k _ => by show (if k = 8 then 100 else 0) < _; split <;> decide, fun k _ => by show (if k = 8 then 65535 else 0) < _; split <;> decide⟩
theorem ex_and : andOk ex1 ex2 = false := by decide +kernel
theorem ex_andM : andM ex1 ex2 = mt0 := by unfold andM; rw [ex_and]; rfl
theorem ex_95 : hitsM ex1 (hd 95) = true := by decide +kernel
theorem ex_96 : hitsM ex1 (hd 96) = false := by decide +kernel
set_option maxRecDepth 100000 in
set_option maxHeartbeats 3200000 in
theorem law_example (w : World) (hT : Wid w) :
    Calls Tryd.prog 7 #[] w fun e w' => e = .returned (.bool true) ∧ Below w.heap.size w w' := by
  have HT := Lib.hid hT
  clear hT
  go_enter Tryd.func7, Tryd.ntmps7
  go_wp2_with fail
  refine (match_On 8 (80 : Nat) (65520 : Nat) _ HT.out).mono ?_
  rintro e w1 ⟨rfl, hB⟩
  rw [ex_on, ex_onM, show errI true = 0 from rfl]
  have HT1 := Lib.hid (HT.out.below hB)
  go_wp2_with (refine st_fresh rfl 25 _ _ rfl rfl (mtC mt0) (mtC ex1) rfl (by kernel_rfl) rfl (mt_one _) ?_)
  obtain ⟨W2, hW2, h1, hb⟩ := boxM w1 ex1
  rw [← hW2]; clear hW2
  replace hB := below_on hB hb
  clear hb HT1
  refine (match_Exact 8 (100 : Nat) _ (HT.out.below hB)).mono ?_
  rintro e w3 ⟨rfl, hb⟩
  rw [ex_exact, ex_exactM, show errI true = 0 from rfl]
  replace h1 := h1.below hb
  replace hB := below_on hB hb
  clear hb
  have H1 := Lib.hid h1
  clear h1
  go_wp2_with (first | (refine st_fresh rfl 25 _ _ rfl rfl (mtC mt0) (mtC ex2) rfl (by kernel_rfl) rfl (mt_one _) ?_) | (with_reducible refine halt_at (X := .load 25 (.tmp 1)) ?_ ?_; (· rfl)))
  obtain ⟨W4, hW4, h2, hb⟩ := boxM w3 ex2
  rw [← hW4]; clear hW4
  have h1 := H1.out.below hb
  replace hB := below_on hB hb
  clear hb H1
  unfold Halt
  refine ld_at (by rfl) 25 (.tmp 1) rfl w1.heap.size rfl 25 (mtC (ex1)) (0, 0) _ h1 Tryd.underlying25 rfl (by kernel_rfl) ?_
  have H1 := Lib.hid h1
  have H2 := Lib.hid h2
  clear h1 h2
  go_wp2_with (with_reducible refine halt_at (X := .load 25 (.tmp 3)) ?_ ?_; (· rfl))
  unfold Halt
  refine ld_at (by rfl) 25 (.tmp 3) rfl w3.heap.size rfl 25 (mtC (ex2)) (0, 0) _ H2.out Tryd.underlying25 rfl (by kernel_rfl) ?_
  go_wp2_with fail
  refine (match_And ex1 ex2 _ ex1_ok ex2_ok).mono ?_
  rintro e w5 ⟨rfl, hb⟩
  rw [ex_and, ex_andM]
  have h1 := H1.out.below hb
  replace hB := below_on hB hb
  clear hb H1 H2
  have H1 := Lib.hid h1
  clear h1
  go_wp2_with (first | (refine st_fresh rfl 25 _ _ rfl rfl (mtC mt0) (mtC mt0) rfl (by kernel_rfl) rfl (mt_one _) ?_) | (with_reducible refine halt_at (X := .load 25 (.tmp 1)) ?_ ?_; (· rfl)))
  obtain ⟨W6, hW6, _, hb⟩ := boxM w5 mt0
  rw [← hW6]; clear hW6
  have h1 := H1.out.below hb
  replace hB := below_on hB hb
  clear hb H1
  unfold Halt
  refine ld_at (by rfl) 25 (.tmp 1) rfl w1.heap.size rfl 25 (mtC (ex1)) (0, 0) _ h1 Tryd.underlying25 rfl (by kernel_rfl) ?_
  have H1 := Lib.hid h1
  clear h1
  go_wp2_with fail
  refine (match_Hits ex1 (hd 95) _ (HT.out.below hB) (hd_ok 95 (by simp [I64]))).mono ?_
  rintro e w7 ⟨rfl, hb⟩
  rw [ex_95]
  have h1 := H1.out.below hb
  replace hB := below_on hB hb
  clear hb H1
  have H1 := Lib.hid h1
  clear h1
  go_wp2_with (with_reducible refine halt_at (X := .load 25 (.tmp 1)) ?_ ?_; (· rfl))
  unfold Halt
  refine ld_at (by rfl) 25 (.tmp 1) rfl w1.heap.size rfl 25 (mtC (ex1)) (0, 0) _ H1.out Tryd.underlying25 rfl (by kernel_rfl) ?_
  go_wp2_with fail
  refine (match_Hits ex1 (hd 96) _ (HT.out.below hB) (hd_ok 96 (by simp [I64]))).mono ?_
  rintro e w8 ⟨rfl, hb⟩
  rw [ex_96]
  replace hB := below_on hB hb
  clear hb H1
  go_wp2_with fail
  go_ret
  exact ⟨ret_bool rfl, hB⟩
end Go.Proofs.YtkcikblecinnfaaDoor
