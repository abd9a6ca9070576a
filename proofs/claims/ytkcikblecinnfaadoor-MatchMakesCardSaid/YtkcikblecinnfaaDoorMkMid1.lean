/-
  MatchMakes, walks: by cases (MkMid1).
-/
import Derived.Test.YtkcikblecinnfaaDoorMkBase
namespace Go.Proofs.YtkcikblecinnfaaDoor
open Go.RowKit
set_option maxRecDepth 100000 in
set_option maxHeartbeats 3200000 in
theorem mk_mid_01 (f : Nat) (hf0 : (0 : Int) ≤ f) (hf9 : (f : Int) < 9) (ne4 : ((f : Int) == 4) = false) (ne5 : ((f : Int) == 5) = false) (v k a : Nat) (n : Int) (h : Hdr) (w : World) (hT : Wid w) (X M : Mt) (g : Nat) (F : Int) (h2 : Bool)
    (hOn : ∀ W, Wid W → Calls Tryd.prog 12 #[.int .i64 (f : Nat), .int .u64 v, .int .u64 k] W fun e w' => e = .returned (.tuple #[mtV mt0, .int .i64 1]) ∧ Below W.heap.size W w')
    (hEx : ∀ W, Wid W → Calls Tryd.prog 14 #[.int .i64 (f : Nat), .int .u64 v] W fun e w' => e = .returned (.tuple #[mtV X, .int .i64 0]) ∧ Below W.heap.size W w')
    (hNet : ∀ W, Wid W → Calls Tryd.prog 15 #[.int .i64 (f : Nat), .agg #[.int .u32 a, .int .i64 n]] W fun e w' => e = .returned (.tuple #[mtV M, .int .i64 1]) ∧ Below W.heap.size W w')
    (hFull : ∀ W, Wid W → Calls Tryd.prog 13 #[.int .i64 (f : Nat)] W fun e w' => e = .returned (.int .u64 F) ∧ W = w')
    (dk : decide ((k : Int) ≤ F) = false)
    (dv : decide ((v : Int) ≤ F) = true)
    (hG : ∀ W, Wid W → Calls Tryd.prog 10 #[hdrV h, .int .i64 (f : Nat)] W fun e w' => e = .returned (.int .u64 (g : Nat)) ∧ Below W.heap.size W w')
    (hH2 : ∀ W, Wid W → Calls Tryd.prog 11 #[mtV X, hdrV h] W fun e w' => e = .returned (.bool h2) ∧ Below W.heap.size W w')
    (e2 : ((g : Int) == (v : Int)) = h2) :
    Calls Tryd.prog 4 #[.int .i64 (f : Nat), .int .u64 v, .int .u64 k, .agg #[.int .u32 a, .int .i64 n], hdrV h] w fun e w' => e = .returned (.bool true) ∧ Below w.heap.size w w' := by
  have HOn := Lib.hid hOn
  have HEx := Lib.hid hEx
  have HNet := Lib.hid hNet
  have HFull := Lib.hid hFull
  have HG := Lib.hid hG
  have HH2 := Lib.hid hH2
  clear hOn hEx hNet hFull hG hH2
  obtain ⟨W1, hW1, hM⟩ := mem_first w a n h hT
  have C := Lib.hid hM
  clear hM hT
  go_enter Tryd.func4, Tryd.ntmps4
  go_wp2_with fail
  rw [← hW1]
  clear hW1
  refine (law_example _ C.out.2.1).mono ?_
  rintro e w2 ⟨rfl, hb⟩
  have C' := Lib.hid (C.out.below hb)
  clear hb C 
  have C := C'
  clear C' 
  go_wp2_with fail
  refine (HOn.out _ C.out.2.1).mono ?_
  rintro e w3 ⟨rfl, hb⟩
  have C' := Lib.hid (C.out.below hb)
  clear hb C 
  have C := C'
  clear C' 
  go_wp2_with (first | (refine st_fresh rfl 25 _ _ rfl rfl (mtC mt0) (mtC mt0) rfl (by kernel_rfl) rfl (mt_one _) ?_) | (with_reducible refine halt_at (X := .binOp .geq 36 (.tmp 29) (.const (.int .i64 0)) 36) ?_ ?_; (· rfl)))
  obtain ⟨W4, hW, bp, hb⟩ := boxM w3 mt0
  rw [← hW]
  clear hW
  have BP := Lib.hid bp
  clear bp
  have C' := Lib.hid (C.out.below hb)
  clear hb C 
  have C := C'
  clear C' 
  unfold Halt
  go_wp2_with (go_at_call 13; refine (HFull.out _ C.out.2.1).mono ?_; rintro e _ ⟨rfl, rfl⟩)
  refine wp_region_held_drew (S := fun w' => Below W4.heap.size W4 w') (by kernel_rfl) ?_ (fun hHeld => ?_)
  · exact (Below.refl _ _).drew
  generalize World.drew W4 = wd at hHeld ⊢
  refine rgy (i := 0) (v := ?_) (atN rfl) (by kernel_rfl) (fun _ _ _ h => h) ?_ ?_ hHeld ?_; rotate_left 1; (· rfl); (· intro w' hSw; (try clear hHeld); go_simp; try with_reducible rfl)
  try simp only [Act.put, List.setIfInBounds_toArray, List.set_cons_zero, List.set_cons_succ]
  refine rgy (i := 1) (v := ?_) (atN rfl) (by kernel_rfl) (fun _ _ _ h => h) ?_ ?_ hHeld ?_; rotate_left 1; (· rfl); (· intro w' hSw; (try clear hHeld); go_simp; try with_reducible rfl)
  try simp only [Act.put, List.setIfInBounds_toArray, List.set_cons_zero, List.set_cons_succ]
  refine rgy (i := 2) (v := ?_) (atN rfl) (by kernel_rfl) (fun _ _ _ h => h) ?_ ?_ hHeld ?_; rotate_left 1; (· rfl); (· intro w' hSw; (try clear hHeld); go_simp; try with_reducible rfl)
  try simp only [Act.put, List.setIfInBounds_toArray, List.set_cons_zero, List.set_cons_succ]
  refine rgy (i := 3) (v := ?_) (atN rfl) (by kernel_rfl) (fun _ _ _ h => h) ?_ ?_ hHeld ?_; rotate_left 1; (· rfl); (· intro w' hSw; (try clear hHeld); go_simp; try with_reducible rfl)
  try simp only [Act.put, List.setIfInBounds_toArray, List.set_cons_zero, List.set_cons_succ]
  refine rgy (i := 4) (v := ?_) (atN rfl) (by kernel_rfl) (fun _ _ _ h => h) ?_ ?_ hHeld ?_; rotate_left 1; (· rfl); (· intro w' hSw; (try clear hHeld); go_simp; try with_reducible rfl)
  try simp only [Act.put, List.setIfInBounds_toArray, List.set_cons_zero, List.set_cons_succ]
  first | (refine rgn (i := 5) (atN rfl) (by kernel_rfl) (fun _ _ _ h => h) ?_ hHeld ?_; (· rfl)) | (refine rgy (i := 5) (v := ?_) (atN rfl) (by kernel_rfl) (fun _ _ _ h => h) ?_ ?_ hHeld ?_; rotate_left 1; (· rfl); (· intro w' hSw; (try clear hHeld); go_simp; try with_reducible rfl))
  try simp only [Act.put, List.setIfInBounds_toArray, List.set_cons_zero, List.set_cons_succ]
  first | (refine rgn (i := 6) (atN rfl) (by kernel_rfl) (fun _ _ _ h => h) ?_ hHeld ?_; (· rfl)) | (refine rgy (i := 6) (v := ?_) (atN rfl) (by kernel_rfl) (fun _ _ _ h => h) ?_ ?_ hHeld ?_; rotate_left 1; (· rfl); (· intro w' hSw; (try clear hHeld); go_simp; try with_reducible rfl))
  try simp only [Act.put, List.setIfInBounds_toArray, List.set_cons_zero, List.set_cons_succ]
  first | (refine rgn (i := 7) (atN rfl) (by kernel_rfl) (fun _ _ _ h => h) ?_ hHeld ?_; (· rfl)) | (refine rgy (i := 7) (v := ?_) (atN rfl) (by kernel_rfl) (fun _ _ _ h => h) ?_ ?_ hHeld ?_; rotate_left 1; (· rfl); (· intro w' hSw; (try clear hHeld); go_simp; try with_reducible rfl))
  try simp only [Act.put, List.setIfInBounds_toArray, List.set_cons_zero, List.set_cons_succ]
  first | (refine rgn (i := 8) (atN rfl) (by kernel_rfl) (fun _ _ _ h => h) ?_ hHeld ?_; (· rfl)) | (refine rgy (i := 8) (v := ?_) (atN rfl) (by kernel_rfl) (fun _ _ _ h => h) ?_ ?_ hHeld ?_; rotate_left 1; (· rfl); (· intro w' hSw; (try clear hHeld); go_simp; try with_reducible rfl))
  try simp only [Act.put, List.setIfInBounds_toArray, List.set_cons_zero, List.set_cons_succ]
  first | (refine rgn (i := 9) (atN rfl) (by kernel_rfl) (fun _ _ _ h => h) ?_ hHeld ?_; (· rfl)) | (refine rgy (i := 9) (v := ?_) (atN rfl) (by kernel_rfl) (fun _ _ _ h => h) ?_ ?_ hHeld ?_; rotate_left 1; (· rfl); (· intro w' hSw; (try clear hHeld); go_simp; try with_reducible rfl))
  try simp only [Act.put, List.setIfInBounds_toArray, List.set_cons_zero, List.set_cons_succ]
  first | (refine rgn (i := 10) (atN rfl) (by kernel_rfl) (fun _ _ _ h => h) ?_ hHeld ?_; (· rfl)) | (refine rgy (i := 10) (v := ?_) (atN rfl) (by kernel_rfl) (fun _ _ _ h => h) ?_ ?_ hHeld ?_; rotate_left 1; (· rfl); (· intro w' hSw; (try clear hHeld); go_simp; try with_reducible rfl))
  try simp only [Act.put, List.setIfInBounds_toArray, List.set_cons_zero, List.set_cons_succ]
  first | (refine rgn (i := 11) (atN rfl) (by kernel_rfl) (fun _ _ _ h => h) ?_ hHeld ?_; (· rfl)) | (refine rgy (i := 11) (v := ?_) (atN rfl) (by kernel_rfl) (fun _ _ _ h => h) ?_ ?_ hHeld ?_; rotate_left 1; (· rfl); (· intro w' hSw; refine exec_ld 25 (.tmp 11) ?_ w3.heap.size ?_ 25 _ (0, 0) _ (BP.out.below hSw) Tryd.underlying25 rfl (by kernel_rfl) <;> rfl))
  try simp only [Act.put, List.setIfInBounds_toArray, List.set_cons_zero, List.set_cons_succ]
  first | (refine rgn (i := 12) (atN rfl) (by kernel_rfl) (fun _ _ _ h => h) ?_ hHeld ?_; (· rfl)) | (refine rgy (i := 12) (v := ?_) (atN rfl) (by kernel_rfl) (fun _ _ _ h => h) ?_ ?_ hHeld ?_; rotate_left 1; (· rfl); (· intro w' hSw; (try clear hHeld); go_simp; try with_reducible rfl))
  try simp only [Act.put, List.setIfInBounds_toArray, List.set_cons_zero, List.set_cons_succ]
  first | (refine rgn (i := 13) (atN rfl) (by kernel_rfl) (fun _ _ _ h => h) ?_ hHeld ?_; (· rfl)) | (refine rgy (i := 13) (v := ?_) (atN rfl) (by kernel_rfl) (fun _ _ _ h => h) ?_ ?_ hHeld ?_; rotate_left 1; (· rfl); (· intro w' hSw; (try clear hHeld); go_simp; try with_reducible rfl))
  try simp only [Act.put, List.setIfInBounds_toArray, List.set_cons_zero, List.set_cons_succ]
  first | (refine rgn (i := 14) (atN rfl) (by kernel_rfl) (fun _ _ _ h => h) ?_ hHeld ?_; (· rfl)) | (refine rgy (i := 14) (v := ?_) (atN rfl) (by kernel_rfl) (fun _ _ _ h => h) ?_ ?_ hHeld ?_; rotate_left 1; (· rfl); (· intro w' hSw; (try clear hHeld); go_simp; try with_reducible rfl))
  try simp only [Act.put, List.setIfInBounds_toArray, List.set_cons_zero, List.set_cons_succ]
  first | (refine rgn (i := 15) (atN rfl) (by kernel_rfl) (fun _ _ _ h => h) ?_ hHeld ?_; (· rfl)) | (refine rgy (i := 15) (v := ?_) (atN rfl) (by kernel_rfl) (fun _ _ _ h => h) ?_ ?_ hHeld ?_; rotate_left 1; (· rfl); (· intro w' hSw; (try clear hHeld); go_simp; try with_reducible rfl))
  try simp only [Act.put, List.setIfInBounds_toArray, List.set_cons_zero, List.set_cons_succ]
  refine rgy (i := 16) (v := ?_) (atN rfl) (by kernel_rfl) (fun _ _ _ h => h) ?_ ?_ hHeld ?_; rotate_left 1; (· rfl); (· intro w' hSw; (try clear hHeld); go_simp; try with_reducible rfl)
  try simp only [Act.put, List.setIfInBounds_toArray, List.set_cons_zero, List.set_cons_succ]
  refine rgy (i := 17) (v := ?_) (atN rfl) (by kernel_rfl) (fun _ _ _ h => h) ?_ ?_ hHeld ?_; rotate_left 1; (· rfl); (· intro w' hSw; (try clear hHeld); go_simp; try with_reducible rfl)
  try simp only [Act.put, List.setIfInBounds_toArray, List.set_cons_zero, List.set_cons_succ]
  first | (refine rgn (i := 18) (atN rfl) (by kernel_rfl) (fun _ _ _ h => h) ?_ hHeld ?_; (· rfl)) | (refine rgy (i := 18) (v := ?_) (atN rfl) (by kernel_rfl) (fun _ _ _ h => h) ?_ ?_ hHeld ?_; rotate_left 1; (· rfl); (· intro w' hSw; (try clear hHeld); go_simp; try with_reducible rfl))
  try simp only [Act.put, List.setIfInBounds_toArray, List.set_cons_zero, List.set_cons_succ]
  first | (refine rgn (i := 19) (atN rfl) (by kernel_rfl) (fun _ _ _ h => h) ?_ hHeld ?_; (· rfl)) | (refine rgy (i := 19) (v := ?_) (atN rfl) (by kernel_rfl) (fun _ _ _ h => h) ?_ ?_ hHeld ?_; rotate_left 1; (· rfl); (· intro w' hSw; (try clear hHeld); go_simp; try with_reducible rfl))
  try simp only [Act.put, List.setIfInBounds_toArray, List.set_cons_zero, List.set_cons_succ]
  first | (refine rgn (i := 20) (atN rfl) (by kernel_rfl) (fun _ _ _ h => h) ?_ hHeld ?_; (· rfl)) | (refine rgy (i := 20) (v := ?_) (atN rfl) (by kernel_rfl) (fun _ _ _ h => h) ?_ ?_ hHeld ?_; rotate_left 1; (· rfl); (· intro w' hSw; refine exec_ld 25 (.tmp 11) ?_ w3.heap.size ?_ 25 _ (0, 0) _ (BP.out.below hSw) Tryd.underlying25 rfl (by kernel_rfl) <;> rfl))
  try simp only [Act.put, List.setIfInBounds_toArray, List.set_cons_zero, List.set_cons_succ]
  first | (refine rgn (i := 21) (atN rfl) (by kernel_rfl) (fun _ _ _ h => h) ?_ hHeld ?_; (· rfl)) | (refine rgy (i := 21) (v := ?_) (atN rfl) (by kernel_rfl) (fun _ _ _ h => h) ?_ ?_ hHeld ?_; rotate_left 1; (· rfl); (· intro w' hSw; refine exec_ld 31 (.tmp 9) ?_ (w.heap.size + 1) ?_ 31 _ (0, 0) _ (C.out.2.2.2.2.below hSw) Tryd.underlying31 rfl (by kernel_rfl) <;> rfl))
  try simp only [Act.put, List.setIfInBounds_toArray, List.set_cons_zero, List.set_cons_succ]
  first | (refine rgn (i := 23) (atN rfl) (by kernel_rfl) (fun _ _ _ h => h) ?_ hHeld ?_; (· rfl)) | (refine rgy (i := 23) (v := ?_) (atN rfl) (by kernel_rfl) (fun _ _ _ h => h) ?_ ?_ hHeld ?_; rotate_left 1; (· rfl); (· intro w' hSw; refine exec_ld 31 (.tmp 9) ?_ (w.heap.size + 1) ?_ 31 _ (0, 0) _ (C.out.2.2.2.2.below hSw) Tryd.underlying31 rfl (by kernel_rfl) <;> rfl))
  try simp only [Act.put, List.setIfInBounds_toArray, List.set_cons_zero, List.set_cons_succ]
  first | (refine rgn (i := 24) (atN rfl) (by kernel_rfl) (fun _ _ _ h => h) ?_ hHeld ?_; (· rfl)) | (refine rgy (i := 24) (v := ?_) (atN rfl) (by kernel_rfl) (fun _ _ _ h => h) ?_ ?_ hHeld ?_; rotate_left 1; (· rfl); (· intro w' hSw; (try clear hHeld); go_simp; try with_reducible rfl))
  try simp only [Act.put, List.setIfInBounds_toArray, List.set_cons_zero, List.set_cons_succ]
  first | (refine rgn (i := 26) (atN rfl) (by kernel_rfl) (fun _ _ _ h => h) ?_ hHeld ?_; (· rfl)) | (refine rgy (i := 26) (v := ?_) (atN rfl) (by kernel_rfl) (fun _ _ _ h => h) ?_ ?_ hHeld ?_; rotate_left 1; (· rfl); (· intro w' hSw; (try clear hHeld); go_simp; try with_reducible rfl))
  try simp only [Act.put, List.setIfInBounds_toArray, List.set_cons_zero, List.set_cons_succ]
  first | (refine rgn (i := 28) (atN rfl) (by kernel_rfl) (fun _ _ _ h => h) ?_ hHeld ?_; (· rfl)) | (refine rgy (i := 28) (v := ?_) (atN rfl) (by kernel_rfl) (fun _ _ _ h => h) ?_ ?_ hHeld ?_; rotate_left 1; (· rfl); (· intro w' hSw; (try clear hHeld); go_simp; try with_reducible rfl))
  try simp only [Act.put, List.setIfInBounds_toArray, List.set_cons_zero, List.set_cons_succ]
  first | (refine rgn (i := 22) (atN rfl) (by kernel_rfl) (fun _ _ _ h => h) ?_ hHeld ?_; (· rfl)) | (refine rg_call (i := 22) (atN rfl) (by kernel_rfl) ?_ (fun K hK => ?_); (· rfl); (try clear hb); go_simp; (refine (HH1.out _ (C.out.2.1.below hHeld)).mono ?_; rintro e w1 ⟨rfl, hb⟩); go_wp2_with fail; refine hK.out _ _ ?_ (fun hHeld => ?_); (· exact hHeld.trans (hb.mono hHeld.size)); clear hK K)
  try simp only [Act.put, List.setIfInBounds_toArray, List.set_cons_zero, List.set_cons_succ]
  first | (refine rgn (i := 25) (atN rfl) (by kernel_rfl) (fun _ _ _ h => h) ?_ hHeld ?_; (· rfl)) | (refine rg_call (i := 25) (atN rfl) (by kernel_rfl) ?_ (fun K hK => ?_); (· rfl); (try clear hb); go_simp; (refine (HG.out _ (C.out.2.1.below hHeld)).mono ?_; rintro e w1 ⟨rfl, hb⟩); go_wp2_with fail; refine hK.out _ _ ?_ (fun hHeld => ?_); (· exact hHeld.trans (hb.mono hHeld.size)); clear hK K)
  try simp only [Act.put, List.setIfInBounds_toArray, List.set_cons_zero, List.set_cons_succ]
  first | (refine rgn (i := 27) (atN rfl) (by kernel_rfl) (fun _ _ _ h => h) ?_ hHeld ?_; (· rfl)) | (refine rgy (i := 27) (v := ?_) (atN rfl) (by kernel_rfl) (fun _ _ _ h => h) ?_ ?_ hHeld ?_; rotate_left 1; (· rfl); (· intro w' hSw; (try clear hHeld); go_simp; try with_reducible rfl))
  try simp only [Act.put, List.setIfInBounds_toArray, List.set_cons_zero, List.set_cons_succ]
  first | (refine rgn (i := 29) (atN rfl) (by kernel_rfl) (fun _ _ _ h => h) ?_ hHeld ?_; (· rfl)) | (refine rgy (i := 29) (v := ?_) (atN rfl) (by kernel_rfl) (fun _ _ _ h => h) ?_ ?_ hHeld ?_; rotate_left 1; (· rfl); (· intro w' hSw; (try clear hHeld); go_simp; try with_reducible rfl))
  try simp only [Act.put, List.setIfInBounds_toArray, List.set_cons_zero, List.set_cons_succ]
  first | (refine rgn (i := 30) (atN rfl) (by kernel_rfl) (fun _ _ _ h => h) ?_ hHeld ?_; (· rfl)) | (refine rgy (i := 30) (v := ?_) (atN rfl) (by kernel_rfl) (fun _ _ _ h => h) ?_ ?_ hHeld ?_; rotate_left 1; (· rfl); (· intro w' hSw; (try clear hHeld); go_simp; try with_reducible rfl))
  try simp only [Act.put, List.setIfInBounds_toArray, List.set_cons_zero, List.set_cons_succ]
  first | (refine rgn (i := 31) (atN rfl) (by kernel_rfl) (fun _ _ _ h => h) ?_ hHeld ?_; (· rfl)) | (refine rgy (i := 31) (v := ?_) (atN rfl) (by kernel_rfl) (fun _ _ _ h => h) ?_ ?_ hHeld ?_; rotate_left 1; (· rfl); (· intro w' hSw; (try clear hHeld); go_simp; try with_reducible rfl))
  try simp only [Act.put, List.setIfInBounds_toArray, List.set_cons_zero, List.set_cons_succ]
  refine rgy (i := 32) (v := ?_) (atN rfl) (by kernel_rfl) (fun _ _ _ h => h) ?_ ?_ hHeld ?_; rotate_left 1; (· rfl); (· intro w' hSw; (try clear hHeld); go_simp; try with_reducible rfl)
  try simp only [Act.put, List.setIfInBounds_toArray, List.set_cons_zero, List.set_cons_succ]
  refine wpAnyH_done (by kernel_rfl) ?_ _
  have hb := hHeld
  clear BP
  have C' := Lib.hid (C.out.below hb)
  clear hb hHeld C
  have C := C'
  clear C'
  go_wp2_with fail
  refine (HEx.out _ C.out.2.1).mono ?_
  rintro e w5 ⟨rfl, hb⟩
  have C' := Lib.hid (C.out.below hb)
  clear hb C 
  have C := C'
  clear C' 
  go_wp2_with (first | (refine st_fresh rfl 25 _ _ rfl rfl (mtC mt0) (mtC X) rfl (by kernel_rfl) rfl (mt_one _) ?_) | (with_reducible refine halt_at (X := .binOp .geq 36 (.tmp 86) (.const (.int .i64 0)) 36) ?_ ?_; (· rfl)))
  obtain ⟨W6, hW, bx, hb⟩ := boxM w5 X
  rw [← hW]
  clear hW
  have BX := Lib.hid bx
  clear bx
  have C' := Lib.hid (C.out.below hb)
  clear hb C 
  have C := C'
  clear C' 
  unfold Halt
  go_wp2_with (go_at_call 13; refine (HFull.out _ C.out.2.1).mono ?_; rintro e _ ⟨rfl, rfl⟩)
  refine wp_region_held_drew (S := fun w' => Below W6.heap.size W6 w') (by kernel_rfl) ?_ (fun hHeld => ?_)
  · exact (Below.refl _ _).drew
  generalize World.drew W6 = wd at hHeld ⊢
  refine rgy (i := 0) (v := ?_) (atN rfl) (by kernel_rfl) (fun _ _ _ h => h) ?_ ?_ hHeld ?_; rotate_left 1; (· rfl); (· intro w' hSw; (try clear hHeld); go_simp; try with_reducible rfl)
  try simp only [Act.put, List.setIfInBounds_toArray, List.set_cons_zero, List.set_cons_succ]
  refine rgy (i := 1) (v := ?_) (atN rfl) (by kernel_rfl) (fun _ _ _ h => h) ?_ ?_ hHeld ?_; rotate_left 1; (· rfl); (· intro w' hSw; (try clear hHeld); go_simp; try with_reducible rfl)
  try simp only [Act.put, List.setIfInBounds_toArray, List.set_cons_zero, List.set_cons_succ]
  refine rgy (i := 2) (v := ?_) (atN rfl) (by kernel_rfl) (fun _ _ _ h => h) ?_ ?_ hHeld ?_; rotate_left 1; (· rfl); (· intro w' hSw; (try clear hHeld); go_simp; try with_reducible rfl)
  try simp only [Act.put, List.setIfInBounds_toArray, List.set_cons_zero, List.set_cons_succ]
  refine rgy (i := 3) (v := ?_) (atN rfl) (by kernel_rfl) (fun _ _ _ h => h) ?_ ?_ hHeld ?_; rotate_left 1; (· rfl); (· intro w' hSw; (try clear hHeld); go_simp; try with_reducible rfl)
  try simp only [Act.put, List.setIfInBounds_toArray, List.set_cons_zero, List.set_cons_succ]
  refine rgy (i := 4) (v := ?_) (atN rfl) (by kernel_rfl) (fun _ _ _ h => h) ?_ ?_ hHeld ?_; rotate_left 1; (· rfl); (· intro w' hSw; (try clear hHeld); go_simp; try with_reducible rfl)
  try simp only [Act.put, List.setIfInBounds_toArray, List.set_cons_zero, List.set_cons_succ]
  first | (refine rgn (i := 5) (atN rfl) (by kernel_rfl) (fun _ _ _ h => h) ?_ hHeld ?_; (· rfl)) | (refine rgy (i := 5) (v := ?_) (atN rfl) (by kernel_rfl) (fun _ _ _ h => h) ?_ ?_ hHeld ?_; rotate_left 1; (· rfl); (· intro w' hSw; (try clear hHeld); go_simp; try with_reducible rfl))
  try simp only [Act.put, List.setIfInBounds_toArray, List.set_cons_zero, List.set_cons_succ]
  first | (refine rgn (i := 6) (atN rfl) (by kernel_rfl) (fun _ _ _ h => h) ?_ hHeld ?_; (· rfl)) | (refine rgy (i := 6) (v := ?_) (atN rfl) (by kernel_rfl) (fun _ _ _ h => h) ?_ ?_ hHeld ?_; rotate_left 1; (· rfl); (· intro w' hSw; (try clear hHeld); go_simp; try with_reducible rfl))
  try simp only [Act.put, List.setIfInBounds_toArray, List.set_cons_zero, List.set_cons_succ]
  first | (refine rgn (i := 7) (atN rfl) (by kernel_rfl) (fun _ _ _ h => h) ?_ hHeld ?_; (· rfl)) | (refine rgy (i := 7) (v := ?_) (atN rfl) (by kernel_rfl) (fun _ _ _ h => h) ?_ ?_ hHeld ?_; rotate_left 1; (· rfl); (· intro w' hSw; refine exec_ld 25 (.tmp 14) ?_ w5.heap.size ?_ 25 _ (0, 0) _ (BX.out.below hSw) Tryd.underlying25 rfl (by kernel_rfl) <;> rfl))
  try simp only [Act.put, List.setIfInBounds_toArray, List.set_cons_zero, List.set_cons_succ]
  first | (refine rgn (i := 8) (atN rfl) (by kernel_rfl) (fun _ _ _ h => h) ?_ hHeld ?_; (· rfl)) | (refine rgy (i := 8) (v := ?_) (atN rfl) (by kernel_rfl) (fun _ _ _ h => h) ?_ ?_ hHeld ?_; rotate_left 1; (· rfl); (· intro w' hSw; refine exec_ld 31 (.tmp 9) ?_ (w.heap.size + 1) ?_ 31 _ (0, 0) _ (C.out.2.2.2.2.below hSw) Tryd.underlying31 rfl (by kernel_rfl) <;> rfl))
  try simp only [Act.put, List.setIfInBounds_toArray, List.set_cons_zero, List.set_cons_succ]
  first | (refine rgn (i := 10) (atN rfl) (by kernel_rfl) (fun _ _ _ h => h) ?_ hHeld ?_; (· rfl)) | (refine rgy (i := 10) (v := ?_) (atN rfl) (by kernel_rfl) (fun _ _ _ h => h) ?_ ?_ hHeld ?_; rotate_left 1; (· rfl); (· intro w' hSw; refine exec_ld 31 (.tmp 9) ?_ (w.heap.size + 1) ?_ 31 _ (0, 0) _ (C.out.2.2.2.2.below hSw) Tryd.underlying31 rfl (by kernel_rfl) <;> rfl))
  try simp only [Act.put, List.setIfInBounds_toArray, List.set_cons_zero, List.set_cons_succ]
  first | (refine rgn (i := 11) (atN rfl) (by kernel_rfl) (fun _ _ _ h => h) ?_ hHeld ?_; (· rfl)) | (refine rgy (i := 11) (v := ?_) (atN rfl) (by kernel_rfl) (fun _ _ _ h => h) ?_ ?_ hHeld ?_; rotate_left 1; (· rfl); (· intro w' hSw; (try clear hHeld); go_simp; try with_reducible rfl))
  try simp only [Act.put, List.setIfInBounds_toArray, List.set_cons_zero, List.set_cons_succ]
  first | (refine rgn (i := 13) (atN rfl) (by kernel_rfl) (fun _ _ _ h => h) ?_ hHeld ?_; (· rfl)) | (refine rgy (i := 13) (v := ?_) (atN rfl) (by kernel_rfl) (fun _ _ _ h => h) ?_ ?_ hHeld ?_; rotate_left 1; (· rfl); (· intro w' hSw; (try clear hHeld); go_simp; try with_reducible rfl))
  try simp only [Act.put, List.setIfInBounds_toArray, List.set_cons_zero, List.set_cons_succ]
  first | (refine rgn (i := 9) (atN rfl) (by kernel_rfl) (fun _ _ _ h => h) ?_ hHeld ?_; (· rfl)) | (refine rg_call (i := 9) (atN rfl) (by kernel_rfl) ?_ (fun K hK => ?_); (· rfl); (try clear hb); go_simp; (refine (HH2.out _ (C.out.2.1.below hHeld)).mono ?_; rintro e w1 ⟨rfl, hb⟩); go_wp2_with fail; refine hK.out _ _ ?_ (fun hHeld => ?_); (· exact hHeld.trans (hb.mono hHeld.size)); clear hK K)
  try simp only [Act.put, List.setIfInBounds_toArray, List.set_cons_zero, List.set_cons_succ]
  first | (refine rgn (i := 12) (atN rfl) (by kernel_rfl) (fun _ _ _ h => h) ?_ hHeld ?_; (· rfl)) | (refine rg_call (i := 12) (atN rfl) (by kernel_rfl) ?_ (fun K hK => ?_); (· rfl); (try clear hb); go_simp; (refine (HG.out _ (C.out.2.1.below hHeld)).mono ?_; rintro e w1 ⟨rfl, hb⟩); go_wp2_with fail; refine hK.out _ _ ?_ (fun hHeld => ?_); (· exact hHeld.trans (hb.mono hHeld.size)); clear hK K)
  try simp only [Act.put, List.setIfInBounds_toArray, List.set_cons_zero, List.set_cons_succ]
  first | (refine rgn (i := 14) (atN rfl) (by kernel_rfl) (fun _ _ _ h => h) ?_ hHeld ?_; (· rfl)) | (refine rgy (i := 14) (v := ?_) (atN rfl) (by kernel_rfl) (fun _ _ _ h => h) ?_ ?_ hHeld ?_; rotate_left 1; (· rfl); (· intro w' hSw; (try clear hHeld); go_simp; try with_reducible rfl))
  try simp only [Act.put, List.setIfInBounds_toArray, List.set_cons_zero, List.set_cons_succ]
  first | (refine rgn (i := 15) (atN rfl) (by kernel_rfl) (fun _ _ _ h => h) ?_ hHeld ?_; (· rfl)) | (refine rgy (i := 15) (v := ?_) (atN rfl) (by kernel_rfl) (fun _ _ _ h => h) ?_ ?_ hHeld ?_; rotate_left 1; (· rfl); (· intro w' hSw; (try clear hHeld); go_simp; try with_reducible rfl))
  try simp only [Act.put, List.setIfInBounds_toArray, List.set_cons_zero, List.set_cons_succ]
  first | (refine rgn (i := 16) (atN rfl) (by kernel_rfl) (fun _ _ _ h => h) ?_ hHeld ?_; (· rfl)) | (refine rgy (i := 16) (v := ?_) (atN rfl) (by kernel_rfl) (fun _ _ _ h => h) ?_ ?_ hHeld ?_; rotate_left 1; (· rfl); (· intro w' hSw; (try clear hHeld); go_simp; try with_reducible rfl))
  try simp only [Act.put, List.setIfInBounds_toArray, List.set_cons_zero, List.set_cons_succ]
  refine rgy (i := 17) (v := ?_) (atN rfl) (by kernel_rfl) (fun _ _ _ h => h) ?_ ?_ hHeld ?_; rotate_left 1; (· rfl); (· intro w' hSw; (try clear hHeld); go_simp; try with_reducible rfl)
  try simp only [Act.put, List.setIfInBounds_toArray, List.set_cons_zero, List.set_cons_succ]
  refine wpAnyH_done (by kernel_rfl) ?_ _
  have hb := hHeld
  clear BX
  have C' := Lib.hid (C.out.below hb)
  clear hb hHeld C
  have C := C'
  clear C'
  have c0 := C.out.2.2.1
  have c1 := C.out.2.2.2.1
  go_wp2_with fail
  clear c0 c1
  refine (HNet.out _ C.out.2.1).mono ?_
  rintro e w7 ⟨rfl, hb⟩
  have C' := Lib.hid (C.out.below hb)
  clear hb C 
  have C := C'
  clear C' 
  go_wp2_with (first | (refine st_fresh rfl 25 _ _ rfl rfl (mtC mt0) (mtC M) rfl (by kernel_rfl) rfl (mt_one _) ?_) | (with_reducible refine halt_at (X := .binOp .eql 36 (.tmp 122) (.const (.int .i64 4)) 36) ?_ ?_; (· rfl)))
  obtain ⟨W8, hW, bm, hb⟩ := boxM w7 M
  rw [← hW]
  clear hW
  have BM := Lib.hid bm
  clear bm
  have C' := Lib.hid (C.out.below hb)
  clear hb C 
  have C := C'
  clear C' 
  unfold Halt
  have c0 := C.out.2.2.1
  have c1 := C.out.2.2.2.1
  go_wp2_with fail
  refine wp_region_held_drew (S := fun w' => Below W8.heap.size W8 w') (by kernel_rfl) ?_ (fun hHeld => ?_)
  · exact (Below.refl _ _).drew
  generalize World.drew W8 = wd at hHeld ⊢
  refine rgy (i := 0) (v := ?_) (atN rfl) (by kernel_rfl) (fun _ _ _ h => h) ?_ ?_ hHeld ?_; rotate_left 1; (· rfl); (· intro w' hSw; (try clear hHeld); go_simp; try with_reducible rfl)
  try simp only [Act.put, List.setIfInBounds_toArray, List.set_cons_zero, List.set_cons_succ]
  refine rgy (i := 1) (v := ?_) (atN rfl) (by kernel_rfl) (fun _ _ _ h => h) ?_ ?_ hHeld ?_; rotate_left 1; (· rfl); (· intro w' hSw; (try clear hHeld); go_simp; try with_reducible rfl)
  try simp only [Act.put, List.setIfInBounds_toArray, List.set_cons_zero, List.set_cons_succ]
  refine rgy (i := 2) (v := ?_) (atN rfl) (by kernel_rfl) (fun _ _ _ h => h) ?_ ?_ hHeld ?_; rotate_left 1; (· rfl); (· intro w' hSw; (try clear hHeld); go_simp; try with_reducible rfl)
  try simp only [Act.put, List.setIfInBounds_toArray, List.set_cons_zero, List.set_cons_succ]
  first | (refine rgn (i := 3) (atN rfl) (by kernel_rfl) (fun _ _ _ h => h) ?_ hHeld ?_; (· rfl)) | (refine rgy (i := 3) (v := ?_) (atN rfl) (by kernel_rfl) (fun _ _ _ h => h) ?_ ?_ hHeld ?_; rotate_left 1; (· rfl); (· intro w' hSw; (try clear hHeld); go_simp; try with_reducible rfl))
  try simp only [Act.put, List.setIfInBounds_toArray, List.set_cons_zero, List.set_cons_succ]
  first | (refine rgn (i := 4) (atN rfl) (by kernel_rfl) (fun _ _ _ h => h) ?_ hHeld ?_; (· rfl)) | (refine rgy (i := 4) (v := ?_) (atN rfl) (by kernel_rfl) (fun _ _ _ h => h) ?_ ?_ hHeld ?_; rotate_left 1; (· rfl); (· intro w' hSw; (try clear hHeld); go_simp; try with_reducible rfl))
  try simp only [Act.put, List.setIfInBounds_toArray, List.set_cons_zero, List.set_cons_succ]
  refine rgy (i := 5) (v := ?_) (atN rfl) (by kernel_rfl) (fun _ _ _ h => h) ?_ ?_ hHeld ?_; rotate_left 1; (· rfl); (· intro w' hSw; (try clear hHeld); go_simp; try with_reducible rfl)
  try simp only [Act.put, List.setIfInBounds_toArray, List.set_cons_zero, List.set_cons_succ]
  refine rgy (i := 6) (v := ?_) (atN rfl) (by kernel_rfl) (fun _ _ _ h => h) ?_ ?_ hHeld ?_; rotate_left 1; (· rfl); (· intro w' hSw; (try clear hHeld); go_simp; try with_reducible rfl)
  try simp only [Act.put, List.setIfInBounds_toArray, List.set_cons_zero, List.set_cons_succ]
  first | (refine rgn (i := 7) (atN rfl) (by kernel_rfl) (fun _ _ _ h => h) ?_ hHeld ?_; (· rfl)) | (refine rgy (i := 7) (v := ?_) (atN rfl) (by kernel_rfl) (fun _ _ _ h => h) ?_ ?_ hHeld ?_; rotate_left 1; (· rfl); (· intro w' hSw; (try clear hHeld); go_simp; try with_reducible rfl))
  try simp only [Act.put, List.setIfInBounds_toArray, List.set_cons_zero, List.set_cons_succ]
  first | (refine rgn (i := 8) (atN rfl) (by kernel_rfl) (fun _ _ _ h => h) ?_ hHeld ?_; (· rfl)) | (refine rgy (i := 8) (v := ?_) (atN rfl) (by kernel_rfl) (fun _ _ _ h => h) ?_ ?_ hHeld ?_; rotate_left 1; (· rfl); (· intro w' hSw; (try clear hHeld); go_simp; try with_reducible rfl))
  try simp only [Act.put, List.setIfInBounds_toArray, List.set_cons_zero, List.set_cons_succ]
  first | (refine rgn (i := 9) (atN rfl) (by kernel_rfl) (fun _ _ _ h => h) ?_ hHeld ?_; (· rfl)) | (refine rgy (i := 9) (v := ?_) (atN rfl) (by kernel_rfl) (fun _ _ _ h => h) ?_ ?_ hHeld ?_; rotate_left 1; (· rfl); (· intro w' hSw; refine exec_ld 25 (.tmp 17) ?_ w7.heap.size ?_ 25 _ (0, 0) _ (BM.out.below hSw) Tryd.underlying25 rfl (by kernel_rfl) <;> rfl))
  try simp only [Act.put, List.setIfInBounds_toArray, List.set_cons_zero, List.set_cons_succ]
  first | (refine rgn (i := 10) (atN rfl) (by kernel_rfl) (fun _ _ _ h => h) ?_ hHeld ?_; (· rfl)) | (refine rgy (i := 10) (v := ?_) (atN rfl) (by kernel_rfl) (fun _ _ _ h => h) ?_ ?_ hHeld ?_; rotate_left 1; (· rfl); (· intro w' hSw; refine exec_ld 31 (.tmp 9) ?_ (w.heap.size + 1) ?_ 31 _ (0, 0) _ (C.out.2.2.2.2.below hSw) Tryd.underlying31 rfl (by kernel_rfl) <;> rfl))
  try simp only [Act.put, List.setIfInBounds_toArray, List.set_cons_zero, List.set_cons_succ]
  first | (refine rgn (i := 12) (atN rfl) (by kernel_rfl) (fun _ _ _ h => h) ?_ hHeld ?_; (· rfl)) | (refine rgy (i := 12) (v := ?_) (atN rfl) (by kernel_rfl) (fun _ _ _ h => h) ?_ ?_ hHeld ?_; rotate_left 1; (· rfl); (· intro w' hSw; have c0 := cell_below c0 hSw; have c1 := cell_below c1 hSw; (try clear hHeld); go_simp; try with_reducible rfl))
  try simp only [Act.put, List.setIfInBounds_toArray, List.set_cons_zero, List.set_cons_succ]
  first | (refine rgn (i := 13) (atN rfl) (by kernel_rfl) (fun _ _ _ h => h) ?_ hHeld ?_; (· rfl)) | (refine rgy (i := 13) (v := ?_) (atN rfl) (by kernel_rfl) (fun _ _ _ h => h) ?_ ?_ hHeld ?_; rotate_left 1; (· rfl); (· intro w' hSw; refine exec_ld 31 (.tmp 9) ?_ (w.heap.size + 1) ?_ 31 _ (0, 0) _ (C.out.2.2.2.2.below hSw) Tryd.underlying31 rfl (by kernel_rfl) <;> rfl))
  try simp only [Act.put, List.setIfInBounds_toArray, List.set_cons_zero, List.set_cons_succ]
  first | (refine rgn (i := 14) (atN rfl) (by kernel_rfl) (fun _ _ _ h => h) ?_ hHeld ?_; (· rfl)) | (refine rgy (i := 14) (v := ?_) (atN rfl) (by kernel_rfl) (fun _ _ _ h => h) ?_ ?_ hHeld ?_; rotate_left 1; (· rfl); (· intro w' hSw; (try clear hHeld); go_simp; try with_reducible rfl))
  try simp only [Act.put, List.setIfInBounds_toArray, List.set_cons_zero, List.set_cons_succ]
  first | (refine rgn (i := 11) (atN rfl) (by kernel_rfl) (fun _ _ _ h => h) ?_ hHeld ?_; (· rfl)) | (refine rg_call (i := 11) (atN rfl) (by kernel_rfl) ?_ (fun K hK => ?_); (· rfl); (try clear hb); go_simp; (refine (HH3.out _ (C.out.2.1.below hHeld)).mono ?_; rintro e w1 ⟨rfl, hb⟩); go_wp2_with fail; refine hK.out _ _ ?_ (fun hHeld => ?_); (· exact hHeld.trans (hb.mono hHeld.size)); clear hK K)
  try simp only [Act.put, List.setIfInBounds_toArray, List.set_cons_zero, List.set_cons_succ]
  first | (refine rgn (i := 15) (atN rfl) (by kernel_rfl) (fun _ _ _ h => h) ?_ hHeld ?_; (· rfl)) | (refine rg_call (i := 15) (atN rfl) (by kernel_rfl) ?_ (fun K hK => ?_); (· rfl); (try clear hb); go_simp; (refine (HG.out _ (C.out.2.1.below hHeld)).mono ?_; rintro e w1 ⟨rfl, hb⟩); go_wp2_with fail; refine hK.out _ _ ?_ (fun hHeld => ?_); (· exact hHeld.trans (hb.mono hHeld.size)); clear hK K)
  try simp only [Act.put, List.setIfInBounds_toArray, List.set_cons_zero, List.set_cons_succ]
  first | (refine rgn (i := 16) (atN rfl) (by kernel_rfl) (fun _ _ _ h => h) ?_ hHeld ?_; (· rfl)) | (refine rgy (i := 16) (v := ?_) (atN rfl) (by kernel_rfl) (fun _ _ _ h => h) ?_ ?_ hHeld ?_; rotate_left 1; (· rfl); (· intro w' hSw; (try clear hHeld); go_simp; try with_reducible rfl))
  try simp only [Act.put, List.setIfInBounds_toArray, List.set_cons_zero, List.set_cons_succ]
  first | (refine rgn (i := 17) (atN rfl) (by kernel_rfl) (fun _ _ _ h => h) ?_ hHeld ?_; (· rfl)) | (refine rg_call (i := 17) (atN rfl) (by kernel_rfl) ?_ (fun K hK => ?_); (· rfl); (try clear hb); go_simp; (refine (HHas.out _).mono ?_; rintro e w1 ⟨rfl, hb⟩); go_wp2_with fail; refine hK.out _ _ ?_ (fun hHeld => ?_); (· exact hHeld.trans (hb.mono hHeld.size)); clear hK K)
  try simp only [Act.put, List.setIfInBounds_toArray, List.set_cons_zero, List.set_cons_succ]
  first | (refine rgn (i := 18) (atN rfl) (by kernel_rfl) (fun _ _ _ h => h) ?_ hHeld ?_; (· rfl)) | (refine rgy (i := 18) (v := ?_) (atN rfl) (by kernel_rfl) (fun _ _ _ h => h) ?_ ?_ hHeld ?_; rotate_left 1; (· rfl); (· intro w' hSw; (try clear hHeld); go_simp; try with_reducible rfl))
  try simp only [Act.put, List.setIfInBounds_toArray, List.set_cons_zero, List.set_cons_succ]
  first | (refine rgn (i := 19) (atN rfl) (by kernel_rfl) (fun _ _ _ h => h) ?_ hHeld ?_; (· rfl)) | (refine rgy (i := 19) (v := ?_) (atN rfl) (by kernel_rfl) (fun _ _ _ h => h) ?_ ?_ hHeld ?_; rotate_left 1; (· rfl); (· intro w' hSw; (try clear hHeld); go_simp; try with_reducible rfl))
  try simp only [Act.put, List.setIfInBounds_toArray, List.set_cons_zero, List.set_cons_succ]
  refine rgy (i := 20) (v := ?_) (atN rfl) (by kernel_rfl) (fun _ _ _ h => h) ?_ ?_ hHeld ?_; rotate_left 1; (· rfl); (· intro w' hSw; (try clear hHeld); go_simp; try with_reducible rfl)
  try simp only [Act.put, List.setIfInBounds_toArray, List.set_cons_zero, List.set_cons_succ]
  refine rgy (i := 21) (v := ?_) (atN rfl) (by kernel_rfl) (fun _ _ _ h => h) ?_ ?_ hHeld ?_; rotate_left 1; (· rfl); (· intro w' hSw; (try clear hHeld); go_simp; try with_reducible rfl)
  try simp only [Act.put, List.setIfInBounds_toArray, List.set_cons_zero, List.set_cons_succ]
  refine wpAnyH_done (by kernel_rfl) ?_ _
  have HB := Lib.hid (below_on C.out.1 hHeld)
  clear hHeld C BM c0 c1
  go_wp2_with fail
  go_ret
  exact ⟨ret_bool (by first | rfl | simp), HB.out⟩
set_option maxRecDepth 100000 in
set_option maxHeartbeats 3200000 in
theorem mk_mid_11 (f : Nat) (hf0 : (0 : Int) ≤ f) (hf9 : (f : Int) < 9) (ne4 : ((f : Int) == 4) = false) (ne5 : ((f : Int) == 5) = false) (v k a : Nat) (n : Int) (h : Hdr) (w : World) (hT : Wid w) (X M : Mt) (g : Nat) (F : Int) (h2 : Bool)
    (hOn : ∀ W, Wid W → Calls Tryd.prog 12 #[.int .i64 (f : Nat), .int .u64 v, .int .u64 k] W fun e w' => e = .returned (.tuple #[mtV mt0, .int .i64 1]) ∧ Below W.heap.size W w')
    (hEx : ∀ W, Wid W → Calls Tryd.prog 14 #[.int .i64 (f : Nat), .int .u64 v] W fun e w' => e = .returned (.tuple #[mtV X, .int .i64 0]) ∧ Below W.heap.size W w')
    (hNet : ∀ W, Wid W → Calls Tryd.prog 15 #[.int .i64 (f : Nat), .agg #[.int .u32 a, .int .i64 n]] W fun e w' => e = .returned (.tuple #[mtV M, .int .i64 1]) ∧ Below W.heap.size W w')
    (hFull : ∀ W, Wid W → Calls Tryd.prog 13 #[.int .i64 (f : Nat)] W fun e w' => e = .returned (.int .u64 F) ∧ W = w')
    (dk : decide ((k : Int) ≤ F) = true)
    (ev : (bits .and .u64 (v : Int) (k : Int) == (v : Int)) = false)
    (dv : decide ((v : Int) ≤ F) = true)
    (hG : ∀ W, Wid W → Calls Tryd.prog 10 #[hdrV h, .int .i64 (f : Nat)] W fun e w' => e = .returned (.int .u64 (g : Nat)) ∧ Below W.heap.size W w')
    (hH2 : ∀ W, Wid W → Calls Tryd.prog 11 #[mtV X, hdrV h] W fun e w' => e = .returned (.bool h2) ∧ Below W.heap.size W w')
    (e2 : ((g : Int) == (v : Int)) = h2) :
    Calls Tryd.prog 4 #[.int .i64 (f : Nat), .int .u64 v, .int .u64 k, .agg #[.int .u32 a, .int .i64 n], hdrV h] w fun e w' => e = .returned (.bool true) ∧ Below w.heap.size w w' := by
  have HOn := Lib.hid hOn
  have HEx := Lib.hid hEx
  have HNet := Lib.hid hNet
  have HFull := Lib.hid hFull
  have HG := Lib.hid hG
  have HH2 := Lib.hid hH2
  clear hOn hEx hNet hFull hG hH2
  obtain ⟨W1, hW1, hM⟩ := mem_first w a n h hT
  have C := Lib.hid hM
  clear hM hT
  go_enter Tryd.func4, Tryd.ntmps4
  go_wp2_with fail
  rw [← hW1]
  clear hW1
  refine (law_example _ C.out.2.1).mono ?_
  rintro e w2 ⟨rfl, hb⟩
  have C' := Lib.hid (C.out.below hb)
  clear hb C 
  have C := C'
  clear C' 
  go_wp2_with fail
  refine (HOn.out _ C.out.2.1).mono ?_
  rintro e w3 ⟨rfl, hb⟩
  have C' := Lib.hid (C.out.below hb)
  clear hb C 
  have C := C'
  clear C' 
  go_wp2_with (first | (refine st_fresh rfl 25 _ _ rfl rfl (mtC mt0) (mtC mt0) rfl (by kernel_rfl) rfl (mt_one _) ?_) | (with_reducible refine halt_at (X := .binOp .geq 36 (.tmp 29) (.const (.int .i64 0)) 36) ?_ ?_; (· rfl)))
  obtain ⟨W4, hW, bp, hb⟩ := boxM w3 mt0
  rw [← hW]
  clear hW
  have BP := Lib.hid bp
  clear bp
  have C' := Lib.hid (C.out.below hb)
  clear hb C 
  have C := C'
  clear C' 
  unfold Halt
  go_wp2_with (go_at_call 13; refine (HFull.out _ C.out.2.1).mono ?_; rintro e _ ⟨rfl, rfl⟩)
  refine wp_region_held_drew (S := fun w' => Below W4.heap.size W4 w') (by kernel_rfl) ?_ (fun hHeld => ?_)
  · exact (Below.refl _ _).drew
  generalize World.drew W4 = wd at hHeld ⊢
  refine rgy (i := 0) (v := ?_) (atN rfl) (by kernel_rfl) (fun _ _ _ h => h) ?_ ?_ hHeld ?_; rotate_left 1; (· rfl); (· intro w' hSw; (try clear hHeld); go_simp; try with_reducible rfl)
  try simp only [Act.put, List.setIfInBounds_toArray, List.set_cons_zero, List.set_cons_succ]
  refine rgy (i := 1) (v := ?_) (atN rfl) (by kernel_rfl) (fun _ _ _ h => h) ?_ ?_ hHeld ?_; rotate_left 1; (· rfl); (· intro w' hSw; (try clear hHeld); go_simp; try with_reducible rfl)
  try simp only [Act.put, List.setIfInBounds_toArray, List.set_cons_zero, List.set_cons_succ]
  refine rgy (i := 2) (v := ?_) (atN rfl) (by kernel_rfl) (fun _ _ _ h => h) ?_ ?_ hHeld ?_; rotate_left 1; (· rfl); (· intro w' hSw; (try clear hHeld); go_simp; try with_reducible rfl)
  try simp only [Act.put, List.setIfInBounds_toArray, List.set_cons_zero, List.set_cons_succ]
  refine rgy (i := 3) (v := ?_) (atN rfl) (by kernel_rfl) (fun _ _ _ h => h) ?_ ?_ hHeld ?_; rotate_left 1; (· rfl); (· intro w' hSw; (try clear hHeld); go_simp; try with_reducible rfl)
  try simp only [Act.put, List.setIfInBounds_toArray, List.set_cons_zero, List.set_cons_succ]
  refine rgy (i := 4) (v := ?_) (atN rfl) (by kernel_rfl) (fun _ _ _ h => h) ?_ ?_ hHeld ?_; rotate_left 1; (· rfl); (· intro w' hSw; (try clear hHeld); go_simp; try with_reducible rfl)
  try simp only [Act.put, List.setIfInBounds_toArray, List.set_cons_zero, List.set_cons_succ]
  first | (refine rgn (i := 5) (atN rfl) (by kernel_rfl) (fun _ _ _ h => h) ?_ hHeld ?_; (· rfl)) | (refine rgy (i := 5) (v := ?_) (atN rfl) (by kernel_rfl) (fun _ _ _ h => h) ?_ ?_ hHeld ?_; rotate_left 1; (· rfl); (· intro w' hSw; (try clear hHeld); go_simp; try with_reducible rfl))
  try simp only [Act.put, List.setIfInBounds_toArray, List.set_cons_zero, List.set_cons_succ]
  first | (refine rgn (i := 6) (atN rfl) (by kernel_rfl) (fun _ _ _ h => h) ?_ hHeld ?_; (· rfl)) | (refine rgy (i := 6) (v := ?_) (atN rfl) (by kernel_rfl) (fun _ _ _ h => h) ?_ ?_ hHeld ?_; rotate_left 1; (· rfl); (· intro w' hSw; (try clear hHeld); go_simp; try with_reducible rfl))
  try simp only [Act.put, List.setIfInBounds_toArray, List.set_cons_zero, List.set_cons_succ]
  first | (refine rgn (i := 7) (atN rfl) (by kernel_rfl) (fun _ _ _ h => h) ?_ hHeld ?_; (· rfl)) | (refine rgy (i := 7) (v := ?_) (atN rfl) (by kernel_rfl) (fun _ _ _ h => h) ?_ ?_ hHeld ?_; rotate_left 1; (· rfl); (· intro w' hSw; (try clear hHeld); go_simp; try with_reducible rfl))
  try simp only [Act.put, List.setIfInBounds_toArray, List.set_cons_zero, List.set_cons_succ]
  first | (refine rgn (i := 8) (atN rfl) (by kernel_rfl) (fun _ _ _ h => h) ?_ hHeld ?_; (· rfl)) | (refine rgy (i := 8) (v := ?_) (atN rfl) (by kernel_rfl) (fun _ _ _ h => h) ?_ ?_ hHeld ?_; rotate_left 1; (· rfl); (· intro w' hSw; (try clear hHeld); go_simp; try with_reducible rfl))
  try simp only [Act.put, List.setIfInBounds_toArray, List.set_cons_zero, List.set_cons_succ]
  first | (refine rgn (i := 9) (atN rfl) (by kernel_rfl) (fun _ _ _ h => h) ?_ hHeld ?_; (· rfl)) | (refine rgy (i := 9) (v := ?_) (atN rfl) (by kernel_rfl) (fun _ _ _ h => h) ?_ ?_ hHeld ?_; rotate_left 1; (· rfl); (· intro w' hSw; (try clear hHeld); go_simp; try with_reducible rfl))
  try simp only [Act.put, List.setIfInBounds_toArray, List.set_cons_zero, List.set_cons_succ]
  first | (refine rgn (i := 10) (atN rfl) (by kernel_rfl) (fun _ _ _ h => h) ?_ hHeld ?_; (· rfl)) | (refine rgy (i := 10) (v := ?_) (atN rfl) (by kernel_rfl) (fun _ _ _ h => h) ?_ ?_ hHeld ?_; rotate_left 1; (· rfl); (· intro w' hSw; (try clear hHeld); go_simp; try with_reducible rfl))
  try simp only [Act.put, List.setIfInBounds_toArray, List.set_cons_zero, List.set_cons_succ]
  first | (refine rgn (i := 11) (atN rfl) (by kernel_rfl) (fun _ _ _ h => h) ?_ hHeld ?_; (· rfl)) | (refine rgy (i := 11) (v := ?_) (atN rfl) (by kernel_rfl) (fun _ _ _ h => h) ?_ ?_ hHeld ?_; rotate_left 1; (· rfl); (· intro w' hSw; refine exec_ld 25 (.tmp 11) ?_ w3.heap.size ?_ 25 _ (0, 0) _ (BP.out.below hSw) Tryd.underlying25 rfl (by kernel_rfl) <;> rfl))
  try simp only [Act.put, List.setIfInBounds_toArray, List.set_cons_zero, List.set_cons_succ]
  first | (refine rgn (i := 12) (atN rfl) (by kernel_rfl) (fun _ _ _ h => h) ?_ hHeld ?_; (· rfl)) | (refine rgy (i := 12) (v := ?_) (atN rfl) (by kernel_rfl) (fun _ _ _ h => h) ?_ ?_ hHeld ?_; rotate_left 1; (· rfl); (· intro w' hSw; (try clear hHeld); go_simp; try with_reducible rfl))
  try simp only [Act.put, List.setIfInBounds_toArray, List.set_cons_zero, List.set_cons_succ]
  first | (refine rgn (i := 13) (atN rfl) (by kernel_rfl) (fun _ _ _ h => h) ?_ hHeld ?_; (· rfl)) | (refine rgy (i := 13) (v := ?_) (atN rfl) (by kernel_rfl) (fun _ _ _ h => h) ?_ ?_ hHeld ?_; rotate_left 1; (· rfl); (· intro w' hSw; (try clear hHeld); go_simp; try with_reducible rfl))
  try simp only [Act.put, List.setIfInBounds_toArray, List.set_cons_zero, List.set_cons_succ]
  first | (refine rgn (i := 14) (atN rfl) (by kernel_rfl) (fun _ _ _ h => h) ?_ hHeld ?_; (· rfl)) | (refine rgy (i := 14) (v := ?_) (atN rfl) (by kernel_rfl) (fun _ _ _ h => h) ?_ ?_ hHeld ?_; rotate_left 1; (· rfl); (· intro w' hSw; (try clear hHeld); go_simp; try with_reducible rfl))
  try simp only [Act.put, List.setIfInBounds_toArray, List.set_cons_zero, List.set_cons_succ]
  first | (refine rgn (i := 15) (atN rfl) (by kernel_rfl) (fun _ _ _ h => h) ?_ hHeld ?_; (· rfl)) | (refine rgy (i := 15) (v := ?_) (atN rfl) (by kernel_rfl) (fun _ _ _ h => h) ?_ ?_ hHeld ?_; rotate_left 1; (· rfl); (· intro w' hSw; (try clear hHeld); go_simp; try with_reducible rfl))
  try simp only [Act.put, List.setIfInBounds_toArray, List.set_cons_zero, List.set_cons_succ]
  refine rgy (i := 16) (v := ?_) (atN rfl) (by kernel_rfl) (fun _ _ _ h => h) ?_ ?_ hHeld ?_; rotate_left 1; (· rfl); (· intro w' hSw; (try clear hHeld); go_simp; try with_reducible rfl)
  try simp only [Act.put, List.setIfInBounds_toArray, List.set_cons_zero, List.set_cons_succ]
  refine rgy (i := 17) (v := ?_) (atN rfl) (by kernel_rfl) (fun _ _ _ h => h) ?_ ?_ hHeld ?_; rotate_left 1; (· rfl); (· intro w' hSw; (try clear hHeld); go_simp; try with_reducible rfl)
  try simp only [Act.put, List.setIfInBounds_toArray, List.set_cons_zero, List.set_cons_succ]
  first | (refine rgn (i := 18) (atN rfl) (by kernel_rfl) (fun _ _ _ h => h) ?_ hHeld ?_; (· rfl)) | (refine rgy (i := 18) (v := ?_) (atN rfl) (by kernel_rfl) (fun _ _ _ h => h) ?_ ?_ hHeld ?_; rotate_left 1; (· rfl); (· intro w' hSw; (try clear hHeld); go_simp; try with_reducible rfl))
  try simp only [Act.put, List.setIfInBounds_toArray, List.set_cons_zero, List.set_cons_succ]
  first | (refine rgn (i := 19) (atN rfl) (by kernel_rfl) (fun _ _ _ h => h) ?_ hHeld ?_; (· rfl)) | (refine rgy (i := 19) (v := ?_) (atN rfl) (by kernel_rfl) (fun _ _ _ h => h) ?_ ?_ hHeld ?_; rotate_left 1; (· rfl); (· intro w' hSw; (try clear hHeld); go_simp; try with_reducible rfl))
  try simp only [Act.put, List.setIfInBounds_toArray, List.set_cons_zero, List.set_cons_succ]
  first | (refine rgn (i := 20) (atN rfl) (by kernel_rfl) (fun _ _ _ h => h) ?_ hHeld ?_; (· rfl)) | (refine rgy (i := 20) (v := ?_) (atN rfl) (by kernel_rfl) (fun _ _ _ h => h) ?_ ?_ hHeld ?_; rotate_left 1; (· rfl); (· intro w' hSw; refine exec_ld 25 (.tmp 11) ?_ w3.heap.size ?_ 25 _ (0, 0) _ (BP.out.below hSw) Tryd.underlying25 rfl (by kernel_rfl) <;> rfl))
  try simp only [Act.put, List.setIfInBounds_toArray, List.set_cons_zero, List.set_cons_succ]
  first | (refine rgn (i := 21) (atN rfl) (by kernel_rfl) (fun _ _ _ h => h) ?_ hHeld ?_; (· rfl)) | (refine rgy (i := 21) (v := ?_) (atN rfl) (by kernel_rfl) (fun _ _ _ h => h) ?_ ?_ hHeld ?_; rotate_left 1; (· rfl); (· intro w' hSw; refine exec_ld 31 (.tmp 9) ?_ (w.heap.size + 1) ?_ 31 _ (0, 0) _ (C.out.2.2.2.2.below hSw) Tryd.underlying31 rfl (by kernel_rfl) <;> rfl))
  try simp only [Act.put, List.setIfInBounds_toArray, List.set_cons_zero, List.set_cons_succ]
  first | (refine rgn (i := 23) (atN rfl) (by kernel_rfl) (fun _ _ _ h => h) ?_ hHeld ?_; (· rfl)) | (refine rgy (i := 23) (v := ?_) (atN rfl) (by kernel_rfl) (fun _ _ _ h => h) ?_ ?_ hHeld ?_; rotate_left 1; (· rfl); (· intro w' hSw; refine exec_ld 31 (.tmp 9) ?_ (w.heap.size + 1) ?_ 31 _ (0, 0) _ (C.out.2.2.2.2.below hSw) Tryd.underlying31 rfl (by kernel_rfl) <;> rfl))
  try simp only [Act.put, List.setIfInBounds_toArray, List.set_cons_zero, List.set_cons_succ]
  first | (refine rgn (i := 24) (atN rfl) (by kernel_rfl) (fun _ _ _ h => h) ?_ hHeld ?_; (· rfl)) | (refine rgy (i := 24) (v := ?_) (atN rfl) (by kernel_rfl) (fun _ _ _ h => h) ?_ ?_ hHeld ?_; rotate_left 1; (· rfl); (· intro w' hSw; (try clear hHeld); go_simp; try with_reducible rfl))
  try simp only [Act.put, List.setIfInBounds_toArray, List.set_cons_zero, List.set_cons_succ]
  first | (refine rgn (i := 26) (atN rfl) (by kernel_rfl) (fun _ _ _ h => h) ?_ hHeld ?_; (· rfl)) | (refine rgy (i := 26) (v := ?_) (atN rfl) (by kernel_rfl) (fun _ _ _ h => h) ?_ ?_ hHeld ?_; rotate_left 1; (· rfl); (· intro w' hSw; (try clear hHeld); go_simp; try with_reducible rfl))
  try simp only [Act.put, List.setIfInBounds_toArray, List.set_cons_zero, List.set_cons_succ]
  first | (refine rgn (i := 28) (atN rfl) (by kernel_rfl) (fun _ _ _ h => h) ?_ hHeld ?_; (· rfl)) | (refine rgy (i := 28) (v := ?_) (atN rfl) (by kernel_rfl) (fun _ _ _ h => h) ?_ ?_ hHeld ?_; rotate_left 1; (· rfl); (· intro w' hSw; (try clear hHeld); go_simp; try with_reducible rfl))
  try simp only [Act.put, List.setIfInBounds_toArray, List.set_cons_zero, List.set_cons_succ]
  first | (refine rgn (i := 22) (atN rfl) (by kernel_rfl) (fun _ _ _ h => h) ?_ hHeld ?_; (· rfl)) | (refine rg_call (i := 22) (atN rfl) (by kernel_rfl) ?_ (fun K hK => ?_); (· rfl); (try clear hb); go_simp; (refine (HH1.out _ (C.out.2.1.below hHeld)).mono ?_; rintro e w1 ⟨rfl, hb⟩); go_wp2_with fail; refine hK.out _ _ ?_ (fun hHeld => ?_); (· exact hHeld.trans (hb.mono hHeld.size)); clear hK K)
  try simp only [Act.put, List.setIfInBounds_toArray, List.set_cons_zero, List.set_cons_succ]
  first | (refine rgn (i := 25) (atN rfl) (by kernel_rfl) (fun _ _ _ h => h) ?_ hHeld ?_; (· rfl)) | (refine rg_call (i := 25) (atN rfl) (by kernel_rfl) ?_ (fun K hK => ?_); (· rfl); (try clear hb); go_simp; (refine (HG.out _ (C.out.2.1.below hHeld)).mono ?_; rintro e w1 ⟨rfl, hb⟩); go_wp2_with fail; refine hK.out _ _ ?_ (fun hHeld => ?_); (· exact hHeld.trans (hb.mono hHeld.size)); clear hK K)
  try simp only [Act.put, List.setIfInBounds_toArray, List.set_cons_zero, List.set_cons_succ]
  first | (refine rgn (i := 27) (atN rfl) (by kernel_rfl) (fun _ _ _ h => h) ?_ hHeld ?_; (· rfl)) | (refine rgy (i := 27) (v := ?_) (atN rfl) (by kernel_rfl) (fun _ _ _ h => h) ?_ ?_ hHeld ?_; rotate_left 1; (· rfl); (· intro w' hSw; (try clear hHeld); go_simp; try with_reducible rfl))
  try simp only [Act.put, List.setIfInBounds_toArray, List.set_cons_zero, List.set_cons_succ]
  first | (refine rgn (i := 29) (atN rfl) (by kernel_rfl) (fun _ _ _ h => h) ?_ hHeld ?_; (· rfl)) | (refine rgy (i := 29) (v := ?_) (atN rfl) (by kernel_rfl) (fun _ _ _ h => h) ?_ ?_ hHeld ?_; rotate_left 1; (· rfl); (· intro w' hSw; (try clear hHeld); go_simp; try with_reducible rfl))
  try simp only [Act.put, List.setIfInBounds_toArray, List.set_cons_zero, List.set_cons_succ]
  first | (refine rgn (i := 30) (atN rfl) (by kernel_rfl) (fun _ _ _ h => h) ?_ hHeld ?_; (· rfl)) | (refine rgy (i := 30) (v := ?_) (atN rfl) (by kernel_rfl) (fun _ _ _ h => h) ?_ ?_ hHeld ?_; rotate_left 1; (· rfl); (· intro w' hSw; (try clear hHeld); go_simp; try with_reducible rfl))
  try simp only [Act.put, List.setIfInBounds_toArray, List.set_cons_zero, List.set_cons_succ]
  first | (refine rgn (i := 31) (atN rfl) (by kernel_rfl) (fun _ _ _ h => h) ?_ hHeld ?_; (· rfl)) | (refine rgy (i := 31) (v := ?_) (atN rfl) (by kernel_rfl) (fun _ _ _ h => h) ?_ ?_ hHeld ?_; rotate_left 1; (· rfl); (· intro w' hSw; (try clear hHeld); go_simp; try with_reducible rfl))
  try simp only [Act.put, List.setIfInBounds_toArray, List.set_cons_zero, List.set_cons_succ]
  refine rgy (i := 32) (v := ?_) (atN rfl) (by kernel_rfl) (fun _ _ _ h => h) ?_ ?_ hHeld ?_; rotate_left 1; (· rfl); (· intro w' hSw; (try clear hHeld); go_simp; try with_reducible rfl)
  try simp only [Act.put, List.setIfInBounds_toArray, List.set_cons_zero, List.set_cons_succ]
  refine wpAnyH_done (by kernel_rfl) ?_ _
  have hb := hHeld
  clear BP
  have C' := Lib.hid (C.out.below hb)
  clear hb hHeld C
  have C := C'
  clear C'
  go_wp2_with fail
  refine (HEx.out _ C.out.2.1).mono ?_
  rintro e w5 ⟨rfl, hb⟩
  have C' := Lib.hid (C.out.below hb)
  clear hb C 
  have C := C'
  clear C' 
  go_wp2_with (first | (refine st_fresh rfl 25 _ _ rfl rfl (mtC mt0) (mtC X) rfl (by kernel_rfl) rfl (mt_one _) ?_) | (with_reducible refine halt_at (X := .binOp .geq 36 (.tmp 86) (.const (.int .i64 0)) 36) ?_ ?_; (· rfl)))
  obtain ⟨W6, hW, bx, hb⟩ := boxM w5 X
  rw [← hW]
  clear hW
  have BX := Lib.hid bx
  clear bx
  have C' := Lib.hid (C.out.below hb)
  clear hb C 
  have C := C'
  clear C' 
  unfold Halt
  go_wp2_with (go_at_call 13; refine (HFull.out _ C.out.2.1).mono ?_; rintro e _ ⟨rfl, rfl⟩)
  refine wp_region_held_drew (S := fun w' => Below W6.heap.size W6 w') (by kernel_rfl) ?_ (fun hHeld => ?_)
  · exact (Below.refl _ _).drew
  generalize World.drew W6 = wd at hHeld ⊢
  refine rgy (i := 0) (v := ?_) (atN rfl) (by kernel_rfl) (fun _ _ _ h => h) ?_ ?_ hHeld ?_; rotate_left 1; (· rfl); (· intro w' hSw; (try clear hHeld); go_simp; try with_reducible rfl)
  try simp only [Act.put, List.setIfInBounds_toArray, List.set_cons_zero, List.set_cons_succ]
  refine rgy (i := 1) (v := ?_) (atN rfl) (by kernel_rfl) (fun _ _ _ h => h) ?_ ?_ hHeld ?_; rotate_left 1; (· rfl); (· intro w' hSw; (try clear hHeld); go_simp; try with_reducible rfl)
  try simp only [Act.put, List.setIfInBounds_toArray, List.set_cons_zero, List.set_cons_succ]
  refine rgy (i := 2) (v := ?_) (atN rfl) (by kernel_rfl) (fun _ _ _ h => h) ?_ ?_ hHeld ?_; rotate_left 1; (· rfl); (· intro w' hSw; (try clear hHeld); go_simp; try with_reducible rfl)
  try simp only [Act.put, List.setIfInBounds_toArray, List.set_cons_zero, List.set_cons_succ]
  refine rgy (i := 3) (v := ?_) (atN rfl) (by kernel_rfl) (fun _ _ _ h => h) ?_ ?_ hHeld ?_; rotate_left 1; (· rfl); (· intro w' hSw; (try clear hHeld); go_simp; try with_reducible rfl)
  try simp only [Act.put, List.setIfInBounds_toArray, List.set_cons_zero, List.set_cons_succ]
  refine rgy (i := 4) (v := ?_) (atN rfl) (by kernel_rfl) (fun _ _ _ h => h) ?_ ?_ hHeld ?_; rotate_left 1; (· rfl); (· intro w' hSw; (try clear hHeld); go_simp; try with_reducible rfl)
  try simp only [Act.put, List.setIfInBounds_toArray, List.set_cons_zero, List.set_cons_succ]
  first | (refine rgn (i := 5) (atN rfl) (by kernel_rfl) (fun _ _ _ h => h) ?_ hHeld ?_; (· rfl)) | (refine rgy (i := 5) (v := ?_) (atN rfl) (by kernel_rfl) (fun _ _ _ h => h) ?_ ?_ hHeld ?_; rotate_left 1; (· rfl); (· intro w' hSw; (try clear hHeld); go_simp; try with_reducible rfl))
  try simp only [Act.put, List.setIfInBounds_toArray, List.set_cons_zero, List.set_cons_succ]
  first | (refine rgn (i := 6) (atN rfl) (by kernel_rfl) (fun _ _ _ h => h) ?_ hHeld ?_; (· rfl)) | (refine rgy (i := 6) (v := ?_) (atN rfl) (by kernel_rfl) (fun _ _ _ h => h) ?_ ?_ hHeld ?_; rotate_left 1; (· rfl); (· intro w' hSw; (try clear hHeld); go_simp; try with_reducible rfl))
  try simp only [Act.put, List.setIfInBounds_toArray, List.set_cons_zero, List.set_cons_succ]
  first | (refine rgn (i := 7) (atN rfl) (by kernel_rfl) (fun _ _ _ h => h) ?_ hHeld ?_; (· rfl)) | (refine rgy (i := 7) (v := ?_) (atN rfl) (by kernel_rfl) (fun _ _ _ h => h) ?_ ?_ hHeld ?_; rotate_left 1; (· rfl); (· intro w' hSw; refine exec_ld 25 (.tmp 14) ?_ w5.heap.size ?_ 25 _ (0, 0) _ (BX.out.below hSw) Tryd.underlying25 rfl (by kernel_rfl) <;> rfl))
  try simp only [Act.put, List.setIfInBounds_toArray, List.set_cons_zero, List.set_cons_succ]
  first | (refine rgn (i := 8) (atN rfl) (by kernel_rfl) (fun _ _ _ h => h) ?_ hHeld ?_; (· rfl)) | (refine rgy (i := 8) (v := ?_) (atN rfl) (by kernel_rfl) (fun _ _ _ h => h) ?_ ?_ hHeld ?_; rotate_left 1; (· rfl); (· intro w' hSw; refine exec_ld 31 (.tmp 9) ?_ (w.heap.size + 1) ?_ 31 _ (0, 0) _ (C.out.2.2.2.2.below hSw) Tryd.underlying31 rfl (by kernel_rfl) <;> rfl))
  try simp only [Act.put, List.setIfInBounds_toArray, List.set_cons_zero, List.set_cons_succ]
  first | (refine rgn (i := 10) (atN rfl) (by kernel_rfl) (fun _ _ _ h => h) ?_ hHeld ?_; (· rfl)) | (refine rgy (i := 10) (v := ?_) (atN rfl) (by kernel_rfl) (fun _ _ _ h => h) ?_ ?_ hHeld ?_; rotate_left 1; (· rfl); (· intro w' hSw; refine exec_ld 31 (.tmp 9) ?_ (w.heap.size + 1) ?_ 31 _ (0, 0) _ (C.out.2.2.2.2.below hSw) Tryd.underlying31 rfl (by kernel_rfl) <;> rfl))
  try simp only [Act.put, List.setIfInBounds_toArray, List.set_cons_zero, List.set_cons_succ]
  first | (refine rgn (i := 11) (atN rfl) (by kernel_rfl) (fun _ _ _ h => h) ?_ hHeld ?_; (· rfl)) | (refine rgy (i := 11) (v := ?_) (atN rfl) (by kernel_rfl) (fun _ _ _ h => h) ?_ ?_ hHeld ?_; rotate_left 1; (· rfl); (· intro w' hSw; (try clear hHeld); go_simp; try with_reducible rfl))
  try simp only [Act.put, List.setIfInBounds_toArray, List.set_cons_zero, List.set_cons_succ]
  first | (refine rgn (i := 13) (atN rfl) (by kernel_rfl) (fun _ _ _ h => h) ?_ hHeld ?_; (· rfl)) | (refine rgy (i := 13) (v := ?_) (atN rfl) (by kernel_rfl) (fun _ _ _ h => h) ?_ ?_ hHeld ?_; rotate_left 1; (· rfl); (· intro w' hSw; (try clear hHeld); go_simp; try with_reducible rfl))
  try simp only [Act.put, List.setIfInBounds_toArray, List.set_cons_zero, List.set_cons_succ]
  first | (refine rgn (i := 9) (atN rfl) (by kernel_rfl) (fun _ _ _ h => h) ?_ hHeld ?_; (· rfl)) | (refine rg_call (i := 9) (atN rfl) (by kernel_rfl) ?_ (fun K hK => ?_); (· rfl); (try clear hb); go_simp; (refine (HH2.out _ (C.out.2.1.below hHeld)).mono ?_; rintro e w1 ⟨rfl, hb⟩); go_wp2_with fail; refine hK.out _ _ ?_ (fun hHeld => ?_); (· exact hHeld.trans (hb.mono hHeld.size)); clear hK K)
  try simp only [Act.put, List.setIfInBounds_toArray, List.set_cons_zero, List.set_cons_succ]
  first | (refine rgn (i := 12) (atN rfl) (by kernel_rfl) (fun _ _ _ h => h) ?_ hHeld ?_; (· rfl)) | (refine rg_call (i := 12) (atN rfl) (by kernel_rfl) ?_ (fun K hK => ?_); (· rfl); (try clear hb); go_simp; (refine (HG.out _ (C.out.2.1.below hHeld)).mono ?_; rintro e w1 ⟨rfl, hb⟩); go_wp2_with fail; refine hK.out _ _ ?_ (fun hHeld => ?_); (· exact hHeld.trans (hb.mono hHeld.size)); clear hK K)
  try simp only [Act.put, List.setIfInBounds_toArray, List.set_cons_zero, List.set_cons_succ]
  first | (refine rgn (i := 14) (atN rfl) (by kernel_rfl) (fun _ _ _ h => h) ?_ hHeld ?_; (· rfl)) | (refine rgy (i := 14) (v := ?_) (atN rfl) (by kernel_rfl) (fun _ _ _ h => h) ?_ ?_ hHeld ?_; rotate_left 1; (· rfl); (· intro w' hSw; (try clear hHeld); go_simp; try with_reducible rfl))
  try simp only [Act.put, List.setIfInBounds_toArray, List.set_cons_zero, List.set_cons_succ]
  first | (refine rgn (i := 15) (atN rfl) (by kernel_rfl) (fun _ _ _ h => h) ?_ hHeld ?_; (· rfl)) | (refine rgy (i := 15) (v := ?_) (atN rfl) (by kernel_rfl) (fun _ _ _ h => h) ?_ ?_ hHeld ?_; rotate_left 1; (· rfl); (· intro w' hSw; (try clear hHeld); go_simp; try with_reducible rfl))
  try simp only [Act.put, List.setIfInBounds_toArray, List.set_cons_zero, List.set_cons_succ]
  first | (refine rgn (i := 16) (atN rfl) (by kernel_rfl) (fun _ _ _ h => h) ?_ hHeld ?_; (· rfl)) | (refine rgy (i := 16) (v := ?_) (atN rfl) (by kernel_rfl) (fun _ _ _ h => h) ?_ ?_ hHeld ?_; rotate_left 1; (· rfl); (· intro w' hSw; (try clear hHeld); go_simp; try with_reducible rfl))
  try simp only [Act.put, List.setIfInBounds_toArray, List.set_cons_zero, List.set_cons_succ]
  refine rgy (i := 17) (v := ?_) (atN rfl) (by kernel_rfl) (fun _ _ _ h => h) ?_ ?_ hHeld ?_; rotate_left 1; (· rfl); (· intro w' hSw; (try clear hHeld); go_simp; try with_reducible rfl)
  try simp only [Act.put, List.setIfInBounds_toArray, List.set_cons_zero, List.set_cons_succ]
  refine wpAnyH_done (by kernel_rfl) ?_ _
  have hb := hHeld
  clear BX
  have C' := Lib.hid (C.out.below hb)
  clear hb hHeld C
  have C := C'
  clear C'
  have c0 := C.out.2.2.1
  have c1 := C.out.2.2.2.1
  go_wp2_with fail
  clear c0 c1
  refine (HNet.out _ C.out.2.1).mono ?_
  rintro e w7 ⟨rfl, hb⟩
  have C' := Lib.hid (C.out.below hb)
  clear hb C 
  have C := C'
  clear C' 
  go_wp2_with (first | (refine st_fresh rfl 25 _ _ rfl rfl (mtC mt0) (mtC M) rfl (by kernel_rfl) rfl (mt_one _) ?_) | (with_reducible refine halt_at (X := .binOp .eql 36 (.tmp 122) (.const (.int .i64 4)) 36) ?_ ?_; (· rfl)))
  obtain ⟨W8, hW, bm, hb⟩ := boxM w7 M
  rw [← hW]
  clear hW
  have BM := Lib.hid bm
  clear bm
  have C' := Lib.hid (C.out.below hb)
  clear hb C 
  have C := C'
  clear C' 
  unfold Halt
  have c0 := C.out.2.2.1
  have c1 := C.out.2.2.2.1
  go_wp2_with fail
  refine wp_region_held_drew (S := fun w' => Below W8.heap.size W8 w') (by kernel_rfl) ?_ (fun hHeld => ?_)
  · exact (Below.refl _ _).drew
  generalize World.drew W8 = wd at hHeld ⊢
  refine rgy (i := 0) (v := ?_) (atN rfl) (by kernel_rfl) (fun _ _ _ h => h) ?_ ?_ hHeld ?_; rotate_left 1; (· rfl); (· intro w' hSw; (try clear hHeld); go_simp; try with_reducible rfl)
  try simp only [Act.put, List.setIfInBounds_toArray, List.set_cons_zero, List.set_cons_succ]
  refine rgy (i := 1) (v := ?_) (atN rfl) (by kernel_rfl) (fun _ _ _ h => h) ?_ ?_ hHeld ?_; rotate_left 1; (· rfl); (· intro w' hSw; (try clear hHeld); go_simp; try with_reducible rfl)
  try simp only [Act.put, List.setIfInBounds_toArray, List.set_cons_zero, List.set_cons_succ]
  refine rgy (i := 2) (v := ?_) (atN rfl) (by kernel_rfl) (fun _ _ _ h => h) ?_ ?_ hHeld ?_; rotate_left 1; (· rfl); (· intro w' hSw; (try clear hHeld); go_simp; try with_reducible rfl)
  try simp only [Act.put, List.setIfInBounds_toArray, List.set_cons_zero, List.set_cons_succ]
  first | (refine rgn (i := 3) (atN rfl) (by kernel_rfl) (fun _ _ _ h => h) ?_ hHeld ?_; (· rfl)) | (refine rgy (i := 3) (v := ?_) (atN rfl) (by kernel_rfl) (fun _ _ _ h => h) ?_ ?_ hHeld ?_; rotate_left 1; (· rfl); (· intro w' hSw; (try clear hHeld); go_simp; try with_reducible rfl))
  try simp only [Act.put, List.setIfInBounds_toArray, List.set_cons_zero, List.set_cons_succ]
  first | (refine rgn (i := 4) (atN rfl) (by kernel_rfl) (fun _ _ _ h => h) ?_ hHeld ?_; (· rfl)) | (refine rgy (i := 4) (v := ?_) (atN rfl) (by kernel_rfl) (fun _ _ _ h => h) ?_ ?_ hHeld ?_; rotate_left 1; (· rfl); (· intro w' hSw; (try clear hHeld); go_simp; try with_reducible rfl))
  try simp only [Act.put, List.setIfInBounds_toArray, List.set_cons_zero, List.set_cons_succ]
  refine rgy (i := 5) (v := ?_) (atN rfl) (by kernel_rfl) (fun _ _ _ h => h) ?_ ?_ hHeld ?_; rotate_left 1; (· rfl); (· intro w' hSw; (try clear hHeld); go_simp; try with_reducible rfl)
  try simp only [Act.put, List.setIfInBounds_toArray, List.set_cons_zero, List.set_cons_succ]
  refine rgy (i := 6) (v := ?_) (atN rfl) (by kernel_rfl) (fun _ _ _ h => h) ?_ ?_ hHeld ?_; rotate_left 1; (· rfl); (· intro w' hSw; (try clear hHeld); go_simp; try with_reducible rfl)
  try simp only [Act.put, List.setIfInBounds_toArray, List.set_cons_zero, List.set_cons_succ]
  first | (refine rgn (i := 7) (atN rfl) (by kernel_rfl) (fun _ _ _ h => h) ?_ hHeld ?_; (· rfl)) | (refine rgy (i := 7) (v := ?_) (atN rfl) (by kernel_rfl) (fun _ _ _ h => h) ?_ ?_ hHeld ?_; rotate_left 1; (· rfl); (· intro w' hSw; (try clear hHeld); go_simp; try with_reducible rfl))
  try simp only [Act.put, List.setIfInBounds_toArray, List.set_cons_zero, List.set_cons_succ]
  first | (refine rgn (i := 8) (atN rfl) (by kernel_rfl) (fun _ _ _ h => h) ?_ hHeld ?_; (· rfl)) | (refine rgy (i := 8) (v := ?_) (atN rfl) (by kernel_rfl) (fun _ _ _ h => h) ?_ ?_ hHeld ?_; rotate_left 1; (· rfl); (· intro w' hSw; (try clear hHeld); go_simp; try with_reducible rfl))
  try simp only [Act.put, List.setIfInBounds_toArray, List.set_cons_zero, List.set_cons_succ]
  first | (refine rgn (i := 9) (atN rfl) (by kernel_rfl) (fun _ _ _ h => h) ?_ hHeld ?_; (· rfl)) | (refine rgy (i := 9) (v := ?_) (atN rfl) (by kernel_rfl) (fun _ _ _ h => h) ?_ ?_ hHeld ?_; rotate_left 1; (· rfl); (· intro w' hSw; refine exec_ld 25 (.tmp 17) ?_ w7.heap.size ?_ 25 _ (0, 0) _ (BM.out.below hSw) Tryd.underlying25 rfl (by kernel_rfl) <;> rfl))
  try simp only [Act.put, List.setIfInBounds_toArray, List.set_cons_zero, List.set_cons_succ]
  first | (refine rgn (i := 10) (atN rfl) (by kernel_rfl) (fun _ _ _ h => h) ?_ hHeld ?_; (· rfl)) | (refine rgy (i := 10) (v := ?_) (atN rfl) (by kernel_rfl) (fun _ _ _ h => h) ?_ ?_ hHeld ?_; rotate_left 1; (· rfl); (· intro w' hSw; refine exec_ld 31 (.tmp 9) ?_ (w.heap.size + 1) ?_ 31 _ (0, 0) _ (C.out.2.2.2.2.below hSw) Tryd.underlying31 rfl (by kernel_rfl) <;> rfl))
  try simp only [Act.put, List.setIfInBounds_toArray, List.set_cons_zero, List.set_cons_succ]
  first | (refine rgn (i := 12) (atN rfl) (by kernel_rfl) (fun _ _ _ h => h) ?_ hHeld ?_; (· rfl)) | (refine rgy (i := 12) (v := ?_) (atN rfl) (by kernel_rfl) (fun _ _ _ h => h) ?_ ?_ hHeld ?_; rotate_left 1; (· rfl); (· intro w' hSw; have c0 := cell_below c0 hSw; have c1 := cell_below c1 hSw; (try clear hHeld); go_simp; try with_reducible rfl))
  try simp only [Act.put, List.setIfInBounds_toArray, List.set_cons_zero, List.set_cons_succ]
  first | (refine rgn (i := 13) (atN rfl) (by kernel_rfl) (fun _ _ _ h => h) ?_ hHeld ?_; (· rfl)) | (refine rgy (i := 13) (v := ?_) (atN rfl) (by kernel_rfl) (fun _ _ _ h => h) ?_ ?_ hHeld ?_; rotate_left 1; (· rfl); (· intro w' hSw; refine exec_ld 31 (.tmp 9) ?_ (w.heap.size + 1) ?_ 31 _ (0, 0) _ (C.out.2.2.2.2.below hSw) Tryd.underlying31 rfl (by kernel_rfl) <;> rfl))
  try simp only [Act.put, List.setIfInBounds_toArray, List.set_cons_zero, List.set_cons_succ]
  first | (refine rgn (i := 14) (atN rfl) (by kernel_rfl) (fun _ _ _ h => h) ?_ hHeld ?_; (· rfl)) | (refine rgy (i := 14) (v := ?_) (atN rfl) (by kernel_rfl) (fun _ _ _ h => h) ?_ ?_ hHeld ?_; rotate_left 1; (· rfl); (· intro w' hSw; (try clear hHeld); go_simp; try with_reducible rfl))
  try simp only [Act.put, List.setIfInBounds_toArray, List.set_cons_zero, List.set_cons_succ]
  first | (refine rgn (i := 11) (atN rfl) (by kernel_rfl) (fun _ _ _ h => h) ?_ hHeld ?_; (· rfl)) | (refine rg_call (i := 11) (atN rfl) (by kernel_rfl) ?_ (fun K hK => ?_); (· rfl); (try clear hb); go_simp; (refine (HH3.out _ (C.out.2.1.below hHeld)).mono ?_; rintro e w1 ⟨rfl, hb⟩); go_wp2_with fail; refine hK.out _ _ ?_ (fun hHeld => ?_); (· exact hHeld.trans (hb.mono hHeld.size)); clear hK K)
  try simp only [Act.put, List.setIfInBounds_toArray, List.set_cons_zero, List.set_cons_succ]
  first | (refine rgn (i := 15) (atN rfl) (by kernel_rfl) (fun _ _ _ h => h) ?_ hHeld ?_; (· rfl)) | (refine rg_call (i := 15) (atN rfl) (by kernel_rfl) ?_ (fun K hK => ?_); (· rfl); (try clear hb); go_simp; (refine (HG.out _ (C.out.2.1.below hHeld)).mono ?_; rintro e w1 ⟨rfl, hb⟩); go_wp2_with fail; refine hK.out _ _ ?_ (fun hHeld => ?_); (· exact hHeld.trans (hb.mono hHeld.size)); clear hK K)
  try simp only [Act.put, List.setIfInBounds_toArray, List.set_cons_zero, List.set_cons_succ]
  first | (refine rgn (i := 16) (atN rfl) (by kernel_rfl) (fun _ _ _ h => h) ?_ hHeld ?_; (· rfl)) | (refine rgy (i := 16) (v := ?_) (atN rfl) (by kernel_rfl) (fun _ _ _ h => h) ?_ ?_ hHeld ?_; rotate_left 1; (· rfl); (· intro w' hSw; (try clear hHeld); go_simp; try with_reducible rfl))
  try simp only [Act.put, List.setIfInBounds_toArray, List.set_cons_zero, List.set_cons_succ]
  first | (refine rgn (i := 17) (atN rfl) (by kernel_rfl) (fun _ _ _ h => h) ?_ hHeld ?_; (· rfl)) | (refine rg_call (i := 17) (atN rfl) (by kernel_rfl) ?_ (fun K hK => ?_); (· rfl); (try clear hb); go_simp; (refine (HHas.out _).mono ?_; rintro e w1 ⟨rfl, hb⟩); go_wp2_with fail; refine hK.out _ _ ?_ (fun hHeld => ?_); (· exact hHeld.trans (hb.mono hHeld.size)); clear hK K)
  try simp only [Act.put, List.setIfInBounds_toArray, List.set_cons_zero, List.set_cons_succ]
  first | (refine rgn (i := 18) (atN rfl) (by kernel_rfl) (fun _ _ _ h => h) ?_ hHeld ?_; (· rfl)) | (refine rgy (i := 18) (v := ?_) (atN rfl) (by kernel_rfl) (fun _ _ _ h => h) ?_ ?_ hHeld ?_; rotate_left 1; (· rfl); (· intro w' hSw; (try clear hHeld); go_simp; try with_reducible rfl))
  try simp only [Act.put, List.setIfInBounds_toArray, List.set_cons_zero, List.set_cons_succ]
  first | (refine rgn (i := 19) (atN rfl) (by kernel_rfl) (fun _ _ _ h => h) ?_ hHeld ?_; (· rfl)) | (refine rgy (i := 19) (v := ?_) (atN rfl) (by kernel_rfl) (fun _ _ _ h => h) ?_ ?_ hHeld ?_; rotate_left 1; (· rfl); (· intro w' hSw; (try clear hHeld); go_simp; try with_reducible rfl))
  try simp only [Act.put, List.setIfInBounds_toArray, List.set_cons_zero, List.set_cons_succ]
  refine rgy (i := 20) (v := ?_) (atN rfl) (by kernel_rfl) (fun _ _ _ h => h) ?_ ?_ hHeld ?_; rotate_left 1; (· rfl); (· intro w' hSw; (try clear hHeld); go_simp; try with_reducible rfl)
  try simp only [Act.put, List.setIfInBounds_toArray, List.set_cons_zero, List.set_cons_succ]
  refine rgy (i := 21) (v := ?_) (atN rfl) (by kernel_rfl) (fun _ _ _ h => h) ?_ ?_ hHeld ?_; rotate_left 1; (· rfl); (· intro w' hSw; (try clear hHeld); go_simp; try with_reducible rfl)
  try simp only [Act.put, List.setIfInBounds_toArray, List.set_cons_zero, List.set_cons_succ]
  refine wpAnyH_done (by kernel_rfl) ?_ _
  have HB := Lib.hid (below_on C.out.1 hHeld)
  clear hHeld C BM c0 c1
  go_wp2_with fail
  go_ret
  exact ⟨ret_bool (by first | rfl | simp), HB.out⟩
set_option maxRecDepth 100000 in
set_option maxHeartbeats 3200000 in
theorem mk_mid_21 (f : Nat) (hf0 : (0 : Int) ≤ f) (hf9 : (f : Int) < 9) (ne4 : ((f : Int) == 4) = false) (ne5 : ((f : Int) == 5) = false) (v k a : Nat) (n : Int) (h : Hdr) (w : World) (hT : Wid w) (P X M : Mt) (g : Nat) (F : Int) (h1 h2 : Bool)
    (hOn : ∀ W, Wid W → Calls Tryd.prog 12 #[.int .i64 (f : Nat), .int .u64 v, .int .u64 k] W fun e w' => e = .returned (.tuple #[mtV P, .int .i64 0]) ∧ Below W.heap.size W w')
    (hEx : ∀ W, Wid W → Calls Tryd.prog 14 #[.int .i64 (f : Nat), .int .u64 v] W fun e w' => e = .returned (.tuple #[mtV X, .int .i64 0]) ∧ Below W.heap.size W w')
    (hNet : ∀ W, Wid W → Calls Tryd.prog 15 #[.int .i64 (f : Nat), .agg #[.int .u32 a, .int .i64 n]] W fun e w' => e = .returned (.tuple #[mtV M, .int .i64 1]) ∧ Below W.heap.size W w')
    (hFull : ∀ W, Wid W → Calls Tryd.prog 13 #[.int .i64 (f : Nat)] W fun e w' => e = .returned (.int .u64 F) ∧ W = w')
    (dk : decide ((k : Int) ≤ F) = true)
    (ev : (bits .and .u64 (v : Int) (k : Int) == (v : Int)) = true)
    (dv : decide ((v : Int) ≤ F) = true)
    (hG : ∀ W, Wid W → Calls Tryd.prog 10 #[hdrV h, .int .i64 (f : Nat)] W fun e w' => e = .returned (.int .u64 (g : Nat)) ∧ Below W.heap.size W w')
    (hH1 : ∀ W, Wid W → Calls Tryd.prog 11 #[mtV P, hdrV h] W fun e w' => e = .returned (.bool h1) ∧ Below W.heap.size W w')
    (e1 : (bits .and .u64 (g : Int) (k : Int) == (v : Int)) = h1)
    (hH2 : ∀ W, Wid W → Calls Tryd.prog 11 #[mtV X, hdrV h] W fun e w' => e = .returned (.bool h2) ∧ Below W.heap.size W w')
    (e2 : ((g : Int) == (v : Int)) = h2) :
    Calls Tryd.prog 4 #[.int .i64 (f : Nat), .int .u64 v, .int .u64 k, .agg #[.int .u32 a, .int .i64 n], hdrV h] w fun e w' => e = .returned (.bool true) ∧ Below w.heap.size w w' := by
  have HOn := Lib.hid hOn
  have HEx := Lib.hid hEx
  have HNet := Lib.hid hNet
  have HFull := Lib.hid hFull
  have HG := Lib.hid hG
  have HH1 := Lib.hid hH1
  have HH2 := Lib.hid hH2
  clear hOn hEx hNet hFull hG hH1 hH2
  obtain ⟨W1, hW1, hM⟩ := mem_first w a n h hT
  have C := Lib.hid hM
  clear hM hT
  go_enter Tryd.func4, Tryd.ntmps4
  go_wp2_with fail
  rw [← hW1]
  clear hW1
  refine (law_example _ C.out.2.1).mono ?_
  rintro e w2 ⟨rfl, hb⟩
  have C' := Lib.hid (C.out.below hb)
  clear hb C 
  have C := C'
  clear C' 
  go_wp2_with fail
  refine (HOn.out _ C.out.2.1).mono ?_
  rintro e w3 ⟨rfl, hb⟩
  have C' := Lib.hid (C.out.below hb)
  clear hb C 
  have C := C'
  clear C' 
  go_wp2_with (first | (refine st_fresh rfl 25 _ _ rfl rfl (mtC mt0) (mtC P) rfl (by kernel_rfl) rfl (mt_one _) ?_) | (with_reducible refine halt_at (X := .binOp .geq 36 (.tmp 29) (.const (.int .i64 0)) 36) ?_ ?_; (· rfl)))
  obtain ⟨W4, hW, bp, hb⟩ := boxM w3 P
  rw [← hW]
  clear hW
  have BP := Lib.hid bp
  clear bp
  have C' := Lib.hid (C.out.below hb)
  clear hb C 
  have C := C'
  clear C' 
  unfold Halt
  go_wp2_with (go_at_call 13; refine (HFull.out _ C.out.2.1).mono ?_; rintro e _ ⟨rfl, rfl⟩)
  refine wp_region_held_drew (S := fun w' => Below W4.heap.size W4 w') (by kernel_rfl) ?_ (fun hHeld => ?_)
  · exact (Below.refl _ _).drew
  generalize World.drew W4 = wd at hHeld ⊢
  refine rgy (i := 0) (v := ?_) (atN rfl) (by kernel_rfl) (fun _ _ _ h => h) ?_ ?_ hHeld ?_; rotate_left 1; (· rfl); (· intro w' hSw; (try clear hHeld); go_simp; try with_reducible rfl)
  try simp only [Act.put, List.setIfInBounds_toArray, List.set_cons_zero, List.set_cons_succ]
  refine rgy (i := 1) (v := ?_) (atN rfl) (by kernel_rfl) (fun _ _ _ h => h) ?_ ?_ hHeld ?_; rotate_left 1; (· rfl); (· intro w' hSw; (try clear hHeld); go_simp; try with_reducible rfl)
  try simp only [Act.put, List.setIfInBounds_toArray, List.set_cons_zero, List.set_cons_succ]
  refine rgy (i := 2) (v := ?_) (atN rfl) (by kernel_rfl) (fun _ _ _ h => h) ?_ ?_ hHeld ?_; rotate_left 1; (· rfl); (· intro w' hSw; (try clear hHeld); go_simp; try with_reducible rfl)
  try simp only [Act.put, List.setIfInBounds_toArray, List.set_cons_zero, List.set_cons_succ]
  refine rgy (i := 3) (v := ?_) (atN rfl) (by kernel_rfl) (fun _ _ _ h => h) ?_ ?_ hHeld ?_; rotate_left 1; (· rfl); (· intro w' hSw; (try clear hHeld); go_simp; try with_reducible rfl)
  try simp only [Act.put, List.setIfInBounds_toArray, List.set_cons_zero, List.set_cons_succ]
  refine rgy (i := 4) (v := ?_) (atN rfl) (by kernel_rfl) (fun _ _ _ h => h) ?_ ?_ hHeld ?_; rotate_left 1; (· rfl); (· intro w' hSw; (try clear hHeld); go_simp; try with_reducible rfl)
  try simp only [Act.put, List.setIfInBounds_toArray, List.set_cons_zero, List.set_cons_succ]
  first | (refine rgn (i := 5) (atN rfl) (by kernel_rfl) (fun _ _ _ h => h) ?_ hHeld ?_; (· rfl)) | (refine rgy (i := 5) (v := ?_) (atN rfl) (by kernel_rfl) (fun _ _ _ h => h) ?_ ?_ hHeld ?_; rotate_left 1; (· rfl); (· intro w' hSw; (try clear hHeld); go_simp; try with_reducible rfl))
  try simp only [Act.put, List.setIfInBounds_toArray, List.set_cons_zero, List.set_cons_succ]
  first | (refine rgn (i := 6) (atN rfl) (by kernel_rfl) (fun _ _ _ h => h) ?_ hHeld ?_; (· rfl)) | (refine rgy (i := 6) (v := ?_) (atN rfl) (by kernel_rfl) (fun _ _ _ h => h) ?_ ?_ hHeld ?_; rotate_left 1; (· rfl); (· intro w' hSw; (try clear hHeld); go_simp; try with_reducible rfl))
  try simp only [Act.put, List.setIfInBounds_toArray, List.set_cons_zero, List.set_cons_succ]
  first | (refine rgn (i := 7) (atN rfl) (by kernel_rfl) (fun _ _ _ h => h) ?_ hHeld ?_; (· rfl)) | (refine rgy (i := 7) (v := ?_) (atN rfl) (by kernel_rfl) (fun _ _ _ h => h) ?_ ?_ hHeld ?_; rotate_left 1; (· rfl); (· intro w' hSw; (try clear hHeld); go_simp; try with_reducible rfl))
  try simp only [Act.put, List.setIfInBounds_toArray, List.set_cons_zero, List.set_cons_succ]
  first | (refine rgn (i := 8) (atN rfl) (by kernel_rfl) (fun _ _ _ h => h) ?_ hHeld ?_; (· rfl)) | (refine rgy (i := 8) (v := ?_) (atN rfl) (by kernel_rfl) (fun _ _ _ h => h) ?_ ?_ hHeld ?_; rotate_left 1; (· rfl); (· intro w' hSw; (try clear hHeld); go_simp; try with_reducible rfl))
  try simp only [Act.put, List.setIfInBounds_toArray, List.set_cons_zero, List.set_cons_succ]
  first | (refine rgn (i := 9) (atN rfl) (by kernel_rfl) (fun _ _ _ h => h) ?_ hHeld ?_; (· rfl)) | (refine rgy (i := 9) (v := ?_) (atN rfl) (by kernel_rfl) (fun _ _ _ h => h) ?_ ?_ hHeld ?_; rotate_left 1; (· rfl); (· intro w' hSw; (try clear hHeld); go_simp; try with_reducible rfl))
  try simp only [Act.put, List.setIfInBounds_toArray, List.set_cons_zero, List.set_cons_succ]
  first | (refine rgn (i := 10) (atN rfl) (by kernel_rfl) (fun _ _ _ h => h) ?_ hHeld ?_; (· rfl)) | (refine rgy (i := 10) (v := ?_) (atN rfl) (by kernel_rfl) (fun _ _ _ h => h) ?_ ?_ hHeld ?_; rotate_left 1; (· rfl); (· intro w' hSw; (try clear hHeld); go_simp; try with_reducible rfl))
  try simp only [Act.put, List.setIfInBounds_toArray, List.set_cons_zero, List.set_cons_succ]
  first | (refine rgn (i := 11) (atN rfl) (by kernel_rfl) (fun _ _ _ h => h) ?_ hHeld ?_; (· rfl)) | (refine rgy (i := 11) (v := ?_) (atN rfl) (by kernel_rfl) (fun _ _ _ h => h) ?_ ?_ hHeld ?_; rotate_left 1; (· rfl); (· intro w' hSw; refine exec_ld 25 (.tmp 11) ?_ w3.heap.size ?_ 25 _ (0, 0) _ (BP.out.below hSw) Tryd.underlying25 rfl (by kernel_rfl) <;> rfl))
  try simp only [Act.put, List.setIfInBounds_toArray, List.set_cons_zero, List.set_cons_succ]
  first | (refine rgn (i := 12) (atN rfl) (by kernel_rfl) (fun _ _ _ h => h) ?_ hHeld ?_; (· rfl)) | (refine rgy (i := 12) (v := ?_) (atN rfl) (by kernel_rfl) (fun _ _ _ h => h) ?_ ?_ hHeld ?_; rotate_left 1; (· rfl); (· intro w' hSw; (try clear hHeld); go_simp; try with_reducible rfl))
  try simp only [Act.put, List.setIfInBounds_toArray, List.set_cons_zero, List.set_cons_succ]
  first | (refine rgn (i := 13) (atN rfl) (by kernel_rfl) (fun _ _ _ h => h) ?_ hHeld ?_; (· rfl)) | (refine rgy (i := 13) (v := ?_) (atN rfl) (by kernel_rfl) (fun _ _ _ h => h) ?_ ?_ hHeld ?_; rotate_left 1; (· rfl); (· intro w' hSw; (try clear hHeld); go_simp; try with_reducible rfl))
  try simp only [Act.put, List.setIfInBounds_toArray, List.set_cons_zero, List.set_cons_succ]
  first | (refine rgn (i := 14) (atN rfl) (by kernel_rfl) (fun _ _ _ h => h) ?_ hHeld ?_; (· rfl)) | (refine rgy (i := 14) (v := ?_) (atN rfl) (by kernel_rfl) (fun _ _ _ h => h) ?_ ?_ hHeld ?_; rotate_left 1; (· rfl); (· intro w' hSw; (try clear hHeld); go_simp; try with_reducible rfl))
  try simp only [Act.put, List.setIfInBounds_toArray, List.set_cons_zero, List.set_cons_succ]
  first | (refine rgn (i := 15) (atN rfl) (by kernel_rfl) (fun _ _ _ h => h) ?_ hHeld ?_; (· rfl)) | (refine rgy (i := 15) (v := ?_) (atN rfl) (by kernel_rfl) (fun _ _ _ h => h) ?_ ?_ hHeld ?_; rotate_left 1; (· rfl); (· intro w' hSw; (try clear hHeld); go_simp; try with_reducible rfl))
  try simp only [Act.put, List.setIfInBounds_toArray, List.set_cons_zero, List.set_cons_succ]
  refine rgy (i := 16) (v := ?_) (atN rfl) (by kernel_rfl) (fun _ _ _ h => h) ?_ ?_ hHeld ?_; rotate_left 1; (· rfl); (· intro w' hSw; (try clear hHeld); go_simp; try with_reducible rfl)
  try simp only [Act.put, List.setIfInBounds_toArray, List.set_cons_zero, List.set_cons_succ]
  refine rgy (i := 17) (v := ?_) (atN rfl) (by kernel_rfl) (fun _ _ _ h => h) ?_ ?_ hHeld ?_; rotate_left 1; (· rfl); (· intro w' hSw; (try clear hHeld); go_simp; try with_reducible rfl)
  try simp only [Act.put, List.setIfInBounds_toArray, List.set_cons_zero, List.set_cons_succ]
  first | (refine rgn (i := 18) (atN rfl) (by kernel_rfl) (fun _ _ _ h => h) ?_ hHeld ?_; (· rfl)) | (refine rgy (i := 18) (v := ?_) (atN rfl) (by kernel_rfl) (fun _ _ _ h => h) ?_ ?_ hHeld ?_; rotate_left 1; (· rfl); (· intro w' hSw; (try clear hHeld); go_simp; try with_reducible rfl))
  try simp only [Act.put, List.setIfInBounds_toArray, List.set_cons_zero, List.set_cons_succ]
  first | (refine rgn (i := 19) (atN rfl) (by kernel_rfl) (fun _ _ _ h => h) ?_ hHeld ?_; (· rfl)) | (refine rgy (i := 19) (v := ?_) (atN rfl) (by kernel_rfl) (fun _ _ _ h => h) ?_ ?_ hHeld ?_; rotate_left 1; (· rfl); (· intro w' hSw; (try clear hHeld); go_simp; try with_reducible rfl))
  try simp only [Act.put, List.setIfInBounds_toArray, List.set_cons_zero, List.set_cons_succ]
  first | (refine rgn (i := 20) (atN rfl) (by kernel_rfl) (fun _ _ _ h => h) ?_ hHeld ?_; (· rfl)) | (refine rgy (i := 20) (v := ?_) (atN rfl) (by kernel_rfl) (fun _ _ _ h => h) ?_ ?_ hHeld ?_; rotate_left 1; (· rfl); (· intro w' hSw; refine exec_ld 25 (.tmp 11) ?_ w3.heap.size ?_ 25 _ (0, 0) _ (BP.out.below hSw) Tryd.underlying25 rfl (by kernel_rfl) <;> rfl))
  try simp only [Act.put, List.setIfInBounds_toArray, List.set_cons_zero, List.set_cons_succ]
  first | (refine rgn (i := 21) (atN rfl) (by kernel_rfl) (fun _ _ _ h => h) ?_ hHeld ?_; (· rfl)) | (refine rgy (i := 21) (v := ?_) (atN rfl) (by kernel_rfl) (fun _ _ _ h => h) ?_ ?_ hHeld ?_; rotate_left 1; (· rfl); (· intro w' hSw; refine exec_ld 31 (.tmp 9) ?_ (w.heap.size + 1) ?_ 31 _ (0, 0) _ (C.out.2.2.2.2.below hSw) Tryd.underlying31 rfl (by kernel_rfl) <;> rfl))
  try simp only [Act.put, List.setIfInBounds_toArray, List.set_cons_zero, List.set_cons_succ]
  first | (refine rgn (i := 23) (atN rfl) (by kernel_rfl) (fun _ _ _ h => h) ?_ hHeld ?_; (· rfl)) | (refine rgy (i := 23) (v := ?_) (atN rfl) (by kernel_rfl) (fun _ _ _ h => h) ?_ ?_ hHeld ?_; rotate_left 1; (· rfl); (· intro w' hSw; refine exec_ld 31 (.tmp 9) ?_ (w.heap.size + 1) ?_ 31 _ (0, 0) _ (C.out.2.2.2.2.below hSw) Tryd.underlying31 rfl (by kernel_rfl) <;> rfl))
  try simp only [Act.put, List.setIfInBounds_toArray, List.set_cons_zero, List.set_cons_succ]
  first | (refine rgn (i := 24) (atN rfl) (by kernel_rfl) (fun _ _ _ h => h) ?_ hHeld ?_; (· rfl)) | (refine rgy (i := 24) (v := ?_) (atN rfl) (by kernel_rfl) (fun _ _ _ h => h) ?_ ?_ hHeld ?_; rotate_left 1; (· rfl); (· intro w' hSw; (try clear hHeld); go_simp; try with_reducible rfl))
  try simp only [Act.put, List.setIfInBounds_toArray, List.set_cons_zero, List.set_cons_succ]
  first | (refine rgn (i := 26) (atN rfl) (by kernel_rfl) (fun _ _ _ h => h) ?_ hHeld ?_; (· rfl)) | (refine rgy (i := 26) (v := ?_) (atN rfl) (by kernel_rfl) (fun _ _ _ h => h) ?_ ?_ hHeld ?_; rotate_left 1; (· rfl); (· intro w' hSw; (try clear hHeld); go_simp; try with_reducible rfl))
  try simp only [Act.put, List.setIfInBounds_toArray, List.set_cons_zero, List.set_cons_succ]
  first | (refine rgn (i := 28) (atN rfl) (by kernel_rfl) (fun _ _ _ h => h) ?_ hHeld ?_; (· rfl)) | (refine rgy (i := 28) (v := ?_) (atN rfl) (by kernel_rfl) (fun _ _ _ h => h) ?_ ?_ hHeld ?_; rotate_left 1; (· rfl); (· intro w' hSw; (try clear hHeld); go_simp; try with_reducible rfl))
  try simp only [Act.put, List.setIfInBounds_toArray, List.set_cons_zero, List.set_cons_succ]
  first | (refine rgn (i := 22) (atN rfl) (by kernel_rfl) (fun _ _ _ h => h) ?_ hHeld ?_; (· rfl)) | (refine rg_call (i := 22) (atN rfl) (by kernel_rfl) ?_ (fun K hK => ?_); (· rfl); (try clear hb); go_simp; (refine (HH1.out _ (C.out.2.1.below hHeld)).mono ?_; rintro e w1 ⟨rfl, hb⟩); go_wp2_with fail; refine hK.out _ _ ?_ (fun hHeld => ?_); (· exact hHeld.trans (hb.mono hHeld.size)); clear hK K)
  try simp only [Act.put, List.setIfInBounds_toArray, List.set_cons_zero, List.set_cons_succ]
  first | (refine rgn (i := 25) (atN rfl) (by kernel_rfl) (fun _ _ _ h => h) ?_ hHeld ?_; (· rfl)) | (refine rg_call (i := 25) (atN rfl) (by kernel_rfl) ?_ (fun K hK => ?_); (· rfl); (try clear hb); go_simp; (refine (HG.out _ (C.out.2.1.below hHeld)).mono ?_; rintro e w1 ⟨rfl, hb⟩); go_wp2_with fail; refine hK.out _ _ ?_ (fun hHeld => ?_); (· exact hHeld.trans (hb.mono hHeld.size)); clear hK K)
  try simp only [Act.put, List.setIfInBounds_toArray, List.set_cons_zero, List.set_cons_succ]
  first | (refine rgn (i := 27) (atN rfl) (by kernel_rfl) (fun _ _ _ h => h) ?_ hHeld ?_; (· rfl)) | (refine rgy (i := 27) (v := ?_) (atN rfl) (by kernel_rfl) (fun _ _ _ h => h) ?_ ?_ hHeld ?_; rotate_left 1; (· rfl); (· intro w' hSw; (try clear hHeld); go_simp; try with_reducible rfl))
  try simp only [Act.put, List.setIfInBounds_toArray, List.set_cons_zero, List.set_cons_succ]
  first | (refine rgn (i := 29) (atN rfl) (by kernel_rfl) (fun _ _ _ h => h) ?_ hHeld ?_; (· rfl)) | (refine rgy (i := 29) (v := ?_) (atN rfl) (by kernel_rfl) (fun _ _ _ h => h) ?_ ?_ hHeld ?_; rotate_left 1; (· rfl); (· intro w' hSw; (try clear hHeld); go_simp; try with_reducible rfl))
  try simp only [Act.put, List.setIfInBounds_toArray, List.set_cons_zero, List.set_cons_succ]
  first | (refine rgn (i := 30) (atN rfl) (by kernel_rfl) (fun _ _ _ h => h) ?_ hHeld ?_; (· rfl)) | (refine rgy (i := 30) (v := ?_) (atN rfl) (by kernel_rfl) (fun _ _ _ h => h) ?_ ?_ hHeld ?_; rotate_left 1; (· rfl); (· intro w' hSw; (try clear hHeld); go_simp; try with_reducible rfl))
  try simp only [Act.put, List.setIfInBounds_toArray, List.set_cons_zero, List.set_cons_succ]
  first | (refine rgn (i := 31) (atN rfl) (by kernel_rfl) (fun _ _ _ h => h) ?_ hHeld ?_; (· rfl)) | (refine rgy (i := 31) (v := ?_) (atN rfl) (by kernel_rfl) (fun _ _ _ h => h) ?_ ?_ hHeld ?_; rotate_left 1; (· rfl); (· intro w' hSw; (try clear hHeld); go_simp; try with_reducible rfl))
  try simp only [Act.put, List.setIfInBounds_toArray, List.set_cons_zero, List.set_cons_succ]
  refine rgy (i := 32) (v := ?_) (atN rfl) (by kernel_rfl) (fun _ _ _ h => h) ?_ ?_ hHeld ?_; rotate_left 1; (· rfl); (· intro w' hSw; (try clear hHeld); go_simp; try with_reducible rfl)
  try simp only [Act.put, List.setIfInBounds_toArray, List.set_cons_zero, List.set_cons_succ]
  refine wpAnyH_done (by kernel_rfl) ?_ _
  have hb := hHeld
  clear BP
  have C' := Lib.hid (C.out.below hb)
  clear hb hHeld C
  have C := C'
  clear C'
  go_wp2_with fail
  refine (HEx.out _ C.out.2.1).mono ?_
  rintro e w5 ⟨rfl, hb⟩
  have C' := Lib.hid (C.out.below hb)
  clear hb C 
  have C := C'
  clear C' 
  go_wp2_with (first | (refine st_fresh rfl 25 _ _ rfl rfl (mtC mt0) (mtC X) rfl (by kernel_rfl) rfl (mt_one _) ?_) | (with_reducible refine halt_at (X := .binOp .geq 36 (.tmp 86) (.const (.int .i64 0)) 36) ?_ ?_; (· rfl)))
  obtain ⟨W6, hW, bx, hb⟩ := boxM w5 X
  rw [← hW]
  clear hW
  have BX := Lib.hid bx
  clear bx
  have C' := Lib.hid (C.out.below hb)
  clear hb C 
  have C := C'
  clear C' 
  unfold Halt
  go_wp2_with (go_at_call 13; refine (HFull.out _ C.out.2.1).mono ?_; rintro e _ ⟨rfl, rfl⟩)
  refine wp_region_held_drew (S := fun w' => Below W6.heap.size W6 w') (by kernel_rfl) ?_ (fun hHeld => ?_)
  · exact (Below.refl _ _).drew
  generalize World.drew W6 = wd at hHeld ⊢
  refine rgy (i := 0) (v := ?_) (atN rfl) (by kernel_rfl) (fun _ _ _ h => h) ?_ ?_ hHeld ?_; rotate_left 1; (· rfl); (· intro w' hSw; (try clear hHeld); go_simp; try with_reducible rfl)
  try simp only [Act.put, List.setIfInBounds_toArray, List.set_cons_zero, List.set_cons_succ]
  refine rgy (i := 1) (v := ?_) (atN rfl) (by kernel_rfl) (fun _ _ _ h => h) ?_ ?_ hHeld ?_; rotate_left 1; (· rfl); (· intro w' hSw; (try clear hHeld); go_simp; try with_reducible rfl)
  try simp only [Act.put, List.setIfInBounds_toArray, List.set_cons_zero, List.set_cons_succ]
  refine rgy (i := 2) (v := ?_) (atN rfl) (by kernel_rfl) (fun _ _ _ h => h) ?_ ?_ hHeld ?_; rotate_left 1; (· rfl); (· intro w' hSw; (try clear hHeld); go_simp; try with_reducible rfl)
  try simp only [Act.put, List.setIfInBounds_toArray, List.set_cons_zero, List.set_cons_succ]
  refine rgy (i := 3) (v := ?_) (atN rfl) (by kernel_rfl) (fun _ _ _ h => h) ?_ ?_ hHeld ?_; rotate_left 1; (· rfl); (· intro w' hSw; (try clear hHeld); go_simp; try with_reducible rfl)
  try simp only [Act.put, List.setIfInBounds_toArray, List.set_cons_zero, List.set_cons_succ]
  refine rgy (i := 4) (v := ?_) (atN rfl) (by kernel_rfl) (fun _ _ _ h => h) ?_ ?_ hHeld ?_; rotate_left 1; (· rfl); (· intro w' hSw; (try clear hHeld); go_simp; try with_reducible rfl)
  try simp only [Act.put, List.setIfInBounds_toArray, List.set_cons_zero, List.set_cons_succ]
  first | (refine rgn (i := 5) (atN rfl) (by kernel_rfl) (fun _ _ _ h => h) ?_ hHeld ?_; (· rfl)) | (refine rgy (i := 5) (v := ?_) (atN rfl) (by kernel_rfl) (fun _ _ _ h => h) ?_ ?_ hHeld ?_; rotate_left 1; (· rfl); (· intro w' hSw; (try clear hHeld); go_simp; try with_reducible rfl))
  try simp only [Act.put, List.setIfInBounds_toArray, List.set_cons_zero, List.set_cons_succ]
  first | (refine rgn (i := 6) (atN rfl) (by kernel_rfl) (fun _ _ _ h => h) ?_ hHeld ?_; (· rfl)) | (refine rgy (i := 6) (v := ?_) (atN rfl) (by kernel_rfl) (fun _ _ _ h => h) ?_ ?_ hHeld ?_; rotate_left 1; (· rfl); (· intro w' hSw; (try clear hHeld); go_simp; try with_reducible rfl))
  try simp only [Act.put, List.setIfInBounds_toArray, List.set_cons_zero, List.set_cons_succ]
  first | (refine rgn (i := 7) (atN rfl) (by kernel_rfl) (fun _ _ _ h => h) ?_ hHeld ?_; (· rfl)) | (refine rgy (i := 7) (v := ?_) (atN rfl) (by kernel_rfl) (fun _ _ _ h => h) ?_ ?_ hHeld ?_; rotate_left 1; (· rfl); (· intro w' hSw; refine exec_ld 25 (.tmp 14) ?_ w5.heap.size ?_ 25 _ (0, 0) _ (BX.out.below hSw) Tryd.underlying25 rfl (by kernel_rfl) <;> rfl))
  try simp only [Act.put, List.setIfInBounds_toArray, List.set_cons_zero, List.set_cons_succ]
  first | (refine rgn (i := 8) (atN rfl) (by kernel_rfl) (fun _ _ _ h => h) ?_ hHeld ?_; (· rfl)) | (refine rgy (i := 8) (v := ?_) (atN rfl) (by kernel_rfl) (fun _ _ _ h => h) ?_ ?_ hHeld ?_; rotate_left 1; (· rfl); (· intro w' hSw; refine exec_ld 31 (.tmp 9) ?_ (w.heap.size + 1) ?_ 31 _ (0, 0) _ (C.out.2.2.2.2.below hSw) Tryd.underlying31 rfl (by kernel_rfl) <;> rfl))
  try simp only [Act.put, List.setIfInBounds_toArray, List.set_cons_zero, List.set_cons_succ]
  first | (refine rgn (i := 10) (atN rfl) (by kernel_rfl) (fun _ _ _ h => h) ?_ hHeld ?_; (· rfl)) | (refine rgy (i := 10) (v := ?_) (atN rfl) (by kernel_rfl) (fun _ _ _ h => h) ?_ ?_ hHeld ?_; rotate_left 1; (· rfl); (· intro w' hSw; refine exec_ld 31 (.tmp 9) ?_ (w.heap.size + 1) ?_ 31 _ (0, 0) _ (C.out.2.2.2.2.below hSw) Tryd.underlying31 rfl (by kernel_rfl) <;> rfl))
  try simp only [Act.put, List.setIfInBounds_toArray, List.set_cons_zero, List.set_cons_succ]
  first | (refine rgn (i := 11) (atN rfl) (by kernel_rfl) (fun _ _ _ h => h) ?_ hHeld ?_; (· rfl)) | (refine rgy (i := 11) (v := ?_) (atN rfl) (by kernel_rfl) (fun _ _ _ h => h) ?_ ?_ hHeld ?_; rotate_left 1; (· rfl); (· intro w' hSw; (try clear hHeld); go_simp; try with_reducible rfl))
  try simp only [Act.put, List.setIfInBounds_toArray, List.set_cons_zero, List.set_cons_succ]
  first | (refine rgn (i := 13) (atN rfl) (by kernel_rfl) (fun _ _ _ h => h) ?_ hHeld ?_; (· rfl)) | (refine rgy (i := 13) (v := ?_) (atN rfl) (by kernel_rfl) (fun _ _ _ h => h) ?_ ?_ hHeld ?_; rotate_left 1; (· rfl); (· intro w' hSw; (try clear hHeld); go_simp; try with_reducible rfl))
  try simp only [Act.put, List.setIfInBounds_toArray, List.set_cons_zero, List.set_cons_succ]
  first | (refine rgn (i := 9) (atN rfl) (by kernel_rfl) (fun _ _ _ h => h) ?_ hHeld ?_; (· rfl)) | (refine rg_call (i := 9) (atN rfl) (by kernel_rfl) ?_ (fun K hK => ?_); (· rfl); (try clear hb); go_simp; (refine (HH2.out _ (C.out.2.1.below hHeld)).mono ?_; rintro e w1 ⟨rfl, hb⟩); go_wp2_with fail; refine hK.out _ _ ?_ (fun hHeld => ?_); (· exact hHeld.trans (hb.mono hHeld.size)); clear hK K)
  try simp only [Act.put, List.setIfInBounds_toArray, List.set_cons_zero, List.set_cons_succ]
  first | (refine rgn (i := 12) (atN rfl) (by kernel_rfl) (fun _ _ _ h => h) ?_ hHeld ?_; (· rfl)) | (refine rg_call (i := 12) (atN rfl) (by kernel_rfl) ?_ (fun K hK => ?_); (· rfl); (try clear hb); go_simp; (refine (HG.out _ (C.out.2.1.below hHeld)).mono ?_; rintro e w1 ⟨rfl, hb⟩); go_wp2_with fail; refine hK.out _ _ ?_ (fun hHeld => ?_); (· exact hHeld.trans (hb.mono hHeld.size)); clear hK K)
  try simp only [Act.put, List.setIfInBounds_toArray, List.set_cons_zero, List.set_cons_succ]
  first | (refine rgn (i := 14) (atN rfl) (by kernel_rfl) (fun _ _ _ h => h) ?_ hHeld ?_; (· rfl)) | (refine rgy (i := 14) (v := ?_) (atN rfl) (by kernel_rfl) (fun _ _ _ h => h) ?_ ?_ hHeld ?_; rotate_left 1; (· rfl); (· intro w' hSw; (try clear hHeld); go_simp; try with_reducible rfl))
  try simp only [Act.put, List.setIfInBounds_toArray, List.set_cons_zero, List.set_cons_succ]
  first | (refine rgn (i := 15) (atN rfl) (by kernel_rfl) (fun _ _ _ h => h) ?_ hHeld ?_; (· rfl)) | (refine rgy (i := 15) (v := ?_) (atN rfl) (by kernel_rfl) (fun _ _ _ h => h) ?_ ?_ hHeld ?_; rotate_left 1; (· rfl); (· intro w' hSw; (try clear hHeld); go_simp; try with_reducible rfl))
  try simp only [Act.put, List.setIfInBounds_toArray, List.set_cons_zero, List.set_cons_succ]
  first | (refine rgn (i := 16) (atN rfl) (by kernel_rfl) (fun _ _ _ h => h) ?_ hHeld ?_; (· rfl)) | (refine rgy (i := 16) (v := ?_) (atN rfl) (by kernel_rfl) (fun _ _ _ h => h) ?_ ?_ hHeld ?_; rotate_left 1; (· rfl); (· intro w' hSw; (try clear hHeld); go_simp; try with_reducible rfl))
  try simp only [Act.put, List.setIfInBounds_toArray, List.set_cons_zero, List.set_cons_succ]
  refine rgy (i := 17) (v := ?_) (atN rfl) (by kernel_rfl) (fun _ _ _ h => h) ?_ ?_ hHeld ?_; rotate_left 1; (· rfl); (· intro w' hSw; (try clear hHeld); go_simp; try with_reducible rfl)
  try simp only [Act.put, List.setIfInBounds_toArray, List.set_cons_zero, List.set_cons_succ]
  refine wpAnyH_done (by kernel_rfl) ?_ _
  have hb := hHeld
  clear BX
  have C' := Lib.hid (C.out.below hb)
  clear hb hHeld C
  have C := C'
  clear C'
  have c0 := C.out.2.2.1
  have c1 := C.out.2.2.2.1
  go_wp2_with fail
  clear c0 c1
  refine (HNet.out _ C.out.2.1).mono ?_
  rintro e w7 ⟨rfl, hb⟩
  have C' := Lib.hid (C.out.below hb)
  clear hb C 
  have C := C'
  clear C' 
  go_wp2_with (first | (refine st_fresh rfl 25 _ _ rfl rfl (mtC mt0) (mtC M) rfl (by kernel_rfl) rfl (mt_one _) ?_) | (with_reducible refine halt_at (X := .binOp .eql 36 (.tmp 122) (.const (.int .i64 4)) 36) ?_ ?_; (· rfl)))
  obtain ⟨W8, hW, bm, hb⟩ := boxM w7 M
  rw [← hW]
  clear hW
  have BM := Lib.hid bm
  clear bm
  have C' := Lib.hid (C.out.below hb)
  clear hb C 
  have C := C'
  clear C' 
  unfold Halt
  have c0 := C.out.2.2.1
  have c1 := C.out.2.2.2.1
  go_wp2_with fail
  refine wp_region_held_drew (S := fun w' => Below W8.heap.size W8 w') (by kernel_rfl) ?_ (fun hHeld => ?_)
  · exact (Below.refl _ _).drew
  generalize World.drew W8 = wd at hHeld ⊢
  refine rgy (i := 0) (v := ?_) (atN rfl) (by kernel_rfl) (fun _ _ _ h => h) ?_ ?_ hHeld ?_; rotate_left 1; (· rfl); (· intro w' hSw; (try clear hHeld); go_simp; try with_reducible rfl)
  try simp only [Act.put, List.setIfInBounds_toArray, List.set_cons_zero, List.set_cons_succ]
  refine rgy (i := 1) (v := ?_) (atN rfl) (by kernel_rfl) (fun _ _ _ h => h) ?_ ?_ hHeld ?_; rotate_left 1; (· rfl); (· intro w' hSw; (try clear hHeld); go_simp; try with_reducible rfl)
  try simp only [Act.put, List.setIfInBounds_toArray, List.set_cons_zero, List.set_cons_succ]
  refine rgy (i := 2) (v := ?_) (atN rfl) (by kernel_rfl) (fun _ _ _ h => h) ?_ ?_ hHeld ?_; rotate_left 1; (· rfl); (· intro w' hSw; (try clear hHeld); go_simp; try with_reducible rfl)
  try simp only [Act.put, List.setIfInBounds_toArray, List.set_cons_zero, List.set_cons_succ]
  first | (refine rgn (i := 3) (atN rfl) (by kernel_rfl) (fun _ _ _ h => h) ?_ hHeld ?_; (· rfl)) | (refine rgy (i := 3) (v := ?_) (atN rfl) (by kernel_rfl) (fun _ _ _ h => h) ?_ ?_ hHeld ?_; rotate_left 1; (· rfl); (· intro w' hSw; (try clear hHeld); go_simp; try with_reducible rfl))
  try simp only [Act.put, List.setIfInBounds_toArray, List.set_cons_zero, List.set_cons_succ]
  first | (refine rgn (i := 4) (atN rfl) (by kernel_rfl) (fun _ _ _ h => h) ?_ hHeld ?_; (· rfl)) | (refine rgy (i := 4) (v := ?_) (atN rfl) (by kernel_rfl) (fun _ _ _ h => h) ?_ ?_ hHeld ?_; rotate_left 1; (· rfl); (· intro w' hSw; (try clear hHeld); go_simp; try with_reducible rfl))
  try simp only [Act.put, List.setIfInBounds_toArray, List.set_cons_zero, List.set_cons_succ]
  refine rgy (i := 5) (v := ?_) (atN rfl) (by kernel_rfl) (fun _ _ _ h => h) ?_ ?_ hHeld ?_; rotate_left 1; (· rfl); (· intro w' hSw; (try clear hHeld); go_simp; try with_reducible rfl)
  try simp only [Act.put, List.setIfInBounds_toArray, List.set_cons_zero, List.set_cons_succ]
  refine rgy (i := 6) (v := ?_) (atN rfl) (by kernel_rfl) (fun _ _ _ h => h) ?_ ?_ hHeld ?_; rotate_left 1; (· rfl); (· intro w' hSw; (try clear hHeld); go_simp; try with_reducible rfl)
  try simp only [Act.put, List.setIfInBounds_toArray, List.set_cons_zero, List.set_cons_succ]
  first | (refine rgn (i := 7) (atN rfl) (by kernel_rfl) (fun _ _ _ h => h) ?_ hHeld ?_; (· rfl)) | (refine rgy (i := 7) (v := ?_) (atN rfl) (by kernel_rfl) (fun _ _ _ h => h) ?_ ?_ hHeld ?_; rotate_left 1; (· rfl); (· intro w' hSw; (try clear hHeld); go_simp; try with_reducible rfl))
  try simp only [Act.put, List.setIfInBounds_toArray, List.set_cons_zero, List.set_cons_succ]
  first | (refine rgn (i := 8) (atN rfl) (by kernel_rfl) (fun _ _ _ h => h) ?_ hHeld ?_; (· rfl)) | (refine rgy (i := 8) (v := ?_) (atN rfl) (by kernel_rfl) (fun _ _ _ h => h) ?_ ?_ hHeld ?_; rotate_left 1; (· rfl); (· intro w' hSw; (try clear hHeld); go_simp; try with_reducible rfl))
  try simp only [Act.put, List.setIfInBounds_toArray, List.set_cons_zero, List.set_cons_succ]
  first | (refine rgn (i := 9) (atN rfl) (by kernel_rfl) (fun _ _ _ h => h) ?_ hHeld ?_; (· rfl)) | (refine rgy (i := 9) (v := ?_) (atN rfl) (by kernel_rfl) (fun _ _ _ h => h) ?_ ?_ hHeld ?_; rotate_left 1; (· rfl); (· intro w' hSw; refine exec_ld 25 (.tmp 17) ?_ w7.heap.size ?_ 25 _ (0, 0) _ (BM.out.below hSw) Tryd.underlying25 rfl (by kernel_rfl) <;> rfl))
  try simp only [Act.put, List.setIfInBounds_toArray, List.set_cons_zero, List.set_cons_succ]
  first | (refine rgn (i := 10) (atN rfl) (by kernel_rfl) (fun _ _ _ h => h) ?_ hHeld ?_; (· rfl)) | (refine rgy (i := 10) (v := ?_) (atN rfl) (by kernel_rfl) (fun _ _ _ h => h) ?_ ?_ hHeld ?_; rotate_left 1; (· rfl); (· intro w' hSw; refine exec_ld 31 (.tmp 9) ?_ (w.heap.size + 1) ?_ 31 _ (0, 0) _ (C.out.2.2.2.2.below hSw) Tryd.underlying31 rfl (by kernel_rfl) <;> rfl))
  try simp only [Act.put, List.setIfInBounds_toArray, List.set_cons_zero, List.set_cons_succ]
  first | (refine rgn (i := 12) (atN rfl) (by kernel_rfl) (fun _ _ _ h => h) ?_ hHeld ?_; (· rfl)) | (refine rgy (i := 12) (v := ?_) (atN rfl) (by kernel_rfl) (fun _ _ _ h => h) ?_ ?_ hHeld ?_; rotate_left 1; (· rfl); (· intro w' hSw; have c0 := cell_below c0 hSw; have c1 := cell_below c1 hSw; (try clear hHeld); go_simp; try with_reducible rfl))
  try simp only [Act.put, List.setIfInBounds_toArray, List.set_cons_zero, List.set_cons_succ]
  first | (refine rgn (i := 13) (atN rfl) (by kernel_rfl) (fun _ _ _ h => h) ?_ hHeld ?_; (· rfl)) | (refine rgy (i := 13) (v := ?_) (atN rfl) (by kernel_rfl) (fun _ _ _ h => h) ?_ ?_ hHeld ?_; rotate_left 1; (· rfl); (· intro w' hSw; refine exec_ld 31 (.tmp 9) ?_ (w.heap.size + 1) ?_ 31 _ (0, 0) _ (C.out.2.2.2.2.below hSw) Tryd.underlying31 rfl (by kernel_rfl) <;> rfl))
  try simp only [Act.put, List.setIfInBounds_toArray, List.set_cons_zero, List.set_cons_succ]
  first | (refine rgn (i := 14) (atN rfl) (by kernel_rfl) (fun _ _ _ h => h) ?_ hHeld ?_; (· rfl)) | (refine rgy (i := 14) (v := ?_) (atN rfl) (by kernel_rfl) (fun _ _ _ h => h) ?_ ?_ hHeld ?_; rotate_left 1; (· rfl); (· intro w' hSw; (try clear hHeld); go_simp; try with_reducible rfl))
  try simp only [Act.put, List.setIfInBounds_toArray, List.set_cons_zero, List.set_cons_succ]
  first | (refine rgn (i := 11) (atN rfl) (by kernel_rfl) (fun _ _ _ h => h) ?_ hHeld ?_; (· rfl)) | (refine rg_call (i := 11) (atN rfl) (by kernel_rfl) ?_ (fun K hK => ?_); (· rfl); (try clear hb); go_simp; (refine (HH3.out _ (C.out.2.1.below hHeld)).mono ?_; rintro e w1 ⟨rfl, hb⟩); go_wp2_with fail; refine hK.out _ _ ?_ (fun hHeld => ?_); (· exact hHeld.trans (hb.mono hHeld.size)); clear hK K)
  try simp only [Act.put, List.setIfInBounds_toArray, List.set_cons_zero, List.set_cons_succ]
  first | (refine rgn (i := 15) (atN rfl) (by kernel_rfl) (fun _ _ _ h => h) ?_ hHeld ?_; (· rfl)) | (refine rg_call (i := 15) (atN rfl) (by kernel_rfl) ?_ (fun K hK => ?_); (· rfl); (try clear hb); go_simp; (refine (HG.out _ (C.out.2.1.below hHeld)).mono ?_; rintro e w1 ⟨rfl, hb⟩); go_wp2_with fail; refine hK.out _ _ ?_ (fun hHeld => ?_); (· exact hHeld.trans (hb.mono hHeld.size)); clear hK K)
  try simp only [Act.put, List.setIfInBounds_toArray, List.set_cons_zero, List.set_cons_succ]
  first | (refine rgn (i := 16) (atN rfl) (by kernel_rfl) (fun _ _ _ h => h) ?_ hHeld ?_; (· rfl)) | (refine rgy (i := 16) (v := ?_) (atN rfl) (by kernel_rfl) (fun _ _ _ h => h) ?_ ?_ hHeld ?_; rotate_left 1; (· rfl); (· intro w' hSw; (try clear hHeld); go_simp; try with_reducible rfl))
  try simp only [Act.put, List.setIfInBounds_toArray, List.set_cons_zero, List.set_cons_succ]
  first | (refine rgn (i := 17) (atN rfl) (by kernel_rfl) (fun _ _ _ h => h) ?_ hHeld ?_; (· rfl)) | (refine rg_call (i := 17) (atN rfl) (by kernel_rfl) ?_ (fun K hK => ?_); (· rfl); (try clear hb); go_simp; (refine (HHas.out _).mono ?_; rintro e w1 ⟨rfl, hb⟩); go_wp2_with fail; refine hK.out _ _ ?_ (fun hHeld => ?_); (· exact hHeld.trans (hb.mono hHeld.size)); clear hK K)
  try simp only [Act.put, List.setIfInBounds_toArray, List.set_cons_zero, List.set_cons_succ]
  first | (refine rgn (i := 18) (atN rfl) (by kernel_rfl) (fun _ _ _ h => h) ?_ hHeld ?_; (· rfl)) | (refine rgy (i := 18) (v := ?_) (atN rfl) (by kernel_rfl) (fun _ _ _ h => h) ?_ ?_ hHeld ?_; rotate_left 1; (· rfl); (· intro w' hSw; (try clear hHeld); go_simp; try with_reducible rfl))
  try simp only [Act.put, List.setIfInBounds_toArray, List.set_cons_zero, List.set_cons_succ]
  first | (refine rgn (i := 19) (atN rfl) (by kernel_rfl) (fun _ _ _ h => h) ?_ hHeld ?_; (· rfl)) | (refine rgy (i := 19) (v := ?_) (atN rfl) (by kernel_rfl) (fun _ _ _ h => h) ?_ ?_ hHeld ?_; rotate_left 1; (· rfl); (· intro w' hSw; (try clear hHeld); go_simp; try with_reducible rfl))
  try simp only [Act.put, List.setIfInBounds_toArray, List.set_cons_zero, List.set_cons_succ]
  refine rgy (i := 20) (v := ?_) (atN rfl) (by kernel_rfl) (fun _ _ _ h => h) ?_ ?_ hHeld ?_; rotate_left 1; (· rfl); (· intro w' hSw; (try clear hHeld); go_simp; try with_reducible rfl)
  try simp only [Act.put, List.setIfInBounds_toArray, List.set_cons_zero, List.set_cons_succ]
  refine rgy (i := 21) (v := ?_) (atN rfl) (by kernel_rfl) (fun _ _ _ h => h) ?_ ?_ hHeld ?_; rotate_left 1; (· rfl); (· intro w' hSw; (try clear hHeld); go_simp; try with_reducible rfl)
  try simp only [Act.put, List.setIfInBounds_toArray, List.set_cons_zero, List.set_cons_succ]
  refine wpAnyH_done (by kernel_rfl) ?_ _
  have HB := Lib.hid (below_on C.out.1 hHeld)
  clear hHeld C BM c0 c1
  go_wp2_with fail
  go_ret
  exact ⟨ret_bool (by first | rfl | simp), HB.out⟩
end Go.Proofs.YtkcikblecinnfaaDoor
