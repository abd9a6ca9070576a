/-
  MatchAnds, walks: by cases, 4.
-/
import Derived.Test.YtkcikblecinnfaaDoorAnBase
namespace Go.Proofs.YtkcikblecinnfaaDoor
open Go.RowKit
set_option maxRecDepth 100000 in
set_option maxHeartbeats 3200000 in
theorem an_1110 (m n x y : Mt) (h : Hdr) (w : World) (hT : Wid w)
    (hR1 : ∀ W, Wid W → Calls Tryd.prog 9 #[mtV m] W fun e w' => e = .returned (.bool true) ∧ Below W.heap.size W w')
    (hR2 : ∀ W, Wid W → Calls Tryd.prog 9 #[mtV n] W fun e w' => e = .returned (.bool true) ∧ Below W.heap.size W w')
    (hA1 : ∀ W, Calls Tryd.prog 18 #[mtV m, mtV n] W fun e w' => e = .returned (.tuple #[mtV x, .bool true]) ∧ Below W.heap.size W w')
    (hA2 : ∀ W, Calls Tryd.prog 18 #[mtV n, mtV m] W fun e w' => e = .returned (.tuple #[mtV y, .bool true]) ∧ Below W.heap.size W w')
    (hHm : ∀ W, Wid W → Calls Tryd.prog 11 #[mtV m, hdrV h] W fun e w' => e = .returned (.bool true) ∧ Below W.heap.size W w')
    (hHn : ∀ W, Wid W → Calls Tryd.prog 11 #[mtV n, hdrV h] W fun e w' => e = .returned (.bool false) ∧ Below W.heap.size W w')
    (hCv : ∀ W, Calls Tryd.prog 19 #[mtV m, mtV n] W fun e w' => e = .returned (.bool true) ∧ Below W.heap.size W w')
    (e1 : eqM x y = true)
    (hRx : ∀ W, Wid W → Calls Tryd.prog 9 #[mtV x] W fun e w' => e = .returned (.bool true) ∧ Below W.heap.size W w')
    (hHx : ∀ W, Wid W → Calls Tryd.prog 11 #[mtV x, hdrV h] W fun e w' => e = .returned (.bool false) ∧ Below W.heap.size W w')
    (e2 : eqM x n = true) :
    Calls Tryd.prog 6 #[mtV m, mtV n, hdrV h] w fun e w' => e = .returned (.bool true) ∧ Below w.heap.size w w' := by
  have HR1 := Lib.hid hR1
  have HR2 := Lib.hid hR2
  have HA1 := Lib.hid hA1
  have HA2 := Lib.hid hA2
  have HHm := Lib.hid hHm
  have HHn := Lib.hid hHn
  have HCv := Lib.hid hCv
  have HRx := Lib.hid hRx
  have HHx := Lib.hid hHx
  clear hR1 hR2 hA1 hA2 hHm hHn hCv hRx hHx
  obtain ⟨W1, hW1, hM⟩ := mem3_first w m n h hT
  have C := Lib.hid hM
  have HT0 := Lib.hid hT
  clear hM hT
  go_enter Tryd.func6, Tryd.ntmps6
  go_wp2_with fail
  rw [← hW1]
  clear hW1
  refine (law_example _ C.out.2.1).mono ?_
  rintro e w2 ⟨rfl, hb⟩
  have C' := Lib.hid (mem3_below C.out hb)
  clear hb C 
  have C := C'
  clear C' 
  go_wp2_with (first | ((with_reducible refine ld_mt (x := .tmp 3) C.out.2.2.1 ?_ ?_ ?_ ?_); (· rfl); (· rfl); (· rfl)) | ((with_reducible refine ld_mt (x := .tmp 4) C.out.2.2.2.1 ?_ ?_ ?_ ?_); (· rfl); (· rfl); (· rfl)) | ((with_reducible refine ld_hd (x := .tmp 5) C.out.2.2.2.2 ?_ ?_ ?_ ?_); (· rfl); (· rfl); (· rfl)))
  refine (HR1.out _ C.out.2.1).mono ?_
  rintro e w3 ⟨rfl, hb⟩
  have C' := Lib.hid (mem3_below C.out hb)
  clear hb C 
  have C := C'
  clear C' 
  go_wp2_with (first | ((with_reducible refine ld_mt (x := .tmp 3) C.out.2.2.1 ?_ ?_ ?_ ?_); (· rfl); (· rfl); (· rfl)) | ((with_reducible refine ld_mt (x := .tmp 4) C.out.2.2.2.1 ?_ ?_ ?_ ?_); (· rfl); (· rfl); (· rfl)) | ((with_reducible refine ld_hd (x := .tmp 5) C.out.2.2.2.2 ?_ ?_ ?_ ?_); (· rfl); (· rfl); (· rfl)))
  refine (HR2.out _ C.out.2.1).mono ?_
  rintro e w4 ⟨rfl, hb⟩
  have C' := Lib.hid (mem3_below C.out hb)
  clear hb C 
  have C := C'
  clear C' 
  go_wp2_with (first | ((with_reducible refine ld_mt (x := .tmp 3) C.out.2.2.1 ?_ ?_ ?_ ?_); (· rfl); (· rfl); (· rfl)) | ((with_reducible refine ld_mt (x := .tmp 4) C.out.2.2.2.1 ?_ ?_ ?_ ?_); (· rfl); (· rfl); (· rfl)) | ((with_reducible refine ld_hd (x := .tmp 5) C.out.2.2.2.2 ?_ ?_ ?_ ?_); (· rfl); (· rfl); (· rfl)))
  refine (HA1.out _).mono ?_
  rintro e w5 ⟨rfl, hb⟩
  have C' := Lib.hid (mem3_below C.out hb)
  clear hb C 
  have C := C'
  clear C' 
  go_wp2_with (first | (refine st_fresh rfl 25 _ _ rfl rfl (mtC mt0) (mtC x) rfl (by kernel_rfl) rfl (mt_one _) ?_) | (with_reducible refine halt_at (X := .load 25 (.tmp 4)) ?_ ?_; (· rfl)))
  obtain ⟨V1, hW, bx, hb⟩ := boxM w5 x
  rw [← hW]
  clear hW
  have BX := Lib.hid bx
  clear bx
  have C' := Lib.hid (mem3_below C.out hb)
  clear hb C 
  have C := C'
  clear C' 
  unfold Halt
  go_wp2_with (first | ((with_reducible refine ld_mt (x := .tmp 3) C.out.2.2.1 ?_ ?_ ?_ ?_); (· rfl); (· rfl); (· rfl)) | ((with_reducible refine ld_mt (x := .tmp 4) C.out.2.2.2.1 ?_ ?_ ?_ ?_); (· rfl); (· rfl); (· rfl)) | ((with_reducible refine ld_hd (x := .tmp 5) C.out.2.2.2.2 ?_ ?_ ?_ ?_); (· rfl); (· rfl); (· rfl)) | ((with_reducible refine ld_mt (x := .tmp 7) BX.out ?_ ?_ ?_ ?_); (· rfl); (· rfl); (· rfl)))
  refine (HA2.out _).mono ?_
  rintro e w6 ⟨rfl, hb⟩
  have C' := Lib.hid (mem3_below C.out hb)
  have BX' := Lib.hid (BX.out.below hb)
  clear hb C BX
  have C := C'
  have BX := BX'
  clear C' BX'
  go_wp2_with (first | (refine st_fresh rfl 25 _ _ rfl rfl (mtC mt0) (mtC y) rfl (by kernel_rfl) rfl (mt_one _) ?_) | (with_reducible refine halt_at (X := .binOp .neq 4 (.tmp 37) (.tmp 38) 4) ?_ ?_; (· rfl)))
  obtain ⟨V2, hW, bY, hb⟩ := boxM w6 y
  rw [← hW]
  clear hW
  have BY := Lib.hid bY
  clear bY
  have C' := Lib.hid (mem3_below C.out hb)
  have BX' := Lib.hid (BX.out.below hb)
  clear hb C BX
  have C := C'
  have BX := BX'
  clear C' BX'
  unfold Halt
  go_wp2_with (first | ((with_reducible refine ld_mt (x := .tmp 3) C.out.2.2.1 ?_ ?_ ?_ ?_); (· rfl); (· rfl); (· rfl)) | ((with_reducible refine ld_mt (x := .tmp 4) C.out.2.2.2.1 ?_ ?_ ?_ ?_); (· rfl); (· rfl); (· rfl)) | ((with_reducible refine ld_hd (x := .tmp 5) C.out.2.2.2.2 ?_ ?_ ?_ ?_); (· rfl); (· rfl); (· rfl)) | ((with_reducible refine ld_mt (x := .tmp 7) BX.out ?_ ?_ ?_ ?_); (· rfl); (· rfl); (· rfl)) | ((with_reducible refine ld_mt (x := .tmp 9) BY.out ?_ ?_ ?_ ?_); (· rfl); (· rfl); (· rfl)))
  refine (HRx.out _ C.out.2.1).mono ?_
  rintro e w7 ⟨rfl, hb⟩
  have C' := Lib.hid (mem3_below C.out hb)
  have BX' := Lib.hid (BX.out.below hb)
  have BY' := Lib.hid (BY.out.below hb)
  clear hb C BX BY
  have C := C'
  have BX := BX'
  have BY := BY'
  clear C' BX' BY'
  go_wp2_with (first | ((with_reducible refine ld_mt (x := .tmp 3) C.out.2.2.1 ?_ ?_ ?_ ?_); (· rfl); (· rfl); (· rfl)) | ((with_reducible refine ld_mt (x := .tmp 4) C.out.2.2.2.1 ?_ ?_ ?_ ?_); (· rfl); (· rfl); (· rfl)) | ((with_reducible refine ld_hd (x := .tmp 5) C.out.2.2.2.2 ?_ ?_ ?_ ?_); (· rfl); (· rfl); (· rfl)) | ((with_reducible refine ld_mt (x := .tmp 7) BX.out ?_ ?_ ?_ ?_); (· rfl); (· rfl); (· rfl)) | ((with_reducible refine ld_mt (x := .tmp 9) BY.out ?_ ?_ ?_ ?_); (· rfl); (· rfl); (· rfl)))
  refine (HHm.out _ C.out.2.1).mono ?_
  rintro e w8 ⟨rfl, hb⟩
  have C' := Lib.hid (mem3_below C.out hb)
  have BX' := Lib.hid (BX.out.below hb)
  have BY' := Lib.hid (BY.out.below hb)
  clear hb C BX BY
  have C := C'
  have BX := BX'
  have BY := BY'
  clear C' BX' BY'
  go_wp2_with (first | ((with_reducible refine ld_mt (x := .tmp 3) C.out.2.2.1 ?_ ?_ ?_ ?_); (· rfl); (· rfl); (· rfl)) | ((with_reducible refine ld_mt (x := .tmp 4) C.out.2.2.2.1 ?_ ?_ ?_ ?_); (· rfl); (· rfl); (· rfl)) | ((with_reducible refine ld_hd (x := .tmp 5) C.out.2.2.2.2 ?_ ?_ ?_ ?_); (· rfl); (· rfl); (· rfl)) | ((with_reducible refine ld_mt (x := .tmp 7) BX.out ?_ ?_ ?_ ?_); (· rfl); (· rfl); (· rfl)) | ((with_reducible refine ld_mt (x := .tmp 9) BY.out ?_ ?_ ?_ ?_); (· rfl); (· rfl); (· rfl)))
  refine (HHn.out _ C.out.2.1).mono ?_
  rintro e w9 ⟨rfl, hb⟩
  have C' := Lib.hid (mem3_below C.out hb)
  have BX' := Lib.hid (BX.out.below hb)
  have BY' := Lib.hid (BY.out.below hb)
  clear hb C BX BY
  have C := C'
  have BX := BX'
  have BY := BY'
  clear C' BX' BY'
  go_wp2_with (first | ((with_reducible refine ld_mt (x := .tmp 3) C.out.2.2.1 ?_ ?_ ?_ ?_); (· rfl); (· rfl); (· rfl)) | ((with_reducible refine ld_mt (x := .tmp 4) C.out.2.2.2.1 ?_ ?_ ?_ ?_); (· rfl); (· rfl); (· rfl)) | ((with_reducible refine ld_hd (x := .tmp 5) C.out.2.2.2.2 ?_ ?_ ?_ ?_); (· rfl); (· rfl); (· rfl)) | ((with_reducible refine ld_mt (x := .tmp 7) BX.out ?_ ?_ ?_ ?_); (· rfl); (· rfl); (· rfl)) | ((with_reducible refine ld_mt (x := .tmp 9) BY.out ?_ ?_ ?_ ?_); (· rfl); (· rfl); (· rfl)))
  refine (HHx.out _ C.out.2.1).mono ?_
  rintro e w10 ⟨rfl, hb⟩
  have C' := Lib.hid (mem3_below C.out hb)
  have BX' := Lib.hid (BX.out.below hb)
  have BY' := Lib.hid (BY.out.below hb)
  clear hb C BX BY
  have C := C'
  have BX := BX'
  have BY := BY'
  clear C' BX' BY'
  go_wp2_with (first | ((with_reducible refine ld_mt (x := .tmp 3) C.out.2.2.1 ?_ ?_ ?_ ?_); (· rfl); (· rfl); (· rfl)) | ((with_reducible refine ld_mt (x := .tmp 4) C.out.2.2.2.1 ?_ ?_ ?_ ?_); (· rfl); (· rfl); (· rfl)) | ((with_reducible refine ld_hd (x := .tmp 5) C.out.2.2.2.2 ?_ ?_ ?_ ?_); (· rfl); (· rfl); (· rfl)) | ((with_reducible refine ld_mt (x := .tmp 7) BX.out ?_ ?_ ?_ ?_); (· rfl); (· rfl); (· rfl)) | ((with_reducible refine ld_mt (x := .tmp 9) BY.out ?_ ?_ ?_ ?_); (· rfl); (· rfl); (· rfl)))
  refine (HCv.out _).mono ?_
  rintro e w11 ⟨rfl, hb⟩
  have C' := Lib.hid (mem3_below C.out hb)
  have BX' := Lib.hid (BX.out.below hb)
  have BY' := Lib.hid (BY.out.below hb)
  clear hb C BX BY
  have C := C'
  have BX := BX'
  have BY := BY'
  clear C' BX' BY'
  go_wp2_with (first | ((with_reducible refine ld_mt (x := .tmp 3) C.out.2.2.1 ?_ ?_ ?_ ?_); (· rfl); (· rfl); (· rfl)) | ((with_reducible refine ld_mt (x := .tmp 4) C.out.2.2.2.1 ?_ ?_ ?_ ?_); (· rfl); (· rfl); (· rfl)) | ((with_reducible refine ld_hd (x := .tmp 5) C.out.2.2.2.2 ?_ ?_ ?_ ?_); (· rfl); (· rfl); (· rfl)) | ((with_reducible refine ld_mt (x := .tmp 7) BX.out ?_ ?_ ?_ ?_); (· rfl); (· rfl); (· rfl)) | ((with_reducible refine ld_mt (x := .tmp 9) BY.out ?_ ?_ ?_ ?_); (· rfl); (· rfl); (· rfl)))
  refine (HHn.out _ C.out.2.1).mono ?_
  rintro e w12 ⟨rfl, hb⟩
  have C' := Lib.hid (mem3_below C.out hb)
  have BX' := Lib.hid (BX.out.below hb)
  have BY' := Lib.hid (BY.out.below hb)
  clear hb C BX BY
  have C := C'
  have BX := BX'
  have BY := BY'
  clear C' BX' BY'
  go_wp2_with (first | ((with_reducible refine ld_mt (x := .tmp 3) C.out.2.2.1 ?_ ?_ ?_ ?_); (· rfl); (· rfl); (· rfl)) | ((with_reducible refine ld_mt (x := .tmp 4) C.out.2.2.2.1 ?_ ?_ ?_ ?_); (· rfl); (· rfl); (· rfl)) | ((with_reducible refine ld_hd (x := .tmp 5) C.out.2.2.2.2 ?_ ?_ ?_ ?_); (· rfl); (· rfl); (· rfl)) | ((with_reducible refine ld_mt (x := .tmp 7) BX.out ?_ ?_ ?_ ?_); (· rfl); (· rfl); (· rfl)) | ((with_reducible refine ld_mt (x := .tmp 9) BY.out ?_ ?_ ?_ ?_); (· rfl); (· rfl); (· rfl)))
  refine (HCv.out _).mono ?_
  rintro e w13 ⟨rfl, hb⟩
  have C' := Lib.hid (mem3_below C.out hb)
  have BX' := Lib.hid (BX.out.below hb)
  have BY' := Lib.hid (BY.out.below hb)
  clear hb C BX BY
  have C := C'
  have BX := BX'
  have BY := BY'
  clear C' BX' BY'
  go_wp2_with (first | ((with_reducible refine ld_mt (x := .tmp 3) C.out.2.2.1 ?_ ?_ ?_ ?_); (· rfl); (· rfl); (· rfl)) | ((with_reducible refine ld_mt (x := .tmp 4) C.out.2.2.2.1 ?_ ?_ ?_ ?_); (· rfl); (· rfl); (· rfl)) | ((with_reducible refine ld_hd (x := .tmp 5) C.out.2.2.2.2 ?_ ?_ ?_ ?_); (· rfl); (· rfl); (· rfl)) | ((with_reducible refine ld_mt (x := .tmp 7) BX.out ?_ ?_ ?_ ?_); (· rfl); (· rfl); (· rfl)) | ((with_reducible refine ld_mt (x := .tmp 9) BY.out ?_ ?_ ?_ ?_); (· rfl); (· rfl); (· rfl)))
  refine (HCv.out _).mono ?_
  rintro e w14 ⟨rfl, hb⟩
  have C' := Lib.hid (mem3_below C.out hb)
  have BX' := Lib.hid (BX.out.below hb)
  have BY' := Lib.hid (BY.out.below hb)
  clear hb C BX BY
  have C := C'
  have BX := BX'
  have BY := BY'
  clear C' BX' BY'
  go_wp2_with fail
  go_ret
  exact ⟨rfl, C.out.1⟩
set_option maxRecDepth 100000 in
set_option maxHeartbeats 3200000 in
theorem an_1111 (m n x y : Mt) (h : Hdr) (w : World) (hT : Wid w)
    (hR1 : ∀ W, Wid W → Calls Tryd.prog 9 #[mtV m] W fun e w' => e = .returned (.bool true) ∧ Below W.heap.size W w')
    (hR2 : ∀ W, Wid W → Calls Tryd.prog 9 #[mtV n] W fun e w' => e = .returned (.bool true) ∧ Below W.heap.size W w')
    (hA1 : ∀ W, Calls Tryd.prog 18 #[mtV m, mtV n] W fun e w' => e = .returned (.tuple #[mtV x, .bool true]) ∧ Below W.heap.size W w')
    (hA2 : ∀ W, Calls Tryd.prog 18 #[mtV n, mtV m] W fun e w' => e = .returned (.tuple #[mtV y, .bool true]) ∧ Below W.heap.size W w')
    (hHm : ∀ W, Wid W → Calls Tryd.prog 11 #[mtV m, hdrV h] W fun e w' => e = .returned (.bool true) ∧ Below W.heap.size W w')
    (hHn : ∀ W, Wid W → Calls Tryd.prog 11 #[mtV n, hdrV h] W fun e w' => e = .returned (.bool true) ∧ Below W.heap.size W w')
    (hCv : ∀ W, Calls Tryd.prog 19 #[mtV m, mtV n] W fun e w' => e = .returned (.bool true) ∧ Below W.heap.size W w')
    (e1 : eqM x y = true)
    (hRx : ∀ W, Wid W → Calls Tryd.prog 9 #[mtV x] W fun e w' => e = .returned (.bool true) ∧ Below W.heap.size W w')
    (hHx : ∀ W, Wid W → Calls Tryd.prog 11 #[mtV x, hdrV h] W fun e w' => e = .returned (.bool true) ∧ Below W.heap.size W w')
    (e2 : eqM x n = true) :
    Calls Tryd.prog 6 #[mtV m, mtV n, hdrV h] w fun e w' => e = .returned (.bool true) ∧ Below w.heap.size w w' := by
  have HR1 := Lib.hid hR1
  have HR2 := Lib.hid hR2
  have HA1 := Lib.hid hA1
  have HA2 := Lib.hid hA2
  have HHm := Lib.hid hHm
  have HHn := Lib.hid hHn
  have HCv := Lib.hid hCv
  have HRx := Lib.hid hRx
  have HHx := Lib.hid hHx
  clear hR1 hR2 hA1 hA2 hHm hHn hCv hRx hHx
  obtain ⟨W1, hW1, hM⟩ := mem3_first w m n h hT
  have C := Lib.hid hM
  have HT0 := Lib.hid hT
  clear hM hT
  go_enter Tryd.func6, Tryd.ntmps6
  go_wp2_with fail
  rw [← hW1]
  clear hW1
  refine (law_example _ C.out.2.1).mono ?_
  rintro e w2 ⟨rfl, hb⟩
  have C' := Lib.hid (mem3_below C.out hb)
  clear hb C 
  have C := C'
  clear C' 
  go_wp2_with (first | ((with_reducible refine ld_mt (x := .tmp 3) C.out.2.2.1 ?_ ?_ ?_ ?_); (· rfl); (· rfl); (· rfl)) | ((with_reducible refine ld_mt (x := .tmp 4) C.out.2.2.2.1 ?_ ?_ ?_ ?_); (· rfl); (· rfl); (· rfl)) | ((with_reducible refine ld_hd (x := .tmp 5) C.out.2.2.2.2 ?_ ?_ ?_ ?_); (· rfl); (· rfl); (· rfl)))
  refine (HR1.out _ C.out.2.1).mono ?_
  rintro e w3 ⟨rfl, hb⟩
  have C' := Lib.hid (mem3_below C.out hb)
  clear hb C 
  have C := C'
  clear C' 
  go_wp2_with (first | ((with_reducible refine ld_mt (x := .tmp 3) C.out.2.2.1 ?_ ?_ ?_ ?_); (· rfl); (· rfl); (· rfl)) | ((with_reducible refine ld_mt (x := .tmp 4) C.out.2.2.2.1 ?_ ?_ ?_ ?_); (· rfl); (· rfl); (· rfl)) | ((with_reducible refine ld_hd (x := .tmp 5) C.out.2.2.2.2 ?_ ?_ ?_ ?_); (· rfl); (· rfl); (· rfl)))
  refine (HR2.out _ C.out.2.1).mono ?_
  rintro e w4 ⟨rfl, hb⟩
  have C' := Lib.hid (mem3_below C.out hb)
  clear hb C 
  have C := C'
  clear C' 
  go_wp2_with (first | ((with_reducible refine ld_mt (x := .tmp 3) C.out.2.2.1 ?_ ?_ ?_ ?_); (· rfl); (· rfl); (· rfl)) | ((with_reducible refine ld_mt (x := .tmp 4) C.out.2.2.2.1 ?_ ?_ ?_ ?_); (· rfl); (· rfl); (· rfl)) | ((with_reducible refine ld_hd (x := .tmp 5) C.out.2.2.2.2 ?_ ?_ ?_ ?_); (· rfl); (· rfl); (· rfl)))
  refine (HA1.out _).mono ?_
  rintro e w5 ⟨rfl, hb⟩
  have C' := Lib.hid (mem3_below C.out hb)
  clear hb C 
  have C := C'
  clear C' 
  go_wp2_with (first | (refine st_fresh rfl 25 _ _ rfl rfl (mtC mt0) (mtC x) rfl (by kernel_rfl) rfl (mt_one _) ?_) | (with_reducible refine halt_at (X := .load 25 (.tmp 4)) ?_ ?_; (· rfl)))
  obtain ⟨V1, hW, bx, hb⟩ := boxM w5 x
  rw [← hW]
  clear hW
  have BX := Lib.hid bx
  clear bx
  have C' := Lib.hid (mem3_below C.out hb)
  clear hb C 
  have C := C'
  clear C' 
  unfold Halt
  go_wp2_with (first | ((with_reducible refine ld_mt (x := .tmp 3) C.out.2.2.1 ?_ ?_ ?_ ?_); (· rfl); (· rfl); (· rfl)) | ((with_reducible refine ld_mt (x := .tmp 4) C.out.2.2.2.1 ?_ ?_ ?_ ?_); (· rfl); (· rfl); (· rfl)) | ((with_reducible refine ld_hd (x := .tmp 5) C.out.2.2.2.2 ?_ ?_ ?_ ?_); (· rfl); (· rfl); (· rfl)) | ((with_reducible refine ld_mt (x := .tmp 7) BX.out ?_ ?_ ?_ ?_); (· rfl); (· rfl); (· rfl)))
  refine (HA2.out _).mono ?_
  rintro e w6 ⟨rfl, hb⟩
  have C' := Lib.hid (mem3_below C.out hb)
  have BX' := Lib.hid (BX.out.below hb)
  clear hb C BX
  have C := C'
  have BX := BX'
  clear C' BX'
  go_wp2_with (first | (refine st_fresh rfl 25 _ _ rfl rfl (mtC mt0) (mtC y) rfl (by kernel_rfl) rfl (mt_one _) ?_) | (with_reducible refine halt_at (X := .binOp .neq 4 (.tmp 37) (.tmp 38) 4) ?_ ?_; (· rfl)))
  obtain ⟨V2, hW, bY, hb⟩ := boxM w6 y
  rw [← hW]
  clear hW
  have BY := Lib.hid bY
  clear bY
  have C' := Lib.hid (mem3_below C.out hb)
  have BX' := Lib.hid (BX.out.below hb)
  clear hb C BX
  have C := C'
  have BX := BX'
  clear C' BX'
  unfold Halt
  go_wp2_with (first | ((with_reducible refine ld_mt (x := .tmp 3) C.out.2.2.1 ?_ ?_ ?_ ?_); (· rfl); (· rfl); (· rfl)) | ((with_reducible refine ld_mt (x := .tmp 4) C.out.2.2.2.1 ?_ ?_ ?_ ?_); (· rfl); (· rfl); (· rfl)) | ((with_reducible refine ld_hd (x := .tmp 5) C.out.2.2.2.2 ?_ ?_ ?_ ?_); (· rfl); (· rfl); (· rfl)) | ((with_reducible refine ld_mt (x := .tmp 7) BX.out ?_ ?_ ?_ ?_); (· rfl); (· rfl); (· rfl)) | ((with_reducible refine ld_mt (x := .tmp 9) BY.out ?_ ?_ ?_ ?_); (· rfl); (· rfl); (· rfl)))
  refine (HRx.out _ C.out.2.1).mono ?_
  rintro e w7 ⟨rfl, hb⟩
  have C' := Lib.hid (mem3_below C.out hb)
  have BX' := Lib.hid (BX.out.below hb)
  have BY' := Lib.hid (BY.out.below hb)
  clear hb C BX BY
  have C := C'
  have BX := BX'
  have BY := BY'
  clear C' BX' BY'
  go_wp2_with (first | ((with_reducible refine ld_mt (x := .tmp 3) C.out.2.2.1 ?_ ?_ ?_ ?_); (· rfl); (· rfl); (· rfl)) | ((with_reducible refine ld_mt (x := .tmp 4) C.out.2.2.2.1 ?_ ?_ ?_ ?_); (· rfl); (· rfl); (· rfl)) | ((with_reducible refine ld_hd (x := .tmp 5) C.out.2.2.2.2 ?_ ?_ ?_ ?_); (· rfl); (· rfl); (· rfl)) | ((with_reducible refine ld_mt (x := .tmp 7) BX.out ?_ ?_ ?_ ?_); (· rfl); (· rfl); (· rfl)) | ((with_reducible refine ld_mt (x := .tmp 9) BY.out ?_ ?_ ?_ ?_); (· rfl); (· rfl); (· rfl)))
  refine (HHm.out _ C.out.2.1).mono ?_
  rintro e w8 ⟨rfl, hb⟩
  have C' := Lib.hid (mem3_below C.out hb)
  have BX' := Lib.hid (BX.out.below hb)
  have BY' := Lib.hid (BY.out.below hb)
  clear hb C BX BY
  have C := C'
  have BX := BX'
  have BY := BY'
  clear C' BX' BY'
  go_wp2_with (first | ((with_reducible refine ld_mt (x := .tmp 3) C.out.2.2.1 ?_ ?_ ?_ ?_); (· rfl); (· rfl); (· rfl)) | ((with_reducible refine ld_mt (x := .tmp 4) C.out.2.2.2.1 ?_ ?_ ?_ ?_); (· rfl); (· rfl); (· rfl)) | ((with_reducible refine ld_hd (x := .tmp 5) C.out.2.2.2.2 ?_ ?_ ?_ ?_); (· rfl); (· rfl); (· rfl)) | ((with_reducible refine ld_mt (x := .tmp 7) BX.out ?_ ?_ ?_ ?_); (· rfl); (· rfl); (· rfl)) | ((with_reducible refine ld_mt (x := .tmp 9) BY.out ?_ ?_ ?_ ?_); (· rfl); (· rfl); (· rfl)))
  refine (HHn.out _ C.out.2.1).mono ?_
  rintro e w9 ⟨rfl, hb⟩
  have C' := Lib.hid (mem3_below C.out hb)
  have BX' := Lib.hid (BX.out.below hb)
  have BY' := Lib.hid (BY.out.below hb)
  clear hb C BX BY
  have C := C'
  have BX := BX'
  have BY := BY'
  clear C' BX' BY'
  go_wp2_with (first | ((with_reducible refine ld_mt (x := .tmp 3) C.out.2.2.1 ?_ ?_ ?_ ?_); (· rfl); (· rfl); (· rfl)) | ((with_reducible refine ld_mt (x := .tmp 4) C.out.2.2.2.1 ?_ ?_ ?_ ?_); (· rfl); (· rfl); (· rfl)) | ((with_reducible refine ld_hd (x := .tmp 5) C.out.2.2.2.2 ?_ ?_ ?_ ?_); (· rfl); (· rfl); (· rfl)) | ((with_reducible refine ld_mt (x := .tmp 7) BX.out ?_ ?_ ?_ ?_); (· rfl); (· rfl); (· rfl)) | ((with_reducible refine ld_mt (x := .tmp 9) BY.out ?_ ?_ ?_ ?_); (· rfl); (· rfl); (· rfl)))
  refine (HHx.out _ C.out.2.1).mono ?_
  rintro e w10 ⟨rfl, hb⟩
  have C' := Lib.hid (mem3_below C.out hb)
  have BX' := Lib.hid (BX.out.below hb)
  have BY' := Lib.hid (BY.out.below hb)
  clear hb C BX BY
  have C := C'
  have BX := BX'
  have BY := BY'
  clear C' BX' BY'
  go_wp2_with (first | ((with_reducible refine ld_mt (x := .tmp 3) C.out.2.2.1 ?_ ?_ ?_ ?_); (· rfl); (· rfl); (· rfl)) | ((with_reducible refine ld_mt (x := .tmp 4) C.out.2.2.2.1 ?_ ?_ ?_ ?_); (· rfl); (· rfl); (· rfl)) | ((with_reducible refine ld_hd (x := .tmp 5) C.out.2.2.2.2 ?_ ?_ ?_ ?_); (· rfl); (· rfl); (· rfl)) | ((with_reducible refine ld_mt (x := .tmp 7) BX.out ?_ ?_ ?_ ?_); (· rfl); (· rfl); (· rfl)) | ((with_reducible refine ld_mt (x := .tmp 9) BY.out ?_ ?_ ?_ ?_); (· rfl); (· rfl); (· rfl)))
  refine (HCv.out _).mono ?_
  rintro e w11 ⟨rfl, hb⟩
  have C' := Lib.hid (mem3_below C.out hb)
  have BX' := Lib.hid (BX.out.below hb)
  have BY' := Lib.hid (BY.out.below hb)
  clear hb C BX BY
  have C := C'
  have BX := BX'
  have BY := BY'
  clear C' BX' BY'
  go_wp2_with (first | ((with_reducible refine ld_mt (x := .tmp 3) C.out.2.2.1 ?_ ?_ ?_ ?_); (· rfl); (· rfl); (· rfl)) | ((with_reducible refine ld_mt (x := .tmp 4) C.out.2.2.2.1 ?_ ?_ ?_ ?_); (· rfl); (· rfl); (· rfl)) | ((with_reducible refine ld_hd (x := .tmp 5) C.out.2.2.2.2 ?_ ?_ ?_ ?_); (· rfl); (· rfl); (· rfl)) | ((with_reducible refine ld_mt (x := .tmp 7) BX.out ?_ ?_ ?_ ?_); (· rfl); (· rfl); (· rfl)) | ((with_reducible refine ld_mt (x := .tmp 9) BY.out ?_ ?_ ?_ ?_); (· rfl); (· rfl); (· rfl)))
  refine (HHn.out _ C.out.2.1).mono ?_
  rintro e w12 ⟨rfl, hb⟩
  have C' := Lib.hid (mem3_below C.out hb)
  have BX' := Lib.hid (BX.out.below hb)
  have BY' := Lib.hid (BY.out.below hb)
  clear hb C BX BY
  have C := C'
  have BX := BX'
  have BY := BY'
  clear C' BX' BY'
  go_wp2_with (first | ((with_reducible refine ld_mt (x := .tmp 3) C.out.2.2.1 ?_ ?_ ?_ ?_); (· rfl); (· rfl); (· rfl)) | ((with_reducible refine ld_mt (x := .tmp 4) C.out.2.2.2.1 ?_ ?_ ?_ ?_); (· rfl); (· rfl); (· rfl)) | ((with_reducible refine ld_hd (x := .tmp 5) C.out.2.2.2.2 ?_ ?_ ?_ ?_); (· rfl); (· rfl); (· rfl)) | ((with_reducible refine ld_mt (x := .tmp 7) BX.out ?_ ?_ ?_ ?_); (· rfl); (· rfl); (· rfl)) | ((with_reducible refine ld_mt (x := .tmp 9) BY.out ?_ ?_ ?_ ?_); (· rfl); (· rfl); (· rfl)))
  refine (HHm.out _ C.out.2.1).mono ?_
  rintro e w13 ⟨rfl, hb⟩
  have C' := Lib.hid (mem3_below C.out hb)
  have BX' := Lib.hid (BX.out.below hb)
  have BY' := Lib.hid (BY.out.below hb)
  clear hb C BX BY
  have C := C'
  have BX := BX'
  have BY := BY'
  clear C' BX' BY'
  go_wp2_with (first | ((with_reducible refine ld_mt (x := .tmp 3) C.out.2.2.1 ?_ ?_ ?_ ?_); (· rfl); (· rfl); (· rfl)) | ((with_reducible refine ld_mt (x := .tmp 4) C.out.2.2.2.1 ?_ ?_ ?_ ?_); (· rfl); (· rfl); (· rfl)) | ((with_reducible refine ld_hd (x := .tmp 5) C.out.2.2.2.2 ?_ ?_ ?_ ?_); (· rfl); (· rfl); (· rfl)) | ((with_reducible refine ld_mt (x := .tmp 7) BX.out ?_ ?_ ?_ ?_); (· rfl); (· rfl); (· rfl)) | ((with_reducible refine ld_mt (x := .tmp 9) BY.out ?_ ?_ ?_ ?_); (· rfl); (· rfl); (· rfl)))
  refine (HCv.out _).mono ?_
  rintro e w14 ⟨rfl, hb⟩
  have C' := Lib.hid (mem3_below C.out hb)
  have BX' := Lib.hid (BX.out.below hb)
  have BY' := Lib.hid (BY.out.below hb)
  clear hb C BX BY
  have C := C'
  have BX := BX'
  have BY := BY'
  clear C' BX' BY'
  go_wp2_with (first | ((with_reducible refine ld_mt (x := .tmp 3) C.out.2.2.1 ?_ ?_ ?_ ?_); (· rfl); (· rfl); (· rfl)) | ((with_reducible refine ld_mt (x := .tmp 4) C.out.2.2.2.1 ?_ ?_ ?_ ?_); (· rfl); (· rfl); (· rfl)) | ((with_reducible refine ld_hd (x := .tmp 5) C.out.2.2.2.2 ?_ ?_ ?_ ?_); (· rfl); (· rfl); (· rfl)) | ((with_reducible refine ld_mt (x := .tmp 7) BX.out ?_ ?_ ?_ ?_); (· rfl); (· rfl); (· rfl)) | ((with_reducible refine ld_mt (x := .tmp 9) BY.out ?_ ?_ ?_ ?_); (· rfl); (· rfl); (· rfl)))
  refine (HCv.out _).mono ?_
  rintro e w15 ⟨rfl, hb⟩
  have C' := Lib.hid (mem3_below C.out hb)
  have BX' := Lib.hid (BX.out.below hb)
  have BY' := Lib.hid (BY.out.below hb)
  clear hb C BX BY
  have C := C'
  have BX := BX'
  have BY := BY'
  clear C' BX' BY'
  go_wp2_with fail
  go_ret
  exact ⟨rfl, C.out.1⟩
end Go.Proofs.YtkcikblecinnfaaDoor
