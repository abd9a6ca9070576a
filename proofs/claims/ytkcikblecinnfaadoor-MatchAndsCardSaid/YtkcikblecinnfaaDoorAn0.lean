/-
  MatchAnds, walks: by cases, 0.
-/
import Derived.Test.YtkcikblecinnfaaDoorAnBase
namespace Go.Proofs.YtkcikblecinnfaaDoor
open Go.RowKit
set_option maxRecDepth 100000 in
set_option maxHeartbeats 3200000 in
theorem an_0000 (m n x y : Mt) (h : Hdr) (w : World) (hT : Wid w)
    (hR1 : ∀ W, Wid W → Calls Tryd.prog 9 #[mtV m] W fun e w' => e = .returned (.bool true) ∧ Below W.heap.size W w')
    (hR2 : ∀ W, Wid W → Calls Tryd.prog 9 #[mtV n] W fun e w' => e = .returned (.bool true) ∧ Below W.heap.size W w')
    (hA1 : ∀ W, Calls Tryd.prog 18 #[mtV m, mtV n] W fun e w' => e = .returned (.tuple #[mtV x, .bool false]) ∧ Below W.heap.size W w')
    (hA2 : ∀ W, Calls Tryd.prog 18 #[mtV n, mtV m] W fun e w' => e = .returned (.tuple #[mtV y, .bool false]) ∧ Below W.heap.size W w')
    (hHm : ∀ W, Wid W → Calls Tryd.prog 11 #[mtV m, hdrV h] W fun e w' => e = .returned (.bool false) ∧ Below W.heap.size W w')
    (hHn : ∀ W, Wid W → Calls Tryd.prog 11 #[mtV n, hdrV h] W fun e w' => e = .returned (.bool false) ∧ Below W.heap.size W w')
    (hCv : ∀ W, Calls Tryd.prog 19 #[mtV m, mtV n] W fun e w' => e = .returned (.bool false) ∧ Below W.heap.size W w')
    (e1 : eqM x y = true)
    (e0 : eqM x mt0 = true)
    (gm : Good m) (gn : Good n) (hno : coversM m n = false) :
    Calls Tryd.prog 6 #[mtV m, mtV n, hdrV h] w fun e w' => e = .returned (.bool true) ∧ Below w.heap.size w w' := by
  have HR1 := Lib.hid hR1
  have HR2 := Lib.hid hR2
  have HA1 := Lib.hid hA1
  have HA2 := Lib.hid hA2
  have HHm := Lib.hid hHm
  have HHn := Lib.hid hHn
  have HCv := Lib.hid hCv
  clear hR1 hR2 hA1 hA2 hHm hHn hCv
  have GM := Lib.hid gm
  have GN := Lib.hid gn
  have HNO := Lib.hid hno
  clear gm gn hno
  obtain ⟨W1, hW1, hM⟩ := mem3_first w m n h hT
  have C := Lib.hid hM
  have HT0 := Lib.hid hT
  clear hM hT
  go_enter Tryd.func6, Tryd.ntmps6
  go_wp2_with fail
  rw [← hW1]
  clear hW1
  refine (law_example _ C.out.2.1).mono ?_
  rintro e w2 ⟨rfl, hb⟩
  have C' := Lib.hid (mem3_below C.out hb)
  clear hb C 
  have C := C'
  clear C' 
  go_wp2_with (first | ((with_reducible refine ld_mt (x := .tmp 3) C.out.2.2.1 ?_ ?_ ?_ ?_); (· rfl); (· rfl); (· rfl)) | ((with_reducible refine ld_mt (x := .tmp 4) C.out.2.2.2.1 ?_ ?_ ?_ ?_); (· rfl); (· rfl); (· rfl)) | ((with_reducible refine ld_hd (x := .tmp 5) C.out.2.2.2.2 ?_ ?_ ?_ ?_); (· rfl); (· rfl); (· rfl)))
  refine (HR1.out _ C.out.2.1).mono ?_
  rintro e w3 ⟨rfl, hb⟩
  have C' := Lib.hid (mem3_below C.out hb)
  clear hb C 
  have C := C'
  clear C' 
  go_wp2_with (first | ((with_reducible refine ld_mt (x := .tmp 3) C.out.2.2.1 ?_ ?_ ?_ ?_); (· rfl); (· rfl); (· rfl)) | ((with_reducible refine ld_mt (x := .tmp 4) C.out.2.2.2.1 ?_ ?_ ?_ ?_); (· rfl); (· rfl); (· rfl)) | ((with_reducible refine ld_hd (x := .tmp 5) C.out.2.2.2.2 ?_ ?_ ?_ ?_); (· rfl); (· rfl); (· rfl)))
  refine (HR2.out _ C.out.2.1).mono ?_
  rintro e w4 ⟨rfl, hb⟩
  have C' := Lib.hid (mem3_below C.out hb)
  clear hb C 
  have C := C'
  clear C' 
  go_wp2_with (first | ((with_reducible refine ld_mt (x := .tmp 3) C.out.2.2.1 ?_ ?_ ?_ ?_); (· rfl); (· rfl); (· rfl)) | ((with_reducible refine ld_mt (x := .tmp 4) C.out.2.2.2.1 ?_ ?_ ?_ ?_); (· rfl); (· rfl); (· rfl)) | ((with_reducible refine ld_hd (x := .tmp 5) C.out.2.2.2.2 ?_ ?_ ?_ ?_); (· rfl); (· rfl); (· rfl)))
  refine (HA1.out _).mono ?_
  rintro e w5 ⟨rfl, hb⟩
  have C' := Lib.hid (mem3_below C.out hb)
  clear hb C 
  have C := C'
  clear C' 
  go_wp2_with (first | (refine st_fresh rfl 25 _ _ rfl rfl (mtC mt0) (mtC x) rfl (by kernel_rfl) rfl (mt_one _) ?_) | (with_reducible refine halt_at (X := .load 25 (.tmp 4)) ?_ ?_; (· rfl)))
  obtain ⟨V1, hW, bx, hb⟩ := boxM w5 x
  rw [← hW]
  clear hW
  have BX := Lib.hid bx
  clear bx
  have C' := Lib.hid (mem3_below C.out hb)
  clear hb C 
  have C := C'
  clear C' 
  unfold Halt
  go_wp2_with (first | ((with_reducible refine ld_mt (x := .tmp 3) C.out.2.2.1 ?_ ?_ ?_ ?_); (· rfl); (· rfl); (· rfl)) | ((with_reducible refine ld_mt (x := .tmp 4) C.out.2.2.2.1 ?_ ?_ ?_ ?_); (· rfl); (· rfl); (· rfl)) | ((with_reducible refine ld_hd (x := .tmp 5) C.out.2.2.2.2 ?_ ?_ ?_ ?_); (· rfl); (· rfl); (· rfl)) | ((with_reducible refine ld_mt (x := .tmp 7) BX.out ?_ ?_ ?_ ?_); (· rfl); (· rfl); (· rfl)))
  refine (HA2.out _).mono ?_
  rintro e w6 ⟨rfl, hb⟩
  have C' := Lib.hid (mem3_below C.out hb)
  have BX' := Lib.hid (BX.out.below hb)
  clear hb C BX
  have C := C'
  have BX := BX'
  clear C' BX'
  go_wp2_with (first | (refine st_fresh rfl 25 _ _ rfl rfl (mtC mt0) (mtC y) rfl (by kernel_rfl) rfl (mt_one _) ?_) | (with_reducible refine halt_at (X := .binOp .neq 4 (.tmp 37) (.tmp 38) 4) ?_ ?_; (· rfl)))
  obtain ⟨V2, hW, bY, hb⟩ := boxM w6 y
  rw [← hW]
  clear hW
  have BY := Lib.hid bY
  clear bY
  have C' := Lib.hid (mem3_below C.out hb)
  have BX' := Lib.hid (BX.out.below hb)
  clear hb C BX
  have C := C'
  have BX := BX'
  clear C' BX'
  unfold Halt
  go_wp2_with (first | ((with_reducible refine ld_mt (x := .tmp 3) C.out.2.2.1 ?_ ?_ ?_ ?_); (· rfl); (· rfl); (· rfl)) | ((with_reducible refine ld_mt (x := .tmp 4) C.out.2.2.2.1 ?_ ?_ ?_ ?_); (· rfl); (· rfl); (· rfl)) | ((with_reducible refine ld_hd (x := .tmp 5) C.out.2.2.2.2 ?_ ?_ ?_ ?_); (· rfl); (· rfl); (· rfl)) | ((with_reducible refine ld_mt (x := .tmp 7) BX.out ?_ ?_ ?_ ?_); (· rfl); (· rfl); (· rfl)) | ((with_reducible refine ld_mt (x := .tmp 9) BY.out ?_ ?_ ?_ ?_); (· rfl); (· rfl); (· rfl)))
  refine (HHm.out _ C.out.2.1).mono ?_
  rintro e w7 ⟨rfl, hb⟩
  have C' := Lib.hid (mem3_below C.out hb)
  have BX' := Lib.hid (BX.out.below hb)
  have BY' := Lib.hid (BY.out.below hb)
  clear hb C BX BY
  have C := C'
  have BX := BX'
  have BY := BY'
  clear C' BX' BY'
  go_wp2_with (first | ((with_reducible refine ld_mt (x := .tmp 3) C.out.2.2.1 ?_ ?_ ?_ ?_); (· rfl); (· rfl); (· rfl)) | ((with_reducible refine ld_mt (x := .tmp 4) C.out.2.2.2.1 ?_ ?_ ?_ ?_); (· rfl); (· rfl); (· rfl)) | ((with_reducible refine ld_hd (x := .tmp 5) C.out.2.2.2.2 ?_ ?_ ?_ ?_); (· rfl); (· rfl); (· rfl)) | ((with_reducible refine ld_mt (x := .tmp 7) BX.out ?_ ?_ ?_ ?_); (· rfl); (· rfl); (· rfl)) | ((with_reducible refine ld_mt (x := .tmp 9) BY.out ?_ ?_ ?_ ?_); (· rfl); (· rfl); (· rfl)))
  refine (HCv.out _).mono ?_
  rintro e w8 ⟨rfl, hb⟩
  have C' := Lib.hid (mem3_below C.out hb)
  have BX' := Lib.hid (BX.out.below hb)
  have BY' := Lib.hid (BY.out.below hb)
  clear hb C BX BY
  have C := C'
  have BX := BX'
  have BY := BY'
  clear C' BX' BY'
  go_wp2_with (first | ((with_reducible refine ld_mt (x := .tmp 3) C.out.2.2.1 ?_ ?_ ?_ ?_); (· rfl); (· rfl); (· rfl)) | ((with_reducible refine ld_mt (x := .tmp 4) C.out.2.2.2.1 ?_ ?_ ?_ ?_); (· rfl); (· rfl); (· rfl)) | ((with_reducible refine ld_hd (x := .tmp 5) C.out.2.2.2.2 ?_ ?_ ?_ ?_); (· rfl); (· rfl); (· rfl)) | ((with_reducible refine ld_mt (x := .tmp 7) BX.out ?_ ?_ ?_ ?_); (· rfl); (· rfl); (· rfl)) | ((with_reducible refine ld_mt (x := .tmp 9) BY.out ?_ ?_ ?_ ?_); (· rfl); (· rfl); (· rfl)))
  refine (HCv.out _).mono ?_
  rintro e w9 ⟨rfl, hb⟩
  have C' := Lib.hid (mem3_below C.out hb)
  have BX' := Lib.hid (BX.out.below hb)
  have BY' := Lib.hid (BY.out.below hb)
  clear hb C BX BY
  have C := C'
  have BX := BX'
  have BY := BY'
  clear C' BX' BY'
  go_wp2_with (first | ((with_reducible refine ld_mt (x := .tmp 3) C.out.2.2.1 ?_ ?_ ?_ ?_); (· rfl); (· rfl); (· rfl)) | ((with_reducible refine ld_mt (x := .tmp 4) C.out.2.2.2.1 ?_ ?_ ?_ ?_); (· rfl); (· rfl); (· rfl)) | ((with_reducible refine ld_hd (x := .tmp 5) C.out.2.2.2.2 ?_ ?_ ?_ ?_); (· rfl); (· rfl); (· rfl)) | ((with_reducible refine ld_mt (x := .tmp 7) BX.out ?_ ?_ ?_ ?_); (· rfl); (· rfl); (· rfl)) | ((with_reducible refine ld_mt (x := .tmp 9) BY.out ?_ ?_ ?_ ?_); (· rfl); (· rfl); (· rfl)))
  refine (HCv.out _).mono ?_
  rintro e w10 ⟨rfl, hb⟩
  have C' := Lib.hid (mem3_below C.out hb)
  have BX' := Lib.hid (BX.out.below hb)
  have BY' := Lib.hid (BY.out.below hb)
  clear hb C BX BY
  have C := C'
  have BX := BX'
  have BY := BY'
  clear C' BX' BY'
  go_wp2_with (refine st_fresh rfl 31 _ _ rfl rfl (hdrC hdr0) (hdrC hdr0) rfl (by kernel_rfl) rfl (hdr_one _) ?_)
  obtain ⟨V3, hW, bw, hb⟩ := boxH w10 hdr0
  rw [← hW]
  clear hW
  have hz0 : w.heap.size + 2 < w10.heap.size := C.out.2.2.2.2.lt
  have C0 := Lib.hid (mem3_below C.out hb)
  clear hb C BX BY
  generalize w10.heap.size = G at bw hz0 ⊢
  go_loopw [12] (fun t wr => ∃ k : Nat, k ≤ 9 ∧ t = .int .i64 k ∧ ∃ H : Hdr, HBox wr G H ∧ H.Ok ∧ (∀ j, j < k → getN H j = witN m n j) ∧ Mem3 w m n h wr) (fun t _ => 9 - (intOf t).toNat)
  case atStart => exact ⟨0, by omega, rfl, hdr0, bw, hz_ok, fun j hj => absurd hj (by omega), C0.out⟩
  case round =>
    obtain ⟨k, hk, rfl, H, hbw, oH, hj, hC⟩ := hrel
    have C := Lib.hid hC
    have BW := Lib.hid hbw
    have OH := Lib.hid oH
    have HJ := Lib.hid hj
    clear hC hbw oH hj C0 bw
    rcases Nat.lt_or_ge k 9 with hlt | hge
    · have hk9 : ((k : Int) < 9) := by omega
      have hw : IntKind.i64.wrap ((k : Int) + 1) = ((k + 1 : Nat) : Int) := by rw [IntWalk.i64_in _ (by omega)]; omega
      have c1 := C.out.2.2.2.1.val k hlt
      have c2 := C.out.2.2.1.val k hlt
      have c3 := C.out.2.2.2.1.mask k hlt
      have q0 := GM.out.val k hlt
      have q1 := xor_max (m.val k) (GM.out.ok.val k hlt)
      have q2 := u64_andNot_nat (18446744073709551615 - m.val k) (n.mask k) (by omega) (GN.out.ok.mask k hlt)
      have qf := fullN_hi k
      have q3 := u64_and_nat ((18446744073709551615 - m.val k) &&& (18446744073709551615 - n.mask k)) (fullN k) (Nat.lt_of_le_of_lt Nat.and_le_left (by omega)) (by omega)
      have q4 : bits .or .u64 (n.val k : Int) ((((18446744073709551615 - m.val k) &&& (18446744073709551615 - n.mask k)) &&& fullN k : Nat) : Int) = (witN m n k : Nat) := u64_or_nat (n.val k) _ (GN.out.ok.val k hlt) (Nat.lt_of_le_of_lt Nat.and_le_right (by omega))
      obtain ⟨s1, s2, s3⟩ := wit_set GN.out H k hlt OH.out HJ.out
      have HE : ∃ H2, setH H k (witN m n k) = H2 := ⟨_, rfl⟩
      obtain ⟨H2, hE⟩ := HE
      rw [hE] at s2 s3
      have HWi := Lib.hid (w_with hE s1)
      have S2 := Lib.hid s2
      have S3 := Lib.hid s3
      clear s1 s2 s3 hE q0 qf
      generalize 18446744073709551615 - m.val k = A at q1 q2 q3 q4
      generalize A &&& (18446744073709551615 - n.mask k) = B at q2 q3 q4
      generalize B &&& fullN k = D at q3 q4
      generalize witN m n k = V at q4 HWi
      go_wp2_with fail
      refine wp_region_held_drew (S := fun w' => Below wr.heap.size wr w') (by kernel_rfl) ?_ (fun hHeld => ?_)
      · exact (Below.refl _ _).drew
      generalize World.drew wr = wd at hHeld ⊢
      refine rgy (i := 0) (v := ?_) (atN rfl) (by kernel_rfl) (fun _ _ _ h => h) ?_ ?_ hHeld ?_; rotate_left 1; (· rfl); (· intro w' hSw; refine exec_ld 31 (.tmp 11) ?_ G ?_ 31 _ (0, 0) _ (BW.out.below hSw) Tryd.underlying31 rfl (by kernel_rfl) <;> rfl)
      try simp only [Act.put, List.setIfInBounds_toArray, List.set_cons_zero, List.set_cons_succ]
      refine rgy (i := 1) (v := ?_) (atN rfl) (by kernel_rfl) (fun _ _ _ h => h) ?_ ?_ hHeld ?_; rotate_left 1; (· rfl); (· intro w' hSw; (try clear hHeld); go_simp; try with_reducible rfl)
      try simp only [Act.put, List.setIfInBounds_toArray, List.set_cons_zero, List.set_cons_succ]
      refine rgy (i := 2) (v := ?_) (atN rfl) (by kernel_rfl) (fun _ _ _ h => h) ?_ ?_ hHeld ?_; rotate_left 1; (· rfl); (· intro w' hSw; (try clear hHeld); go_simp; try with_reducible rfl)
      try simp only [Act.put, List.setIfInBounds_toArray, List.set_cons_zero, List.set_cons_succ]
      refine rgy (i := 3) (v := ?_) (atN rfl) (by kernel_rfl) (fun _ _ _ h => h) ?_ ?_ hHeld ?_; rotate_left 1; (· rfl); (· intro w' hSw; (try clear hHeld); go_simp; try with_reducible rfl)
      try simp only [Act.put, List.setIfInBounds_toArray, List.set_cons_zero, List.set_cons_succ]
      refine rgy (i := 4) (v := ?_) (atN rfl) (by kernel_rfl) (fun _ _ _ h => h) ?_ ?_ hHeld ?_; rotate_left 1; (· rfl); (· intro w' hSw; have c1 := cell_below c1 hSw; have c2 := cell_below c2 hSw; have c3 := cell_below c3 hSw; (try clear hHeld); go_simp; try with_reducible rfl)
      try simp only [Act.put, List.setIfInBounds_toArray, List.set_cons_zero, List.set_cons_succ]
      refine rgy (i := 5) (v := ?_) (atN rfl) (by kernel_rfl) (fun _ _ _ h => h) ?_ ?_ hHeld ?_; rotate_left 1; (· rfl); (· intro w' hSw; have c1 := cell_below c1 hSw; have c2 := cell_below c2 hSw; have c3 := cell_below c3 hSw; (try clear hHeld); go_simp; try with_reducible rfl)
      try simp only [Act.put, List.setIfInBounds_toArray, List.set_cons_zero, List.set_cons_succ]
      refine rgy (i := 6) (v := ?_) (atN rfl) (by kernel_rfl) (fun _ _ _ h => h) ?_ ?_ hHeld ?_; rotate_left 1; (· rfl); (· intro w' hSw; (try clear hHeld); go_simp; try with_reducible rfl)
      try simp only [Act.put, List.setIfInBounds_toArray, List.set_cons_zero, List.set_cons_succ]
      refine rgy (i := 7) (v := ?_) (atN rfl) (by kernel_rfl) (fun _ _ _ h => h) ?_ ?_ hHeld ?_; rotate_left 1; (· rfl); (· intro w' hSw; (try clear hHeld); go_simp; try with_reducible rfl)
      try simp only [Act.put, List.setIfInBounds_toArray, List.set_cons_zero, List.set_cons_succ]
      refine rgy (i := 8) (v := ?_) (atN rfl) (by kernel_rfl) (fun _ _ _ h => h) ?_ ?_ hHeld ?_; rotate_left 1; (· rfl); (· intro w' hSw; have c1 := cell_below c1 hSw; have c2 := cell_below c2 hSw; have c3 := cell_below c3 hSw; (try clear hHeld); go_simp; try with_reducible rfl)
      try simp only [Act.put, List.setIfInBounds_toArray, List.set_cons_zero, List.set_cons_succ]
      refine rgy (i := 9) (v := ?_) (atN rfl) (by kernel_rfl) (fun _ _ _ h => h) ?_ ?_ hHeld ?_; rotate_left 1; (· rfl); (· intro w' hSw; have c1 := cell_below c1 hSw; have c2 := cell_below c2 hSw; have c3 := cell_below c3 hSw; (try clear hHeld); go_simp; try with_reducible rfl)
      try simp only [Act.put, List.setIfInBounds_toArray, List.set_cons_zero, List.set_cons_succ]
      refine rgy (i := 10) (v := ?_) (atN rfl) (by kernel_rfl) (fun _ _ _ h => h) ?_ ?_ hHeld ?_; rotate_left 1; (· rfl); (· intro w' hSw; (try clear hHeld); go_simp; try with_reducible rfl)
      try simp only [Act.put, List.setIfInBounds_toArray, List.set_cons_zero, List.set_cons_succ]
      refine rgy (i := 11) (v := ?_) (atN rfl) (by kernel_rfl) (fun _ _ _ h => h) ?_ ?_ hHeld ?_; rotate_left 1; (· rfl); (· intro w' hSw; (try clear hHeld); go_simp; try with_reducible rfl)
      try simp only [Act.put, List.setIfInBounds_toArray, List.set_cons_zero, List.set_cons_succ]
      refine rgy (i := 12) (v := ?_) (atN rfl) (by kernel_rfl) (fun _ _ _ h => h) ?_ ?_ hHeld ?_; rotate_left 1; (· rfl); (· intro w' hSw; (try clear hHeld); go_simp; try with_reducible rfl)
      try simp only [Act.put, List.setIfInBounds_toArray, List.set_cons_zero, List.set_cons_succ]
      refine rgy (i := 13) (v := ?_) (atN rfl) (by kernel_rfl) (fun _ _ _ h => h) ?_ ?_ hHeld ?_; rotate_left 1; (· rfl); (· intro w' hSw; have c1 := cell_below c1 hSw; have c2 := cell_below c2 hSw; have c3 := cell_below c3 hSw; (try clear hHeld); go_simp; try with_reducible rfl)
      try simp only [Act.put, List.setIfInBounds_toArray, List.set_cons_zero, List.set_cons_succ]
      refine rgy (i := 14) (v := ?_) (atN rfl) (by kernel_rfl) (fun _ _ _ h => h) ?_ ?_ hHeld ?_; rotate_left 1; (· rfl); (· intro w' hSw; have c1 := cell_below c1 hSw; have c2 := cell_below c2 hSw; have c3 := cell_below c3 hSw; (try clear hHeld); go_simp; try with_reducible rfl)
      try simp only [Act.put, List.setIfInBounds_toArray, List.set_cons_zero, List.set_cons_succ]
      refine rgy (i := 15) (v := ?_) (atN rfl) (by kernel_rfl) (fun _ _ _ h => h) ?_ ?_ hHeld ?_; rotate_left 1; (· rfl); (· intro w' hSw; (try clear hHeld); go_simp; try with_reducible rfl)
      try simp only [Act.put, List.setIfInBounds_toArray, List.set_cons_zero, List.set_cons_succ]
      refine rgy (i := 16) (v := ?_) (atN rfl) (by kernel_rfl) (fun _ _ _ h => h) ?_ ?_ hHeld ?_; rotate_left 1; (· rfl); (· intro w' hSw; (try clear hHeld); go_simp; try with_reducible rfl)
      try simp only [Act.put, List.setIfInBounds_toArray, List.set_cons_zero, List.set_cons_succ]
      refine rg_call2 (i := 17) (j := 24) (atS (atS (atS (atS (atS (atS (atS (atS (atS (atS (atS (atS (atS (atS (atS (atS (atS at0))))))))))))))))) (atS (atS (atS (atS (atS (atS (atS (atS (atS (atS (atS (atS (atS (atS (atS (atS (atS (atS (atS (atS (atS (atS (atS (atS at0)))))))))))))))))))))))) (by kernel_rfl) ?_ ?_ (fun K hK => ?_) (fun K hK => ?_)
      · rfl
      · rfl
      · (try clear hb); go_simp; (refine (w_full k _ (C.out.2.1.below hHeld)).mono ?_; rintro e w1 ⟨rfl, hb⟩); (try replace hz := hz.below hb); go_wp2_with fail; refine hK.out _ _ ?_ (fun hHeld => ?_); (· exact hHeld.trans (hb.mono hHeld.size)); clear hK K
        try simp only [Act.put, List.setIfInBounds_toArray, List.set_cons_zero, List.set_cons_succ]
        refine rgy (i := 18) (v := ?_) (atN rfl) (by kernel_rfl) (fun _ _ _ h => h) ?_ ?_ hHeld ?_; rotate_left 1; (· rfl); (· intro w' hSw; (try clear hHeld); go_simp; try with_reducible rfl)
        try simp only [Act.put, List.setIfInBounds_toArray, List.set_cons_zero, List.set_cons_succ]
        refine rgy (i := 19) (v := ?_) (atN rfl) (by kernel_rfl) (fun _ _ _ h => h) ?_ ?_ hHeld ?_; rotate_left 1; (· rfl); (· intro w' hSw; (try clear hHeld); go_simp; try with_reducible rfl)
        try simp only [Act.put, List.setIfInBounds_toArray, List.set_cons_zero, List.set_cons_succ]
        refine rg_call2 (i := 20) (j := 24) (atS (atS (atS (atS (atS (atS (atS (atS (atS (atS (atS (atS (atS (atS (atS (atS (atS (atS (atS (atS at0)))))))))))))))))))) (atS (atS (atS (atS (atS (atS (atS (atS (atS (atS (atS (atS (atS (atS (atS (atS (atS (atS (atS (atS (atS (atS (atS (atS at0)))))))))))))))))))))))) (by kernel_rfl) ?_ ?_ (fun K hK => ?_) (fun K hK => ?_)
        · rfl
        · rfl
        · (try clear hb); go_simp; (refine (HWi.out _ (C.out.2.1.below hHeld)).mono ?_; rintro e w1 ⟨rfl, hb⟩); (try replace hz := hz.below hb); go_wp2_with fail; refine hK.out _ _ ?_ (fun hHeld => ?_); (· exact hHeld.trans (hb.mono hHeld.size)); clear hK K
          try simp only [Act.put, List.setIfInBounds_toArray, List.set_cons_zero, List.set_cons_succ]
          refine rgy (i := 21) (v := ?_) (atN rfl) (by kernel_rfl) (fun _ _ _ h => h) ?_ ?_ hHeld ?_; rotate_left 1; (· rfl); (· intro w' hSw; (try clear hHeld); go_simp; try with_reducible rfl)
          try simp only [Act.put, List.setIfInBounds_toArray, List.set_cons_zero, List.set_cons_succ]
          refine rgy (i := 22) (v := ?_) (atN rfl) (by kernel_rfl) (fun _ _ _ h => h) ?_ ?_ hHeld ?_; rotate_left 1; (· rfl); (· intro w' hSw; (try clear hHeld); go_simp; try with_reducible rfl)
          try simp only [Act.put, List.setIfInBounds_toArray, List.set_cons_zero, List.set_cons_succ]
          refine rgy (i := 23) (v := ?_) (atN rfl) (by kernel_rfl) (fun _ _ _ h => h) ?_ ?_ hHeld ?_; rotate_left 1; (· rfl); (· intro w' hSw; (try clear hHeld); go_simp; try with_reducible rfl)
          try simp only [Act.put, List.setIfInBounds_toArray, List.set_cons_zero, List.set_cons_succ]
          refine rg_call (i := 24) (atN rfl) (by kernel_rfl) ?_ (fun K hK => ?_); (· rfl); (try clear hb); go_simp; (refine box_hd hdr0 (p := K _) ?_); intro w1 hz hb; have hzB := hHeld.size; refine hK.out _ _ ?_ (fun hHeld => ?_); (· exact hHeld.trans (hb.mono hHeld.size)); clear hK K
          try simp only [Act.put, List.setIfInBounds_toArray, List.set_cons_zero, List.set_cons_succ]
          refine rg_call (i := 25) (atN rfl) (by kernel_rfl) ?_ (fun K hK => ?_); (· rfl); (try clear hb); refine wp_store_rowat 31 (.tmp 13) (.tmp 134) rfl _ rfl 31 (hdrC hdr0) (hdrC H2) rfl hz (by kernel_rfl) rfl (hdr_one _) ?_; refine hK.out _ _ ?_ (fun hHeld => ?_); (· exact below_setRow hHeld hzB _); clear hK K
          try simp only [Act.put]
          refine rgy (i := 26) (v := ?_) (atN rfl) (by kernel_rfl) (fun _ _ _ h => h) ?_ ?_ hHeld ?_; rotate_left 1; (· rfl); (· intro w' hSw; (try clear hHeld); go_simp; try with_reducible rfl)
          try simp only [Act.put, List.setIfInBounds_toArray, List.set_cons_zero, List.set_cons_succ]
          refine wpAnyH_done (by kernel_rfl) ?_ _
          have HZ := Lib.hid (hz.row H2)
          have BW2 := Lib.hid (BW.out.below hHeld)
          have C2 := Lib.hid (mem3_below C.out hHeld)
          clear hz hHeld c1 c2 c3 q1 q2 q3 q4 C BW
          have hbf := below_setRow C2.out.1 (g := G) (by omega) (hdrC H2)
          have C3 := Lib.hid (⟨hbf, HT0.out.below hbf, C2.out.2.2.1.otherRow (g := G) (hdrC H2) (by omega), C2.out.2.2.2.1.otherRow (g := G) (hdrC H2) (by omega), C2.out.2.2.2.2.setRow_other (g := G) (hdrC H2) (by omega)⟩ : Mem3 w m n _ _)
          have BW3 := Lib.hid (BW2.out.row H2)
          clear hbf
          go_wp2_with (first | ((with_reducible refine ld_hd (x := .tmp 13) HZ.out ?_ ?_ ?_ ?_); (· rfl); (· rfl); (· rfl)) | (refine st_row rfl 31 _ _ rfl G rfl 31 (hdrC H) (hdrC H2) rfl BW2.out (by kernel_rfl) rfl (hdr_one _) ?_))
          exact ⟨⟨k + 1, by omega, by simp, H2, BW3.out, S2.out, S3.out, C3.out⟩, by simp [intOf]; omega⟩
        · (try clear hb); go_simp; (refine box_hd hdr0 (p := K _) ?_); intro w1 hz hb; have hzB := hHeld.size; refine hK.out _ _ ?_ (fun hHeld => ?_); (· exact hHeld.trans (hb.mono hHeld.size)); clear hK K
          try simp only [Act.put, List.setIfInBounds_toArray, List.set_cons_zero, List.set_cons_succ]
          refine rg_call (i := 20) (atN rfl) (by kernel_rfl) ?_ (fun K hK => ?_); (· rfl); (try clear hb); go_simp; (refine (HWi.out _ (C.out.2.1.below hHeld)).mono ?_; rintro e w1 ⟨rfl, hb⟩); (try replace hz := hz.below hb); go_wp2_with fail; refine hK.out _ _ ?_ (fun hHeld => ?_); (· exact hHeld.trans (hb.mono hHeld.size)); clear hK K
          try simp only [Act.put, List.setIfInBounds_toArray, List.set_cons_zero, List.set_cons_succ]
          refine rgy (i := 21) (v := ?_) (atN rfl) (by kernel_rfl) (fun _ _ _ h => h) ?_ ?_ hHeld ?_; rotate_left 1; (· rfl); (· intro w' hSw; (try clear hHeld); go_simp; try with_reducible rfl)
          try simp only [Act.put, List.setIfInBounds_toArray, List.set_cons_zero, List.set_cons_succ]
          refine rgy (i := 22) (v := ?_) (atN rfl) (by kernel_rfl) (fun _ _ _ h => h) ?_ ?_ hHeld ?_; rotate_left 1; (· rfl); (· intro w' hSw; (try clear hHeld); go_simp; try with_reducible rfl)
          try simp only [Act.put, List.setIfInBounds_toArray, List.set_cons_zero, List.set_cons_succ]
          refine rgy (i := 23) (v := ?_) (atN rfl) (by kernel_rfl) (fun _ _ _ h => h) ?_ ?_ hHeld ?_; rotate_left 1; (· rfl); (· intro w' hSw; (try clear hHeld); go_simp; try with_reducible rfl)
          try simp only [Act.put, List.setIfInBounds_toArray, List.set_cons_zero, List.set_cons_succ]
          refine rg_call (i := 25) (atN rfl) (by kernel_rfl) ?_ (fun K hK => ?_); (· rfl); (try clear hb); refine wp_store_rowat 31 (.tmp 13) (.tmp 134) rfl _ rfl 31 (hdrC hdr0) (hdrC H2) rfl hz (by kernel_rfl) rfl (hdr_one _) ?_; refine hK.out _ _ ?_ (fun hHeld => ?_); (· exact below_setRow hHeld hzB _); clear hK K
          try simp only [Act.put]
          refine rgy (i := 26) (v := ?_) (atN rfl) (by kernel_rfl) (fun _ _ _ h => h) ?_ ?_ hHeld ?_; rotate_left 1; (· rfl); (· intro w' hSw; (try clear hHeld); go_simp; try with_reducible rfl)
          try simp only [Act.put, List.setIfInBounds_toArray, List.set_cons_zero, List.set_cons_succ]
          refine wpAnyH_done (by kernel_rfl) ?_ _
          have HZ := Lib.hid (hz.row H2)
          have BW2 := Lib.hid (BW.out.below hHeld)
          have C2 := Lib.hid (mem3_below C.out hHeld)
          clear hz hHeld c1 c2 c3 q1 q2 q3 q4 C BW
          have hbf := below_setRow C2.out.1 (g := G) (by omega) (hdrC H2)
          have C3 := Lib.hid (⟨hbf, HT0.out.below hbf, C2.out.2.2.1.otherRow (g := G) (hdrC H2) (by omega), C2.out.2.2.2.1.otherRow (g := G) (hdrC H2) (by omega), C2.out.2.2.2.2.setRow_other (g := G) (hdrC H2) (by omega)⟩ : Mem3 w m n _ _)
          have BW3 := Lib.hid (BW2.out.row H2)
          clear hbf
          go_wp2_with (first | ((with_reducible refine ld_hd (x := .tmp 13) HZ.out ?_ ?_ ?_ ?_); (· rfl); (· rfl); (· rfl)) | (refine st_row rfl 31 _ _ rfl G rfl 31 (hdrC H) (hdrC H2) rfl BW2.out (by kernel_rfl) rfl (hdr_one _) ?_))
          exact ⟨⟨k + 1, by omega, by simp, H2, BW3.out, S2.out, S3.out, C3.out⟩, by simp [intOf]; omega⟩
      · (try clear hb); go_simp; (refine box_hd hdr0 (p := K _) ?_); intro w1 hz hb; have hzB := hHeld.size; refine hK.out _ _ ?_ (fun hHeld => ?_); (· exact hHeld.trans (hb.mono hHeld.size)); clear hK K
        try simp only [Act.put, List.setIfInBounds_toArray, List.set_cons_zero, List.set_cons_succ]
        refine rg_call (i := 17) (atN rfl) (by kernel_rfl) ?_ (fun K hK => ?_); (· rfl); (try clear hb); go_simp; (refine (w_full k _ (C.out.2.1.below hHeld)).mono ?_; rintro e w1 ⟨rfl, hb⟩); (try replace hz := hz.below hb); go_wp2_with fail; refine hK.out _ _ ?_ (fun hHeld => ?_); (· exact hHeld.trans (hb.mono hHeld.size)); clear hK K
        try simp only [Act.put, List.setIfInBounds_toArray, List.set_cons_zero, List.set_cons_succ]
        refine rgy (i := 18) (v := ?_) (atN rfl) (by kernel_rfl) (fun _ _ _ h => h) ?_ ?_ hHeld ?_; rotate_left 1; (· rfl); (· intro w' hSw; (try clear hHeld); go_simp; try with_reducible rfl)
        try simp only [Act.put, List.setIfInBounds_toArray, List.set_cons_zero, List.set_cons_succ]
        refine rgy (i := 19) (v := ?_) (atN rfl) (by kernel_rfl) (fun _ _ _ h => h) ?_ ?_ hHeld ?_; rotate_left 1; (· rfl); (· intro w' hSw; (try clear hHeld); go_simp; try with_reducible rfl)
        try simp only [Act.put, List.setIfInBounds_toArray, List.set_cons_zero, List.set_cons_succ]
        refine rg_call (i := 20) (atN rfl) (by kernel_rfl) ?_ (fun K hK => ?_); (· rfl); (try clear hb); go_simp; (refine (HWi.out _ (C.out.2.1.below hHeld)).mono ?_; rintro e w1 ⟨rfl, hb⟩); (try replace hz := hz.below hb); go_wp2_with fail; refine hK.out _ _ ?_ (fun hHeld => ?_); (· exact hHeld.trans (hb.mono hHeld.size)); clear hK K
        try simp only [Act.put, List.setIfInBounds_toArray, List.set_cons_zero, List.set_cons_succ]
        refine rgy (i := 21) (v := ?_) (atN rfl) (by kernel_rfl) (fun _ _ _ h => h) ?_ ?_ hHeld ?_; rotate_left 1; (· rfl); (· intro w' hSw; (try clear hHeld); go_simp; try with_reducible rfl)
        try simp only [Act.put, List.setIfInBounds_toArray, List.set_cons_zero, List.set_cons_succ]
        refine rgy (i := 22) (v := ?_) (atN rfl) (by kernel_rfl) (fun _ _ _ h => h) ?_ ?_ hHeld ?_; rotate_left 1; (· rfl); (· intro w' hSw; (try clear hHeld); go_simp; try with_reducible rfl)
        try simp only [Act.put, List.setIfInBounds_toArray, List.set_cons_zero, List.set_cons_succ]
        refine rgy (i := 23) (v := ?_) (atN rfl) (by kernel_rfl) (fun _ _ _ h => h) ?_ ?_ hHeld ?_; rotate_left 1; (· rfl); (· intro w' hSw; (try clear hHeld); go_simp; try with_reducible rfl)
        try simp only [Act.put, List.setIfInBounds_toArray, List.set_cons_zero, List.set_cons_succ]
        refine rg_call (i := 25) (atN rfl) (by kernel_rfl) ?_ (fun K hK => ?_); (· rfl); (try clear hb); refine wp_store_rowat 31 (.tmp 13) (.tmp 134) rfl _ rfl 31 (hdrC hdr0) (hdrC H2) rfl hz (by kernel_rfl) rfl (hdr_one _) ?_; refine hK.out _ _ ?_ (fun hHeld => ?_); (· exact below_setRow hHeld hzB _); clear hK K
        try simp only [Act.put]
        refine rgy (i := 26) (v := ?_) (atN rfl) (by kernel_rfl) (fun _ _ _ h => h) ?_ ?_ hHeld ?_; rotate_left 1; (· rfl); (· intro w' hSw; (try clear hHeld); go_simp; try with_reducible rfl)
        try simp only [Act.put, List.setIfInBounds_toArray, List.set_cons_zero, List.set_cons_succ]
        refine wpAnyH_done (by kernel_rfl) ?_ _
        have HZ := Lib.hid (hz.row H2)
        have BW2 := Lib.hid (BW.out.below hHeld)
        have C2 := Lib.hid (mem3_below C.out hHeld)
        clear hz hHeld c1 c2 c3 q1 q2 q3 q4 C BW
        have hbf := below_setRow C2.out.1 (g := G) (by omega) (hdrC H2)
        have C3 := Lib.hid (⟨hbf, HT0.out.below hbf, C2.out.2.2.1.otherRow (g := G) (hdrC H2) (by omega), C2.out.2.2.2.1.otherRow (g := G) (hdrC H2) (by omega), C2.out.2.2.2.2.setRow_other (g := G) (hdrC H2) (by omega)⟩ : Mem3 w m n _ _)
        have BW3 := Lib.hid (BW2.out.row H2)
        clear hbf
        go_wp2_with (first | ((with_reducible refine ld_hd (x := .tmp 13) HZ.out ?_ ?_ ?_ ?_); (· rfl); (· rfl); (· rfl)) | (refine st_row rfl 31 _ _ rfl G rfl 31 (hdrC H) (hdrC H2) rfl BW2.out (by kernel_rfl) rfl (hdr_one _) ?_))
        exact ⟨⟨k + 1, by omega, by simp, H2, BW3.out, S2.out, S3.out, C3.out⟩, by simp [intOf]; omega⟩
    · obtain rfl : k = 9 := by omega
      obtain ⟨t1, t2⟩ := wit_end GM.out GN.out H OH.out HJ.out HNO.out
      have HN : Hid (∀ W, Wid W → Calls Tryd.prog 11 #[mtV n, hdrV H] W fun e w' => e = .returned (.bool true) ∧ Below W.heap.size W w') := Lib.hid fun W hT => by have := match_Hits n H W hT OH.out; rwa [t1] at this
      have HM2 : Hid (∀ W, Wid W → Calls Tryd.prog 11 #[mtV m, hdrV H] W fun e w' => e = .returned (.bool false) ∧ Below W.heap.size W w') := Lib.hid fun W hT => by have := match_Hits m H W hT OH.out; rwa [t2] at this
      clear t1 t2
      go_wp2_with (first | ((with_reducible refine ld_mt (x := .tmp 3) C.out.2.2.1 ?_ ?_ ?_ ?_); (· rfl); (· rfl); (· rfl)) | ((with_reducible refine ld_mt (x := .tmp 4) C.out.2.2.2.1 ?_ ?_ ?_ ?_); (· rfl); (· rfl); (· rfl)) | ((with_reducible refine ld_hd (x := .tmp 11) BW.out ?_ ?_ ?_ ?_); (· rfl); (· rfl); (· rfl)))
      refine (HN.out _ C.out.2.1).mono ?_
      rintro e v1 ⟨rfl, hb⟩
      have C' := Lib.hid (mem3_below C.out hb)
      have BW' := Lib.hid (BW.out.below hb)
      clear hb C BW
      have C := C'
      have BW := BW'
      clear C' BW'
      go_wp2_with (first | ((with_reducible refine ld_mt (x := .tmp 3) C.out.2.2.1 ?_ ?_ ?_ ?_); (· rfl); (· rfl); (· rfl)) | ((with_reducible refine ld_mt (x := .tmp 4) C.out.2.2.2.1 ?_ ?_ ?_ ?_); (· rfl); (· rfl); (· rfl)) | ((with_reducible refine ld_hd (x := .tmp 11) BW.out ?_ ?_ ?_ ?_); (· rfl); (· rfl); (· rfl)))
      refine (HM2.out _ C.out.2.1).mono ?_
      rintro e v2 ⟨rfl, hb⟩
      have C' := Lib.hid (mem3_below C.out hb)
      clear hb C BW
      go_wp2_with fail
      go_ret
      exact ⟨rfl, C'.out.1⟩
set_option maxRecDepth 100000 in
set_option maxHeartbeats 3200000 in
theorem an_0001 (m n x y : Mt) (h : Hdr) (w : World) (hT : Wid w)
    (hR1 : ∀ W, Wid W → Calls Tryd.prog 9 #[mtV m] W fun e w' => e = .returned (.bool true) ∧ Below W.heap.size W w')
    (hR2 : ∀ W, Wid W → Calls Tryd.prog 9 #[mtV n] W fun e w' => e = .returned (.bool true) ∧ Below W.heap.size W w')
    (hA1 : ∀ W, Calls Tryd.prog 18 #[mtV m, mtV n] W fun e w' => e = .returned (.tuple #[mtV x, .bool false]) ∧ Below W.heap.size W w')
    (hA2 : ∀ W, Calls Tryd.prog 18 #[mtV n, mtV m] W fun e w' => e = .returned (.tuple #[mtV y, .bool false]) ∧ Below W.heap.size W w')
    (hHm : ∀ W, Wid W → Calls Tryd.prog 11 #[mtV m, hdrV h] W fun e w' => e = .returned (.bool false) ∧ Below W.heap.size W w')
    (hHn : ∀ W, Wid W → Calls Tryd.prog 11 #[mtV n, hdrV h] W fun e w' => e = .returned (.bool true) ∧ Below W.heap.size W w')
    (hCv : ∀ W, Calls Tryd.prog 19 #[mtV m, mtV n] W fun e w' => e = .returned (.bool false) ∧ Below W.heap.size W w')
    (e1 : eqM x y = true)
    (e0 : eqM x mt0 = true)
    (gm : Good m) (gn : Good n) (hno : coversM m n = false) :
    Calls Tryd.prog 6 #[mtV m, mtV n, hdrV h] w fun e w' => e = .returned (.bool true) ∧ Below w.heap.size w w' := by
  have HR1 := Lib.hid hR1
  have HR2 := Lib.hid hR2
  have HA1 := Lib.hid hA1
  have HA2 := Lib.hid hA2
  have HHm := Lib.hid hHm
  have HHn := Lib.hid hHn
  have HCv := Lib.hid hCv
  clear hR1 hR2 hA1 hA2 hHm hHn hCv
  have GM := Lib.hid gm
  have GN := Lib.hid gn
  have HNO := Lib.hid hno
  clear gm gn hno
  obtain ⟨W1, hW1, hM⟩ := mem3_first w m n h hT
  have C := Lib.hid hM
  have HT0 := Lib.hid hT
  clear hM hT
  go_enter Tryd.func6, Tryd.ntmps6
  go_wp2_with fail
  rw [← hW1]
  clear hW1
  refine (law_example _ C.out.2.1).mono ?_
  rintro e w2 ⟨rfl, hb⟩
  have C' := Lib.hid (mem3_below C.out hb)
  clear hb C 
  have C := C'
  clear C' 
  go_wp2_with (first | ((with_reducible refine ld_mt (x := .tmp 3) C.out.2.2.1 ?_ ?_ ?_ ?_); (· rfl); (· rfl); (· rfl)) | ((with_reducible refine ld_mt (x := .tmp 4) C.out.2.2.2.1 ?_ ?_ ?_ ?_); (· rfl); (· rfl); (· rfl)) | ((with_reducible refine ld_hd (x := .tmp 5) C.out.2.2.2.2 ?_ ?_ ?_ ?_); (· rfl); (· rfl); (· rfl)))
  refine (HR1.out _ C.out.2.1).mono ?_
  rintro e w3 ⟨rfl, hb⟩
  have C' := Lib.hid (mem3_below C.out hb)
  clear hb C 
  have C := C'
  clear C' 
  go_wp2_with (first | ((with_reducible refine ld_mt (x := .tmp 3) C.out.2.2.1 ?_ ?_ ?_ ?_); (· rfl); (· rfl); (· rfl)) | ((with_reducible refine ld_mt (x := .tmp 4) C.out.2.2.2.1 ?_ ?_ ?_ ?_); (· rfl); (· rfl); (· rfl)) | ((with_reducible refine ld_hd (x := .tmp 5) C.out.2.2.2.2 ?_ ?_ ?_ ?_); (· rfl); (· rfl); (· rfl)))
  refine (HR2.out _ C.out.2.1).mono ?_
  rintro e w4 ⟨rfl, hb⟩
  have C' := Lib.hid (mem3_below C.out hb)
  clear hb C 
  have C := C'
  clear C' 
  go_wp2_with (first | ((with_reducible refine ld_mt (x := .tmp 3) C.out.2.2.1 ?_ ?_ ?_ ?_); (· rfl); (· rfl); (· rfl)) | ((with_reducible refine ld_mt (x := .tmp 4) C.out.2.2.2.1 ?_ ?_ ?_ ?_); (· rfl); (· rfl); (· rfl)) | ((with_reducible refine ld_hd (x := .tmp 5) C.out.2.2.2.2 ?_ ?_ ?_ ?_); (· rfl); (· rfl); (· rfl)))
  refine (HA1.out _).mono ?_
  rintro e w5 ⟨rfl, hb⟩
  have C' := Lib.hid (mem3_below C.out hb)
  clear hb C 
  have C := C'
  clear C' 
  go_wp2_with (first | (refine st_fresh rfl 25 _ _ rfl rfl (mtC mt0) (mtC x) rfl (by kernel_rfl) rfl (mt_one _) ?_) | (with_reducible refine halt_at (X := .load 25 (.tmp 4)) ?_ ?_; (· rfl)))
  obtain ⟨V1, hW, bx, hb⟩ := boxM w5 x
  rw [← hW]
  clear hW
  have BX := Lib.hid bx
  clear bx
  have C' := Lib.hid (mem3_below C.out hb)
  clear hb C 
  have C := C'
  clear C' 
  unfold Halt
  go_wp2_with (first | ((with_reducible refine ld_mt (x := .tmp 3) C.out.2.2.1 ?_ ?_ ?_ ?_); (· rfl); (· rfl); (· rfl)) | ((with_reducible refine ld_mt (x := .tmp 4) C.out.2.2.2.1 ?_ ?_ ?_ ?_); (· rfl); (· rfl); (· rfl)) | ((with_reducible refine ld_hd (x := .tmp 5) C.out.2.2.2.2 ?_ ?_ ?_ ?_); (· rfl); (· rfl); (· rfl)) | ((with_reducible refine ld_mt (x := .tmp 7) BX.out ?_ ?_ ?_ ?_); (· rfl); (· rfl); (· rfl)))
  refine (HA2.out _).mono ?_
  rintro e w6 ⟨rfl, hb⟩
  have C' := Lib.hid (mem3_below C.out hb)
  have BX' := Lib.hid (BX.out.below hb)
  clear hb C BX
  have C := C'
  have BX := BX'
  clear C' BX'
  go_wp2_with (first | (refine st_fresh rfl 25 _ _ rfl rfl (mtC mt0) (mtC y) rfl (by kernel_rfl) rfl (mt_one _) ?_) | (with_reducible refine halt_at (X := .binOp .neq 4 (.tmp 37) (.tmp 38) 4) ?_ ?_; (· rfl)))
  obtain ⟨V2, hW, bY, hb⟩ := boxM w6 y
  rw [← hW]
  clear hW
  have BY := Lib.hid bY
  clear bY
  have C' := Lib.hid (mem3_below C.out hb)
  have BX' := Lib.hid (BX.out.below hb)
  clear hb C BX
  have C := C'
  have BX := BX'
  clear C' BX'
  unfold Halt
  go_wp2_with (first | ((with_reducible refine ld_mt (x := .tmp 3) C.out.2.2.1 ?_ ?_ ?_ ?_); (· rfl); (· rfl); (· rfl)) | ((with_reducible refine ld_mt (x := .tmp 4) C.out.2.2.2.1 ?_ ?_ ?_ ?_); (· rfl); (· rfl); (· rfl)) | ((with_reducible refine ld_hd (x := .tmp 5) C.out.2.2.2.2 ?_ ?_ ?_ ?_); (· rfl); (· rfl); (· rfl)) | ((with_reducible refine ld_mt (x := .tmp 7) BX.out ?_ ?_ ?_ ?_); (· rfl); (· rfl); (· rfl)) | ((with_reducible refine ld_mt (x := .tmp 9) BY.out ?_ ?_ ?_ ?_); (· rfl); (· rfl); (· rfl)))
  refine (HHm.out _ C.out.2.1).mono ?_
  rintro e w7 ⟨rfl, hb⟩
  have C' := Lib.hid (mem3_below C.out hb)
  have BX' := Lib.hid (BX.out.below hb)
  have BY' := Lib.hid (BY.out.below hb)
  clear hb C BX BY
  have C := C'
  have BX := BX'
  have BY := BY'
  clear C' BX' BY'
  go_wp2_with (first | ((with_reducible refine ld_mt (x := .tmp 3) C.out.2.2.1 ?_ ?_ ?_ ?_); (· rfl); (· rfl); (· rfl)) | ((with_reducible refine ld_mt (x := .tmp 4) C.out.2.2.2.1 ?_ ?_ ?_ ?_); (· rfl); (· rfl); (· rfl)) | ((with_reducible refine ld_hd (x := .tmp 5) C.out.2.2.2.2 ?_ ?_ ?_ ?_); (· rfl); (· rfl); (· rfl)) | ((with_reducible refine ld_mt (x := .tmp 7) BX.out ?_ ?_ ?_ ?_); (· rfl); (· rfl); (· rfl)) | ((with_reducible refine ld_mt (x := .tmp 9) BY.out ?_ ?_ ?_ ?_); (· rfl); (· rfl); (· rfl)))
  refine (HCv.out _).mono ?_
  rintro e w8 ⟨rfl, hb⟩
  have C' := Lib.hid (mem3_below C.out hb)
  have BX' := Lib.hid (BX.out.below hb)
  have BY' := Lib.hid (BY.out.below hb)
  clear hb C BX BY
  have C := C'
  have BX := BX'
  have BY := BY'
  clear C' BX' BY'
  go_wp2_with (first | ((with_reducible refine ld_mt (x := .tmp 3) C.out.2.2.1 ?_ ?_ ?_ ?_); (· rfl); (· rfl); (· rfl)) | ((with_reducible refine ld_mt (x := .tmp 4) C.out.2.2.2.1 ?_ ?_ ?_ ?_); (· rfl); (· rfl); (· rfl)) | ((with_reducible refine ld_hd (x := .tmp 5) C.out.2.2.2.2 ?_ ?_ ?_ ?_); (· rfl); (· rfl); (· rfl)) | ((with_reducible refine ld_mt (x := .tmp 7) BX.out ?_ ?_ ?_ ?_); (· rfl); (· rfl); (· rfl)) | ((with_reducible refine ld_mt (x := .tmp 9) BY.out ?_ ?_ ?_ ?_); (· rfl); (· rfl); (· rfl)))
  refine (HCv.out _).mono ?_
  rintro e w9 ⟨rfl, hb⟩
  have C' := Lib.hid (mem3_below C.out hb)
  have BX' := Lib.hid (BX.out.below hb)
  have BY' := Lib.hid (BY.out.below hb)
  clear hb C BX BY
  have C := C'
  have BX := BX'
  have BY := BY'
  clear C' BX' BY'
  go_wp2_with (first | ((with_reducible refine ld_mt (x := .tmp 3) C.out.2.2.1 ?_ ?_ ?_ ?_); (· rfl); (· rfl); (· rfl)) | ((with_reducible refine ld_mt (x := .tmp 4) C.out.2.2.2.1 ?_ ?_ ?_ ?_); (· rfl); (· rfl); (· rfl)) | ((with_reducible refine ld_hd (x := .tmp 5) C.out.2.2.2.2 ?_ ?_ ?_ ?_); (· rfl); (· rfl); (· rfl)) | ((with_reducible refine ld_mt (x := .tmp 7) BX.out ?_ ?_ ?_ ?_); (· rfl); (· rfl); (· rfl)) | ((with_reducible refine ld_mt (x := .tmp 9) BY.out ?_ ?_ ?_ ?_); (· rfl); (· rfl); (· rfl)))
  refine (HCv.out _).mono ?_
  rintro e w10 ⟨rfl, hb⟩
  have C' := Lib.hid (mem3_below C.out hb)
  have BX' := Lib.hid (BX.out.below hb)
  have BY' := Lib.hid (BY.out.below hb)
  clear hb C BX BY
  have C := C'
  have BX := BX'
  have BY := BY'
  clear C' BX' BY'
  go_wp2_with (refine st_fresh rfl 31 _ _ rfl rfl (hdrC hdr0) (hdrC hdr0) rfl (by kernel_rfl) rfl (hdr_one _) ?_)
  obtain ⟨V3, hW, bw, hb⟩ := boxH w10 hdr0
  rw [← hW]
  clear hW
  have hz0 : w.heap.size + 2 < w10.heap.size := C.out.2.2.2.2.lt
  have C0 := Lib.hid (mem3_below C.out hb)
  clear hb C BX BY
  generalize w10.heap.size = G at bw hz0 ⊢
  go_loopw [12] (fun t wr => ∃ k : Nat, k ≤ 9 ∧ t = .int .i64 k ∧ ∃ H : Hdr, HBox wr G H ∧ H.Ok ∧ (∀ j, j < k → getN H j = witN m n j) ∧ Mem3 w m n h wr) (fun t _ => 9 - (intOf t).toNat)
  case atStart => exact ⟨0, by omega, rfl, hdr0, bw, hz_ok, fun j hj => absurd hj (by omega), C0.out⟩
  case round =>
    obtain ⟨k, hk, rfl, H, hbw, oH, hj, hC⟩ := hrel
    have C := Lib.hid hC
    have BW := Lib.hid hbw
    have OH := Lib.hid oH
    have HJ := Lib.hid hj
    clear hC hbw oH hj C0 bw
    rcases Nat.lt_or_ge k 9 with hlt | hge
    · have hk9 : ((k : Int) < 9) := by omega
      have hw : IntKind.i64.wrap ((k : Int) + 1) = ((k + 1 : Nat) : Int) := by rw [IntWalk.i64_in _ (by omega)]; omega
      have c1 := C.out.2.2.2.1.val k hlt
      have c2 := C.out.2.2.1.val k hlt
      have c3 := C.out.2.2.2.1.mask k hlt
      have q0 := GM.out.val k hlt
      have q1 := xor_max (m.val k) (GM.out.ok.val k hlt)
      have q2 := u64_andNot_nat (18446744073709551615 - m.val k) (n.mask k) (by omega) (GN.out.ok.mask k hlt)
      have qf := fullN_hi k
      have q3 := u64_and_nat ((18446744073709551615 - m.val k) &&& (18446744073709551615 - n.mask k)) (fullN k) (Nat.lt_of_le_of_lt Nat.and_le_left (by omega)) (by omega)
      have q4 : bits .or .u64 (n.val k : Int) ((((18446744073709551615 - m.val k) &&& (18446744073709551615 - n.mask k)) &&& fullN k : Nat) : Int) = (witN m n k : Nat) := u64_or_nat (n.val k) _ (GN.out.ok.val k hlt) (Nat.lt_of_le_of_lt Nat.and_le_right (by omega))
      obtain ⟨s1, s2, s3⟩ := wit_set GN.out H k hlt OH.out HJ.out
      have HE : ∃ H2, setH H k (witN m n k) = H2 := ⟨_, rfl⟩
      obtain ⟨H2, hE⟩ := HE
      rw [hE] at s2 s3
      have HWi := Lib.hid (w_with hE s1)
      have S2 := Lib.hid s2
      have S3 := Lib.hid s3
      clear s1 s2 s3 hE q0 qf
      generalize 18446744073709551615 - m.val k = A at q1 q2 q3 q4
      generalize A &&& (18446744073709551615 - n.mask k) = B at q2 q3 q4
      generalize B &&& fullN k = D at q3 q4
      generalize witN m n k = V at q4 HWi
      go_wp2_with fail
      refine wp_region_held_drew (S := fun w' => Below wr.heap.size wr w') (by kernel_rfl) ?_ (fun hHeld => ?_)
      · exact (Below.refl _ _).drew
      generalize World.drew wr = wd at hHeld ⊢
      refine rgy (i := 0) (v := ?_) (atN rfl) (by kernel_rfl) (fun _ _ _ h => h) ?_ ?_ hHeld ?_; rotate_left 1; (· rfl); (· intro w' hSw; refine exec_ld 31 (.tmp 11) ?_ G ?_ 31 _ (0, 0) _ (BW.out.below hSw) Tryd.underlying31 rfl (by kernel_rfl) <;> rfl)
      try simp only [Act.put, List.setIfInBounds_toArray, List.set_cons_zero, List.set_cons_succ]
      refine rgy (i := 1) (v := ?_) (atN rfl) (by kernel_rfl) (fun _ _ _ h => h) ?_ ?_ hHeld ?_; rotate_left 1; (· rfl); (· intro w' hSw; (try clear hHeld); go_simp; try with_reducible rfl)
      try simp only [Act.put, List.setIfInBounds_toArray, List.set_cons_zero, List.set_cons_succ]
      refine rgy (i := 2) (v := ?_) (atN rfl) (by kernel_rfl) (fun _ _ _ h => h) ?_ ?_ hHeld ?_; rotate_left 1; (· rfl); (· intro w' hSw; (try clear hHeld); go_simp; try with_reducible rfl)
      try simp only [Act.put, List.setIfInBounds_toArray, List.set_cons_zero, List.set_cons_succ]
      refine rgy (i := 3) (v := ?_) (atN rfl) (by kernel_rfl) (fun _ _ _ h => h) ?_ ?_ hHeld ?_; rotate_left 1; (· rfl); (· intro w' hSw; (try clear hHeld); go_simp; try with_reducible rfl)
      try simp only [Act.put, List.setIfInBounds_toArray, List.set_cons_zero, List.set_cons_succ]
      refine rgy (i := 4) (v := ?_) (atN rfl) (by kernel_rfl) (fun _ _ _ h => h) ?_ ?_ hHeld ?_; rotate_left 1; (· rfl); (· intro w' hSw; have c1 := cell_below c1 hSw; have c2 := cell_below c2 hSw; have c3 := cell_below c3 hSw; (try clear hHeld); go_simp; try with_reducible rfl)
      try simp only [Act.put, List.setIfInBounds_toArray, List.set_cons_zero, List.set_cons_succ]
      refine rgy (i := 5) (v := ?_) (atN rfl) (by kernel_rfl) (fun _ _ _ h => h) ?_ ?_ hHeld ?_; rotate_left 1; (· rfl); (· intro w' hSw; have c1 := cell_below c1 hSw; have c2 := cell_below c2 hSw; have c3 := cell_below c3 hSw; (try clear hHeld); go_simp; try with_reducible rfl)
      try simp only [Act.put, List.setIfInBounds_toArray, List.set_cons_zero, List.set_cons_succ]
      refine rgy (i := 6) (v := ?_) (atN rfl) (by kernel_rfl) (fun _ _ _ h => h) ?_ ?_ hHeld ?_; rotate_left 1; (· rfl); (· intro w' hSw; (try clear hHeld); go_simp; try with_reducible rfl)
      try simp only [Act.put, List.setIfInBounds_toArray, List.set_cons_zero, List.set_cons_succ]
      refine rgy (i := 7) (v := ?_) (atN rfl) (by kernel_rfl) (fun _ _ _ h => h) ?_ ?_ hHeld ?_; rotate_left 1; (· rfl); (· intro w' hSw; (try clear hHeld); go_simp; try with_reducible rfl)
      try simp only [Act.put, List.setIfInBounds_toArray, List.set_cons_zero, List.set_cons_succ]
      refine rgy (i := 8) (v := ?_) (atN rfl) (by kernel_rfl) (fun _ _ _ h => h) ?_ ?_ hHeld ?_; rotate_left 1; (· rfl); (· intro w' hSw; have c1 := cell_below c1 hSw; have c2 := cell_below c2 hSw; have c3 := cell_below c3 hSw; (try clear hHeld); go_simp; try with_reducible rfl)
      try simp only [Act.put, List.setIfInBounds_toArray, List.set_cons_zero, List.set_cons_succ]
      refine rgy (i := 9) (v := ?_) (atN rfl) (by kernel_rfl) (fun _ _ _ h => h) ?_ ?_ hHeld ?_; rotate_left 1; (· rfl); (· intro w' hSw; have c1 := cell_below c1 hSw; have c2 := cell_below c2 hSw; have c3 := cell_below c3 hSw; (try clear hHeld); go_simp; try with_reducible rfl)
      try simp only [Act.put, List.setIfInBounds_toArray, List.set_cons_zero, List.set_cons_succ]
      refine rgy (i := 10) (v := ?_) (atN rfl) (by kernel_rfl) (fun _ _ _ h => h) ?_ ?_ hHeld ?_; rotate_left 1; (· rfl); (· intro w' hSw; (try clear hHeld); go_simp; try with_reducible rfl)
      try simp only [Act.put, List.setIfInBounds_toArray, List.set_cons_zero, List.set_cons_succ]
      refine rgy (i := 11) (v := ?_) (atN rfl) (by kernel_rfl) (fun _ _ _ h => h) ?_ ?_ hHeld ?_; rotate_left 1; (· rfl); (· intro w' hSw; (try clear hHeld); go_simp; try with_reducible rfl)
      try simp only [Act.put, List.setIfInBounds_toArray, List.set_cons_zero, List.set_cons_succ]
      refine rgy (i := 12) (v := ?_) (atN rfl) (by kernel_rfl) (fun _ _ _ h => h) ?_ ?_ hHeld ?_; rotate_left 1; (· rfl); (· intro w' hSw; (try clear hHeld); go_simp; try with_reducible rfl)
      try simp only [Act.put, List.setIfInBounds_toArray, List.set_cons_zero, List.set_cons_succ]
      refine rgy (i := 13) (v := ?_) (atN rfl) (by kernel_rfl) (fun _ _ _ h => h) ?_ ?_ hHeld ?_; rotate_left 1; (· rfl); (· intro w' hSw; have c1 := cell_below c1 hSw; have c2 := cell_below c2 hSw; have c3 := cell_below c3 hSw; (try clear hHeld); go_simp; try with_reducible rfl)
      try simp only [Act.put, List.setIfInBounds_toArray, List.set_cons_zero, List.set_cons_succ]
      refine rgy (i := 14) (v := ?_) (atN rfl) (by kernel_rfl) (fun _ _ _ h => h) ?_ ?_ hHeld ?_; rotate_left 1; (· rfl); (· intro w' hSw; have c1 := cell_below c1 hSw; have c2 := cell_below c2 hSw; have c3 := cell_below c3 hSw; (try clear hHeld); go_simp; try with_reducible rfl)
      try simp only [Act.put, List.setIfInBounds_toArray, List.set_cons_zero, List.set_cons_succ]
      refine rgy (i := 15) (v := ?_) (atN rfl) (by kernel_rfl) (fun _ _ _ h => h) ?_ ?_ hHeld ?_; rotate_left 1; (· rfl); (· intro w' hSw; (try clear hHeld); go_simp; try with_reducible rfl)
      try simp only [Act.put, List.setIfInBounds_toArray, List.set_cons_zero, List.set_cons_succ]
      refine rgy (i := 16) (v := ?_) (atN rfl) (by kernel_rfl) (fun _ _ _ h => h) ?_ ?_ hHeld ?_; rotate_left 1; (· rfl); (· intro w' hSw; (try clear hHeld); go_simp; try with_reducible rfl)
      try simp only [Act.put, List.setIfInBounds_toArray, List.set_cons_zero, List.set_cons_succ]
      refine rg_call2 (i := 17) (j := 24) (atS (atS (atS (atS (atS (atS (atS (atS (atS (atS (atS (atS (atS (atS (atS (atS (atS at0))))))))))))))))) (atS (atS (atS (atS (atS (atS (atS (atS (atS (atS (atS (atS (atS (atS (atS (atS (atS (atS (atS (atS (atS (atS (atS (atS at0)))))))))))))))))))))))) (by kernel_rfl) ?_ ?_ (fun K hK => ?_) (fun K hK => ?_)
      · rfl
      · rfl
      · (try clear hb); go_simp; (refine (w_full k _ (C.out.2.1.below hHeld)).mono ?_; rintro e w1 ⟨rfl, hb⟩); (try replace hz := hz.below hb); go_wp2_with fail; refine hK.out _ _ ?_ (fun hHeld => ?_); (· exact hHeld.trans (hb.mono hHeld.size)); clear hK K
        try simp only [Act.put, List.setIfInBounds_toArray, List.set_cons_zero, List.set_cons_succ]
        refine rgy (i := 18) (v := ?_) (atN rfl) (by kernel_rfl) (fun _ _ _ h => h) ?_ ?_ hHeld ?_; rotate_left 1; (· rfl); (· intro w' hSw; (try clear hHeld); go_simp; try with_reducible rfl)
        try simp only [Act.put, List.setIfInBounds_toArray, List.set_cons_zero, List.set_cons_succ]
        refine rgy (i := 19) (v := ?_) (atN rfl) (by kernel_rfl) (fun _ _ _ h => h) ?_ ?_ hHeld ?_; rotate_left 1; (· rfl); (· intro w' hSw; (try clear hHeld); go_simp; try with_reducible rfl)
        try simp only [Act.put, List.setIfInBounds_toArray, List.set_cons_zero, List.set_cons_succ]
        refine rg_call2 (i := 20) (j := 24) (atS (atS (atS (atS (atS (atS (atS (atS (atS (atS (atS (atS (atS (atS (atS (atS (atS (atS (atS (atS at0)))))))))))))))))))) (atS (atS (atS (atS (atS (atS (atS (atS (atS (atS (atS (atS (atS (atS (atS (atS (atS (atS (atS (atS (atS (atS (atS (atS at0)))))))))))))))))))))))) (by kernel_rfl) ?_ ?_ (fun K hK => ?_) (fun K hK => ?_)
        · rfl
        · rfl
        · (try clear hb); go_simp; (refine (HWi.out _ (C.out.2.1.below hHeld)).mono ?_; rintro e w1 ⟨rfl, hb⟩); (try replace hz := hz.below hb); go_wp2_with fail; refine hK.out _ _ ?_ (fun hHeld => ?_); (· exact hHeld.trans (hb.mono hHeld.size)); clear hK K
          try simp only [Act.put, List.setIfInBounds_toArray, List.set_cons_zero, List.set_cons_succ]
          refine rgy (i := 21) (v := ?_) (atN rfl) (by kernel_rfl) (fun _ _ _ h => h) ?_ ?_ hHeld ?_; rotate_left 1; (· rfl); (· intro w' hSw; (try clear hHeld); go_simp; try with_reducible rfl)
          try simp only [Act.put, List.setIfInBounds_toArray, List.set_cons_zero, List.set_cons_succ]
          refine rgy (i := 22) (v := ?_) (atN rfl) (by kernel_rfl) (fun _ _ _ h => h) ?_ ?_ hHeld ?_; rotate_left 1; (· rfl); (· intro w' hSw; (try clear hHeld); go_simp; try with_reducible rfl)
          try simp only [Act.put, List.setIfInBounds_toArray, List.set_cons_zero, List.set_cons_succ]
          refine rgy (i := 23) (v := ?_) (atN rfl) (by kernel_rfl) (fun _ _ _ h => h) ?_ ?_ hHeld ?_; rotate_left 1; (· rfl); (· intro w' hSw; (try clear hHeld); go_simp; try with_reducible rfl)
          try simp only [Act.put, List.setIfInBounds_toArray, List.set_cons_zero, List.set_cons_succ]
          refine rg_call (i := 24) (atN rfl) (by kernel_rfl) ?_ (fun K hK => ?_); (· rfl); (try clear hb); go_simp; (refine box_hd hdr0 (p := K _) ?_); intro w1 hz hb; have hzB := hHeld.size; refine hK.out _ _ ?_ (fun hHeld => ?_); (· exact hHeld.trans (hb.mono hHeld.size)); clear hK K
          try simp only [Act.put, List.setIfInBounds_toArray, List.set_cons_zero, List.set_cons_succ]
          refine rg_call (i := 25) (atN rfl) (by kernel_rfl) ?_ (fun K hK => ?_); (· rfl); (try clear hb); refine wp_store_rowat 31 (.tmp 13) (.tmp 134) rfl _ rfl 31 (hdrC hdr0) (hdrC H2) rfl hz (by kernel_rfl) rfl (hdr_one _) ?_; refine hK.out _ _ ?_ (fun hHeld => ?_); (· exact below_setRow hHeld hzB _); clear hK K
          try simp only [Act.put]
          refine rgy (i := 26) (v := ?_) (atN rfl) (by kernel_rfl) (fun _ _ _ h => h) ?_ ?_ hHeld ?_; rotate_left 1; (· rfl); (· intro w' hSw; (try clear hHeld); go_simp; try with_reducible rfl)
          try simp only [Act.put, List.setIfInBounds_toArray, List.set_cons_zero, List.set_cons_succ]
          refine wpAnyH_done (by kernel_rfl) ?_ _
          have HZ := Lib.hid (hz.row H2)
          have BW2 := Lib.hid (BW.out.below hHeld)
          have C2 := Lib.hid (mem3_below C.out hHeld)
          clear hz hHeld c1 c2 c3 q1 q2 q3 q4 C BW
          have hbf := below_setRow C2.out.1 (g := G) (by omega) (hdrC H2)
          have C3 := Lib.hid (⟨hbf, HT0.out.below hbf, C2.out.2.2.1.otherRow (g := G) (hdrC H2) (by omega), C2.out.2.2.2.1.otherRow (g := G) (hdrC H2) (by omega), C2.out.2.2.2.2.setRow_other (g := G) (hdrC H2) (by omega)⟩ : Mem3 w m n _ _)
          have BW3 := Lib.hid (BW2.out.row H2)
          clear hbf
          go_wp2_with (first | ((with_reducible refine ld_hd (x := .tmp 13) HZ.out ?_ ?_ ?_ ?_); (· rfl); (· rfl); (· rfl)) | (refine st_row rfl 31 _ _ rfl G rfl 31 (hdrC H) (hdrC H2) rfl BW2.out (by kernel_rfl) rfl (hdr_one _) ?_))
          exact ⟨⟨k + 1, by omega, by simp, H2, BW3.out, S2.out, S3.out, C3.out⟩, by simp [intOf]; omega⟩
        · (try clear hb); go_simp; (refine box_hd hdr0 (p := K _) ?_); intro w1 hz hb; have hzB := hHeld.size; refine hK.out _ _ ?_ (fun hHeld => ?_); (· exact hHeld.trans (hb.mono hHeld.size)); clear hK K
          try simp only [Act.put, List.setIfInBounds_toArray, List.set_cons_zero, List.set_cons_succ]
          refine rg_call (i := 20) (atN rfl) (by kernel_rfl) ?_ (fun K hK => ?_); (· rfl); (try clear hb); go_simp; (refine (HWi.out _ (C.out.2.1.below hHeld)).mono ?_; rintro e w1 ⟨rfl, hb⟩); (try replace hz := hz.below hb); go_wp2_with fail; refine hK.out _ _ ?_ (fun hHeld => ?_); (· exact hHeld.trans (hb.mono hHeld.size)); clear hK K
          try simp only [Act.put, List.setIfInBounds_toArray, List.set_cons_zero, List.set_cons_succ]
          refine rgy (i := 21) (v := ?_) (atN rfl) (by kernel_rfl) (fun _ _ _ h => h) ?_ ?_ hHeld ?_; rotate_left 1; (· rfl); (· intro w' hSw; (try clear hHeld); go_simp; try with_reducible rfl)
          try simp only [Act.put, List.setIfInBounds_toArray, List.set_cons_zero, List.set_cons_succ]
          refine rgy (i := 22) (v := ?_) (atN rfl) (by kernel_rfl) (fun _ _ _ h => h) ?_ ?_ hHeld ?_; rotate_left 1; (· rfl); (· intro w' hSw; (try clear hHeld); go_simp; try with_reducible rfl)
          try simp only [Act.put, List.setIfInBounds_toArray, List.set_cons_zero, List.set_cons_succ]
          refine rgy (i := 23) (v := ?_) (atN rfl) (by kernel_rfl) (fun _ _ _ h => h) ?_ ?_ hHeld ?_; rotate_left 1; (· rfl); (· intro w' hSw; (try clear hHeld); go_simp; try with_reducible rfl)
          try simp only [Act.put, List.setIfInBounds_toArray, List.set_cons_zero, List.set_cons_succ]
          refine rg_call (i := 25) (atN rfl) (by kernel_rfl) ?_ (fun K hK => ?_); (· rfl); (try clear hb); refine wp_store_rowat 31 (.tmp 13) (.tmp 134) rfl _ rfl 31 (hdrC hdr0) (hdrC H2) rfl hz (by kernel_rfl) rfl (hdr_one _) ?_; refine hK.out _ _ ?_ (fun hHeld => ?_); (· exact below_setRow hHeld hzB _); clear hK K
          try simp only [Act.put]
          refine rgy (i := 26) (v := ?_) (atN rfl) (by kernel_rfl) (fun _ _ _ h => h) ?_ ?_ hHeld ?_; rotate_left 1; (· rfl); (· intro w' hSw; (try clear hHeld); go_simp; try with_reducible rfl)
          try simp only [Act.put, List.setIfInBounds_toArray, List.set_cons_zero, List.set_cons_succ]
          refine wpAnyH_done (by kernel_rfl) ?_ _
          have HZ := Lib.hid (hz.row H2)
          have BW2 := Lib.hid (BW.out.below hHeld)
          have C2 := Lib.hid (mem3_below C.out hHeld)
          clear hz hHeld c1 c2 c3 q1 q2 q3 q4 C BW
          have hbf := below_setRow C2.out.1 (g := G) (by omega) (hdrC H2)
          have C3 := Lib.hid (⟨hbf, HT0.out.below hbf, C2.out.2.2.1.otherRow (g := G) (hdrC H2) (by omega), C2.out.2.2.2.1.otherRow (g := G) (hdrC H2) (by omega), C2.out.2.2.2.2.setRow_other (g := G) (hdrC H2) (by omega)⟩ : Mem3 w m n _ _)
          have BW3 := Lib.hid (BW2.out.row H2)
          clear hbf
          go_wp2_with (first | ((with_reducible refine ld_hd (x := .tmp 13) HZ.out ?_ ?_ ?_ ?_); (· rfl); (· rfl); (· rfl)) | (refine st_row rfl 31 _ _ rfl G rfl 31 (hdrC H) (hdrC H2) rfl BW2.out (by kernel_rfl) rfl (hdr_one _) ?_))
          exact ⟨⟨k + 1, by omega, by simp, H2, BW3.out, S2.out, S3.out, C3.out⟩, by simp [intOf]; omega⟩
      · (try clear hb); go_simp; (refine box_hd hdr0 (p := K _) ?_); intro w1 hz hb; have hzB := hHeld.size; refine hK.out _ _ ?_ (fun hHeld => ?_); (· exact hHeld.trans (hb.mono hHeld.size)); clear hK K
        try simp only [Act.put, List.setIfInBounds_toArray, List.set_cons_zero, List.set_cons_succ]
        refine rg_call (i := 17) (atN rfl) (by kernel_rfl) ?_ (fun K hK => ?_); (· rfl); (try clear hb); go_simp; (refine (w_full k _ (C.out.2.1.below hHeld)).mono ?_; rintro e w1 ⟨rfl, hb⟩); (try replace hz := hz.below hb); go_wp2_with fail; refine hK.out _ _ ?_ (fun hHeld => ?_); (· exact hHeld.trans (hb.mono hHeld.size)); clear hK K
        try simp only [Act.put, List.setIfInBounds_toArray, List.set_cons_zero, List.set_cons_succ]
        refine rgy (i := 18) (v := ?_) (atN rfl) (by kernel_rfl) (fun _ _ _ h => h) ?_ ?_ hHeld ?_; rotate_left 1; (· rfl); (· intro w' hSw; (try clear hHeld); go_simp; try with_reducible rfl)
        try simp only [Act.put, List.setIfInBounds_toArray, List.set_cons_zero, List.set_cons_succ]
        refine rgy (i := 19) (v := ?_) (atN rfl) (by kernel_rfl) (fun _ _ _ h => h) ?_ ?_ hHeld ?_; rotate_left 1; (· rfl); (· intro w' hSw; (try clear hHeld); go_simp; try with_reducible rfl)
        try simp only [Act.put, List.setIfInBounds_toArray, List.set_cons_zero, List.set_cons_succ]
        refine rg_call (i := 20) (atN rfl) (by kernel_rfl) ?_ (fun K hK => ?_); (· rfl); (try clear hb); go_simp; (refine (HWi.out _ (C.out.2.1.below hHeld)).mono ?_; rintro e w1 ⟨rfl, hb⟩); (try replace hz := hz.below hb); go_wp2_with fail; refine hK.out _ _ ?_ (fun hHeld => ?_); (· exact hHeld.trans (hb.mono hHeld.size)); clear hK K
        try simp only [Act.put, List.setIfInBounds_toArray, List.set_cons_zero, List.set_cons_succ]
        refine rgy (i := 21) (v := ?_) (atN rfl) (by kernel_rfl) (fun _ _ _ h => h) ?_ ?_ hHeld ?_; rotate_left 1; (· rfl); (· intro w' hSw; (try clear hHeld); go_simp; try with_reducible rfl)
        try simp only [Act.put, List.setIfInBounds_toArray, List.set_cons_zero, List.set_cons_succ]
        refine rgy (i := 22) (v := ?_) (atN rfl) (by kernel_rfl) (fun _ _ _ h => h) ?_ ?_ hHeld ?_; rotate_left 1; (· rfl); (· intro w' hSw; (try clear hHeld); go_simp; try with_reducible rfl)
        try simp only [Act.put, List.setIfInBounds_toArray, List.set_cons_zero, List.set_cons_succ]
        refine rgy (i := 23) (v := ?_) (atN rfl) (by kernel_rfl) (fun _ _ _ h => h) ?_ ?_ hHeld ?_; rotate_left 1; (· rfl); (· intro w' hSw; (try clear hHeld); go_simp; try with_reducible rfl)
        try simp only [Act.put, List.setIfInBounds_toArray, List.set_cons_zero, List.set_cons_succ]
        refine rg_call (i := 25) (atN rfl) (by kernel_rfl) ?_ (fun K hK => ?_); (· rfl); (try clear hb); refine wp_store_rowat 31 (.tmp 13) (.tmp 134) rfl _ rfl 31 (hdrC hdr0) (hdrC H2) rfl hz (by kernel_rfl) rfl (hdr_one _) ?_; refine hK.out _ _ ?_ (fun hHeld => ?_); (· exact below_setRow hHeld hzB _); clear hK K
        try simp only [Act.put]
        refine rgy (i := 26) (v := ?_) (atN rfl) (by kernel_rfl) (fun _ _ _ h => h) ?_ ?_ hHeld ?_; rotate_left 1; (· rfl); (· intro w' hSw; (try clear hHeld); go_simp; try with_reducible rfl)
        try simp only [Act.put, List.setIfInBounds_toArray, List.set_cons_zero, List.set_cons_succ]
        refine wpAnyH_done (by kernel_rfl) ?_ _
        have HZ := Lib.hid (hz.row H2)
        have BW2 := Lib.hid (BW.out.below hHeld)
        have C2 := Lib.hid (mem3_below C.out hHeld)
        clear hz hHeld c1 c2 c3 q1 q2 q3 q4 C BW
        have hbf := below_setRow C2.out.1 (g := G) (by omega) (hdrC H2)
        have C3 := Lib.hid (⟨hbf, HT0.out.below hbf, C2.out.2.2.1.otherRow (g := G) (hdrC H2) (by omega), C2.out.2.2.2.1.otherRow (g := G) (hdrC H2) (by omega), C2.out.2.2.2.2.setRow_other (g := G) (hdrC H2) (by omega)⟩ : Mem3 w m n _ _)
        have BW3 := Lib.hid (BW2.out.row H2)
        clear hbf
        go_wp2_with (first | ((with_reducible refine ld_hd (x := .tmp 13) HZ.out ?_ ?_ ?_ ?_); (· rfl); (· rfl); (· rfl)) | (refine st_row rfl 31 _ _ rfl G rfl 31 (hdrC H) (hdrC H2) rfl BW2.out (by kernel_rfl) rfl (hdr_one _) ?_))
        exact ⟨⟨k + 1, by omega, by simp, H2, BW3.out, S2.out, S3.out, C3.out⟩, by simp [intOf]; omega⟩
    · obtain rfl : k = 9 := by omega
      obtain ⟨t1, t2⟩ := wit_end GM.out GN.out H OH.out HJ.out HNO.out
      have HN : Hid (∀ W, Wid W → Calls Tryd.prog 11 #[mtV n, hdrV H] W fun e w' => e = .returned (.bool true) ∧ Below W.heap.size W w') := Lib.hid fun W hT => by have := match_Hits n H W hT OH.out; rwa [t1] at this
      have HM2 : Hid (∀ W, Wid W → Calls Tryd.prog 11 #[mtV m, hdrV H] W fun e w' => e = .returned (.bool false) ∧ Below W.heap.size W w') := Lib.hid fun W hT => by have := match_Hits m H W hT OH.out; rwa [t2] at this
      clear t1 t2
      go_wp2_with (first | ((with_reducible refine ld_mt (x := .tmp 3) C.out.2.2.1 ?_ ?_ ?_ ?_); (· rfl); (· rfl); (· rfl)) | ((with_reducible refine ld_mt (x := .tmp 4) C.out.2.2.2.1 ?_ ?_ ?_ ?_); (· rfl); (· rfl); (· rfl)) | ((with_reducible refine ld_hd (x := .tmp 11) BW.out ?_ ?_ ?_ ?_); (· rfl); (· rfl); (· rfl)))
      refine (HN.out _ C.out.2.1).mono ?_
      rintro e v1 ⟨rfl, hb⟩
      have C' := Lib.hid (mem3_below C.out hb)
      have BW' := Lib.hid (BW.out.below hb)
      clear hb C BW
      have C := C'
      have BW := BW'
      clear C' BW'
      go_wp2_with (first | ((with_reducible refine ld_mt (x := .tmp 3) C.out.2.2.1 ?_ ?_ ?_ ?_); (· rfl); (· rfl); (· rfl)) | ((with_reducible refine ld_mt (x := .tmp 4) C.out.2.2.2.1 ?_ ?_ ?_ ?_); (· rfl); (· rfl); (· rfl)) | ((with_reducible refine ld_hd (x := .tmp 11) BW.out ?_ ?_ ?_ ?_); (· rfl); (· rfl); (· rfl)))
      refine (HM2.out _ C.out.2.1).mono ?_
      rintro e v2 ⟨rfl, hb⟩
      have C' := Lib.hid (mem3_below C.out hb)
      clear hb C BW
      go_wp2_with fail
      go_ret
      exact ⟨rfl, C'.out.1⟩
end Go.Proofs.YtkcikblecinnfaaDoor
