/-
  MatchAnds, walks: not in their form.
-/
import Derived.Test.YtkcikblecinnfaaDoorAnBase
namespace Go.Proofs.YtkcikblecinnfaaDoor
open Go.RowKit
set_option maxRecDepth 100000 in
set_option maxHeartbeats 3200000 in
theorem an_no0 (m n : Mt) (h : Hdr) (w : World) (hT : Wid w)
    (hR1 : ∀ W, Wid W → Calls Tryd.prog 9 #[mtV m] W fun e w' => e = .returned (.bool false) ∧ Below W.heap.size W w') :
    Calls Tryd.prog 6 #[mtV m, mtV n, hdrV h] w fun e w' => e = .returned (.bool true) ∧ Below w.heap.size w w' := by
  have HR1 := Lib.hid hR1
  clear hR1
  obtain ⟨W1, hW1, hM⟩ := mem3_first w m n h hT
  have C := Lib.hid hM
  clear hM hT
  go_enter Tryd.func6, Tryd.ntmps6
  go_wp2_with fail
  rw [← hW1]
  clear hW1
  refine (law_example _ C.out.2.1).mono ?_
  rintro e w2 ⟨rfl, hb⟩
  have C' := Lib.hid (mem3_below C.out hb)
  clear hb C
  have C := C'
  clear C'
  go_wp2_with (first | ((with_reducible refine ld_mt (x := .tmp 3) C.out.2.2.1 ?_ ?_ ?_ ?_); (· rfl); (· rfl); (· rfl)) | ((with_reducible refine ld_mt (x := .tmp 4) C.out.2.2.2.1 ?_ ?_ ?_ ?_); (· rfl); (· rfl); (· rfl)))
  refine (HR1.out _ C.out.2.1).mono ?_
  rintro e w3 ⟨rfl, hb⟩
  have C' := Lib.hid (mem3_below C.out hb)
  clear hb C
  have C := C'
  clear C'
  go_wp2_with (first | ((with_reducible refine ld_mt (x := .tmp 3) C.out.2.2.1 ?_ ?_ ?_ ?_); (· rfl); (· rfl); (· rfl)) | ((with_reducible refine ld_mt (x := .tmp 4) C.out.2.2.2.1 ?_ ?_ ?_ ?_); (· rfl); (· rfl); (· rfl)))
  go_ret
  exact ⟨rfl, C.out.1⟩
set_option maxRecDepth 100000 in
set_option maxHeartbeats 3200000 in
theorem an_no1 (m n : Mt) (h : Hdr) (w : World) (hT : Wid w)
    (hR1 : ∀ W, Wid W → Calls Tryd.prog 9 #[mtV m] W fun e w' => e = .returned (.bool true) ∧ Below W.heap.size W w')
    (hR2 : ∀ W, Wid W → Calls Tryd.prog 9 #[mtV n] W fun e w' => e = .returned (.bool false) ∧ Below W.heap.size W w') :
    Calls Tryd.prog 6 #[mtV m, mtV n, hdrV h] w fun e w' => e = .returned (.bool true) ∧ Below w.heap.size w w' := by
  have HR1 := Lib.hid hR1
  have HR2 := Lib.hid hR2
  clear hR1 hR2
  obtain ⟨W1, hW1, hM⟩ := mem3_first w m n h hT
  have C := Lib.hid hM
  clear hM hT
  go_enter Tryd.func6, Tryd.ntmps6
  go_wp2_with fail
  rw [← hW1]
  clear hW1
  refine (law_example _ C.out.2.1).mono ?_
  rintro e w2 ⟨rfl, hb⟩
  have C' := Lib.hid (mem3_below C.out hb)
  clear hb C
  have C := C'
  clear C'
  go_wp2_with (first | ((with_reducible refine ld_mt (x := .tmp 3) C.out.2.2.1 ?_ ?_ ?_ ?_); (· rfl); (· rfl); (· rfl)) | ((with_reducible refine ld_mt (x := .tmp 4) C.out.2.2.2.1 ?_ ?_ ?_ ?_); (· rfl); (· rfl); (· rfl)))
  refine (HR1.out _ C.out.2.1).mono ?_
  rintro e w3 ⟨rfl, hb⟩
  have C' := Lib.hid (mem3_below C.out hb)
  clear hb C
  have C := C'
  clear C'
  go_wp2_with (first | ((with_reducible refine ld_mt (x := .tmp 3) C.out.2.2.1 ?_ ?_ ?_ ?_); (· rfl); (· rfl); (· rfl)) | ((with_reducible refine ld_mt (x := .tmp 4) C.out.2.2.2.1 ?_ ?_ ?_ ?_); (· rfl); (· rfl); (· rfl)))
  refine (HR2.out _ C.out.2.1).mono ?_
  rintro e w4 ⟨rfl, hb⟩
  have C' := Lib.hid (mem3_below C.out hb)
  clear hb C
  have C := C'
  clear C'
  go_wp2_with (first | ((with_reducible refine ld_mt (x := .tmp 3) C.out.2.2.1 ?_ ?_ ?_ ?_); (· rfl); (· rfl); (· rfl)) | ((with_reducible refine ld_mt (x := .tmp 4) C.out.2.2.2.1 ?_ ?_ ?_ ?_); (· rfl); (· rfl); (· rfl)))
  go_ret
  exact ⟨rfl, C.out.1⟩
end Go.Proofs.YtkcikblecinnfaaDoor
