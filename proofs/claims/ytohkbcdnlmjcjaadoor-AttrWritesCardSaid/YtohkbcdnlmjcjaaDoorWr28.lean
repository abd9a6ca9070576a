/- Texts of one proof, one behind another. -/
import Derived.Test.YtohkbcdnlmjcjaaDoorWr15
import Derived.Test.YtohkbcdnlmjcjaaDoorWr9
/-
  ATTRIBUTES: the document's example.
-/
namespace Go.Proofs.YtohkbcdnlmjcjaaDoor
open Go.RowKit

set_option maxRecDepth 100000 in
theorem lit_bytes {w : World} {g : Nat} {T : TypeId} {C : List Nat} (q : w.heap[g]? = some (.cells (C.map fun (x : Nat) => Value.int .u8 (x : Int)).toArray T (0, 0))) (hC : ∀ x ∈ C, x < 256) (hl : C.length ≤ maxLen) : BytesAt w (.slice (some ⟨g, 0, none⟩) C.length C.length) C := by
  refine ⟨_, _, rfl, Nat.le_refl _, hl, fun _ => ⟨g, 0, rfl, fun i x hx => ⟨[.int .u8 x], rfl, ⟨rfl, hC x (List.mem_of_getElem? hx)⟩, fun j c hc => ?_⟩⟩⟩
  match j, hc with
  | 0, hc =>
    simp at hc; subst hc
    rw [row_cell q]
    simp [hx]
  | j + 1, hc => simp at hc
set_option maxRecDepth 100000 in
theorem flt_eql (w : World) : (binOp .eql 54 (.agg fltZ) (.agg fltZ)).run Tryd.prog w = .ok (.bool true) w := by kernel_rfl
set_option maxRecDepth 100000 in
theorem box_more (w : World) (C : Array Value) (T : TypeId) (Z : Array Value) (U : TypeId) : ∃ W0, W0 = (w.alloc (.cells C T)).alloc (.cells Z U) ∧ W0.heap[w.heap.size]? = some (.cells C T (0, 0)) ∧ W0.heap[w.heap.size + 1]? = some (.cells Z U (0, 0)) ∧ Below w.heap.size w W0 := boxTwo w C T Z U
set_option maxHeartbeats 6400000 in
set_option maxRecDepth 100000 in
theorem law_head (w : World) (hT : Tabs w) : Calls Tryd.prog 7 #[] w fun e w' => e = .returned (.bool true) ∧ Below w.heap.size w w' := by
  have HT := Lib.hid hT
  clear hT
  go_enter Tryd.func7, Tryd.ntmps7
  go_wp2_with fail
  obtain ⟨W1, hW1, q1, hb1, hs1⟩ := box1 w #[.int .u8 64, .int .u8 1, .int .u8 1, .int .u8 2] 5
  rw [← hW1]
  clear hW1
  have I1 : BytesAt W1 (.slice (some ⟨w.heap.size, 0, none⟩) 4 4) [64, 1, 1, 2] := lit_bytes (C := [64, 1, 1, 2]) q1 (by decide) (by decide)
  have B1 := Lib.hid hb1
  refine (dec_two w.heap.size W1 (HT.out.below hb1) (by omega) I1).mono ?_
  rintro e w2 ⟨rfl, hb2⟩
  have B2 := Lib.hid (below_on B1.out hb2)
  clear q1 hb1 hs1 I1 hb2 B1
  go_upto_region 2 with (fail)
  obtain ⟨W3, hW3, qa, qf, hb3⟩ := box_more w2 at22 28 fltZ 54
  rw [← hW3]
  clear hW3
  have B3 := Lib.hid (below_on B2.out hb3)
  have QA := Lib.hid qa
  have QF := Lib.hid qf
  clear qa qf hb3 B2
  generalize w2.heap.size = ab at QA QF ⊢
  go_wp2_with fail
  obtain ⟨W4, hW4, q4, hb4, hs4⟩ := box1 W3 #[.int .u8 64, .int .u8 1, .int .u8 1, .int .u8 3] 5
  rw [← hW4]
  clear hW4
  have I4 : BytesAt W4 (.slice (some ⟨W3.heap.size, 0, none⟩) 4 4) [64, 1, 1, 3] := lit_bytes (C := [64, 1, 1, 3]) q4 (by decide) (by decide)
  have B4 := Lib.hid (below_on B3.out hb4)
  have QA4 := Lib.hid ((hb4.block _ (row_lt QA.out)).trans QA.out)
  have QF4 := Lib.hid ((hb4.block _ (row_lt QF.out)).trans QF.out)
  refine (dec_three W3.heap.size W4 (HT.out.below B4.out) (by omega) I4).mono ?_
  rintro e w5 ⟨⟨st, rfl⟩, hb5⟩
  have B5 := Lib.hid (below_on B4.out hb5)
  have QA5 := Lib.hid ((hb5.block _ (row_lt QA4.out)).trans QA4.out)
  have QF5 := Lib.hid ((hb5.block _ (row_lt QF4.out)).trans QF4.out)
  clear q4 hb4 hs4 I4 hb5 B4 QA QF QA4 QF4 B3
  go_upto_region 3 with (fail)
  obtain ⟨W6, hW6, qg, qh, hb6⟩ := box_more w5 atZ6 28 #[.int .i64 3, .int .i64 6, .string st] 54
  rw [← hW6]
  clear hW6
  have B6 := Lib.hid (below_on B5.out hb6)
  have QA6 := Lib.hid ((hb6.block _ (row_lt QA5.out)).trans QA5.out)
  have QF6 := Lib.hid ((hb6.block _ (row_lt QF5.out)).trans QF5.out)
  have QH := Lib.hid qh
  clear qg qh hb6 B5 QA5 QF5
  generalize w5.heap.size = gb at QH ⊢
  obtain ⟨y0, y1, y2, y3, y4, y5, y6, y7, y8, y9⟩ := at10 QA6.out
  have f0 := row_cell QF6.out 0
  have f1 := row_cell QF6.out 1
  have f2 := row_cell QF6.out 2
  have EQ := flt_eql W6
  have IS := Lib.hid (at_Is 2 (.int .i64 2) (.slice none 0 0) (.int .u32 0) (.int .i64 0) (.int .i64 0) (.int .i64 0) (.int .u32 0) (.slice none 0 0) (.slice none 0 0) 1 W6)
  rw [show isB 2 1 = true by decide +kernel] at IS
  go_wp2_with fail
  refine IS.out.mono ?_
  rintro e w7 ⟨rfl, hb7⟩
  have y1 := cell_below y1 hb7
  have h0 := cell_below (row_cell QH.out 0) hb7
  have h1 := cell_below (row_cell QH.out 1) hb7
  have B7 := Lib.hid (below_on B6.out hb7)
  clear hb7 y0 y2 y3 y4 y5 y6 y7 y8 y9 f0 f1 f2 EQ IS
  replace h0 : w7.cell? ⟨gb + 1, 0, none⟩ = some (.int .i64 3) := h0
  replace h1 : w7.cell? ⟨gb + 1, 1, none⟩ = some (.int .i64 6) := h1
  go_wp2_with fail
  go_ret
  exact ⟨rfl, B7.out⟩
end Go.Proofs.YtohkbcdnlmjcjaaDoor
