/-
  ATTRIBUTES: the tables of flags and sizes; an origin taken.
-/
import Derived.Test.YtohkbcdnlmjcjaaDoorA6S
import Derived.Test.YtohkbcdnlmjcjaaDoorAtG
import Derived.Test.YtohkbcdnlmjcjaaDoorMapT
import Derived.Laws.BytesArg
import Derived.Lib.LaidTab
import Derived.Lib.SmallJoins
namespace Go.Proofs.YtohkbcdnlmjcjaaDoor
open Go.RowKit

def flgL : List Int := [0, 64, 64, 64, 128, 64, 64, 192, 192]
def sizL : List Int := [0, 1, -1, 4, 4, 4, 0, 6, -1]
/-- the tables lie in memory as the program's text lays them. -/
structure Tabs (w : World) : Prop where
  flg : Lib.TabIs Tryd.prog w "carrefour/attr.flags" .i64 flgL
  siz : Lib.TabIs Tryd.prog w "carrefour/attr.sizes" .i64 sizL
set_option maxRecDepth 100000 in
theorem gFlg : Tryd.prog.globalNamed "carrefour/attr.flags" = some 0 := by kernel_rfl
set_option maxRecDepth 100000 in
theorem gFlgType : (Tryd.prog.globals[0]?).map (·.type) = some 70 := by kernel_rfl
set_option maxRecDepth 100000 in
theorem gSiz : Tryd.prog.globalNamed "carrefour/attr.sizes" = some 1 := by kernel_rfl
set_option maxRecDepth 100000 in
theorem gSizType : (Tryd.prog.globals[1]?).map (·.type) = some 70 := by kernel_rfl
set_option maxRecDepth 100000 in
theorem cellsArr9 : Tryd.prog.cellsOf 70 = 9 := by kernel_rfl
set_option maxRecDepth 100000 in
theorem cellsInt : Tryd.prog.cellsOf 3 = 1 := by kernel_rfl
set_option maxRecDepth 100000 in
theorem Tabs.flag {w : World} (h : Tabs w) (j : Nat) (hj : j < 9) : w.cell? ⟨0, j, none⟩ = some (.int .i64 (flgL.getD j 0)) := Lib.TabIs.cell h.flg gFlg j (by simpa [flgL] using hj)
set_option maxRecDepth 100000 in
theorem Tabs.size {w : World} (h : Tabs w) (j : Nat) (hj : j < 9) : w.cell? ⟨1, j, none⟩ = some (.int .i64 (sizL.getD j 0)) := Lib.TabIs.cell h.siz gSiz j (by simpa [sizL] using hj)
set_option maxRecDepth 100000 in
theorem Tabs.below {w w' : World} (h : Tabs w) (hb : Below w.heap.size w w') : Tabs w' := ⟨Joins.tab_stays gFlg h.flg hb (Nat.le_refl _), Joins.tab_stays gSiz h.siz hb (Nat.le_refl _)⟩
set_option maxHeartbeats 1600000 in
set_option maxRecDepth 100000 in
theorem set_one (ab : Nat) (v : Value) (xs : List Nat) (C : Array Value) (u : Value) (w : World) (hb : w.heap[ab]? = some (.cells C 28 (0, 0))) (h1 : w.cell? ⟨ab, 1, none⟩ = some u) (h : BytesAt w v xs) (h4 : xs.length ≤ 4) :
    Calls Tryd.prog 63 #[.pointer (some ⟨ab, 0, none⟩), .int .i64 1, v] w fun e w' => e = .returned (.bool true) ∧ w' = w.setCell ⟨ab, 1, none⟩ (.int .i64 (readN xs)) := by
  have RD := Lib.hid (at_read v xs w h h4)
  have f1 := row_free hb 1
  clear hb h
  go_enter Tryd.func63, Tryd.ntmps63
  go_wp2_with fail
  refine RD.out.mono ?_
  rintro e w1 ⟨rfl, rfl⟩
  go_wp2_with fail
  go_ret
  exact ⟨rfl, rfl⟩
/-- the bytes as a string. -/
def strOf (ns : List Int) : ByteArray := ns.foldl (fun r n => r.push (UInt8.ofNat n.toNat)) ByteArray.empty
abbrev fltZ : Array Value := #[.int .i64 0, .int .i64 0, .string ⟨#[]⟩]
set_option maxRecDepth 100000 in
theorem results_take (tmps : Array Value) (W : World) (b : Nat) (C : Array Value) (hC : C.size = 3) (h4 : tmps.getD 6 undef = .pointer (some ⟨b, 0, none⟩)) (hb : W.heap[b]? = some (.cells C 54 (0, 0))) :
    (results Tryd.f43 tmps).run Tryd.prog W = .ok (.agg C) W := results_cell_row Tryd.results43 tmps W b 54 C (0, 0) _ h4 hb Tryd.underlying54 rfl (by rw [hC]; kernel_rfl)
set_option maxHeartbeats 6400000 in
set_option maxRecDepth 100000 in
theorem take_two (ab g o c : Nat) (w : World) (hT : Tabs w) (hb : w.heap[ab]? = some (.cells #[.int .i64 0, .int .i64 0, .slice none 0 0, .int .u32 0, .int .i64 0, .int .i64 0, .int .i64 0, .int .u32 0, .slice none 0 0, .slice none 0 0] 28 (0, 0)))
    (b0 : w.cell? ⟨g, o, none⟩ = some (.int .u8 64)) (b1 : w.cell? ⟨g, o + 1, none⟩ = some (.int .u8 1)) (h : BytesAt w (.slice (some ⟨g, o + 3, none⟩) 1 (c - 3)) [2]) :
    Calls Tryd.prog 43 #[.pointer (some ⟨ab, 0, none⟩), .slice (some ⟨g, o, none⟩) 4 c, .slice (some ⟨g, o + 3, none⟩) 1 (c - 3)] w fun e w' => e = .returned (.agg fltZ) ∧
      w'.heap[ab]? = some (.cells #[.int .i64 2, .int .i64 2, .slice none 0 0, .int .u32 0, .int .i64 0, .int .i64 0, .int .i64 0, .int .u32 0, .slice none 0 0, .slice none 0 0] 28 (0, 0)) ∧ Kept (fun k => k = ab) w w' := by
  have t1 := hT.flag 1 (by decide)
  have t2 := hT.size 1 (by decide)
  have H := Lib.hid h
  have HB := Lib.hid hb
  clear hT h
  go_enter Tryd.func43, Tryd.ntmps43
  go_upto_region 1 with (fail)
  obtain ⟨W0, hW0, qf, hb0, -⟩ : ∃ W0, W0 = w.alloc (.cells fltZ 54) ∧ W0.heap[w.heap.size]? = some (.cells fltZ 54 (0, 0)) ∧ Below w.heap.size w W0 ∧ W0.heap.size = w.heap.size + 1 := ⟨_, rfl, heap_alloc_new w _, (Below.refl _ _).alloc (Nat.le_refl _) _, by simp⟩
  rw [← hW0]
  clear hW0
  have QF := Lib.hid qf
  have QA := Lib.hid ((hb0.block _ (row_lt HB.out)).trans HB.out)
  have B0 := Lib.hid hb0
  have b0 := cell_below b0 hb0
  have b1 := cell_below b1 hb0
  have t1 : W0.cell? ⟨0, 1, none⟩ = some (.int .i64 64) := cell_below t1 hb0
  have t2 : W0.cell? ⟨1, 1, none⟩ = some (.int .i64 1) := cell_below t2 hb0
  have LT : Hid (ab < w.heap.size) := Lib.hid (row_lt HB.out)
  have SO := Lib.hid (set_one ab _ [2] _ _ W0 QA.out (row_cell QA.out 1) (H.out.below hb0) (by decide))
  clear hb qf hb0
  go_wp2_with fail
  refine SO.out.mono ?_
  rintro e w1 ⟨rfl, hw1⟩
  rw [show (readN [2] : Int) = 2 by decide] at hw1
  have QB : Hid (w1.heap[ab]? = some (.cells #[.int .i64 0, .int .i64 2, .slice none 0 0, .int .u32 0, .int .i64 0, .int .i64 0, .int .i64 0, .int .u32 0, .slice none 0 0, .slice none 0 0] 28 (0, 0))) := Lib.hid (by
    rw [hw1]
    have := set_same QA.out 1 (.int .i64 2)
    simpa using this)
  have K1 : Hid (Kept (fun k => k = ab) W0 w1) := Lib.hid (by rw [hw1]; exact Kept.setCell _ _ rfl)
  have QF1 := Lib.hid ((K1.out.block _ (row_lt QF.out) (by have := LT.out; omega)).trans QF.out)
  have GD := Lib.hid (at_good ⟨0, 2, [], 0, 0, 0, 0, 0, [], []⟩ (.slice none 0 0) (.slice none 0 0) (.slice none 0 0) 1 (by decide) (by decide) w1 ⟨SlAt.nil, SlAt.nil, SlAt.nil⟩)
  rw [show goodB ⟨0, 2, [], 0, 0, 0, 0, 0, [], []⟩ 1 = true by decide] at GD
  clear hw1 b0 b1 t1 t2 QA QF SO H HB
  obtain ⟨y0, y1, y2, y3, y4, y5, y6, y7, y8, y9⟩ := at10 QB.out
  go_wp2_with fail
  refine GD.out.mono ?_
  rintro e w2 ⟨rfl, hb2⟩
  have QB2 := Lib.hid ((hb2.block _ (row_lt QB.out)).trans QB.out)
  have QF2 := Lib.hid ((hb2.block _ (row_lt QF1.out)).trans QF1.out)
  have K2 := Lib.hid (K1.out.trans (Kept.of_below hb2))
  clear hb2 QB QF1 K1 GD y0 y1 y2 y3 y4 y5 y6 y7 y8 y9
  have y0 := row_cell QB2.out 0
  have f0 := row_free QB2.out 0
  go_wp2_with fail
  go_region
  obtain ⟨W3, hW3⟩ : ∃ W3, W3 = (w2.setCell ⟨ab, 0, none⟩ (.int .i64 (bits .or .i64 0 2))).drew := ⟨_, rfl⟩
  have KB : Kept (fun k => k = ab) w2 W3 := by rw [hW3]; exact (Kept.setCell (F := fun k => k = ab) ⟨ab, 0, none⟩ _ rfl).drew
  have QB3 : Hid (W3.heap[ab]? = some (.cells #[.int .i64 2, .int .i64 2, .slice none 0 0, .int .u32 0, .int .i64 0, .int .i64 0, .int .i64 0, .int .u32 0, .slice none 0 0, .slice none 0 0] 28 (0, 0))) := Lib.hid (by
    rw [hW3, show bits .or .i64 0 2 = 2 by decide +kernel]
    have := set_same QB2.out 0 (.int .i64 2)
    show (w2.setCell ⟨ab, 0, none⟩ (.int .i64 2)).heap[ab]? = _
    simpa using this)
  have QF3 := Lib.hid ((KB.block _ (row_lt QF2.out) (by have := LT.out; omega)).trans QF2.out)
  have K3 := Lib.hid (K2.out.trans KB)
  rw [← hW3]
  clear hW3 KB y0 f0 QB2 QF2 K2
  go_wp2_with ((with_reducible refine halt_at (X := .store 54 (.tmp 6) (.tmp 114)) ?_ ?_); (· rfl))
  unfold Halt
  refine st_row rfl 54 (.tmp 6) (.tmp 114) rfl w.heap.size rfl 54 fltZ fltZ rfl QF3.out (by kernel_rfl) rfl (by simp [Value.oneCell']) ?_
  go_wp2_with fail
  have KE : Kept (fun k => k = ab) w (W3.setRow w.heap.size fltZ) := by
    have k0 : Kept (fun k => k = ab) w W3 := (Kept.of_below B0.out).trans K3.out
    refine ⟨k0.os, k0.tape, k0.output, Nat.le_trans k0.size (by simp [World.setRow]), fun k hk hf => ?_⟩
    rw [setRow_other _ _ _ _ (by omega)]
    exact k0.block k hk hf
  refine bodyPost_ret (results_take _ _ w.heap.size fltZ rfl ?_ (setRow_heap _ _ _ _ _ _ QF3.out)) rfl ⟨rfl, ?_, KE⟩
  · rfl
  · rw [setRow_other _ _ _ _ (by have := LT.out; omega)]
    exact QB3.out
set_option maxHeartbeats 6400000 in
set_option maxRecDepth 100000 in
theorem take_three (ab g o c : Nat) (w : World) (hT : Tabs w) (hb : w.heap[ab]? = some (.cells #[.int .i64 0, .int .i64 0, .slice none 0 0, .int .u32 0, .int .i64 0, .int .i64 0, .int .i64 0, .int .u32 0, .slice none 0 0, .slice none 0 0] 28 (0, 0)))
    (b0 : w.cell? ⟨g, o, none⟩ = some (.int .u8 64)) (b1 : w.cell? ⟨g, o + 1, none⟩ = some (.int .u8 1)) (b2 : w.cell? ⟨g, o + 2, none⟩ = some (.int .u8 1)) (b3 : w.cell? ⟨g, o + 3, none⟩ = some (.int .u8 3)) (h : BytesAt w (.slice (some ⟨g, o + 3, none⟩) 1 (c - 3)) [3]) (hg : g ≠ ab) :
    Calls Tryd.prog 43 #[.pointer (some ⟨ab, 0, none⟩), .slice (some ⟨g, o, none⟩) 4 c, .slice (some ⟨g, o + 3, none⟩) 1 (c - 3)] w fun e w' => (∃ s, e = .returned (.agg #[.int .i64 3, .int .i64 6, .string s])) ∧ Kept (fun k => k = ab) w w' := by
  have t1 := hT.flag 1 (by decide)
  have t2 := hT.size 1 (by decide)
  have H := Lib.hid h
  have HB := Lib.hid hb
  clear hT h
  go_enter Tryd.func43, Tryd.ntmps43
  go_upto_region 1 with (fail)
  obtain ⟨W0, hW0, qf, hb0, -⟩ : ∃ W0, W0 = w.alloc (.cells fltZ 54) ∧ W0.heap[w.heap.size]? = some (.cells fltZ 54 (0, 0)) ∧ Below w.heap.size w W0 ∧ W0.heap.size = w.heap.size + 1 := ⟨_, rfl, heap_alloc_new w _, (Below.refl _ _).alloc (Nat.le_refl _) _, by simp⟩
  rw [← hW0]
  clear hW0
  have QF := Lib.hid qf
  have QA := Lib.hid ((hb0.block _ (row_lt HB.out)).trans HB.out)
  have B0 := Lib.hid hb0
  have b0 := cell_below b0 hb0
  have b1 := cell_below b1 hb0
  have b2 := cell_below b2 hb0
  have b3 := cell_below b3 hb0
  have t1 : W0.cell? ⟨0, 1, none⟩ = some (.int .i64 64) := cell_below t1 hb0
  have t2 : W0.cell? ⟨1, 1, none⟩ = some (.int .i64 1) := cell_below t2 hb0
  have LT : Hid (ab < w.heap.size) := Lib.hid (row_lt HB.out)
  have SO := Lib.hid (set_one ab _ [3] _ _ W0 QA.out (row_cell QA.out 1) (H.out.below hb0) (by decide))
  clear hb qf hb0
  go_wp2_with fail
  refine SO.out.mono ?_
  rintro e w1 ⟨rfl, hw1⟩
  rw [show (readN [3] : Int) = 3 by decide] at hw1
  have QB : Hid (w1.heap[ab]? = some (.cells #[.int .i64 0, .int .i64 3, .slice none 0 0, .int .u32 0, .int .i64 0, .int .i64 0, .int .i64 0, .int .u32 0, .slice none 0 0, .slice none 0 0] 28 (0, 0))) := Lib.hid (by
    rw [hw1]
    have := set_same QA.out 1 (.int .i64 3)
    simpa using this)
  have K1 : Hid (Kept (fun k => k = ab) W0 w1) := Lib.hid (by rw [hw1]; exact Kept.setCell _ _ rfl)
  have QF1 := Lib.hid ((K1.out.block _ (row_lt QF.out) (by have := LT.out; omega)).trans QF.out)
  have GD := Lib.hid (at_good ⟨0, 3, [], 0, 0, 0, 0, 0, [], []⟩ (.slice none 0 0) (.slice none 0 0) (.slice none 0 0) 1 (by decide) (by decide) w1 ⟨SlAt.nil, SlAt.nil, SlAt.nil⟩)
  rw [show goodB ⟨0, 3, [], 0, 0, 0, 0, 0, [], []⟩ 1 = false by decide] at GD
  have b0 := K1.out.cell b0 hg
  have b1 := K1.out.cell b1 hg
  have b2 := K1.out.cell b2 hg
  have b3 := K1.out.cell b3 hg
  clear hw1 t1 t2 QA QF SO H HB
  obtain ⟨y0, y1, y2, y3, y4, y5, y6, y7, y8, y9⟩ := at10 QB.out
  go_wp2_with fail
  refine GD.out.mono ?_
  rintro e w2 ⟨rfl, hb2⟩
  have QF2 := Lib.hid ((hb2.block _ (row_lt QF1.out)).trans QF1.out)
  have K2 := Lib.hid (K1.out.trans (Kept.of_below hb2))
  have b0 := cell_below b0 hb2
  have b1 := cell_below b1 hb2
  have b2 := cell_below b2 hb2
  have b3 := cell_below b3 hb2
  clear hb2 QB QF1 K1 GD y0 y1 y2 y3 y4 y5 y6 y7 y8 y9
  obtain ⟨st, CV⟩ : ∃ st, (convert 38 9 (.slice (some ⟨g, o, none⟩) 4 c)).run Tryd.prog w2 = .ok (.string st) w2 := ⟨_, run_convert_bytes_arg (P := Tryd.prog) w2 38 5 Tryd.underlying38 Tryd.underlying5 g o 4 c [64, 1, 1, 3] rfl (fun i hi => by
    have : i = 0 ∨ i = 1 ∨ i = 2 ∨ i = 3 := by omega
    rcases this with rfl | rfl | rfl | rfl
    · exact b0
    · exact b1
    · exact b2
    · exact b3) 9 Tryd.underlying9⟩
  clear b0 b1 b2 b3
  go_wp2_with ((with_reducible refine halt_at (X := .store 54 (.tmp 6) (.tmp 91)) ?_ ?_); (· rfl))
  unfold Halt
  refine st_row rfl 54 (.tmp 6) (.tmp 91) rfl w.heap.size rfl 54 fltZ #[.int .i64 3, .int .i64 6, .string st] rfl QF2.out (by kernel_rfl) rfl (by simp [Value.oneCell']) ?_
  go_wp2_with fail
  have KE : Kept (fun k => k = ab) w (w2.setRow w.heap.size #[.int .i64 3, .int .i64 6, .string st]) := by
    have k0 : Kept (fun k => k = ab) w w2 := (Kept.of_below B0.out).trans K2.out
    refine ⟨k0.os, k0.tape, k0.output, Nat.le_trans k0.size (by simp [World.setRow]), fun k hk hf => ?_⟩
    rw [setRow_other _ _ _ _ (by omega)]
    exact k0.block k hk hf
  refine bodyPost_ret (results_take _ _ w.heap.size #[.int .i64 3, .int .i64 6, .string st] rfl ?_ (setRow_heap _ _ _ _ _ _ QF2.out)) rfl ⟨⟨st, rfl⟩, KE⟩
  · rfl
end Go.Proofs.YtohkbcdnlmjcjaaDoor
