/-
  SETS OF PREFIXES: Or, And, Less; the statements' make2.
-/
import Derived.Test.YtaafeekkllomhaaPsM
namespace Go.Proofs.Ytaafeekkllomhaa
open Go.RowKit

theorem boxC3 (w : World) (C : Array Value) (T : TypeId) (Z : Array Value) (U : TypeId) (Y : Array Value) (V : TypeId) : ∃ W0, W0 = ((w.alloc (.cells C T)).alloc (.cells Z U)).alloc (.cells Y V) ∧ W0.heap[w.heap.size]? = some (.cells C T (0, 0)) ∧ W0.heap[w.heap.size + 1]? = some (.cells Z U (0, 0)) ∧ W0.heap[w.heap.size + 2]? = some (.cells Y V (0, 0)) ∧ Below w.heap.size w W0 := by
  obtain ⟨W1, hW1, q0, q1, hB⟩ := boxCC w C T Z U
  obtain ⟨W2, hW2, q2, hB2, -⟩ := boxC W1 Y V
  have hs : W1.heap.size = w.heap.size + 2 := by rw [hW1]; simp
  refine ⟨W2, by rw [hW2, hW1], (hB2.block _ (row_lt q0)).trans q0, (hB2.block _ (row_lt q1)).trans q1, by rw [← hs]; exact q2, below_on hB hB2⟩
abbrev orL (xs ys : List Pf) : List Pf := mrg (fun a b => a || b) xs ys
def orE (xs ys : List Pf) : Int := if 4096 < (orL xs ys).length then 3 else 0
def orR (xs ys : List Pf) : List Pf := if 4096 < (orL xs ys).length then [] else orL xs ys
def OrPost (xs ys : List Pf) (w : World) (e : Ending) (w' : World) : Prop := ∃ v', e = .returned (.tuple #[.agg #[v'], .int .i64 (orE xs ys)]) ∧ PsAt w' v' (orR xs ys) ∧ Below w.heap.size w w'
set_option maxHeartbeats 3200000 in
set_option maxRecDepth 100000 in
theorem ps_Or (v u : Value) (xs ys : List Pf) (w : World) (h : PsAt w v xs) (k : PsAt w u ys) (hs : Srt xs) (ht : Srt ys) (hn : xs.length + ys.length ≤ 1073741824) :
    Calls Try.prog 27 #[.agg #[v], .agg #[u]] w (OrPost xs ys w) := by
  have HA := Lib.hid h
  have HK := Lib.hid k
  have HS := Lib.hid hs
  have HT := Lib.hid ht
  clear hs ht
  obtain ⟨sa, cap, rfl, -⟩ := h
  obtain ⟨sb, cap2, rfl, -⟩ := k
  go_enter Try.func27, Try.ntmps27
  go_upto_region 1 with (fail)
  obtain ⟨W0, hW0, q0, q1, q2, hB⟩ := boxC3 w #[.slice sa xs.length cap] 26 #[.slice sb ys.length cap2] 26 #[.slice none 0 0] 26
  rw [← hW0]
  clear hW0
  have c0 : W0.cell? ⟨w.heap.size, 0, none⟩ = some (.slice sa xs.length cap) := row_cell q0 0
  have c1 : W0.cell? ⟨w.heap.size + 1, 0, none⟩ = some (.slice sb ys.length cap2) := row_cell q1 0
  have R0 : Hid (W0.cell? ⟨w.heap.size + 2, 0, none⟩ = some (.slice none 0 0)) := Lib.hid (row_cell q2 0)
  have F0 : Hid (W0.frozen? ⟨w.heap.size + 2, 0, none⟩ = false) := Lib.hid (row_free q2 0)
  have MC := Lib.hid (ps_merge 49 (fun a b => a || b) keep_Or enter_Or _ _ xs ys W0 (HA.out.below hB) (HK.out.below hB) HS.out HT.out hn)
  have HB := Lib.hid hB
  clear q0 q1 q2 hB
  go_wp2_with fail
  refine MC.out.mono ?_
  rintro e w2 ⟨v2, rfl, o2, hb2⟩
  have r0 := cell_below R0.out hb2
  have f0 := frozen_below (size_lt R0.out) F0.out hb2
  have B2 := Lib.hid (below_on HB.out hb2)
  have LT := Lib.hid (size_lt R0.out)
  have O2 := Lib.hid o2
  clear hb2 c0 c1 MC
  have hlm : (orL xs ys).length ≤ 1073741824 := Nat.le_trans (mrg_len _ xs ys) hn
  by_cases hL : 4096 < (orL xs ys).length
  · have EE : Hid (orE xs ys = 3 ∧ orR xs ys = []) := Lib.hid ⟨by unfold orE; rw [if_pos hL], by unfold orR; rw [if_pos hL]⟩
    have j1 : decide (((orL xs ys).length : Int) > 4096) = true := by simp; omega
    rcases own_slice O2.out.1 with ⟨rfl, h0⟩ | ⟨g, c, rfl⟩
    · have h1 : (orL xs ys).length = 0 := h0
      omega
    · clear o2
      go_wp2_with fail
      refine bodyPost_ret (v := .tuple #[.agg #[.slice none 0 0], .int .i64 3]) (by simp [results, Try.results27, go_sem, r0]) rfl ⟨_, by rw [EE.out.1], by rw [EE.out.2]; exact SlAt.nil, B2.out.setCell (by show w.heap.size ≤ w.heap.size + 2; omega) _⟩
  · have EE : Hid (orE xs ys = 0 ∧ orR xs ys = orL xs ys) := Lib.hid ⟨by unfold orE; rw [if_neg hL], by unfold orR; rw [if_neg hL]⟩
    have j1 : decide (((orL xs ys).length : Int) > 4096) = false := by simp; omega
    rcases own_slice O2.out.1 with ⟨rfl, h0⟩ | ⟨g, c, rfl⟩
    · clear o2
      have j2 : decide ((0 : Int) > 4096) = false := by decide
      go_wp2_with fail
      refine bodyPost_ret (v := .tuple #[.agg #[.slice none 0 0], .int .i64 0]) (by simp [results, Try.results27, go_sem, r0]) rfl ⟨_, by rw [EE.out.1], by rw [EE.out.2]; exact (O2.out.setElder LT.out (Nat.le_refl _) _).at, B2.out.setCell (by show w.heap.size ≤ w.heap.size + 2; omega) _⟩
    · clear o2
      go_wp2_with fail
      refine bodyPost_ret (v := .tuple #[.agg #[.slice (some ⟨g, 0, none⟩) (orL xs ys).length c], .int .i64 0]) (by simp [results, Try.results27, go_sem, r0]) rfl ⟨_, by rw [EE.out.1], by rw [EE.out.2]; exact (O2.out.setElder LT.out (Nat.le_refl _) _).at, B2.out.setCell (by show w.heap.size ≤ w.heap.size + 2; omega) _⟩
abbrev andL (xs ys : List Pf) : List Pf := mrg (fun a b => a && b) xs ys
set_option maxHeartbeats 3200000 in
set_option maxRecDepth 100000 in
theorem ps_And (v u : Value) (xs ys : List Pf) (w : World) (h : PsAt w v xs) (k : PsAt w u ys) (hs : Srt xs) (ht : Srt ys) (hn : xs.length + ys.length ≤ 1073741824) :
    Calls Try.prog 28 #[.agg #[v], .agg #[u]] w (fun e w' => ∃ v', e = .returned (.agg #[v']) ∧ PsAt w' v' (andL xs ys) ∧ Below w.heap.size w w') := by
  have HA := Lib.hid h
  have HK := Lib.hid k
  have HS := Lib.hid hs
  have HT := Lib.hid ht
  clear hs ht
  obtain ⟨sa, cap, rfl, -⟩ := h
  obtain ⟨sb, cap2, rfl, -⟩ := k
  go_enter Try.func28, Try.ntmps28
  go_upto_region 1 with (fail)
  obtain ⟨W0, hW0, q0, q1, q2, hB⟩ := boxC3 w #[.slice sa xs.length cap] 26 #[.slice sb ys.length cap2] 26 #[.slice none 0 0] 26
  rw [← hW0]
  clear hW0
  have c0 : W0.cell? ⟨w.heap.size, 0, none⟩ = some (.slice sa xs.length cap) := row_cell q0 0
  have c1 : W0.cell? ⟨w.heap.size + 1, 0, none⟩ = some (.slice sb ys.length cap2) := row_cell q1 0
  have R0 : Hid (W0.cell? ⟨w.heap.size + 2, 0, none⟩ = some (.slice none 0 0)) := Lib.hid (row_cell q2 0)
  have F0 : Hid (W0.frozen? ⟨w.heap.size + 2, 0, none⟩ = false) := Lib.hid (row_free q2 0)
  have MC := Lib.hid (ps_merge 50 (fun a b => a && b) keep_And enter_And _ _ xs ys W0 (HA.out.below hB) (HK.out.below hB) HS.out HT.out hn)
  have HB := Lib.hid hB
  clear q0 q1 q2 hB
  go_wp2_with fail
  refine MC.out.mono ?_
  rintro e w2 ⟨v2, rfl, o2, hb2⟩
  have r0 := cell_below R0.out hb2
  have f0 := frozen_below (size_lt R0.out) F0.out hb2
  have B2 := Lib.hid (below_on HB.out hb2)
  have LT := Lib.hid (size_lt R0.out)
  have O2 := Lib.hid o2
  clear hb2 c0 c1 MC
  rcases own_slice O2.out.1 with ⟨rfl, h0⟩ | ⟨g, c, rfl⟩
  · clear o2
    go_wp2_with fail
    refine bodyPost_ret (v := .agg #[.slice none 0 0]) (by simp [results, Try.results28, go_sem, r0]) rfl ⟨_, rfl, (O2.out.setElder LT.out (Nat.le_refl _) _).at, B2.out.setCell (by show w.heap.size ≤ w.heap.size + 2; omega) _⟩
  · clear o2
    go_wp2_with fail
    refine bodyPost_ret (v := .agg #[.slice (some ⟨g, 0, none⟩) (andL xs ys).length c]) (by simp [results, Try.results28, go_sem, r0]) rfl ⟨_, rfl, (O2.out.setElder LT.out (Nat.le_refl _) _).at, B2.out.setCell (by show w.heap.size ≤ w.heap.size + 2; omega) _⟩
abbrev lessL (xs ys : List Pf) : List Pf := mrg (fun a b => a && !b) xs ys
set_option maxHeartbeats 3200000 in
set_option maxRecDepth 100000 in
theorem ps_Less (v u : Value) (xs ys : List Pf) (w : World) (h : PsAt w v xs) (k : PsAt w u ys) (hs : Srt xs) (ht : Srt ys) (hn : xs.length + ys.length ≤ 1073741824) :
    Calls Try.prog 29 #[.agg #[v], .agg #[u]] w (fun e w' => ∃ v', e = .returned (.agg #[v']) ∧ PsAt w' v' (lessL xs ys) ∧ Below w.heap.size w w') := by
  have HA := Lib.hid h
  have HK := Lib.hid k
  have HS := Lib.hid hs
  have HT := Lib.hid ht
  clear hs ht
  obtain ⟨sa, cap, rfl, -⟩ := h
  obtain ⟨sb, cap2, rfl, -⟩ := k
  go_enter Try.func29, Try.ntmps29
  go_upto_region 1 with (fail)
  obtain ⟨W0, hW0, q0, q1, q2, hB⟩ := boxC3 w #[.slice sa xs.length cap] 26 #[.slice sb ys.length cap2] 26 #[.slice none 0 0] 26
  rw [← hW0]
  clear hW0
  have c0 : W0.cell? ⟨w.heap.size, 0, none⟩ = some (.slice sa xs.length cap) := row_cell q0 0
  have c1 : W0.cell? ⟨w.heap.size + 1, 0, none⟩ = some (.slice sb ys.length cap2) := row_cell q1 0
  have R0 : Hid (W0.cell? ⟨w.heap.size + 2, 0, none⟩ = some (.slice none 0 0)) := Lib.hid (row_cell q2 0)
  have F0 : Hid (W0.frozen? ⟨w.heap.size + 2, 0, none⟩ = false) := Lib.hid (row_free q2 0)
  have MC := Lib.hid (ps_merge 51 (fun a b => a && !b) keep_Less enter_Less _ _ xs ys W0 (HA.out.below hB) (HK.out.below hB) HS.out HT.out hn)
  have HB := Lib.hid hB
  clear q0 q1 q2 hB
  go_wp2_with fail
  refine MC.out.mono ?_
  rintro e w2 ⟨v2, rfl, o2, hb2⟩
  have r0 := cell_below R0.out hb2
  have f0 := frozen_below (size_lt R0.out) F0.out hb2
  have B2 := Lib.hid (below_on HB.out hb2)
  have LT := Lib.hid (size_lt R0.out)
  have O2 := Lib.hid o2
  clear hb2 c0 c1 MC
  rcases own_slice O2.out.1 with ⟨rfl, h0⟩ | ⟨g, c, rfl⟩
  · clear o2
    go_wp2_with fail
    refine bodyPost_ret (v := .agg #[.slice none 0 0]) (by simp [results, Try.results29, go_sem, r0]) rfl ⟨_, rfl, (O2.out.setElder LT.out (Nat.le_refl _) _).at, B2.out.setCell (by show w.heap.size ≤ w.heap.size + 2; omega) _⟩
  · clear o2
    go_wp2_with fail
    refine bodyPost_ret (v := .agg #[.slice (some ⟨g, 0, none⟩) (lessL xs ys).length c]) (by simp [results, Try.results29, go_sem, r0]) rfl ⟨_, rfl, (O2.out.setElder LT.out (Nat.le_refl _) _).at, B2.out.setCell (by show w.heap.size ≤ w.heap.size + 2; omega) _⟩
end Go.Proofs.Ytaafeekkllomhaa
