/-
  A HEADER WITH A NUMBER IN A FIELD: With.
-/
import Derived.Test.YtkcikblecinnfaaDoorHdr
import Derived.Laws.Tables
import Derived.Laws.CopyOwn
import Derived.Deep.Heap
namespace Go.Proofs.YtkcikblecinnfaaDoor
open Go.RowKit

abbrev hdr0 : Hdr := ⟨0, 0, 0, 0, 0, 0, 0, 0, 0, 0, 0, 0, 0, 0, 0, 0, 0, 0, 0⟩
/-- the header with n in the field f. -/
def setH (h : Hdr) (f n : Int) : Hdr :=
  if f = 0 then { h with port := n }
  else if f = 1 then { h with s0 := byteI n 0, s1 := byteI n 1, s2 := byteI n 2, s3 := byteI n 3, s4 := byteI n 4, s5 := byteI n 5 }
  else if f = 2 then { h with d0 := byteI n 0, d1 := byteI n 1, d2 := byteI n 2, d3 := byteI n 3, d4 := byteI n 4, d5 := byteI n 5 }
  else if f = 3 then { h with ty := n }
  else if f = 4 then { h with sip := n }
  else if f = 5 then { h with dip := n }
  else if f = 6 then { h with proto := n }
  else if f = 7 then { h with sp := n }
  else if f = 8 then { h with dp := n }
  else h
def withOk (f n : Int) : Bool := decide (0 ≤ f) && (decide (f < 9) && decide (n ≤ fullI f))
def withH (h : Hdr) (f n : Int) : Hdr := if withOk f n then setH h f n else hdr0

theorem wpList_store_row {P : Program} {ops : Array Oper} {rest : List Oper} {o : Oper} {a : Act} {w : World} {Q : Exit → Act → World → Prop} (hgd : o.guard = none) (ty : TypeId) (x y : Operand) (ho : o.op = .store ty x y)
    (g : Nat) (hx : a.eval x = .pointer (some ⟨g, 0, none⟩)) (t : TypeId) (old cs : Array Value) (hy : a.eval y = .agg cs) (hg : w.heap[g]? = some (.cells old t (0, 0))) (hi : (P.info? ty).map (·.size) = some cs.size) (hs : old.size = cs.size) (h1 : cs.all (·.oneCell') = true)
    (h : wpList P ops Q rest (a.put o.dst undef) (w.setRow g cs)) : wpList P ops Q (o :: rest) a w :=
  wpList_plain hgd fun _ hK => by
    unfold Oper.wp execOp
    simp only [ho, hx, hy, Instr.storeAt, Instr.sureAddr, Sem.run_bind, Sem.run_pure, Result.andThen_ok, run_storeVar_row w g t ty old cs hg hi hs h1]
    exact hK _ _ h
theorem below_cell {B : Nat} {w W : World} (h : Below B w W) (b i : Nat) (hb : B ≤ b) (v : Value) : Below B w (W.setCell ⟨b, i, none⟩ v) := h.setCell hb v
theorem row_set {W : World} {b : Nat} {c : Array Value} {t : TypeId} (hb : W.heap[b]? = some (.cells c t (0, 0))) (i : Nat) (v : Value) : (W.setCell ⟨b, i, none⟩ v).heap[b]? = some (.cells (c.setIfInBounds i v) t (0, 0)) := by
  rw [setCell_eq_setRow W b i _ _ _ v hb]; exact setRow_heap W b _ _ _ _ hb
theorem row_other {W : World} {b : Nat} {o : Obj} (hb : W.heap[b]? = some o) (g i : Nat) (v : Value) (hne : b ≠ g) : (W.setCell ⟨g, i, none⟩ v).heap[b]? = some o := by
  rw [Deep.blk_setCell_other W ⟨g, i, none⟩ v b hne]; exact hb
theorem set6_1 (h : Hdr) (n : Int) : ((((((hdrC h).setIfInBounds 1 (.int .u8 (byteI n 0))).setIfInBounds 2 (.int .u8 (byteI n 1))).setIfInBounds 3 (.int .u8 (byteI n 2))).setIfInBounds 4 (.int .u8 (byteI n 3))).setIfInBounds 5 (.int .u8 (byteI n 4))).setIfInBounds 6 (.int .u8 (byteI n 5)) = hdrC (setH h 1 n) := rfl
theorem set6_2 (h : Hdr) (n : Int) : ((((((hdrC h).setIfInBounds 7 (.int .u8 (byteI n 0))).setIfInBounds 8 (.int .u8 (byteI n 1))).setIfInBounds 9 (.int .u8 (byteI n 2))).setIfInBounds 10 (.int .u8 (byteI n 3))).setIfInBounds 11 (.int .u8 (byteI n 4))).setIfInBounds 12 (.int .u8 (byteI n 5)) = hdrC (setH h 2 n) := rfl
theorem HBox.of {W : World} {b : Nat} {c : Array Value} {h : Hdr} (e : c = hdrC h) (hb : W.heap[b]? = some (.cells c 31 (0, 0))) : HBox W b h := by subst e; exact hb
/-- the walk stops where it comes to the load of x. -/
def Stop (p : Prop) : Prop := p
theorem stop_load {P : Program} {ops : Array Oper} {rest : List Oper} {o : Oper} {a : Act} {w : World} {Q : Exit → Act → World → Prop} {ty : TypeId} {x : Operand} (_ho : o.op = .load ty x) (h : Stop (wpList P ops Q (o :: rest) a w)) : wpList P ops Q (o :: rest) a w := h
theorem wpList_load_at {P : Program} {ops : Array Oper} {rest : List Oper} {o : Oper} {a : Act} {w : World} {Q : Exit → Act → World → Prop} (hgd : Region.wanted o (yielded ops a.tmps) = true) (ty : TypeId) (x : Operand) (ho : o.op = .load ty x)
    (g : Nat) (hx : a.eval x = .pointer (some ⟨g, 0, none⟩)) (t : TypeId) (cs : Array Value) (fr : Nat × Nat) (d : TypeDesc) (hg : w.heap[g]? = some (.cells cs t fr))
    (hu : P.underlying ty = some d) (hd : (match d with | .struct _ | .array _ _ => true | _ => false) = true) (hi : (P.info? ty).map (·.size) = some cs.size)
    (h : wpList P ops Q rest (a.put o.dst (.agg cs)) w) : wpList P ops Q (o :: rest) a w := by
  unfold wpList
  rw [if_pos hgd]
  exact .inl (wp_load_row ty x ho g hx t cs fr d hg hu hd hi h)
theorem hdr_one (h : Hdr) : (hdrC h).all (·.oneCell') = true := by simp [hdrC, Value.oneCell']
theorem HBox.row {W : World} {b : Nat} {h : Hdr} (hb : HBox W b h) (h' : Hdr) : HBox (W.setRow b (hdrC h')) b h' := setRow_heap W b _ _ _ _ hb
theorem HBox.set {W : World} {b : Nat} {h : Hdr} (hb : HBox W b h) (i : Nat) (v : Value) (h' : Hdr) (e : (hdrC h).setIfInBounds i v = hdrC h') : HBox (W.setCell ⟨b, i, none⟩ v) b h' := by
  rw [setCell_eq_setRow W b i _ _ _ v hb, e]; exact hb.row h'
theorem HBox.setRow_other {W : World} {b g : Nat} {h : Hdr} (hb : HBox W b h) (cs : Array Value) (hne : b ≠ g) : HBox (W.setRow g cs) b h := by
  unfold HBox; rw [_root_.Go.setRow_other W g b cs hne]; exact hb
theorem HBox.get {W : World} {b : Nat} {h : Hdr} (hb : HBox W b h) : (loadVar 31 ⟨b, 0, none⟩).run Tryd.prog W = .ok (hdrV h) W := run_loadVar_row W b 31 31 (hdrC h) (0, 0) _ hb Tryd.underlying31 rfl (by kernel_rfl)
theorem HBox.other {W : World} {b : Nat} {h : Hdr} (hb : HBox W b h) (a : Addr) (v : Value) (hne : b ≠ a.block) : HBox (W.setCell a v) b h := by
  unfold HBox; rw [Deep.blk_setCell_other W a v b hne]; exact hb

theorem results_With (tmps : Array Value) (W : World) (b : Nat) (h : Hdr) (e : Int) (h6 : tmps.getD 6 undef = .pointer (some ⟨b, 0, none⟩)) (h7 : tmps.getD 7 undef = .int .i64 e) (hb : HBox W b h) :
    (results Tryd.f22 tmps).run Tryd.prog W = .ok (.tuple #[hdrV h, .int .i64 e]) W := by
  have hl := hb.get
  unfold results
  rw [Tryd.results22]
  simp [h6, h7, hl, asAddr, -Array.getD_eq_getD_getElem?]
set_option maxRecDepth 100000 in
set_option maxHeartbeats 6400000 in
theorem head_With (h : Hdr) (f n : Int) (w : World) (hT : Wid w) (hn : 0 ≤ n) :
    Calls Tryd.prog 22 #[hdrV h, .int .i64 f, .int .u64 n] w fun e w' => e = .returned (.tuple #[hdrV (withH h f n), .int .i64 (errI (withOk f n))]) ∧ Below w.heap.size w w' := by
  have HT := Lib.hid hT
  clear hT
  go_enter Tryd.func22, Tryd.ntmps22
  go_wp2_with fail
  obtain ⟨W0, hW0, hx, hB⟩ := boxH w h
  rw [← hW0]
  have hs : W0.heap.size = w.heap.size + 1 := by rw [hW0]; simp
  obtain ⟨W1, hW1, hy, hB1⟩ := boxH W0 hdr0
  rw [← hW1]
  rw [hs] at hy
  have hx1 := hx.below hB1
  have hBB := below_on hB hB1
  have hT1 := HT.out.below hBB
  clear hW0 hW1 hs hx hB hB1 HT
  refine (head_Width _ _ hT1).mono ?_
  rintro e w1 ⟨rfl, rfl⟩
  have HT := Lib.hid hT1
  have HX := Lib.hid hx1
  have HY := Lib.hid hy
  have LX : Hid (w.heap.size < W1.heap.size) := hx1.lt
  have LY : Hid (w.heap.size + 1 < W1.heap.size) := hy.lt
  have ux := hx1.unfrozen
  have uy := hy.unfrozen
  clear hT1 hx1 hy
  rcases field_cases f with hf | hf | rfl | rfl | rfl | rfl | rfl | rfl | rfl | rfl | rfl
  · have e0 : widthI f = 0 := widthI_out (.inl hf)
    have E : Hid (withOk f n = false) := by refine Lib.hid ?_; unfold withOk; simp; omega
    go_wp2_with (refine wpList_store_row rfl 31 _ _ rfl _ rfl 31 (hdrC hdr0) (hdrC hdr0) rfl HY.out (by kernel_rfl) rfl (hdr_one _) ?_)
    have hr := Lib.hid (HY.out.row hdr0)
    have hBr := below_setRow hBB (g := w.heap.size + 1) (by omega) (hdrC hdr0)
    have HBr := Lib.hid hBr
    clear ux uy hBr hBB
    refine bodyPost_ret (results_With _ _ _ hdr0 1 ?_ ?_ hr.out) ?_ ?_
    · rfl
    · rfl
    · rfl
    refine ⟨?_, HBr.out⟩
    unfold withH
    rw [E.out]
    rfl
  · have e0 : widthI f = 0 := widthI_out (.inr hf)
    have E : Hid (withOk f n = false) := by refine Lib.hid ?_; unfold withOk; simp; omega
    go_wp2_with (refine wpList_store_row rfl 31 _ _ rfl _ rfl 31 (hdrC hdr0) (hdrC hdr0) rfl HY.out (by kernel_rfl) rfl (hdr_one _) ?_)
    have hr := Lib.hid (HY.out.row hdr0)
    have hBr := below_setRow hBB (g := w.heap.size + 1) (by omega) (hdrC hdr0)
    have HBr := Lib.hid hBr
    clear ux uy hBr hBB
    refine bodyPost_ret (results_With _ _ _ hdr0 1 ?_ ?_ hr.out) ?_ ?_
    · rfl
    · rfl
    · rfl
    refine ⟨?_, HBr.out⟩
    unfold withH
    rw [E.out]
    rfl
  · have e0 : widthI 0 = 8 := by decide
    have e1 : fullI 0 = 255 := by decide
    by_cases hn1 : n ≤ 255
    · have hd : decide (255 < n) = false := decide_eq_false (by omega)
      have hd2 : decide (n > 255) = false := decide_eq_false (by omega)
      have E : Hid (withOk 0 n = true) := by refine Lib.hid ?_; unfold withOk; rw [e1]; simp [hn1]
      have hw : IntKind.i64.wrap n = n := IntWalk.i64_in _ (by omega)
      obtain ⟨c0, c1, c2, c3, c4, c5, c6, c7, c8, c9, c10, c11, c12, c13, c14, c15, c16, c17, c18⟩ := HX.out.cells
      clear c1 c2 c3 c4 c5 c6 c7 c8 c9 c10 c11 c12 c13 c14 c15 c16 c17 c18
      have ux := ux 0
      have hx2 := Lib.hid (HX.out.set 0 (.int .i64 n) (setH h 0 n) rfl)
      have hy2 := Lib.hid (HY.out.other ⟨w.heap.size, 0, none⟩ (.int .i64 n) (by simp))
      have hb2 := Lib.hid (below_setRow (below_cell hBB w.heap.size 0 (Nat.le_refl _) (.int .i64 n)) (g := w.heap.size + 1) (by omega) (hdrC (setH h 0 n)))
      have hr := Lib.hid (hy2.out.row (setH h 0 n))
      clear hBB uy
      go_wp2_with (first | (go_at_call 13; refine (head_Full _ _ HT.out).mono ?_; rintro e w1 ⟨rfl, rfl⟩) | (with_reducible refine stop_load (ty := 31) (x := .tmp 3) ?_ ?_; (· rfl)))
      have HE : Hid (withH h 0 n = setH h 0 n) := by refine Lib.hid ?_; unfold withH; rw [E.out]; rfl
      obtain ⟨W3, hW3⟩ : ∃ W3, W3 = (W1.setCell ⟨w.heap.size, 0, none⟩ (.int .i64 n)) := ⟨_, rfl⟩
      rw [← hW3] at hx2 hy2 hb2 hr ⊢
      clear hW3
      generalize setH h 0 n = h' at hx2 hy2 hb2 hr HE
      unfold Stop
      refine wpList_load_at (by rfl) 31 _ rfl w.heap.size rfl 31 _ (0, 0) _ hx2.out Tryd.underlying31 rfl (by kernel_rfl) ?_
      go_wp2_with (refine wpList_store_row rfl 31 _ _ rfl (w.heap.size + 1) rfl 31 (hdrC hdr0) (hdrC h') rfl hy2.out (by kernel_rfl) rfl (hdr_one _) ?_)
      refine bodyPost_ret (results_With _ _ _ h' 0 ?_ ?_ hr.out) ?_ ?_
      · rfl
      · rfl
      · rfl
      refine ⟨?_, hb2.out⟩
      rw [HE.out, E.out]
      rfl
    · have hd : decide (255 < n) = true := decide_eq_true (by omega)
      have hd2 : decide (n > 255) = true := decide_eq_true (by omega)
      have E : Hid (withOk 0 n = false) := by refine Lib.hid ?_; unfold withOk; rw [e1]; simp [hn1]
      have hr := Lib.hid (HY.out.row hdr0)
      have HBr := Lib.hid (below_setRow hBB (g := w.heap.size + 1) (by omega) (hdrC hdr0))
      clear ux uy hBB
      go_wp2_with (first | (go_at_call 13; refine (head_Full _ _ HT.out).mono ?_; rintro e w1 ⟨rfl, rfl⟩) | (refine wpList_store_row rfl 31 _ _ rfl _ rfl 31 (hdrC hdr0) (hdrC hdr0) rfl HY.out (by kernel_rfl) rfl (hdr_one _) ?_))
      refine bodyPost_ret (results_With _ _ _ hdr0 1 ?_ ?_ hr.out) ?_ ?_
      · rfl
      · rfl
      · rfl
      refine ⟨?_, HBr.out⟩
      unfold withH
      rw [E.out]
      rfl
  · have e0 : widthI 1 = 48 := by decide
    have e1 : fullI 1 = 281474976710655 := by decide
    by_cases hn1 : n ≤ 281474976710655
    · have hd : decide (281474976710655 < n) = false := decide_eq_false (by omega)
      have hd2 : decide (n > 281474976710655) = false := decide_eq_false (by omega)
      have E : Hid (withOk 1 n = true) := by refine Lib.hid ?_; unfold withOk; rw [e1]; simp [hn1]
      go_wp2_with (go_at_call 13; refine (head_Full _ _ HT.out).mono ?_; rintro e w1 ⟨rfl, rfl⟩)
      clear ux uy
      refine (head_Of' n _ hn (by omega)).mono ?_
      rintro e w2 ⟨rfl, hb⟩
      have hx := HX.out.below hb
      have hy := HY.out.below hb
      replace hBB := below_on hBB hb
      clear hb HX HY HT
      have HX := Lib.hid hx
      have HY := Lib.hid hy
      obtain ⟨c0, c1, c2, c3, c4, c5, c6, c7, c8, c9, c10, c11, c12, c13, c14, c15, c16, c17, c18⟩ := hx.cells
      clear c0 c7 c8 c9 c10 c11 c12 c13 c14 c15 c16 c17 c18
      have u1 := hx.unfrozen 1; have u2 := hx.unfrozen 2; have u3 := hx.unfrozen 3; have u4 := hx.unfrozen 4; have u5 := hx.unfrozen 5; have u6 := hx.unfrozen 6
      clear hx hy
      have hx2 : Hid (HBox _ _ (setH h 1 n)) := Lib.hid (HBox.of (set6_1 h n) (row_set (row_set (row_set (row_set (row_set (row_set HX.out 1 (.int .u8 (byteI n 0))) 2 (.int .u8 (byteI n 1))) 3 (.int .u8 (byteI n 2))) 4 (.int .u8 (byteI n 3))) 5 (.int .u8 (byteI n 4))) 6 (.int .u8 (byteI n 5))))
      have hy2 : Hid (HBox _ _ hdr0) := Lib.hid (row_other (row_other (row_other (row_other (row_other (row_other HY.out w.heap.size 1 (.int .u8 (byteI n 0)) (by omega)) w.heap.size 2 (.int .u8 (byteI n 1)) (by omega)) w.heap.size 3 (.int .u8 (byteI n 2)) (by omega)) w.heap.size 4 (.int .u8 (byteI n 3)) (by omega)) w.heap.size 5 (.int .u8 (byteI n 4)) (by omega)) w.heap.size 6 (.int .u8 (byteI n 5)) (by omega))
      have hb2 := Lib.hid (below_setRow (below_cell (below_cell (below_cell (below_cell (below_cell (below_cell hBB w.heap.size 1 (Nat.le_refl _) (.int .u8 (byteI n 0))) w.heap.size 2 (Nat.le_refl _) (.int .u8 (byteI n 1))) w.heap.size 3 (Nat.le_refl _) (.int .u8 (byteI n 2))) w.heap.size 4 (Nat.le_refl _) (.int .u8 (byteI n 3))) w.heap.size 5 (Nat.le_refl _) (.int .u8 (byteI n 4))) w.heap.size 6 (Nat.le_refl _) (.int .u8 (byteI n 5))) (g := w.heap.size + 1) (by omega) (hdrC (setH h 1 n)))
      have hr := Lib.hid (hy2.out.row (setH h 1 n))
      clear hBB
      go_wp2_with (with_reducible refine stop_load (ty := 31) (x := .tmp 3) ?_ ?_; (· rfl))
      have HE : Hid (withH h 1 n = setH h 1 n) := by refine Lib.hid ?_; unfold withH; rw [E.out]; rfl
      obtain ⟨W3, hW3⟩ : ∃ W3, W3 = ((((((w2.setCell ⟨w.heap.size, 1, none⟩ (.int .u8 (byteI n 0))).setCell ⟨w.heap.size, 2, none⟩ (.int .u8 (byteI n 1))).setCell ⟨w.heap.size, 3, none⟩ (.int .u8 (byteI n 2))).setCell ⟨w.heap.size, 4, none⟩ (.int .u8 (byteI n 3))).setCell ⟨w.heap.size, 5, none⟩ (.int .u8 (byteI n 4))).setCell ⟨w.heap.size, 6, none⟩ (.int .u8 (byteI n 5))) := ⟨_, rfl⟩
      rw [← hW3] at hx2 hy2 hb2 hr ⊢
      clear hW3
      generalize setH h 1 n = h' at hx2 hy2 hb2 hr HE
      unfold Stop
      refine wpList_load_at (by rfl) 31 _ rfl w.heap.size rfl 31 _ (0, 0) _ hx2.out Tryd.underlying31 rfl (by kernel_rfl) ?_
      go_wp2_with (refine wpList_store_row rfl 31 _ _ rfl (w.heap.size + 1) rfl 31 (hdrC hdr0) (hdrC h') rfl hy2.out (by kernel_rfl) rfl (hdr_one _) ?_)
      refine bodyPost_ret (results_With _ _ _ h' 0 ?_ ?_ hr.out) ?_ ?_
      · rfl
      · rfl
      · rfl
      refine ⟨?_, hb2.out⟩
      rw [HE.out, E.out]
      rfl
    · have hd : decide (281474976710655 < n) = true := decide_eq_true (by omega)
      have hd2 : decide (n > 281474976710655) = true := decide_eq_true (by omega)
      have E : Hid (withOk 1 n = false) := by refine Lib.hid ?_; unfold withOk; rw [e1]; simp [hn1]
      have hr := Lib.hid (HY.out.row hdr0)
      have HBr := Lib.hid (below_setRow hBB (g := w.heap.size + 1) (by omega) (hdrC hdr0))
      clear ux uy hBB
      go_wp2_with (first | (go_at_call 13; refine (head_Full _ _ HT.out).mono ?_; rintro e w1 ⟨rfl, rfl⟩) | (refine wpList_store_row rfl 31 _ _ rfl _ rfl 31 (hdrC hdr0) (hdrC hdr0) rfl HY.out (by kernel_rfl) rfl (hdr_one _) ?_))
      refine bodyPost_ret (results_With _ _ _ hdr0 1 ?_ ?_ hr.out) ?_ ?_
      · rfl
      · rfl
      · rfl
      refine ⟨?_, HBr.out⟩
      unfold withH
      rw [E.out]
      rfl
  · have e0 : widthI 2 = 48 := by decide
    have e1 : fullI 2 = 281474976710655 := by decide
    by_cases hn1 : n ≤ 281474976710655
    · have hd : decide (281474976710655 < n) = false := decide_eq_false (by omega)
      have hd2 : decide (n > 281474976710655) = false := decide_eq_false (by omega)
      have E : Hid (withOk 2 n = true) := by refine Lib.hid ?_; unfold withOk; rw [e1]; simp [hn1]
      go_wp2_with (go_at_call 13; refine (head_Full _ _ HT.out).mono ?_; rintro e w1 ⟨rfl, rfl⟩)
      clear ux uy
      refine (head_Of' n _ hn (by omega)).mono ?_
      rintro e w2 ⟨rfl, hb⟩
      have hx := HX.out.below hb
      have hy := HY.out.below hb
      replace hBB := below_on hBB hb
      clear hb HX HY HT
      have HX := Lib.hid hx
      have HY := Lib.hid hy
      obtain ⟨c0, c1, c2, c3, c4, c5, c6, c7, c8, c9, c10, c11, c12, c13, c14, c15, c16, c17, c18⟩ := hx.cells
      clear c0 c1 c2 c3 c4 c5 c6 c13 c14 c15 c16 c17 c18
      have u7 := hx.unfrozen 7; have u8 := hx.unfrozen 8; have u9 := hx.unfrozen 9; have u10 := hx.unfrozen 10; have u11 := hx.unfrozen 11; have u12 := hx.unfrozen 12
      clear hx hy
      have hx2 : Hid (HBox _ _ (setH h 2 n)) := Lib.hid (HBox.of (set6_2 h n) (row_set (row_set (row_set (row_set (row_set (row_set HX.out 7 (.int .u8 (byteI n 0))) 8 (.int .u8 (byteI n 1))) 9 (.int .u8 (byteI n 2))) 10 (.int .u8 (byteI n 3))) 11 (.int .u8 (byteI n 4))) 12 (.int .u8 (byteI n 5))))
      have hy2 : Hid (HBox _ _ hdr0) := Lib.hid (row_other (row_other (row_other (row_other (row_other (row_other HY.out w.heap.size 7 (.int .u8 (byteI n 0)) (by omega)) w.heap.size 8 (.int .u8 (byteI n 1)) (by omega)) w.heap.size 9 (.int .u8 (byteI n 2)) (by omega)) w.heap.size 10 (.int .u8 (byteI n 3)) (by omega)) w.heap.size 11 (.int .u8 (byteI n 4)) (by omega)) w.heap.size 12 (.int .u8 (byteI n 5)) (by omega))
      have hb2 := Lib.hid (below_setRow (below_cell (below_cell (below_cell (below_cell (below_cell (below_cell hBB w.heap.size 7 (Nat.le_refl _) (.int .u8 (byteI n 0))) w.heap.size 8 (Nat.le_refl _) (.int .u8 (byteI n 1))) w.heap.size 9 (Nat.le_refl _) (.int .u8 (byteI n 2))) w.heap.size 10 (Nat.le_refl _) (.int .u8 (byteI n 3))) w.heap.size 11 (Nat.le_refl _) (.int .u8 (byteI n 4))) w.heap.size 12 (Nat.le_refl _) (.int .u8 (byteI n 5))) (g := w.heap.size + 1) (by omega) (hdrC (setH h 2 n)))
      have hr := Lib.hid (hy2.out.row (setH h 2 n))
      clear hBB
      go_wp2_with (with_reducible refine stop_load (ty := 31) (x := .tmp 3) ?_ ?_; (· rfl))
      have HE : Hid (withH h 2 n = setH h 2 n) := by refine Lib.hid ?_; unfold withH; rw [E.out]; rfl
      obtain ⟨W3, hW3⟩ : ∃ W3, W3 = ((((((w2.setCell ⟨w.heap.size, 7, none⟩ (.int .u8 (byteI n 0))).setCell ⟨w.heap.size, 8, none⟩ (.int .u8 (byteI n 1))).setCell ⟨w.heap.size, 9, none⟩ (.int .u8 (byteI n 2))).setCell ⟨w.heap.size, 10, none⟩ (.int .u8 (byteI n 3))).setCell ⟨w.heap.size, 11, none⟩ (.int .u8 (byteI n 4))).setCell ⟨w.heap.size, 12, none⟩ (.int .u8 (byteI n 5))) := ⟨_, rfl⟩
      rw [← hW3] at hx2 hy2 hb2 hr ⊢
      clear hW3
      generalize setH h 2 n = h' at hx2 hy2 hb2 hr HE
      unfold Stop
      refine wpList_load_at (by rfl) 31 _ rfl w.heap.size rfl 31 _ (0, 0) _ hx2.out Tryd.underlying31 rfl (by kernel_rfl) ?_
      go_wp2_with (refine wpList_store_row rfl 31 _ _ rfl (w.heap.size + 1) rfl 31 (hdrC hdr0) (hdrC h') rfl hy2.out (by kernel_rfl) rfl (hdr_one _) ?_)
      refine bodyPost_ret (results_With _ _ _ h' 0 ?_ ?_ hr.out) ?_ ?_
      · rfl
      · rfl
      · rfl
      refine ⟨?_, hb2.out⟩
      rw [HE.out, E.out]
      rfl
    · have hd : decide (281474976710655 < n) = true := decide_eq_true (by omega)
      have hd2 : decide (n > 281474976710655) = true := decide_eq_true (by omega)
      have E : Hid (withOk 2 n = false) := by refine Lib.hid ?_; unfold withOk; rw [e1]; simp [hn1]
      have hr := Lib.hid (HY.out.row hdr0)
      have HBr := Lib.hid (below_setRow hBB (g := w.heap.size + 1) (by omega) (hdrC hdr0))
      clear ux uy hBB
      go_wp2_with (first | (go_at_call 13; refine (head_Full _ _ HT.out).mono ?_; rintro e w1 ⟨rfl, rfl⟩) | (refine wpList_store_row rfl 31 _ _ rfl _ rfl 31 (hdrC hdr0) (hdrC hdr0) rfl HY.out (by kernel_rfl) rfl (hdr_one _) ?_))
      refine bodyPost_ret (results_With _ _ _ hdr0 1 ?_ ?_ hr.out) ?_ ?_
      · rfl
      · rfl
      · rfl
      refine ⟨?_, HBr.out⟩
      unfold withH
      rw [E.out]
      rfl
  · have e0 : widthI 3 = 16 := by decide
    have e1 : fullI 3 = 65535 := by decide
    by_cases hn1 : n ≤ 65535
    · have hd : decide (65535 < n) = false := decide_eq_false (by omega)
      have hd2 : decide (n > 65535) = false := decide_eq_false (by omega)
      have E : Hid (withOk 3 n = true) := by refine Lib.hid ?_; unfold withOk; rw [e1]; simp [hn1]
      have hw : IntKind.i64.wrap n = n := IntWalk.i64_in _ (by omega)
      obtain ⟨c0, c1, c2, c3, c4, c5, c6, c7, c8, c9, c10, c11, c12, c13, c14, c15, c16, c17, c18⟩ := HX.out.cells
      clear c0 c1 c2 c3 c4 c5 c6 c7 c8 c9 c10 c11 c12 c14 c15 c16 c17 c18
      have ux := ux 13
      have hx2 := Lib.hid (HX.out.set 13 (.int .i64 n) (setH h 3 n) rfl)
      have hy2 := Lib.hid (HY.out.other ⟨w.heap.size, 13, none⟩ (.int .i64 n) (by simp))
      have hb2 := Lib.hid (below_setRow (below_cell hBB w.heap.size 13 (Nat.le_refl _) (.int .i64 n)) (g := w.heap.size + 1) (by omega) (hdrC (setH h 3 n)))
      have hr := Lib.hid (hy2.out.row (setH h 3 n))
      clear hBB uy
      go_wp2_with (first | (go_at_call 13; refine (head_Full _ _ HT.out).mono ?_; rintro e w1 ⟨rfl, rfl⟩) | (with_reducible refine stop_load (ty := 31) (x := .tmp 3) ?_ ?_; (· rfl)))
      have HE : Hid (withH h 3 n = setH h 3 n) := by refine Lib.hid ?_; unfold withH; rw [E.out]; rfl
      obtain ⟨W3, hW3⟩ : ∃ W3, W3 = (W1.setCell ⟨w.heap.size, 13, none⟩ (.int .i64 n)) := ⟨_, rfl⟩
      rw [← hW3] at hx2 hy2 hb2 hr ⊢
      clear hW3
      generalize setH h 3 n = h' at hx2 hy2 hb2 hr HE
      unfold Stop
      refine wpList_load_at (by rfl) 31 _ rfl w.heap.size rfl 31 _ (0, 0) _ hx2.out Tryd.underlying31 rfl (by kernel_rfl) ?_
      go_wp2_with (refine wpList_store_row rfl 31 _ _ rfl (w.heap.size + 1) rfl 31 (hdrC hdr0) (hdrC h') rfl hy2.out (by kernel_rfl) rfl (hdr_one _) ?_)
      refine bodyPost_ret (results_With _ _ _ h' 0 ?_ ?_ hr.out) ?_ ?_
      · rfl
      · rfl
      · rfl
      refine ⟨?_, hb2.out⟩
      rw [HE.out, E.out]
      rfl
    · have hd : decide (65535 < n) = true := decide_eq_true (by omega)
      have hd2 : decide (n > 65535) = true := decide_eq_true (by omega)
      have E : Hid (withOk 3 n = false) := by refine Lib.hid ?_; unfold withOk; rw [e1]; simp [hn1]
      have hr := Lib.hid (HY.out.row hdr0)
      have HBr := Lib.hid (below_setRow hBB (g := w.heap.size + 1) (by omega) (hdrC hdr0))
      clear ux uy hBB
      go_wp2_with (first | (go_at_call 13; refine (head_Full _ _ HT.out).mono ?_; rintro e w1 ⟨rfl, rfl⟩) | (refine wpList_store_row rfl 31 _ _ rfl _ rfl 31 (hdrC hdr0) (hdrC hdr0) rfl HY.out (by kernel_rfl) rfl (hdr_one _) ?_))
      refine bodyPost_ret (results_With _ _ _ hdr0 1 ?_ ?_ hr.out) ?_ ?_
      · rfl
      · rfl
      · rfl
      refine ⟨?_, HBr.out⟩
      unfold withH
      rw [E.out]
      rfl
  · have e0 : widthI 4 = 32 := by decide
    have e1 : fullI 4 = 4294967295 := by decide
    by_cases hn1 : n ≤ 4294967295
    · have hd : decide (4294967295 < n) = false := decide_eq_false (by omega)
      have hd2 : decide (n > 4294967295) = false := decide_eq_false (by omega)
      have E : Hid (withOk 4 n = true) := by refine Lib.hid ?_; unfold withOk; rw [e1]; simp [hn1]
      have hw : IntKind.u32.wrap n = n := IntWalk.u32_in _ (by omega)
      obtain ⟨c0, c1, c2, c3, c4, c5, c6, c7, c8, c9, c10, c11, c12, c13, c14, c15, c16, c17, c18⟩ := HX.out.cells
      clear c0 c1 c2 c3 c4 c5 c6 c7 c8 c9 c10 c11 c12 c13 c15 c16 c17 c18
      have ux := ux 14
      have hx2 := Lib.hid (HX.out.set 14 (.int .u32 n) (setH h 4 n) rfl)
      have hy2 := Lib.hid (HY.out.other ⟨w.heap.size, 14, none⟩ (.int .u32 n) (by simp))
      have hb2 := Lib.hid (below_setRow (below_cell hBB w.heap.size 14 (Nat.le_refl _) (.int .u32 n)) (g := w.heap.size + 1) (by omega) (hdrC (setH h 4 n)))
      have hr := Lib.hid (hy2.out.row (setH h 4 n))
      clear hBB uy
      go_wp2_with (first | (go_at_call 13; refine (head_Full _ _ HT.out).mono ?_; rintro e w1 ⟨rfl, rfl⟩) | (with_reducible refine stop_load (ty := 31) (x := .tmp 3) ?_ ?_; (· rfl)))
      have HE : Hid (withH h 4 n = setH h 4 n) := by refine Lib.hid ?_; unfold withH; rw [E.out]; rfl
      obtain ⟨W3, hW3⟩ : ∃ W3, W3 = (W1.setCell ⟨w.heap.size, 14, none⟩ (.int .u32 n)) := ⟨_, rfl⟩
      rw [← hW3] at hx2 hy2 hb2 hr ⊢
      clear hW3
      generalize setH h 4 n = h' at hx2 hy2 hb2 hr HE
      unfold Stop
      refine wpList_load_at (by rfl) 31 _ rfl w.heap.size rfl 31 _ (0, 0) _ hx2.out Tryd.underlying31 rfl (by kernel_rfl) ?_
      go_wp2_with (refine wpList_store_row rfl 31 _ _ rfl (w.heap.size + 1) rfl 31 (hdrC hdr0) (hdrC h') rfl hy2.out (by kernel_rfl) rfl (hdr_one _) ?_)
      refine bodyPost_ret (results_With _ _ _ h' 0 ?_ ?_ hr.out) ?_ ?_
      · rfl
      · rfl
      · rfl
      refine ⟨?_, hb2.out⟩
      rw [HE.out, E.out]
      rfl
    · have hd : decide (4294967295 < n) = true := decide_eq_true (by omega)
      have hd2 : decide (n > 4294967295) = true := decide_eq_true (by omega)
      have E : Hid (withOk 4 n = false) := by refine Lib.hid ?_; unfold withOk; rw [e1]; simp [hn1]
      have hr := Lib.hid (HY.out.row hdr0)
      have HBr := Lib.hid (below_setRow hBB (g := w.heap.size + 1) (by omega) (hdrC hdr0))
      clear ux uy hBB
      go_wp2_with (first | (go_at_call 13; refine (head_Full _ _ HT.out).mono ?_; rintro e w1 ⟨rfl, rfl⟩) | (refine wpList_store_row rfl 31 _ _ rfl _ rfl 31 (hdrC hdr0) (hdrC hdr0) rfl HY.out (by kernel_rfl) rfl (hdr_one _) ?_))
      refine bodyPost_ret (results_With _ _ _ hdr0 1 ?_ ?_ hr.out) ?_ ?_
      · rfl
      · rfl
      · rfl
      refine ⟨?_, HBr.out⟩
      unfold withH
      rw [E.out]
      rfl
  · have e0 : widthI 5 = 32 := by decide
    have e1 : fullI 5 = 4294967295 := by decide
    by_cases hn1 : n ≤ 4294967295
    · have hd : decide (4294967295 < n) = false := decide_eq_false (by omega)
      have hd2 : decide (n > 4294967295) = false := decide_eq_false (by omega)
      have E : Hid (withOk 5 n = true) := by refine Lib.hid ?_; unfold withOk; rw [e1]; simp [hn1]
      have hw : IntKind.u32.wrap n = n := IntWalk.u32_in _ (by omega)
      obtain ⟨c0, c1, c2, c3, c4, c5, c6, c7, c8, c9, c10, c11, c12, c13, c14, c15, c16, c17, c18⟩ := HX.out.cells
      clear c0 c1 c2 c3 c4 c5 c6 c7 c8 c9 c10 c11 c12 c13 c14 c16 c17 c18
      have ux := ux 15
      have hx2 := Lib.hid (HX.out.set 15 (.int .u32 n) (setH h 5 n) rfl)
      have hy2 := Lib.hid (HY.out.other ⟨w.heap.size, 15, none⟩ (.int .u32 n) (by simp))
      have hb2 := Lib.hid (below_setRow (below_cell hBB w.heap.size 15 (Nat.le_refl _) (.int .u32 n)) (g := w.heap.size + 1) (by omega) (hdrC (setH h 5 n)))
      have hr := Lib.hid (hy2.out.row (setH h 5 n))
      clear hBB uy
      go_wp2_with (first | (go_at_call 13; refine (head_Full _ _ HT.out).mono ?_; rintro e w1 ⟨rfl, rfl⟩) | (with_reducible refine stop_load (ty := 31) (x := .tmp 3) ?_ ?_; (· rfl)))
      have HE : Hid (withH h 5 n = setH h 5 n) := by refine Lib.hid ?_; unfold withH; rw [E.out]; rfl
      obtain ⟨W3, hW3⟩ : ∃ W3, W3 = (W1.setCell ⟨w.heap.size, 15, none⟩ (.int .u32 n)) := ⟨_, rfl⟩
      rw [← hW3] at hx2 hy2 hb2 hr ⊢
      clear hW3
      generalize setH h 5 n = h' at hx2 hy2 hb2 hr HE
      unfold Stop
      refine wpList_load_at (by rfl) 31 _ rfl w.heap.size rfl 31 _ (0, 0) _ hx2.out Tryd.underlying31 rfl (by kernel_rfl) ?_
      go_wp2_with (refine wpList_store_row rfl 31 _ _ rfl (w.heap.size + 1) rfl 31 (hdrC hdr0) (hdrC h') rfl hy2.out (by kernel_rfl) rfl (hdr_one _) ?_)
      refine bodyPost_ret (results_With _ _ _ h' 0 ?_ ?_ hr.out) ?_ ?_
      · rfl
      · rfl
      · rfl
      refine ⟨?_, hb2.out⟩
      rw [HE.out, E.out]
      rfl
    · have hd : decide (4294967295 < n) = true := decide_eq_true (by omega)
      have hd2 : decide (n > 4294967295) = true := decide_eq_true (by omega)
      have E : Hid (withOk 5 n = false) := by refine Lib.hid ?_; unfold withOk; rw [e1]; simp [hn1]
      have hr := Lib.hid (HY.out.row hdr0)
      have HBr := Lib.hid (below_setRow hBB (g := w.heap.size + 1) (by omega) (hdrC hdr0))
      clear ux uy hBB
      go_wp2_with (first | (go_at_call 13; refine (head_Full _ _ HT.out).mono ?_; rintro e w1 ⟨rfl, rfl⟩) | (refine wpList_store_row rfl 31 _ _ rfl _ rfl 31 (hdrC hdr0) (hdrC hdr0) rfl HY.out (by kernel_rfl) rfl (hdr_one _) ?_))
      refine bodyPost_ret (results_With _ _ _ hdr0 1 ?_ ?_ hr.out) ?_ ?_
      · rfl
      · rfl
      · rfl
      refine ⟨?_, HBr.out⟩
      unfold withH
      rw [E.out]
      rfl
  · have e0 : widthI 6 = 8 := by decide
    have e1 : fullI 6 = 255 := by decide
    by_cases hn1 : n ≤ 255
    · have hd : decide (255 < n) = false := decide_eq_false (by omega)
      have hd2 : decide (n > 255) = false := decide_eq_false (by omega)
      have E : Hid (withOk 6 n = true) := by refine Lib.hid ?_; unfold withOk; rw [e1]; simp [hn1]
      have hw : IntKind.i64.wrap n = n := IntWalk.i64_in _ (by omega)
      obtain ⟨c0, c1, c2, c3, c4, c5, c6, c7, c8, c9, c10, c11, c12, c13, c14, c15, c16, c17, c18⟩ := HX.out.cells
      clear c0 c1 c2 c3 c4 c5 c6 c7 c8 c9 c10 c11 c12 c13 c14 c15 c17 c18
      have ux := ux 16
      have hx2 := Lib.hid (HX.out.set 16 (.int .i64 n) (setH h 6 n) rfl)
      have hy2 := Lib.hid (HY.out.other ⟨w.heap.size, 16, none⟩ (.int .i64 n) (by simp))
      have hb2 := Lib.hid (below_setRow (below_cell hBB w.heap.size 16 (Nat.le_refl _) (.int .i64 n)) (g := w.heap.size + 1) (by omega) (hdrC (setH h 6 n)))
      have hr := Lib.hid (hy2.out.row (setH h 6 n))
      clear hBB uy
      go_wp2_with (first | (go_at_call 13; refine (head_Full _ _ HT.out).mono ?_; rintro e w1 ⟨rfl, rfl⟩) | (with_reducible refine stop_load (ty := 31) (x := .tmp 3) ?_ ?_; (· rfl)))
      have HE : Hid (withH h 6 n = setH h 6 n) := by refine Lib.hid ?_; unfold withH; rw [E.out]; rfl
      obtain ⟨W3, hW3⟩ : ∃ W3, W3 = (W1.setCell ⟨w.heap.size, 16, none⟩ (.int .i64 n)) := ⟨_, rfl⟩
      rw [← hW3] at hx2 hy2 hb2 hr ⊢
      clear hW3
      generalize setH h 6 n = h' at hx2 hy2 hb2 hr HE
      unfold Stop
      refine wpList_load_at (by rfl) 31 _ rfl w.heap.size rfl 31 _ (0, 0) _ hx2.out Tryd.underlying31 rfl (by kernel_rfl) ?_
      go_wp2_with (refine wpList_store_row rfl 31 _ _ rfl (w.heap.size + 1) rfl 31 (hdrC hdr0) (hdrC h') rfl hy2.out (by kernel_rfl) rfl (hdr_one _) ?_)
      refine bodyPost_ret (results_With _ _ _ h' 0 ?_ ?_ hr.out) ?_ ?_
      · rfl
      · rfl
      · rfl
      refine ⟨?_, hb2.out⟩
      rw [HE.out, E.out]
      rfl
    · have hd : decide (255 < n) = true := decide_eq_true (by omega)
      have hd2 : decide (n > 255) = true := decide_eq_true (by omega)
      have E : Hid (withOk 6 n = false) := by refine Lib.hid ?_; unfold withOk; rw [e1]; simp [hn1]
      have hr := Lib.hid (HY.out.row hdr0)
      have HBr := Lib.hid (below_setRow hBB (g := w.heap.size + 1) (by omega) (hdrC hdr0))
      clear ux uy hBB
      go_wp2_with (first | (go_at_call 13; refine (head_Full _ _ HT.out).mono ?_; rintro e w1 ⟨rfl, rfl⟩) | (refine wpList_store_row rfl 31 _ _ rfl _ rfl 31 (hdrC hdr0) (hdrC hdr0) rfl HY.out (by kernel_rfl) rfl (hdr_one _) ?_))
      refine bodyPost_ret (results_With _ _ _ hdr0 1 ?_ ?_ hr.out) ?_ ?_
      · rfl
      · rfl
      · rfl
      refine ⟨?_, HBr.out⟩
      unfold withH
      rw [E.out]
      rfl
  · have e0 : widthI 7 = 16 := by decide
    have e1 : fullI 7 = 65535 := by decide
    by_cases hn1 : n ≤ 65535
    · have hd : decide (65535 < n) = false := decide_eq_false (by omega)
      have hd2 : decide (n > 65535) = false := decide_eq_false (by omega)
      have E : Hid (withOk 7 n = true) := by refine Lib.hid ?_; unfold withOk; rw [e1]; simp [hn1]
      have hw : IntKind.i64.wrap n = n := IntWalk.i64_in _ (by omega)
      obtain ⟨c0, c1, c2, c3, c4, c5, c6, c7, c8, c9, c10, c11, c12, c13, c14, c15, c16, c17, c18⟩ := HX.out.cells
      clear c0 c1 c2 c3 c4 c5 c6 c7 c8 c9 c10 c11 c12 c13 c14 c15 c16 c18
      have ux := ux 17
      have hx2 := Lib.hid (HX.out.set 17 (.int .i64 n) (setH h 7 n) rfl)
      have hy2 := Lib.hid (HY.out.other ⟨w.heap.size, 17, none⟩ (.int .i64 n) (by simp))
      have hb2 := Lib.hid (below_setRow (below_cell hBB w.heap.size 17 (Nat.le_refl _) (.int .i64 n)) (g := w.heap.size + 1) (by omega) (hdrC (setH h 7 n)))
      have hr := Lib.hid (hy2.out.row (setH h 7 n))
      clear hBB uy
      go_wp2_with (first | (go_at_call 13; refine (head_Full _ _ HT.out).mono ?_; rintro e w1 ⟨rfl, rfl⟩) | (with_reducible refine stop_load (ty := 31) (x := .tmp 3) ?_ ?_; (· rfl)))
      have HE : Hid (withH h 7 n = setH h 7 n) := by refine Lib.hid ?_; unfold withH; rw [E.out]; rfl
      obtain ⟨W3, hW3⟩ : ∃ W3, W3 = (W1.setCell ⟨w.heap.size, 17, none⟩ (.int .i64 n)) := ⟨_, rfl⟩
      rw [← hW3] at hx2 hy2 hb2 hr ⊢
      clear hW3
      generalize setH h 7 n = h' at hx2 hy2 hb2 hr HE
      unfold Stop
      refine wpList_load_at (by rfl) 31 _ rfl w.heap.size rfl 31 _ (0, 0) _ hx2.out Tryd.underlying31 rfl (by kernel_rfl) ?_
      go_wp2_with (refine wpList_store_row rfl 31 _ _ rfl (w.heap.size + 1) rfl 31 (hdrC hdr0) (hdrC h') rfl hy2.out (by kernel_rfl) rfl (hdr_one _) ?_)
      refine bodyPost_ret (results_With _ _ _ h' 0 ?_ ?_ hr.out) ?_ ?_
      · rfl
      · rfl
      · rfl
      refine ⟨?_, hb2.out⟩
      rw [HE.out, E.out]
      rfl
    · have hd : decide (65535 < n) = true := decide_eq_true (by omega)
      have hd2 : decide (n > 65535) = true := decide_eq_true (by omega)
      have E : Hid (withOk 7 n = false) := by refine Lib.hid ?_; unfold withOk; rw [e1]; simp [hn1]
      have hr := Lib.hid (HY.out.row hdr0)
      have HBr := Lib.hid (below_setRow hBB (g := w.heap.size + 1) (by omega) (hdrC hdr0))
      clear ux uy hBB
      go_wp2_with (first | (go_at_call 13; refine (head_Full _ _ HT.out).mono ?_; rintro e w1 ⟨rfl, rfl⟩) | (refine wpList_store_row rfl 31 _ _ rfl _ rfl 31 (hdrC hdr0) (hdrC hdr0) rfl HY.out (by kernel_rfl) rfl (hdr_one _) ?_))
      refine bodyPost_ret (results_With _ _ _ hdr0 1 ?_ ?_ hr.out) ?_ ?_
      · rfl
      · rfl
      · rfl
      refine ⟨?_, HBr.out⟩
      unfold withH
      rw [E.out]
      rfl
  · have e0 : widthI 8 = 16 := by decide
    have e1 : fullI 8 = 65535 := by decide
    by_cases hn1 : n ≤ 65535
    · have hd : decide (65535 < n) = false := decide_eq_false (by omega)
      have hd2 : decide (n > 65535) = false := decide_eq_false (by omega)
      have E : Hid (withOk 8 n = true) := by refine Lib.hid ?_; unfold withOk; rw [e1]; simp [hn1]
      have hw : IntKind.i64.wrap n = n := IntWalk.i64_in _ (by omega)
      obtain ⟨c0, c1, c2, c3, c4, c5, c6, c7, c8, c9, c10, c11, c12, c13, c14, c15, c16, c17, c18⟩ := HX.out.cells
      clear c0 c1 c2 c3 c4 c5 c6 c7 c8 c9 c10 c11 c12 c13 c14 c15 c16 c17
      have ux := ux 18
      have hx2 := Lib.hid (HX.out.set 18 (.int .i64 n) (setH h 8 n) rfl)
      have hy2 := Lib.hid (HY.out.other ⟨w.heap.size, 18, none⟩ (.int .i64 n) (by simp))
      have hb2 := Lib.hid (below_setRow (below_cell hBB w.heap.size 18 (Nat.le_refl _) (.int .i64 n)) (g := w.heap.size + 1) (by omega) (hdrC (setH h 8 n)))
      have hr := Lib.hid (hy2.out.row (setH h 8 n))
      clear hBB uy
      go_wp2_with (first | (go_at_call 13; refine (head_Full _ _ HT.out).mono ?_; rintro e w1 ⟨rfl, rfl⟩) | (with_reducible refine stop_load (ty := 31) (x := .tmp 3) ?_ ?_; (· rfl)))
      have HE : Hid (withH h 8 n = setH h 8 n) := by refine Lib.hid ?_; unfold withH; rw [E.out]; rfl
      obtain ⟨W3, hW3⟩ : ∃ W3, W3 = (W1.setCell ⟨w.heap.size, 18, none⟩ (.int .i64 n)) := ⟨_, rfl⟩
      rw [← hW3] at hx2 hy2 hb2 hr ⊢
      clear hW3
      generalize setH h 8 n = h' at hx2 hy2 hb2 hr HE
      unfold Stop
      refine wpList_load_at (by rfl) 31 _ rfl w.heap.size rfl 31 _ (0, 0) _ hx2.out Tryd.underlying31 rfl (by kernel_rfl) ?_
      go_wp2_with (refine wpList_store_row rfl 31 _ _ rfl (w.heap.size + 1) rfl 31 (hdrC hdr0) (hdrC h') rfl hy2.out (by kernel_rfl) rfl (hdr_one _) ?_)
      refine bodyPost_ret (results_With _ _ _ h' 0 ?_ ?_ hr.out) ?_ ?_
      · rfl
      · rfl
      · rfl
      refine ⟨?_, hb2.out⟩
      rw [HE.out, E.out]
      rfl
    · have hd : decide (65535 < n) = true := decide_eq_true (by omega)
      have hd2 : decide (n > 65535) = true := decide_eq_true (by omega)
      have E : Hid (withOk 8 n = false) := by refine Lib.hid ?_; unfold withOk; rw [e1]; simp [hn1]
      have hr := Lib.hid (HY.out.row hdr0)
      have HBr := Lib.hid (below_setRow hBB (g := w.heap.size + 1) (by omega) (hdrC hdr0))
      clear ux uy hBB
      go_wp2_with (first | (go_at_call 13; refine (head_Full _ _ HT.out).mono ?_; rintro e w1 ⟨rfl, rfl⟩) | (refine wpList_store_row rfl 31 _ _ rfl _ rfl 31 (hdrC hdr0) (hdrC hdr0) rfl HY.out (by kernel_rfl) rfl (hdr_one _) ?_))
      refine bodyPost_ret (results_With _ _ _ hdr0 1 ?_ ?_ hr.out) ?_ ?_
      · rfl
      · rfl
      · rfl
      refine ⟨?_, HBr.out⟩
      unfold withH
      rw [E.out]
      rfl
end Go.Proofs.YtkcikblecinnfaaDoor
