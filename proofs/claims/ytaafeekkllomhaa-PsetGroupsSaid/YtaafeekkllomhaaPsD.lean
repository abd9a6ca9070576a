/-
  SETS OF PREFIXES: List, Len, Has, Same, Cmp, Covers.
-/
import Derived.Test.YtaafeekkllomhaaPsB
namespace Go.Proofs.Ytaafeekkllomhaa
open Go.RowKit

theorem boxC (w : World) (C : Array Value) (T : TypeId) : ∃ W0, W0 = w.alloc (.cells C T) ∧ W0.heap[w.heap.size]? = some (.cells C T (0, 0)) ∧ Below w.heap.size w W0 ∧ W0.heap.size = w.heap.size + 1 :=
  ⟨_, rfl, heap_alloc_new w _, (Below.refl _ _).alloc (Nat.le_refl _) _, by simp⟩
theorem boxCC (w : World) (C : Array Value) (T : TypeId) (Z : Array Value) (U : TypeId) : ∃ W0, W0 = (w.alloc (.cells C T)).alloc (.cells Z U) ∧ W0.heap[w.heap.size]? = some (.cells C T (0, 0)) ∧ W0.heap[w.heap.size + 1]? = some (.cells Z U (0, 0)) ∧ Below w.heap.size w W0 := by
  refine ⟨_, rfl, ?_, ?_, ((Below.refl _ _).alloc (Nat.le_refl _) _).alloc (by simp) _⟩
  · have h1 := heap_alloc_new w (.cells C T)
    have h2 : Below (w.alloc (.cells C T)).heap.size (w.alloc (.cells C T)) ((w.alloc (.cells C T)).alloc (.cells Z U)) := (Below.refl _ _).alloc (Nat.le_refl _) _
    exact (h2.block _ (row_lt h1)).trans h1
  · have h1 := heap_alloc_new (w.alloc (.cells C T)) (.cells Z U)
    simpa using h1
set_option maxRecDepth 100000 in
theorem ps_Len (v : Value) (xs : List Pf) (w : World) (h : PsAt w v xs) : Calls Try.prog 15 #[.agg #[v]] w fun e w' => e = .returned (.int .i64 xs.length) ∧ Below w.heap.size w w' := by
  obtain ⟨sa, cap, rfl, -⟩ := h
  go_enter Try.func15, Try.ntmps15
  go_wp2_with fail
  go_ret
  exact ⟨rfl, (Below.refl _ _).alloc (Nat.le_refl _) _⟩
set_option maxRecDepth 100000 in
theorem ps_List (v : Value) (xs : List Pf) (w : World) (h : PsAt w v xs) (hb : xs.length * 16 ≤ 140737488351232) :
    Calls Try.prog 12 #[.agg #[v]] w fun e w' => ∃ v', e = .returned v' ∧ PsAt w' v' xs ∧ Below w.heap.size w w' := by
  have HA := Lib.hid h
  obtain ⟨sa, cap, rfl, -⟩ := h
  go_enter Try.func12, Try.ntmps12
  go_upto_region 1 with (fail)
  obtain ⟨W0, hW0, q0, hB, -⟩ := boxC w #[.slice sa xs.length cap] 26
  rw [← hW0]
  clear hW0
  have c0 : W0.cell? ⟨w.heap.size, 0, none⟩ = some (.slice sa xs.length cap) := row_cell q0 0
  have CL := Lib.hid (ps_Clone _ xs W0 (HA.out.below hB) hb)
  have HB := Lib.hid hB
  clear q0 hB
  go_wp2_with fail
  refine CL.out.mono ?_
  rintro e w2 ⟨v2, rfl, o2, hb2⟩
  have P2 := Lib.hid o2.at
  have B2 := Lib.hid (below_on HB.out hb2)
  rcases own_slice o2.1 with ⟨rfl, h0⟩ | ⟨g, c, rfl⟩
  · clear o2 hb2 c0 h0
    go_wp2_with fail
    go_ret
    exact ⟨_, rfl, P2.out, B2.out⟩
  · clear o2 hb2 c0
    go_wp2_with fail
    go_ret
    exact ⟨_, rfl, P2.out, B2.out⟩
set_option maxRecDepth 100000 in
theorem ps_Has (v : Value) (xs : List Pf) (p : Pf) (w : World) (h : PsAt w v xs) (hs : Srt xs) : Calls Try.prog 14 #[.agg #[v], .agg #[.int .u32 p.1, .int .i64 p.2]] w fun e w' => e = .returned (.bool (decide (p ∈ xs))) ∧ Below w.heap.size w w' := by
  have HA := Lib.hid h
  obtain ⟨sa, cap, rfl, -⟩ := h
  have HS := Lib.hid hs
  clear hs
  go_enter Try.func14, Try.ntmps14
  go_upto_region 1 with (fail)
  obtain ⟨W0, hW0, q0, q1, hB⟩ := boxCC w #[.slice sa xs.length cap] 26 #[.int .u32 p.1, .int .i64 p.2] 35
  rw [← hW0]
  clear hW0
  have c0 : W0.cell? ⟨w.heap.size, 0, none⟩ = some (.slice sa xs.length cap) := row_cell q0 0
  have c1 : W0.cell? ⟨w.heap.size + 1, 0, none⟩ = some (.int .u32 p.1) := row_cell q1 0
  have c2 : W0.cell? ⟨w.heap.size + 1, 1, none⟩ = some (.int .i64 p.2) := row_cell q1 1
  have SE := Lib.hid (ps_Search _ xs p W0 (HA.out.below hB) HS.out)
  have HB := Lib.hid hB
  clear q0 q1 hB
  go_wp2_with fail
  refine SE.out.mono ?_
  rintro e w2 ⟨i, rfl, -, -, hb2⟩
  have B2 := Lib.hid (below_on HB.out hb2)
  clear hb2 c0 c1 c2 SE
  generalize hd : decide (p ∈ xs) = d
  have HD := Lib.hid hd
  clear hd
  go_wp2_with fail
  go_ret
  exact ⟨ret_bool HD.out.symm, B2.out⟩
/-! ### slices.Equal -/
def eqB (xs ys : List Pf) : Bool := decide (xs = ys)
theorem eq_no {xs ys : List Pf} {k : Nat} {x y : Pf} (hx : xs[k]? = some x) (hy : ys[k]? = some y) (h : x ≠ y) : xs ≠ ys := by
  intro e
  subst e
  rw [hx] at hy
  exact h (Option.some.inj hy)
theorem pair_neq (x y : Pf) : (!(x.1 == y.1 && x.2 == y.2)) = !decide (x = y) := by
  obtain ⟨a, b⟩ := x
  obtain ⟨c, d⟩ := y
  by_cases h1 : a = c <;> by_cases h2 : b = d <;> simp [h1, h2]
set_option maxHeartbeats 3200000 in
set_option maxRecDepth 100000 in
theorem ps_Equal (v u : Value) (xs ys : List Pf) (w : World) (h : PsAt w v xs) (k : PsAt w u ys) : Calls Try.prog 39 #[v, u] w fun e w' => e = .returned (.bool (decide (xs = ys))) ∧ Below w.heap.size w w' := by
  obtain ⟨sa, cap, rfl, hlc, hcm, hV⟩ := h
  obtain ⟨sb, cap2, rfl, hlc2, hcm2, hU⟩ := k
  have HV := Lib.hid hV
  have HU := Lib.hid hU
  unfold maxLen at hcm hcm2
  clear hV hU
  by_cases hl : xs.length = ys.length
  · have HL := Lib.hid hl
    have j0 : ((xs.length : Int) != (ys.length : Int)) = false := by simp [hl]
    clear hl
    go_enter Try.func39, Try.ntmps39
    go_wp2_with fail
    clear j0
    go_loopw [13] (fun k13 wr => ∃ k : Nat, k ≤ xs.length ∧ k13 = .int .i64 k ∧ Hid (xs.take k = ys.take k) ∧ Hid (Below w.heap.size w wr)) (fun k13 _ => xs.length - (intOf k13).toNat)
    case atStart => exact ⟨0, by omega, rfl, Lib.hid rfl, Lib.hid (Below.refl _ _)⟩
    case round =>
      obtain ⟨k, hk, rfl, E, B⟩ := hrel
      by_cases hlt : k < xs.length
      · obtain ⟨x, hx⟩ : ∃ x, xs[k]? = some x := ⟨_, List.getElem?_eq_getElem hlt⟩
        obtain ⟨y, hy⟩ : ∃ y, ys[k]? = some y := ⟨_, List.getElem?_eq_getElem (by rw [← HL.out]; exact hlt)⟩
        obtain ⟨b1, off1, hsa, hP⟩ := HV.out (by omega)
        obtain ⟨b2, off2, hsb, hQ⟩ := HU.out (by rw [← HL.out]; omega)
        subst hsa
        subst hsb
        obtain ⟨x0, x1⟩ := ps_two hP hx
        obtain ⟨y0, y1⟩ := ps_two hQ hy
        have x0 := (B.out.cell (size_lt x0)).trans x0
        have x1 := (B.out.cell (size_lt x1)).trans x1
        have y0 := (B.out.cell (size_lt y0)).trans y0
        have y1 := (B.out.cell (size_lt y1)).trans y1
        have i0 : (0 : Int) ≤ (k : Int) := by omega
        have i1 : (k : Int) < (xs.length : Int) := by omega
        have i2 : (k : Int) < (ys.length : Int) := by have := HL.out; omega
        have HX := Lib.hid hx
        have HY := Lib.hid hy
        clear hP hQ hx hy
        go_wp2_with fail
        by_cases he : x = y
        · have EQ : (!(x.1 == y.1 && x.2 == y.2)) = false := by rw [pair_neq]; simp [he]
          have E2 : Hid (xs.take (k + 1) = ys.take (k + 1)) := Lib.hid (by rw [List.take_add_one, List.take_add_one, E.out, HX.out, HY.out, he])
          clear he
          go_quiet (fail)
          rename_i nq
          obtain ⟨wq, hwq⟩ : ∃ W, W = wr.drewN nq := ⟨_, rfl⟩
          have B2 : Hid (Below w.heap.size w wq) := Lib.hid (by rw [hwq]; exact below_on B.out ⟨rfl, rfl, rfl, Nat.le_refl _, fun _ _ => rfl⟩)
          rw [← hwq]
          clear hwq x0 x1 y0 y1 EQ B
          go_wp2_with fail
          exact ⟨⟨k + 1, by omega, by go_num, E2, B2⟩, by simp [intOf]; omega⟩
        · have EQ : (!(x.1 == y.1 && x.2 == y.2)) = true := by rw [pair_neq]; simpa using he
          have NE : Hid (decide (xs = ys) = false) := Lib.hid (by simpa using eq_no HX.out HY.out he)
          clear he
          go_quiet (fail)
          rename_i nq
          obtain ⟨wq, hwq⟩ : ∃ W, W = wr.drewN nq := ⟨_, rfl⟩
          have B2 : Hid (Below w.heap.size w wq) := Lib.hid (by rw [hwq]; exact below_on B.out ⟨rfl, rfl, rfl, Nat.le_refl _, fun _ _ => rfl⟩)
          rw [← hwq]
          clear hwq x0 x1 y0 y1 EQ B
          go_wp2_with fail
          go_ret
          exact ⟨ret_bool NE.out.symm, B2.out⟩
      · obtain rfl : k = xs.length := by omega
        have YE : Hid (decide (xs = ys) = true) := Lib.hid (by
          have := E.out
          rw [List.take_length, List.take_of_length_le (by rw [HL.out]; omega)] at this
          simpa using this)
        clear E
        go_wp2_with fail
        go_ret
        exact ⟨ret_bool YE.out.symm, B.out⟩
  · have NE : Hid (decide (xs = ys) = false) := Lib.hid (by simp only [decide_eq_false_iff_not]; exact fun e => hl (by rw [e]))
    have j0 : ((xs.length : Int) != (ys.length : Int)) = true := by simp; omega
    clear hl
    go_enter Try.func39, Try.ntmps39
    go_wp2_with fail
    go_ret
    exact ⟨ret_bool NE.out.symm, Below.refl _ _⟩
set_option maxRecDepth 100000 in
theorem ps_Same (v u : Value) (xs ys : List Pf) (w : World) (h : PsAt w v xs) (k : PsAt w u ys) : Calls Try.prog 17 #[.agg #[v], .agg #[u]] w fun e w' => e = .returned (.bool (decide (xs = ys))) ∧ Below w.heap.size w w' := by
  have HA := Lib.hid h
  have HK := Lib.hid k
  obtain ⟨sa, cap, rfl, -⟩ := h
  obtain ⟨sb, cap2, rfl, -⟩ := k
  go_enter Try.func17, Try.ntmps17
  go_upto_region 1 with (fail)
  obtain ⟨W0, hW0, q0, q1, hB⟩ := boxCC w #[.slice sa xs.length cap] 26 #[.slice sb ys.length cap2] 26
  rw [← hW0]
  clear hW0
  have c0 : W0.cell? ⟨w.heap.size, 0, none⟩ = some (.slice sa xs.length cap) := row_cell q0 0
  have c1 : W0.cell? ⟨w.heap.size + 1, 0, none⟩ = some (.slice sb ys.length cap2) := row_cell q1 0
  have SE := Lib.hid (ps_Equal _ _ xs ys W0 (HA.out.below hB) (HK.out.below hB))
  have HB := Lib.hid hB
  clear q0 q1 hB
  generalize hd : decide (xs = ys) = d at SE
  have HD := Lib.hid hd
  clear hd
  go_wp2_with fail
  refine SE.out.mono ?_
  rintro e w2 ⟨rfl, hb2⟩
  have B2 := Lib.hid (below_on HB.out hb2)
  clear hb2 c0 c1 SE
  go_wp2_with fail
  go_ret
  exact ⟨ret_bool HD.out.symm, B2.out⟩
/-! ### slices.CompareFunc -/
def scmp : List Pf → List Pf → Int
  | [], [] => 0
  | [], _ :: _ => -1
  | _ :: _, [] => 1
  | x :: xs, y :: ys => if pcmp x y = 0 then scmp xs ys else pcmp x y
theorem scmp_step {xs ys : List Pf} {k : Nat} {x y : Pf} (hx : xs[k]? = some x) (hy : ys[k]? = some y) : scmp (xs.drop k) (ys.drop k) = if pcmp x y = 0 then scmp (xs.drop (k + 1)) (ys.drop (k + 1)) else pcmp x y := by
  obtain ⟨h1, rfl⟩ := List.getElem?_eq_some_iff.1 hx
  obtain ⟨h2, rfl⟩ := List.getElem?_eq_some_iff.1 hy
  rw [List.drop_eq_getElem_cons h1, List.drop_eq_getElem_cons h2]; rfl
theorem scmp_over {xs ys : List Pf} {k : Nat} {x : Pf} (hx : xs[k]? = some x) (hy : ys.length ≤ k) : scmp (xs.drop k) (ys.drop k) = 1 := by
  obtain ⟨h1, rfl⟩ := List.getElem?_eq_some_iff.1 hx
  rw [List.drop_eq_getElem_cons h1, List.drop_of_length_le hy]; rfl
theorem scmp_end {xs ys : List Pf} : scmp (xs.drop xs.length) (ys.drop xs.length) = if xs.length < ys.length then -1 else 0 := by
  rw [List.drop_length]
  split
  · rename_i h
    rw [List.drop_eq_getElem_cons h]; rfl
  · rw [List.drop_of_length_le (by omega)]; rfl
set_option maxHeartbeats 3200000 in
set_option maxRecDepth 100000 in
theorem ps_CompareF (v u : Value) (xs ys : List Pf) (w : World) (h : PsAt w v xs) (k : PsAt w u ys) : Calls Try.prog 38 #[v, u, .func (.func 13) #[] #[]] w fun e w' => e = .returned (.int .i64 (scmp xs ys)) ∧ Below w.heap.size w w' := by
  obtain ⟨sa, cap, rfl, hlc, hcm, hV⟩ := h
  obtain ⟨sb, cap2, rfl, hlc2, hcm2, hU⟩ := k
  have HV := Lib.hid hV
  have HU := Lib.hid hU
  unfold maxLen at hcm hcm2
  clear hV hU
  go_enter Try.func38, Try.ntmps38
  go_wp2_with fail
  go_loopw [13] (fun k13 wr => ∃ k : Nat, k ≤ xs.length ∧ k13 = .int .i64 k ∧ Hid (scmp xs ys = scmp (xs.drop k) (ys.drop k)) ∧ Hid (Below w.heap.size w wr)) (fun k13 _ => xs.length - (intOf k13).toNat)
  case atStart => exact ⟨0, by omega, rfl, Lib.hid rfl, Lib.hid (Below.refl _ _)⟩
  case round =>
    obtain ⟨k, hk, rfl, E, B⟩ := hrel
    by_cases hlt : k < xs.length
    · obtain ⟨x, hx⟩ : ∃ x, xs[k]? = some x := ⟨_, List.getElem?_eq_getElem hlt⟩
      obtain ⟨b1, off1, hsa, hP⟩ := HV.out (by omega)
      subst hsa
      obtain ⟨x0, x1⟩ := ps_two hP hx
      have x0 := (B.out.cell (size_lt x0)).trans x0
      have x1 := (B.out.cell (size_lt x1)).trans x1
      have i0 : (0 : Int) ≤ (k : Int) := by omega
      have i1 : (k : Int) < (xs.length : Int) := by omega
      have HX := Lib.hid hx
      clear hP hx
      go_upto_region 4 with (fail)
      obtain ⟨W1, hW1, c0, c1, hB1⟩ := box2 wr (.int .u32 x.1) (.int .i64 x.2) 35
      rw [← hW1]
      clear hW1 x0 x1
      by_cases hly : k < ys.length
      · obtain ⟨y, hy⟩ : ∃ y, ys[k]? = some y := ⟨_, List.getElem?_eq_getElem hly⟩
        obtain ⟨b2, off2, hsb, hQ⟩ := HU.out (by omega)
        subst hsb
        obtain ⟨y0, y1⟩ := ps_two hQ hy
        have y0 := cell_below ((B.out.cell (size_lt y0)).trans y0) hB1
        have y1 := cell_below ((B.out.cell (size_lt y1)).trans y1) hB1
        have i2 : (k : Int) < (ys.length : Int) := by omega
        have j0 : decide ((k : Int) ≥ (ys.length : Int)) = false := by simp; omega
        have HY := Lib.hid hy
        have B1 := Lib.hid (below_on B.out hB1)
        clear hQ hy hB1
        go_upto_region 7 with (fail)
        obtain ⟨W2, hW2, d0, d1, hB2⟩ := box2 W1 (.int .u32 y.1) (.int .i64 y.2) 35
        rw [← hW2]
        have c0 := cell_below c0 hB2
        have c1 := cell_below c1 hB2
        have B2 := Lib.hid (below_on B1.out hB2)
        have PC := Lib.hid (ps_Cmp x y W2)
        have ST := Lib.hid (E.out.trans (scmp_step HX.out HY.out))
        clear hW2 y0 y1 hB2 j0
        by_cases he : pcmp x y = 0
        · have E2 : Hid (scmp xs ys = scmp (xs.drop (k + 1)) (ys.drop (k + 1))) := Lib.hid (by rw [ST.out, if_pos he])
          have PB : (pcmp x y != 0) = false := by simpa using he
          clear he ST E
          generalize pcmp x y = c at PC PB
          go_wp2_with fail
          refine PC.out.mono ?_
          rintro e w3 ⟨rfl, hb3⟩
          have B3 := Lib.hid (below_on B2.out hb3)
          clear hb3 c0 c1 d0 d1 PC
          go_wp2_with fail
          exact ⟨⟨k + 1, by omega, by go_num, E2, B3⟩, by simp [intOf]; omega⟩
        · have E2 : Hid (scmp xs ys = pcmp x y) := Lib.hid (by rw [ST.out, if_neg he])
          have PB : (pcmp x y != 0) = true := by simpa using he
          clear he ST E
          generalize pcmp x y = c at PC PB E2
          go_wp2_with fail
          refine PC.out.mono ?_
          rintro e w3 ⟨rfl, hb3⟩
          have B3 := Lib.hid (below_on B2.out hb3)
          clear hb3 c0 c1 d0 d1 PC
          go_wp2_with fail
          go_ret
          exact ⟨ret_int E2.out.symm, B3.out⟩
      · have j0 : decide ((k : Int) ≥ (ys.length : Int)) = true := by simp; omega
        have E2 : Hid (scmp xs ys = 1) := Lib.hid (by rw [E.out, scmp_over HX.out (by omega)])
        have B1 := Lib.hid (below_on B.out hB1)
        clear E hB1
        go_wp2_with fail
        go_ret
        exact ⟨ret_int E2.out.symm, B1.out⟩
    · obtain rfl : k = xs.length := by omega
      have ST := Lib.hid (E.out.trans scmp_end)
      clear E
      by_cases hl : xs.length < ys.length
      · have E2 : Hid (scmp xs ys = -1) := Lib.hid (by rw [ST.out, if_pos hl])
        have j0 : decide (xs.length < ys.length) = true := by simpa using hl
        clear ST hl
        go_wp2_with fail
        go_ret
        exact ⟨ret_int E2.out.symm, B.out⟩
      · have E2 : Hid (scmp xs ys = 0) := Lib.hid (by rw [ST.out, if_neg hl])
        have j0 : decide (xs.length < ys.length) = false := by simpa using hl
        clear ST hl
        go_wp2_with fail
        go_ret
        exact ⟨ret_int E2.out.symm, B.out⟩
set_option maxRecDepth 100000 in
theorem ps_CmpS (v u : Value) (xs ys : List Pf) (w : World) (h : PsAt w v xs) (k : PsAt w u ys) : Calls Try.prog 16 #[.agg #[v], .agg #[u]] w fun e w' => e = .returned (.int .i64 (scmp xs ys)) ∧ Below w.heap.size w w' := by
  have HA := Lib.hid h
  have HK := Lib.hid k
  obtain ⟨sa, cap, rfl, -⟩ := h
  obtain ⟨sb, cap2, rfl, -⟩ := k
  go_enter Try.func16, Try.ntmps16
  go_upto_region 1 with (fail)
  obtain ⟨W0, hW0, q0, q1, hB⟩ := boxCC w #[.slice sa xs.length cap] 26 #[.slice sb ys.length cap2] 26
  rw [← hW0]
  clear hW0
  have c0 : W0.cell? ⟨w.heap.size, 0, none⟩ = some (.slice sa xs.length cap) := row_cell q0 0
  have c1 : W0.cell? ⟨w.heap.size + 1, 0, none⟩ = some (.slice sb ys.length cap2) := row_cell q1 0
  have SE := Lib.hid (ps_CompareF _ _ xs ys W0 (HA.out.below hB) (HK.out.below hB))
  have HB := Lib.hid hB
  clear q0 q1 hB
  generalize hd : scmp xs ys = d at SE
  have HD := Lib.hid hd
  clear hd
  go_wp2_with fail
  refine SE.out.mono ?_
  rintro e w2 ⟨rfl, hb2⟩
  have B2 := Lib.hid (below_on HB.out hb2)
  clear hb2 c0 c1 SE
  go_wp2_with fail
  go_ret
  exact ⟨ret_int HD.out.symm, B2.out⟩
/-! ### slices.ContainsFunc -/
def covB (xs : List Pf) (a : Int) : Bool := xs.any fun p => hasB p.1 p.2 a
def idxH (a : Int) : List Pf → Nat → Int
  | [], _ => -1
  | r :: rs, k => if hasB r.1 r.2 a = true then (k : Int) else idxH a rs (k + 1)
theorem idxH_step {a : Int} {rs : List Pf} {k : Nat} {r : Pf} (h : rs[k]? = some r) : idxH a (rs.drop k) k = if hasB r.1 r.2 a = true then (k : Int) else idxH a (rs.drop (k + 1)) (k + 1) := by
  obtain ⟨h1, h2⟩ := List.getElem?_eq_some_iff.1 h
  rw [List.drop_eq_getElem_cons h1, h2]; rfl
theorem idxH_has (a : Int) : ∀ (rs : List Pf) (k : Nat), decide (idxH a rs k ≥ 0) = covB rs a
  | [], k => by simp [idxH, covB]
  | r :: rs, k => by
    have ih := idxH_has a rs (k + 1)
    unfold idxH
    unfold covB at ih ⊢
    rw [List.any_cons]
    cases h : hasB r.1 r.2 a
    · simpa using ih
    · simp
set_option maxRecDepth 100000 in
theorem ps_has1 (p : Pf) (hp : OkP p) (a : Int) (ha0 : 0 ≤ a) (ha : a < 4294967296) (tb : Nat) (w : World) (ht : w.cell? ⟨tb, 0, none⟩ = some (.int .u32 a)) :
    Calls Try.prog 46 #[.agg #[.int .u32 p.1, .int .i64 p.2], .pointer (some ⟨tb, 0, none⟩)] w fun e w' => e = .returned (.bool (hasB p.1 p.2 a)) ∧ Below w.heap.size w w' := by
  go_enter Try.func46, Try.ntmps46
  go_upto_region 1 with (fail)
  obtain ⟨W0, hW0, c0, c1, hB⟩ := box2 w (.int .u32 p.1) (.int .i64 p.2) 35
  rw [← hW0]
  clear hW0
  have t0 := cell_below ht hB
  have CT := Lib.hid (ip_Has p.1 p.2 a W0 hp.1 hp.2 ha0 ha)
  have HB := Lib.hid hB
  clear ht hB
  generalize hz : hasB p.1 p.2 a = z at CT
  have HZ := Lib.hid hz
  clear hz
  go_wp2_with fail
  refine CT.out.mono ?_
  rintro e w1 ⟨rfl, hb1⟩
  have B1 := Lib.hid (below_on HB.out hb1)
  clear c0 c1 t0 hb1
  go_wp2_with fail
  go_ret
  exact ⟨ret_bool HZ.out.symm, B1.out⟩
set_option maxHeartbeats 3200000 in
set_option maxRecDepth 100000 in
theorem ps_IndexF (v : Value) (xs : List Pf) (a : Int) (ha0 : 0 ≤ a) (ha : a < 4294967296) (tb : Nat) (w : World) (h : PsAt w v xs) (ht : w.cell? ⟨tb, 0, none⟩ = some (.int .u32 a)) :
    Calls Try.prog 57 #[v, .func (.func 46) #[] #[.pointer (some ⟨tb, 0, none⟩)]] w fun e w' => e = .returned (.int .i64 (idxH a xs 0)) ∧ Below w.heap.size w w' := by
  have HA := Lib.hid h
  obtain ⟨sa, cap, rfl, hlc, hcm, hV⟩ := h
  have HV := Lib.hid hV
  have HT := Lib.hid ht
  unfold maxLen at hcm
  clear hV ht
  go_enter Try.func57, Try.ntmps57
  go_wp2_with fail
  go_loopw [8] (fun i wr => ∃ k : Nat, k ≤ xs.length ∧ i = .int .i64 k ∧ Hid (idxH a xs 0 = idxH a (xs.drop k) k) ∧ Hid (Below w.heap.size w wr)) (fun i _ => xs.length - (intOf i).toNat)
  case atStart => exact ⟨0, by omega, rfl, Lib.hid rfl, Lib.hid (Below.refl _ _)⟩
  case round =>
    obtain ⟨k, hk, rfl, E, B⟩ := hrel
    by_cases hlt : k < xs.length
    · obtain ⟨r, hr⟩ : ∃ r, xs[k]? = some r := ⟨_, List.getElem?_eq_getElem hlt⟩
      obtain ⟨b, off, hsa, hP⟩ := HV.out (by omega)
      subst hsa
      obtain ⟨x0, x1⟩ := ps_two hP hr
      have x0 := (B.out.cell (size_lt x0)).trans x0
      have x1 := (B.out.cell (size_lt x1)).trans x1
      have t0 := Lib.hid ((B.out.cell (size_lt HT.out)).trans HT.out)
      have P1 := Lib.hid (ps_has1 r (ps_ok HA.out r (List.mem_of_getElem? hr)) a ha0 ha tb wr t0.out)
      have E2 : Hid (idxH a xs 0 = if hasB r.1 r.2 a = true then (k : Int) else idxH a (xs.drop (k + 1)) (k + 1)) := Lib.hid (by rw [E.out, idxH_step hr])
      have j0 : (0 : Int) ≤ (k : Int) := by omega
      have j1 : (k : Int) < (xs.length : Int) := by omega
      clear hP hr E t0
      generalize hz : hasB r.1 r.2 a = z at P1 E2
      go_wp2_with fail
      refine P1.out.mono ?_
      rintro e w2 ⟨rfl, hb2⟩
      have B2 := Lib.hid (below_on B.out hb2)
      clear hb2 B x0 x1 P1 hz
      cases z
      · have E3 : Hid (idxH a xs 0 = idxH a (xs.drop (k + 1)) (k + 1)) := Lib.hid (by rw [E2.out, if_neg (by simp)])
        clear E2
        go_wp2_with fail
        exact ⟨⟨k + 1, by omega, by go_num, E3, B2⟩, by simp [intOf]; omega⟩
      · have E3 : Hid (idxH a xs 0 = (k : Int)) := Lib.hid (by rw [E2.out, if_pos rfl])
        clear E2
        go_wp2_with fail
        go_ret
        exact ⟨ret_int E3.out.symm, B2.out⟩
    · obtain rfl : xs.length = k := by omega
      have E3 : Hid (idxH a xs 0 = -1) := Lib.hid (by rw [E.out, List.drop_length]; rfl)
      clear E
      go_wp2_with fail
      go_ret
      exact ⟨ret_int E3.out.symm, B.out⟩
theorem ps_ContainsF (v : Value) (xs : List Pf) (a : Int) (ha0 : 0 ≤ a) (ha : a < 4294967296) (tb : Nat) (w : World) (h : PsAt w v xs) (ht : w.cell? ⟨tb, 0, none⟩ = some (.int .u32 a)) :
    Calls Try.prog 45 #[v, .func (.func 46) #[] #[.pointer (some ⟨tb, 0, none⟩)]] w fun e w' => e = .returned (.bool (covB xs a)) ∧ Below w.heap.size w w' := by
  have RI := Lib.hid (ps_IndexF v xs a ha0 ha tb w h ht)
  have EQ := Lib.hid (idxH_has a xs 0)
  generalize idxH a xs 0 = n at RI EQ
  clear h ht
  go_enter Try.func45, Try.ntmps45
  go_wp2_with fail
  refine RI.out.mono ?_
  rintro e w1 ⟨rfl, hb⟩
  go_wp2_with fail
  go_ret
  exact ⟨ret_bool EQ.out, hb⟩
set_option maxHeartbeats 1600000 in
set_option maxRecDepth 100000 in
theorem ps_Covers (v : Value) (xs : List Pf) (a : Int) (ha0 : 0 ≤ a) (ha : a < 4294967296) (w : World) (h : PsAt w v xs) : Calls Try.prog 24 #[.agg #[v], .int .u32 a] w fun e w' => e = .returned (.bool (covB xs a)) ∧ Below w.heap.size w w' := by
  have HA := Lib.hid h
  obtain ⟨sa, cap, rfl, -⟩ := h
  go_enter Try.func24, Try.ntmps24
  go_upto_region 1 with (fail)
  obtain ⟨W0, hW0, q0, q1, hB⟩ := boxCC w #[.slice sa xs.length cap] 26 #[.int .u32 a] 33
  rw [← hW0]
  clear hW0
  have c0 : W0.cell? ⟨w.heap.size, 0, none⟩ = some (.slice sa xs.length cap) := row_cell q0 0
  have c1 : W0.cell? ⟨w.heap.size + 1, 0, none⟩ = some (.int .u32 a) := row_cell q1 0
  have SE := Lib.hid (ps_ContainsF _ xs a ha0 ha _ W0 (HA.out.below hB) c1)
  have HB := Lib.hid hB
  clear q0 q1 hB c1
  generalize hd : covB xs a = d at SE
  have HD := Lib.hid hd
  clear hd
  go_wp2_with fail
  refine SE.out.mono ?_
  rintro e w2 ⟨rfl, hb2⟩
  have B2 := Lib.hid (below_on HB.out hb2)
  clear hb2 c0 SE
  go_wp2_with fail
  go_ret
  exact ⟨ret_bool HD.out.symm, B2.out⟩
end Go.Proofs.Ytaafeekkllomhaa
