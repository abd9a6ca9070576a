/-
  ATTRIBUTES: Same: whether two say the same.
-/
import Derived.Test.YtadlecnlgkhneaaAtP
import Derived.Test.YtadlecnlgkhneaaRg2
import Derived.Test.YtadlecnlgkhneaaRgS
import Derived.Deep.QuietTactic
import Derived.BigQuiet
import Derived.Deep.CutBlock
namespace Go.Proofs.Ytadlecnlgkhneaa
open Go.RowKit

set_option maxHeartbeats 3200000 in
set_option maxRecDepth 100000 in
theorem sl_EqI (v u : Value) (xs ys : List Int) (w : World) (h : IntsAt w v xs) (k : IntsAt w u ys) : Calls Try.prog 38 #[v, u] w fun e w' => e = .returned (.bool (decide (xs = ys))) ∧ Below w.heap.size w w' := by
  obtain ⟨sa, cap, rfl, hlc, hcm, hV⟩ := h
  obtain ⟨sb, cap2, rfl, hlc2, hcm2, hU⟩ := k
  have HV := Lib.hid hV
  have HU := Lib.hid hU
  unfold maxLen at hcm hcm2
  clear hV hU
  by_cases hl : xs.length = ys.length
  · have HL := Lib.hid hl
    have j0 : ((xs.length : Int) != (ys.length : Int)) = false := by simp [hl]
    clear hl
    go_enter Try.func38, Try.ntmps38
    go_wp2_with fail
    clear j0
    go_loopw [13] (fun k13 wr => ∃ k : Nat, k ≤ xs.length ∧ k13 = .int .i64 k ∧ Hid (xs.take k = ys.take k) ∧ Hid (Below w.heap.size w wr)) (fun k13 _ => xs.length - (intOf k13).toNat)
    case atStart => exact ⟨0, by omega, rfl, Lib.hid rfl, Lib.hid (Below.refl _ _)⟩
    case round =>
      obtain ⟨k, hk, rfl, E, B⟩ := hrel
      by_cases hlt : k < xs.length
      · obtain ⟨x, hx⟩ : ∃ x, xs[k]? = some x := ⟨_, List.getElem?_eq_getElem hlt⟩
        obtain ⟨y, hy⟩ : ∃ y, ys[k]? = some y := ⟨_, List.getElem?_eq_getElem (by rw [← HL.out]; exact hlt)⟩
        obtain ⟨b1, off1, hsa, hP⟩ := HV.out (by omega)
        obtain ⟨b2, off2, hsb, hQ⟩ := HU.out (by rw [← HL.out]; omega)
        subst hsa
        subst hsb
        obtain ⟨c1, _, ⟨rfl, _⟩, k1⟩ := hP k x hx
        obtain ⟨c2, _, ⟨rfl, _⟩, k2⟩ := hQ k y hy
        have x0 := k1 0 _ rfl
        have y0 := k2 0 _ rfl
        simp only [Nat.add_zero, Nat.mul_one] at x0 y0
        have x0 := (B.out.cell (size_lt x0)).trans x0
        have y0 := (B.out.cell (size_lt y0)).trans y0
        have i0 : (0 : Int) ≤ (k : Int) := by omega
        have i1 : (k : Int) < (xs.length : Int) := by omega
        have i2 : (k : Int) < (ys.length : Int) := by have := HL.out; omega
        have HX := Lib.hid hx
        have HY := Lib.hid hy
        clear hP hQ hx hy k1 k2
        go_wp2_with fail
        by_cases he : x = y
        · have EQ : (x != y) = false := by simp [he]
          have EQ2 : (x = y) = True := by simp [he]
          have E2 : Hid (xs.take (k + 1) = ys.take (k + 1)) := Lib.hid (by rw [List.take_add_one, List.take_add_one, E.out, HX.out, HY.out, he])
          clear he
          go_quiet (fail)
          rename_i nq
          obtain ⟨wq, hwq⟩ : ∃ W, W = wr.drewN nq := ⟨_, rfl⟩
          have B2 : Hid (Below w.heap.size w wq) := Lib.hid (by rw [hwq]; exact below_on B.out ⟨rfl, rfl, rfl, Nat.le_refl _, fun _ _ => rfl⟩)
          rw [← hwq]
          clear hwq x0 y0 EQ EQ2 B
          go_wp2_with fail
          exact ⟨⟨k + 1, by omega, by go_num, E2, B2⟩, by simp [intOf]; omega⟩
        · have EQ : (x != y) = true := by rw [bne_iff_ne]; intro e; exact he (by omega)
          have EQ2 : ¬ (x = y) := by exact he
          have NE : Hid (decide (xs = ys) = false) := Lib.hid (by simp only [decide_eq_false_iff_not]; intro e; subst e; have := HX.out.symm.trans HY.out; exact he (Option.some.inj this))
          clear he
          go_quiet (fail)
          rename_i nq
          obtain ⟨wq, hwq⟩ : ∃ W, W = wr.drewN nq := ⟨_, rfl⟩
          have B2 : Hid (Below w.heap.size w wq) := Lib.hid (by rw [hwq]; exact below_on B.out ⟨rfl, rfl, rfl, Nat.le_refl _, fun _ _ => rfl⟩)
          rw [← hwq]
          clear hwq x0 y0 EQ EQ2 B
          go_wp2_with fail
          go_ret
          exact ⟨ret_bool NE.out.symm, B2.out⟩
      · obtain rfl : xs.length = k := by omega
        have E3 : Hid (decide (xs = ys) = true) := Lib.hid (by
          have := E.out
          rw [List.take_length, HL.out, List.take_length] at this
          simpa using this)
        clear E
        go_wp2_with fail
        go_ret
        exact ⟨ret_bool E3.out.symm, B.out⟩
  · have j0 : ((xs.length : Int) != (ys.length : Int)) = true := by simp; omega
    have NE : Hid (decide (xs = ys) = false) := Lib.hid (by simp only [decide_eq_false_iff_not]; intro e; exact hl (by rw [e]))
    clear hl
    go_enter Try.func38, Try.ntmps38
    go_wp2_with fail
    go_ret
    exact ⟨ret_bool NE.out.symm, Below.refl _ _⟩

set_option maxHeartbeats 3200000 in
set_option maxRecDepth 100000 in
theorem sl_EqB (v u : Value) (xs ys : List Nat) (w : World) (h : BytesAt w v xs) (k : BytesAt w u ys) : Calls Try.prog 43 #[v, u] w fun e w' => e = .returned (.bool (decide (xs = ys))) ∧ Below w.heap.size w w' := by
  obtain ⟨sa, cap, rfl, hlc, hcm, hV⟩ := h
  obtain ⟨sb, cap2, rfl, hlc2, hcm2, hU⟩ := k
  have HV := Lib.hid hV
  have HU := Lib.hid hU
  unfold maxLen at hcm hcm2
  clear hV hU
  by_cases hl : xs.length = ys.length
  · have HL := Lib.hid hl
    have j0 : ((xs.length : Int) != (ys.length : Int)) = false := by simp [hl]
    clear hl
    go_enter Try.func43, Try.ntmps43
    go_wp2_with fail
    clear j0
    go_loopw [13] (fun k13 wr => ∃ k : Nat, k ≤ xs.length ∧ k13 = .int .i64 k ∧ Hid (xs.take k = ys.take k) ∧ Hid (Below w.heap.size w wr)) (fun k13 _ => xs.length - (intOf k13).toNat)
    case atStart => exact ⟨0, by omega, rfl, Lib.hid rfl, Lib.hid (Below.refl _ _)⟩
    case round =>
      obtain ⟨k, hk, rfl, E, B⟩ := hrel
      by_cases hlt : k < xs.length
      · obtain ⟨x, hx⟩ : ∃ x, xs[k]? = some x := ⟨_, List.getElem?_eq_getElem hlt⟩
        obtain ⟨y, hy⟩ : ∃ y, ys[k]? = some y := ⟨_, List.getElem?_eq_getElem (by rw [← HL.out]; exact hlt)⟩
        obtain ⟨b1, off1, hsa, hP⟩ := HV.out (by omega)
        obtain ⟨b2, off2, hsb, hQ⟩ := HU.out (by rw [← HL.out]; omega)
        subst hsa
        subst hsb
        obtain ⟨c1, _, ⟨rfl, _⟩, k1⟩ := hP k x hx
        obtain ⟨c2, _, ⟨rfl, _⟩, k2⟩ := hQ k y hy
        have x0 := k1 0 _ rfl
        have y0 := k2 0 _ rfl
        simp only [Nat.add_zero, Nat.mul_one] at x0 y0
        have x0 := (B.out.cell (size_lt x0)).trans x0
        have y0 := (B.out.cell (size_lt y0)).trans y0
        have i0 : (0 : Int) ≤ (k : Int) := by omega
        have i1 : (k : Int) < (xs.length : Int) := by omega
        have i2 : (k : Int) < (ys.length : Int) := by have := HL.out; omega
        have HX := Lib.hid hx
        have HY := Lib.hid hy
        clear hP hQ hx hy k1 k2
        go_wp2_with fail
        by_cases he : x = y
        · have EQ : ((x : Int) != (y : Int)) = false := by simp [he]
          have EQ2 : ((x : Int) = (y : Int)) = True := by simp [he]
          have E2 : Hid (xs.take (k + 1) = ys.take (k + 1)) := Lib.hid (by rw [List.take_add_one, List.take_add_one, E.out, HX.out, HY.out, he])
          clear he
          go_quiet (fail)
          rename_i nq
          obtain ⟨wq, hwq⟩ : ∃ W, W = wr.drewN nq := ⟨_, rfl⟩
          have B2 : Hid (Below w.heap.size w wq) := Lib.hid (by rw [hwq]; exact below_on B.out ⟨rfl, rfl, rfl, Nat.le_refl _, fun _ _ => rfl⟩)
          rw [← hwq]
          clear hwq x0 y0 EQ EQ2 B
          go_wp2_with fail
          exact ⟨⟨k + 1, by omega, by go_num, E2, B2⟩, by simp [intOf]; omega⟩
        · have EQ : ((x : Int) != (y : Int)) = true := by rw [bne_iff_ne]; intro e; exact he (by omega)
          have EQ2 : ¬ ((x : Int) = (y : Int)) := by intro e; exact he (by omega)
          have NE : Hid (decide (xs = ys) = false) := Lib.hid (by simp only [decide_eq_false_iff_not]; intro e; subst e; have := HX.out.symm.trans HY.out; exact he (Option.some.inj this))
          clear he
          go_quiet (fail)
          rename_i nq
          obtain ⟨wq, hwq⟩ : ∃ W, W = wr.drewN nq := ⟨_, rfl⟩
          have B2 : Hid (Below w.heap.size w wq) := Lib.hid (by rw [hwq]; exact below_on B.out ⟨rfl, rfl, rfl, Nat.le_refl _, fun _ _ => rfl⟩)
          rw [← hwq]
          clear hwq x0 y0 EQ EQ2 B
          go_wp2_with fail
          go_ret
          exact ⟨ret_bool NE.out.symm, B2.out⟩
      · obtain rfl : xs.length = k := by omega
        have E3 : Hid (decide (xs = ys) = true) := Lib.hid (by
          have := E.out
          rw [List.take_length, HL.out, List.take_length] at this
          simpa using this)
        clear E
        go_wp2_with fail
        go_ret
        exact ⟨ret_bool E3.out.symm, B.out⟩
  · have j0 : ((xs.length : Int) != (ys.length : Int)) = true := by simp; omega
    have NE : Hid (decide (xs = ys) = false) := Lib.hid (by simp only [decide_eq_false_iff_not]; intro e; exact hl (by rw [e]))
    clear hl
    go_enter Try.func43, Try.ntmps43
    go_wp2_with fail
    go_ret
    exact ⟨ret_bool NE.out.symm, Below.refl _ _⟩
end Go.Proofs.Ytadlecnlgkhneaa
