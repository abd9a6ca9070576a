/- Texts of one proof, one behind another. -/
import Derived.Test.YtohkbcdnlmjcjaaDoorWr1
import Derived.Laws.BitsAllLaws
import Derived.IntWalk
/-
  ATTRIBUTES: what is in its bounds: within, goodHop, goodPath, goodComms; good, zero.
-/
namespace Go.Proofs.YtohkbcdnlmjcjaaDoor
open Go.RowKit

def withinB (n m : Int) : Bool := decide (0 ≤ n) && decide (n ≤ m)
set_option maxRecDepth 100000 in
theorem at_within (n m : Int) (w : World) : Calls Tryd.prog 58 #[.int .i64 n, .int .i64 m] w fun e w' => e = .returned (.bool (withinB n m)) ∧ w = w' := by
  cases h1 : decide (0 ≤ n)
  · have K : Hid (withinB n m = false) := Lib.hid (by unfold withinB; rw [h1]; rfl)
    go_enter Tryd.func58, Tryd.ntmps58
    go_wp2
    go_ret
    exact ⟨ret_bool K.out.symm, rfl⟩
  · have K : Hid (withinB n m = decide (n ≤ m)) := Lib.hid (by unfold withinB; rw [h1]; rfl)
    go_enter Tryd.func58, Tryd.ntmps58
    go_wp2
    go_ret
    exact ⟨ret_bool K.out.symm, rfl⟩
def hopB (h : Nat) : Bool := ((h : Int) / 2 ^ 24 != 0) && ((h : Int) / 2 ^ 24 != 127) && decide ((h : Int) / 2 ^ 24 < 224)
set_option maxRecDepth 100000 in
theorem at_goodHop (h : Nat) (w : World) : Calls Tryd.prog 60 #[.int .u32 h] w fun e w' => e = .returned (.bool (hopB h)) ∧ w = w' := by
  cases h1 : ((h : Int) / 2 ^ 24 != 0)
  · have K : Hid (hopB h = false) := Lib.hid (by unfold hopB; rw [h1]; rfl)
    have h1' : ((h : Int) / 16777216 != 0) = false := h1
    clear h1
    go_enter Tryd.func60, Tryd.ntmps60
    go_wp2
    go_ret
    exact ⟨ret_bool K.out.symm, rfl⟩
  · cases h2 : ((h : Int) / 2 ^ 24 != 127)
    · have K : Hid (hopB h = false) := Lib.hid (by unfold hopB; rw [h1, h2]; rfl)
      have h1' : ((h : Int) / 16777216 != 0) = true := h1
      have h2' : ((h : Int) / 16777216 != 127) = false := h2
      clear h1 h2
      go_enter Tryd.func60, Tryd.ntmps60
      go_wp2
      go_ret
      exact ⟨ret_bool K.out.symm, rfl⟩
    · have K : Hid (hopB h = decide ((h : Int) / 16777216 < 224)) := Lib.hid (by unfold hopB; rw [h1, h2]; rfl)
      have h1' : ((h : Int) / 16777216 != 0) = true := h1
      have h2' : ((h : Int) / 16777216 != 127) = true := h2
      clear h1 h2
      go_enter Tryd.func60, Tryd.ntmps60
      go_wp2
      go_ret
      exact ⟨ret_bool K.out.symm, rfl⟩
def asB (x : Int) : Bool := decide (1 ≤ x) && decide (x ≤ 65535)
def segB (s : Sg) : Bool := (decide (1 ≤ s.2.length) && decide (s.2.length ≤ 255)) && s.2.all asB
def pathB (p : List Sg) : Bool := p.all segB
def commsB (c : List Int) : Bool := c.all (withinB · 4294967295) && decide (c.length ≤ 256)
set_option maxRecDepth 100000 in
theorem all_drop {α : Type} {q : α → Bool} {l : List α} {k : Nat} {x : α} (hx : l[k]? = some x) : (l.drop k).all q = (q x && (l.drop (k + 1)).all q) := by
  obtain ⟨h1, h2⟩ := List.getElem?_eq_some_iff.1 hx
  rw [List.drop_eq_getElem_cons h1, List.all_cons, h2]
set_option maxHeartbeats 1600000 in
set_option maxRecDepth 100000 in
theorem at_goodPath (v : Value) (p : List Sg) (w : World) (hP : PathAt w v p) : Calls Tryd.prog 59 #[v] w fun e w' => e = .returned (.bool (pathB p)) ∧ Below w.heap.size w w' := by
  obtain ⟨sa, cap, rfl, hlc, hcm, hV⟩ := hP
  have HV := Lib.hid hV
  unfold maxLen at hcm
  clear hV
  go_enter Tryd.func59, Tryd.ntmps59
  go_wp2_with fail
  go_loopw [9] (fun i wr => ∃ k : Nat, k ≤ p.length ∧ i = .int .i64 k ∧ Hid (pathB p = (p.drop k).all segB) ∧ Below w.heap.size w wr) (fun i _ => p.length - (intOf i).toNat)
  case atStart => exact ⟨0, by omega, rfl, Lib.hid rfl, Below.refl _ _⟩
  case round =>
    obtain ⟨k, hk, rfl, E, hb⟩ := hrel
    by_cases hlt : k < p.length
    · obtain ⟨s, hs⟩ : ∃ s, p[k]? = some s := ⟨_, List.getElem?_eq_getElem hlt⟩
      obtain ⟨b, off, hsa, hP⟩ := HV.out (by omega)
      subst hsa
      obtain ⟨cs, _, ⟨u, rfl, sb, cb, rfl, hl1, hl2, hL⟩, hc⟩ := hP k s hs
      have d0 := (hb.cell (size_lt (hc 0 _ rfl))).trans (hc 0 _ rfl)
      have d1 := (hb.cell (size_lt (hc 1 _ rfl))).trans (hc 1 _ rfl)
      simp only [Nat.add_zero] at d0
      have E2 : Hid (pathB p = (segB s && (p.drop (k + 1)).all segB)) := Lib.hid (by rw [E.out, all_drop hs])
      have HL := Lib.hid hL
      obtain ⟨set, ss⟩ := s
      simp only at d0 d1 hl1 hl2 E2 HL
      unfold maxLen at hl2
      clear hP hc hs E hL
      have hB : Hid (∀ o, Below w.heap.size w (wr.alloc o)) := Lib.hid fun o => hb.alloc hb.size o
      by_cases h1 : 1 ≤ ss.length
      · by_cases h2 : ss.length ≤ 255
        · have E3 : Hid (pathB p = (ss.all asB && (p.drop (k + 1)).all segB)) := Lib.hid (by rw [E2.out]; unfold segB; simp only [h1, h2, decide_true, Bool.true_and])
          clear E2
          obtain ⟨b', off', hsb, hQ⟩ := HL.out (by omega)
          subst hsb
          have HQ := Lib.hid hQ
          clear hQ HL
          go_upto_region 4 with (fail)
          obtain ⟨W1, hW1⟩ : ∃ W1, W1 = wr.alloc (.cells #[.bool set, .slice (some ⟨b', off', none⟩) ss.length cb] 32) := ⟨_, rfl⟩
          have hb1 : Below w.heap.size w W1 := by rw [hW1]; exact hB.out _
          have z1 : W1.cell? ⟨wr.heap.size, 1, none⟩ = some (.slice (some ⟨b', off', none⟩) ss.length cb) := by rw [hW1]; simp
          rw [← hW1]
          clear hW1 hB d0 d1 hb
          go_wp2_with fail
          go_loopw [26] (fun i wr => ∃ j : Nat, j ≤ ss.length ∧ i = .int .i64 j ∧ Hid (ss.all asB = (ss.drop j).all asB) ∧ wr = W1) (fun i _ => ss.length - (intOf i).toNat)
          case atStart => exact ⟨0, by omega, rfl, Lib.hid rfl, rfl⟩
          case round =>
            obtain ⟨j, hj, rfl, F, rfl⟩ := hrel
            by_cases hjl : j < ss.length
            · obtain ⟨x, hx⟩ : ∃ x, ss[j]? = some x := ⟨_, List.getElem?_eq_getElem hjl⟩
              obtain ⟨cs, _, ⟨rfl, _⟩, hc⟩ := HQ.out j x hx
              have f0 := (hb1.cell (size_lt (hc 0 _ rfl))).trans (hc 0 _ rfl)
              simp only [Nat.add_zero, Nat.mul_one] at f0
              have F2 : Hid (ss.all asB = (asB x && (ss.drop (j + 1)).all asB)) := Lib.hid (by rw [F.out, all_drop hx])
              clear hc hx F
              by_cases x1 : 1 ≤ x
              · by_cases x2 : x ≤ 65535
                · have F3 : Hid (ss.all asB = (ss.drop (j + 1)).all asB) := Lib.hid (by rw [F2.out]; unfold asB; simp only [x1, x2, decide_true, Bool.true_and])
                  go_wp2_with fail
                  exact ⟨⟨j + 1, by omega, by go_num, F3, by first | rfl | trivial⟩, by simp [intOf]; omega⟩
                · have F3 : Hid (pathB p = false) := Lib.hid (by rw [E3.out, F2.out]; unfold asB; simp only [x2, decide_false, Bool.and_false, Bool.false_and])
                  go_wp2_with fail
                  go_ret
                  exact ⟨ret_bool F3.out.symm, hb1⟩
              · have F3 : Hid (pathB p = false) := Lib.hid (by rw [E3.out, F2.out]; unfold asB; simp only [x1, decide_false, Bool.false_and])
                go_wp2_with fail
                go_ret
                exact ⟨ret_bool F3.out.symm, hb1⟩
            · obtain rfl : j = ss.length := by omega
              have E4 : Hid (pathB p = (p.drop (k + 1)).all segB) := Lib.hid (by rw [E3.out, F.out, List.drop_length]; rfl)
              clear F
              go_wp2_with fail
              exact ⟨⟨k + 1, by omega, by go_num, E4, hb1⟩, by simp [intOf]; omega⟩
        · have E3 : Hid (pathB p = false) := Lib.hid (by rw [E2.out]; unfold segB; simp only [h2, decide_false, Bool.and_false, Bool.false_and])
          go_wp2_with fail
          go_ret
          exact ⟨ret_bool E3.out.symm, hB.out _⟩
      · have E3 : Hid (pathB p = false) := Lib.hid (by rw [E2.out]; unfold segB; simp only [h1, decide_false, Bool.false_and])
        have h0 : (ss.length : Int) < 1 := by omega
        go_wp2_with fail
        go_ret
        exact ⟨ret_bool E3.out.symm, hB.out _⟩
    · obtain rfl : k = p.length := by omega
      have E3 : Hid (pathB p = true) := Lib.hid (by rw [E.out, List.drop_length]; rfl)
      clear E
      go_wp2_with fail
      go_ret
      exact ⟨ret_bool E3.out.symm, hb⟩
set_option maxHeartbeats 1600000 in
set_option maxRecDepth 100000 in
theorem at_goodComms (v : Value) (p : List Int) (w : World) (hP : IntsAt w v p) : Calls Tryd.prog 61 #[v] w fun e w' => e = .returned (.bool (commsB p)) ∧ w = w' := by
  obtain ⟨sa, cap, rfl, hlc, hcm, hV⟩ := hP
  have HV := Lib.hid hV
  unfold maxLen at hcm
  clear hV
  go_enter Tryd.func61, Tryd.ntmps61
  go_wp2_with fail
  go_loop [7] (fun i => ∃ k : Nat, k ≤ p.length ∧ i = .int .i64 k ∧ Hid (commsB p = ((p.drop k).all (withinB · 4294967295) && decide (p.length ≤ 256)))) (fun i => p.length - (intOf i).toNat)
  case atStart => exact ⟨0, by omega, rfl, Lib.hid rfl⟩
  case round =>
    obtain ⟨k, hk, rfl, E⟩ := hrel
    by_cases hlt : k < p.length
    · obtain ⟨x, hs⟩ : ∃ s, p[k]? = some s := ⟨_, List.getElem?_eq_getElem hlt⟩
      obtain ⟨b, off, hsa, hP⟩ := HV.out (by omega)
      subst hsa
      obtain ⟨cs, _, ⟨rfl, _⟩, hc⟩ := hP k x hs
      have d0 := hc 0 _ rfl
      simp only [Nat.add_zero, Nat.mul_one] at d0
      have E2 : Hid (commsB p = ((withinB x 4294967295 && (p.drop (k + 1)).all (withinB · 4294967295)) && decide (p.length ≤ 256))) := Lib.hid (by rw [E.out, all_drop hs])
      have WI := Lib.hid (at_within x 4294967295)
      clear hP hc hs E
      cases hw : withinB x 4294967295
      · have E3 : Hid (commsB p = false) := Lib.hid (by rw [E2.out, hw]; rfl)
        rw [hw] at WI
        clear hw E2
        go_wp2_with fail
        refine (WI.out _).mono ?_
        rintro e w1 ⟨rfl, rfl⟩
        go_wp2_with fail
        go_ret
        exact ⟨ret_bool E3.out.symm, rfl⟩
      · have E3 : Hid (commsB p = ((p.drop (k + 1)).all (withinB · 4294967295) && decide (p.length ≤ 256))) := Lib.hid (by rw [E2.out, hw]; rfl)
        rw [hw] at WI
        clear hw E2
        go_wp2_with fail
        refine (WI.out _).mono ?_
        rintro e w1 ⟨rfl, rfl⟩
        go_wp2_with fail
        exact ⟨⟨k + 1, by omega, by go_num, E3⟩, by simp [intOf]; omega⟩
    · obtain rfl : k = p.length := by omega
      have E3 : Hid (commsB p = decide (p.length ≤ 256)) := Lib.hid (by rw [E.out, List.drop_length]; rfl)
      clear E
      by_cases h2 : p.length ≤ 256
      · have E4 : Hid (commsB p = true) := Lib.hid (by rw [E3.out]; simpa using h2)
        go_wp2_with fail
        go_ret
        exact ⟨ret_bool (by rw [E4.out]; simp; omega), rfl⟩
      · have E4 : Hid (commsB p = false) := Lib.hid (by rw [E3.out]; simpa using h2)
        go_wp2_with fail
        go_ret
        exact ⟨ret_bool (by rw [E4.out]; simp; omega), rfl⟩
/-- is the value of a known attribute in its bounds? -/
def goodB (a : At) : Nat → Bool
  | 1 => withinB a.origin 2
  | 2 => pathB a.path
  | 3 => hopB a.hop
  | 4 => withinB a.med 4294967295
  | 5 => withinB a.loc 4294967295
  | 7 => withinB a.aggrAs 65535
  | 8 => commsB a.comms
  | _ => true
/-- is it zero? -/
def zeroB (a : At) : Nat → Bool
  | 1 => a.origin == 0
  | 2 => ((a.path.length : Nat) : Int) == 0
  | 3 => (a.hop : Int) == 0
  | 4 => a.med == 0
  | 5 => a.loc == 0
  | 7 => (a.aggrAs == 0) && ((a.aggrId : Int) == 0)
  | 8 => ((a.comms.length : Nat) : Int) == 0
  | _ => true
set_option maxHeartbeats 3200000 in
set_option maxRecDepth 100000 in
theorem at_good (a : At) (vp vc vo : Value) (t : Nat) (h1 : 1 ≤ t) (h8 : t ≤ 8) (w : World) (hA : AtL w a vp vc vo) :
    Calls Tryd.prog 37 #[.agg #[.int .i64 a.has, .int .i64 a.origin, vp, .int .u32 a.hop, .int .i64 a.med, .int .i64 a.loc, .int .i64 a.aggrAs, .int .u32 a.aggrId, vc, vo], .int .i64 t] w fun e w' => e = .returned (.bool (goodB a t)) ∧ Below w.heap.size w w' := by
  obtain ⟨hP, hC, _⟩ := hA
  have HP := Lib.hid hP
  have HC := Lib.hid hC
  have WI := Lib.hid at_within
  have HO := Lib.hid (at_goodHop a.hop)
  have GP := Lib.hid (fun w h => at_goodPath vp a.path w h)
  have GC := Lib.hid (fun w h => at_goodComms vc a.comms w h)
  clear hP hC
  obtain ⟨W0, hW0, q, hb0, _⟩ := boxA w (.int .i64 a.has) (.int .i64 a.origin) vp (.int .u32 a.hop) (.int .i64 a.med) (.int .i64 a.loc) (.int .i64 a.aggrAs) (.int .u32 a.aggrId) vc vo
  have y1 : W0.cell? ⟨w.heap.size, 1, none⟩ = some (.int .i64 a.origin) := row_cell q 1
  have y2 : W0.cell? ⟨w.heap.size, 2, none⟩ = some vp := row_cell q 2
  have y3 : W0.cell? ⟨w.heap.size, 3, none⟩ = some (.int .u32 a.hop) := row_cell q 3
  have y4 : W0.cell? ⟨w.heap.size, 4, none⟩ = some (.int .i64 a.med) := row_cell q 4
  have y5 : W0.cell? ⟨w.heap.size, 5, none⟩ = some (.int .i64 a.loc) := row_cell q 5
  have y6 : W0.cell? ⟨w.heap.size, 6, none⟩ = some (.int .i64 a.aggrAs) := row_cell q 6
  have y8 : W0.cell? ⟨w.heap.size, 8, none⟩ = some vc := row_cell q 8
  clear q
  have HP1 := Lib.hid (HP.out.below hb0)
  have HC1 := Lib.hid (HC.out.below hb0)
  have HW := Lib.hid hW0
  clear hW0
  revert h1 h8
  match t with
  | 0 => intro h1; omega
  | 1 =>
    intro _ _
    go_enter Tryd.func37, Tryd.ntmps37
    go_upto_region 1 with (fail)
    rw [← HW.out]
    go_wp2_with fail
    refine (WI.out _ _ _).mono ?_
    rintro e w1 ⟨rfl, rfl⟩
    go_wp2_with fail
    go_ret
    exact ⟨rfl, hb0⟩
  | 2 =>
    intro _ _
    go_enter Tryd.func37, Tryd.ntmps37
    go_upto_region 1 with (fail)
    rw [← HW.out]
    go_wp2_with fail
    refine (GP.out _ HP1.out).mono ?_
    rintro e w1 ⟨rfl, hb⟩
    go_wp2_with fail
    go_ret
    exact ⟨rfl, below_on hb0 hb⟩
  | 3 =>
    intro _ _
    go_enter Tryd.func37, Tryd.ntmps37
    go_upto_region 1 with (fail)
    rw [← HW.out]
    go_wp2_with fail
    refine (HO.out _).mono ?_
    rintro e w1 ⟨rfl, rfl⟩
    go_wp2_with fail
    go_ret
    exact ⟨rfl, hb0⟩
  | 4 =>
    intro _ _
    go_enter Tryd.func37, Tryd.ntmps37
    go_upto_region 1 with (fail)
    rw [← HW.out]
    go_wp2_with fail
    refine (WI.out _ _ _).mono ?_
    rintro e w1 ⟨rfl, rfl⟩
    go_wp2_with fail
    go_ret
    exact ⟨rfl, hb0⟩
  | 5 =>
    intro _ _
    go_enter Tryd.func37, Tryd.ntmps37
    go_upto_region 1 with (fail)
    rw [← HW.out]
    go_wp2_with fail
    refine (WI.out _ _ _).mono ?_
    rintro e w1 ⟨rfl, rfl⟩
    go_wp2_with fail
    go_ret
    exact ⟨rfl, hb0⟩
  | 7 =>
    intro _ _
    go_enter Tryd.func37, Tryd.ntmps37
    go_upto_region 1 with (fail)
    rw [← HW.out]
    go_wp2_with fail
    refine (WI.out _ _ _).mono ?_
    rintro e w1 ⟨rfl, rfl⟩
    go_wp2_with fail
    go_ret
    exact ⟨rfl, hb0⟩
  | 6 =>
    intro _ _
    go_enter Tryd.func37, Tryd.ntmps37
    go_upto_region 1 with (fail)
    rw [← HW.out]
    go_wp2_with fail
    go_ret
    exact ⟨rfl, hb0⟩
  | 8 =>
    intro _ _
    go_enter Tryd.func37, Tryd.ntmps37
    go_upto_region 1 with (fail)
    rw [← HW.out]
    go_wp2_with fail
    refine (GC.out _ HC1.out).mono ?_
    rintro e w1 ⟨rfl, rfl⟩
    go_wp2_with fail
    go_ret
    exact ⟨rfl, hb0⟩
  | t + 9 => intro _ h; omega
set_option maxHeartbeats 3200000 in
set_option maxRecDepth 100000 in
theorem at_zero (a : At) (vp vc vo : Value) (t : Nat) (h1 : 1 ≤ t) (h8 : t ≤ 8) (w : World) (hA : AtL w a vp vc vo) :
    Calls Tryd.prog 38 #[.agg #[.int .i64 a.has, .int .i64 a.origin, vp, .int .u32 a.hop, .int .i64 a.med, .int .i64 a.loc, .int .i64 a.aggrAs, .int .u32 a.aggrId, vc, vo], .int .i64 t] w fun e w' => e = .returned (.bool (zeroB a t)) ∧ Below w.heap.size w w' := by
  obtain ⟨⟨sp, cp, rfl, _⟩, ⟨sc, cc, rfl, _⟩, _⟩ := hA
  obtain ⟨W0, hW0, q, hb0, _⟩ := boxA w (.int .i64 a.has) (.int .i64 a.origin) (.slice sp a.path.length cp) (.int .u32 a.hop) (.int .i64 a.med) (.int .i64 a.loc) (.int .i64 a.aggrAs) (.int .u32 a.aggrId) (.slice sc a.comms.length cc) vo
  have y1 : W0.cell? ⟨w.heap.size, 1, none⟩ = some (.int .i64 a.origin) := row_cell q 1
  have y2 : W0.cell? ⟨w.heap.size, 2, none⟩ = some (.slice sp a.path.length cp) := row_cell q 2
  have y3 : W0.cell? ⟨w.heap.size, 3, none⟩ = some (.int .u32 a.hop) := row_cell q 3
  have y4 : W0.cell? ⟨w.heap.size, 4, none⟩ = some (.int .i64 a.med) := row_cell q 4
  have y5 : W0.cell? ⟨w.heap.size, 5, none⟩ = some (.int .i64 a.loc) := row_cell q 5
  have y6 : W0.cell? ⟨w.heap.size, 6, none⟩ = some (.int .i64 a.aggrAs) := row_cell q 6
  have y7 : W0.cell? ⟨w.heap.size, 7, none⟩ = some (.int .u32 a.aggrId) := row_cell q 7
  have y8 : W0.cell? ⟨w.heap.size, 8, none⟩ = some (.slice sc a.comms.length cc) := row_cell q 8
  clear q
  have HW := Lib.hid hW0
  clear hW0
  revert h1 h8
  match t with
  | 0 => intro h1; omega
  | 1 =>
    intro _ _
    go_enter Tryd.func38, Tryd.ntmps38
    go_upto_region 1 with (fail)
    rw [← HW.out]
    go_wp2_with fail
    go_ret
    exact ⟨ret_bool (by simp [zeroB]), hb0⟩
  | 2 =>
    intro _ _
    go_enter Tryd.func38, Tryd.ntmps38
    go_upto_region 1 with (fail)
    rw [← HW.out]
    go_wp2_with fail
    go_ret
    exact ⟨ret_bool (by simp [zeroB]), hb0⟩
  | 3 =>
    intro _ _
    go_enter Tryd.func38, Tryd.ntmps38
    go_upto_region 1 with (fail)
    rw [← HW.out]
    go_wp2_with fail
    go_ret
    exact ⟨ret_bool (by simp [zeroB]), hb0⟩
  | 4 =>
    intro _ _
    go_enter Tryd.func38, Tryd.ntmps38
    go_upto_region 1 with (fail)
    rw [← HW.out]
    go_wp2_with fail
    go_ret
    exact ⟨ret_bool (by simp [zeroB]), hb0⟩
  | 5 =>
    intro _ _
    go_enter Tryd.func38, Tryd.ntmps38
    go_upto_region 1 with (fail)
    rw [← HW.out]
    go_wp2_with fail
    go_ret
    exact ⟨ret_bool (by simp [zeroB]), hb0⟩
  | 6 =>
    intro _ _
    go_enter Tryd.func38, Tryd.ntmps38
    go_upto_region 1 with (fail)
    rw [← HW.out]
    go_wp2_with fail
    go_ret
    exact ⟨ret_bool (by simp [zeroB]), hb0⟩
  | 8 =>
    intro _ _
    go_enter Tryd.func38, Tryd.ntmps38
    go_upto_region 1 with (fail)
    rw [← HW.out]
    go_wp2_with fail
    go_ret
    exact ⟨ret_bool (by simp [zeroB]), hb0⟩
  | 7 =>
    intro _ _
    cases hz : (a.aggrAs == 0)
    · have E : Hid (zeroB a 7 = false) := Lib.hid (by unfold zeroB; rw [hz]; rfl)
      go_enter Tryd.func38, Tryd.ntmps38
      go_upto_region 1 with (fail)
      rw [← HW.out]
      go_wp2_with fail
      go_ret
      exact ⟨ret_bool E.out.symm, hb0⟩
    · have E : Hid (zeroB a 7 = ((a.aggrId : Int) == 0)) := Lib.hid (by unfold zeroB; rw [hz]; rfl)
      go_enter Tryd.func38, Tryd.ntmps38
      go_upto_region 1 with (fail)
      rw [← HW.out]
      go_wp2_with fail
      go_ret
      exact ⟨ret_bool (by rw [E.out]), hb0⟩
  | t + 9 => intro _ h; omega
end Go.Proofs.YtohkbcdnlmjcjaaDoor

/-
  ATTRIBUTES: Check: all in its bounds, and nothing said that isn't there.
-/
namespace Go.Proofs.YtohkbcdnlmjcjaaDoor
open Go.RowKit

/-- is the attribute t right: in its bounds, or not there and zero? -/
def okT (a : At) (t : Nat) : Bool := if isB a.has t then goodB a t else zeroB a t
/-- attributes that aren't known: their types rise. -/
def othB : Int → List Oth → Bool
  | _, [] => true
  | l, o :: os => (decide (l < o.1) && decide (o.1 ≤ 255)) && othB o.1 os
def lastO : Int → List Oth → Int
  | l, [] => l
  | _, o :: os => lastO o.1 os
def knownM (has : Int) : Bool := bits .andNot .i64 has 510 == 0
def checkB (a : At) : Bool := knownM a.has && ((List.range' 1 8).all (okT a) && othB 8 a.others)
def checkI (a : At) : Int := if checkB a then 0 else 1
set_option maxRecDepth 100000 in
theorem rng_step (a : At) (t : Nat) (h : t ≤ 8) : (List.range' t (9 - t)).all (okT a) = (okT a t && (List.range' (t + 1) (8 - t)).all (okT a)) := by
  rw [show 9 - t = (8 - t) + 1 by omega, List.range'_succ, List.all_cons]
set_option maxRecDepth 100000 in
theorem oth_step (l : Int) {os : List Oth} {k : Nat} {o : Oth} (h : os[k]? = some o) : othB (lastO l (os.take k)) (os.drop k) = ((decide (lastO l (os.take k) < o.1) && decide (o.1 ≤ 255)) && othB o.1 (os.drop (k + 1))) ∧ lastO l (os.take (k + 1)) = o.1 := by
  obtain ⟨h1, h2⟩ := List.getElem?_eq_some_iff.1 h
  constructor
  · rw [List.drop_eq_getElem_cons h1, h2]; rfl
  · rw [List.take_succ_eq_append_getElem h1, h2]
    have : ∀ (l : Int) (xs : List Oth), lastO l (xs ++ [o]) = o.1 := by
      intro l xs
      induction xs generalizing l with
      | nil => rfl
      | cons x xs ih => exact ih x.1
    exact this _ _
set_option maxHeartbeats 6400000 in
set_option maxRecDepth 100000 in
theorem at_Check (a : At) (vp vc vo : Value) (w : World) (hA : AtL w a vp vc vo) :
    Calls Tryd.prog 19 #[.agg #[.int .i64 a.has, .int .i64 a.origin, vp, .int .u32 a.hop, .int .i64 a.med, .int .i64 a.loc, .int .i64 a.aggrAs, .int .u32 a.aggrId, vc, vo]] w fun e w' => e = .returned (.int .i64 (checkI a)) ∧ Below w.heap.size w w' := by
  have HA := Lib.hid hA
  obtain ⟨_, _, ⟨so, co, hvo, hol, hoc, hO⟩⟩ := hA
  have HO := Lib.hid hO
  have HVO := Lib.hid hvo
  unfold maxLen at hoc
  clear hvo hO
  obtain ⟨W0, hW0, q, hb0, hz0⟩ := boxA w (.int .i64 a.has) (.int .i64 a.origin) vp (.int .u32 a.hop) (.int .i64 a.med) (.int .i64 a.loc) (.int .i64 a.aggrAs) (.int .u32 a.aggrId) vc vo
  have HZ0 := Lib.hid hz0
  clear hz0
  have HW := Lib.hid hW0
  have y0 : W0.cell? ⟨w.heap.size, 0, none⟩ = some (.int .i64 a.has) := row_cell q 0
  have y1 : W0.cell? ⟨w.heap.size, 1, none⟩ = some (.int .i64 a.origin) := row_cell q 1
  have y2 : W0.cell? ⟨w.heap.size, 2, none⟩ = some vp := row_cell q 2
  have y3 : W0.cell? ⟨w.heap.size, 3, none⟩ = some (.int .u32 a.hop) := row_cell q 3
  have y4 : W0.cell? ⟨w.heap.size, 4, none⟩ = some (.int .i64 a.med) := row_cell q 4
  have y5 : W0.cell? ⟨w.heap.size, 5, none⟩ = some (.int .i64 a.loc) := row_cell q 5
  have y6 : W0.cell? ⟨w.heap.size, 6, none⟩ = some (.int .i64 a.aggrAs) := row_cell q 6
  have y7 : W0.cell? ⟨w.heap.size, 7, none⟩ = some (.int .u32 a.aggrId) := row_cell q 7
  have y8 : W0.cell? ⟨w.heap.size, 8, none⟩ = some vc := row_cell q 8
  have y9 : W0.cell? ⟨w.heap.size, 9, none⟩ = some vo := row_cell q 9
  have HL := Lib.hid (HA.out.below hb0)
  have HI := Lib.hid (fun t w => at_Is a.has (.int .i64 a.origin) vp (.int .u32 a.hop) (.int .i64 a.med) (.int .i64 a.loc) (.int .i64 a.aggrAs) (.int .u32 a.aggrId) vc vo t w)
  have HG := Lib.hid (fun t h1 h8 w h => at_good a vp vc vo t h1 h8 w h)
  have HZ := Lib.hid (fun t h1 h8 w h => at_zero a vp vc vo t h1 h8 w h)
  clear q hW0
  cases hm : (bits .andNot .i64 a.has 510 != 0)
  case true =>
    have E : Hid (checkI a = 1) := Lib.hid (by
      have : knownM a.has = false := by unfold knownM; simpa using hm
      unfold checkI checkB; rw [this]; rfl)
    go_enter Tryd.func19, Tryd.ntmps19
    go_upto_region 1 with (fail)
    rw [← HW.out]
    go_wp2_with fail
    go_ret
    exact ⟨ret_int E.out.symm, hb0⟩
  case false =>
    have hk : knownM a.has = true := by unfold knownM; simpa using hm
    have E : Hid (checkB a = ((List.range' 1 8).all (okT a) && othB 8 a.others)) := Lib.hid (by unfold checkB; rw [hk]; rfl)
    clear hk
    go_enter Tryd.func19, Tryd.ntmps19
    go_upto_region 1 with (fail)
    rw [← HW.out]
    go_wp2_with fail
    go_loopw [3] (fun i wr => ∃ t : Nat, 1 ≤ t ∧ t ≤ 9 ∧ i = .int .i64 t ∧ Hid (checkB a = ((List.range' t (9 - t)).all (okT a) && othB 8 a.others)) ∧ Below W0.heap.size W0 wr) (fun i _ => 9 - (intOf i).toNat)
    case atStart => exact ⟨1, by omega, by omega, rfl, E, Below.refl _ _⟩
    case round =>
      clear E
      obtain ⟨t, ht1, ht9, rfl, E, hb⟩ := hrel
      by_cases hlt : t ≤ 8
      · have E2 : Hid (checkB a = ((okT a t && (List.range' (t + 1) (8 - t)).all (okT a)) && othB 8 a.others)) := Lib.hid (by rw [E.out, rng_step a t hlt])
        have L1 := Lib.hid (HL.out.below hb)
        have z0 := cell_below y0 hb
        have z1 := cell_below y1 hb
        have z2 := cell_below y2 hb
        have z3 := cell_below y3 hb
        have z4 := cell_below y4 hb
        have z5 := cell_below y5 hb
        have z6 := cell_below y6 hb
        have z7 := cell_below y7 hb
        have z8 := cell_below y8 hb
        have z9 := cell_below y9 hb
        clear E
        cases hi : isB a.has t
        · have HI1 := Lib.hid (HI.out (t : Int))
          rw [hi] at HI1
          have E3 : Hid (okT a t = zeroB a t) := Lib.hid (by unfold okT; rw [hi]; rfl)
          clear hi
          go_wp2_with fail
          refine (HI1.out _).mono ?_
          rintro e w2 ⟨rfl, hb2⟩
          have z0 := cell_below z0 hb2
          have z1 := cell_below z1 hb2
          have z2 := cell_below z2 hb2
          have z3 := cell_below z3 hb2
          have z4 := cell_below z4 hb2
          have z5 := cell_below z5 hb2
          have z6 := cell_below z6 hb2
          have z7 := cell_below z7 hb2
          have z8 := cell_below z8 hb2
          have z9 := cell_below z9 hb2
          go_wp2_with fail
          refine (HI1.out _).mono ?_
          rintro e w3 ⟨rfl, hb3⟩
          have z0 := cell_below z0 hb3
          have z1 := cell_below z1 hb3
          have z2 := cell_below z2 hb3
          have z3 := cell_below z3 hb3
          have z4 := cell_below z4 hb3
          have z5 := cell_below z5 hb3
          have z6 := cell_below z6 hb3
          have z7 := cell_below z7 hb3
          have z8 := cell_below z8 hb3
          have z9 := cell_below z9 hb3
          have L3 := Lib.hid ((L1.out.below hb2).below hb3)
          have B3 := Lib.hid (below_on (below_on hb hb2) hb3)
          clear hb hb2 hb3
          go_wp2_with fail
          refine (HZ.out t ht1 hlt _ L3.out).mono ?_
          rintro e w4 ⟨rfl, hb4⟩
          have B4 := Lib.hid (below_on B3.out hb4)
          clear hb4 B3
          cases hz : zeroB a t
          · have E4 : Hid (checkI a = 1) := Lib.hid (by unfold checkI; rw [E2.out, E3.out, hz]; rfl)
            go_wp2_with fail
            go_ret
            exact ⟨ret_int E4.out.symm, below_on hb0 B4.out⟩
          · have E4 : Hid (checkB a = ((List.range' (t + 1) (9 - (t + 1))).all (okT a) && othB 8 a.others)) := Lib.hid (by rw [E2.out, E3.out, hz, show 9 - (t + 1) = 8 - t by omega]; rfl)
            go_wp2_with fail
            exact ⟨⟨t + 1, by omega, by omega, by go_num, E4, B4.out⟩, by simp [intOf]; omega⟩
        · have HI1 := Lib.hid (HI.out (t : Int))
          rw [hi] at HI1
          have E3 : Hid (okT a t = goodB a t) := Lib.hid (by unfold okT; rw [hi]; rfl)
          clear hi
          go_wp2_with fail
          refine (HI1.out _).mono ?_
          rintro e w2 ⟨rfl, hb2⟩
          have z0 := cell_below z0 hb2
          have z1 := cell_below z1 hb2
          have z2 := cell_below z2 hb2
          have z3 := cell_below z3 hb2
          have z4 := cell_below z4 hb2
          have z5 := cell_below z5 hb2
          have z6 := cell_below z6 hb2
          have z7 := cell_below z7 hb2
          have z8 := cell_below z8 hb2
          have z9 := cell_below z9 hb2
          have L3 := Lib.hid (L1.out.below hb2)
          have B3 := Lib.hid (below_on hb hb2)
          clear hb hb2
          go_wp2_with fail
          refine (HG.out t ht1 hlt _ L3.out).mono ?_
          rintro e w4 ⟨rfl, hb4⟩
          cases hz : goodB a t
          · have E4 : Hid (checkI a = 1) := Lib.hid (by unfold checkI; rw [E2.out, E3.out, hz]; rfl)
            have B4 := Lib.hid (below_on B3.out hb4)
            clear hb4 B3
            go_wp2_with fail
            go_ret
            exact ⟨ret_int E4.out.symm, below_on hb0 B4.out⟩
          · have E4 : Hid (checkB a = ((List.range' (t + 1) (9 - (t + 1))).all (okT a) && othB 8 a.others)) := Lib.hid (by rw [E2.out, E3.out, hz, show 9 - (t + 1) = 8 - t by omega]; rfl)
            have z0 := cell_below z0 hb4
            have z1 := cell_below z1 hb4
            have z2 := cell_below z2 hb4
            have z3 := cell_below z3 hb4
            have z4 := cell_below z4 hb4
            have z5 := cell_below z5 hb4
            have z6 := cell_below z6 hb4
            have z7 := cell_below z7 hb4
            have z8 := cell_below z8 hb4
            have z9 := cell_below z9 hb4
            have B4 := Lib.hid (below_on B3.out hb4)
            clear hb4 B3
            go_wp2_with fail
            refine (HI1.out _).mono ?_
            rintro e w5 ⟨rfl, hb5⟩
            replace B4 := Lib.hid (below_on B4.out hb5)
            clear hb5
            go_wp2_with fail
            exact ⟨⟨t + 1, by omega, by omega, by go_num, E4, B4.out⟩, by simp [intOf]; omega⟩
      · obtain rfl : t = 9 := by omega
        have E2 : Hid (checkB a = othB 8 a.others) := Lib.hid (by rw [E.out]; rfl)
        have z9 := cell_below y9 hb
        rw [HVO.out] at z9
        clear E y0 y1 y2 y3 y4 y5 y6 y7 y8 y9
        go_wp2_with fail
        go_loopw [4, 39] (fun l i wr' => ∃ k : Nat, k ≤ a.others.length ∧ i = .int .i64 k ∧ l = .int .i64 (lastO 8 (a.others.take k)) ∧ Hid (checkB a = othB (lastO 8 (a.others.take k)) (a.others.drop k)) ∧ Below W0.heap.size W0 wr') (fun _ i _ => a.others.length - (intOf i).toNat)
        case atStart => exact ⟨0, by omega, rfl, rfl, E2, hb⟩
        case round =>
          clear E2 z9 hb
          obtain ⟨k, hk, rfl, rfl, E, hb⟩ := hrel
          by_cases hlt : k < a.others.length
          · obtain ⟨o, ho⟩ : ∃ o, a.others[k]? = some o := ⟨_, List.getElem?_eq_getElem hlt⟩
            obtain ⟨b, off, hsa, hP⟩ := HO.out (by omega)
            obtain ⟨cs, _, ⟨u, rfl, _, ⟨sb, cb, rfl, _⟩⟩, hc⟩ := hP k o ho
            have d0 := ((below_on hb0 hb).cell (size_lt (hc 0 _ rfl))).trans (hc 0 _ rfl)
            have d1 := ((below_on hb0 hb).cell (size_lt (hc 1 _ rfl))).trans (hc 1 _ rfl)
            simp only [Nat.add_zero] at d0
            obtain ⟨S1, S2⟩ := oth_step 8 ho
            have E2 : Hid (checkB a = ((decide (lastO 8 (a.others.take k) < o.1) && decide (o.1 ≤ 255)) && othB o.1 (a.others.drop (k + 1)))) := Lib.hid (by rw [E.out, S1])
            have S2 := Lib.hid S2
            have hB : Hid (∀ q, Below W0.heap.size W0 (wr.alloc q)) := Lib.hid fun q => hb.alloc hb.size q
            subst hsa
            clear hP hc ho E S1 hb
            obtain ⟨ot, ov⟩ := o
            simp only at d0 d1 E2 S2
            have S3 : Hid (Value.int .i64 ot = .int .i64 (lastO 8 (a.others.take (k + 1)))) := Lib.hid (by rw [S2.out])
            have E4 : Hid (decide (lastO 8 (a.others.take k) < ot) = true → decide (ot ≤ 255) = true → checkB a = othB (lastO 8 (a.others.take (k + 1))) (a.others.drop (k + 1))) := Lib.hid (fun h1 h2 => by rw [E2.out, h1, h2, S2.out]; rfl)
            clear S2
            generalize lastO 8 (a.others.take k) = l at E2 E4 ⊢
            by_cases x1 : l < ot
            · by_cases x2 : ot ≤ 255
              · have E5 := Lib.hid (E4.out (by simpa using x1) (by simpa using x2))
                clear E2 E4
                go_wp2_with fail
                exact ⟨⟨_, _, _, _, ⟨k + 1, by omega, rfl, rfl, E5, hB.out _⟩, rfl, S3.out, rfl, by go_num⟩, by simp [intOf]; omega⟩
              · have E3 : Hid (checkI a = 1) := Lib.hid (by unfold checkI; rw [E2.out, decide_eq_false x2]; simp)
                clear E2 E4
                go_wp2_with fail
                go_ret
                exact ⟨ret_int E3.out.symm, below_on hb0 (hB.out _)⟩
            · have E3 : Hid (checkI a = 1) := Lib.hid (by unfold checkI; rw [E2.out, decide_eq_false x1]; simp)
              clear E2 E4
              go_wp2_with fail
              go_ret
              exact ⟨ret_int E3.out.symm, below_on hb0 (hB.out _)⟩
          · obtain rfl : k = a.others.length := by omega
            have E3 : Hid (checkI a = 0) := Lib.hid (by unfold checkI; rw [E.out, List.drop_length]; rfl)
            clear E
            go_wp2_with fail
            go_ret
            exact ⟨ret_int E3.out.symm, below_on hb0 hb⟩
end Go.Proofs.YtohkbcdnlmjcjaaDoor

/-
  PLAIN LAWS ON BITS OF WHOLE NUMBERS: an int under a mask of its lowest bits; two numbers laid side by side.
-/
namespace Go.Proofs.YtohkbcdnlmjcjaaDoor

set_option maxRecDepth 100000 in
theorem ofInt64_nat (x : Int) : (BitVec.ofInt 64 x).toNat = (x % 18446744073709551616).toNat := by
  rw [BitVec.toNat_ofInt]; rfl
set_option maxRecDepth 100000 in
/-- an int's lowest k bits: what is left by 2^k. -/
theorem and_low_i64 (x : Int) (k : Nat) (hk : k ≤ 62) : bits .and .i64 x ((2 ^ k - 1 : Nat) : Int) = x % ((2 ^ k : Nat) : Int) := by
  have hp : 0 < 2 ^ k := Nat.two_pow_pos k
  have hle : 2 ^ k ≤ 2 ^ 62 := Nat.pow_le_pow_right (by decide) hk
  show IntKind.i64.wrap ((BitVec.ofInt 64 x &&& BitVec.ofInt 64 ((2 ^ k - 1 : Nat) : Int)).toNat : Int) = _
  rw [BitVec.toNat_and, ofInt64_nat, ofInt64_nat]
  have e1 : ((((2 ^ k - 1 : Nat) : Int)) % 18446744073709551616).toNat = 2 ^ k - 1 := by omega
  rw [e1, Nat.and_two_pow_sub_one_eq_mod]
  have hd : ((2 ^ k : Nat) : Int) ∣ 18446744073709551616 := by
    refine ⟨((2 ^ (64 - k) : Nat) : Int), ?_⟩
    rw [← Int.natCast_mul, ← Nat.pow_add, show k + (64 - k) = 64 by omega]
    decide
  have h0 : 0 ≤ x % 18446744073709551616 := Int.emod_nonneg _ (by decide)
  have e2 : (((x % 18446744073709551616).toNat % 2 ^ k : Nat) : Int) = x % ((2 ^ k : Nat) : Int) := by
    rw [Int.natCast_emod, Int.toNat_of_nonneg h0, Int.emod_emod_of_dvd _ hd]
  rw [e2]
  have h1 := Int.emod_nonneg x (show ((2 ^ k : Nat) : Int) ≠ 0 by omega)
  have h2 := Int.emod_lt_of_pos x (show (0 : Int) < ((2 ^ k : Nat) : Int) by omega)
  exact IntWalk.i64_in _ (by omega)
set_option maxRecDepth 100000 in
theorem and_15 (x : Int) : bits .and .i64 x 15 = x % 16 := and_low_i64 x 4 (by decide)
set_option maxRecDepth 100000 in
theorem and_31 (x : Int) : bits .and .i64 x 31 = x % 32 := and_low_i64 x 5 (by decide)
set_option maxRecDepth 100000 in
theorem and_63 (x : Int) : bits .and .i64 x 63 = x % 64 := and_low_i64 x 6 (by decide)
set_option maxRecDepth 100000 in
theorem and_255 (x : Int) : bits .and .i64 x 255 = x % 256 := and_low_i64 x 8 (by decide)
set_option maxRecDepth 100000 in
theorem and_1023 (x : Int) : bits .and .i64 x 1023 = x % 1024 := and_low_i64 x 10 (by decide)
set_option maxRecDepth 100000 in
theorem and_65535 (x : Int) : bits .and .i64 x 65535 = x % 65536 := and_low_i64 x 16 (by decide)
set_option maxRecDepth 100000 in
/-- two numbers of 16 bits side by side. -/
theorem or_side (h l : Int) (h0 : 0 ≤ h) (h1 : h < 65536) (l0 : 0 ≤ l) (l1 : l < 65536) : bits .or .i64 (h * 65536) l = h * 65536 + l := by
  obtain ⟨x, rfl⟩ := Int.eq_ofNat_of_zero_le h0
  obtain ⟨y, rfl⟩ := Int.eq_ofNat_of_zero_le l0
  show IntKind.i64.wrap ((BitVec.ofInt 64 ((x : Int) * 65536) ||| BitVec.ofInt 64 (y : Int)).toNat : Int) = _
  rw [BitVec.toNat_or, ofInt64_nat, ofInt64_nat]
  have e1 : (((x : Int) * 65536) % 18446744073709551616).toNat = 2 ^ 16 * x := by omega
  have e2 : (((y : Int)) % 18446744073709551616).toNat = y := by omega
  rw [e1, e2, ← Nat.two_pow_add_eq_or_of_lt (by omega)]
  rw [IntWalk.i64_in _ (by omega)]
  omega
end Go.Proofs.YtohkbcdnlmjcjaaDoor
