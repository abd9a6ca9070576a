/-
  ATTRIBUTES: what is in its bounds: within, goodHop, goodPath, goodComms; good, zero.
-/
import Derived.Test.YtohkbcdnlmjcjaaDoorAtI
namespace Go.Proofs.YtohkbcdnlmjcjaaDoor
open Go.RowKit

def withinB (n m : Int) : Bool := decide (0 ≤ n) && decide (n ≤ m)
set_option maxRecDepth 100000 in
theorem at_within (n m : Int) (w : World) : Calls Tryd.prog 58 #[.int .i64 n, .int .i64 m] w fun e w' => e = .returned (.bool (withinB n m)) ∧ w = w' := by
  cases h1 : decide (0 ≤ n)
  · have K : Hid (withinB n m = false) := Lib.hid (by unfold withinB; rw [h1]; rfl)
    go_enter Tryd.func58, Tryd.ntmps58
    go_wp2
    go_ret
    exact ⟨ret_bool K.out.symm, rfl⟩
  · have K : Hid (withinB n m = decide (n ≤ m)) := Lib.hid (by unfold withinB; rw [h1]; rfl)
    go_enter Tryd.func58, Tryd.ntmps58
    go_wp2
    go_ret
    exact ⟨ret_bool K.out.symm, rfl⟩
def hopB (h : Nat) : Bool := ((h : Int) / 2 ^ 24 != 0) && ((h : Int) / 2 ^ 24 != 127) && decide ((h : Int) / 2 ^ 24 < 224)
set_option maxRecDepth 100000 in
theorem at_goodHop (h : Nat) (w : World) : Calls Tryd.prog 60 #[.int .u32 h] w fun e w' => e = .returned (.bool (hopB h)) ∧ w = w' := by
  cases h1 : ((h : Int) / 2 ^ 24 != 0)
  · have K : Hid (hopB h = false) := Lib.hid (by unfold hopB; rw [h1]; rfl)
    have h1' : ((h : Int) / 16777216 != 0) = false := h1
    clear h1
    go_enter Tryd.func60, Tryd.ntmps60
    go_wp2
    go_ret
    exact ⟨ret_bool K.out.symm, rfl⟩
  · cases h2 : ((h : Int) / 2 ^ 24 != 127)
    · have K : Hid (hopB h = false) := Lib.hid (by unfold hopB; rw [h1, h2]; rfl)
      have h1' : ((h : Int) / 16777216 != 0) = true := h1
      have h2' : ((h : Int) / 16777216 != 127) = false := h2
      clear h1 h2
      go_enter Tryd.func60, Tryd.ntmps60
      go_wp2
      go_ret
      exact ⟨ret_bool K.out.symm, rfl⟩
    · have K : Hid (hopB h = decide ((h : Int) / 16777216 < 224)) := Lib.hid (by unfold hopB; rw [h1, h2]; rfl)
      have h1' : ((h : Int) / 16777216 != 0) = true := h1
      have h2' : ((h : Int) / 16777216 != 127) = true := h2
      clear h1 h2
      go_enter Tryd.func60, Tryd.ntmps60
      go_wp2
      go_ret
      exact ⟨ret_bool K.out.symm, rfl⟩
def asB (x : Int) : Bool := decide (1 ≤ x) && decide (x ≤ 65535)
def segB (s : Sg) : Bool := (decide (1 ≤ s.2.length) && decide (s.2.length ≤ 255)) && s.2.all asB
def pathB (p : List Sg) : Bool := p.all segB
def commsB (c : List Int) : Bool := c.all (withinB · 4294967295) && decide (c.length ≤ 256)
set_option maxRecDepth 100000 in
theorem all_drop {α : Type} {q : α → Bool} {l : List α} {k : Nat} {x : α} (hx : l[k]? = some x) : (l.drop k).all q = (q x && (l.drop (k + 1)).all q) := by
  obtain ⟨h1, h2⟩ := List.getElem?_eq_some_iff.1 hx
  rw [List.drop_eq_getElem_cons h1, List.all_cons, h2]
set_option maxHeartbeats 1600000 in
set_option maxRecDepth 100000 in
theorem at_goodPath (v : Value) (p : List Sg) (w : World) (hP : PathAt w v p) : Calls Tryd.prog 59 #[v] w fun e w' => e = .returned (.bool (pathB p)) ∧ Below w.heap.size w w' := by
  obtain ⟨sa, cap, rfl, hlc, hcm, hV⟩ := hP
  have HV := Lib.hid hV
  unfold maxLen at hcm
  clear hV
  go_enter Tryd.func59, Tryd.ntmps59
  go_wp2_with fail
  go_loopw [9] (fun i wr => ∃ k : Nat, k ≤ p.length ∧ i = .int .i64 k ∧ Hid (pathB p = (p.drop k).all segB) ∧ Below w.heap.size w wr) (fun i _ => p.length - (intOf i).toNat)
  case atStart => exact ⟨0, by omega, rfl, Lib.hid rfl, Below.refl _ _⟩
  case round =>
    obtain ⟨k, hk, rfl, E, hb⟩ := hrel
    by_cases hlt : k < p.length
    · obtain ⟨s, hs⟩ : ∃ s, p[k]? = some s := ⟨_, List.getElem?_eq_getElem hlt⟩
      obtain ⟨b, off, hsa, hP⟩ := HV.out (by omega)
      subst hsa
      obtain ⟨cs, _, ⟨u, rfl, sb, cb, rfl, hl1, hl2, hL⟩, hc⟩ := hP k s hs
      have d0 := (hb.cell (size_lt (hc 0 _ rfl))).trans (hc 0 _ rfl)
      have d1 := (hb.cell (size_lt (hc 1 _ rfl))).trans (hc 1 _ rfl)
      simp only [Nat.add_zero] at d0
      have E2 : Hid (pathB p = (segB s && (p.drop (k + 1)).all segB)) := Lib.hid (by rw [E.out, all_drop hs])
      have HL := Lib.hid hL
      obtain ⟨set, ss⟩ := s
      simp only at d0 d1 hl1 hl2 E2 HL
      unfold maxLen at hl2
      clear hP hc hs E hL
      have hB : Hid (∀ o, Below w.heap.size w (wr.alloc o)) := Lib.hid fun o => hb.alloc hb.size o
      by_cases h1 : 1 ≤ ss.length
      · by_cases h2 : ss.length ≤ 255
        · have E3 : Hid (pathB p = (ss.all asB && (p.drop (k + 1)).all segB)) := Lib.hid (by rw [E2.out]; unfold segB; simp only [h1, h2, decide_true, Bool.true_and])
          clear E2
          obtain ⟨b', off', hsb, hQ⟩ := HL.out (by omega)
          subst hsb
          have HQ := Lib.hid hQ
          clear hQ HL
          go_upto_region 4 with (fail)
          obtain ⟨W1, hW1⟩ : ∃ W1, W1 = wr.alloc (.cells #[.bool set, .slice (some ⟨b', off', none⟩) ss.length cb] 32) := ⟨_, rfl⟩
          have hb1 : Below w.heap.size w W1 := by rw [hW1]; exact hB.out _
          have z1 : W1.cell? ⟨wr.heap.size, 1, none⟩ = some (.slice (some ⟨b', off', none⟩) ss.length cb) := by rw [hW1]; simp
          rw [← hW1]
          clear hW1 hB d0 d1 hb
          go_wp2_with fail
          go_loopw [26] (fun i wr => ∃ j : Nat, j ≤ ss.length ∧ i = .int .i64 j ∧ Hid (ss.all asB = (ss.drop j).all asB) ∧ wr = W1) (fun i _ => ss.length - (intOf i).toNat)
          case atStart => exact ⟨0, by omega, rfl, Lib.hid rfl, rfl⟩
          case round =>
            obtain ⟨j, hj, rfl, F, rfl⟩ := hrel
            by_cases hjl : j < ss.length
            · obtain ⟨x, hx⟩ : ∃ x, ss[j]? = some x := ⟨_, List.getElem?_eq_getElem hjl⟩
              obtain ⟨cs, _, ⟨rfl, _⟩, hc⟩ := HQ.out j x hx
              have f0 := (hb1.cell (size_lt (hc 0 _ rfl))).trans (hc 0 _ rfl)
              simp only [Nat.add_zero, Nat.mul_one] at f0
              have F2 : Hid (ss.all asB = (asB x && (ss.drop (j + 1)).all asB)) := Lib.hid (by rw [F.out, all_drop hx])
              clear hc hx F
              by_cases x1 : 1 ≤ x
              · by_cases x2 : x ≤ 65535
                · have F3 : Hid (ss.all asB = (ss.drop (j + 1)).all asB) := Lib.hid (by rw [F2.out]; unfold asB; simp only [x1, x2, decide_true, Bool.true_and])
                  go_wp2_with fail
                  exact ⟨⟨j + 1, by omega, by go_num, F3, by first | rfl | trivial⟩, by simp [intOf]; omega⟩
                · have F3 : Hid (pathB p = false) := Lib.hid (by rw [E3.out, F2.out]; unfold asB; simp only [x2, decide_false, Bool.and_false, Bool.false_and])
                  go_wp2_with fail
                  go_ret
                  exact ⟨ret_bool F3.out.symm, hb1⟩
              · have F3 : Hid (pathB p = false) := Lib.hid (by rw [E3.out, F2.out]; unfold asB; simp only [x1, decide_false, Bool.false_and])
                go_wp2_with fail
                go_ret
                exact ⟨ret_bool F3.out.symm, hb1⟩
            · obtain rfl : j = ss.length := by omega
              have E4 : Hid (pathB p = (p.drop (k + 1)).all segB) := Lib.hid (by rw [E3.out, F.out, List.drop_length]; rfl)
              clear F
              go_wp2_with fail
              exact ⟨⟨k + 1, by omega, by go_num, E4, hb1⟩, by simp [intOf]; omega⟩
        · have E3 : Hid (pathB p = false) := Lib.hid (by rw [E2.out]; unfold segB; simp only [h2, decide_false, Bool.and_false, Bool.false_and])
          go_wp2_with fail
          go_ret
          exact ⟨ret_bool E3.out.symm, hB.out _⟩
      · have E3 : Hid (pathB p = false) := Lib.hid (by rw [E2.out]; unfold segB; simp only [h1, decide_false, Bool.false_and])
        have h0 : (ss.length : Int) < 1 := by omega
        go_wp2_with fail
        go_ret
        exact ⟨ret_bool E3.out.symm, hB.out _⟩
    · obtain rfl : k = p.length := by omega
      have E3 : Hid (pathB p = true) := Lib.hid (by rw [E.out, List.drop_length]; rfl)
      clear E
      go_wp2_with fail
      go_ret
      exact ⟨ret_bool E3.out.symm, hb⟩
set_option maxHeartbeats 1600000 in
set_option maxRecDepth 100000 in
theorem at_goodComms (v : Value) (p : List Int) (w : World) (hP : IntsAt w v p) : Calls Tryd.prog 61 #[v] w fun e w' => e = .returned (.bool (commsB p)) ∧ w = w' := by
  obtain ⟨sa, cap, rfl, hlc, hcm, hV⟩ := hP
  have HV := Lib.hid hV
  unfold maxLen at hcm
  clear hV
  go_enter Tryd.func61, Tryd.ntmps61
  go_wp2_with fail
  go_loop [7] (fun i => ∃ k : Nat, k ≤ p.length ∧ i = .int .i64 k ∧ Hid (commsB p = ((p.drop k).all (withinB · 4294967295) && decide (p.length ≤ 256)))) (fun i => p.length - (intOf i).toNat)
  case atStart => exact ⟨0, by omega, rfl, Lib.hid rfl⟩
  case round =>
    obtain ⟨k, hk, rfl, E⟩ := hrel
    by_cases hlt : k < p.length
    · obtain ⟨x, hs⟩ : ∃ s, p[k]? = some s := ⟨_, List.getElem?_eq_getElem hlt⟩
      obtain ⟨b, off, hsa, hP⟩ := HV.out (by omega)
      subst hsa
      obtain ⟨cs, _, ⟨rfl, _⟩, hc⟩ := hP k x hs
      have d0 := hc 0 _ rfl
      simp only [Nat.add_zero, Nat.mul_one] at d0
      have E2 : Hid (commsB p = ((withinB x 4294967295 && (p.drop (k + 1)).all (withinB · 4294967295)) && decide (p.length ≤ 256))) := Lib.hid (by rw [E.out, all_drop hs])
      have WI := Lib.hid (at_within x 4294967295)
      clear hP hc hs E
      cases hw : withinB x 4294967295
      · have E3 : Hid (commsB p = false) := Lib.hid (by rw [E2.out, hw]; rfl)
        rw [hw] at WI
        clear hw E2
        go_wp2_with fail
        refine (WI.out _).mono ?_
        rintro e w1 ⟨rfl, rfl⟩
        go_wp2_with fail
        go_ret
        exact ⟨ret_bool E3.out.symm, rfl⟩
      · have E3 : Hid (commsB p = ((p.drop (k + 1)).all (withinB · 4294967295) && decide (p.length ≤ 256))) := Lib.hid (by rw [E2.out, hw]; rfl)
        rw [hw] at WI
        clear hw E2
        go_wp2_with fail
        refine (WI.out _).mono ?_
        rintro e w1 ⟨rfl, rfl⟩
        go_wp2_with fail
        exact ⟨⟨k + 1, by omega, by go_num, E3⟩, by simp [intOf]; omega⟩
    · obtain rfl : k = p.length := by omega
      have E3 : Hid (commsB p = decide (p.length ≤ 256)) := Lib.hid (by rw [E.out, List.drop_length]; rfl)
      clear E
      by_cases h2 : p.length ≤ 256
      · have E4 : Hid (commsB p = true) := Lib.hid (by rw [E3.out]; simpa using h2)
        go_wp2_with fail
        go_ret
        exact ⟨ret_bool (by rw [E4.out]; simp; omega), rfl⟩
      · have E4 : Hid (commsB p = false) := Lib.hid (by rw [E3.out]; simpa using h2)
        go_wp2_with fail
        go_ret
        exact ⟨ret_bool (by rw [E4.out]; simp; omega), rfl⟩
/-- is the value of a known attribute in its bounds? -/
def goodB (a : At) : Nat → Bool
  | 1 => withinB a.origin 2
  | 2 => pathB a.path
  | 3 => hopB a.hop
  | 4 => withinB a.med 4294967295
  | 5 => withinB a.loc 4294967295
  | 7 => withinB a.aggrAs 65535
  | 8 => commsB a.comms
  | _ => true
/-- is it zero? -/
def zeroB (a : At) : Nat → Bool
  | 1 => a.origin == 0
  | 2 => ((a.path.length : Nat) : Int) == 0
  | 3 => (a.hop : Int) == 0
  | 4 => a.med == 0
  | 5 => a.loc == 0
  | 7 => (a.aggrAs == 0) && ((a.aggrId : Int) == 0)
  | 8 => ((a.comms.length : Nat) : Int) == 0
  | _ => true
set_option maxHeartbeats 3200000 in
set_option maxRecDepth 100000 in
theorem at_good (a : At) (vp vc vo : Value) (t : Nat) (h1 : 1 ≤ t) (h8 : t ≤ 8) (w : World) (hA : AtL w a vp vc vo) :
    Calls Tryd.prog 37 #[.agg #[.int .i64 a.has, .int .i64 a.origin, vp, .int .u32 a.hop, .int .i64 a.med, .int .i64 a.loc, .int .i64 a.aggrAs, .int .u32 a.aggrId, vc, vo], .int .i64 t] w fun e w' => e = .returned (.bool (goodB a t)) ∧ Below w.heap.size w w' := by
  obtain ⟨hP, hC, _⟩ := hA
  have HP := Lib.hid hP
  have HC := Lib.hid hC
  have WI := Lib.hid at_within
  have HO := Lib.hid (at_goodHop a.hop)
  have GP := Lib.hid (fun w h => at_goodPath vp a.path w h)
  have GC := Lib.hid (fun w h => at_goodComms vc a.comms w h)
  clear hP hC
  obtain ⟨W0, hW0, q, hb0, _⟩ := boxA w (.int .i64 a.has) (.int .i64 a.origin) vp (.int .u32 a.hop) (.int .i64 a.med) (.int .i64 a.loc) (.int .i64 a.aggrAs) (.int .u32 a.aggrId) vc vo
  have y1 : W0.cell? ⟨w.heap.size, 1, none⟩ = some (.int .i64 a.origin) := row_cell q 1
  have y2 : W0.cell? ⟨w.heap.size, 2, none⟩ = some vp := row_cell q 2
  have y3 : W0.cell? ⟨w.heap.size, 3, none⟩ = some (.int .u32 a.hop) := row_cell q 3
  have y4 : W0.cell? ⟨w.heap.size, 4, none⟩ = some (.int .i64 a.med) := row_cell q 4
  have y5 : W0.cell? ⟨w.heap.size, 5, none⟩ = some (.int .i64 a.loc) := row_cell q 5
  have y6 : W0.cell? ⟨w.heap.size, 6, none⟩ = some (.int .i64 a.aggrAs) := row_cell q 6
  have y8 : W0.cell? ⟨w.heap.size, 8, none⟩ = some vc := row_cell q 8
  clear q
  have HP1 := Lib.hid (HP.out.below hb0)
  have HC1 := Lib.hid (HC.out.below hb0)
  have HW := Lib.hid hW0
  clear hW0
  revert h1 h8
  match t with
  | 0 => intro h1; omega
  | 1 =>
    intro _ _
    go_enter Tryd.func37, Tryd.ntmps37
    go_upto_region 1 with (fail)
    rw [← HW.out]
    go_wp2_with fail
    refine (WI.out _ _ _).mono ?_
    rintro e w1 ⟨rfl, rfl⟩
    go_wp2_with fail
    go_ret
    exact ⟨rfl, hb0⟩
  | 2 =>
    intro _ _
    go_enter Tryd.func37, Tryd.ntmps37
    go_upto_region 1 with (fail)
    rw [← HW.out]
    go_wp2_with fail
    refine (GP.out _ HP1.out).mono ?_
    rintro e w1 ⟨rfl, hb⟩
    go_wp2_with fail
    go_ret
    exact ⟨rfl, below_on hb0 hb⟩
  | 3 =>
    intro _ _
    go_enter Tryd.func37, Tryd.ntmps37
    go_upto_region 1 with (fail)
    rw [← HW.out]
    go_wp2_with fail
    refine (HO.out _).mono ?_
    rintro e w1 ⟨rfl, rfl⟩
    go_wp2_with fail
    go_ret
    exact ⟨rfl, hb0⟩
  | 4 =>
    intro _ _
    go_enter Tryd.func37, Tryd.ntmps37
    go_upto_region 1 with (fail)
    rw [← HW.out]
    go_wp2_with fail
    refine (WI.out _ _ _).mono ?_
    rintro e w1 ⟨rfl, rfl⟩
    go_wp2_with fail
    go_ret
    exact ⟨rfl, hb0⟩
  | 5 =>
    intro _ _
    go_enter Tryd.func37, Tryd.ntmps37
    go_upto_region 1 with (fail)
    rw [← HW.out]
    go_wp2_with fail
    refine (WI.out _ _ _).mono ?_
    rintro e w1 ⟨rfl, rfl⟩
    go_wp2_with fail
    go_ret
    exact ⟨rfl, hb0⟩
  | 7 =>
    intro _ _
    go_enter Tryd.func37, Tryd.ntmps37
    go_upto_region 1 with (fail)
    rw [← HW.out]
    go_wp2_with fail
    refine (WI.out _ _ _).mono ?_
    rintro e w1 ⟨rfl, rfl⟩
    go_wp2_with fail
    go_ret
    exact ⟨rfl, hb0⟩
  | 6 =>
    intro _ _
    go_enter Tryd.func37, Tryd.ntmps37
    go_upto_region 1 with (fail)
    rw [← HW.out]
    go_wp2_with fail
    go_ret
    exact ⟨rfl, hb0⟩
  | 8 =>
    intro _ _
    go_enter Tryd.func37, Tryd.ntmps37
    go_upto_region 1 with (fail)
    rw [← HW.out]
    go_wp2_with fail
    refine (GC.out _ HC1.out).mono ?_
    rintro e w1 ⟨rfl, rfl⟩
    go_wp2_with fail
    go_ret
    exact ⟨rfl, hb0⟩
  | t + 9 => intro _ h; omega
set_option maxHeartbeats 3200000 in
set_option maxRecDepth 100000 in
theorem at_zero (a : At) (vp vc vo : Value) (t : Nat) (h1 : 1 ≤ t) (h8 : t ≤ 8) (w : World) (hA : AtL w a vp vc vo) :
    Calls Tryd.prog 38 #[.agg #[.int .i64 a.has, .int .i64 a.origin, vp, .int .u32 a.hop, .int .i64 a.med, .int .i64 a.loc, .int .i64 a.aggrAs, .int .u32 a.aggrId, vc, vo], .int .i64 t] w fun e w' => e = .returned (.bool (zeroB a t)) ∧ Below w.heap.size w w' := by
  obtain ⟨⟨sp, cp, rfl, _⟩, ⟨sc, cc, rfl, _⟩, _⟩ := hA
  obtain ⟨W0, hW0, q, hb0, _⟩ := boxA w (.int .i64 a.has) (.int .i64 a.origin) (.slice sp a.path.length cp) (.int .u32 a.hop) (.int .i64 a.med) (.int .i64 a.loc) (.int .i64 a.aggrAs) (.int .u32 a.aggrId) (.slice sc a.comms.length cc) vo
  have y1 : W0.cell? ⟨w.heap.size, 1, none⟩ = some (.int .i64 a.origin) := row_cell q 1
  have y2 : W0.cell? ⟨w.heap.size, 2, none⟩ = some (.slice sp a.path.length cp) := row_cell q 2
  have y3 : W0.cell? ⟨w.heap.size, 3, none⟩ = some (.int .u32 a.hop) := row_cell q 3
  have y4 : W0.cell? ⟨w.heap.size, 4, none⟩ = some (.int .i64 a.med) := row_cell q 4
  have y5 : W0.cell? ⟨w.heap.size, 5, none⟩ = some (.int .i64 a.loc) := row_cell q 5
  have y6 : W0.cell? ⟨w.heap.size, 6, none⟩ = some (.int .i64 a.aggrAs) := row_cell q 6
  have y7 : W0.cell? ⟨w.heap.size, 7, none⟩ = some (.int .u32 a.aggrId) := row_cell q 7
  have y8 : W0.cell? ⟨w.heap.size, 8, none⟩ = some (.slice sc a.comms.length cc) := row_cell q 8
  clear q
  have HW := Lib.hid hW0
  clear hW0
  revert h1 h8
  match t with
  | 0 => intro h1; omega
  | 1 =>
    intro _ _
    go_enter Tryd.func38, Tryd.ntmps38
    go_upto_region 1 with (fail)
    rw [← HW.out]
    go_wp2_with fail
    go_ret
    exact ⟨ret_bool (by simp [zeroB]), hb0⟩
  | 2 =>
    intro _ _
    go_enter Tryd.func38, Tryd.ntmps38
    go_upto_region 1 with (fail)
    rw [← HW.out]
    go_wp2_with fail
    go_ret
    exact ⟨ret_bool (by simp [zeroB]), hb0⟩
  | 3 =>
    intro _ _
    go_enter Tryd.func38, Tryd.ntmps38
    go_upto_region 1 with (fail)
    rw [← HW.out]
    go_wp2_with fail
    go_ret
    exact ⟨ret_bool (by simp [zeroB]), hb0⟩
  | 4 =>
    intro _ _
    go_enter Tryd.func38, Tryd.ntmps38
    go_upto_region 1 with (fail)
    rw [← HW.out]
    go_wp2_with fail
    go_ret
    exact ⟨ret_bool (by simp [zeroB]), hb0⟩
  | 5 =>
    intro _ _
    go_enter Tryd.func38, Tryd.ntmps38
    go_upto_region 1 with (fail)
    rw [← HW.out]
    go_wp2_with fail
    go_ret
    exact ⟨ret_bool (by simp [zeroB]), hb0⟩
  | 6 =>
    intro _ _
    go_enter Tryd.func38, Tryd.ntmps38
    go_upto_region 1 with (fail)
    rw [← HW.out]
    go_wp2_with fail
    go_ret
    exact ⟨ret_bool (by simp [zeroB]), hb0⟩
  | 8 =>
    intro _ _
    go_enter Tryd.func38, Tryd.ntmps38
    go_upto_region 1 with (fail)
    rw [← HW.out]
    go_wp2_with fail
    go_ret
    exact ⟨ret_bool (by simp [zeroB]), hb0⟩
  | 7 =>
    intro _ _
    cases hz : (a.aggrAs == 0)
    · have E : Hid (zeroB a 7 = false) := Lib.hid (by unfold zeroB; rw [hz]; rfl)
      go_enter Tryd.func38, Tryd.ntmps38
      go_upto_region 1 with (fail)
      rw [← HW.out]
      go_wp2_with fail
      go_ret
      exact ⟨ret_bool E.out.symm, hb0⟩
    · have E : Hid (zeroB a 7 = ((a.aggrId : Int) == 0)) := Lib.hid (by unfold zeroB; rw [hz]; rfl)
      go_enter Tryd.func38, Tryd.ntmps38
      go_upto_region 1 with (fail)
      rw [← HW.out]
      go_wp2_with fail
      go_ret
      exact ⟨ret_bool (by rw [E.out]), hb0⟩
  | t + 9 => intro _ h; omega
end Go.Proofs.YtohkbcdnlmjcjaaDoor
