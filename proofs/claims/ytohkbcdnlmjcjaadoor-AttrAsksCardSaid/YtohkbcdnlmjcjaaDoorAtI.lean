/-
  ATTRIBUTES: First, Is.
-/
import Derived.Test.YtohkbcdnlmjcjaaDoorAtH
namespace Go.Proofs.YtohkbcdnlmjcjaaDoor
open Go.RowKit

def knownB (t : Int) : Bool := decide (1 ≤ t) && decide (t ≤ 8)
/-- is the bit t of a number 1? -/
def bitB (has : Int) (t : Nat) : Bool := bits .and .i64 (has / 2 ^ t) 1 == 1
def isB (has t : Int) : Bool := knownB t && bitB has t.toNat
set_option maxRecDepth 100000 in
theorem at_isKnown (t : Int) (w : World) : Calls Tryd.prog 27 #[.int .i64 t] w fun e w' => e = .returned (.bool (knownB t)) ∧ w = w' := by
  cases h1 : decide (1 ≤ t)
  · have K : Hid (knownB t = false) := Lib.hid (by unfold knownB; rw [h1]; rfl)
    go_enter Tryd.func27, Tryd.ntmps27
    go_wp2
    go_ret
    exact ⟨ret_bool K.out.symm, rfl⟩
  · have K : Hid (knownB t = decide (t ≤ 8)) := Lib.hid (by unfold knownB; rw [h1]; rfl)
    go_enter Tryd.func27, Tryd.ntmps27
    go_wp2
    go_ret
    exact ⟨ret_bool K.out.symm, rfl⟩
set_option maxHeartbeats 1600000 in
set_option maxRecDepth 100000 in
theorem at_Is (has : Int) (c1 c2 c3 c4 c5 c6 c7 c8 c9 : Value) (t : Int) (w : World) :
    Calls Tryd.prog 13 #[.agg #[.int .i64 has, c1, c2, c3, c4, c5, c6, c7, c8, c9], .int .i64 t] w fun e w' => e = .returned (.bool (isB has t)) ∧ Below w.heap.size w w' := by
  cases hk : knownB t
  · have K := Lib.hid (at_isKnown t)
    rw [hk] at K
    have E : Hid (isB has t = false) := Lib.hid (by unfold isB; rw [hk]; rfl)
    clear hk
    go_enter Tryd.func13, Tryd.ntmps13
    go_wp2_with fail
    obtain ⟨W0, hW0, q, hb0, _⟩ := boxA w (.int .i64 has) c1 c2 c3 c4 c5 c6 c7 c8 c9
    rw [← hW0]
    clear hW0
    refine (K.out _).mono ?_
    rintro e w1 ⟨rfl, rfl⟩
    go_wp2_with fail
    go_ret
    exact ⟨ret_bool E.out.symm, hb0⟩
  · have K := Lib.hid (at_isKnown t)
    rw [hk] at K
    have k1 : 1 ≤ t ∧ t ≤ 8 := by unfold knownB at hk; simpa using hk
    obtain ⟨n, rfl⟩ := Int.eq_ofNat_of_zero_le (show 0 ≤ t by omega)
    have k2 : n < 64 := by omega
    have E : Hid (isB has n = bitB has n) := Lib.hid (by unfold isB; rw [hk]; rfl)
    clear hk
    go_enter Tryd.func13, Tryd.ntmps13
    go_wp2_with fail
    obtain ⟨W0, hW0, q, hb0, _⟩ := boxA w (.int .i64 has) c1 c2 c3 c4 c5 c6 c7 c8 c9
    rw [← hW0]
    clear hW0
    have y0 : W0.cell? ⟨w.heap.size, 0, none⟩ = some (.int .i64 has) := row_cell q 0
    clear q
    refine (K.out _).mono ?_
    rintro e w1 ⟨rfl, rfl⟩
    go_wp2_with fail
    go_ret
    exact ⟨ret_bool E.out.symm, hb0⟩
set_option maxHeartbeats 1600000 in
set_option maxRecDepth 100000 in
theorem at_First (c0 c1 vp c3 c4 c5 c6 c7 c8 c9 : Value) (p : List Sg) (w : World) (hP : PathAt w vp p) :
    Calls Tryd.prog 11 #[.agg #[c0, c1, vp, c3, c4, c5, c6, c7, c8, c9]] w fun e w' => e = .returned (.int .i64 (firstN p)) ∧ Below w.heap.size w w' := by
  obtain ⟨sa, cap, rfl, hlc, hcm, hV⟩ := hP
  have HV := Lib.hid hV
  unfold maxLen at hcm
  clear hV
  cases p with
  | nil =>
    go_enter Tryd.func11, Tryd.ntmps11
    go_upto_region 1 with (fail)
    obtain ⟨W0, hW0, q, hb0, _⟩ := boxA w c0 c1 (.slice sa 0 cap) c3 c4 c5 c6 c7 c8 c9
    try simp only [List.length_nil]
    rw [← hW0]
    clear hW0
    have y2 : W0.cell? ⟨w.heap.size, 2, none⟩ = some (.slice sa 0 cap) := row_cell q 2
    clear q
    go_wp2_with fail
    go_ret
    exact ⟨rfl, hb0⟩
  | cons s p =>
    obtain ⟨b, off, hsa, hP⟩ := HV.out (by simp)
    subst hsa
    obtain ⟨cs, _, ⟨u, rfl, sb, cb, rfl, hl1, hl2, hL⟩, hc⟩ := hP 0 s rfl
    have d0 := hc 0 _ rfl
    have d1 := hc 1 _ rfl
    simp only [Nat.add_zero, Nat.zero_mul] at d0 d1
    obtain ⟨set, ss⟩ := s
    simp only at d0 d1 hl1 hl2 hL
    have HL := Lib.hid hL
    unfold maxLen at hl2
    clear hP hc hL HV
    simp only [List.length_cons] at hlc ⊢
    have n0 : ((p.length : Int) + 1 == 0) = false := by rw [beq_eq_false_iff_ne]; omega
    have n1 : (0 : Int) < (p.length : Int) + 1 := by omega
    cases set
    · cases ss with
      | nil =>
        simp only [List.length_nil] at d1
        go_enter Tryd.func11, Tryd.ntmps11
        go_upto_region 1 with (fail)
        obtain ⟨W0, hW0, q, hb0, _⟩ := boxA w c0 c1 (.slice (some ⟨b, off, none⟩) (p.length + 1) cap) c3 c4 c5 c6 c7 c8 c9
        rw [← hW0]
        clear hW0
        have y2 : W0.cell? ⟨w.heap.size, 2, none⟩ = some (.slice (some ⟨b, off, none⟩) (p.length + 1) cap) := row_cell q 2
        have d0 := cell_below d0 hb0
        have d1 := cell_below d1 hb0
        clear q
        go_wp2_with fail
        go_ret
        exact ⟨rfl, hb0⟩
      | cons x ss =>
        obtain ⟨b', off', hsb, hP⟩ := HL.out (by simp)
        subst hsb
        obtain ⟨cs, _, ⟨rfl, _⟩, hc⟩ := hP 0 x rfl
        have d2 := hc 0 _ rfl
        simp only [Nat.add_zero, Nat.zero_mul] at d2
        simp only [List.length_cons] at d1
        clear HL hP hc
        have n2 : ((ss.length : Int) + 1 == 0) = false := by rw [beq_eq_false_iff_ne]; omega
        have n3 : (0 : Int) < (ss.length : Int) + 1 := by omega
        go_enter Tryd.func11, Tryd.ntmps11
        go_upto_region 1 with (fail)
        obtain ⟨W0, hW0, q, hb0, _⟩ := boxA w c0 c1 (.slice (some ⟨b, off, none⟩) (p.length + 1) cap) c3 c4 c5 c6 c7 c8 c9
        rw [← hW0]
        clear hW0
        have y2 : W0.cell? ⟨w.heap.size, 2, none⟩ = some (.slice (some ⟨b, off, none⟩) (p.length + 1) cap) := row_cell q 2
        have d0 := cell_below d0 hb0
        have d1 := cell_below d1 hb0
        have d2 := cell_below d2 hb0
        clear q
        go_wp2_with fail
        go_ret
        exact ⟨rfl, hb0⟩
    · go_enter Tryd.func11, Tryd.ntmps11
      go_upto_region 1 with (fail)
      obtain ⟨W0, hW0, q, hb0, _⟩ := boxA w c0 c1 (.slice (some ⟨b, off, none⟩) (p.length + 1) cap) c3 c4 c5 c6 c7 c8 c9
      rw [← hW0]
      clear hW0
      have y2 : W0.cell? ⟨w.heap.size, 2, none⟩ = some (.slice (some ⟨b, off, none⟩) (p.length + 1) cap) := row_cell q 2
      have d0 := cell_below d0 hb0
      clear q
      go_wp2_with fail
      go_ret
      exact ⟨rfl, hb0⟩
end Go.Proofs.YtohkbcdnlmjcjaaDoor
