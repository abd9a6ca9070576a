/-
  ATTRIBUTES: Check: all in its bounds, and nothing said that isn't there.
-/
import Derived.Test.YtohkbcdnlmjcjaaDoorAtG
namespace Go.Proofs.YtohkbcdnlmjcjaaDoor
open Go.RowKit

/-- is the attribute t right: in its bounds, or not there and zero? -/
def okT (a : At) (t : Nat) : Bool := if isB a.has t then goodB a t else zeroB a t
/-- attributes that aren't known: their types rise. -/
def othB : Int → List Oth → Bool
  | _, [] => true
  | l, o :: os => (decide (l < o.1) && decide (o.1 ≤ 255)) && othB o.1 os
def lastO : Int → List Oth → Int
  | l, [] => l
  | _, o :: os => lastO o.1 os
def knownM (has : Int) : Bool := bits .andNot .i64 has 510 == 0
def checkB (a : At) : Bool := knownM a.has && ((List.range' 1 8).all (okT a) && othB 8 a.others)
def checkI (a : At) : Int := if checkB a then 0 else 1
set_option maxRecDepth 100000 in
theorem rng_step (a : At) (t : Nat) (h : t ≤ 8) : (List.range' t (9 - t)).all (okT a) = (okT a t && (List.range' (t + 1) (8 - t)).all (okT a)) := by
  rw [show 9 - t = (8 - t) + 1 by omega, List.range'_succ, List.all_cons]
set_option maxRecDepth 100000 in
theorem oth_step (l : Int) {os : List Oth} {k : Nat} {o : Oth} (h : os[k]? = some o) : othB (lastO l (os.take k)) (os.drop k) = ((decide (lastO l (os.take k) < o.1) && decide (o.1 ≤ 255)) && othB o.1 (os.drop (k + 1))) ∧ lastO l (os.take (k + 1)) = o.1 := by
  obtain ⟨h1, h2⟩ := List.getElem?_eq_some_iff.1 h
  constructor
  · rw [List.drop_eq_getElem_cons h1, h2]; rfl
  · rw [List.take_succ_eq_append_getElem h1, h2]
    have : ∀ (l : Int) (xs : List Oth), lastO l (xs ++ [o]) = o.1 := by
      intro l xs
      induction xs generalizing l with
      | nil => rfl
      | cons x xs ih => exact ih x.1
    exact this _ _
set_option maxHeartbeats 6400000 in
set_option maxRecDepth 100000 in
theorem at_Check (a : At) (vp vc vo : Value) (w : World) (hA : AtL w a vp vc vo) :
    Calls Tryd.prog 19 #[.agg #[.int .i64 a.has, .int .i64 a.origin, vp, .int .u32 a.hop, .int .i64 a.med, .int .i64 a.loc, .int .i64 a.aggrAs, .int .u32 a.aggrId, vc, vo]] w fun e w' => e = .returned (.int .i64 (checkI a)) ∧ Below w.heap.size w w' := by
  have HA := Lib.hid hA
  obtain ⟨_, _, ⟨so, co, hvo, hol, hoc, hO⟩⟩ := hA
  have HO := Lib.hid hO
  have HVO := Lib.hid hvo
  unfold maxLen at hoc
  clear hvo hO
  obtain ⟨W0, hW0, q, hb0, hz0⟩ := boxA w (.int .i64 a.has) (.int .i64 a.origin) vp (.int .u32 a.hop) (.int .i64 a.med) (.int .i64 a.loc) (.int .i64 a.aggrAs) (.int .u32 a.aggrId) vc vo
  have HZ0 := Lib.hid hz0
  clear hz0
  have HW := Lib.hid hW0
  have y0 : W0.cell? ⟨w.heap.size, 0, none⟩ = some (.int .i64 a.has) := row_cell q 0
  have y1 : W0.cell? ⟨w.heap.size, 1, none⟩ = some (.int .i64 a.origin) := row_cell q 1
  have y2 : W0.cell? ⟨w.heap.size, 2, none⟩ = some vp := row_cell q 2
  have y3 : W0.cell? ⟨w.heap.size, 3, none⟩ = some (.int .u32 a.hop) := row_cell q 3
  have y4 : W0.cell? ⟨w.heap.size, 4, none⟩ = some (.int .i64 a.med) := row_cell q 4
  have y5 : W0.cell? ⟨w.heap.size, 5, none⟩ = some (.int .i64 a.loc) := row_cell q 5
  have y6 : W0.cell? ⟨w.heap.size, 6, none⟩ = some (.int .i64 a.aggrAs) := row_cell q 6
  have y7 : W0.cell? ⟨w.heap.size, 7, none⟩ = some (.int .u32 a.aggrId) := row_cell q 7
  have y8 : W0.cell? ⟨w.heap.size, 8, none⟩ = some vc := row_cell q 8
  have y9 : W0.cell? ⟨w.heap.size, 9, none⟩ = some vo := row_cell q 9
  have HL := Lib.hid (HA.out.below hb0)
  have HI := Lib.hid (fun t w => at_Is a.has (.int .i64 a.origin) vp (.int .u32 a.hop) (.int .i64 a.med) (.int .i64 a.loc) (.int .i64 a.aggrAs) (.int .u32 a.aggrId) vc vo t w)
  have HG := Lib.hid (fun t h1 h8 w h => at_good a vp vc vo t h1 h8 w h)
  have HZ := Lib.hid (fun t h1 h8 w h => at_zero a vp vc vo t h1 h8 w h)
  clear q hW0
  cases hm : (bits .andNot .i64 a.has 510 != 0)
  case true =>
    have E : Hid (checkI a = 1) := Lib.hid (by
      have : knownM a.has = false := by unfold knownM; simpa using hm
      unfold checkI checkB; rw [this]; rfl)
    go_enter Tryd.func19, Tryd.ntmps19
    go_upto_region 1 with (fail)
    rw [← HW.out]
    go_wp2_with fail
    go_ret
    exact ⟨ret_int E.out.symm, hb0⟩
  case false =>
    have hk : knownM a.has = true := by unfold knownM; simpa using hm
    have E : Hid (checkB a = ((List.range' 1 8).all (okT a) && othB 8 a.others)) := Lib.hid (by unfold checkB; rw [hk]; rfl)
    clear hk
    go_enter Tryd.func19, Tryd.ntmps19
    go_upto_region 1 with (fail)
    rw [← HW.out]
    go_wp2_with fail
    go_loopw [3] (fun i wr => ∃ t : Nat, 1 ≤ t ∧ t ≤ 9 ∧ i = .int .i64 t ∧ Hid (checkB a = ((List.range' t (9 - t)).all (okT a) && othB 8 a.others)) ∧ Below W0.heap.size W0 wr) (fun i _ => 9 - (intOf i).toNat)
    case atStart => exact ⟨1, by omega, by omega, rfl, E, Below.refl _ _⟩
    case round =>
      clear E
      obtain ⟨t, ht1, ht9, rfl, E, hb⟩ := hrel
      by_cases hlt : t ≤ 8
      · have E2 : Hid (checkB a = ((okT a t && (List.range' (t + 1) (8 - t)).all (okT a)) && othB 8 a.others)) := Lib.hid (by rw [E.out, rng_step a t hlt])
        have L1 := Lib.hid (HL.out.below hb)
        have z0 := cell_below y0 hb
        have z1 := cell_below y1 hb
        have z2 := cell_below y2 hb
        have z3 := cell_below y3 hb
        have z4 := cell_below y4 hb
        have z5 := cell_below y5 hb
        have z6 := cell_below y6 hb
        have z7 := cell_below y7 hb
        have z8 := cell_below y8 hb
        have z9 := cell_below y9 hb
        clear E
        cases hi : isB a.has t
        · have HI1 := Lib.hid (HI.out (t : Int))
          rw [hi] at HI1
          have E3 : Hid (okT a t = zeroB a t) := Lib.hid (by unfold okT; rw [hi]; rfl)
          clear hi
          go_wp2_with fail
          refine (HI1.out _).mono ?_
          rintro e w2 ⟨rfl, hb2⟩
          have z0 := cell_below z0 hb2
          have z1 := cell_below z1 hb2
          have z2 := cell_below z2 hb2
          have z3 := cell_below z3 hb2
          have z4 := cell_below z4 hb2
          have z5 := cell_below z5 hb2
          have z6 := cell_below z6 hb2
          have z7 := cell_below z7 hb2
          have z8 := cell_below z8 hb2
          have z9 := cell_below z9 hb2
          go_wp2_with fail
          refine (HI1.out _).mono ?_
          rintro e w3 ⟨rfl, hb3⟩
          have z0 := cell_below z0 hb3
          have z1 := cell_below z1 hb3
          have z2 := cell_below z2 hb3
          have z3 := cell_below z3 hb3
          have z4 := cell_below z4 hb3
          have z5 := cell_below z5 hb3
          have z6 := cell_below z6 hb3
          have z7 := cell_below z7 hb3
          have z8 := cell_below z8 hb3
          have z9 := cell_below z9 hb3
          have L3 := Lib.hid ((L1.out.below hb2).below hb3)
          have B3 := Lib.hid (below_on (below_on hb hb2) hb3)
          clear hb hb2 hb3
          go_wp2_with fail
          refine (HZ.out t ht1 hlt _ L3.out).mono ?_
          rintro e w4 ⟨rfl, hb4⟩
          have B4 := Lib.hid (below_on B3.out hb4)
          clear hb4 B3
          cases hz : zeroB a t
          · have E4 : Hid (checkI a = 1) := Lib.hid (by unfold checkI; rw [E2.out, E3.out, hz]; rfl)
            go_wp2_with fail
            go_ret
            exact ⟨ret_int E4.out.symm, below_on hb0 B4.out⟩
          · have E4 : Hid (checkB a = ((List.range' (t + 1) (9 - (t + 1))).all (okT a) && othB 8 a.others)) := Lib.hid (by rw [E2.out, E3.out, hz, show 9 - (t + 1) = 8 - t by omega]; rfl)
            go_wp2_with fail
            exact ⟨⟨t + 1, by omega, by omega, by go_num, E4, B4.out⟩, by simp [intOf]; omega⟩
        · have HI1 := Lib.hid (HI.out (t : Int))
          rw [hi] at HI1
          have E3 : Hid (okT a t = goodB a t) := Lib.hid (by unfold okT; rw [hi]; rfl)
          clear hi
          go_wp2_with fail
          refine (HI1.out _).mono ?_
          rintro e w2 ⟨rfl, hb2⟩
          have z0 := cell_below z0 hb2
          have z1 := cell_below z1 hb2
          have z2 := cell_below z2 hb2
          have z3 := cell_below z3 hb2
          have z4 := cell_below z4 hb2
          have z5 := cell_below z5 hb2
          have z6 := cell_below z6 hb2
          have z7 := cell_below z7 hb2
          have z8 := cell_below z8 hb2
          have z9 := cell_below z9 hb2
          have L3 := Lib.hid (L1.out.below hb2)
          have B3 := Lib.hid (below_on hb hb2)
          clear hb hb2
          go_wp2_with fail
          refine (HG.out t ht1 hlt _ L3.out).mono ?_
          rintro e w4 ⟨rfl, hb4⟩
          cases hz : goodB a t
          · have E4 : Hid (checkI a = 1) := Lib.hid (by unfold checkI; rw [E2.out, E3.out, hz]; rfl)
            have B4 := Lib.hid (below_on B3.out hb4)
            clear hb4 B3
            go_wp2_with fail
            go_ret
            exact ⟨ret_int E4.out.symm, below_on hb0 B4.out⟩
          · have E4 : Hid (checkB a = ((List.range' (t + 1) (9 - (t + 1))).all (okT a) && othB 8 a.others)) := Lib.hid (by rw [E2.out, E3.out, hz, show 9 - (t + 1) = 8 - t by omega]; rfl)
            have z0 := cell_below z0 hb4
            have z1 := cell_below z1 hb4
            have z2 := cell_below z2 hb4
            have z3 := cell_below z3 hb4
            have z4 := cell_below z4 hb4
            have z5 := cell_below z5 hb4
            have z6 := cell_below z6 hb4
            have z7 := cell_below z7 hb4
            have z8 := cell_below z8 hb4
            have z9 := cell_below z9 hb4
            have B4 := Lib.hid (below_on B3.out hb4)
            clear hb4 B3
            go_wp2_with fail
            refine (HI1.out _).mono ?_
            rintro e w5 ⟨rfl, hb5⟩
            replace B4 := Lib.hid (below_on B4.out hb5)
            clear hb5
            go_wp2_with fail
            exact ⟨⟨t + 1, by omega, by omega, by go_num, E4, B4.out⟩, by simp [intOf]; omega⟩
      · obtain rfl : t = 9 := by omega
        have E2 : Hid (checkB a = othB 8 a.others) := Lib.hid (by rw [E.out]; rfl)
        have z9 := cell_below y9 hb
        rw [HVO.out] at z9
        clear E y0 y1 y2 y3 y4 y5 y6 y7 y8 y9
        go_wp2_with fail
        go_loopw [4, 39] (fun l i wr' => ∃ k : Nat, k ≤ a.others.length ∧ i = .int .i64 k ∧ l = .int .i64 (lastO 8 (a.others.take k)) ∧ Hid (checkB a = othB (lastO 8 (a.others.take k)) (a.others.drop k)) ∧ Below W0.heap.size W0 wr') (fun _ i _ => a.others.length - (intOf i).toNat)
        case atStart => exact ⟨0, by omega, rfl, rfl, E2, hb⟩
        case round =>
          clear E2 z9 hb
          obtain ⟨k, hk, rfl, rfl, E, hb⟩ := hrel
          by_cases hlt : k < a.others.length
          · obtain ⟨o, ho⟩ : ∃ o, a.others[k]? = some o := ⟨_, List.getElem?_eq_getElem hlt⟩
            obtain ⟨b, off, hsa, hP⟩ := HO.out (by omega)
            obtain ⟨cs, _, ⟨u, rfl, _, ⟨sb, cb, rfl, _⟩⟩, hc⟩ := hP k o ho
            have d0 := ((below_on hb0 hb).cell (size_lt (hc 0 _ rfl))).trans (hc 0 _ rfl)
            have d1 := ((below_on hb0 hb).cell (size_lt (hc 1 _ rfl))).trans (hc 1 _ rfl)
            simp only [Nat.add_zero] at d0
            obtain ⟨S1, S2⟩ := oth_step 8 ho
            have E2 : Hid (checkB a = ((decide (lastO 8 (a.others.take k) < o.1) && decide (o.1 ≤ 255)) && othB o.1 (a.others.drop (k + 1)))) := Lib.hid (by rw [E.out, S1])
            have S2 := Lib.hid S2
            have hB : Hid (∀ q, Below W0.heap.size W0 (wr.alloc q)) := Lib.hid fun q => hb.alloc hb.size q
            subst hsa
            clear hP hc ho E S1 hb
            obtain ⟨ot, ov⟩ := o
            simp only at d0 d1 E2 S2
            have S3 : Hid (Value.int .i64 ot = .int .i64 (lastO 8 (a.others.take (k + 1)))) := Lib.hid (by rw [S2.out])
            have E4 : Hid (decide (lastO 8 (a.others.take k) < ot) = true → decide (ot ≤ 255) = true → checkB a = othB (lastO 8 (a.others.take (k + 1))) (a.others.drop (k + 1))) := Lib.hid (fun h1 h2 => by rw [E2.out, h1, h2, S2.out]; rfl)
            clear S2
            generalize lastO 8 (a.others.take k) = l at E2 E4 ⊢
            by_cases x1 : l < ot
            · by_cases x2 : ot ≤ 255
              · have E5 := Lib.hid (E4.out (by simpa using x1) (by simpa using x2))
                clear E2 E4
                go_wp2_with fail
                exact ⟨⟨_, _, _, _, ⟨k + 1, by omega, rfl, rfl, E5, hB.out _⟩, rfl, S3.out, rfl, by go_num⟩, by simp [intOf]; omega⟩
              · have E3 : Hid (checkI a = 1) := Lib.hid (by unfold checkI; rw [E2.out, decide_eq_false x2]; simp)
                clear E2 E4
                go_wp2_with fail
                go_ret
                exact ⟨ret_int E3.out.symm, below_on hb0 (hB.out _)⟩
            · have E3 : Hid (checkI a = 1) := Lib.hid (by unfold checkI; rw [E2.out, decide_eq_false x1]; simp)
              clear E2 E4
              go_wp2_with fail
              go_ret
              exact ⟨ret_int E3.out.symm, below_on hb0 (hB.out _)⟩
          · obtain rfl : k = a.others.length := by omega
            have E3 : Hid (checkI a = 0) := Lib.hid (by unfold checkI; rw [E.out, List.drop_length]; rfl)
            clear E
            go_wp2_with fail
            go_ret
            exact ⟨ret_int E3.out.symm, below_on hb0 hb⟩
end Go.Proofs.YtohkbcdnlmjcjaaDoor
