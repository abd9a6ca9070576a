/-
  PsetMakes: the set of any prefixes, or why there is none; all in order, each once; what is asked for; for all lists of prefixes, prefixes and addresses; no condition.
-/
import Derived.Test.YtaafeekkllomhaaPsI
import Derived.IntWalk
import Derived.Deep.DeepCutAuto
namespace Go.Proofs.Ytaafeekkllomhaa
open Go.RowKit

theorem covB_take {xs : List Pf} {k : Nat} {q : Pf} (h : xs[k]? = some q) (x : Int) : covB (xs.take (k + 1)) x = (covB (xs.take k) x || hasB q.1 q.2 x) := by
  unfold covB
  rw [List.take_add_one, h, List.any_append]
  simp
theorem rights_take {xs : List Pf} {k : Nat} {q : Pf} (h : xs[k]? = some q) : rights (xs.take (k + 1)) = (rights (xs.take k) && rightB q.1 q.2) := by
  unfold rights
  rw [List.take_add_one, h, List.all_append]
  simp
theorem uniq_take {xs : List Pf} {k : Nat} {q : Pf} (h : xs[k]? = some q) : uniq (xs.take (k + 1)) = uStep (uniq (xs.take k)) q := by
  rw [List.take_add_one, h]; exact uniq_snoc _ q
/-- the statement's list of items. -/
def allIt (xs : List Pf) : List It3 := (uniq xs).map toIt
theorem covB_set (ps : List Pf) (x : Int) : covB (setOf ps) x = covB ps x := by
  unfold covB
  rw [Bool.eq_iff_iff, List.any_eq_true, List.any_eq_true]
  constructor
  · rintro ⟨p, h1, h2⟩
    exact ⟨p, ((setOf_srt ps).2 p).1 h1, h2⟩
  · rintro ⟨p, h1, h2⟩
    exact ⟨p, ((setOf_srt ps).2 p).2 h1, h2⟩
theorem ofE_60 {ps : List Pf} (h : ps.length ≤ 60) : ofE ps = if rights ps then 0 else 1 := by
  have := setOf_len ps
  unfold ofE
  rw [if_neg (by omega)]
  cases rights ps
  · rfl
  · rw [if_pos rfl, if_neg (by omega), if_pos rfl]
set_option maxHeartbeats 51200000 in
set_option maxRecDepth 100000 in
theorem makes_walk (va : Value) (ps : List Pf) (pa pn x : Int) (w : World) (ha : PsAt w va ps) (k0 : 0 ≤ x) (k1 : x < 4294967296) :
    Calls Try.prog 5 #[va, .agg #[.int .u32 pa, .int .i64 pn], .int .u32 x] w fun e w' => e = .returned (.bool true) ∧ Below w.heap.size w w' := by
  obtain ⟨i0, hi, hz0, hz1, hz2⟩ := info_parts info_item
  have HA := Lib.hid ha
  have la := ps_len ha
  obtain ⟨sa, ca, rfl, hl1, hc1, hV⟩ := id ha
  have HV := Lib.hid hV
  unfold maxLen at la
  clear hV hl1 hc1 ha
  go_enter Try.func5, Try.ntmps5
  go_upto_region 1 with (fail)
  obtain ⟨W0, hW, c0, c1, hb⟩ := box2 w (.int .u32 pa) (.int .i64 pn) 35
  rw [← hW]
  have CP := Lib.hid c0
  have CN := Lib.hid c1
  have B := Lib.hid hb
  clear hW c0 c1 hb
  go_wp2_with fail
  refine (ps_head _).mono ?_
  rintro e w1 ⟨rfl, hb1⟩
  have B := Lib.hid (below_on B.out hb1)
  have CP := Lib.hid (cell_below CP.out hb1)
  have CN := Lib.hid (cell_below CN.out hb1)
  clear hb1
  by_cases h1 : 60 < ps.length
  · have e1 : decide ((ps.length : Int) > 60) = true := by simp; omega
    clear h1
    go_wp2_with fail
    go_ret
    exact ⟨rfl, B.out⟩
  have e1 : decide ((ps.length : Int) > 60) = false := by simp; omega
  have LP : ps.length ≤ 60 := by omega
  have OE := Lib.hid (ofE_60 LP)
  have OF := Lib.hid (ps_Of (.slice sa ps.length ca) ps w1 (HA.out.below B.out))
  clear h1
  go_wp2_with fail
  refine OF.out.mono ?_
  rintro e w2 ⟨vs, rfl, oo, hb2⟩
  have PS := Lib.hid oo.at
  have B := Lib.hid (below_on B.out hb2)
  have CP := Lib.hid (cell_below CP.out hb2)
  have CN := Lib.hid (cell_below CN.out hb2)
  obtain ⟨ss, cs, rfl, -⟩ := id PS.out
  clear oo hb2 OF e1
  generalize hoe : ofE ps = oe
  have HOE := Lib.hid hoe
  clear hoe
  go_upto_region 6 with (fail)
  obtain ⟨W3, hW, q3, hb3, -⟩ := boxC w2 #[.slice ss (ofL ps).length cs] 26
  rw [← hW]
  have Ds : Hid (W3.cell? ⟨w2.heap.size, 0, none⟩ = some (.slice ss (ofL ps).length cs)) := Lib.hid (row_cell q3 0)
  have PS := Lib.hid (PS.out.below hb3)
  have B := Lib.hid (below_on B.out hb3)
  have CP := Lib.hid (cell_below CP.out hb3)
  have CN := Lib.hid (cell_below CN.out hb3)
  clear hW q3 hb3
  go_upto_region 8 with (fail)
  obtain ⟨W4, hW⟩ : ∃ W4, W4 = W3.alloc (.cells #[] 51) := ⟨_, rfl⟩
  have O : Hid (OwnIts W4 W3.heap.size (.slice (some ⟨W3.heap.size, 0, none⟩) 0 0) []) := Lib.hid (by rw [hW]; exact own_none W3 _ (Nat.le_refl _))
  have B4 : Hid (Below W3.heap.size W3 W4) := Lib.hid (by rw [hW]; exact (Below.refl _ _).alloc (Nat.le_refl _) _)
  rw [← hW]
  clear hW
  go_wp2_with fail
  obtain ⟨bi, hbi⟩ : ∃ bi, W3.heap.size = bi := ⟨_, rfl⟩
  have HBI := Lib.hid hbi
  rw [hbi] at O ⊢
  clear hbi
  go_loopw [31, 9, 10, 11] (fun i9 v9 v10 v11 wr => ∃ k : Nat, k ≤ ps.length ∧ i9 = .int .i64 k ∧ v9 = .bool (rights (ps.take k)) ∧ v11 = .bool (covB (ps.take k) x) ∧ Hid (OwnIts wr bi v10 (allIt (ps.take k))) ∧ Hid (Below W3.heap.size W3 wr)) (fun i9 _ _ _ _ => ps.length - (intOf i9).toNat)
  case atStart => exact ⟨0, by omega, rfl, rfl, rfl, O, B4⟩
  case round =>
    clear O B4
    obtain ⟨k, hk, rfl, rfl, rfl, O, BR⟩ := hrel
    by_cases hlt : k < ps.length
    · obtain ⟨q, hq⟩ : ∃ q, ps[k]? = some q := ⟨_, List.getElem?_eq_getElem hlt⟩
      obtain ⟨b1, off1, hsa, hP⟩ := HV.out (by omega)
      subst hsa
      obtain ⟨x0, x1⟩ := ps_two hP hq
      have x0 := cell_below (cell_below x0 B.out) BR.out
      have x1 := cell_below (cell_below x1 B.out) BR.out
      have i0' : (0 : Int) ≤ (k : Int) := by omega
      have i1' : (k : Int) < (ps.length : Int) := by omega
      have OQ := Lib.hid (ps_ok HA.out q (List.mem_of_getElem? hq))
      have ST1 := Lib.hid (rights_take hq)
      have ST2 := Lib.hid (covB_take hq x)
      have ST3 := Lib.hid (uniq_take hq)
      have FN := Lib.hid (find_neg OQ.out (uniq (ps.take k)) 0 (fun p hp => ps_ok HA.out p (List.mem_of_mem_take ((uniq_mem _ p).1 hp))))
      have UL : (allIt (ps.take k)).length ≤ 60 := by unfold allIt; rw [List.length_map]; exact Nat.le_trans (uniq_len _) (Nat.le_trans (List.length_take_le' _ _) LP)
      obtain ⟨qa, qn⟩ := q
      obtain ⟨qm, rfl⟩ := Int.eq_ofNat_of_zero_le OQ.out.1
      have qm1 : qm < 4294967296 := by have := OQ.out.2; simp only at this; omega
      simp only [Int.toNat_natCast] at FN ST1 ST2 x0 x1
      clear hP hq
      go_upto_region 12 with (fail)
      obtain ⟨W5, hW, y0, y1, hb5⟩ := box2 wr (.int .u32 qm) (.int .i64 qn) 35
      rw [← hW]
      have O5 := Lib.hid (O.out.below hb5)
      have B5 := Lib.hid (below_on BR.out hb5)
      have Y0 := Lib.hid y0
      have Y1 := Lib.hid y1
      clear hW hb5 x0 x1 O BR
      generalize rights (ps.take k) = dr at ST1
      generalize covB (ps.take k) x = dc at ST2
      have RC := Lib.hid (fun W => ref_Right (qm : Int) qn W (by omega) (by omega))
      have HC := Lib.hid (fun W => ref_Has (qm : Int) qn x W (by omega) (by omega) k0 k1)
      go_cut [9] (fun s wx => s = .bool (rights (ps.take (k + 1))) ∧ Hid (Below W5.heap.size W5 wx))
      case first =>
        cases dr
        · go_wp2_with fail
          go_meet
          exact ⟨by rw [ST1.out]; rfl, Lib.hid (Below.refl _ _)⟩
        · have ST4 : Hid (rights (ps.take (k + 1)) = rightB (qm : Int) qn) := Lib.hid (by rw [ST1.out]; rfl)
          generalize rightB (qm : Int) qn = z at RC ST4
          go_wp2_with fail
          refine (RC.out _).mono ?_
          rintro e w6 ⟨rfl, hb6⟩
          have HB6 := Lib.hid hb6
          clear hb6 y0 y1
          go_wp2_with fail
          go_meet
          exact ⟨by rw [ST4.out], HB6⟩
      case rest =>
        obtain ⟨rfl, HB6⟩ := hcut
        have y0 := cell_below Y0.out HB6.out
        have y1 := cell_below Y1.out HB6.out
        have O6 := Lib.hid (O5.out.below HB6.out)
        have B6 := Lib.hid (below_on B5.out HB6.out)
        have Y0 := Lib.hid y0
        have Y1 := Lib.hid y1
        clear O5 B5 HB6
        obtain ⟨wd, hwd⟩ : ∃ wd : World, wd = wc := ⟨_, rfl⟩
        rw [← hwd] at O6 B6 y0 y1 Y0 Y1 ⊢
        clear hwd
        go_upto_region 13 with (fail)
        go_cut [11] (fun s wx => s = .bool (covB (ps.take (k + 1)) x) ∧ Hid (Below wd.heap.size wd wx))
        case first =>
          cases dc
          · have ST4 : Hid (covB (ps.take (k + 1)) x = hasB (qm : Int) qn x) := Lib.hid (by rw [ST2.out]; rfl)
            generalize hasB (qm : Int) qn x = z at HC ST4
            go_wp2_with fail
            refine (HC.out _).mono ?_
            rintro e w6 ⟨rfl, hb6⟩
            have HB6 := Lib.hid hb6
            clear hb6 y0 y1
            go_wp2_with fail
            go_meet
            exact ⟨by rw [ST4.out], HB6⟩
          · go_wp2_with fail
            go_meet
            exact ⟨by rw [ST2.out]; rfl, Lib.hid (Below.refl _ _)⟩
        case rest =>
          obtain ⟨rfl, HB7⟩ := hcut
          have y0 := cell_below Y0.out HB7.out
          have y1 := cell_below Y1.out HB7.out
          have O7 := Lib.hid (O6.out.below HB7.out)
          have B7 := Lib.hid (below_on B6.out HB7.out)
          clear O6 B6 HB7 RC HC ST1 ST2
          obtain ⟨we, hwe⟩ : ∃ we : World, we = wc := ⟨_, rfl⟩
          rw [← hwe] at O7 B7 y0 y1 ⊢
          clear hwe
          have FD := Lib.hid (ref_Find u10 (allIt (ps.take k)) qm qn we O7.out.at_)
          have FR := findF_rng qm qn (allIt (ps.take k)) 0
          by_cases hin : (((qm : Nat) : Int), qn) ∈ uniq (ps.take k)
          · have F0 : 0 ≤ findI (allIt (ps.take k)) qm qn := by
              have : ¬ findI (allIt (ps.take k)) qm qn < 0 := fun h => (FN.out.1 h) hin
              omega
            have ST4 : Hid (allIt (ps.take (k + 1)) = allIt (ps.take k)) := Lib.hid (by unfold allIt; rw [ST3.out]; unfold uStep; rw [if_pos hin])
            clear hin FR
            generalize findI (allIt (ps.take k)) qm qn = f at FD F0
            have f0 : decide (f < 0) = false := by simp; omega
            go_wp2_with fail
            refine FD.out.mono ?_
            rintro e w8 ⟨rfl, hb8⟩
            have O8 := Lib.hid (O7.out.below hb8)
            have B8 := Lib.hid (below_on B7.out hb8)
            clear hb8 y0 y1 FD O7 B7
            go_wp2_with fail
            exact ⟨⟨k + 1, by omega, by go_num, rfl, rfl, Lib.hid (by rw [ST4.out]; exact O8.out), B8⟩, by simp [intOf]; omega⟩
          · have F0 : findI (allIt (ps.take k)) qm qn < 0 := FN.out.2 hin
            have ST4 : Hid (allIt (ps.take (k + 1)) = allIt (ps.take k) ++ [(qm, qn, 0)]) := Lib.hid (by unfold allIt; rw [ST3.out]; unfold uStep; rw [if_neg hin, List.map_append]; rfl)
            clear hin FR
            generalize findI (allIt (ps.take k)) qm qn = f at FD F0
            have f0 : decide (f < 0) = true := by simp; omega
            go_wp2_with fail
            refine FD.out.mono ?_
            rintro e w8 ⟨rfl, hb8⟩
            have O8 := Lib.hid (O7.out.below hb8)
            have B8 := Lib.hid (below_on B7.out hb8)
            have y0 := cell_below y0 hb8
            have y1 := cell_below y1 hb8
            have BI := Lib.hid (own_ge O8.out)
            clear hb8 FD O7 B7
            generalize allIt (ps.take k) = L at O8 ST4 UL BI
            go_wp2_with (at_builtin; refine wpList_append_own _ rfl _ _ 46 rfl bi 51 i0 _ 3 24 Try.underlying46 hi hz0 hz1 hz2 rfl (by decide) _ L.length (rowsOf L) rfl (O8.out.alloc _) ⟨w8.heap.size, 0, none⟩ 1 1 (it3C (qm, qn, 0)) rfl rfl (its_cells w8 (qm, qn, 0)) (it3_one _) (by unfold maxLen; omega) (by omega) (by have := B8.out.size; have := HBI.out; simp; omega) ?_)
            intro v' w9 hown hgrow _
            have O9 := Lib.hid (own_snoc hown)
            have B9 := Lib.hid ((B8.out.alloc B8.out.size _).grown hgrow (by have := B8.out.size; simp; omega) (fun j hj => by rw [HBI.out]; exact BI.out j hj))
            clear hown hgrow y0 y1
            go_wp2_with fail
            exact ⟨⟨k + 1, by omega, by go_num, rfl, rfl, Lib.hid (by rw [ST4.out]; exact O9.out), B9⟩, by simp [intOf]; omega⟩
    · obtain rfl : k = ps.length := by omega
      rw [List.take_length] at O
      rw [List.take_length]
      have PS := Lib.hid (PS.out.below BR.out)
      have Ds := Lib.hid (cell_below Ds.out BR.out)
      have CP := Lib.hid (cell_below CP.out BR.out)
      have CN := Lib.hid (cell_below CN.out BR.out)
      have B := Lib.hid (below_on B.out BR.out)
      cases hR : rights ps
      · have OE1 : Hid (oe = 1 ∧ ofL ps = []) := Lib.hid (by
          have h1 : ofE ps = 1 := by rw [OE.out, hR]; rfl
          exact ⟨by rw [← HOE.out, h1], by unfold ofL; rw [if_neg (by rw [h1]; decide)]⟩)
        clear hR
        have LN := Lib.hid (ps_Len (.slice ss (ofL ps).length cs) (ofL ps) wr PS.out)
        rw [OE1.out.2] at LN Ds
        rw [OE1.out.1]
        have ds := Ds.out
        go_wp2_with fail
        refine LN.out.mono ?_
        rintro e w7 ⟨rfl, hb7⟩
        have B := Lib.hid (below_on B.out hb7)
        clear hb7 LN ds
        go_wp2_with fail
        go_ret
        exact ⟨rfl, B.out⟩
      · have OE1 : Hid (oe = 0 ∧ ofL ps = setOf ps) := Lib.hid (by
          have h1 : ofE ps = 0 := by rw [OE.out, hR]; rfl
          exact ⟨by rw [← HOE.out, h1], by unfold ofL; rw [if_pos h1]⟩)
        have SI := Lib.hid (sorted_is (ps_ok HA.out) hR)
        have SC := Lib.hid (covB_set ps x)
        have SRT := Lib.hid (setOf_srt ps)
        have LS := Lib.hid (Nat.le_trans (setOf_len ps) LP)
        have UL : (allIt ps).length ≤ 60 := by unfold allIt; rw [List.length_map]; exact Nat.le_trans (uniq_len _) LP
        clear hR
        have IOK : ItsOk (allIt ps) := by
          intro i it hit
          unfold allIt at hit
          rw [List.getElem?_map] at hit
          obtain ⟨p, hp, rfl⟩ := Option.map_eq_some_iff.1 hit
          have := ps_ok HA.out p ((uniq_mem ps p).1 (List.mem_of_getElem? hp))
          unfold toIt
          have h2 := this.2
          simp only
          omega
        have SR : Hid (Calls Try.prog 22 #[u10, .int .u32 0, .int .i64 0] wr fun e w' => ∃ v', e = .returned v' ∧ ItsAt w' v' (refSorted (allIt ps) 0 0) ∧ Below wr.heap.size wr w') := Lib.hid (ref_Sorted u10 (allIt ps) 0 0 wr O.out.at_ (by decide) (by omega) IOK)
        clear IOK
        rw [OE1.out.1]
        rw [OE1.out.2] at PS Ds
        go_wp2_with fail
        refine SR.out.mono ?_
        rintro e w7 ⟨vw, rfl, iw, hb7⟩
        have HA := Lib.hid (HA.out.below (below_on B.out hb7))
        have PS := Lib.hid (PS.out.below hb7)
        have ds := cell_below Ds.out hb7
        have CP := Lib.hid (cell_below CP.out hb7)
        have CN := Lib.hid (cell_below CN.out hb7)
        have B := Lib.hid (below_on B.out hb7)
        rw [show refSorted (allIt ps) 0 0 = (setOf ps).map toIt from SI.out] at iw
        obtain ⟨sw, cw, rfl, hwl, hwc, VW⟩ := iw.view
        rw [List.length_map] at hwl ⊢
        have VV := Lib.hid VW
        clear hb7 SR iw VW O UL SI Ds
        generalize setOf ps = xs at PS ds SC SRT LS VV hwl ⊢
        have lx := LS.out
        have LI := Lib.hid (ps_List _ xs w7 PS.out (by omega))
        go_wp2_with fail
        refine LI.out.mono ?_
        rintro e w8 ⟨v1, rfl, p1, hb8⟩
        have P1 := Lib.hid p1
        have HA := Lib.hid (HA.out.below hb8)
        have PS := Lib.hid (PS.out.below hb8)
        have VV := Lib.hid (VV.out.below hb8)
        have ds := cell_below ds hb8
        have cp := cell_below CP.out hb8
        have cn := cell_below CN.out hb8
        have B := Lib.hid (below_on B.out hb8)
        obtain ⟨s1, c1, rfl, hl1, hc1, hV⟩ := id P1.out
        have HV1 := Lib.hid hV
        clear p1 hb8 LI CP CN hV hl1 hc1
        have LN := Lib.hid (fun W (hW : Below w8.heap.size w8 W) => ps_Len _ xs W (PS.out.below hW))
        have HS := Lib.hid (fun W (hW : Below w8.heap.size w8 W) => ps_Has _ xs (pa, pn) W (PS.out.below hW) SRT.out.1)
        have IN := Lib.hid (fun W (hW : Below w8.heap.size w8 W) => law_in _ ps (pa, pn) W (HA.out.below hW))
        have CV := Lib.hid (fun W (hW : Below w8.heap.size w8 W) => ps_Covers _ xs x k0 k1 W (PS.out.below hW))
        have HE : Hid (decide ((pa, pn) ∈ xs) = decide ((pa, pn) ∈ ps)) := Lib.hid (by rw [decide_eq_decide]; exact SRT.out.2 _)
        rw [HE.out] at HS
        rw [SC.out] at CV
        generalize decide ((pa, pn) ∈ ps) = d1 at HS IN
        generalize covB ps x = d2 at CV ⊢
        have f1 : (d1 != d1) = false := by cases d1 <;> rfl
        have f2 : (d2 != d2) = false := by cases d2 <;> rfl
        go_upto_region 21 with (fail)
        refine wp_region_held_drew (S := fun w' => Below w8.heap.size w8 w') (by kernel_rfl) ?_ (fun hHeld => ?_)
        · exact (Below.refl _ _).drew
        refine rg_yes (i := 0) (v := ?_) at0 (by kernel_rfl) (by kernel_rfl) (by kernel_rfl) (fun _ _ _ h => h) ?_ ?_ hHeld ?_; rotate_left 1; (· rfl); (· intro w' hSw; (try dsimp only at hSw); (try clear hHeld); go_simp; try with_reducible rfl)
        try simp only [Act.put, List.setIfInBounds_toArray, List.set_cons_zero, List.set_cons_succ]
        refine rg_yes (i := 1) (v := ?_) (atS at0) (by kernel_rfl) (by kernel_rfl) (by kernel_rfl) (fun _ _ _ h => h) ?_ ?_ hHeld ?_; rotate_left 1; (· rfl); (· intro w' hSw; (try dsimp only at hSw); (try clear hHeld); go_simp; try with_reducible rfl)
        try simp only [Act.put, List.setIfInBounds_toArray, List.set_cons_zero, List.set_cons_succ]
        refine rg_yes (i := 2) (v := ?_) (atS (atS at0)) (by kernel_rfl) (by kernel_rfl) (by kernel_rfl) (fun _ _ _ h => h) ?_ ?_ hHeld ?_; rotate_left 1; (· rfl); (· intro w' hSw; (try dsimp only at hSw); (try clear hHeld); go_simp; try with_reducible rfl)
        try simp only [Act.put, List.setIfInBounds_toArray, List.set_cons_zero, List.set_cons_succ]
        first | (refine rg_no (i := 3) (atS (atS (atS at0))) (by kernel_rfl) (by kernel_rfl) (by kernel_rfl) (fun _ _ _ h => h) ?_ hHeld ?_; (· rfl)) | (refine rg_yes (i := 3) (v := ?_) (atS (atS (atS at0))) (by kernel_rfl) (by kernel_rfl) (by kernel_rfl) (fun _ _ _ h => h) ?_ ?_ hHeld ?_; rotate_left 1; (· rfl); (· intro w' hSw; (try dsimp only at hSw); (try clear hHeld); go_simp; try with_reducible rfl))
        try simp only [Act.put, List.setIfInBounds_toArray, List.set_cons_zero, List.set_cons_succ]
        first | (refine rg_no (i := 4) (atS (atS (atS (atS at0)))) (by kernel_rfl) (by kernel_rfl) (by kernel_rfl) (fun _ _ _ h => h) ?_ hHeld ?_; (· rfl)) | (refine rg_yes (i := 4) (v := ?_) (atS (atS (atS (atS at0)))) (by kernel_rfl) (by kernel_rfl) (by kernel_rfl) (fun _ _ _ h => h) ?_ ?_ hHeld ?_; rotate_left 1; (· rfl); (· intro w' hSw; (try dsimp only at hSw); (try clear hHeld); go_simp; try with_reducible rfl))
        try simp only [Act.put, List.setIfInBounds_toArray, List.set_cons_zero, List.set_cons_succ]
        first | (refine rg_no (i := 5) (atS (atS (atS (atS (atS at0))))) (by kernel_rfl) (by kernel_rfl) (by kernel_rfl) (fun _ _ _ h => h) ?_ hHeld ?_; (· rfl)) | (refine rg_yes (i := 5) (v := ?_) (atS (atS (atS (atS (atS at0))))) (by kernel_rfl) (by kernel_rfl) (by kernel_rfl) (fun _ _ _ h => h) ?_ ?_ hHeld ?_; rotate_left 1; (· rfl); (· intro w' hSw; (try dsimp only at hSw); (try clear hHeld); go_simp; try with_reducible rfl))
        try simp only [Act.put, List.setIfInBounds_toArray, List.set_cons_zero, List.set_cons_succ]
        first | (refine rg_no (i := 6) (atS (atS (atS (atS (atS (atS at0)))))) (by kernel_rfl) (by kernel_rfl) (by kernel_rfl) (fun _ _ _ h => h) ?_ hHeld ?_; (· rfl)) | (refine rg_yes (i := 6) (v := ?_) (atS (atS (atS (atS (atS (atS at0)))))) (by kernel_rfl) (by kernel_rfl) (by kernel_rfl) (fun _ _ _ h => h) ?_ ?_ hHeld ?_; rotate_left 1; (· rfl); (· intro w' hSw; (try dsimp only at hSw); (try clear hHeld); go_simp; try with_reducible rfl))
        try simp only [Act.put, List.setIfInBounds_toArray, List.set_cons_zero, List.set_cons_succ]
        first | (refine rg_no (i := 7) (atS (atS (atS (atS (atS (atS (atS at0))))))) (by kernel_rfl) (by kernel_rfl) (by kernel_rfl) (fun _ _ _ h => h) ?_ hHeld ?_; (· rfl)) | (refine rg_yes (i := 7) (v := ?_) (atS (atS (atS (atS (atS (atS (atS at0))))))) (by kernel_rfl) (by kernel_rfl) (by kernel_rfl) (fun _ _ _ h => h) ?_ ?_ hHeld ?_; rotate_left 1; (· rfl); (· intro w' hSw; (try dsimp only at hSw); (try clear hHeld); go_simp; try with_reducible rfl))
        try simp only [Act.put, List.setIfInBounds_toArray, List.set_cons_zero, List.set_cons_succ]
        refine rg_yes (i := 8) (v := ?_) (atS (atS (atS (atS (atS (atS (atS (atS at0)))))))) (by kernel_rfl) (by kernel_rfl) (by kernel_rfl) (fun _ _ _ h => h) ?_ ?_ hHeld ?_; rotate_left 1; (· rfl); (· intro w' hSw; (try dsimp only at hSw); (try clear hHeld); go_simp; try with_reducible rfl)
        try simp only [Act.put, List.setIfInBounds_toArray, List.set_cons_zero, List.set_cons_succ]
        refine rg_yes (i := 9) (v := ?_) (atS (atS (atS (atS (atS (atS (atS (atS (atS at0))))))))) (by kernel_rfl) (by kernel_rfl) (by kernel_rfl) (fun _ _ _ h => h) ?_ ?_ hHeld ?_; rotate_left 1; (· rfl); (· intro w' hSw; (try dsimp only at hSw); (try clear hHeld); go_simp; try with_reducible rfl)
        try simp only [Act.put, List.setIfInBounds_toArray, List.set_cons_zero, List.set_cons_succ]
        first | (refine rg_no (i := 10) (atS (atS (atS (atS (atS (atS (atS (atS (atS (atS at0)))))))))) (by kernel_rfl) (by kernel_rfl) (by kernel_rfl) (fun _ _ _ h => h) ?_ hHeld ?_; (· rfl)) | (refine rg_yes (i := 10) (v := ?_) (atS (atS (atS (atS (atS (atS (atS (atS (atS (atS at0)))))))))) (by kernel_rfl) (by kernel_rfl) (by kernel_rfl) (fun _ _ _ h => h) ?_ ?_ hHeld ?_; rotate_left 1; (· rfl); (· intro w' hSw; (try dsimp only at hSw); have ds := cell_below ds hSw; have cp := cell_below cp hSw; have cn := cell_below cn hSw; (try clear hHeld); go_simp; try with_reducible rfl))
        try simp only [Act.put, List.setIfInBounds_toArray, List.set_cons_zero, List.set_cons_succ]
        first | (refine rg_no (i := 12) (atS (atS (atS (atS (atS (atS (atS (atS (atS (atS (atS (atS at0)))))))))))) (by kernel_rfl) (by kernel_rfl) (by kernel_rfl) (fun _ _ _ h => h) ?_ hHeld ?_; (· rfl)) | (refine rg_yes (i := 12) (v := ?_) (atS (atS (atS (atS (atS (atS (atS (atS (atS (atS (atS (atS at0)))))))))))) (by kernel_rfl) (by kernel_rfl) (by kernel_rfl) (fun _ _ _ h => h) ?_ ?_ hHeld ?_; rotate_left 1; (· rfl); (· intro w' hSw; (try dsimp only at hSw); (try clear hHeld); go_simp; try with_reducible rfl))
        try simp only [Act.put, List.setIfInBounds_toArray, List.set_cons_zero, List.set_cons_succ]
        first | (refine rg_no (i := 13) (atS (atS (atS (atS (atS (atS (atS (atS (atS (atS (atS (atS (atS at0))))))))))))) (by kernel_rfl) (by kernel_rfl) (by kernel_rfl) (fun _ _ _ h => h) ?_ hHeld ?_; (· rfl)) | (refine rg_yes (i := 13) (v := ?_) (atS (atS (atS (atS (atS (atS (atS (atS (atS (atS (atS (atS (atS at0))))))))))))) (by kernel_rfl) (by kernel_rfl) (by kernel_rfl) (fun _ _ _ h => h) ?_ ?_ hHeld ?_; rotate_left 1; (· rfl); (· intro w' hSw; (try dsimp only at hSw); (try clear hHeld); go_simp; try with_reducible rfl))
        try simp only [Act.put, List.setIfInBounds_toArray, List.set_cons_zero, List.set_cons_succ]
        first | (refine rg_no (i := 11) (atS (atS (atS (atS (atS (atS (atS (atS (atS (atS (atS at0))))))))))) (by kernel_rfl) (by kernel_rfl) (by kernel_rfl) (fun _ _ _ h => h) ?_ hHeld ?_; (· rfl)) | (refine rg_call (i := 11) (atS (atS (atS (atS (atS (atS (atS (atS (atS (atS (atS at0))))))))))) (by kernel_rfl) ?_ (fun K hK => ?_); (· rfl); (try clear hb); go_simp; (refine (LN.out _ hHeld).mono ?_; rintro e w1 ⟨rfl, hb⟩); go_wp2_with fail; refine hK.out _ _ ?_ (fun hHeld => ?_); (· exact hHeld.trans (hb.mono hHeld.size)); clear hK K)
        try simp only [Act.put, List.setIfInBounds_toArray, List.set_cons_zero, List.set_cons_succ]
        first | (refine rg_no (i := 14) (atS (atS (atS (atS (atS (atS (atS (atS (atS (atS (atS (atS (atS (atS at0)))))))))))))) (by kernel_rfl) (by kernel_rfl) (by kernel_rfl) (fun _ _ _ h => h) ?_ hHeld ?_; (· rfl)) | (refine rg_yes (i := 14) (v := ?_) (atS (atS (atS (atS (atS (atS (atS (atS (atS (atS (atS (atS (atS (atS at0)))))))))))))) (by kernel_rfl) (by kernel_rfl) (by kernel_rfl) (fun _ _ _ h => h) ?_ ?_ hHeld ?_; rotate_left 1; (· rfl); (· intro w' hSw; (try dsimp only at hSw); (try clear hHeld); go_simp; try with_reducible rfl))
        try simp only [Act.put, List.setIfInBounds_toArray, List.set_cons_zero, List.set_cons_succ]
        refine rg_yes (i := 15) (v := ?_) (atS (atS (atS (atS (atS (atS (atS (atS (atS (atS (atS (atS (atS (atS (atS at0))))))))))))))) (by kernel_rfl) (by kernel_rfl) (by kernel_rfl) (fun _ _ _ h => h) ?_ ?_ hHeld ?_; rotate_left 1; (· rfl); (· intro w' hSw; (try dsimp only at hSw); (try clear hHeld); go_simp; try with_reducible rfl)
        try simp only [Act.put, List.setIfInBounds_toArray, List.set_cons_zero, List.set_cons_succ]
        refine rg_yes (i := 16) (v := ?_) (atS (atS (atS (atS (atS (atS (atS (atS (atS (atS (atS (atS (atS (atS (atS (atS at0)))))))))))))))) (by kernel_rfl) (by kernel_rfl) (by kernel_rfl) (fun _ _ _ h => h) ?_ ?_ hHeld ?_; rotate_left 1; (· rfl); (· intro w' hSw; (try dsimp only at hSw); (try clear hHeld); go_simp; try with_reducible rfl)
        try simp only [Act.put, List.setIfInBounds_toArray, List.set_cons_zero, List.set_cons_succ]
        first | (refine rg_no (i := 17) (atS (atS (atS (atS (atS (atS (atS (atS (atS (atS (atS (atS (atS (atS (atS (atS (atS at0))))))))))))))))) (by kernel_rfl) (by kernel_rfl) (by kernel_rfl) (fun _ _ _ h => h) ?_ hHeld ?_; (· rfl)) | (refine rg_yes (i := 17) (v := ?_) (atS (atS (atS (atS (atS (atS (atS (atS (atS (atS (atS (atS (atS (atS (atS (atS (atS at0))))))))))))))))) (by kernel_rfl) (by kernel_rfl) (by kernel_rfl) (fun _ _ _ h => h) ?_ ?_ hHeld ?_; rotate_left 1; (· rfl); (· intro w' hSw; (try dsimp only at hSw); have ds := cell_below ds hSw; have cp := cell_below cp hSw; have cn := cell_below cn hSw; (try clear hHeld); go_simp; try with_reducible rfl))
        try simp only [Act.put, List.setIfInBounds_toArray, List.set_cons_zero, List.set_cons_succ]
        first | (refine rg_no (i := 18) (atS (atS (atS (atS (atS (atS (atS (atS (atS (atS (atS (atS (atS (atS (atS (atS (atS (atS at0)))))))))))))))))) (by kernel_rfl) (by kernel_rfl) (by kernel_rfl) (fun _ _ _ h => h) ?_ hHeld ?_; (· rfl)) | (refine rg_yes (i := 18) (v := ?_) (atS (atS (atS (atS (atS (atS (atS (atS (atS (atS (atS (atS (atS (atS (atS (atS (atS (atS at0)))))))))))))))))) (by kernel_rfl) (by kernel_rfl) (by kernel_rfl) (fun _ _ _ h => h) ?_ ?_ hHeld ?_; rotate_left 1; (· rfl); (· intro w' hSw; (try dsimp only at hSw); have ds := cell_below ds hSw; have cp := cell_below cp hSw; have cn := cell_below cn hSw; (try clear hHeld); go_simp; try with_reducible rfl))
        try simp only [Act.put, List.setIfInBounds_toArray, List.set_cons_zero, List.set_cons_succ]
        first | (refine rg_no (i := 20) (atS (atS (atS (atS (atS (atS (atS (atS (atS (atS (atS (atS (atS (atS (atS (atS (atS (atS (atS (atS at0)))))))))))))))))))) (by kernel_rfl) (by kernel_rfl) (by kernel_rfl) (fun _ _ _ h => h) ?_ hHeld ?_; (· rfl)) | (refine rg_yes (i := 20) (v := ?_) (atS (atS (atS (atS (atS (atS (atS (atS (atS (atS (atS (atS (atS (atS (atS (atS (atS (atS (atS (atS at0)))))))))))))))))))) (by kernel_rfl) (by kernel_rfl) (by kernel_rfl) (fun _ _ _ h => h) ?_ ?_ hHeld ?_; rotate_left 1; (· rfl); (· intro w' hSw; (try dsimp only at hSw); (try clear hHeld); go_simp; try with_reducible rfl))
        try simp only [Act.put, List.setIfInBounds_toArray, List.set_cons_zero, List.set_cons_succ]
        first | (refine rg_no (i := 21) (atS (atS (atS (atS (atS (atS (atS (atS (atS (atS (atS (atS (atS (atS (atS (atS (atS (atS (atS (atS (atS at0))))))))))))))))))))) (by kernel_rfl) (by kernel_rfl) (by kernel_rfl) (fun _ _ _ h => h) ?_ hHeld ?_; (· rfl)) | (refine rg_yes (i := 21) (v := ?_) (atS (atS (atS (atS (atS (atS (atS (atS (atS (atS (atS (atS (atS (atS (atS (atS (atS (atS (atS (atS (atS at0))))))))))))))))))))) (by kernel_rfl) (by kernel_rfl) (by kernel_rfl) (fun _ _ _ h => h) ?_ ?_ hHeld ?_; rotate_left 1; (· rfl); (· intro w' hSw; (try dsimp only at hSw); have ds := cell_below ds hSw; have cp := cell_below cp hSw; have cn := cell_below cn hSw; (try clear hHeld); go_simp; try with_reducible rfl))
        try simp only [Act.put, List.setIfInBounds_toArray, List.set_cons_zero, List.set_cons_succ]
        first | (refine rg_no (i := 19) (atS (atS (atS (atS (atS (atS (atS (atS (atS (atS (atS (atS (atS (atS (atS (atS (atS (atS (atS at0))))))))))))))))))) (by kernel_rfl) (by kernel_rfl) (by kernel_rfl) (fun _ _ _ h => h) ?_ hHeld ?_; (· rfl)) | (refine rg_call (i := 19) (atS (atS (atS (atS (atS (atS (atS (atS (atS (atS (atS (atS (atS (atS (atS (atS (atS (atS (atS at0))))))))))))))))))) (by kernel_rfl) ?_ (fun K hK => ?_); (· rfl); (try clear hb); go_simp; (refine (HS.out _ hHeld).mono ?_; rintro e w1 ⟨rfl, hb⟩); go_wp2_with fail; refine hK.out _ _ ?_ (fun hHeld => ?_); (· exact hHeld.trans (hb.mono hHeld.size)); clear hK K)
        try simp only [Act.put, List.setIfInBounds_toArray, List.set_cons_zero, List.set_cons_succ]
        first | (refine rg_no (i := 22) (atS (atS (atS (atS (atS (atS (atS (atS (atS (atS (atS (atS (atS (atS (atS (atS (atS (atS (atS (atS (atS (atS at0)))))))))))))))))))))) (by kernel_rfl) (by kernel_rfl) (by kernel_rfl) (fun _ _ _ h => h) ?_ hHeld ?_; (· rfl)) | (refine rg_call (i := 22) (atS (atS (atS (atS (atS (atS (atS (atS (atS (atS (atS (atS (atS (atS (atS (atS (atS (atS (atS (atS (atS (atS at0)))))))))))))))))))))) (by kernel_rfl) ?_ (fun K hK => ?_); (· rfl); (try clear hb); go_simp; (refine (IN.out _ hHeld).mono ?_; rintro e w1 ⟨rfl, hb⟩); go_wp2_with fail; refine hK.out _ _ ?_ (fun hHeld => ?_); (· exact hHeld.trans (hb.mono hHeld.size)); clear hK K)
        try simp only [Act.put, List.setIfInBounds_toArray, List.set_cons_zero, List.set_cons_succ]
        first | (refine rg_no (i := 23) (atS (atS (atS (atS (atS (atS (atS (atS (atS (atS (atS (atS (atS (atS (atS (atS (atS (atS (atS (atS (atS (atS (atS at0))))))))))))))))))))))) (by kernel_rfl) (by kernel_rfl) (by kernel_rfl) (fun _ _ _ h => h) ?_ hHeld ?_; (· rfl)) | (refine rg_yes (i := 23) (v := ?_) (atS (atS (atS (atS (atS (atS (atS (atS (atS (atS (atS (atS (atS (atS (atS (atS (atS (atS (atS (atS (atS (atS (atS at0))))))))))))))))))))))) (by kernel_rfl) (by kernel_rfl) (by kernel_rfl) (fun _ _ _ h => h) ?_ ?_ hHeld ?_; rotate_left 1; (· rfl); (· intro w' hSw; (try dsimp only at hSw); (try clear hHeld); go_simp; try with_reducible rfl))
        try simp only [Act.put, List.setIfInBounds_toArray, List.set_cons_zero, List.set_cons_succ]
        refine rg_yes (i := 24) (v := ?_) (atS (atS (atS (atS (atS (atS (atS (atS (atS (atS (atS (atS (atS (atS (atS (atS (atS (atS (atS (atS (atS (atS (atS (atS at0)))))))))))))))))))))))) (by kernel_rfl) (by kernel_rfl) (by kernel_rfl) (fun _ _ _ h => h) ?_ ?_ hHeld ?_; rotate_left 1; (· rfl); (· intro w' hSw; (try dsimp only at hSw); (try clear hHeld); go_simp; try with_reducible rfl)
        try simp only [Act.put, List.setIfInBounds_toArray, List.set_cons_zero, List.set_cons_succ]
        refine rg_yes (i := 25) (v := ?_) (atS (atS (atS (atS (atS (atS (atS (atS (atS (atS (atS (atS (atS (atS (atS (atS (atS (atS (atS (atS (atS (atS (atS (atS (atS at0))))))))))))))))))))))))) (by kernel_rfl) (by kernel_rfl) (by kernel_rfl) (fun _ _ _ h => h) ?_ ?_ hHeld ?_; rotate_left 1; (· rfl); (· intro w' hSw; (try dsimp only at hSw); (try clear hHeld); go_simp; try with_reducible rfl)
        try simp only [Act.put, List.setIfInBounds_toArray, List.set_cons_zero, List.set_cons_succ]
        first | (refine rg_no (i := 26) (atS (atS (atS (atS (atS (atS (atS (atS (atS (atS (atS (atS (atS (atS (atS (atS (atS (atS (atS (atS (atS (atS (atS (atS (atS (atS at0)))))))))))))))))))))))))) (by kernel_rfl) (by kernel_rfl) (by kernel_rfl) (fun _ _ _ h => h) ?_ hHeld ?_; (· rfl)) | (refine rg_yes (i := 26) (v := ?_) (atS (atS (atS (atS (atS (atS (atS (atS (atS (atS (atS (atS (atS (atS (atS (atS (atS (atS (atS (atS (atS (atS (atS (atS (atS (atS at0)))))))))))))))))))))))))) (by kernel_rfl) (by kernel_rfl) (by kernel_rfl) (fun _ _ _ h => h) ?_ ?_ hHeld ?_; rotate_left 1; (· rfl); (· intro w' hSw; (try dsimp only at hSw); have ds := cell_below ds hSw; have cp := cell_below cp hSw; have cn := cell_below cn hSw; (try clear hHeld); go_simp; try with_reducible rfl))
        try simp only [Act.put, List.setIfInBounds_toArray, List.set_cons_zero, List.set_cons_succ]
        first | (refine rg_no (i := 27) (atS (atS (atS (atS (atS (atS (atS (atS (atS (atS (atS (atS (atS (atS (atS (atS (atS (atS (atS (atS (atS (atS (atS (atS (atS (atS (atS at0))))))))))))))))))))))))))) (by kernel_rfl) (by kernel_rfl) (by kernel_rfl) (fun _ _ _ h => h) ?_ hHeld ?_; (· rfl)) | (refine rg_yes (i := 27) (v := ?_) (atS (atS (atS (atS (atS (atS (atS (atS (atS (atS (atS (atS (atS (atS (atS (atS (atS (atS (atS (atS (atS (atS (atS (atS (atS (atS (atS at0))))))))))))))))))))))))))) (by kernel_rfl) (by kernel_rfl) (by kernel_rfl) (fun _ _ _ h => h) ?_ ?_ hHeld ?_; rotate_left 1; (· rfl); (· intro w' hSw; (try dsimp only at hSw); (try clear hHeld); go_simp; try with_reducible rfl))
        try simp only [Act.put, List.setIfInBounds_toArray, List.set_cons_zero, List.set_cons_succ]
        first | (refine rg_no (i := 29) (atS (atS (atS (atS (atS (atS (atS (atS (atS (atS (atS (atS (atS (atS (atS (atS (atS (atS (atS (atS (atS (atS (atS (atS (atS (atS (atS (atS (atS at0))))))))))))))))))))))))))))) (by kernel_rfl) (by kernel_rfl) (by kernel_rfl) (fun _ _ _ h => h) ?_ hHeld ?_; (· rfl)) | (refine rg_yes (i := 29) (v := ?_) (atS (atS (atS (atS (atS (atS (atS (atS (atS (atS (atS (atS (atS (atS (atS (atS (atS (atS (atS (atS (atS (atS (atS (atS (atS (atS (atS (atS (atS at0))))))))))))))))))))))))))))) (by kernel_rfl) (by kernel_rfl) (by kernel_rfl) (fun _ _ _ h => h) ?_ ?_ hHeld ?_; rotate_left 1; (· rfl); (· intro w' hSw; (try dsimp only at hSw); (try clear hHeld); go_simp; try with_reducible rfl))
        try simp only [Act.put, List.setIfInBounds_toArray, List.set_cons_zero, List.set_cons_succ]
        first | (refine rg_no (i := 28) (atS (atS (atS (atS (atS (atS (atS (atS (atS (atS (atS (atS (atS (atS (atS (atS (atS (atS (atS (atS (atS (atS (atS (atS (atS (atS (atS (atS at0)))))))))))))))))))))))))))) (by kernel_rfl) (by kernel_rfl) (by kernel_rfl) (fun _ _ _ h => h) ?_ hHeld ?_; (· rfl)) | (refine rg_call (i := 28) (atS (atS (atS (atS (atS (atS (atS (atS (atS (atS (atS (atS (atS (atS (atS (atS (atS (atS (atS (atS (atS (atS (atS (atS (atS (atS (atS (atS at0)))))))))))))))))))))))))))) (by kernel_rfl) ?_ (fun K hK => ?_); (· rfl); (try clear hb); go_simp; (refine (CV.out _ hHeld).mono ?_; rintro e w1 ⟨rfl, hb⟩); go_wp2_with fail; refine hK.out _ _ ?_ (fun hHeld => ?_); (· exact hHeld.trans (hb.mono hHeld.size)); clear hK K)
        try simp only [Act.put, List.setIfInBounds_toArray, List.set_cons_zero, List.set_cons_succ]
        first | (refine rg_no (i := 30) (atS (atS (atS (atS (atS (atS (atS (atS (atS (atS (atS (atS (atS (atS (atS (atS (atS (atS (atS (atS (atS (atS (atS (atS (atS (atS (atS (atS (atS (atS at0)))))))))))))))))))))))))))))) (by kernel_rfl) (by kernel_rfl) (by kernel_rfl) (fun _ _ _ h => h) ?_ hHeld ?_; (· rfl)) | (refine rg_yes (i := 30) (v := ?_) (atS (atS (atS (atS (atS (atS (atS (atS (atS (atS (atS (atS (atS (atS (atS (atS (atS (atS (atS (atS (atS (atS (atS (atS (atS (atS (atS (atS (atS (atS at0)))))))))))))))))))))))))))))) (by kernel_rfl) (by kernel_rfl) (by kernel_rfl) (fun _ _ _ h => h) ?_ ?_ hHeld ?_; rotate_left 1; (· rfl); (· intro w' hSw; (try dsimp only at hSw); (try clear hHeld); go_simp; try with_reducible rfl))
        try simp only [Act.put, List.setIfInBounds_toArray, List.set_cons_zero, List.set_cons_succ]
        refine rg_yes (i := 31) (v := ?_) (atS (atS (atS (atS (atS (atS (atS (atS (atS (atS (atS (atS (atS (atS (atS (atS (atS (atS (atS (atS (atS (atS (atS (atS (atS (atS (atS (atS (atS (atS (atS at0))))))))))))))))))))))))))))))) (by kernel_rfl) (by kernel_rfl) (by kernel_rfl) (fun _ _ _ h => h) ?_ ?_ hHeld ?_; rotate_left 1; (· rfl); (· intro w' hSw; (try dsimp only at hSw); (try clear hHeld); go_simp; try with_reducible rfl)
        try simp only [Act.put, List.setIfInBounds_toArray, List.set_cons_zero, List.set_cons_succ]
        refine wpAnyH_done (by kernel_rfl) ?_ _
        have BF := Lib.hid B.out
        have HH := Lib.hid hHeld
        clear hHeld hb ds cp cn f1 f2
        go_wp2_with fail
        go_loopw [115] (fun i9 wr => ∃ k : Nat, k ≤ xs.length ∧ i9 = .int .i64 k ∧ Hid (Below w8.heap.size w8 wr)) (fun i9 _ => xs.length - (intOf i9).toNat)
        case atStart => exact ⟨0, by omega, rfl, HH⟩
        case round =>
          obtain ⟨k, hk, rfl, BR⟩ := hrel
          by_cases hlt : k < xs.length
          · obtain ⟨q, hq⟩ : ∃ q, xs[k]? = some q := ⟨_, List.getElem?_eq_getElem hlt⟩
            obtain ⟨b2, off2, hsa, hP⟩ := HV1.out (by omega)
            subst hsa
            obtain ⟨x0, x1⟩ := ps_two hP hq
            obtain ⟨g, hg, v0, v1, -⟩ := VV.out k (toIt q) (by rw [List.getElem?_map, hq]; rfl)
            subst hg
            have x0 := cell_below x0 BR.out
            have x1 := cell_below x1 BR.out
            have v0 := cell_below v0 BR.out
            have v1 := cell_below v1 BR.out
            have i0' : (0 : Int) ≤ (k : Int) := by omega
            have i1' : (k : Int) < (xs.length : Int) := by omega
            have OQ := Lib.hid (ps_ok P1.out q (List.mem_of_getElem? hq))
            obtain ⟨qa, qn⟩ := q
            obtain ⟨qm, rfl⟩ := Int.eq_ofNat_of_zero_le OQ.out.1
            unfold toIt at v0 v1
            simp only [Int.toNat_natCast] at v0 v1 x0 x1
            clear hP hq
            go_upto_region 26 with (fail)
            obtain ⟨W9, hW, y0, y1, hb9⟩ := box2 wr (.int .u32 qm) (.int .i64 qn) 35
            rw [← hW]
            have z0 := cell_below v0 hb9
            have z1 := cell_below v1 hb9
            have B9 := Lib.hid (below_on BR.out hb9)
            clear hW hb9 x0 x1 v0 v1
            refine wp_region_held_drew (S := fun w' => Below W9.heap.size W9 w') (by kernel_rfl) ?_ (fun hHeld => ?_)
            · exact (Below.refl _ _).drew
            refine rg_yes (i := 0) (v := ?_) at0 (by kernel_rfl) (by kernel_rfl) (by kernel_rfl) (fun _ _ _ h => h) ?_ ?_ hHeld ?_; rotate_left 1; (· rfl); (· intro w' hSw; (try dsimp only at hSw); (try clear hHeld); go_simp; try with_reducible rfl)
            try simp only [Act.put, List.setIfInBounds_toArray, List.set_cons_zero, List.set_cons_succ]
            refine rg_yes (i := 1) (v := ?_) (atS at0) (by kernel_rfl) (by kernel_rfl) (by kernel_rfl) (fun _ _ _ h => h) ?_ ?_ hHeld ?_; rotate_left 1; (· rfl); (· intro w' hSw; (try dsimp only at hSw); have y0 := cell_below y0 hSw; have y1 := cell_below y1 hSw; have z0 := cell_below z0 hSw; have z1 := cell_below z1 hSw; (try clear hHeld); go_simp; try with_reducible rfl)
            try simp only [Act.put, List.setIfInBounds_toArray, List.set_cons_zero, List.set_cons_succ]
            refine rg_yes (i := 2) (v := ?_) (atS (atS at0)) (by kernel_rfl) (by kernel_rfl) (by kernel_rfl) (fun _ _ _ h => h) ?_ ?_ hHeld ?_; rotate_left 1; (· rfl); (· intro w' hSw; (try dsimp only at hSw); (try clear hHeld); go_simp; try with_reducible rfl)
            try simp only [Act.put, List.setIfInBounds_toArray, List.set_cons_zero, List.set_cons_succ]
            refine rg_yes (i := 3) (v := ?_) (atS (atS (atS at0))) (by kernel_rfl) (by kernel_rfl) (by kernel_rfl) (fun _ _ _ h => h) ?_ ?_ hHeld ?_; rotate_left 1; (· rfl); (· intro w' hSw; (try dsimp only at hSw); (try clear hHeld); go_simp; try with_reducible rfl)
            try simp only [Act.put, List.setIfInBounds_toArray, List.set_cons_zero, List.set_cons_succ]
            refine rg_yes (i := 4) (v := ?_) (atS (atS (atS (atS at0)))) (by kernel_rfl) (by kernel_rfl) (by kernel_rfl) (fun _ _ _ h => h) ?_ ?_ hHeld ?_; rotate_left 1; (· rfl); (· intro w' hSw; (try dsimp only at hSw); have y0 := cell_below y0 hSw; have y1 := cell_below y1 hSw; have z0 := cell_below z0 hSw; have z1 := cell_below z1 hSw; (try clear hHeld); go_simp; try with_reducible rfl)
            try simp only [Act.put, List.setIfInBounds_toArray, List.set_cons_zero, List.set_cons_succ]
            refine rg_yes (i := 5) (v := ?_) (atS (atS (atS (atS (atS at0))))) (by kernel_rfl) (by kernel_rfl) (by kernel_rfl) (fun _ _ _ h => h) ?_ ?_ hHeld ?_; rotate_left 1; (· rfl); (· intro w' hSw; (try dsimp only at hSw); (try clear hHeld); go_simp; try with_reducible rfl)
            try simp only [Act.put, List.setIfInBounds_toArray, List.set_cons_zero, List.set_cons_succ]
            refine rg_yes (i := 6) (v := ?_) (atS (atS (atS (atS (atS (atS at0)))))) (by kernel_rfl) (by kernel_rfl) (by kernel_rfl) (fun _ _ _ h => h) ?_ ?_ hHeld ?_; rotate_left 1; (· rfl); (· intro w' hSw; (try dsimp only at hSw); have y0 := cell_below y0 hSw; have y1 := cell_below y1 hSw; have z0 := cell_below z0 hSw; have z1 := cell_below z1 hSw; (try clear hHeld); go_simp; try with_reducible rfl)
            try simp only [Act.put, List.setIfInBounds_toArray, List.set_cons_zero, List.set_cons_succ]
            refine rg_yes (i := 7) (v := ?_) (atS (atS (atS (atS (atS (atS (atS at0))))))) (by kernel_rfl) (by kernel_rfl) (by kernel_rfl) (fun _ _ _ h => h) ?_ ?_ hHeld ?_; rotate_left 1; (· rfl); (· intro w' hSw; (try dsimp only at hSw); (try clear hHeld); go_simp; try with_reducible rfl)
            try simp only [Act.put, List.setIfInBounds_toArray, List.set_cons_zero, List.set_cons_succ]
            refine rg_yes (i := 8) (v := ?_) (atS (atS (atS (atS (atS (atS (atS (atS at0)))))))) (by kernel_rfl) (by kernel_rfl) (by kernel_rfl) (fun _ _ _ h => h) ?_ ?_ hHeld ?_; rotate_left 1; (· rfl); (· intro w' hSw; (try dsimp only at hSw); (try clear hHeld); go_simp; try with_reducible rfl)
            try simp only [Act.put, List.setIfInBounds_toArray, List.set_cons_zero, List.set_cons_succ]
            first | (refine rg_no (i := 9) (atS (atS (atS (atS (atS (atS (atS (atS (atS at0))))))))) (by kernel_rfl) (by kernel_rfl) (by kernel_rfl) (fun _ _ _ h => h) ?_ hHeld ?_; (· rfl)) | (refine rg_yes (i := 9) (v := ?_) (atS (atS (atS (atS (atS (atS (atS (atS (atS at0))))))))) (by kernel_rfl) (by kernel_rfl) (by kernel_rfl) (fun _ _ _ h => h) ?_ ?_ hHeld ?_; rotate_left 1; (· rfl); (· intro w' hSw; (try dsimp only at hSw); (try clear hHeld); go_simp; try with_reducible rfl))
            try simp only [Act.put, List.setIfInBounds_toArray, List.set_cons_zero, List.set_cons_succ]
            first | (refine rg_no (i := 10) (atS (atS (atS (atS (atS (atS (atS (atS (atS (atS at0)))))))))) (by kernel_rfl) (by kernel_rfl) (by kernel_rfl) (fun _ _ _ h => h) ?_ hHeld ?_; (· rfl)) | (refine rg_yes (i := 10) (v := ?_) (atS (atS (atS (atS (atS (atS (atS (atS (atS (atS at0)))))))))) (by kernel_rfl) (by kernel_rfl) (by kernel_rfl) (fun _ _ _ h => h) ?_ ?_ hHeld ?_; rotate_left 1; (· rfl); (· intro w' hSw; (try dsimp only at hSw); have y0 := cell_below y0 hSw; have y1 := cell_below y1 hSw; have z0 := cell_below z0 hSw; have z1 := cell_below z1 hSw; (try clear hHeld); go_simp; try with_reducible rfl))
            try simp only [Act.put, List.setIfInBounds_toArray, List.set_cons_zero, List.set_cons_succ]
            first | (refine rg_no (i := 11) (atS (atS (atS (atS (atS (atS (atS (atS (atS (atS (atS at0))))))))))) (by kernel_rfl) (by kernel_rfl) (by kernel_rfl) (fun _ _ _ h => h) ?_ hHeld ?_; (· rfl)) | (refine rg_yes (i := 11) (v := ?_) (atS (atS (atS (atS (atS (atS (atS (atS (atS (atS (atS at0))))))))))) (by kernel_rfl) (by kernel_rfl) (by kernel_rfl) (fun _ _ _ h => h) ?_ ?_ hHeld ?_; rotate_left 1; (· rfl); (· intro w' hSw; (try dsimp only at hSw); (try clear hHeld); go_simp; try with_reducible rfl))
            try simp only [Act.put, List.setIfInBounds_toArray, List.set_cons_zero, List.set_cons_succ]
            first | (refine rg_no (i := 12) (atS (atS (atS (atS (atS (atS (atS (atS (atS (atS (atS (atS at0)))))))))))) (by kernel_rfl) (by kernel_rfl) (by kernel_rfl) (fun _ _ _ h => h) ?_ hHeld ?_; (· rfl)) | (refine rg_yes (i := 12) (v := ?_) (atS (atS (atS (atS (atS (atS (atS (atS (atS (atS (atS (atS at0)))))))))))) (by kernel_rfl) (by kernel_rfl) (by kernel_rfl) (fun _ _ _ h => h) ?_ ?_ hHeld ?_; rotate_left 1; (· rfl); (· intro w' hSw; (try dsimp only at hSw); (try clear hHeld); go_simp; try with_reducible rfl))
            try simp only [Act.put, List.setIfInBounds_toArray, List.set_cons_zero, List.set_cons_succ]
            first | (refine rg_no (i := 13) (atS (atS (atS (atS (atS (atS (atS (atS (atS (atS (atS (atS (atS at0))))))))))))) (by kernel_rfl) (by kernel_rfl) (by kernel_rfl) (fun _ _ _ h => h) ?_ hHeld ?_; (· rfl)) | (refine rg_yes (i := 13) (v := ?_) (atS (atS (atS (atS (atS (atS (atS (atS (atS (atS (atS (atS (atS at0))))))))))))) (by kernel_rfl) (by kernel_rfl) (by kernel_rfl) (fun _ _ _ h => h) ?_ ?_ hHeld ?_; rotate_left 1; (· rfl); (· intro w' hSw; (try dsimp only at hSw); have y0 := cell_below y0 hSw; have y1 := cell_below y1 hSw; have z0 := cell_below z0 hSw; have z1 := cell_below z1 hSw; (try clear hHeld); go_simp; try with_reducible rfl))
            try simp only [Act.put, List.setIfInBounds_toArray, List.set_cons_zero, List.set_cons_succ]
            first | (refine rg_no (i := 14) (atS (atS (atS (atS (atS (atS (atS (atS (atS (atS (atS (atS (atS (atS at0)))))))))))))) (by kernel_rfl) (by kernel_rfl) (by kernel_rfl) (fun _ _ _ h => h) ?_ hHeld ?_; (· rfl)) | (refine rg_yes (i := 14) (v := ?_) (atS (atS (atS (atS (atS (atS (atS (atS (atS (atS (atS (atS (atS (atS at0)))))))))))))) (by kernel_rfl) (by kernel_rfl) (by kernel_rfl) (fun _ _ _ h => h) ?_ ?_ hHeld ?_; rotate_left 1; (· rfl); (· intro w' hSw; (try dsimp only at hSw); (try clear hHeld); go_simp; try with_reducible rfl))
            try simp only [Act.put, List.setIfInBounds_toArray, List.set_cons_zero, List.set_cons_succ]
            first | (refine rg_no (i := 15) (atS (atS (atS (atS (atS (atS (atS (atS (atS (atS (atS (atS (atS (atS (atS at0))))))))))))))) (by kernel_rfl) (by kernel_rfl) (by kernel_rfl) (fun _ _ _ h => h) ?_ hHeld ?_; (· rfl)) | (refine rg_yes (i := 15) (v := ?_) (atS (atS (atS (atS (atS (atS (atS (atS (atS (atS (atS (atS (atS (atS (atS at0))))))))))))))) (by kernel_rfl) (by kernel_rfl) (by kernel_rfl) (fun _ _ _ h => h) ?_ ?_ hHeld ?_; rotate_left 1; (· rfl); (· intro w' hSw; (try dsimp only at hSw); have y0 := cell_below y0 hSw; have y1 := cell_below y1 hSw; have z0 := cell_below z0 hSw; have z1 := cell_below z1 hSw; (try clear hHeld); go_simp; try with_reducible rfl))
            try simp only [Act.put, List.setIfInBounds_toArray, List.set_cons_zero, List.set_cons_succ]
            first | (refine rg_no (i := 16) (atS (atS (atS (atS (atS (atS (atS (atS (atS (atS (atS (atS (atS (atS (atS (atS at0)))))))))))))))) (by kernel_rfl) (by kernel_rfl) (by kernel_rfl) (fun _ _ _ h => h) ?_ hHeld ?_; (· rfl)) | (refine rg_yes (i := 16) (v := ?_) (atS (atS (atS (atS (atS (atS (atS (atS (atS (atS (atS (atS (atS (atS (atS (atS at0)))))))))))))))) (by kernel_rfl) (by kernel_rfl) (by kernel_rfl) (fun _ _ _ h => h) ?_ ?_ hHeld ?_; rotate_left 1; (· rfl); (· intro w' hSw; (try dsimp only at hSw); (try clear hHeld); go_simp; try with_reducible rfl))
            try simp only [Act.put, List.setIfInBounds_toArray, List.set_cons_zero, List.set_cons_succ]
            refine rg_yes (i := 17) (v := ?_) (atS (atS (atS (atS (atS (atS (atS (atS (atS (atS (atS (atS (atS (atS (atS (atS (atS at0))))))))))))))))) (by kernel_rfl) (by kernel_rfl) (by kernel_rfl) (fun _ _ _ h => h) ?_ ?_ hHeld ?_; rotate_left 1; (· rfl); (· intro w' hSw; (try dsimp only at hSw); (try clear hHeld); go_simp; try with_reducible rfl)
            try simp only [Act.put, List.setIfInBounds_toArray, List.set_cons_zero, List.set_cons_succ]
            refine wpAnyH_done (by kernel_rfl) ?_ _
            have B10 := Lib.hid (below_on B9.out hHeld)
            clear hHeld y0 y1 z0 z1
            go_wp2_with fail
            exact ⟨⟨k + 1, by omega, by go_num, B10⟩, by simp [intOf]; omega⟩
          · obtain rfl : k = xs.length := by omega
            go_wp2_with fail
            go_ret
            exact ⟨rfl, below_on (BF.out) BR.out⟩
namespace psetMakes
open Go.ChangeShapes Go.WideShapes Go.ChangeAt Go.RowKit
set_option linter.unusedVariables false
set_option maxRecDepth 100000 in
theorem lifted (os : Os) (started : os.Started) (H : Type) (enc : TypeId × Value → H) :
    ReturnsInHanded {} Try.checked os 5 .any (Rows.psetMakesSpec.pre6 enc Try.prog Try.f5 Rows.psetMakesRow.domain false) (Rows.psetMakesSpec.post enc Try.prog Try.f5 false true false false) := by
  refine returnsInHanded_of_change (C := Try.checked) fr_own started (by kernel_rfl) Try.func5
    (ChangeSpec.witness6 (enc := enc) (C := Try.checked) false ⟨#[], #[.slice none 0 0, .agg #[.int .u32 0, .int .i64 0], .int .u32 0], []⟩ 8 (by kernel_rfl) (by kernel_rfl) (by kernel_rfl) (by kernel_rfl)) ?_
  intro W base args ds gs before hval0 hW hcnd _
  have hval : ∀ (j : Nat) t v, Try.f5.params[j]? = some t → args[j]? = some v → Value.okWide Try.prog W .any base t v := hval0
  have hW' := hW
  obtain ⟨p, q, hA0, hV, rfl, hfz, hnd⟩ := hW
  have hA : DataW.TrodAll enc Try.prog W 0 (fun _ => true) true Try.f5.params.toList args.toList ds p := hA0
  rw [Try.params5] at hA hval
  obtain ⟨v0, vs0, d0, ds0, p0, q0, hargs, rfl, rfl, h0, r0⟩ := trodAll_cons hA
  obtain ⟨v1, vs1, d1, ds1, p1, q1, rfl, rfl, rfl, h1, r1⟩ := trodAll_cons r0
  obtain ⟨v2, vs2, d2, ds2, p2, q2, rfl, rfl, rfl, h2, r2⟩ := trodAll_cons r1
  obtain ⟨rfl, rfl, rfl⟩ := trodAll_nil r2
  obtain rfl : args = #[v0, v1, v2] := by cases args; simp_all
  obtain ⟨rfl, rfl⟩ := trodVars_none hV
  have lt0 : ∀ x ∈ p0, x.block < W.heap.size := by obtain ⟨m, hm⟩ := h0; exact DataW.trod_lt m _ _ _ hm
  have lt1 : ∀ x ∈ p1, x.block < W.heap.size := by obtain ⟨m, hm⟩ := h1; exact DataW.trod_lt m _ _ _ hm
  have lt2 : ∀ x ∈ p2, x.block < W.heap.size := by obtain ⟨m, hm⟩ := h2; exact DataW.trod_lt m _ _ _ hm
  obtain ⟨a, ha⟩ := open_pfs (hval 0 22 v0 rfl rfl) h0
  obtain ⟨a1, n1, rfl, z0, z1, z2, z3⟩ := open_pref (hval 1 35 v1 rfl rfl)
  obtain ⟨x, rfl, k0, k1⟩ := open_u32 (hval 2 33 v2 rfl rfl)
  clear hA0 hval0
  refine (makes_walk v0 a a1 n1 x W ha k0 k1).mono fun e W' ⟨he, bel⟩ => ?_
  subst he
  exact ⟨_, rfl, _, _, _, [], _, [], hW', trodAll_mk1 (shut_bool Try.underlying4 _), (trodAll_cons_mk (Below.trod fr_laidOut (by kernel_rfl) (of_decide_eq_true (by kernel_rfl)) h0 bel lt0) (trodAll_cons_mk (Below.trod fr_laidOut (by kernel_rfl) (of_decide_eq_true (by kernel_rfl)) h1 bel lt1) (trodAll_cons_mk (Below.trod fr_laidOut (by kernel_rfl) (of_decide_eq_true (by kernel_rfl)) h2 bel lt2) trodAll_mk0))), rfl, bel.frame _, fun h => by cases h⟩
theorem over : Rows.psetMakesRow.holds Try.pinned (OpenSpec.ofChange Rows.psetMakesSpec) :=
  OpenClaim.holds_of_wide 5 Try.f5 rfl rfl rfl rfl rfl rfl rfl ⟨rfl, rfl, rfl, rfl, rfl⟩ rfl rfl rfl rfl rfl (by kernel_rfl) Try.func5 (by kernel_rfl)
    (of_decide_eq_true (by kernel_rfl)) (by unfold Func.isWrapper; first | (rw [if_pos (by decide +kernel)]; kernel_rfl) | (rw [if_neg (by decide +kernel)]; exact ⟨rfl, rfl⟩))
    (fun os started H enc _ => lifted os started H enc)
/-- THE STATEMENT PsetMakes. -/
theorem proved : Rows.PsetMakesSaid := over
#print axioms proved
end psetMakes
end Go.Proofs.Ytaafeekkllomhaa
