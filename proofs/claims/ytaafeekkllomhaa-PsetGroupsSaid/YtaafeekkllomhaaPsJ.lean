/-
  SETS OF PREFIXES: the statements' make2 once more: the first set's row is the call's own.
-/
import Derived.Test.YtaafeekkllomhaaPsK
namespace Go.Proofs.Ytaafeekkllomhaa
open Go.RowKit
def Mk2oPost (a b : List Pf) (w : World) (e : Ending) (w' : World) : Prop := ∃ v1 v2, e = .returned (.tuple #[.agg #[v1], .agg #[v2]]) ∧ OwnPs w' w.heap.size v1 (setOf (goodL a)) ∧ PsAt w' v2 (setOf (goodL b)) ∧ Below w.heap.size w w'
set_option maxHeartbeats 12800000 in
set_option maxRecDepth 100000 in
theorem ps_make2o (v u : Value) (a b : List Pf) (w : World) (h : PsAt w v a) (k : PsAt w u b) (hna : a.length ≤ 4096) (hnb : b.length ≤ 4096) : Calls Try.prog 10 #[v, u] w (Mk2oPost a b w) := by
  obtain ⟨i0, hii, hz0, hz1, hz2⟩ := info_parts info_pref
  have HA := Lib.hid h
  have HK := Lib.hid k
  obtain ⟨sa, cap, rfl, hlc, hcm, hV⟩ := h
  obtain ⟨sb, cap2, rfl, hlc2, hcm2, hU⟩ := k
  have HV := Lib.hid hV
  have HU := Lib.hid hU
  clear hV hU
  unfold maxLen at hcm hcm2
  go_enter Try.func10, Try.ntmps10
  go_upto_region 1 with (fail)
  obtain ⟨W0, hW0, q0, q1, hB⟩ := boxCC w #[.slice none 0 0] 26 #[.slice none 0 0] 26
  rw [← hW0]
  clear hW0
  have R0 : Hid (W0.cell? ⟨w.heap.size, 0, none⟩ = some (.slice none 0 0)) := Lib.hid (row_cell q0 0)
  have F0 : Hid (W0.frozen? ⟨w.heap.size, 0, none⟩ = false) := Lib.hid (row_free q0 0)
  have R1 : Hid (W0.cell? ⟨w.heap.size + 1, 0, none⟩ = some (.slice none 0 0)) := Lib.hid (row_cell q1 0)
  have F1 : Hid (W0.frozen? ⟨w.heap.size + 1, 0, none⟩ = false) := Lib.hid (row_free q1 0)
  have HB := Lib.hid hB
  have HB0 := Lib.hid hB
  clear q0 q1 hB
  go_upto_region 3 with (fail)
  obtain ⟨Wb, hWb⟩ : ∃ Wb, Wb = (W0.alloc (.cells #[] 35)).alloc (.cells #[] 35) := ⟨_, rfl⟩
  have Oa : Hid (Wb.ownsRow W0.heap.size 35 2 (.slice (some ⟨W0.heap.size, 0, none⟩) 0 0) 0 []) := Lib.hid (by rw [hWb]; exact (own_empty (Nat.le_refl _)).alloc _)
  have Ob : Hid (Wb.ownsRow W0.heap.size 35 2 (.slice (some ⟨W0.heap.size + 1, 0, none⟩) 0 0) 0 []) := Lib.hid (by rw [hWb]; have := own_empty (w := W0.alloc (.cells #[] 35)) (B := W0.heap.size) (e := 35) (k := 2) (by simp); simpa using this)
  have Bb : Hid (Below W0.heap.size W0 Wb) := Lib.hid (by rw [hWb]; exact ((Below.refl _ _).alloc (Nat.le_refl _) _).alloc (by simp) _)
  rw [← hWb]
  clear hWb HB0
  go_wp2_with fail
  go_loopw [20, 6] (fun i9 v9 wr => ∃ i : Nat, i ≤ a.length ∧ i9 = .int .i64 i ∧ Hid (wr.ownsRow W0.heap.size 35 2 v9 (goodL (a.take i)).length ((goodL (a.take i)).flatMap encP)) ∧ Hid (Below W0.heap.size W0 wr) ∧ Hid (wr.ownsRow W0.heap.size 35 2 (Value.slice (some ⟨W0.heap.size + 1, 0, none⟩) 0 0) 0 []) ∧ Hid (∀ g, v9.ownBlock = some g → (Value.slice (some ⟨W0.heap.size + 1, 0, none⟩) 0 0).ownBlock ≠ some g)) (fun i9 _ _ => a.length - (intOf i9).toNat)
  case atStart => exact ⟨0, by omega, rfl, Oa, Bb, Ob, Lib.hid (fun g hg h => by cases hg; injection h with h; simp only at h; omega)⟩
  case round =>
    obtain ⟨i, hi, rfl, O, B, OT, SEP⟩ := hrel
    by_cases hlt : i < a.length
    · obtain ⟨x, hx⟩ : ∃ x, a[i]? = some x := ⟨_, List.getElem?_eq_getElem hlt⟩
      obtain ⟨b1, off1, hsa, hP⟩ := HV.out (by omega)
      subst hsa
      obtain ⟨x0, x1⟩ := ps_two hP hx
      have x0 := (B.out.cell (size_lt (cell_below x0 HB.out))).trans (cell_below x0 HB.out)
      have x1 := (B.out.cell (size_lt (cell_below x1 HB.out))).trans (cell_below x1 HB.out)
      have OX := Lib.hid (ps_ok HA.out x (List.mem_of_getElem? hx))
      have ST := Lib.hid (goodL_step hx)
      have GL : (goodL (a.take i)).length ≤ a.length := Nat.le_trans (goodL_len _) (List.length_take_le' _ _)
      have k0 : (0 : Int) ≤ (i : Int) := by omega
      have k1 : (i : Int) < (a.length : Int) := by omega
      clear hP hx
      go_upto_region 6 with (fail)
      obtain ⟨W1, hW1, y0, y1, hB1⟩ := box2 wr (.int .u32 x.1) (.int .i64 x.2) 35
      rw [← hW1]
      clear hW1 x0 x1
      have CK := Lib.hid (ip_Check x.1 x.2 W1 OX.out.1 OX.out.2)
      have O1 := Lib.hid (own_below O.out hB1)
      have B1 := Lib.hid (below_on B.out hB1)
      have OT1 := Lib.hid (own_below OT.out hB1)
      clear O B OT hB1
      cases hR : rightB x.1 x.2
      · have CK1 : Hid (Calls Try.prog 31 #[.agg #[.int .u32 x.1, .int .i64 x.2]] W1 fun e w' => e = .returned (.int .i64 1) ∧ Below W1.heap.size W1 w') := Lib.hid (by have := CK.out; rw [hR] at this; exact this)
        have ST2 : Hid (goodL (a.take (i + 1)) = goodL (a.take i)) := Lib.hid (by rw [ST.out, hR]; simp)
        clear CK hR ST
        go_wp2_with fail
        refine CK1.out.mono ?_
        rintro e w2 ⟨rfl, hb2⟩
        have O2 := Lib.hid (own_below O1.out hb2)
        have B2 := Lib.hid (below_on B1.out hb2)
        have OT2 := Lib.hid (own_below OT1.out hb2)
        clear hb2 y0 y1 O1 B1 OT1
        go_wp2_with fail
        exact ⟨⟨i + 1, by omega, by go_num, Lib.hid (by rw [ST2.out]; exact O2.out), B2, OT2, SEP⟩, by simp [intOf]; omega⟩
      · have CK1 : Hid (Calls Try.prog 31 #[.agg #[.int .u32 x.1, .int .i64 x.2]] W1 fun e w' => e = .returned (.int .i64 0) ∧ Below W1.heap.size W1 w') := Lib.hid (by have := CK.out; rw [hR] at this; exact this)
        have ST2 : Hid (goodL (a.take (i + 1)) = goodL (a.take i) ++ [x]) := Lib.hid (by rw [ST.out, hR]; simp)
        clear CK hR ST
        go_wp2_with fail
        refine CK1.out.mono ?_
        rintro e w2 ⟨rfl, hb2⟩
        have O2 := Lib.hid (own_below O1.out hb2)
        have B2 := Lib.hid (below_on B1.out hb2)
        have OT2 := Lib.hid (own_below OT1.out hb2)
        have y0 := cell_below y0 hb2
        have y1 := cell_below y1 hb2
        clear hb2 O1 B1 OT1
        go_wp2_with (at_builtin; refine wpList_append_own_at _ rfl _ _ 22 rfl W0.heap.size 35 i0 _ 2 16 Try.underlying22 hii hz0 hz1 hz2 rfl (by decide) _ (goodL (a.take i)).length ((goodL (a.take i)).flatMap encP) rfl (O2.out.alloc _) ⟨w2.heap.size, 0, none⟩ 1 1 [.int .u32 x.1, .int .i64 x.2] rfl rfl (new_cells w2 _ _) (one_pf x) (by unfold maxLen; omega) (by omega) (by have := B2.out.size; simp; omega) ?_)
        intro v' w5 hown hgrow _ hblk
        have O5 := Lib.hid (own_snocP hown)
        have B5 := Lib.hid ((B2.out.alloc B2.out.size _).grown hgrow (by have := B2.out.size; simp; omega) (own_form_le O2.out))
        have OT5 := Lib.hid ((own_on (OT2.out.alloc (.cells #[.int .u32 x.1, .int .i64 x.2] 35))).kept (kept_grown hgrow) (fun k _ h1 h2 => SEP.out k h2 h1)).self
        have SEP5 : Hid (∀ g, v'.ownBlock = some g → (Value.slice (some ⟨W0.heap.size + 1, 0, none⟩) 0 0).ownBlock ≠ some g) := Lib.hid (fun g hg h2 => by
          rcases hblk with h3 | h3
          · exact SEP.out g (h3 ▸ hg) h2
          · have := own_ltP OT2.out g h2
            rw [h3] at hg
            have h4 := Option.some.inj hg
            have h5 : (w2.alloc (.cells #[.int .u32 x.1, .int .i64 x.2] 35)).heap.size = w2.heap.size + 1 := by simp
            omega)
        clear hown hgrow hblk y0 y1 O2 B2 OT2 SEP
        go_wp2_with fail
        exact ⟨⟨i + 1, by omega, by go_num, Lib.hid (by rw [ST2.out]; exact O5.out), B5, OT5, SEP5⟩, by simp [intOf]; omega⟩
    · obtain rfl : i = a.length := by omega
      have OA : Hid (wr.ownsRow W0.heap.size 35 2 u6 (goodL a).length ((goodL a).flatMap encP)) := Lib.hid (by have := O.out; rwa [List.take_length] at this)
      obtain ⟨ua, hua⟩ : ∃ ua, ua = u6 := ⟨_, rfl⟩
      rw [← hua] at OA SEP ⊢
      have SEP2 : Hid (∀ g, (Value.slice (some ⟨W0.heap.size + 1, 0, none⟩) 0 0).ownBlock = some g → ua.ownBlock ≠ some g) := Lib.hid (fun g h1 h2 => SEP.out g h2 h1)
      obtain ⟨wo, hwo⟩ : ∃ wo : World, wo = wr := ⟨_, rfl⟩
      rw [← hwo] at OA OT B ⊢
      clear O hua hwo SEP Oa Ob Bb u6 wr HV
      go_wp2_with fail
      go_loopw [34, 7] (fun i9 v9 wr => ∃ i : Nat, i ≤ b.length ∧ i9 = .int .i64 i ∧ Hid (wr.ownsRow W0.heap.size 35 2 v9 (goodL (b.take i)).length ((goodL (b.take i)).flatMap encP)) ∧ Hid (Below W0.heap.size W0 wr) ∧ Hid (wr.ownsRow W0.heap.size 35 2 ua (goodL a).length ((goodL a).flatMap encP)) ∧ Hid (∀ g, v9.ownBlock = some g → ua.ownBlock ≠ some g)) (fun i9 _ _ => b.length - (intOf i9).toNat)
      case atStart => exact ⟨0, by omega, rfl, OT, B, OA, SEP2⟩
      case round =>
        obtain ⟨i, hi, rfl, O, B, OT, SEP⟩ := hrel
        by_cases hlt : i < b.length
        · obtain ⟨x, hx⟩ : ∃ x, b[i]? = some x := ⟨_, List.getElem?_eq_getElem hlt⟩
          obtain ⟨b1, off1, hsa, hP⟩ := HU.out (by omega)
          subst hsa
          obtain ⟨x0, x1⟩ := ps_two hP hx
          have x0 := (B.out.cell (size_lt (cell_below x0 HB.out))).trans (cell_below x0 HB.out)
          have x1 := (B.out.cell (size_lt (cell_below x1 HB.out))).trans (cell_below x1 HB.out)
          have OX := Lib.hid (ps_ok HK.out x (List.mem_of_getElem? hx))
          have ST := Lib.hid (goodL_step hx)
          have GL : (goodL (b.take i)).length ≤ b.length := Nat.le_trans (goodL_len _) (List.length_take_le' _ _)
          have k0 : (0 : Int) ≤ (i : Int) := by omega
          have k1 : (i : Int) < (b.length : Int) := by omega
          clear hP hx
          go_upto_region 12 with (fail)
          obtain ⟨W1, hW1, y0, y1, hB1⟩ := box2 wr (.int .u32 x.1) (.int .i64 x.2) 35
          rw [← hW1]
          clear hW1 x0 x1
          have CK := Lib.hid (ip_Check x.1 x.2 W1 OX.out.1 OX.out.2)
          have O1 := Lib.hid (own_below O.out hB1)
          have B1 := Lib.hid (below_on B.out hB1)
          have OT1 := Lib.hid (own_below OT.out hB1)
          clear O B OT hB1
          cases hR : rightB x.1 x.2
          · have CK1 : Hid (Calls Try.prog 31 #[.agg #[.int .u32 x.1, .int .i64 x.2]] W1 fun e w' => e = .returned (.int .i64 1) ∧ Below W1.heap.size W1 w') := Lib.hid (by have := CK.out; rw [hR] at this; exact this)
            have ST2 : Hid (goodL (b.take (i + 1)) = goodL (b.take i)) := Lib.hid (by rw [ST.out, hR]; simp)
            clear CK hR ST
            go_wp2_with fail
            refine CK1.out.mono ?_
            rintro e w2 ⟨rfl, hb2⟩
            have O2 := Lib.hid (own_below O1.out hb2)
            have B2 := Lib.hid (below_on B1.out hb2)
            have OT2 := Lib.hid (own_below OT1.out hb2)
            clear hb2 y0 y1 O1 B1 OT1
            go_wp2_with fail
            exact ⟨⟨i + 1, by omega, by go_num, Lib.hid (by rw [ST2.out]; exact O2.out), B2, OT2, SEP⟩, by simp [intOf]; omega⟩
          · have CK1 : Hid (Calls Try.prog 31 #[.agg #[.int .u32 x.1, .int .i64 x.2]] W1 fun e w' => e = .returned (.int .i64 0) ∧ Below W1.heap.size W1 w') := Lib.hid (by have := CK.out; rw [hR] at this; exact this)
            have ST2 : Hid (goodL (b.take (i + 1)) = goodL (b.take i) ++ [x]) := Lib.hid (by rw [ST.out, hR]; simp)
            clear CK hR ST
            go_wp2_with fail
            refine CK1.out.mono ?_
            rintro e w2 ⟨rfl, hb2⟩
            have O2 := Lib.hid (own_below O1.out hb2)
            have B2 := Lib.hid (below_on B1.out hb2)
            have OT2 := Lib.hid (own_below OT1.out hb2)
            have y0 := cell_below y0 hb2
            have y1 := cell_below y1 hb2
            clear hb2 O1 B1 OT1
            go_wp2_with (at_builtin; refine wpList_append_own_at _ rfl _ _ 22 rfl W0.heap.size 35 i0 _ 2 16 Try.underlying22 hii hz0 hz1 hz2 rfl (by decide) _ (goodL (b.take i)).length ((goodL (b.take i)).flatMap encP) rfl (O2.out.alloc _) ⟨w2.heap.size, 0, none⟩ 1 1 [.int .u32 x.1, .int .i64 x.2] rfl rfl (new_cells w2 _ _) (one_pf x) (by unfold maxLen; omega) (by omega) (by have := B2.out.size; simp; omega) ?_)
            intro v' w5 hown hgrow _ hblk
            have O5 := Lib.hid (own_snocP hown)
            have B5 := Lib.hid ((B2.out.alloc B2.out.size _).grown hgrow (by have := B2.out.size; simp; omega) (own_form_le O2.out))
            have OT5 := Lib.hid ((own_on (OT2.out.alloc (.cells #[.int .u32 x.1, .int .i64 x.2] 35))).kept (kept_grown hgrow) (fun k _ h1 h2 => SEP.out k h2 h1)).self
            have SEP5 : Hid (∀ g, v'.ownBlock = some g → ua.ownBlock ≠ some g) := Lib.hid (fun g hg h2 => by
              rcases hblk with h3 | h3
              · exact SEP.out g (h3 ▸ hg) h2
              · have := own_ltP OT2.out g h2
                rw [h3] at hg
                have h4 := Option.some.inj hg
                have h5 : (w2.alloc (.cells #[.int .u32 x.1, .int .i64 x.2] 35)).heap.size = w2.heap.size + 1 := by simp
                omega)
            clear hown hgrow hblk y0 y1 O2 B2 OT2 SEP
            go_wp2_with fail
            exact ⟨⟨i + 1, by omega, by go_num, Lib.hid (by rw [ST2.out]; exact O5.out), B5, OT5, SEP5⟩, by simp [intOf]; omega⟩
        · obtain rfl : i = b.length := by omega
          have OB : Hid (wr.ownsRow W0.heap.size 35 2 u7 (goodL b).length ((goodL b).flatMap encP)) := Lib.hid (by have := O.out; rwa [List.take_length] at this)
          obtain ⟨ub, hub⟩ : ∃ ub, ub = u7 := ⟨_, rfl⟩
          rw [← hub] at OB ⊢
          obtain ⟨wp, hwp⟩ : ∃ wp : World, wp = wr := ⟨_, rfl⟩
          rw [← hwp] at OB OT B ⊢
          clear O hub hwp SEP SEP2
          have PA : Hid (PsAt wp ua (goodL a)) := Lib.hid (OwnPs.at ⟨OT.out, fun p hp => ps_ok HA.out p (List.mem_filter.1 hp).1⟩)
          have PB : Hid (PsAt wp ub (goodL b)) := Lib.hid (OwnPs.at ⟨OB.out, fun p hp => ps_ok HK.out p (List.mem_filter.1 hp).1⟩)
          have OFA := Lib.hid (ps_Of ua (goodL a) wp PA.out)
          go_wp2_with fail
          refine OFA.out.mono ?_
          rintro e w2 ⟨v1, rfl, o1, hb2⟩
          have B2 := Lib.hid (below_on B.out hb2)
          have Q1 : Hid (OwnPs w2 wp.heap.size v1 (setOf (goodL a))) := Lib.hid (by rw [ofL_good hna] at o1; exact o1)
          have LP : w.heap.size + 1 < wp.heap.size := Nat.lt_of_lt_of_le (size_lt R1.out) B.out.size
          have PB2 := Lib.hid (PB.out.below hb2)
          have EA := Lib.hid (ofE_good hna)
          rw [EA.out]
          clear o1 hb2 OFA PA PB OT OB B EA
          obtain ⟨s1, c1, rfl, -⟩ := id Q1.out.at
          go_upto_region 16 with (fail)
          obtain ⟨W3, hW3, q3, hb3, -⟩ := boxC w2 #[.slice s1 (setOf (goodL a)).length c1] 26
          rw [← hW3]
          have d3 : Hid (W3.cell? ⟨w2.heap.size, 0, none⟩ = some (.slice s1 (setOf (goodL a)).length c1)) := Lib.hid (row_cell q3 0)
          have Q3 := Lib.hid (Q1.out.below hb3)
          have B3 := Lib.hid (below_on B2.out hb3)
          have PB3 := Lib.hid (PB2.out.below hb3)
          clear hW3 q3 hb3 Q1 B2 PB2
          have OFB := Lib.hid (ps_Of ub (goodL b) W3 PB3.out)
          go_wp2_with fail
          refine OFB.out.mono ?_
          rintro e w4 ⟨v2, rfl, o2, hb4⟩
          have B4 := Lib.hid (below_on B3.out hb4)
          have Q4 := Lib.hid (Q3.out.below hb4)
          have R4 : Hid (OwnPs w4 W3.heap.size v2 (setOf (goodL b))) := Lib.hid (by rw [ofL_good hnb] at o2; exact o2)
          have LQ : w.heap.size + 1 < W3.heap.size := Nat.lt_of_lt_of_le (size_lt R1.out) B3.out.size
          have d4 := Lib.hid (cell_below d3.out hb4)
          have EB := Lib.hid (ofE_good hnb)
          rw [EB.out]
          clear o2 hb4 OFB PB3 Q3 B3 d3 EB
          obtain ⟨s2, c2, rfl, -⟩ := id R4.out.at
          go_upto_region 17 with (fail)
          obtain ⟨W5, hW5, q5, hb5, -⟩ := boxC w4 #[.slice s2 (setOf (goodL b)).length c2] 26
          rw [← hW5]
          have d5 : W5.cell? ⟨w4.heap.size, 0, none⟩ = some (.slice s2 (setOf (goodL b)).length c2) := row_cell q5 0
          have d6 := cell_below d4.out hb5
          have Q5 := Lib.hid (Q4.out.below hb5)
          have R5 := Lib.hid (R4.out.below hb5)
          have B5 := Lib.hid (below_on B4.out hb5)
          have L4 := Lib.hid B4.out.size
          clear hW5 q5 hb5 Q4 R4 B4 d4
          have r0 := cell_below R0.out B5.out
          have r1 := cell_below R1.out B5.out
          have f0 := frozen_below (size_lt R0.out) F0.out B5.out
          have f1 := frozen_below (size_lt R1.out) F1.out B5.out
          have l4 : w.heap.size + 1 < w4.heap.size := Nat.lt_of_lt_of_le (size_lt R1.out) L4.out
          have n1 : ¬ w.heap.size = w4.heap.size := by omega
          go_region
          all_goals
            go_wp2_with fail
            refine bodyPost_ret (v := .tuple #[.agg #[.slice s1 (setOf (goodL a)).length c1], .agg #[.slice s2 (setOf (goodL b)).length c2]]) (by simp [results, Try.results10, go_sem, r0, r1]) rfl ⟨_, _, rfl, ?_, ?_, ?_⟩
          all_goals first
            | exact (Q5.out.setElder (show w.heap.size < wp.heap.size by omega) (Nat.le_refl _) _).setElder LP (show w.heap.size ≤ wp.heap.size by omega) _
            | exact ((R5.out.setElder (show w.heap.size < W3.heap.size by omega) (Nat.le_refl _) _).setElder LQ (Nat.zero_le _) _).at
            | exact ((((below_on HB.out B5.out).setCell (Nat.le_refl _) _).setCell (Nat.le_succ _) _)).drew
end Go.Proofs.Ytaafeekkllomhaa
