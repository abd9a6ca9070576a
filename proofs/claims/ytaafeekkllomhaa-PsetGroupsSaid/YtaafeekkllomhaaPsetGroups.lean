/-
  PsetGroups: any prefixes parted by any sets: each in one group, two in one just if the same sets have them; the groups' order; for all lists of prefixes; no condition.
-/
import Derived.Test.YtaafeekkllomhaaPsU
import Derived.IntWalk
import Derived.Deep.DeepCutAuto
namespace Go.Proofs.Ytaafeekkllomhaa
open Go.RowKit

theorem pss_one {w : World} {xs : List (List Pf)} {b off : Nat} (h : ∀ (i : Nat) (x : List Pf), xs[i]? = some x → ∃ cs : List Value, cs.length = 1 ∧ (∃ u, cs = [u] ∧ PsAt w u x) ∧ ∀ (j : Nat) (c : Value), cs[j]? = some c → w.cell? ⟨b, off + i * 1 + j, none⟩ = some c)
    {i : Nat} {x : List Pf} (hx : xs[i]? = some x) : ∃ s c, w.cell? ⟨b, off + i, none⟩ = some (.slice s x.length c) ∧ PsAt w (.slice s x.length c) x := by
  obtain ⟨cs, -, ⟨u, rfl, hp⟩, hc⟩ := h i x hx
  have := hc 0 _ rfl
  obtain ⟨s, c, rfl⟩ := ps_form hp
  exact ⟨s, c, by simpa using this, hp⟩
theorem one_sl {s : Option Addr} {n c : Nat} : ∀ u ∈ [Value.slice s n c], u.oneCell' = true := by
  intro u hu
  rw [List.mem_singleton.1 hu]; rfl
theorem pcmp_less {p q : Pf} (h : plt p q) : decide (pcmp p q ≥ 0) = false := by
  have := pcmp_lt.2 h
  simp; omega
set_option maxHeartbeats 51200000 in
set_option maxRecDepth 100000 in
theorem groups_walk (va vb : Value) (a : List Pf) (bl : List (List Pf)) (w : World) (ha : PsAt w va a) (hb : PssAt w vb bl) :
    Calls Try.prog 3 #[va, vb] w fun e w' => e = .returned (.bool true) ∧ Below w.heap.size w w' := by
  obtain ⟨i0, hii, hz0, hz1, hz2⟩ := info_parts info_set
  have HA := Lib.hid ha
  have la := ps_len ha
  obtain ⟨sa, ca, rfl, -⟩ := ha
  obtain ⟨sb, cb, rfl, -, hcm, hV⟩ := hb
  have HV := Lib.hid hV
  clear hV
  unfold maxLen at la hcm
  have lb : bl.length ≤ 8 ∨ 8 < bl.length := by omega
  go_enter Try.func3, Try.ntmps3
  go_wp2_with fail
  refine (ps_head _).mono ?_
  rintro e w1 ⟨rfl, hb1⟩
  have B := Lib.hid hb1
  have HA := Lib.hid (HA.out.below hb1)
  clear hb1
  by_cases h1 : 30 < a.length
  · have e1 : decide ((a.length : Int) > 30) = true := by simp; omega
    clear h1
    go_wp2_with fail
    go_ret
    exact ⟨rfl, B.out⟩
  have e1 : decide ((a.length : Int) > 30) = false := by simp; omega
  by_cases h2 : 8 < bl.length
  · have e2 : decide ((bl.length : Int) > 8) = true := by simp; omega
    clear h1 h2
    go_wp2_with fail
    go_ret
    exact ⟨rfl, B.out⟩
  have e2 : decide ((bl.length : Int) > 8) = false := by simp; omega
  have lb : bl.length ≤ 8 := by omega
  have MK := Lib.hid (ps_make2 (.slice sa a.length ca) (.slice none 0 0) a [] w1 HA.out SlAt.nil (by omega) (by decide))
  have LA := Lib.hid (show (setOf (goodL a)).length ≤ 30 from Nat.le_trans (setOf_goodL_len' a) (by omega))
  clear h1 h2
  go_wp2_with fail
  refine MK.out.mono ?_
  rintro e w2 ⟨vs, vt, rfl, ps, pn, hb2⟩
  have SX := Lib.hid (setOf_srt (goodL a)).1
  generalize setOf (goodL a) = xs at ps LA SX
  have PS := Lib.hid ps
  have B := Lib.hid (below_on B.out hb2)
  have lx := LA.out
  obtain ⟨sx, cx, rfl, -⟩ := id PS.out
  obtain ⟨sn, cn, rfl, -⟩ := pn
  clear ps hb2 MK e1 e2 HA la
  go_upto_region 6 with (fail)
  obtain ⟨W3, hW, q0, -, hb3⟩ := boxCC w2 #[.slice sx xs.length cx] 26 #[.slice sn (setOf (goodL [])).length cn] 26
  rw [← hW]
  have Da : Hid (W3.cell? ⟨w2.heap.size, 0, none⟩ = some (.slice sx xs.length cx)) := Lib.hid (row_cell q0 0)
  have PS := Lib.hid (PS.out.below hb3)
  have B := Lib.hid (below_on B.out hb3)
  clear hW q0 hb3
  obtain ⟨ba, hba⟩ : ∃ ba, w2.heap.size = ba := ⟨_, rfl⟩
  rw [hba] at Da ⊢
  clear hba
  go_upto_region 7 with (fail)
  obtain ⟨W4, hW⟩ : ∃ W4, W4 = W3.alloc (.cells #[] 26) := ⟨_, rfl⟩
  have O : Hid (LstAt W4 W3.heap.size (.slice (some ⟨W3.heap.size, 0, none⟩) 0 0) [] (setsOf (bl.take 0))) := Lib.hid (by rw [hW]; exact ⟨rfl, own_empty (Nat.le_refl _), fun i u x h => by simp at h⟩)
  have B4 : Hid (Below W3.heap.size W3 W4) := Lib.hid (by rw [hW]; exact (Below.refl _ _).alloc (Nat.le_refl _) _)
  rw [← hW]
  clear hW
  go_wp2_with fail
  go_loopw [45, 7] (fun i9 v9 wr => ∃ (k : Nat) (us : List Value), k ≤ bl.length ∧ i9 = .int .i64 k ∧ Hid (LstAt wr W3.heap.size v9 us (setsOf (bl.take k))) ∧ Hid (∀ s ∈ setsOf (bl.take k), s.length ≤ 30) ∧ Hid (Below W3.heap.size W3 wr)) (fun i9 _ _ => bl.length - (intOf i9).toNat)
  case atStart => exact ⟨0, [], by omega, rfl, O, Lib.hid (fun s hs => by simp [setsOf] at hs), B4⟩
  case round =>
    clear O B4
    obtain ⟨k, us, hk, rfl, O, L30, BR⟩ := hrel
    by_cases hlt : k < bl.length
    · obtain ⟨s, hs⟩ : ∃ s, bl[k]? = some s := ⟨_, List.getElem?_eq_getElem hlt⟩
      obtain ⟨b1, off1, hsa, hP⟩ := HV.out (by omega)
      subst hsa
      obtain ⟨su, cu, x0, pu⟩ := pss_one hP hs
      have x0 := cell_below (cell_below x0 B.out) BR.out
      have PU := Lib.hid ((pu.below B.out).below BR.out)
      have ST := Lib.hid (setsOf_step hs)
      have k0 : (0 : Int) ≤ (k : Int) := by omega
      have k1 : (k : Int) < (bl.length : Int) := by omega
      have ls := ps_len pu
      unfold maxLen at ls
      clear hP hs pu
      by_cases h3 : 30 < s.length
      · have e3 : decide ((s.length : Int) > 30) = true := by simp; omega
        clear h3
        go_wp2_with fail
        go_ret
        exact ⟨rfl, below_on B.out BR.out⟩
      have e3 : decide ((s.length : Int) > 30) = false := by simp; omega
      have MK := Lib.hid (ps_make2o (.slice su s.length cu) (.slice none 0 0) s [] wr PU.out SlAt.nil (by omega) (by decide))
      have LS := Lib.hid (show (setOf (goodL s)).length ≤ 30 from Nat.le_trans (setOf_goodL_len' s) (by omega))
      clear h3
      go_wp2_with fail
      refine MK.out.mono ?_
      rintro e w5 ⟨v1, v2, rfl, o1, p2, hb5⟩
      have O5 := Lib.hid (O.out.below hb5)
      have B5 := Lib.hid (below_on BR.out hb5)
      have OW : Hid (OwnPs w5 W3.heap.size v1 (setOf (goodL s))) := Lib.hid ⟨own_base o1.1 BR.out.size, o1.2⟩
      clear hb5 MK O BR x0 e3 PU o1
      generalize setOf (goodL s) = s' at OW LS ST
      obtain ⟨s1, c1, rfl, -⟩ := id OW.out.at
      obtain ⟨s2, c2, rfl, -⟩ := p2
      go_upto_region 13 with (fail)
      obtain ⟨W6, hW, q0, -, hb6⟩ := boxCC w5 #[.slice s1 s'.length c1] 26 #[.slice s2 (setOf (goodL [])).length c2] 26
      rw [← hW]
      have z0 : W6.cell? ⟨w5.heap.size, 0, none⟩ = some (.slice s1 s'.length c1) := row_cell q0 0
      have O6 := Lib.hid (O5.out.below hb6)
      have B6 := Lib.hid (below_on B5.out hb6)
      have OW := Lib.hid (OW.out.below hb6)
      have L2 : Hid (∀ s ∈ setsOf (bl.take (k + 1)), s.length ≤ 30) := Lib.hid (by
        rw [ST.out]
        intro t ht
        rcases List.mem_append.1 ht with ht | ht
        · exact L30.out t ht
        · rw [List.mem_singleton.1 ht]; exact LS.out)
      have LN : (setsOf (bl.take k)).length ≤ 8 := by unfold setsOf; rw [List.length_map, List.length_take]; omega
      clear hW q0 hb6 O5 B5
      obtain ⟨bb, hbb⟩ : ∃ bb, w5.heap.size = bb := ⟨_, rfl⟩
      rw [hbb] at z0 ⊢
      clear hbb
      go_wp2_with (at_builtin; refine wpList_append_own_at _ rfl _ _ 29 rfl W3.heap.size 26 i0 _ 1 24 Try.underlying29 hii hz0 hz1 hz2 rfl (by decide) _ (setsOf (bl.take k)).length us rfl (O6.out.row.alloc _) ⟨W6.heap.size, 0, none⟩ 1 1 [.slice s1 s'.length c1] rfl rfl (new_cells W6 _ _) one_sl (by unfold maxLen; omega) (by omega) (by have := B6.out.size; simp; omega) ?_)
      intro v7 w7 hown7 hgrow7 _ _
      have hal7 : Below W6.heap.size W6 (W6.alloc (.cells #[.slice s1 s'.length c1] 26)) := (Below.refl _ _).alloc (Nat.le_refl _) _
      have O7 : Hid (LstAt w7 W3.heap.size v7 (us ++ [.slice s1 s'.length c1]) (setsOf (bl.take (k + 1)))) := Lib.hid (by rw [ST.out]; exact LstAt.push (O6.out.below hal7) (OW.out.below hal7) hown7 hgrow7)
      have B7 : Hid (Below W3.heap.size W3 w7) := Lib.hid ((B6.out.alloc B6.out.size _).grown hgrow7 (by have := B6.out.size; simp; omega) (own_form_le O6.out.row))
      clear hown7 hgrow7 hal7 O6 B6 OW z0 ST L30
      go_wp2_with fail
      exact ⟨⟨k + 1, _, by omega, by go_num, O7, L2, B7⟩, by simp [intOf]; omega⟩
    · obtain rfl : k = bl.length := by omega
      obtain ⟨u7, hu7⟩ : ∃ u, u = u7 := ⟨_, rfl⟩
      rw [← hu7] at O ⊢
      rw [List.take_length] at O L30
      obtain ⟨wm, hwm⟩ : ∃ wm : World, wm = wr := ⟨_, rfl⟩
      rw [← hwm] at O BR ⊢
      have SS := Lib.hid (setsOf_srt bl)
      have LB : Hid ((setsOf bl).length ≤ 8) := Lib.hid (by unfold setsOf; rw [List.length_map]; exact lb)
      clear hu7 hwm wr HV
      generalize setsOf bl = bys at O L30 SS LB
      have PS := Lib.hid (PS.out.below BR.out)
      have da := cell_below Da.out BR.out
      have B := Lib.hid (below_on B.out BR.out)
      have RS := Lib.hid O.out.rows
      have GC := Lib.hid (ps_Group _ u7 xs bys wm PS.out SX.out (O.out.sets SS.out) (by omega) (by have := LB.out; omega) (fun s hs => by have := L30.out s hs; omega))
      have OK := Lib.hid (ps_ok PS.out)
      obtain ⟨ss, cs, rfl, -⟩ := RS.out.len
      clear BR Da O
      go_wp2_with fail
      refine GC.out.mono ?_
      rintro e wg ⟨vg, vgs, rfl, gg, hbg⟩
      have RG := Lib.hid (gg.rows OK.out)
      have PS := Lib.hid (PS.out.below hbg)
      have Da := Lib.hid (cell_below da hbg)
      have B := Lib.hid (below_on B.out hbg)
      have RS := Lib.hid (RS.out.below hbg)
      have GS := Lib.hid (grp_sum bys xs)
      have GI : Hid (∀ (i : Nat) (x : List Pf), (grpL (sameB bys) xs)[i]? = some x → ∃ r, GrpIs bys xs x r) := Lib.hid (fun i x h => by obtain ⟨r, -, k⟩ := grp_is SX.out h; exact ⟨r, k⟩)
      have GT : Hid (∀ (i j : Nat) (x y : List Pf) (r t : Pf), (grpL (sameB bys) xs)[i]? = some x → (grpL (sameB bys) xs)[j]? = some y → x[0]? = some r → y[0]? = some t → i < j → plt r t ∧ sameB bys r t = false) := Lib.hid (fun i j x y r t hx hy hr ht hij => grp_two SX.out hx hy hr ht hij)
      have GL : Hid ((grpL (sameB bys) xs).length ≤ 30) := Lib.hid (by unfold grpL; rw [List.length_map]; exact Nat.le_trans (reps_len _) LA.out)
      have GX : Hid (∀ (i : Nat) (x : List Pf), (grpL (sameB bys) xs)[i]? = some x → x.length ≤ xs.length) := Lib.hid (fun i x h => grp_len h)
      generalize grpL (sameB bys) xs = G at RG GS GI GT GL GX
      clear gg hbg da GC OK
      obtain ⟨sg, cg, rfl, -, hcap⟩ := RG.out.len
      have lb := LB.out
      have lg := GL.out
      have GLE := Lib.hid (gsum_le G)
      obtain ⟨gs, hgs⟩ : ∃ gs, gsum G = gs := ⟨_, rfl⟩
      have GST : Hid (∀ (i : Nat) (x : List Pf), G[i]? = some x → gs (i + 1) = gs i + x.length) := Lib.hid (fun i x h => by rw [← hgs]; exact gsum_step h)
      have G0 : Hid (gs 0 = 0) := Lib.hid (by rw [← hgs]; rfl)
      rw [hgs] at GS GLE
      clear hgs
      go_wp2_with fail
      go_loopw [67, 13] (fun i9 v13 wr => ∃ i : Nat, i ≤ G.length ∧ i9 = .int .i64 i ∧ v13 = .int .i64 (gs i) ∧ Hid (Below wg.heap.size wg wr)) (fun i9 _ _ => G.length - (intOf i9).toNat)
      case atStart => exact ⟨0, by omega, rfl, by rw [G0.out]; rfl, Lib.hid (Below.refl _ _)⟩
      case round =>
        obtain ⟨i, hi, rfl, rfl, BR⟩ := hrel
        by_cases hlt : i < G.length
        · obtain ⟨x, hx⟩ : ∃ x, G[i]? = some x := ⟨_, List.getElem?_eq_getElem hlt⟩
          obtain ⟨gb, gc, hvg, hcell⟩ := RG.out.at_ (by omega)
          injection hvg with hvg1 _ hvg2
          subst hvg1; subst hvg2
          obtain ⟨s1, c1, z0, px⟩ := hcell i x hx
          have HC := Lib.hid hcell
          obtain ⟨r, hgi⟩ := GI.out i x hx
          have GR := Lib.hid hgi
          have xl : 0 < x.length := (List.getElem?_eq_some_iff.1 hgi.first).1
          have LX := GX.out i x hx
          have GN := GST.out i x hx
          have GM := GLE.out (i + 1)
          have gm := GS.out
          have HX := Lib.hid hx
          have PX := Lib.hid (px.below BR.out)
          have z0 := cell_below z0 BR.out
          have i0' : (0 : Int) ≤ (i : Int) := by omega
          have i1' : (i : Int) < (G.length : Int) := by omega
          clear hcell px hgi hx
          go_upto_region 20 with (fail)
          obtain ⟨W3', hW, q0, hb3, -⟩ := boxC wr #[.slice s1 x.length c1] 26
          rw [← hW]
          have d0 : W3'.cell? ⟨wr.heap.size, 0, none⟩ = some (.slice s1 x.length c1) := row_cell q0 0
          have PX := Lib.hid (PX.out.below hb3)
          have BR := Lib.hid (below_on BR.out hb3)
          clear hW q0 hb3 z0
          obtain ⟨bx, hbx⟩ : ∃ bx, wr.heap.size = bx := ⟨_, rfl⟩
          rw [hbx] at d0 ⊢
          clear hbx
          have LC := Lib.hid (ps_List _ x W3' PX.out (by omega))
          go_wp2_with fail
          refine LC.out.mono ?_
          rintro e wl ⟨vl, rfl, pl, hbl⟩
          have PL := Lib.hid pl
          have BR := Lib.hid (below_on BR.out hbl)
          clear pl hbl LC d0 PX
          obtain ⟨sl, cl, rfl, -, -, hpl⟩ := id PL.out
          obtain ⟨lb_, lo, rfl, hp⟩ := hpl (by omega)
          have HP := Lib.hid (fun (j : Nat) (q : Pf) (h : x[j]? = some q) => ps_two hp h)
          obtain ⟨l0, l1⟩ := HP.out 0 r GR.out.first
          simp only [Nat.zero_mul, Nat.add_zero] at l0 l1
          have L0 := Lib.hid l0
          have L1 := Lib.hid l1
          clear hpl hp
          have xz : (0 : Int) < (x.length : Int) := by omega
          have xe : ((x.length : Int) == 0) = false := by rw [beq_eq_false_iff_ne]; omega
          go_upto_region 22 with (fail)
          go_cut [99] (fun s wx => s = .bool false ∧ Hid (Below wl.heap.size wl wx))
          case first =>
            by_cases hi0 : i = 0
            · have g1 : decide ((i : Int) > 0) = false := by simp; omega
              have g2 : decide (0 < i) = false := by simp; omega
              clear hi0
              refine wp_region_held_drew (S := fun w' => Below wl.heap.size wl w') (by kernel_rfl) ?_ (fun hHeld => ?_)
              · exact (Below.refl _ _).drew
              refine rg_yes (i := 0) (v := ?_) at0 (by kernel_rfl) (by kernel_rfl) (by kernel_rfl) (fun _ _ _ h => h) ?_ ?_ hHeld ?_; rotate_left 1; (· rfl); (· intro w' hSw; (try dsimp only at hSw); (try clear hHeld); go_simp; try with_reducible rfl)
              try simp only [Act.put, List.setIfInBounds_toArray, List.set_cons_zero, List.set_cons_succ]
              refine rg_yes (i := 1) (v := ?_) (atS at0) (by kernel_rfl) (by kernel_rfl) (by kernel_rfl) (fun _ _ _ h => h) ?_ ?_ hHeld ?_; rotate_left 1; (· rfl); (· intro w' hSw; (try dsimp only at hSw); (try clear hHeld); go_simp; try with_reducible rfl)
              try simp only [Act.put, List.setIfInBounds_toArray, List.set_cons_zero, List.set_cons_succ]
              refine rg_yes (i := 2) (v := ?_) (atS (atS at0)) (by kernel_rfl) (by kernel_rfl) (by kernel_rfl) (fun _ _ _ h => h) ?_ ?_ hHeld ?_; rotate_left 1; (· rfl); (· intro w' hSw; (try dsimp only at hSw); (try clear hHeld); go_simp; try with_reducible rfl)
              try simp only [Act.put, List.setIfInBounds_toArray, List.set_cons_zero, List.set_cons_succ]
              refine rg_yes (i := 3) (v := ?_) (atS (atS (atS at0))) (by kernel_rfl) (by kernel_rfl) (by kernel_rfl) (fun _ _ _ h => h) ?_ ?_ hHeld ?_; rotate_left 1; (· rfl); (· intro w' hSw; (try dsimp only at hSw); (try clear hHeld); go_simp; try with_reducible rfl)
              try simp only [Act.put, List.setIfInBounds_toArray, List.set_cons_zero, List.set_cons_succ]
              first | (refine rg_no (i := 4) (atS (atS (atS (atS at0)))) (by kernel_rfl) (by kernel_rfl) (by kernel_rfl) (fun _ _ _ h => h) ?_ hHeld ?_; (· rfl)) | (refine rg_yes (i := 4) (v := ?_) (atS (atS (atS (atS at0)))) (by kernel_rfl) (by kernel_rfl) (by kernel_rfl) (fun _ _ _ h => h) ?_ ?_ hHeld ?_; rotate_left 1; (· rfl); (· intro w' hSw; (try dsimp only at hSw); (try clear hHeld); go_simp; try with_reducible rfl))
              try simp only [Act.put, List.setIfInBounds_toArray, List.set_cons_zero, List.set_cons_succ]
              first | (refine rg_no (i := 5) (atS (atS (atS (atS (atS at0))))) (by kernel_rfl) (by kernel_rfl) (by kernel_rfl) (fun _ _ _ h => h) ?_ hHeld ?_; (· rfl)) | (refine rg_yes (i := 5) (v := ?_) (atS (atS (atS (atS (atS at0))))) (by kernel_rfl) (by kernel_rfl) (by kernel_rfl) (fun _ _ _ h => h) ?_ ?_ hHeld ?_; rotate_left 1; (· rfl); (· intro w' hSw; (try dsimp only at hSw); (try clear hHeld); go_simp; try with_reducible rfl))
              try simp only [Act.put, List.setIfInBounds_toArray, List.set_cons_zero, List.set_cons_succ]
              first | (refine rg_no (i := 6) (atS (atS (atS (atS (atS (atS at0)))))) (by kernel_rfl) (by kernel_rfl) (by kernel_rfl) (fun _ _ _ h => h) ?_ hHeld ?_; (· rfl)) | (refine rg_yes (i := 6) (v := ?_) (atS (atS (atS (atS (atS (atS at0)))))) (by kernel_rfl) (by kernel_rfl) (by kernel_rfl) (fun _ _ _ h => h) ?_ ?_ hHeld ?_; rotate_left 1; (· rfl); (· intro w' hSw; (try dsimp only at hSw); (try clear hHeld); go_simp; try with_reducible rfl))
              try simp only [Act.put, List.setIfInBounds_toArray, List.set_cons_zero, List.set_cons_succ]
              first | (refine rg_no (i := 7) (atS (atS (atS (atS (atS (atS (atS at0))))))) (by kernel_rfl) (by kernel_rfl) (by kernel_rfl) (fun _ _ _ h => h) ?_ hHeld ?_; (· rfl)) | (refine rg_yes (i := 7) (v := ?_) (atS (atS (atS (atS (atS (atS (atS at0))))))) (by kernel_rfl) (by kernel_rfl) (by kernel_rfl) (fun _ _ _ h => h) ?_ ?_ hHeld ?_; rotate_left 1; (· rfl); (· intro w' hSw; (try dsimp only at hSw); (try clear hHeld); go_simp; try with_reducible rfl))
              try simp only [Act.put, List.setIfInBounds_toArray, List.set_cons_zero, List.set_cons_succ]
              first | (refine rg_no (i := 8) (atS (atS (atS (atS (atS (atS (atS (atS at0)))))))) (by kernel_rfl) (by kernel_rfl) (by kernel_rfl) (fun _ _ _ h => h) ?_ hHeld ?_; (· rfl)) | (refine rg_yes (i := 8) (v := ?_) (atS (atS (atS (atS (atS (atS (atS (atS at0)))))))) (by kernel_rfl) (by kernel_rfl) (by kernel_rfl) (fun _ _ _ h => h) ?_ ?_ hHeld ?_; rotate_left 1; (· rfl); (· intro w' hSw; (try dsimp only at hSw); (try clear hHeld); go_simp; try with_reducible rfl))
              try simp only [Act.put, List.setIfInBounds_toArray, List.set_cons_zero, List.set_cons_succ]
              first | (refine rg_no (i := 9) (atS (atS (atS (atS (atS (atS (atS (atS (atS at0))))))))) (by kernel_rfl) (by kernel_rfl) (by kernel_rfl) (fun _ _ _ h => h) ?_ hHeld ?_; (· rfl)) | (refine rg_yes (i := 9) (v := ?_) (atS (atS (atS (atS (atS (atS (atS (atS (atS at0))))))))) (by kernel_rfl) (by kernel_rfl) (by kernel_rfl) (fun _ _ _ h => h) ?_ ?_ hHeld ?_; rotate_left 1; (· rfl); (· intro w' hSw; (try dsimp only at hSw); (try clear hHeld); go_simp; try with_reducible rfl))
              try simp only [Act.put, List.setIfInBounds_toArray, List.set_cons_zero, List.set_cons_succ]
              first | (refine rg_no (i := 10) (atS (atS (atS (atS (atS (atS (atS (atS (atS (atS at0)))))))))) (by kernel_rfl) (by kernel_rfl) (by kernel_rfl) (fun _ _ _ h => h) ?_ hHeld ?_; (· rfl)) | (refine rg_yes (i := 10) (v := ?_) (atS (atS (atS (atS (atS (atS (atS (atS (atS (atS at0)))))))))) (by kernel_rfl) (by kernel_rfl) (by kernel_rfl) (fun _ _ _ h => h) ?_ ?_ hHeld ?_; rotate_left 1; (· rfl); (· intro w' hSw; (try dsimp only at hSw); have l0 := cell_below l0 hSw; have l1 := cell_below l1 hSw; (try clear hHeld); go_simp; try with_reducible rfl))
              try simp only [Act.put, List.setIfInBounds_toArray, List.set_cons_zero, List.set_cons_succ]
              first | (refine rg_no (i := 11) (atS (atS (atS (atS (atS (atS (atS (atS (atS (atS (atS at0))))))))))) (by kernel_rfl) (by kernel_rfl) (by kernel_rfl) (fun _ _ _ h => h) ?_ hHeld ?_; (· rfl)) | (refine rg_yes (i := 11) (v := ?_) (atS (atS (atS (atS (atS (atS (atS (atS (atS (atS (atS at0))))))))))) (by kernel_rfl) (by kernel_rfl) (by kernel_rfl) (fun _ _ _ h => h) ?_ ?_ hHeld ?_; rotate_left 1; (· rfl); (· intro w' hSw; (try dsimp only at hSw); have l0 := cell_below l0 hSw; have l1 := cell_below l1 hSw; (try clear hHeld); go_simp; try with_reducible rfl))
              try simp only [Act.put, List.setIfInBounds_toArray, List.set_cons_zero, List.set_cons_succ]
              first | (refine rg_no (i := 15) (atS (atS (atS (atS (atS (atS (atS (atS (atS (atS (atS (atS (atS (atS (atS at0))))))))))))))) (by kernel_rfl) (by kernel_rfl) (by kernel_rfl) (fun _ _ _ h => h) ?_ hHeld ?_; (· rfl)) | (refine rg_yes (i := 15) (v := ?_) (atS (atS (atS (atS (atS (atS (atS (atS (atS (atS (atS (atS (atS (atS (atS at0))))))))))))))) (by kernel_rfl) (by kernel_rfl) (by kernel_rfl) (fun _ _ _ h => h) ?_ ?_ hHeld ?_; rotate_left 1; (· rfl); (· intro w' hSw; (try dsimp only at hSw); (try clear hHeld); go_simp; try with_reducible rfl))
              try simp only [Act.put, List.setIfInBounds_toArray, List.set_cons_zero, List.set_cons_succ]
              first | (refine rg_no (i := 16) (atS (atS (atS (atS (atS (atS (atS (atS (atS (atS (atS (atS (atS (atS (atS (atS at0)))))))))))))))) (by kernel_rfl) (by kernel_rfl) (by kernel_rfl) (fun _ _ _ h => h) ?_ hHeld ?_; (· rfl)) | (refine rg_yes (i := 16) (v := ?_) (atS (atS (atS (atS (atS (atS (atS (atS (atS (atS (atS (atS (atS (atS (atS (atS at0)))))))))))))))) (by kernel_rfl) (by kernel_rfl) (by kernel_rfl) (fun _ _ _ h => h) ?_ ?_ hHeld ?_; rotate_left 1; (· rfl); (· intro w' hSw; (try dsimp only at hSw); have l0 := cell_below l0 hSw; have l1 := cell_below l1 hSw; (try clear hHeld); go_simp; try with_reducible rfl))
              try simp only [Act.put, List.setIfInBounds_toArray, List.set_cons_zero, List.set_cons_succ]
              first | (refine rg_no (i := 17) (atS (atS (atS (atS (atS (atS (atS (atS (atS (atS (atS (atS (atS (atS (atS (atS (atS at0))))))))))))))))) (by kernel_rfl) (by kernel_rfl) (by kernel_rfl) (fun _ _ _ h => h) ?_ hHeld ?_; (· rfl)) | (refine rg_yes (i := 17) (v := ?_) (atS (atS (atS (atS (atS (atS (atS (atS (atS (atS (atS (atS (atS (atS (atS (atS (atS at0))))))))))))))))) (by kernel_rfl) (by kernel_rfl) (by kernel_rfl) (fun _ _ _ h => h) ?_ ?_ hHeld ?_; rotate_left 1; (· rfl); (· intro w' hSw; (try dsimp only at hSw); have l0 := cell_below l0 hSw; have l1 := cell_below l1 hSw; (try clear hHeld); go_simp; try with_reducible rfl))
              try simp only [Act.put, List.setIfInBounds_toArray, List.set_cons_zero, List.set_cons_succ]
              first | (refine rg_no (i := 12) (atS (atS (atS (atS (atS (atS (atS (atS (atS (atS (atS (atS at0)))))))))))) (by kernel_rfl) (by kernel_rfl) (by kernel_rfl) (fun _ _ _ h => h) ?_ hHeld ?_; (· rfl)) | (refine rg_call (i := 12) (atS (atS (atS (atS (atS (atS (atS (atS (atS (atS (atS (atS at0)))))))))))) (by kernel_rfl) ?_ (fun K hK => ?_); (· rfl); (try clear hb); go_simp; (refine ((by assumption)).mono ?_; rintro e w1 ⟨rfl, hb⟩); go_wp2_with fail; refine hK.out _ _ ?_ (fun hHeld => ?_); (· exact hHeld.trans (hb.mono hHeld.size)); clear hK K)
              try simp only [Act.put, List.setIfInBounds_toArray, List.set_cons_zero, List.set_cons_succ]
              first | (refine rg_no (i := 13) (atS (atS (atS (atS (atS (atS (atS (atS (atS (atS (atS (atS (atS at0))))))))))))) (by kernel_rfl) (by kernel_rfl) (by kernel_rfl) (fun _ _ _ h => h) ?_ hHeld ?_; (· rfl)) | (refine rg_yes (i := 13) (v := ?_) (atS (atS (atS (atS (atS (atS (atS (atS (atS (atS (atS (atS (atS at0))))))))))))) (by kernel_rfl) (by kernel_rfl) (by kernel_rfl) (fun _ _ _ h => h) ?_ ?_ hHeld ?_; rotate_left 1; (· rfl); (· intro w' hSw; (try dsimp only at hSw); have l0 := cell_below l0 hSw; have l1 := cell_below l1 hSw; (try clear hHeld); go_simp; try with_reducible rfl))
              try simp only [Act.put, List.setIfInBounds_toArray, List.set_cons_zero, List.set_cons_succ]
              first | (refine rg_no (i := 14) (atS (atS (atS (atS (atS (atS (atS (atS (atS (atS (atS (atS (atS (atS at0)))))))))))))) (by kernel_rfl) (by kernel_rfl) (by kernel_rfl) (fun _ _ _ h => h) ?_ hHeld ?_; (· rfl)) | (refine rg_yes (i := 14) (v := ?_) (atS (atS (atS (atS (atS (atS (atS (atS (atS (atS (atS (atS (atS (atS at0)))))))))))))) (by kernel_rfl) (by kernel_rfl) (by kernel_rfl) (fun _ _ _ h => h) ?_ ?_ hHeld ?_; rotate_left 1; (· rfl); (· intro w' hSw; (try dsimp only at hSw); have l0 := cell_below l0 hSw; have l1 := cell_below l1 hSw; (try clear hHeld); go_simp; try with_reducible rfl))
              try simp only [Act.put, List.setIfInBounds_toArray, List.set_cons_zero, List.set_cons_succ]
              first | (refine rg_no (i := 18) (atS (atS (atS (atS (atS (atS (atS (atS (atS (atS (atS (atS (atS (atS (atS (atS (atS (atS at0)))))))))))))))))) (by kernel_rfl) (by kernel_rfl) (by kernel_rfl) (fun _ _ _ h => h) ?_ hHeld ?_; (· rfl)) | (refine rg_call (i := 18) (atS (atS (atS (atS (atS (atS (atS (atS (atS (atS (atS (atS (atS (atS (atS (atS (atS (atS at0)))))))))))))))))) (by kernel_rfl) ?_ (fun K hK => ?_); (· rfl); (try clear hb); go_simp; (refine ((by assumption)).mono ?_; rintro e w1 ⟨rfl, hb⟩); go_wp2_with fail; refine hK.out _ _ ?_ (fun hHeld => ?_); (· exact hHeld.trans (hb.mono hHeld.size)); clear hK K)
              try simp only [Act.put, List.setIfInBounds_toArray, List.set_cons_zero, List.set_cons_succ]
              first | (refine rg_no (i := 19) (atS (atS (atS (atS (atS (atS (atS (atS (atS (atS (atS (atS (atS (atS (atS (atS (atS (atS (atS at0))))))))))))))))))) (by kernel_rfl) (by kernel_rfl) (by kernel_rfl) (fun _ _ _ h => h) ?_ hHeld ?_; (· rfl)) | (refine rg_yes (i := 19) (v := ?_) (atS (atS (atS (atS (atS (atS (atS (atS (atS (atS (atS (atS (atS (atS (atS (atS (atS (atS (atS at0))))))))))))))))))) (by kernel_rfl) (by kernel_rfl) (by kernel_rfl) (fun _ _ _ h => h) ?_ ?_ hHeld ?_; rotate_left 1; (· rfl); (· intro w' hSw; (try dsimp only at hSw); (try clear hHeld); go_simp; try with_reducible rfl))
              try simp only [Act.put, List.setIfInBounds_toArray, List.set_cons_zero, List.set_cons_succ]
              first | (refine rg_no (i := 20) (atS (atS (atS (atS (atS (atS (atS (atS (atS (atS (atS (atS (atS (atS (atS (atS (atS (atS (atS (atS at0)))))))))))))))))))) (by kernel_rfl) (by kernel_rfl) (by kernel_rfl) (fun _ _ _ h => h) ?_ hHeld ?_; (· rfl)) | (refine rg_yes (i := 20) (v := ?_) (atS (atS (atS (atS (atS (atS (atS (atS (atS (atS (atS (atS (atS (atS (atS (atS (atS (atS (atS (atS at0)))))))))))))))))))) (by kernel_rfl) (by kernel_rfl) (by kernel_rfl) (fun _ _ _ h => h) ?_ ?_ hHeld ?_; rotate_left 1; (· rfl); (· intro w' hSw; (try dsimp only at hSw); (try clear hHeld); go_simp; try with_reducible rfl))
              try simp only [Act.put, List.setIfInBounds_toArray, List.set_cons_zero, List.set_cons_succ]
              refine rg_yes (i := 21) (v := ?_) (atS (atS (atS (atS (atS (atS (atS (atS (atS (atS (atS (atS (atS (atS (atS (atS (atS (atS (atS (atS (atS at0))))))))))))))))))))) (by kernel_rfl) (by kernel_rfl) (by kernel_rfl) (fun _ _ _ h => h) ?_ ?_ hHeld ?_; rotate_left 1; (· rfl); (· intro w' hSw; (try dsimp only at hSw); (try clear hHeld); go_simp; try with_reducible rfl)
              try simp only [Act.put, List.setIfInBounds_toArray, List.set_cons_zero, List.set_cons_succ]
              refine wpAnyH_done (by kernel_rfl) ?_ _
              go_wp2_with fail
              go_meet
              exact ⟨rfl, Lib.hid hHeld⟩
            · obtain ⟨j, hj⟩ : ∃ j, i = j + 1 := ⟨i - 1, by omega⟩
              have g1 : decide ((i : Int) > 0) = true := by simp; omega
              have g2 : decide (0 < i) = true := by simp; omega
              obtain ⟨y, hy⟩ : ∃ y, G[j]? = some y := ⟨_, List.getElem?_eq_getElem (by omega)⟩
              obtain ⟨s2, c2, z2, py⟩ := HC.out j y hy
              obtain ⟨t, hgt⟩ := GI.out j y hy
              have Y0 := Lib.hid hgt.first
              have yl : 0 < y.length := (List.getElem?_eq_some_iff.1 hgt.first).1
              have LY := GX.out j y hy
              have PT := GT.out j i y x t r hy HX.out hgt.first GR.out.first (by omega)
              have cz : decide (pcmp t r ≥ 0) = false := pcmp_less PT.1
              have z2 := cell_below z2 BR.out
              have LSC := Lib.hid (fun W (hW : Below wl.heap.size wl W) => ps_List _ y W ((py.below BR.out).below hW) (by omega))
              have CC := Lib.hid (fun W => ps_Cmp t r W)
              have wj : IntKind.i64.wrap ((i : Int) - 1) = (j : Int) := by rw [IntWalk.i64_in _ (by omega)]; omega
              have j0 : (0 : Int) ≤ (j : Int) := by omega
              have j1 : (j : Int) < (G.length : Int) := by omega
              have yz : (0 : Int) < (y.length : Int) := by omega
              generalize pcmp t r = cm at cz CC
              clear hi0 hj hy py hgt PT
              refine wp_region_held_drew (S := fun w' => Below wl.heap.size wl w') (by kernel_rfl) ?_ (fun hHeld => ?_)
              · exact (Below.refl _ _).drew
              refine rg_yes (i := 0) (v := ?_) at0 (by kernel_rfl) (by kernel_rfl) (by kernel_rfl) (fun _ _ _ h => h) ?_ ?_ hHeld ?_; rotate_left 1; (· rfl); (· intro w' hSw; (try dsimp only at hSw); (try clear hHeld); go_simp; try with_reducible rfl)
              try simp only [Act.put, List.setIfInBounds_toArray, List.set_cons_zero, List.set_cons_succ]
              refine rg_yes (i := 1) (v := ?_) (atS at0) (by kernel_rfl) (by kernel_rfl) (by kernel_rfl) (fun _ _ _ h => h) ?_ ?_ hHeld ?_; rotate_left 1; (· rfl); (· intro w' hSw; (try dsimp only at hSw); (try clear hHeld); go_simp; try with_reducible rfl)
              try simp only [Act.put, List.setIfInBounds_toArray, List.set_cons_zero, List.set_cons_succ]
              refine rg_yes (i := 2) (v := ?_) (atS (atS at0)) (by kernel_rfl) (by kernel_rfl) (by kernel_rfl) (fun _ _ _ h => h) ?_ ?_ hHeld ?_; rotate_left 1; (· rfl); (· intro w' hSw; (try dsimp only at hSw); (try clear hHeld); go_simp; try with_reducible rfl)
              try simp only [Act.put, List.setIfInBounds_toArray, List.set_cons_zero, List.set_cons_succ]
              refine rg_yes (i := 3) (v := ?_) (atS (atS (atS at0))) (by kernel_rfl) (by kernel_rfl) (by kernel_rfl) (fun _ _ _ h => h) ?_ ?_ hHeld ?_; rotate_left 1; (· rfl); (· intro w' hSw; (try dsimp only at hSw); (try clear hHeld); go_simp; try with_reducible rfl)
              try simp only [Act.put, List.setIfInBounds_toArray, List.set_cons_zero, List.set_cons_succ]
              first | (refine rg_no (i := 4) (atS (atS (atS (atS at0)))) (by kernel_rfl) (by kernel_rfl) (by kernel_rfl) (fun _ _ _ h => h) ?_ hHeld ?_; (· rfl)) | (refine rg_yes (i := 4) (v := ?_) (atS (atS (atS (atS at0)))) (by kernel_rfl) (by kernel_rfl) (by kernel_rfl) (fun _ _ _ h => h) ?_ ?_ hHeld ?_; rotate_left 1; (· rfl); (· intro w' hSw; (try dsimp only at hSw); (try clear hHeld); go_simp; try with_reducible rfl))
              try simp only [Act.put, List.setIfInBounds_toArray, List.set_cons_zero, List.set_cons_succ]
              first | (refine rg_no (i := 5) (atS (atS (atS (atS (atS at0))))) (by kernel_rfl) (by kernel_rfl) (by kernel_rfl) (fun _ _ _ h => h) ?_ hHeld ?_; (· rfl)) | (refine rg_yes (i := 5) (v := ?_) (atS (atS (atS (atS (atS at0))))) (by kernel_rfl) (by kernel_rfl) (by kernel_rfl) (fun _ _ _ h => h) ?_ ?_ hHeld ?_; rotate_left 1; (· rfl); (· intro w' hSw; (try dsimp only at hSw); (try clear hHeld); go_simp; try with_reducible rfl))
              try simp only [Act.put, List.setIfInBounds_toArray, List.set_cons_zero, List.set_cons_succ]
              first | (refine rg_no (i := 6) (atS (atS (atS (atS (atS (atS at0)))))) (by kernel_rfl) (by kernel_rfl) (by kernel_rfl) (fun _ _ _ h => h) ?_ hHeld ?_; (· rfl)) | (refine rg_yes (i := 6) (v := ?_) (atS (atS (atS (atS (atS (atS at0)))))) (by kernel_rfl) (by kernel_rfl) (by kernel_rfl) (fun _ _ _ h => h) ?_ ?_ hHeld ?_; rotate_left 1; (· rfl); (· intro w' hSw; (try dsimp only at hSw); (try clear hHeld); go_simp; try with_reducible rfl))
              try simp only [Act.put, List.setIfInBounds_toArray, List.set_cons_zero, List.set_cons_succ]
              first | (refine rg_no (i := 7) (atS (atS (atS (atS (atS (atS (atS at0))))))) (by kernel_rfl) (by kernel_rfl) (by kernel_rfl) (fun _ _ _ h => h) ?_ hHeld ?_; (· rfl)) | (refine rg_yes (i := 7) (v := ?_) (atS (atS (atS (atS (atS (atS (atS at0))))))) (by kernel_rfl) (by kernel_rfl) (by kernel_rfl) (fun _ _ _ h => h) ?_ ?_ hHeld ?_; rotate_left 1; (· rfl); (· intro w' hSw; (try dsimp only at hSw); (try clear hHeld); go_simp; try with_reducible rfl))
              try simp only [Act.put, List.setIfInBounds_toArray, List.set_cons_zero, List.set_cons_succ]
              first | (refine rg_no (i := 8) (atS (atS (atS (atS (atS (atS (atS (atS at0)))))))) (by kernel_rfl) (by kernel_rfl) (by kernel_rfl) (fun _ _ _ h => h) ?_ hHeld ?_; (· rfl)) | (refine rg_yes (i := 8) (v := ?_) (atS (atS (atS (atS (atS (atS (atS (atS at0)))))))) (by kernel_rfl) (by kernel_rfl) (by kernel_rfl) (fun _ _ _ h => h) ?_ ?_ hHeld ?_; rotate_left 1; (· rfl); (· intro w' hSw; (try dsimp only at hSw); (try clear hHeld); go_simp; try with_reducible rfl))
              try simp only [Act.put, List.setIfInBounds_toArray, List.set_cons_zero, List.set_cons_succ]
              first | (refine rg_no (i := 9) (atS (atS (atS (atS (atS (atS (atS (atS (atS at0))))))))) (by kernel_rfl) (by kernel_rfl) (by kernel_rfl) (fun _ _ _ h => h) ?_ hHeld ?_; (· rfl)) | (refine rg_yes (i := 9) (v := ?_) (atS (atS (atS (atS (atS (atS (atS (atS (atS at0))))))))) (by kernel_rfl) (by kernel_rfl) (by kernel_rfl) (fun _ _ _ h => h) ?_ ?_ hHeld ?_; rotate_left 1; (· rfl); (· intro w' hSw; (try dsimp only at hSw); (try clear hHeld); go_simp; try with_reducible rfl))
              try simp only [Act.put, List.setIfInBounds_toArray, List.set_cons_zero, List.set_cons_succ]
              first | (refine rg_no (i := 10) (atS (atS (atS (atS (atS (atS (atS (atS (atS (atS at0)))))))))) (by kernel_rfl) (by kernel_rfl) (by kernel_rfl) (fun _ _ _ h => h) ?_ hHeld ?_; (· rfl)) | (refine rg_yes (i := 10) (v := ?_) (atS (atS (atS (atS (atS (atS (atS (atS (atS (atS at0)))))))))) (by kernel_rfl) (by kernel_rfl) (by kernel_rfl) (fun _ _ _ h => h) ?_ ?_ hHeld ?_; rotate_left 1; (· rfl); (· intro w' hSw; (try dsimp only at hSw); have l0 := cell_below l0 hSw; have l1 := cell_below l1 hSw; have z2 := cell_below z2 hSw; (try clear hHeld); go_simp; try with_reducible rfl))
              try simp only [Act.put, List.setIfInBounds_toArray, List.set_cons_zero, List.set_cons_succ]
              first | (refine rg_no (i := 11) (atS (atS (atS (atS (atS (atS (atS (atS (atS (atS (atS at0))))))))))) (by kernel_rfl) (by kernel_rfl) (by kernel_rfl) (fun _ _ _ h => h) ?_ hHeld ?_; (· rfl)) | (refine rg_yes (i := 11) (v := ?_) (atS (atS (atS (atS (atS (atS (atS (atS (atS (atS (atS at0))))))))))) (by kernel_rfl) (by kernel_rfl) (by kernel_rfl) (fun _ _ _ h => h) ?_ ?_ hHeld ?_; rotate_left 1; (· rfl); (· intro w' hSw; (try dsimp only at hSw); have l0 := cell_below l0 hSw; have l1 := cell_below l1 hSw; have z2 := cell_below z2 hSw; (try clear hHeld); go_simp; try with_reducible rfl))
              try simp only [Act.put, List.setIfInBounds_toArray, List.set_cons_zero, List.set_cons_succ]
              first | (refine rg_no (i := 15) (atS (atS (atS (atS (atS (atS (atS (atS (atS (atS (atS (atS (atS (atS (atS at0))))))))))))))) (by kernel_rfl) (by kernel_rfl) (by kernel_rfl) (fun _ _ _ h => h) ?_ hHeld ?_; (· rfl)) | (refine rg_yes (i := 15) (v := ?_) (atS (atS (atS (atS (atS (atS (atS (atS (atS (atS (atS (atS (atS (atS (atS at0))))))))))))))) (by kernel_rfl) (by kernel_rfl) (by kernel_rfl) (fun _ _ _ h => h) ?_ ?_ hHeld ?_; rotate_left 1; (· rfl); (· intro w' hSw; (try dsimp only at hSw); (try clear hHeld); go_simp; try with_reducible rfl))
              try simp only [Act.put, List.setIfInBounds_toArray, List.set_cons_zero, List.set_cons_succ]
              first | (refine rg_no (i := 16) (atS (atS (atS (atS (atS (atS (atS (atS (atS (atS (atS (atS (atS (atS (atS (atS at0)))))))))))))))) (by kernel_rfl) (by kernel_rfl) (by kernel_rfl) (fun _ _ _ h => h) ?_ hHeld ?_; (· rfl)) | (refine rg_yes (i := 16) (v := ?_) (atS (atS (atS (atS (atS (atS (atS (atS (atS (atS (atS (atS (atS (atS (atS (atS at0)))))))))))))))) (by kernel_rfl) (by kernel_rfl) (by kernel_rfl) (fun _ _ _ h => h) ?_ ?_ hHeld ?_; rotate_left 1; (· rfl); (· intro w' hSw; (try dsimp only at hSw); have l0 := cell_below l0 hSw; have l1 := cell_below l1 hSw; have z2 := cell_below z2 hSw; (try clear hHeld); go_simp; try with_reducible rfl))
              try simp only [Act.put, List.setIfInBounds_toArray, List.set_cons_zero, List.set_cons_succ]
              first | (refine rg_no (i := 17) (atS (atS (atS (atS (atS (atS (atS (atS (atS (atS (atS (atS (atS (atS (atS (atS (atS at0))))))))))))))))) (by kernel_rfl) (by kernel_rfl) (by kernel_rfl) (fun _ _ _ h => h) ?_ hHeld ?_; (· rfl)) | (refine rg_yes (i := 17) (v := ?_) (atS (atS (atS (atS (atS (atS (atS (atS (atS (atS (atS (atS (atS (atS (atS (atS (atS at0))))))))))))))))) (by kernel_rfl) (by kernel_rfl) (by kernel_rfl) (fun _ _ _ h => h) ?_ ?_ hHeld ?_; rotate_left 1; (· rfl); (· intro w' hSw; (try dsimp only at hSw); have l0 := cell_below l0 hSw; have l1 := cell_below l1 hSw; have z2 := cell_below z2 hSw; (try clear hHeld); go_simp; try with_reducible rfl))
              try simp only [Act.put, List.setIfInBounds_toArray, List.set_cons_zero, List.set_cons_succ]
              first | (refine rg_no (i := 12) (atS (atS (atS (atS (atS (atS (atS (atS (atS (atS (atS (atS at0)))))))))))) (by kernel_rfl) (by kernel_rfl) (by kernel_rfl) (fun _ _ _ h => h) ?_ hHeld ?_; (· rfl)) | (refine rg_call (i := 12) (atS (atS (atS (atS (atS (atS (atS (atS (atS (atS (atS (atS at0)))))))))))) (by kernel_rfl) ?_ (fun K hK => ?_); (· rfl); (try clear hb); go_simp; (refine (LSC.out _ hHeld).mono ?_; rintro e v16 ⟨vl2, rfl, pl2, hb⟩); obtain ⟨sl2, cl2, rfl, -, -, hv2⟩ := pl2; obtain ⟨b3, off3, rfl, hp3⟩ := hv2 yl; obtain ⟨u0, u1⟩ := ps_two hp3 Y0.out; (simp only [Nat.zero_mul, Nat.add_zero] at u0 u1); clear hv2 hp3; go_wp2_with fail; refine hK.out _ _ ?_ (fun hHeld => ?_); (· exact hHeld.trans (hb.mono hHeld.size)); clear hK K)
              try simp only [Act.put, List.setIfInBounds_toArray, List.set_cons_zero, List.set_cons_succ]
              first | (refine rg_no (i := 13) (atS (atS (atS (atS (atS (atS (atS (atS (atS (atS (atS (atS (atS at0))))))))))))) (by kernel_rfl) (by kernel_rfl) (by kernel_rfl) (fun _ _ _ h => h) ?_ hHeld ?_; (· rfl)) | (refine rg_yes (i := 13) (v := ?_) (atS (atS (atS (atS (atS (atS (atS (atS (atS (atS (atS (atS (atS at0))))))))))))) (by kernel_rfl) (by kernel_rfl) (by kernel_rfl) (fun _ _ _ h => h) ?_ ?_ hHeld ?_; rotate_left 1; (· rfl); (· intro w' hSw; (try dsimp only at hSw); have l0 := cell_below l0 hSw; have l1 := cell_below l1 hSw; have z2 := cell_below z2 hSw; (try clear hHeld); go_simp; try with_reducible rfl))
              try simp only [Act.put, List.setIfInBounds_toArray, List.set_cons_zero, List.set_cons_succ]
              first | (refine rg_no (i := 14) (atS (atS (atS (atS (atS (atS (atS (atS (atS (atS (atS (atS (atS (atS at0)))))))))))))) (by kernel_rfl) (by kernel_rfl) (by kernel_rfl) (fun _ _ _ h => h) ?_ hHeld ?_; (· rfl)) | (refine rg_call (i := 14) (atS (atS (atS (atS (atS (atS (atS (atS (atS (atS (atS (atS (atS (atS at0)))))))))))))) (by kernel_rfl) ?_ (fun K hK => ?_); (· rfl); (try clear hb); go_simp; go_wp2_with fail; refine hK.out _ _ ?_ (fun hHeld => ?_); (· exact hHeld); clear hK K)
              try simp only [Act.put, List.setIfInBounds_toArray, List.set_cons_zero, List.set_cons_succ]
              first | (refine rg_no (i := 18) (atS (atS (atS (atS (atS (atS (atS (atS (atS (atS (atS (atS (atS (atS (atS (atS (atS (atS at0)))))))))))))))))) (by kernel_rfl) (by kernel_rfl) (by kernel_rfl) (fun _ _ _ h => h) ?_ hHeld ?_; (· rfl)) | (refine rg_call (i := 18) (atS (atS (atS (atS (atS (atS (atS (atS (atS (atS (atS (atS (atS (atS (atS (atS (atS (atS at0)))))))))))))))))) (by kernel_rfl) ?_ (fun K hK => ?_); (· rfl); (try clear hb); go_simp; (refine (CC.out _).mono ?_; rintro e w1 ⟨rfl, hb⟩); go_wp2_with fail; refine hK.out _ _ ?_ (fun hHeld => ?_); (· exact hHeld.trans (hb.mono hHeld.size)); clear hK K)
              try simp only [Act.put, List.setIfInBounds_toArray, List.set_cons_zero, List.set_cons_succ]
              first | (refine rg_no (i := 19) (atS (atS (atS (atS (atS (atS (atS (atS (atS (atS (atS (atS (atS (atS (atS (atS (atS (atS (atS at0))))))))))))))))))) (by kernel_rfl) (by kernel_rfl) (by kernel_rfl) (fun _ _ _ h => h) ?_ hHeld ?_; (· rfl)) | (refine rg_yes (i := 19) (v := ?_) (atS (atS (atS (atS (atS (atS (atS (atS (atS (atS (atS (atS (atS (atS (atS (atS (atS (atS (atS at0))))))))))))))))))) (by kernel_rfl) (by kernel_rfl) (by kernel_rfl) (fun _ _ _ h => h) ?_ ?_ hHeld ?_; rotate_left 1; (· rfl); (· intro w' hSw; (try dsimp only at hSw); (try clear hHeld); go_simp; try with_reducible rfl))
              try simp only [Act.put, List.setIfInBounds_toArray, List.set_cons_zero, List.set_cons_succ]
              first | (refine rg_no (i := 20) (atS (atS (atS (atS (atS (atS (atS (atS (atS (atS (atS (atS (atS (atS (atS (atS (atS (atS (atS (atS at0)))))))))))))))))))) (by kernel_rfl) (by kernel_rfl) (by kernel_rfl) (fun _ _ _ h => h) ?_ hHeld ?_; (· rfl)) | (refine rg_yes (i := 20) (v := ?_) (atS (atS (atS (atS (atS (atS (atS (atS (atS (atS (atS (atS (atS (atS (atS (atS (atS (atS (atS (atS at0)))))))))))))))))))) (by kernel_rfl) (by kernel_rfl) (by kernel_rfl) (fun _ _ _ h => h) ?_ ?_ hHeld ?_; rotate_left 1; (· rfl); (· intro w' hSw; (try dsimp only at hSw); (try clear hHeld); go_simp; try with_reducible rfl))
              try simp only [Act.put, List.setIfInBounds_toArray, List.set_cons_zero, List.set_cons_succ]
              refine rg_yes (i := 21) (v := ?_) (atS (atS (atS (atS (atS (atS (atS (atS (atS (atS (atS (atS (atS (atS (atS (atS (atS (atS (atS (atS (atS at0))))))))))))))))))))) (by kernel_rfl) (by kernel_rfl) (by kernel_rfl) (fun _ _ _ h => h) ?_ ?_ hHeld ?_; rotate_left 1; (· rfl); (· intro w' hSw; (try dsimp only at hSw); (try clear hHeld); go_simp; try with_reducible rfl)
              try simp only [Act.put, List.setIfInBounds_toArray, List.set_cons_zero, List.set_cons_succ]
              refine wpAnyH_done (by kernel_rfl) ?_ _
              go_wp2_with fail
              go_meet
              exact ⟨rfl, Lib.hid hHeld⟩
          case rest =>
            obtain ⟨rfl, HB⟩ := hcut
            have BL := Lib.hid (below_on BR.out HB.out)
            have PL := Lib.hid (PL.out.below HB.out)
            have L0 := Lib.hid (cell_below L0.out HB.out)
            have L1 := Lib.hid (cell_below L1.out HB.out)
            have HP := Lib.hid (fun (j : Nat) (q : Pf) (h : x[j]? = some q) => (⟨cell_below (HP.out j q h).1 HB.out, cell_below (HP.out j q h).2 HB.out⟩ : wc.cell? ⟨lb_, lo + j * 2, none⟩ = some (.int .u32 q.1) ∧ wc.cell? ⟨lb_, lo + j * 2 + 1, none⟩ = some (.int .i64 q.2)))
            obtain ⟨wd, hwd⟩ : ∃ wd : World, wd = wc := ⟨_, rfl⟩
            rw [← hwd] at BL PL L0 L1 HP ⊢
            clear hwd HB l0 l1
            go_wp2_with fail
            go_loopw [102] (fun i9 wr => ∃ k : Nat, k ≤ x.length ∧ i9 = .int .i64 k ∧ Hid (Below wd.heap.size wd wr)) (fun i9 _ => x.length - (intOf i9).toNat)
            case atStart => exact ⟨0, by omega, rfl, Lib.hid (Below.refl _ _)⟩
            case round =>
              obtain ⟨k, hk, rfl, BR⟩ := hrel
              by_cases hlt3 : k < x.length
              · obtain ⟨p, hp⟩ : ∃ p, x[k]? = some p := ⟨_, List.getElem?_eq_getElem hlt3⟩
                obtain ⟨x0, x1⟩ := HP.out k p hp
                have x0 := cell_below x0 BR.out
                have x1 := cell_below x1 BR.out
                have SAM := Lib.hid (GR.out.same p (List.mem_of_getElem? hp))
                have PX : Hid (decide (p ∈ xs) = true) := Lib.hid (by simp; exact GR.out.sub p (List.mem_of_getElem? hp))
                have k0' : (0 : Int) ≤ (k : Int) := by omega
                have k1' : (k : Int) < (x.length : Int) := by omega
                have HPk := Lib.hid hp
                clear hp
                go_upto_region 27 with (fail)
                obtain ⟨W9, hW, y0, y1, hb9⟩ := box2 wr (.int .u32 p.1) (.int .i64 p.2) 35
                rw [← hW]
                have B9 := Lib.hid (below_on BR.out hb9)
                have DA := Lib.hid (cell_below (cell_below Da.out BL.out) B9.out)
                have da := DA.out
                have Y0 := Lib.hid y0
                have Y1 := Lib.hid y1
                clear hW hb9 x0 x1 BR
                obtain ⟨bp, hbp⟩ : ∃ bp, wr.heap.size = bp := ⟨_, rfl⟩
                rw [hbp] at y0 y1 Y0 Y1 ⊢
                clear hbp
                have HA := Lib.hid (fun W (hW : Below W9.heap.size W9 W) => ps_Has _ xs p W ((PS.out.below BL.out).below (below_on B9.out hW)) SX.out)
                rw [PX.out] at HA
                go_cut [124] (fun s wx => s = .bool false ∧ Hid (Below W9.heap.size W9 wx))
                case first =>
                  by_cases hk0 : k = 0
                  · have g1 : decide ((k : Int) > 0) = false := by simp; omega
                    have g2 : decide (0 < k) = false := by simp; omega
                    clear hk0
                    refine wp_region_held_drew (S := fun w' => Below W9.heap.size W9 w') (by kernel_rfl) ?_ (fun hHeld => ?_)
                    · exact (Below.refl _ _).drew
                    refine rg_yes (i := 0) (v := ?_) at0 (by kernel_rfl) (by kernel_rfl) (by kernel_rfl) (fun _ _ _ h => h) ?_ ?_ hHeld ?_; rotate_left 1; (· rfl); (· intro w' hSw; (try dsimp only at hSw); have da := cell_below da hSw; have y0 := cell_below y0 hSw; have y1 := cell_below y1 hSw; (try clear hHeld); go_simp; try with_reducible rfl)
                    try simp only [Act.put, List.setIfInBounds_toArray, List.set_cons_zero, List.set_cons_succ]
                    refine rg_yes (i := 1) (v := ?_) (atS at0) (by kernel_rfl) (by kernel_rfl) (by kernel_rfl) (fun _ _ _ h => h) ?_ ?_ hHeld ?_; rotate_left 1; (· rfl); (· intro w' hSw; (try dsimp only at hSw); have da := cell_below da hSw; have y0 := cell_below y0 hSw; have y1 := cell_below y1 hSw; (try clear hHeld); go_simp; try with_reducible rfl)
                    try simp only [Act.put, List.setIfInBounds_toArray, List.set_cons_zero, List.set_cons_succ]
                    refine rg_call (i := 2) (atS (atS at0)) (by kernel_rfl) ?_ (fun K hK => ?_); (· rfl); (try clear hb); go_simp; (refine (HA.out _ hHeld).mono ?_; rintro e w1 ⟨rfl, hb⟩); go_wp2_with fail; refine hK.out _ _ ?_ (fun hHeld => ?_); (· exact hHeld.trans (hb.mono hHeld.size)); clear hK K
                    try simp only [Act.put, List.setIfInBounds_toArray, List.set_cons_zero, List.set_cons_succ]
                    refine rg_yes (i := 3) (v := ?_) (atS (atS (atS at0))) (by kernel_rfl) (by kernel_rfl) (by kernel_rfl) (fun _ _ _ h => h) ?_ ?_ hHeld ?_; rotate_left 1; (· rfl); (· intro w' hSw; (try dsimp only at hSw); (try clear hHeld); go_simp; try with_reducible rfl)
                    try simp only [Act.put, List.setIfInBounds_toArray, List.set_cons_zero, List.set_cons_succ]
                    refine rg_yes (i := 4) (v := ?_) (atS (atS (atS (atS at0)))) (by kernel_rfl) (by kernel_rfl) (by kernel_rfl) (fun _ _ _ h => h) ?_ ?_ hHeld ?_; rotate_left 1; (· rfl); (· intro w' hSw; (try dsimp only at hSw); (try clear hHeld); go_simp; try with_reducible rfl)
                    try simp only [Act.put, List.setIfInBounds_toArray, List.set_cons_zero, List.set_cons_succ]
                    first | (refine rg_no (i := 5) (atS (atS (atS (atS (atS at0))))) (by kernel_rfl) (by kernel_rfl) (by kernel_rfl) (fun _ _ _ h => h) ?_ hHeld ?_; (· rfl)) | (refine rg_yes (i := 5) (v := ?_) (atS (atS (atS (atS (atS at0))))) (by kernel_rfl) (by kernel_rfl) (by kernel_rfl) (fun _ _ _ h => h) ?_ ?_ hHeld ?_; rotate_left 1; (· rfl); (· intro w' hSw; (try dsimp only at hSw); (try clear hHeld); go_simp; try with_reducible rfl))
                    try simp only [Act.put, List.setIfInBounds_toArray, List.set_cons_zero, List.set_cons_succ]
                    first | (refine rg_no (i := 6) (atS (atS (atS (atS (atS (atS at0)))))) (by kernel_rfl) (by kernel_rfl) (by kernel_rfl) (fun _ _ _ h => h) ?_ hHeld ?_; (· rfl)) | (refine rg_yes (i := 6) (v := ?_) (atS (atS (atS (atS (atS (atS at0)))))) (by kernel_rfl) (by kernel_rfl) (by kernel_rfl) (fun _ _ _ h => h) ?_ ?_ hHeld ?_; rotate_left 1; (· rfl); (· intro w' hSw; (try dsimp only at hSw); (try clear hHeld); go_simp; try with_reducible rfl))
                    try simp only [Act.put, List.setIfInBounds_toArray, List.set_cons_zero, List.set_cons_succ]
                    first | (refine rg_no (i := 7) (atS (atS (atS (atS (atS (atS (atS at0))))))) (by kernel_rfl) (by kernel_rfl) (by kernel_rfl) (fun _ _ _ h => h) ?_ hHeld ?_; (· rfl)) | (refine rg_yes (i := 7) (v := ?_) (atS (atS (atS (atS (atS (atS (atS at0))))))) (by kernel_rfl) (by kernel_rfl) (by kernel_rfl) (fun _ _ _ h => h) ?_ ?_ hHeld ?_; rotate_left 1; (· rfl); (· intro w' hSw; (try dsimp only at hSw); (try clear hHeld); go_simp; try with_reducible rfl))
                    try simp only [Act.put, List.setIfInBounds_toArray, List.set_cons_zero, List.set_cons_succ]
                    first | (refine rg_no (i := 8) (atS (atS (atS (atS (atS (atS (atS (atS at0)))))))) (by kernel_rfl) (by kernel_rfl) (by kernel_rfl) (fun _ _ _ h => h) ?_ hHeld ?_; (· rfl)) | (refine rg_yes (i := 8) (v := ?_) (atS (atS (atS (atS (atS (atS (atS (atS at0)))))))) (by kernel_rfl) (by kernel_rfl) (by kernel_rfl) (fun _ _ _ h => h) ?_ ?_ hHeld ?_; rotate_left 1; (· rfl); (· intro w' hSw; (try dsimp only at hSw); (try clear hHeld); go_simp; try with_reducible rfl))
                    try simp only [Act.put, List.setIfInBounds_toArray, List.set_cons_zero, List.set_cons_succ]
                    first | (refine rg_no (i := 9) (atS (atS (atS (atS (atS (atS (atS (atS (atS at0))))))))) (by kernel_rfl) (by kernel_rfl) (by kernel_rfl) (fun _ _ _ h => h) ?_ hHeld ?_; (· rfl)) | (refine rg_yes (i := 9) (v := ?_) (atS (atS (atS (atS (atS (atS (atS (atS (atS at0))))))))) (by kernel_rfl) (by kernel_rfl) (by kernel_rfl) (fun _ _ _ h => h) ?_ ?_ hHeld ?_; rotate_left 1; (· rfl); (· intro w' hSw; (try dsimp only at hSw); (try clear hHeld); go_simp; try with_reducible rfl))
                    try simp only [Act.put, List.setIfInBounds_toArray, List.set_cons_zero, List.set_cons_succ]
                    first | (refine rg_no (i := 10) (atS (atS (atS (atS (atS (atS (atS (atS (atS (atS at0)))))))))) (by kernel_rfl) (by kernel_rfl) (by kernel_rfl) (fun _ _ _ h => h) ?_ hHeld ?_; (· rfl)) | (refine rg_yes (i := 10) (v := ?_) (atS (atS (atS (atS (atS (atS (atS (atS (atS (atS at0)))))))))) (by kernel_rfl) (by kernel_rfl) (by kernel_rfl) (fun _ _ _ h => h) ?_ ?_ hHeld ?_; rotate_left 1; (· rfl); (· intro w' hSw; (try dsimp only at hSw); (try clear hHeld); go_simp; try with_reducible rfl))
                    try simp only [Act.put, List.setIfInBounds_toArray, List.set_cons_zero, List.set_cons_succ]
                    first | (refine rg_no (i := 11) (atS (atS (atS (atS (atS (atS (atS (atS (atS (atS (atS at0))))))))))) (by kernel_rfl) (by kernel_rfl) (by kernel_rfl) (fun _ _ _ h => h) ?_ hHeld ?_; (· rfl)) | (refine rg_yes (i := 11) (v := ?_) (atS (atS (atS (atS (atS (atS (atS (atS (atS (atS (atS at0))))))))))) (by kernel_rfl) (by kernel_rfl) (by kernel_rfl) (fun _ _ _ h => h) ?_ ?_ hHeld ?_; rotate_left 1; (· rfl); (· intro w' hSw; (try dsimp only at hSw); have da := cell_below da hSw; have y0 := cell_below y0 hSw; have y1 := cell_below y1 hSw; (try clear hHeld); go_simp; try with_reducible rfl))
                    try simp only [Act.put, List.setIfInBounds_toArray, List.set_cons_zero, List.set_cons_succ]
                    first | (refine rg_no (i := 12) (atS (atS (atS (atS (atS (atS (atS (atS (atS (atS (atS (atS at0)))))))))))) (by kernel_rfl) (by kernel_rfl) (by kernel_rfl) (fun _ _ _ h => h) ?_ hHeld ?_; (· rfl)) | (refine rg_yes (i := 12) (v := ?_) (atS (atS (atS (atS (atS (atS (atS (atS (atS (atS (atS (atS at0)))))))))))) (by kernel_rfl) (by kernel_rfl) (by kernel_rfl) (fun _ _ _ h => h) ?_ ?_ hHeld ?_; rotate_left 1; (· rfl); (· intro w' hSw; (try dsimp only at hSw); have da := cell_below da hSw; have y0 := cell_below y0 hSw; have y1 := cell_below y1 hSw; (try clear hHeld); go_simp; try with_reducible rfl))
                    try simp only [Act.put, List.setIfInBounds_toArray, List.set_cons_zero, List.set_cons_succ]
                    first | (refine rg_no (i := 13) (atS (atS (atS (atS (atS (atS (atS (atS (atS (atS (atS (atS (atS at0))))))))))))) (by kernel_rfl) (by kernel_rfl) (by kernel_rfl) (fun _ _ _ h => h) ?_ hHeld ?_; (· rfl)) | (refine rg_yes (i := 13) (v := ?_) (atS (atS (atS (atS (atS (atS (atS (atS (atS (atS (atS (atS (atS at0))))))))))))) (by kernel_rfl) (by kernel_rfl) (by kernel_rfl) (fun _ _ _ h => h) ?_ ?_ hHeld ?_; rotate_left 1; (· rfl); (· intro w' hSw; (try dsimp only at hSw); have da := cell_below da hSw; have y0 := cell_below y0 hSw; have y1 := cell_below y1 hSw; (try clear hHeld); go_simp; try with_reducible rfl))
                    try simp only [Act.put, List.setIfInBounds_toArray, List.set_cons_zero, List.set_cons_succ]
                    first | (refine rg_no (i := 14) (atS (atS (atS (atS (atS (atS (atS (atS (atS (atS (atS (atS (atS (atS at0)))))))))))))) (by kernel_rfl) (by kernel_rfl) (by kernel_rfl) (fun _ _ _ h => h) ?_ hHeld ?_; (· rfl)) | (refine rg_call (i := 14) (atS (atS (atS (atS (atS (atS (atS (atS (atS (atS (atS (atS (atS (atS at0)))))))))))))) (by kernel_rfl) ?_ (fun K hK => ?_); (· rfl); (try clear hb); go_simp; (refine ((by assumption)).mono ?_; rintro e w1 ⟨rfl, hb⟩); go_wp2_with fail; refine hK.out _ _ ?_ (fun hHeld => ?_); (· exact hHeld.trans (hb.mono hHeld.size)); clear hK K)
                    try simp only [Act.put, List.setIfInBounds_toArray, List.set_cons_zero, List.set_cons_succ]
                    first | (refine rg_no (i := 15) (atS (atS (atS (atS (atS (atS (atS (atS (atS (atS (atS (atS (atS (atS (atS at0))))))))))))))) (by kernel_rfl) (by kernel_rfl) (by kernel_rfl) (fun _ _ _ h => h) ?_ hHeld ?_; (· rfl)) | (refine rg_yes (i := 15) (v := ?_) (atS (atS (atS (atS (atS (atS (atS (atS (atS (atS (atS (atS (atS (atS (atS at0))))))))))))))) (by kernel_rfl) (by kernel_rfl) (by kernel_rfl) (fun _ _ _ h => h) ?_ ?_ hHeld ?_; rotate_left 1; (· rfl); (· intro w' hSw; (try dsimp only at hSw); (try clear hHeld); go_simp; try with_reducible rfl))
                    try simp only [Act.put, List.setIfInBounds_toArray, List.set_cons_zero, List.set_cons_succ]
                    first | (refine rg_no (i := 16) (atS (atS (atS (atS (atS (atS (atS (atS (atS (atS (atS (atS (atS (atS (atS (atS at0)))))))))))))))) (by kernel_rfl) (by kernel_rfl) (by kernel_rfl) (fun _ _ _ h => h) ?_ hHeld ?_; (· rfl)) | (refine rg_yes (i := 16) (v := ?_) (atS (atS (atS (atS (atS (atS (atS (atS (atS (atS (atS (atS (atS (atS (atS (atS at0)))))))))))))))) (by kernel_rfl) (by kernel_rfl) (by kernel_rfl) (fun _ _ _ h => h) ?_ ?_ hHeld ?_; rotate_left 1; (· rfl); (· intro w' hSw; (try dsimp only at hSw); (try clear hHeld); go_simp; try with_reducible rfl))
                    try simp only [Act.put, List.setIfInBounds_toArray, List.set_cons_zero, List.set_cons_succ]
                    refine rg_yes (i := 17) (v := ?_) (atS (atS (atS (atS (atS (atS (atS (atS (atS (atS (atS (atS (atS (atS (atS (atS (atS at0))))))))))))))))) (by kernel_rfl) (by kernel_rfl) (by kernel_rfl) (fun _ _ _ h => h) ?_ ?_ hHeld ?_; rotate_left 1; (· rfl); (· intro w' hSw; (try dsimp only at hSw); (try clear hHeld); go_simp; try with_reducible rfl)
                    try simp only [Act.put, List.setIfInBounds_toArray, List.set_cons_zero, List.set_cons_succ]
                    refine wpAnyH_done (by kernel_rfl) ?_ _
                    go_wp2_with fail
                    go_meet
                    exact ⟨rfl, Lib.hid hHeld⟩
                  · obtain ⟨j, hj⟩ : ∃ j, k = j + 1 := ⟨k - 1, by omega⟩
                    have g1 : decide ((k : Int) > 0) = true := by simp; omega
                    have g2 : decide (0 < k) = true := by simp; omega
                    obtain ⟨q, hq⟩ : ∃ q, x[j]? = some q := ⟨_, List.getElem?_eq_getElem (by omega)⟩
                    have cz : decide (pcmp q p ≥ 0) = false := pcmp_less (srt_lt GR.out.srt hq HPk.out (by omega))
                    obtain ⟨u0, u1⟩ := HP.out j q hq
                    have u0 := cell_below u0 B9.out
                    have u1 := cell_below u1 B9.out
                    have CC := Lib.hid (fun W => ps_Cmp q p W)
                    have wj : IntKind.i64.wrap ((k : Int) - 1) = (j : Int) := by rw [IntWalk.i64_in _ (by omega)]; omega
                    have j0 : (0 : Int) ≤ (j : Int) := by omega
                    have j1 : (j : Int) < (x.length : Int) := by omega
                    generalize pcmp q p = cm at cz CC
                    clear hk0 hj hq
                    refine wp_region_held_drew (S := fun w' => Below W9.heap.size W9 w') (by kernel_rfl) ?_ (fun hHeld => ?_)
                    · exact (Below.refl _ _).drew
                    refine rg_yes (i := 0) (v := ?_) at0 (by kernel_rfl) (by kernel_rfl) (by kernel_rfl) (fun _ _ _ h => h) ?_ ?_ hHeld ?_; rotate_left 1; (· rfl); (· intro w' hSw; (try dsimp only at hSw); have da := cell_below da hSw; have y0 := cell_below y0 hSw; have y1 := cell_below y1 hSw; have u0 := cell_below u0 hSw; have u1 := cell_below u1 hSw; (try clear hHeld); go_simp; try with_reducible rfl)
                    try simp only [Act.put, List.setIfInBounds_toArray, List.set_cons_zero, List.set_cons_succ]
                    refine rg_yes (i := 1) (v := ?_) (atS at0) (by kernel_rfl) (by kernel_rfl) (by kernel_rfl) (fun _ _ _ h => h) ?_ ?_ hHeld ?_; rotate_left 1; (· rfl); (· intro w' hSw; (try dsimp only at hSw); have da := cell_below da hSw; have y0 := cell_below y0 hSw; have y1 := cell_below y1 hSw; have u0 := cell_below u0 hSw; have u1 := cell_below u1 hSw; (try clear hHeld); go_simp; try with_reducible rfl)
                    try simp only [Act.put, List.setIfInBounds_toArray, List.set_cons_zero, List.set_cons_succ]
                    refine rg_call (i := 2) (atS (atS at0)) (by kernel_rfl) ?_ (fun K hK => ?_); (· rfl); (try clear hb); go_simp; (refine (HA.out _ hHeld).mono ?_; rintro e w1 ⟨rfl, hb⟩); go_wp2_with fail; refine hK.out _ _ ?_ (fun hHeld => ?_); (· exact hHeld.trans (hb.mono hHeld.size)); clear hK K
                    try simp only [Act.put, List.setIfInBounds_toArray, List.set_cons_zero, List.set_cons_succ]
                    refine rg_yes (i := 3) (v := ?_) (atS (atS (atS at0))) (by kernel_rfl) (by kernel_rfl) (by kernel_rfl) (fun _ _ _ h => h) ?_ ?_ hHeld ?_; rotate_left 1; (· rfl); (· intro w' hSw; (try dsimp only at hSw); (try clear hHeld); go_simp; try with_reducible rfl)
                    try simp only [Act.put, List.setIfInBounds_toArray, List.set_cons_zero, List.set_cons_succ]
                    refine rg_yes (i := 4) (v := ?_) (atS (atS (atS (atS at0)))) (by kernel_rfl) (by kernel_rfl) (by kernel_rfl) (fun _ _ _ h => h) ?_ ?_ hHeld ?_; rotate_left 1; (· rfl); (· intro w' hSw; (try dsimp only at hSw); (try clear hHeld); go_simp; try with_reducible rfl)
                    try simp only [Act.put, List.setIfInBounds_toArray, List.set_cons_zero, List.set_cons_succ]
                    first | (refine rg_no (i := 5) (atS (atS (atS (atS (atS at0))))) (by kernel_rfl) (by kernel_rfl) (by kernel_rfl) (fun _ _ _ h => h) ?_ hHeld ?_; (· rfl)) | (refine rg_yes (i := 5) (v := ?_) (atS (atS (atS (atS (atS at0))))) (by kernel_rfl) (by kernel_rfl) (by kernel_rfl) (fun _ _ _ h => h) ?_ ?_ hHeld ?_; rotate_left 1; (· rfl); (· intro w' hSw; (try dsimp only at hSw); (try clear hHeld); go_simp; try with_reducible rfl))
                    try simp only [Act.put, List.setIfInBounds_toArray, List.set_cons_zero, List.set_cons_succ]
                    first | (refine rg_no (i := 6) (atS (atS (atS (atS (atS (atS at0)))))) (by kernel_rfl) (by kernel_rfl) (by kernel_rfl) (fun _ _ _ h => h) ?_ hHeld ?_; (· rfl)) | (refine rg_yes (i := 6) (v := ?_) (atS (atS (atS (atS (atS (atS at0)))))) (by kernel_rfl) (by kernel_rfl) (by kernel_rfl) (fun _ _ _ h => h) ?_ ?_ hHeld ?_; rotate_left 1; (· rfl); (· intro w' hSw; (try dsimp only at hSw); (try clear hHeld); go_simp; try with_reducible rfl))
                    try simp only [Act.put, List.setIfInBounds_toArray, List.set_cons_zero, List.set_cons_succ]
                    first | (refine rg_no (i := 7) (atS (atS (atS (atS (atS (atS (atS at0))))))) (by kernel_rfl) (by kernel_rfl) (by kernel_rfl) (fun _ _ _ h => h) ?_ hHeld ?_; (· rfl)) | (refine rg_yes (i := 7) (v := ?_) (atS (atS (atS (atS (atS (atS (atS at0))))))) (by kernel_rfl) (by kernel_rfl) (by kernel_rfl) (fun _ _ _ h => h) ?_ ?_ hHeld ?_; rotate_left 1; (· rfl); (· intro w' hSw; (try dsimp only at hSw); (try clear hHeld); go_simp; try with_reducible rfl))
                    try simp only [Act.put, List.setIfInBounds_toArray, List.set_cons_zero, List.set_cons_succ]
                    first | (refine rg_no (i := 8) (atS (atS (atS (atS (atS (atS (atS (atS at0)))))))) (by kernel_rfl) (by kernel_rfl) (by kernel_rfl) (fun _ _ _ h => h) ?_ hHeld ?_; (· rfl)) | (refine rg_yes (i := 8) (v := ?_) (atS (atS (atS (atS (atS (atS (atS (atS at0)))))))) (by kernel_rfl) (by kernel_rfl) (by kernel_rfl) (fun _ _ _ h => h) ?_ ?_ hHeld ?_; rotate_left 1; (· rfl); (· intro w' hSw; (try dsimp only at hSw); (try clear hHeld); go_simp; try with_reducible rfl))
                    try simp only [Act.put, List.setIfInBounds_toArray, List.set_cons_zero, List.set_cons_succ]
                    first | (refine rg_no (i := 9) (atS (atS (atS (atS (atS (atS (atS (atS (atS at0))))))))) (by kernel_rfl) (by kernel_rfl) (by kernel_rfl) (fun _ _ _ h => h) ?_ hHeld ?_; (· rfl)) | (refine rg_yes (i := 9) (v := ?_) (atS (atS (atS (atS (atS (atS (atS (atS (atS at0))))))))) (by kernel_rfl) (by kernel_rfl) (by kernel_rfl) (fun _ _ _ h => h) ?_ ?_ hHeld ?_; rotate_left 1; (· rfl); (· intro w' hSw; (try dsimp only at hSw); (try clear hHeld); go_simp; try with_reducible rfl))
                    try simp only [Act.put, List.setIfInBounds_toArray, List.set_cons_zero, List.set_cons_succ]
                    first | (refine rg_no (i := 10) (atS (atS (atS (atS (atS (atS (atS (atS (atS (atS at0)))))))))) (by kernel_rfl) (by kernel_rfl) (by kernel_rfl) (fun _ _ _ h => h) ?_ hHeld ?_; (· rfl)) | (refine rg_yes (i := 10) (v := ?_) (atS (atS (atS (atS (atS (atS (atS (atS (atS (atS at0)))))))))) (by kernel_rfl) (by kernel_rfl) (by kernel_rfl) (fun _ _ _ h => h) ?_ ?_ hHeld ?_; rotate_left 1; (· rfl); (· intro w' hSw; (try dsimp only at hSw); (try clear hHeld); go_simp; try with_reducible rfl))
                    try simp only [Act.put, List.setIfInBounds_toArray, List.set_cons_zero, List.set_cons_succ]
                    first | (refine rg_no (i := 11) (atS (atS (atS (atS (atS (atS (atS (atS (atS (atS (atS at0))))))))))) (by kernel_rfl) (by kernel_rfl) (by kernel_rfl) (fun _ _ _ h => h) ?_ hHeld ?_; (· rfl)) | (refine rg_yes (i := 11) (v := ?_) (atS (atS (atS (atS (atS (atS (atS (atS (atS (atS (atS at0))))))))))) (by kernel_rfl) (by kernel_rfl) (by kernel_rfl) (fun _ _ _ h => h) ?_ ?_ hHeld ?_; rotate_left 1; (· rfl); (· intro w' hSw; (try dsimp only at hSw); have da := cell_below da hSw; have y0 := cell_below y0 hSw; have y1 := cell_below y1 hSw; have u0 := cell_below u0 hSw; have u1 := cell_below u1 hSw; (try clear hHeld); go_simp; try with_reducible rfl))
                    try simp only [Act.put, List.setIfInBounds_toArray, List.set_cons_zero, List.set_cons_succ]
                    first | (refine rg_no (i := 12) (atS (atS (atS (atS (atS (atS (atS (atS (atS (atS (atS (atS at0)))))))))))) (by kernel_rfl) (by kernel_rfl) (by kernel_rfl) (fun _ _ _ h => h) ?_ hHeld ?_; (· rfl)) | (refine rg_yes (i := 12) (v := ?_) (atS (atS (atS (atS (atS (atS (atS (atS (atS (atS (atS (atS at0)))))))))))) (by kernel_rfl) (by kernel_rfl) (by kernel_rfl) (fun _ _ _ h => h) ?_ ?_ hHeld ?_; rotate_left 1; (· rfl); (· intro w' hSw; (try dsimp only at hSw); have da := cell_below da hSw; have y0 := cell_below y0 hSw; have y1 := cell_below y1 hSw; have u0 := cell_below u0 hSw; have u1 := cell_below u1 hSw; (try clear hHeld); go_simp; try with_reducible rfl))
                    try simp only [Act.put, List.setIfInBounds_toArray, List.set_cons_zero, List.set_cons_succ]
                    first | (refine rg_no (i := 13) (atS (atS (atS (atS (atS (atS (atS (atS (atS (atS (atS (atS (atS at0))))))))))))) (by kernel_rfl) (by kernel_rfl) (by kernel_rfl) (fun _ _ _ h => h) ?_ hHeld ?_; (· rfl)) | (refine rg_yes (i := 13) (v := ?_) (atS (atS (atS (atS (atS (atS (atS (atS (atS (atS (atS (atS (atS at0))))))))))))) (by kernel_rfl) (by kernel_rfl) (by kernel_rfl) (fun _ _ _ h => h) ?_ ?_ hHeld ?_; rotate_left 1; (· rfl); (· intro w' hSw; (try dsimp only at hSw); have da := cell_below da hSw; have y0 := cell_below y0 hSw; have y1 := cell_below y1 hSw; have u0 := cell_below u0 hSw; have u1 := cell_below u1 hSw; (try clear hHeld); go_simp; try with_reducible rfl))
                    try simp only [Act.put, List.setIfInBounds_toArray, List.set_cons_zero, List.set_cons_succ]
                    first | (refine rg_no (i := 14) (atS (atS (atS (atS (atS (atS (atS (atS (atS (atS (atS (atS (atS (atS at0)))))))))))))) (by kernel_rfl) (by kernel_rfl) (by kernel_rfl) (fun _ _ _ h => h) ?_ hHeld ?_; (· rfl)) | (refine rg_call (i := 14) (atS (atS (atS (atS (atS (atS (atS (atS (atS (atS (atS (atS (atS (atS at0)))))))))))))) (by kernel_rfl) ?_ (fun K hK => ?_); (· rfl); (try clear hb); go_simp; (refine (CC.out _).mono ?_; rintro e w1 ⟨rfl, hb⟩); go_wp2_with fail; refine hK.out _ _ ?_ (fun hHeld => ?_); (· exact hHeld.trans (hb.mono hHeld.size)); clear hK K)
                    try simp only [Act.put, List.setIfInBounds_toArray, List.set_cons_zero, List.set_cons_succ]
                    first | (refine rg_no (i := 15) (atS (atS (atS (atS (atS (atS (atS (atS (atS (atS (atS (atS (atS (atS (atS at0))))))))))))))) (by kernel_rfl) (by kernel_rfl) (by kernel_rfl) (fun _ _ _ h => h) ?_ hHeld ?_; (· rfl)) | (refine rg_yes (i := 15) (v := ?_) (atS (atS (atS (atS (atS (atS (atS (atS (atS (atS (atS (atS (atS (atS (atS at0))))))))))))))) (by kernel_rfl) (by kernel_rfl) (by kernel_rfl) (fun _ _ _ h => h) ?_ ?_ hHeld ?_; rotate_left 1; (· rfl); (· intro w' hSw; (try dsimp only at hSw); (try clear hHeld); go_simp; try with_reducible rfl))
                    try simp only [Act.put, List.setIfInBounds_toArray, List.set_cons_zero, List.set_cons_succ]
                    first | (refine rg_no (i := 16) (atS (atS (atS (atS (atS (atS (atS (atS (atS (atS (atS (atS (atS (atS (atS (atS at0)))))))))))))))) (by kernel_rfl) (by kernel_rfl) (by kernel_rfl) (fun _ _ _ h => h) ?_ hHeld ?_; (· rfl)) | (refine rg_yes (i := 16) (v := ?_) (atS (atS (atS (atS (atS (atS (atS (atS (atS (atS (atS (atS (atS (atS (atS (atS at0)))))))))))))))) (by kernel_rfl) (by kernel_rfl) (by kernel_rfl) (fun _ _ _ h => h) ?_ ?_ hHeld ?_; rotate_left 1; (· rfl); (· intro w' hSw; (try dsimp only at hSw); (try clear hHeld); go_simp; try with_reducible rfl))
                    try simp only [Act.put, List.setIfInBounds_toArray, List.set_cons_zero, List.set_cons_succ]
                    refine rg_yes (i := 17) (v := ?_) (atS (atS (atS (atS (atS (atS (atS (atS (atS (atS (atS (atS (atS (atS (atS (atS (atS at0))))))))))))))))) (by kernel_rfl) (by kernel_rfl) (by kernel_rfl) (fun _ _ _ h => h) ?_ ?_ hHeld ?_; rotate_left 1; (· rfl); (· intro w' hSw; (try dsimp only at hSw); (try clear hHeld); go_simp; try with_reducible rfl)
                    try simp only [Act.put, List.setIfInBounds_toArray, List.set_cons_zero, List.set_cons_succ]
                    refine wpAnyH_done (by kernel_rfl) ?_ _
                    go_wp2_with fail
                    go_meet
                    exact ⟨rfl, Lib.hid hHeld⟩
                case rest =>
                  obtain ⟨rfl, HB⟩ := hcut
                  have B10 := Lib.hid (below_on B9.out HB.out)
                  have Y0 := Lib.hid (cell_below Y0.out HB.out)
                  have Y1 := Lib.hid (cell_below Y1.out HB.out)
                  obtain ⟨we, hwe⟩ : ∃ we : World, we = wc := ⟨_, rfl⟩
                  rw [← hwe] at B10 Y0 Y1 ⊢
                  clear hwe HB y0 y1 da
                  go_wp2_with fail
                  go_loopw [127] (fun i9 wr => ∃ m : Nat, m ≤ bys.length ∧ i9 = .int .i64 m ∧ Hid (Below we.heap.size we wr)) (fun i9 _ => bys.length - (intOf i9).toNat)
                  case atStart => exact ⟨0, by omega, rfl, Lib.hid (Below.refl _ _)⟩
                  case round =>
                    obtain ⟨m, hm, rfl, BR⟩ := hrel
                    by_cases hlt4 : m < bys.length
                    · obtain ⟨s, hs⟩ : ∃ s, bys[m]? = some s := ⟨_, List.getElem?_eq_getElem hlt4⟩
                      obtain ⟨sb1, sc1, hvs, hcs⟩ := RS.out.at_ (by omega)
                      injection hvs with hvs1 _ hvs2
                      subst hvs1; subst hvs2
                      obtain ⟨s3, c3, z3, p3⟩ := hcs m s hs
                      have BQ := Lib.hid (below_on BL.out (below_on B10.out BR.out))
                      have z3 := cell_below z3 BQ.out
                      have P3 := Lib.hid (p3.below BQ.out)
                      have SD := SAM.out s (List.mem_of_getElem? hs)
                      have SRS := Lib.hid (SS.out s (List.mem_of_getElem? hs))
                      have m0' : (0 : Int) ≤ (m : Int) := by omega
                      have m1' : (m : Int) < (bys.length : Int) := by omega
                      clear hcs p3 hs BQ
                      go_upto_region 32 with (fail)
                      obtain ⟨W11, hW, q0, hb11, -⟩ := boxC wr #[.slice s3 s.length c3] 26
                      rw [← hW]
                      have d0 : W11.cell? ⟨wr.heap.size, 0, none⟩ = some (.slice s3 s.length c3) := row_cell q0 0
                      have P3 := Lib.hid (P3.out.below hb11)
                      have B11 := Lib.hid (below_on BR.out hb11)
                      clear hW q0 hb11 z3 BR
                      obtain ⟨bz, hbz⟩ : ∃ bz, wr.heap.size = bz := ⟨_, rfl⟩
                      rw [hbz] at d0 ⊢
                      clear hbz
                      have y0 := cell_below Y0.out B11.out
                      have y1 := cell_below Y1.out B11.out
                      have l0 := cell_below L0.out (below_on B10.out B11.out)
                      have l1 := cell_below L1.out (below_on B10.out B11.out)
                      have H1 := Lib.hid (fun W (hW : Below W11.heap.size W11 W) => ps_Has _ s p W (P3.out.below hW) SRS.out)
                      have H2 := Lib.hid (fun W (hW : Below W11.heap.size W11 W) => ps_Has _ s r W (P3.out.below hW) SRS.out)
                      rw [SD] at H1
                      generalize decide (r ∈ s) = d1 at H1 H2
                      have f1 : (d1 != d1) = false := by cases d1 <;> rfl
                      clear SD
                      refine wp_region_held_drew (S := fun w' => Below W11.heap.size W11 w') (by kernel_rfl) ?_ (fun hHeld => ?_)
                      · exact (Below.refl _ _).drew
                      refine rg_yes (i := 0) (v := ?_) at0 (by kernel_rfl) (by kernel_rfl) (by kernel_rfl) (fun _ _ _ h => h) ?_ ?_ hHeld ?_; rotate_left 1; (· rfl); (· intro w' hSw; (try dsimp only at hSw); have d0 := cell_below d0 hSw; have y0 := cell_below y0 hSw; have y1 := cell_below y1 hSw; have l0 := cell_below l0 hSw; have l1 := cell_below l1 hSw; (try clear hHeld); go_simp; try with_reducible rfl)
                      try simp only [Act.put, List.setIfInBounds_toArray, List.set_cons_zero, List.set_cons_succ]
                      refine rg_yes (i := 1) (v := ?_) (atS at0) (by kernel_rfl) (by kernel_rfl) (by kernel_rfl) (fun _ _ _ h => h) ?_ ?_ hHeld ?_; rotate_left 1; (· rfl); (· intro w' hSw; (try dsimp only at hSw); have d0 := cell_below d0 hSw; have y0 := cell_below y0 hSw; have y1 := cell_below y1 hSw; have l0 := cell_below l0 hSw; have l1 := cell_below l1 hSw; (try clear hHeld); go_simp; try with_reducible rfl)
                      try simp only [Act.put, List.setIfInBounds_toArray, List.set_cons_zero, List.set_cons_succ]
                      refine rg_yes (i := 3) (v := ?_) (atS (atS (atS at0))) (by kernel_rfl) (by kernel_rfl) (by kernel_rfl) (fun _ _ _ h => h) ?_ ?_ hHeld ?_; rotate_left 1; (· rfl); (· intro w' hSw; (try dsimp only at hSw); have d0 := cell_below d0 hSw; have y0 := cell_below y0 hSw; have y1 := cell_below y1 hSw; have l0 := cell_below l0 hSw; have l1 := cell_below l1 hSw; (try clear hHeld); go_simp; try with_reducible rfl)
                      try simp only [Act.put, List.setIfInBounds_toArray, List.set_cons_zero, List.set_cons_succ]
                      refine rg_yes (i := 4) (v := ?_) (atS (atS (atS (atS at0)))) (by kernel_rfl) (by kernel_rfl) (by kernel_rfl) (fun _ _ _ h => h) ?_ ?_ hHeld ?_; rotate_left 1; (· rfl); (· intro w' hSw; (try dsimp only at hSw); (try clear hHeld); go_simp; try with_reducible rfl)
                      try simp only [Act.put, List.setIfInBounds_toArray, List.set_cons_zero, List.set_cons_succ]
                      refine rg_yes (i := 5) (v := ?_) (atS (atS (atS (atS (atS at0))))) (by kernel_rfl) (by kernel_rfl) (by kernel_rfl) (fun _ _ _ h => h) ?_ ?_ hHeld ?_; rotate_left 1; (· rfl); (· intro w' hSw; (try dsimp only at hSw); have d0 := cell_below d0 hSw; have y0 := cell_below y0 hSw; have y1 := cell_below y1 hSw; have l0 := cell_below l0 hSw; have l1 := cell_below l1 hSw; (try clear hHeld); go_simp; try with_reducible rfl)
                      try simp only [Act.put, List.setIfInBounds_toArray, List.set_cons_zero, List.set_cons_succ]
                      refine rg_yes (i := 6) (v := ?_) (atS (atS (atS (atS (atS (atS at0)))))) (by kernel_rfl) (by kernel_rfl) (by kernel_rfl) (fun _ _ _ h => h) ?_ ?_ hHeld ?_; rotate_left 1; (· rfl); (· intro w' hSw; (try dsimp only at hSw); have d0 := cell_below d0 hSw; have y0 := cell_below y0 hSw; have y1 := cell_below y1 hSw; have l0 := cell_below l0 hSw; have l1 := cell_below l1 hSw; (try clear hHeld); go_simp; try with_reducible rfl)
                      try simp only [Act.put, List.setIfInBounds_toArray, List.set_cons_zero, List.set_cons_succ]
                      refine rg_call (i := 2) (atS (atS at0)) (by kernel_rfl) ?_ (fun K hK => ?_); (· rfl); (try clear hb); go_simp; (refine (H1.out _ hHeld).mono ?_; rintro e w1 ⟨rfl, hb⟩); go_wp2_with fail; refine hK.out _ _ ?_ (fun hHeld => ?_); (· exact hHeld.trans (hb.mono hHeld.size)); clear hK K
                      try simp only [Act.put, List.setIfInBounds_toArray, List.set_cons_zero, List.set_cons_succ]
                      refine rg_call (i := 7) (atS (atS (atS (atS (atS (atS (atS at0))))))) (by kernel_rfl) ?_ (fun K hK => ?_); (· rfl); (try clear hb); go_simp; (refine (H2.out _ hHeld).mono ?_; rintro e w1 ⟨rfl, hb⟩); go_wp2_with fail; refine hK.out _ _ ?_ (fun hHeld => ?_); (· exact hHeld.trans (hb.mono hHeld.size)); clear hK K
                      try simp only [Act.put, List.setIfInBounds_toArray, List.set_cons_zero, List.set_cons_succ]
                      refine rg_yes (i := 8) (v := ?_) (atS (atS (atS (atS (atS (atS (atS (atS at0)))))))) (by kernel_rfl) (by kernel_rfl) (by kernel_rfl) (fun _ _ _ h => h) ?_ ?_ hHeld ?_; rotate_left 1; (· rfl); (· intro w' hSw; (try dsimp only at hSw); (try clear hHeld); go_simp; try with_reducible rfl)
                      try simp only [Act.put, List.setIfInBounds_toArray, List.set_cons_zero, List.set_cons_succ]
                      refine wpAnyH_done (by kernel_rfl) ?_ _
                      have B12 := Lib.hid (below_on B11.out hHeld)
                      clear hHeld d0 y0 y1 l0 l1 f1
                      go_wp2_with fail
                      exact ⟨⟨m + 1, by omega, by go_num, B12⟩, by simp [intOf]; omega⟩
                    · obtain rfl : m = bys.length := by omega
                      have B12 := Lib.hid (below_on B10.out BR.out)
                      go_wp2_with fail
                      exact ⟨⟨k + 1, by omega, by go_num, B12⟩, by simp [intOf]; omega⟩
              · obtain rfl : k = x.length := by omega
                have BL := Lib.hid (below_on BL.out BR.out)
                have L0 := Lib.hid (cell_below L0.out BR.out)
                have L1 := Lib.hid (cell_below L1.out BR.out)
                obtain ⟨wf, hwf⟩ : ∃ wf : World, wf = wr := ⟨_, rfl⟩
                rw [← hwf] at BL L0 L1 ⊢
                clear hwf
                have sl1 : (i : Int) ≤ (G.length : Int) := by omega
                have sl2 : (i : Int) ≤ (cg : Int) := by omega
                go_wp2_with fail
                go_loopw [146] (fun i9 wr => ∃ m : Nat, m ≤ i ∧ i9 = .int .i64 m ∧ Hid (Below wf.heap.size wf wr)) (fun i9 _ => i - (intOf i9).toNat)
                case atStart => exact ⟨0, by omega, rfl, Lib.hid (Below.refl _ _)⟩
                case round =>
                  obtain ⟨m, hm, rfl, BR⟩ := hrel
                  by_cases hlt5 : m < i
                  · obtain ⟨y, hy⟩ : ∃ y, G[m]? = some y := ⟨_, List.getElem?_eq_getElem (by omega)⟩
                    obtain ⟨s2, c2, z2, py⟩ := HC.out m y hy
                    obtain ⟨t, hgt⟩ := GI.out m y hy
                    have Y0 := Lib.hid hgt.first
                    have yl : 0 < y.length := (List.getElem?_eq_some_iff.1 hgt.first).1
                    have LY := GX.out m y hy
                    have SF : Hid (unB bys t r bys.length = true) := Lib.hid (by rw [unB_all, (GT.out m i y x t r hy HX.out hgt.first GR.out.first hlt5).2]; rfl)
                    have BQ := Lib.hid (below_on BL.out BR.out)
                    have z2 := cell_below z2 BQ.out
                    have PY := Lib.hid (py.below BQ.out)
                    have m0' : (0 : Int) ≤ (m : Int) := by omega
                    have m1' : (m : Int) < (i : Int) := by omega
                    clear py hgt hy
                    go_upto_region 39 with (fail)
                    obtain ⟨W12, hW, q0, hb12, -⟩ := boxC wr #[.slice s2 y.length c2] 26
                    rw [← hW]
                    have d0 : W12.cell? ⟨wr.heap.size, 0, none⟩ = some (.slice s2 y.length c2) := row_cell q0 0
                    have PY := Lib.hid (PY.out.below hb12)
                    have B12 := Lib.hid (below_on BR.out hb12)
                    clear hW q0 hb12 z2
                    obtain ⟨bh, hbh⟩ : ∃ bh, wr.heap.size = bh := ⟨_, rfl⟩
                    rw [hbh] at d0 ⊢
                    clear hbh
                    have LC := Lib.hid (ps_List _ y W12 PY.out (by omega))
                    go_wp2_with fail
                    refine LC.out.mono ?_
                    rintro e w13 ⟨vq, rfl, pq, hb13⟩
                    have B13 := Lib.hid (below_on B12.out hb13)
                    clear hb13 LC d0
                    obtain ⟨sq, cq, rfl, -, -, hpq⟩ := pq
                    obtain ⟨qb, qo, rfl, hpq2⟩ := hpq (by omega)
                    obtain ⟨u0, u1⟩ := ps_two hpq2 Y0.out
                    simp only [Nat.zero_mul, Nat.add_zero] at u0 u1
                    clear hpq hpq2
                    have yz : (0 : Int) < (y.length : Int) := by omega
                    go_upto_region 40 with (fail)
                    obtain ⟨W14, hW, y0, y1, hb14⟩ := box2 w13 (.int .u32 t.1) (.int .i64 t.2) 35
                    rw [← hW]
                    have B14 := Lib.hid (below_on B13.out hb14)
                    have T0 := Lib.hid y0
                    have T1 := Lib.hid y1
                    clear hW hb14 u0 u1 y0 y1
                    obtain ⟨bt, hbt⟩ : ∃ bt, w13.heap.size = bt := ⟨_, rfl⟩
                    rw [hbt] at T0 T1 ⊢
                    clear hbt
                    go_wp2_with fail
                    go_loopw [156, 24] (fun i9 v24 wr => ∃ n : Nat, n ≤ bys.length ∧ i9 = .int .i64 n ∧ v24 = .bool (unB bys t r n) ∧ Hid (Below W14.heap.size W14 wr)) (fun i9 _ _ => bys.length - (intOf i9).toNat)
                    case atStart => exact ⟨0, by omega, rfl, rfl, Lib.hid (Below.refl _ _)⟩
                    case round =>
                      obtain ⟨n, hn, rfl, rfl, BR⟩ := hrel
                      by_cases hlt6 : n < bys.length
                      · obtain ⟨s, hs⟩ : ∃ s, bys[n]? = some s := ⟨_, List.getElem?_eq_getElem hlt6⟩
                        obtain ⟨sb1, sc1, hvs, hcs⟩ := RS.out.at_ (by omega)
                        injection hvs with hvs1 _ hvs2
                        subst hvs1; subst hvs2
                        obtain ⟨s3, c3, z3, p3⟩ := hcs n s hs
                        have BF := Lib.hid (below_on B14.out BR.out)
                        have BQ := Lib.hid (below_on BL.out BF.out)
                        have z3 := cell_below z3 BQ.out
                        have P3 := Lib.hid (p3.below BQ.out)
                        have SRS := Lib.hid (SS.out s (List.mem_of_getElem? hs))
                        have US := Lib.hid (unB_step hs t r)
                        have m0' : (0 : Int) ≤ (n : Int) := by omega
                        have m1' : (n : Int) < (bys.length : Int) := by omega
                        clear hcs p3 hs BQ
                        generalize unB bys t r n = un at US
                        go_upto_region 44 with (fail)
                        obtain ⟨W15, hW, q0, hb15, -⟩ := boxC wr #[.slice s3 s.length c3] 26
                        rw [← hW]
                        have d0 : W15.cell? ⟨wr.heap.size, 0, none⟩ = some (.slice s3 s.length c3) := row_cell q0 0
                        have P3 := Lib.hid (P3.out.below hb15)
                        have B15 := Lib.hid (below_on BR.out hb15)
                        clear hW q0 hb15 z3
                        obtain ⟨bz, hbz⟩ : ∃ bz, wr.heap.size = bz := ⟨_, rfl⟩
                        rw [hbz] at d0 ⊢
                        clear hbz
                        have t0 := cell_below T0.out B15.out
                        have t1 := cell_below T1.out B15.out
                        have l0 := cell_below L0.out (below_on B14.out B15.out)
                        have l1 := cell_below L1.out (below_on B14.out B15.out)
                        have H1 := Lib.hid (fun W (hW : Below W15.heap.size W15 W) => ps_Has _ s t W (P3.out.below hW) SRS.out)
                        have H2 := Lib.hid (fun W (hW : Below W15.heap.size W15 W) => ps_Has _ s r W (P3.out.below hW) SRS.out)
                        generalize decide (r ∈ s) = d1 at H2 US
                        generalize decide (t ∈ s) = d2 at H1 US
                        cases un
                        · have US2 : Hid (unB bys t r (n + 1) = (d2 != d1)) := Lib.hid (by rw [US.out]; rfl)
                          clear US
                          refine wp_region_held_drew (S := fun w' => Below W15.heap.size W15 w') (by kernel_rfl) ?_ (fun hHeld => ?_)
                          · exact (Below.refl _ _).drew
                          refine rg_yes (i := 0) (v := ?_) at0 (by kernel_rfl) (by kernel_rfl) (by kernel_rfl) (fun _ _ _ h => h) ?_ ?_ hHeld ?_; rotate_left 1; (· rfl); (· intro w' hSw; (try dsimp only at hSw); (try clear hHeld); go_simp; try with_reducible rfl)
                          try simp only [Act.put, List.setIfInBounds_toArray, List.set_cons_zero, List.set_cons_succ]
                          refine rg_yes (i := 1) (v := ?_) (atS at0) (by kernel_rfl) (by kernel_rfl) (by kernel_rfl) (fun _ _ _ h => h) ?_ ?_ hHeld ?_; rotate_left 1; (· rfl); (· intro w' hSw; (try dsimp only at hSw); (try clear hHeld); go_simp; try with_reducible rfl)
                          try simp only [Act.put, List.setIfInBounds_toArray, List.set_cons_zero, List.set_cons_succ]
                          first | (refine rg_no (i := 2) (atS (atS at0)) (by kernel_rfl) (by kernel_rfl) (by kernel_rfl) (fun _ _ _ h => h) ?_ hHeld ?_; (· rfl)) | (refine rg_yes (i := 2) (v := ?_) (atS (atS at0)) (by kernel_rfl) (by kernel_rfl) (by kernel_rfl) (fun _ _ _ h => h) ?_ ?_ hHeld ?_; rotate_left 1; (· rfl); (· intro w' hSw; (try dsimp only at hSw); have d0 := cell_below d0 hSw; have t0 := cell_below t0 hSw; have t1 := cell_below t1 hSw; have l0 := cell_below l0 hSw; have l1 := cell_below l1 hSw; (try clear hHeld); go_simp; try with_reducible rfl))
                          try simp only [Act.put, List.setIfInBounds_toArray, List.set_cons_zero, List.set_cons_succ]
                          first | (refine rg_no (i := 3) (atS (atS (atS at0))) (by kernel_rfl) (by kernel_rfl) (by kernel_rfl) (fun _ _ _ h => h) ?_ hHeld ?_; (· rfl)) | (refine rg_yes (i := 3) (v := ?_) (atS (atS (atS at0))) (by kernel_rfl) (by kernel_rfl) (by kernel_rfl) (fun _ _ _ h => h) ?_ ?_ hHeld ?_; rotate_left 1; (· rfl); (· intro w' hSw; (try dsimp only at hSw); have d0 := cell_below d0 hSw; have t0 := cell_below t0 hSw; have t1 := cell_below t1 hSw; have l0 := cell_below l0 hSw; have l1 := cell_below l1 hSw; (try clear hHeld); go_simp; try with_reducible rfl))
                          try simp only [Act.put, List.setIfInBounds_toArray, List.set_cons_zero, List.set_cons_succ]
                          first | (refine rg_no (i := 5) (atS (atS (atS (atS (atS at0))))) (by kernel_rfl) (by kernel_rfl) (by kernel_rfl) (fun _ _ _ h => h) ?_ hHeld ?_; (· rfl)) | (refine rg_yes (i := 5) (v := ?_) (atS (atS (atS (atS (atS at0))))) (by kernel_rfl) (by kernel_rfl) (by kernel_rfl) (fun _ _ _ h => h) ?_ ?_ hHeld ?_; rotate_left 1; (· rfl); (· intro w' hSw; (try dsimp only at hSw); have d0 := cell_below d0 hSw; have t0 := cell_below t0 hSw; have t1 := cell_below t1 hSw; have l0 := cell_below l0 hSw; have l1 := cell_below l1 hSw; (try clear hHeld); go_simp; try with_reducible rfl))
                          try simp only [Act.put, List.setIfInBounds_toArray, List.set_cons_zero, List.set_cons_succ]
                          first | (refine rg_no (i := 6) (atS (atS (atS (atS (atS (atS at0)))))) (by kernel_rfl) (by kernel_rfl) (by kernel_rfl) (fun _ _ _ h => h) ?_ hHeld ?_; (· rfl)) | (refine rg_yes (i := 6) (v := ?_) (atS (atS (atS (atS (atS (atS at0)))))) (by kernel_rfl) (by kernel_rfl) (by kernel_rfl) (fun _ _ _ h => h) ?_ ?_ hHeld ?_; rotate_left 1; (· rfl); (· intro w' hSw; (try dsimp only at hSw); (try clear hHeld); go_simp; try with_reducible rfl))
                          try simp only [Act.put, List.setIfInBounds_toArray, List.set_cons_zero, List.set_cons_succ]
                          first | (refine rg_no (i := 7) (atS (atS (atS (atS (atS (atS (atS at0))))))) (by kernel_rfl) (by kernel_rfl) (by kernel_rfl) (fun _ _ _ h => h) ?_ hHeld ?_; (· rfl)) | (refine rg_yes (i := 7) (v := ?_) (atS (atS (atS (atS (atS (atS (atS at0))))))) (by kernel_rfl) (by kernel_rfl) (by kernel_rfl) (fun _ _ _ h => h) ?_ ?_ hHeld ?_; rotate_left 1; (· rfl); (· intro w' hSw; (try dsimp only at hSw); have d0 := cell_below d0 hSw; have t0 := cell_below t0 hSw; have t1 := cell_below t1 hSw; have l0 := cell_below l0 hSw; have l1 := cell_below l1 hSw; (try clear hHeld); go_simp; try with_reducible rfl))
                          try simp only [Act.put, List.setIfInBounds_toArray, List.set_cons_zero, List.set_cons_succ]
                          first | (refine rg_no (i := 8) (atS (atS (atS (atS (atS (atS (atS (atS at0)))))))) (by kernel_rfl) (by kernel_rfl) (by kernel_rfl) (fun _ _ _ h => h) ?_ hHeld ?_; (· rfl)) | (refine rg_yes (i := 8) (v := ?_) (atS (atS (atS (atS (atS (atS (atS (atS at0)))))))) (by kernel_rfl) (by kernel_rfl) (by kernel_rfl) (fun _ _ _ h => h) ?_ ?_ hHeld ?_; rotate_left 1; (· rfl); (· intro w' hSw; (try dsimp only at hSw); have d0 := cell_below d0 hSw; have t0 := cell_below t0 hSw; have t1 := cell_below t1 hSw; have l0 := cell_below l0 hSw; have l1 := cell_below l1 hSw; (try clear hHeld); go_simp; try with_reducible rfl))
                          try simp only [Act.put, List.setIfInBounds_toArray, List.set_cons_zero, List.set_cons_succ]
                          first | (refine rg_no (i := 4) (atS (atS (atS (atS at0)))) (by kernel_rfl) (by kernel_rfl) (by kernel_rfl) (fun _ _ _ h => h) ?_ hHeld ?_; (· rfl)) | (refine rg_call (i := 4) (atS (atS (atS (atS at0)))) (by kernel_rfl) ?_ (fun K hK => ?_); (· rfl); (try clear hb); go_simp; (refine (H1.out _ hHeld).mono ?_; rintro e w1 ⟨rfl, hb⟩); go_wp2_with fail; refine hK.out _ _ ?_ (fun hHeld => ?_); (· exact hHeld.trans (hb.mono hHeld.size)); clear hK K)
                          try simp only [Act.put, List.setIfInBounds_toArray, List.set_cons_zero, List.set_cons_succ]
                          first | (refine rg_no (i := 9) (atS (atS (atS (atS (atS (atS (atS (atS (atS at0))))))))) (by kernel_rfl) (by kernel_rfl) (by kernel_rfl) (fun _ _ _ h => h) ?_ hHeld ?_; (· rfl)) | (refine rg_call (i := 9) (atS (atS (atS (atS (atS (atS (atS (atS (atS at0))))))))) (by kernel_rfl) ?_ (fun K hK => ?_); (· rfl); (try clear hb); go_simp; (refine (H2.out _ hHeld).mono ?_; rintro e w1 ⟨rfl, hb⟩); go_wp2_with fail; refine hK.out _ _ ?_ (fun hHeld => ?_); (· exact hHeld.trans (hb.mono hHeld.size)); clear hK K)
                          try simp only [Act.put, List.setIfInBounds_toArray, List.set_cons_zero, List.set_cons_succ]
                          first | (refine rg_no (i := 10) (atS (atS (atS (atS (atS (atS (atS (atS (atS (atS at0)))))))))) (by kernel_rfl) (by kernel_rfl) (by kernel_rfl) (fun _ _ _ h => h) ?_ hHeld ?_; (· rfl)) | (refine rg_yes (i := 10) (v := ?_) (atS (atS (atS (atS (atS (atS (atS (atS (atS (atS at0)))))))))) (by kernel_rfl) (by kernel_rfl) (by kernel_rfl) (fun _ _ _ h => h) ?_ ?_ hHeld ?_; rotate_left 1; (· rfl); (· intro w' hSw; (try dsimp only at hSw); (try clear hHeld); go_simp; try with_reducible rfl))
                          try simp only [Act.put, List.setIfInBounds_toArray, List.set_cons_zero, List.set_cons_succ]
                          refine rg_yes (i := 11) (v := ?_) (atS (atS (atS (atS (atS (atS (atS (atS (atS (atS (atS at0))))))))))) (by kernel_rfl) (by kernel_rfl) (by kernel_rfl) (fun _ _ _ h => h) ?_ ?_ hHeld ?_; rotate_left 1; (· rfl); (· intro w' hSw; (try dsimp only at hSw); (try clear hHeld); go_simp; try with_reducible rfl)
                          try simp only [Act.put, List.setIfInBounds_toArray, List.set_cons_zero, List.set_cons_succ]
                          refine rg_yes (i := 12) (v := ?_) (atS (atS (atS (atS (atS (atS (atS (atS (atS (atS (atS (atS at0)))))))))))) (by kernel_rfl) (by kernel_rfl) (by kernel_rfl) (fun _ _ _ h => h) ?_ ?_ hHeld ?_; rotate_left 1; (· rfl); (· intro w' hSw; (try dsimp only at hSw); (try clear hHeld); go_simp; try with_reducible rfl)
                          try simp only [Act.put, List.setIfInBounds_toArray, List.set_cons_zero, List.set_cons_succ]
                          refine wpAnyH_done (by kernel_rfl) ?_ _
                          have B16 := Lib.hid (below_on B15.out hHeld)
                          clear hHeld d0 t0 t1 l0 l1
                          go_wp2_with fail
                          exact ⟨⟨n + 1, by omega, by go_num, by rw [US2.out]; cases d2 <;> cases d1 <;> rfl, B16⟩, by simp [intOf]; omega⟩
                        · have US2 : Hid (unB bys t r (n + 1) = true) := Lib.hid (by rw [US.out]; rfl)
                          clear US
                          refine wp_region_held_drew (S := fun w' => Below W15.heap.size W15 w') (by kernel_rfl) ?_ (fun hHeld => ?_)
                          · exact (Below.refl _ _).drew
                          refine rg_yes (i := 0) (v := ?_) at0 (by kernel_rfl) (by kernel_rfl) (by kernel_rfl) (fun _ _ _ h => h) ?_ ?_ hHeld ?_; rotate_left 1; (· rfl); (· intro w' hSw; (try dsimp only at hSw); (try clear hHeld); go_simp; try with_reducible rfl)
                          try simp only [Act.put, List.setIfInBounds_toArray, List.set_cons_zero, List.set_cons_succ]
                          refine rg_yes (i := 1) (v := ?_) (atS at0) (by kernel_rfl) (by kernel_rfl) (by kernel_rfl) (fun _ _ _ h => h) ?_ ?_ hHeld ?_; rotate_left 1; (· rfl); (· intro w' hSw; (try dsimp only at hSw); (try clear hHeld); go_simp; try with_reducible rfl)
                          try simp only [Act.put, List.setIfInBounds_toArray, List.set_cons_zero, List.set_cons_succ]
                          first | (refine rg_no (i := 2) (atS (atS at0)) (by kernel_rfl) (by kernel_rfl) (by kernel_rfl) (fun _ _ _ h => h) ?_ hHeld ?_; (· rfl)) | (refine rg_yes (i := 2) (v := ?_) (atS (atS at0)) (by kernel_rfl) (by kernel_rfl) (by kernel_rfl) (fun _ _ _ h => h) ?_ ?_ hHeld ?_; rotate_left 1; (· rfl); (· intro w' hSw; (try dsimp only at hSw); have d0 := cell_below d0 hSw; have t0 := cell_below t0 hSw; have t1 := cell_below t1 hSw; have l0 := cell_below l0 hSw; have l1 := cell_below l1 hSw; (try clear hHeld); go_simp; try with_reducible rfl))
                          try simp only [Act.put, List.setIfInBounds_toArray, List.set_cons_zero, List.set_cons_succ]
                          first | (refine rg_no (i := 3) (atS (atS (atS at0))) (by kernel_rfl) (by kernel_rfl) (by kernel_rfl) (fun _ _ _ h => h) ?_ hHeld ?_; (· rfl)) | (refine rg_yes (i := 3) (v := ?_) (atS (atS (atS at0))) (by kernel_rfl) (by kernel_rfl) (by kernel_rfl) (fun _ _ _ h => h) ?_ ?_ hHeld ?_; rotate_left 1; (· rfl); (· intro w' hSw; (try dsimp only at hSw); have d0 := cell_below d0 hSw; have t0 := cell_below t0 hSw; have t1 := cell_below t1 hSw; have l0 := cell_below l0 hSw; have l1 := cell_below l1 hSw; (try clear hHeld); go_simp; try with_reducible rfl))
                          try simp only [Act.put, List.setIfInBounds_toArray, List.set_cons_zero, List.set_cons_succ]
                          first | (refine rg_no (i := 5) (atS (atS (atS (atS (atS at0))))) (by kernel_rfl) (by kernel_rfl) (by kernel_rfl) (fun _ _ _ h => h) ?_ hHeld ?_; (· rfl)) | (refine rg_yes (i := 5) (v := ?_) (atS (atS (atS (atS (atS at0))))) (by kernel_rfl) (by kernel_rfl) (by kernel_rfl) (fun _ _ _ h => h) ?_ ?_ hHeld ?_; rotate_left 1; (· rfl); (· intro w' hSw; (try dsimp only at hSw); have d0 := cell_below d0 hSw; have t0 := cell_below t0 hSw; have t1 := cell_below t1 hSw; have l0 := cell_below l0 hSw; have l1 := cell_below l1 hSw; (try clear hHeld); go_simp; try with_reducible rfl))
                          try simp only [Act.put, List.setIfInBounds_toArray, List.set_cons_zero, List.set_cons_succ]
                          first | (refine rg_no (i := 6) (atS (atS (atS (atS (atS (atS at0)))))) (by kernel_rfl) (by kernel_rfl) (by kernel_rfl) (fun _ _ _ h => h) ?_ hHeld ?_; (· rfl)) | (refine rg_yes (i := 6) (v := ?_) (atS (atS (atS (atS (atS (atS at0)))))) (by kernel_rfl) (by kernel_rfl) (by kernel_rfl) (fun _ _ _ h => h) ?_ ?_ hHeld ?_; rotate_left 1; (· rfl); (· intro w' hSw; (try dsimp only at hSw); (try clear hHeld); go_simp; try with_reducible rfl))
                          try simp only [Act.put, List.setIfInBounds_toArray, List.set_cons_zero, List.set_cons_succ]
                          first | (refine rg_no (i := 7) (atS (atS (atS (atS (atS (atS (atS at0))))))) (by kernel_rfl) (by kernel_rfl) (by kernel_rfl) (fun _ _ _ h => h) ?_ hHeld ?_; (· rfl)) | (refine rg_yes (i := 7) (v := ?_) (atS (atS (atS (atS (atS (atS (atS at0))))))) (by kernel_rfl) (by kernel_rfl) (by kernel_rfl) (fun _ _ _ h => h) ?_ ?_ hHeld ?_; rotate_left 1; (· rfl); (· intro w' hSw; (try dsimp only at hSw); have d0 := cell_below d0 hSw; have t0 := cell_below t0 hSw; have t1 := cell_below t1 hSw; have l0 := cell_below l0 hSw; have l1 := cell_below l1 hSw; (try clear hHeld); go_simp; try with_reducible rfl))
                          try simp only [Act.put, List.setIfInBounds_toArray, List.set_cons_zero, List.set_cons_succ]
                          first | (refine rg_no (i := 8) (atS (atS (atS (atS (atS (atS (atS (atS at0)))))))) (by kernel_rfl) (by kernel_rfl) (by kernel_rfl) (fun _ _ _ h => h) ?_ hHeld ?_; (· rfl)) | (refine rg_yes (i := 8) (v := ?_) (atS (atS (atS (atS (atS (atS (atS (atS at0)))))))) (by kernel_rfl) (by kernel_rfl) (by kernel_rfl) (fun _ _ _ h => h) ?_ ?_ hHeld ?_; rotate_left 1; (· rfl); (· intro w' hSw; (try dsimp only at hSw); have d0 := cell_below d0 hSw; have t0 := cell_below t0 hSw; have t1 := cell_below t1 hSw; have l0 := cell_below l0 hSw; have l1 := cell_below l1 hSw; (try clear hHeld); go_simp; try with_reducible rfl))
                          try simp only [Act.put, List.setIfInBounds_toArray, List.set_cons_zero, List.set_cons_succ]
                          first | (refine rg_no (i := 4) (atS (atS (atS (atS at0)))) (by kernel_rfl) (by kernel_rfl) (by kernel_rfl) (fun _ _ _ h => h) ?_ hHeld ?_; (· rfl)) | (refine rg_call (i := 4) (atS (atS (atS (atS at0)))) (by kernel_rfl) ?_ (fun K hK => ?_); (· rfl); (try clear hb); go_simp; (refine (H1.out _ hHeld).mono ?_; rintro e w1 ⟨rfl, hb⟩); go_wp2_with fail; refine hK.out _ _ ?_ (fun hHeld => ?_); (· exact hHeld.trans (hb.mono hHeld.size)); clear hK K)
                          try simp only [Act.put, List.setIfInBounds_toArray, List.set_cons_zero, List.set_cons_succ]
                          first | (refine rg_no (i := 9) (atS (atS (atS (atS (atS (atS (atS (atS (atS at0))))))))) (by kernel_rfl) (by kernel_rfl) (by kernel_rfl) (fun _ _ _ h => h) ?_ hHeld ?_; (· rfl)) | (refine rg_call (i := 9) (atS (atS (atS (atS (atS (atS (atS (atS (atS at0))))))))) (by kernel_rfl) ?_ (fun K hK => ?_); (· rfl); (try clear hb); go_simp; (refine (H2.out _ hHeld).mono ?_; rintro e w1 ⟨rfl, hb⟩); go_wp2_with fail; refine hK.out _ _ ?_ (fun hHeld => ?_); (· exact hHeld.trans (hb.mono hHeld.size)); clear hK K)
                          try simp only [Act.put, List.setIfInBounds_toArray, List.set_cons_zero, List.set_cons_succ]
                          first | (refine rg_no (i := 10) (atS (atS (atS (atS (atS (atS (atS (atS (atS (atS at0)))))))))) (by kernel_rfl) (by kernel_rfl) (by kernel_rfl) (fun _ _ _ h => h) ?_ hHeld ?_; (· rfl)) | (refine rg_yes (i := 10) (v := ?_) (atS (atS (atS (atS (atS (atS (atS (atS (atS (atS at0)))))))))) (by kernel_rfl) (by kernel_rfl) (by kernel_rfl) (fun _ _ _ h => h) ?_ ?_ hHeld ?_; rotate_left 1; (· rfl); (· intro w' hSw; (try dsimp only at hSw); (try clear hHeld); go_simp; try with_reducible rfl))
                          try simp only [Act.put, List.setIfInBounds_toArray, List.set_cons_zero, List.set_cons_succ]
                          refine rg_yes (i := 11) (v := ?_) (atS (atS (atS (atS (atS (atS (atS (atS (atS (atS (atS at0))))))))))) (by kernel_rfl) (by kernel_rfl) (by kernel_rfl) (fun _ _ _ h => h) ?_ ?_ hHeld ?_; rotate_left 1; (· rfl); (· intro w' hSw; (try dsimp only at hSw); (try clear hHeld); go_simp; try with_reducible rfl)
                          try simp only [Act.put, List.setIfInBounds_toArray, List.set_cons_zero, List.set_cons_succ]
                          refine rg_yes (i := 12) (v := ?_) (atS (atS (atS (atS (atS (atS (atS (atS (atS (atS (atS (atS at0)))))))))))) (by kernel_rfl) (by kernel_rfl) (by kernel_rfl) (fun _ _ _ h => h) ?_ ?_ hHeld ?_; rotate_left 1; (· rfl); (· intro w' hSw; (try dsimp only at hSw); (try clear hHeld); go_simp; try with_reducible rfl)
                          try simp only [Act.put, List.setIfInBounds_toArray, List.set_cons_zero, List.set_cons_succ]
                          refine wpAnyH_done (by kernel_rfl) ?_ _
                          have B16 := Lib.hid (below_on B15.out hHeld)
                          clear hHeld d0 t0 t1 l0 l1
                          go_wp2_with fail
                          exact ⟨⟨n + 1, by omega, by go_num, by rw [US2.out], B16⟩, by simp [intOf]; omega⟩
                      · obtain rfl : n = bys.length := by omega
                        have B16 := Lib.hid (below_on B14.out BR.out)
                        rw [SF.out]
                        go_wp2_with fail
                        exact ⟨⟨m + 1, by omega, by go_num, B16⟩, by simp [intOf]; omega⟩
                  · obtain rfl : m = i := by omega
                    have B16 := Lib.hid (below_on BL.out BR.out)
                    have GN2 : ((gs m : Int) + (x.length : Int)) = ((gs (m + 1) : Nat) : Int) := by rw [GN]; omega
                    go_wp2_with fail
                    exact ⟨⟨m + 1, by omega, by go_num, by first | rw [GN2] | go_num, B16⟩, by simp [intOf]; omega⟩
        · obtain rfl : i = G.length := by omega
          have PS := Lib.hid (PS.out.below BR.out)
          have da := cell_below Da.out BR.out
          have B := Lib.hid (below_on B.out BR.out)
          have GSS := GS.out
          rw [GSS]
          have LNC := Lib.hid (ps_Len _ xs wr PS.out)
          go_wp2_with fail
          refine LNC.out.mono ?_
          rintro e we ⟨rfl, hbe⟩
          have B := Lib.hid (below_on B.out hbe)
          clear hbe da LNC
          go_wp2_with fail
          go_ret
          exact ⟨by simp, B.out⟩
namespace psetGroups
open Go.ChangeShapes Go.WideShapes Go.ChangeAt Go.RowKit
set_option linter.unusedVariables false
set_option maxRecDepth 100000 in
theorem lifted (os : Os) (started : os.Started) (H : Type) (enc : TypeId × Value → H) :
    ReturnsInHanded {} Try.checked os 3 .any (Rows.psetGroupsSpec.pre6 enc Try.prog Try.f3 Rows.psetGroupsRow.domain false) (Rows.psetGroupsSpec.post enc Try.prog Try.f3 false true false false) := by
  refine returnsInHanded_of_change (C := Try.checked) fr_own started (by kernel_rfl) Try.func3
    (ChangeSpec.witness6 (enc := enc) (C := Try.checked) false ⟨#[], #[.slice none 0 0, .slice none 0 0], []⟩ 8 (by kernel_rfl) (by kernel_rfl) (by kernel_rfl) (by kernel_rfl)) ?_
  intro W base args ds gs before hval0 hW hcnd _
  have hval : ∀ (j : Nat) t v, Try.f3.params[j]? = some t → args[j]? = some v → Value.okWide Try.prog W .any base t v := hval0
  have hW' := hW
  obtain ⟨p, q, hA0, hV, rfl, hfz, hnd⟩ := hW
  have hA : DataW.TrodAll enc Try.prog W 0 (fun _ => true) true Try.f3.params.toList args.toList ds p := hA0
  rw [Try.params3] at hA hval
  obtain ⟨v0, vs0, d0, ds0, p0, q0, hargs, rfl, rfl, h0, r0⟩ := trodAll_cons hA
  obtain ⟨v1, vs1, d1, ds1, p1, q1, rfl, rfl, rfl, h1, r1⟩ := trodAll_cons r0
  obtain ⟨rfl, rfl, rfl⟩ := trodAll_nil r1
  obtain rfl : args = #[v0, v1] := by cases args; simp_all
  obtain ⟨rfl, rfl⟩ := trodVars_none hV
  have lt0 : ∀ x ∈ p0, x.block < W.heap.size := by obtain ⟨m, hm⟩ := h0; exact DataW.trod_lt m _ _ _ hm
  have lt1 : ∀ x ∈ p1, x.block < W.heap.size := by obtain ⟨m, hm⟩ := h1; exact DataW.trod_lt m _ _ _ hm
  obtain ⟨a, ha⟩ := open_pfs (hval 0 22 v0 rfl rfl) h0
  obtain ⟨bl, hb⟩ := open_pfss (hval 1 23 v1 rfl rfl) h1
  clear hA0 hval0
  refine (groups_walk v0 v1 a bl W ha hb).mono fun e W' ⟨he, bel⟩ => ?_
  subst he
  exact ⟨_, rfl, _, _, _, [], _, [], hW', trodAll_mk1 (shut_bool Try.underlying4 _), (trodAll_cons_mk (Below.trod fr_laidOut (by kernel_rfl) (of_decide_eq_true (by kernel_rfl)) h0 bel lt0) (trodAll_cons_mk (Below.trod fr_laidOut (by kernel_rfl) (of_decide_eq_true (by kernel_rfl)) h1 bel lt1) trodAll_mk0)), rfl, bel.frame _, fun h => by cases h⟩
theorem over : Rows.psetGroupsRow.holds Try.pinned (OpenSpec.ofChange Rows.psetGroupsSpec) :=
  OpenClaim.holds_of_wide 3 Try.f3 rfl rfl rfl rfl rfl rfl rfl ⟨rfl, rfl, rfl, rfl, rfl⟩ rfl rfl rfl rfl rfl (by kernel_rfl) Try.func3 (by kernel_rfl)
    (of_decide_eq_true (by kernel_rfl)) (by unfold Func.isWrapper; first | (rw [if_pos (by decide +kernel)]; kernel_rfl) | (rw [if_neg (by decide +kernel)]; exact ⟨rfl, rfl⟩))
    (fun os started H enc _ => lifted os started H enc)
/-- THE STATEMENT PsetGroups. -/
theorem proved : Rows.PsetGroupsSaid := over
#print axioms proved
end psetGroups
end Go.Proofs.Ytaafeekkllomhaa
