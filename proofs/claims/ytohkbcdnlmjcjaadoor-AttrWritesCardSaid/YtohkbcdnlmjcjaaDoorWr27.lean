/- Texts of one proof, one behind another. -/
import Derived.Test.YtohkbcdnlmjcjaaDoorWr26
/-
  THE REFERENCE OF ATTRIBUTES: Encode, walked.
-/
namespace Go.Proofs.YtohkbcdnlmjcjaaDoor
open Go.RowKit

set_option maxHeartbeats 25600000 in
set_option maxRecDepth 100000 in
theorem r_Encode (a : At) (vp vc vo : Value) (w : World) (hA : AtL w a vp vc vo) (hr : a.Rng) (hp : a.path.length ≤ 65536) (ho : a.others.length ≤ 65536) : Calls Tryd.prog 16 #[.agg (ratL a vp vc vo).toArray] w (EncPost a w) := by
  have HA := Lib.hid hA
  have HR := Lib.hid hr
  have HP := Lib.hid hp
  have HO := Lib.hid ho
  obtain ⟨⟨sp, cp, rfl, -⟩, ⟨sc, cc, rfl, -⟩, ⟨so, co, rfl, -⟩⟩ := hA
  clear hr hp ho
  show Calls Tryd.prog 16 #[.agg #[.int .i64 a.has, .int .i64 a.origin, .slice sp a.path.length cp, .int .i64 a.hop, .int .i64 a.med, .int .i64 a.loc, .int .i64 a.aggrAs, .int .i64 a.aggrId, .slice sc a.comms.length cc, .slice so a.others.length co]] w _
  go_enter Tryd.func16, Tryd.ntmps16
  go_upto_region 1 with (fail)
  obtain ⟨W0, hW0, qa, hb0, -⟩ := box1 w #[.int .i64 a.has, .int .i64 a.origin, .slice sp a.path.length cp, .int .i64 a.hop, .int .i64 a.med, .int .i64 a.loc, .int .i64 a.aggrAs, .int .i64 a.aggrId, .slice sc a.comms.length cc, .slice so a.others.length co] 47
  rw [← hW0]
  clear hW0
  have Q0 := Lib.hid qa
  have B0 := Lib.hid hb0
  have CR := Lib.hid (r_Right a (.slice sp a.path.length cp) (.slice sc a.comms.length cc) (.slice so a.others.length co) W0 (HA.out.below hb0) HR.out)
  clear qa hb0
  go_wp2_with ((with_reducible refine halt_at (X := .load 47 (.tmp 1)) ?_ ?_); (· rfl))
  unfold Halt
  refine ld_at (by rfl) 47 (.tmp 1) rfl w.heap.size rfl 47 #[.int .i64 a.has, .int .i64 a.origin, .slice sp a.path.length cp, .int .i64 a.hop, .int .i64 a.med, .int .i64 a.loc, .int .i64 a.aggrAs, .int .i64 a.aggrId, .slice sc a.comms.length cc, .slice so a.others.length co] (0, 0) _ Q0.out Tryd.underlying47 rfl sz_rat ?_
  go_wp2_with fail
  refine CR.out.mono ?_
  rintro e w1 ⟨rfl, hb1⟩
  have B1 := Lib.hid (below_on B0.out hb1)
  have Q1 := Lib.hid ((hb1.block _ (row_lt Q0.out)).trans Q0.out)
  clear CR hb1 Q0 B0
  cases hck : checkB a with
  | false =>
    have E : Hid (encI a = 1) := Lib.hid (by unfold encI; rw [hck]; rfl)
    clear hck
    go_wp2_with fail
    exact bodyPost_ret (v := .tuple #[.slice none 0 0, .int .i64 1]) (by simp [results, Tryd.results16, go_sem]) rfl ⟨.slice none 0 0, by rw [E.out], fun h => absurd (E.out ▸ h) (by decide), fun _ => rfl, B1.out⟩
  | true =>
  have HC := Lib.hid hck
  clear hck
  have NN := Lib.hid (nums_nat HC.out HR.out)
  have HAS := Lib.hid (has_nat HC.out HR.out)
  have TH : Hid (∀ t W, 1 ≤ t → t ≤ 8 → Calls Tryd.prog 34 #[.int .i64 a.has, .int .i64 ((t : Nat) : Int)] W fun e w' => e = .returned (.bool (bt a t)) ∧ W = w') := Lib.hid fun t W h1 h8 => by
    obtain ⟨h, hh, h511⟩ := HAS.out
    rw [hh, ← bt_th hh (t := t) h1 h8]; exact r_there h t W h511 h8
  have BY : Hid (∀ (x : Int) (k : Nat) W, 0 ≤ x → x ≤ 4294967295 → k ≤ 4 → Calls Tryd.prog 36 #[.int .i64 x, .int .i64 (k : Int)] W fun e w' => ∃ s c, e = .returned (.slice s k c) ∧ OwnB w' W.heap.size (.slice s k c) (numB x k) ∧ Below W.heap.size W w') := Lib.hid fun x k W h0 h1 hk => r_bytesI x k W h0 h1 hk
  have KL := Lib.hid (kns_len HC.out HP.out)
  have KS := Lib.hid (knsL_succ a)
  obtain ⟨PR, hK⟩ : ∃ PR, PR = knsL a := ⟨_, rfl⟩
  rw [← hK] at KL KS
  have HK := Lib.hid hK
  have K0 : Hid (PR 0 = []) := Lib.hid (by rw [hK]; rfl)
  clear hK
  go_upto_region 4 with (fail)
  obtain ⟨wA, hwA, oA, bA⟩ : ∃ wA, wA = w1.alloc (.cells #[] 5) ∧ OwnB wA w1.heap.size (.slice (some ⟨w1.heap.size, 0, none⟩) 0 0) [] ∧ Below w1.heap.size w1 wA := ⟨_, rfl, own_empty (Nat.le_refl _), (Below.refl _ _).alloc (Nat.le_refl _) _⟩
  rw [← hwA]
  have L0 : Hid ((PR 0).length = 0) := Lib.hid (by rw [K0.out]; rfl)
  obtain ⟨s0, c0, hs0, O0, X0⟩ : ∃ s c, (Value.slice (some ⟨w1.heap.size, 0, none⟩) 0 0) = .slice s (PR 0).length c ∧ Hid (OwnB wA w1.heap.size (.slice s (PR 0).length c) (PR 0)) ∧ Hid (Below w1.heap.size w1 wA) := ⟨_, _, by rw [L0.out], Lib.hid (by rw [L0.out, K0.out]; exact oA), Lib.hid bA⟩
  rw [hs0]
  clear hwA oA bA hs0 L0
  -- 1
  have Q1 := Lib.hid ((X0.out.block _ (row_lt Q1.out)).trans Q1.out)
  have y0 : World.cell? wA ⟨w.heap.size, 0, none⟩ = some (.int .i64 a.has) := row_cell Q1.out 0
  have T1 := Lib.hid (TH.out 1 wA (by decide) (by decide))
  go_wp2_with fail
  refine T1.out.mono ?_
  rintro e wz ⟨rfl, hz⟩
  subst hz
  clear T1 y0
  go_upto_if 21 with (fail)
  go_cut [4] from 21 to 27 (fun v4 wx => ∃ s c, v4 = .slice s (PR 1).length c ∧ Hid (OwnB wx w1.heap.size (.slice s (PR 1).length c) (PR 1)) ∧ Hid (Below w1.heap.size w1 wx))
  case first =>
    rcases hb : bt a 1 with _ | _
    · have E : Hid (PR 1 = PR 0) := Lib.hid (by rw [KS.out 0]; unfold knL; rw [if_neg (by rw [show isB a.has ((1 : Nat) : Int) = bt a 1 from rfl, hb]; decide), List.append_nil])
      clear hb
      go_wp2_with fail
      go_meet
      exact ⟨s0, c0, by rw [E.out], Lib.hid (by rw [E.out]; exact O0.out), X0⟩
    · as_aux_lemma =>
        have E : Hid (PR 1 = PR 0 ++ layL ((64 : Nat) : Int) ((1 : Nat) : Int) (numB (a.origin) 1)) := Lib.hid (by rw [KS.out 0]; unfold knL; rw [if_pos (by rw [show isB a.has ((1 : Nat) : Int) = bt a 1 from rfl, hb])]; congr 1)
        have LV : Hid ((numB (a.origin) 1).length ≤ 33554432) := Lib.hid (by have := val_len HC.out HP.out (t := 1) (by rw [show isB a.has ((1 : Nat) : Int) = bt a 1 from rfl, hb]); simpa [valL] using this)
        have LT : Hid (∀ y ∈ numB (a.origin) 1, y < 256) := Lib.hid (by have := val_lt a 1; simpa [valL] using this)
        clear hb
        have yf : World.cell? wA ⟨w.heap.size, 1, none⟩ = some (.int .i64 a.origin) := row_cell Q1.out 1
        have CB := Lib.hid (BY.out a.origin 1 wA NN.out.1.1 NN.out.1.2 (by decide))
        go_wp2_with fail
        refine CB.out.mono ?_
        rintro e wv ⟨sb, cb, rfl, ob, bb⟩
        have VB := Lib.hid (ownB_bytes ob (numB_lt _ _))
        have OV := Lib.hid (O0.out.below bb)
        have XV := Lib.hid (below_on X0.out bb)
        clear ob bb yf CB
        have CL := Lib.hid (r_lay 64 1 (.slice sb 1 cb) (numB (a.origin) 1) wv (by decide) (by decide) VB.out (by have := LV.out; omega))
        clear VB
        go_wp2_with fail
        refine CL.out.mono ?_
        rintro e wl ⟨sl, cl, rfl, ol, bl⟩
        have OL := Lib.hid (ownB_bytes ol (lay_lt _ _ LT.out))
        have O' := Lib.hid (OV.out.below bl)
        have X' := Lib.hid (below_on XV.out bl)
        have LL := Lib.hid (lay_len ((64 : Nat) : Int) ((1 : Nat) : Int) (numB (a.origin) 1))
        generalize layL ((64 : Nat) : Int) ((1 : Nat) : Int) (numB (a.origin) 1) = Z at E OL LL ⊢
        clear ol bl OV XV CL
        cases sl
        all_goals
          go_wp2_with (at_builtin; refine wpList_appB rfl _ _ rfl w1.heap.size _ _ (PR 0) Z (PR 1) E.out rfl rfl X'.out.size O'.out OL.out (by have := LL.out; have := LV.out; have := KL.out 0; omega) ?_)
          intro s7 c7 w7 hown hbel _
          have O7 := Lib.hid hown
          have X7 := Lib.hid (X'.out.trans hbel)
          clear hown hbel O' X' OL
          go_wp2_with fail
          go_meet
          exact ⟨s7, c7, rfl, O7, X7⟩
  case rest =>
  obtain ⟨s1, c1, hv, O1, X1⟩ := hcut
  subst hv
  clear O0 X0 Q1
  obtain ⟨v1, hv1⟩ : ∃ wv : World, wv = wc := ⟨_, rfl⟩
  rw [← hv1] at O1 X1 ⊢
  clear hv1 wc
  -- 2
  have Q2 := Lib.hid ((X1.out.block _ (row_lt Q1.out)).trans Q1.out)
  have y0 : World.cell? v1 ⟨w.heap.size, 0, none⟩ = some (.int .i64 a.has) := row_cell Q2.out 0
  have T2 := Lib.hid (TH.out 2 v1 (by decide) (by decide))
  go_wp2_with fail
  refine T2.out.mono ?_
  rintro e wz ⟨rfl, hz⟩
  subst hz
  clear T2 y0
  go_upto_if 30 with (fail)
  go_cut [4] from 30 to 70 (fun v4 wx => ∃ s c, v4 = .slice s (PR 2).length c ∧ Hid (OwnB wx w1.heap.size (.slice s (PR 2).length c) (PR 2)) ∧ Hid (Below w1.heap.size w1 wx))
  case first =>
    rcases hb : bt a 2 with _ | _
    · have E : Hid (PR 2 = PR 1) := Lib.hid (by rw [KS.out 1]; unfold knL; rw [if_neg (by rw [show isB a.has ((2 : Nat) : Int) = bt a 2 from rfl, hb]; decide), List.append_nil])
      clear hb
      go_wp2_with fail
      go_meet
      exact ⟨s1, c1, by rw [E.out], Lib.hid (by rw [E.out]; exact O1.out), X1⟩
    · as_aux_lemma =>
        have HS := Lib.hid (check_segs HC.out (show isB a.has ((2 : Nat) : Int) = true from hb))
        have E : Hid (PR 2 = PR 1 ++ layL ((64 : Nat) : Int) ((2 : Nat) : Int) (pathL a.path)) := Lib.hid (by rw [KS.out 1]; unfold knL; rw [if_pos (by rw [show isB a.has ((2 : Nat) : Int) = bt a 2 from rfl, hb])]; congr 1)
        have LV : Hid ((pathL a.path).length ≤ 33554432) := Lib.hid (by have := val_len HC.out HP.out (t := 2) (by rw [show isB a.has ((2 : Nat) : Int) = bt a 2 from rfl, hb]); simpa [valL] using this)
        have LT : Hid (∀ y ∈ pathL a.path, y < 256) := Lib.hid (by have := val_lt a 2; simpa [valL] using this)
        clear hb
        as_aux_lemma =>
          have LP : Hid (∀ k, (pathL (a.path.take k)).length ≤ 33554432) := Lib.hid (fun k => by
            have := pathL_le (m := 512) (fun s hx => by have := (HS.out s hx).2.1; omega) (p := a.path) k
            have := HP.out; omega)
          obtain ⟨Y, hY⟩ : ∃ Y : Nat → List Nat, Y = fun k => pathL (a.path.take k) := ⟨_, rfl⟩
          have YS : Hid (∀ k s, a.path[k]? = some s → Y (k + 1) = Y k ++ segL s) := Lib.hid (fun k s h => by rw [hY]; exact path_next h)
          have Y0 : Hid (Y 0 = []) := Lib.hid (by rw [hY]; rfl)
          have YE : Hid (Y a.path.length = pathL a.path) := Lib.hid (by rw [hY]; simp)
          have YL : Hid (∀ k, (Y k).length ≤ 33554432) := Lib.hid (by rw [hY]; exact LP.out)
          clear hY LP
          go_upto_region 8 with (fail)
          obtain ⟨wB, hwB, oB, bB⟩ : ∃ wB, wB = v1.alloc (.cells #[] 5) ∧ OwnB wB v1.heap.size (.slice (some ⟨v1.heap.size, 0, none⟩) 0 0) [] ∧ Below v1.heap.size v1 wB := ⟨_, rfl, own_empty (Nat.le_refl _), (Below.refl _ _).alloc (Nat.le_refl _) _⟩
          rw [← hwB]
          have y2 : wB.cell? ⟨w.heap.size, 2, none⟩ = some (.slice sp a.path.length cp) := cell_below (row_cell Q2.out 2) bB
          have OB := Lib.hid oB
          have BB := Lib.hid bB
          clear hwB oB bB
          go_wp2_with fail
          clear y2
          go_loopw [35, 5] (fun i9 v5 wr => ∃ (k : Nat) (s5 : Option Addr) (c5 : Nat), k ≤ a.path.length ∧ i9 = .int .i64 k ∧ v5 = .slice s5 (Y k).length c5 ∧ Hid (OwnB wr v1.heap.size (.slice s5 (Y k).length c5) (Y k)) ∧ Hid (Below v1.heap.size v1 wr)) (fun i9 _ _ => a.path.length - (intOf i9).toNat)
          case atStart => exact ⟨0, some ⟨v1.heap.size, 0, none⟩, 0, by omega, rfl, by rw [Y0.out]; rfl, Lib.hid (by rw [Y0.out]; exact OB.out), BB⟩
          case round =>
            clear OB BB
            obtain ⟨k, s5, c5, hk, rfl, rfl, O, BR⟩ := hrel
            by_cases hlt : k < a.path.length
            · obtain ⟨sg, hsg⟩ : ∃ sg, a.path[k]? = some sg := ⟨_, List.getElem?_eq_getElem hlt⟩
              have BW := Lib.hid (below_on B1.out (below_on X1.out BR.out))
              obtain ⟨g, o, e0, e1, rfl, ⟨u, hu, hin⟩, p0', p1'⟩ := pair_at HA.out.1 hsg
              injection hu with e1 e2; injection e2 with e2 _; subst e1; subst e2
              have p0 := cell_below p0' BW.out
              have p1 := cell_below p1' BW.out
              have HI := Lib.hid hin
              obtain ⟨su, cu, rfl, -, -, -⟩ := hin
              have hs := HS.out sg (List.mem_of_getElem? hsg)
              have SN := Lib.hid (seg_nat hs.2.2)
              have l1 := hs.1
              have l2 := hs.2.1
              have ST := YS.out k sg hsg
              have LX := YL.out k
              have k0 : (0 : Int) ≤ (k : Int) := by omega
              have k9 : (k : Int) ≤ 65536 := by have := HP.out; omega
              have k1 : (k : Int) < (a.path.length : Int) := by omega
              obtain ⟨sb, sl⟩ := sg
              simp only at p0 p1 hs l1 l2 SN HI
              obtain ⟨kd, hkd⟩ : ∃ kd : Nat, (if sb then 1 else 2) = kd := ⟨_, rfl⟩
              obtain ⟨xs0, hxs0⟩ : ∃ xs0, Y k = xs0 := ⟨_, rfl⟩
              have ST1 : Hid (Y (k + 1) = (xs0 ++ [kd] ++ [sl.length]) ++ sl.flatMap fun n => numB n 2) := Lib.hid (by
                rw [ST, hxs0]
                unfold segL
                simp only
                rw [show numB (if sb = true then 1 else 2) 1 = [kd] from by rw [← hkd]; cases sb <;> rfl, numB_one (by omega)]
                simp only [List.append_assoc])
              rw [hxs0] at O LX
              obtain ⟨xsA, hxsA⟩ : ∃ xsA, xsA = xs0 ++ [kd] := ⟨_, rfl⟩
              have LXA : xsA.length ≤ xs0.length + 1 := by rw [hxsA]; simp
              have HXA := Lib.hid hxsA
              have HKD := Lib.hid hkd
              rw [hxs0]
              rw [← hxsA] at ST1
              clear hxsA hxs0 ST hkd hs p0' p1' hsg
              go_upto_region 11 with (fail)
              obtain ⟨w2, hw2, q2, hb2, -⟩ := box1 wr #[.bool sb, .slice su sl.length cu] 75
              rw [← hw2]
              have y0 : w2.cell? ⟨wr.heap.size, 0, none⟩ = some (.bool sb) := row_cell q2 0
              have O2 := Lib.hid (O.out.below hb2)
              have B2 := Lib.hid (BR.out.trans (hb2.mono BR.out.size))
              have Q2' := Lib.hid q2
              clear hw2 q2 hb2 p0 p1 O BR BW
              go_upto_if 40 with (fail)
              go_cut [5] from 41 to 46 (fun v5 wx => ∃ s c, v5 = .slice s xsA.length c ∧ Hid (OwnB wx v1.heap.size (.slice s xsA.length c) xsA) ∧ Hid (Below v1.heap.size v1 wx) ∧ Hid (wx.heap[wr.heap.size]? = some (.cells #[.bool sb, .slice su sl.length cu] 75 (0, 0))))
              case first =>
                as_aux_lemma =>
                  clear y0
                  cases sb
                  · have E2 : kd = 2 := HKD.out.symm
                    subst E2
                    go_wp2_with (at_builtin; refine wpList_appB rfl _ _ rfl v1.heap.size _ (.slice (some ⟨w2.heap.size, 0, none⟩) 1 1) xs0 [2] xsA HXA.out rfl rfl (by have := B2.out.size; simp; omega) (O2.out.below ((Below.refl _ _).alloc (Nat.le_refl _) _)) (ownB_bytes (own_newB w2 0 [2] _ rfl (Nat.zero_le _) (by decide)) (by simp)) (by simp; omega) ?_)
                    intro s7 c7 w7 hown hbel hk7
                    have O7 := Lib.hid hown
                    have B7 := Lib.hid ((B2.out.alloc B2.out.size _).trans hbel)
                    have Q7 := Lib.hid ((hk7.block _ (row_lt (alloc_row w2 _ Q2'.out)) (own_ne O2.out Q2'.out (by decide))).trans (alloc_row w2 _ Q2'.out))
                    clear hown hbel hk7 O2 B2 Q2'
                    go_wp2_with fail
                    go_meet
                    exact ⟨s7, c7, rfl, O7, B7, Q7⟩
                  · have E2 : kd = 1 := HKD.out.symm
                    subst E2
                    go_wp2_with (at_builtin; refine wpList_appB rfl _ _ rfl v1.heap.size _ (.slice (some ⟨w2.heap.size, 0, none⟩) 1 1) xs0 [1] xsA HXA.out rfl rfl (by have := B2.out.size; simp; omega) (O2.out.below ((Below.refl _ _).alloc (Nat.le_refl _) _)) (ownB_bytes (own_newB w2 0 [1] _ rfl (Nat.zero_le _) (by decide)) (by simp)) (by simp; omega) ?_)
                    intro s7 c7 w7 hown hbel hk7
                    have O7 := Lib.hid hown
                    have B7 := Lib.hid ((B2.out.alloc B2.out.size _).trans hbel)
                    have Q7 := Lib.hid ((hk7.block _ (row_lt (alloc_row w2 _ Q2'.out)) (own_ne O2.out Q2'.out (by decide))).trans (alloc_row w2 _ Q2'.out))
                    clear hown hbel hk7 O2 B2 Q2'
                    go_wp2_with fail
                    go_meet
                    exact ⟨s7, c7, rfl, O7, B7, Q7⟩
              case rest =>
                as_aux_lemma =>
                  clear y0 O2 B2 Q2' HKD HXA
                  obtain ⟨s6, c6, hv6, O6, B6, Q6⟩ := hcut
                  subst hv6
                  obtain ⟨w6, hw6⟩ : ∃ wv : World, wv = wc := ⟨_, rfl⟩
                  rw [← hw6] at O6 B6 Q6 ⊢
                  clear hw6 wc
                  have y1 : w6.cell? ⟨wr.heap.size, 1, none⟩ = some (.slice su sl.length cu) := row_cell Q6.out 1
                  have u4 : IntKind.u8.wrap (sl.length : Int) = (sl.length : Int) := u8_nat (by omega)
                  obtain ⟨xs1, hxs1⟩ : ∃ xs1, xsA ++ [sl.length] = xs1 := ⟨_, rfl⟩
                  have LX1 : xs1.length ≤ 33554434 := by rw [← hxs1]; simp; omega
                  go_wp2_with (at_builtin; refine wpList_appB rfl _ _ rfl v1.heap.size _ (.slice (some ⟨w6.heap.size, 0, none⟩) 1 1) xsA [sl.length] xs1 hxs1.symm rfl rfl (by have := B6.out.size; simp; omega) (O6.out.below ((Below.refl _ _).alloc (Nat.le_refl _) _)) (ownB_bytes (own_newB w6 0 [sl.length] _ rfl (Nat.zero_le _) (show 1 ≤ maxLen by decide)) (by simp; omega)) (by simp; omega) ?_)
                  intro s7 c7 w7 hown hbel hk7
                  have O7 := Lib.hid hown
                  have B7 := Lib.hid ((B6.out.alloc B6.out.size _).trans hbel)
                  have q7 := (hk7.block _ (row_lt (alloc_row w6 _ Q6.out)) (own_ne O6.out Q6.out (by decide))).trans (alloc_row w6 _ Q6.out)
                  clear y1
                  have y1 : w7.cell? ⟨wr.heap.size, 1, none⟩ = some (.slice su sl.length cu) := row_cell q7 1
                  rw [hxs1] at ST1
                  clear hown hbel hk7 O6 B6 Q6 q7 hxs1 u4
                  obtain ⟨X, hX⟩ : ∃ X : Nat → List Nat, X = fun j => xs1 ++ (sl.take j).flatMap fun n => numB n 2 := ⟨_, rfl⟩
                  have XS : Hid (∀ j x, sl[j]? = some x → X (j + 1) = X j ++ numB x 2) := Lib.hid (fun j x h => by rw [hX]; simp only; rw [flat_take (fun n => numB n 2) h, List.append_assoc])
                  have XZ : Hid (X 0 = xs1) := Lib.hid (by rw [hX]; simp)
                  have XE : Hid (X sl.length = Y (k + 1)) := Lib.hid (by rw [ST1.out, hX]; simp)
                  have XL : Hid (∀ j, (X j).length ≤ 40000000) := Lib.hid (fun j => by rw [hX]; simp only; rw [List.length_append]; have := segs_le (l := sl) (by omega) j; omega)
                  clear hX ST1 LX1 LX LXA
                  go_wp2_with fail
                  clear y1
                  go_loopw [57, 5] (fun i9 v5 wr => ∃ (j : Nat) (s5 : Option Addr) (c5 : Nat), j ≤ sl.length ∧ i9 = .int .i64 j ∧ v5 = .slice s5 (X j).length c5 ∧ Hid (OwnB wr v1.heap.size (.slice s5 (X j).length c5) (X j)) ∧ Hid (Below v1.heap.size v1 wr)) (fun i9 _ _ => sl.length - (intOf i9).toNat)
                  case atStart => exact ⟨0, s7, c7, by omega, rfl, by rw [XZ.out], Lib.hid (by rw [XZ.out]; exact O7.out), B7⟩
                  case round =>
                    as_aux_lemma =>
                      clear O7 B7
                      obtain ⟨j, s9, c9, hj, rfl, rfl, O, BR⟩ := hrel
                      by_cases hjl : j < sl.length
                      · obtain ⟨x, hx⟩ : ∃ x, sl[j]? = some x := ⟨_, List.getElem?_eq_getElem hjl⟩
                        obtain ⟨g2, o2, rfl, p4⟩ := int_at HI.out hx
                        have c4 := cell_below p4 (below_on B1.out (below_on X1.out BR.out))
                        have SX := SN.out x (List.mem_of_getElem? hx)
                        have j0 : (0 : Int) ≤ (j : Int) := by omega
                        have j1 : (j : Int) < (sl.length : Int) := by omega
                        have CB := Lib.hid (fun W => BY.out x 2 W SX.1 SX.2 (by decide))
                        have ZE := Lib.hid (XS.out j x hx)
                        have LY := XL.out j
                        clear p4 hx SX
                        go_wp2_with fail
                        refine (CB.out wr).mono ?_
                        rintro e wv ⟨sv, cv, rfl, ov, bv⟩
                        have OV := Lib.hid (O.out.below bv)
                        have XV := Lib.hid (below_on BR.out bv)
                        have VB := Lib.hid (ownB_bytes ov (numB_lt _ _))
                        clear ov bv O BR CB c4
                        cases sv
                        all_goals
                          go_wp2_with (at_builtin; refine wpList_appB rfl _ _ rfl v1.heap.size _ _ (X j) (numB x 2) (X (j + 1)) ZE.out rfl rfl XV.out.size OV.out VB.out (by rw [numB_len]; omega) ?_)
                          intro s8 c8 w8 hown hbel _
                          have O8 := Lib.hid hown
                          have B8 := Lib.hid (XV.out.trans hbel)
                          clear hown hbel XV OV VB ZE
                          go_wp2_with fail
                          exact ⟨⟨j + 1, s8, c8, by omega, by go_num, rfl, O8, B8⟩, by simp [intOf]; omega⟩
                      · obtain rfl : j = sl.length := by omega
                        go_wp2_with fail
                        exact ⟨⟨k + 1, s9, c9, by omega, by go_num, by rw [XE.out], Lib.hid (by rw [← XE.out]; exact O.out), BR⟩, by simp [intOf]; omega⟩
            · obtain rfl : k = a.path.length := by omega
              rw [YE.out] at O ⊢
              have VB := Lib.hid (ownB_bytes O.out LT.out)
              obtain ⟨wv, hwv⟩ : ∃ wv : World, wv = wr := ⟨_, rfl⟩
              rw [← hwv] at VB BR ⊢
              have OV : Hid (OwnB wv w1.heap.size (.slice s1 (PR 1).length c1) (PR 1)) := Lib.hid (O1.out.below BR.out)
              have XV := Lib.hid (below_on X1.out BR.out)
              clear O BR hwv YL YS Y0 YE HS
              cases s5
              all_goals
                have CL := Lib.hid (r_lay 64 2 (.slice _ (pathL a.path).length c5) (pathL a.path) wv (by decide) (by decide) VB.out (by have := LV.out; omega))
                clear VB
                go_wp2_with fail
                refine CL.out.mono ?_
                rintro e wl ⟨sl, cl, rfl, ol, bl⟩
                have OL := Lib.hid (ownB_bytes ol (lay_lt _ _ LT.out))
                have O' := Lib.hid (OV.out.below bl)
                have X' := Lib.hid (below_on XV.out bl)
                have LL := Lib.hid (lay_len ((64 : Nat) : Int) ((2 : Nat) : Int) (pathL a.path))
                generalize layL ((64 : Nat) : Int) ((2 : Nat) : Int) (pathL a.path) = Z at E OL LL ⊢
                clear ol bl OV XV CL
                cases sl
                all_goals
                  go_wp2_with (at_builtin; refine wpList_appB rfl _ _ rfl w1.heap.size _ _ (PR 1) Z (PR 2) E.out rfl rfl X'.out.size O'.out OL.out (by have := LL.out; have := LV.out; have := KL.out 1; omega) ?_)
                  intro s7 c7 w7 hown hbel _
                  have O7 := Lib.hid hown
                  have X7 := Lib.hid (X'.out.trans hbel)
                  clear hown hbel O' X' OL
                  go_wp2_with fail
                  go_meet
                  exact ⟨s7, c7, rfl, O7, X7⟩
  case rest =>
  obtain ⟨s2, c2, hv, O2, X2⟩ := hcut
  subst hv
  clear O1 X1 Q2
  obtain ⟨v2, hv2⟩ : ∃ wv : World, wv = wc := ⟨_, rfl⟩
  rw [← hv2] at O2 X2 ⊢
  clear hv2 wc
  -- 3
  have Q3 := Lib.hid ((X2.out.block _ (row_lt Q1.out)).trans Q1.out)
  have y0 : World.cell? v2 ⟨w.heap.size, 0, none⟩ = some (.int .i64 a.has) := row_cell Q3.out 0
  have T3 := Lib.hid (TH.out 3 v2 (by decide) (by decide))
  go_wp2_with fail
  refine T3.out.mono ?_
  rintro e wz ⟨rfl, hz⟩
  subst hz
  clear T3 y0
  go_upto_if 73 with (fail)
  go_cut [4] from 73 to 79 (fun v4 wx => ∃ s c, v4 = .slice s (PR 3).length c ∧ Hid (OwnB wx w1.heap.size (.slice s (PR 3).length c) (PR 3)) ∧ Hid (Below w1.heap.size w1 wx))
  case first =>
    rcases hb : bt a 3 with _ | _
    · have E : Hid (PR 3 = PR 2) := Lib.hid (by rw [KS.out 2]; unfold knL; rw [if_neg (by rw [show isB a.has ((3 : Nat) : Int) = bt a 3 from rfl, hb]; decide), List.append_nil])
      clear hb
      go_wp2_with fail
      go_meet
      exact ⟨s2, c2, by rw [E.out], Lib.hid (by rw [E.out]; exact O2.out), X2⟩
    · as_aux_lemma =>
        have E : Hid (PR 3 = PR 2 ++ layL ((64 : Nat) : Int) ((3 : Nat) : Int) (numB (((a.hop : Nat) : Int)) 4)) := Lib.hid (by rw [KS.out 2]; unfold knL; rw [if_pos (by rw [show isB a.has ((3 : Nat) : Int) = bt a 3 from rfl, hb])]; congr 1)
        have LV : Hid ((numB (((a.hop : Nat) : Int)) 4).length ≤ 33554432) := Lib.hid (by have := val_len HC.out HP.out (t := 3) (by rw [show isB a.has ((3 : Nat) : Int) = bt a 3 from rfl, hb]); simpa [valL] using this)
        have LT : Hid (∀ y ∈ numB (((a.hop : Nat) : Int)) 4, y < 256) := Lib.hid (by have := val_lt a 3; simpa [valL] using this)
        clear hb
        have yf : World.cell? v2 ⟨w.heap.size, 3, none⟩ = some (.int .i64 ((a.hop : Nat) : Int)) := row_cell Q3.out 3
        have CB := Lib.hid (BY.out ((a.hop : Nat) : Int) 4 v2 NN.out.2.1.1 NN.out.2.1.2 (by decide))
        go_wp2_with fail
        refine CB.out.mono ?_
        rintro e wv ⟨sb, cb, rfl, ob, bb⟩
        have VB := Lib.hid (ownB_bytes ob (numB_lt _ _))
        have OV := Lib.hid (O2.out.below bb)
        have XV := Lib.hid (below_on X2.out bb)
        clear ob bb yf CB
        have CL := Lib.hid (r_lay 64 3 (.slice sb 4 cb) (numB (((a.hop : Nat) : Int)) 4) wv (by decide) (by decide) VB.out (by have := LV.out; omega))
        clear VB
        go_wp2_with fail
        refine CL.out.mono ?_
        rintro e wl ⟨sl, cl, rfl, ol, bl⟩
        have OL := Lib.hid (ownB_bytes ol (lay_lt _ _ LT.out))
        have O' := Lib.hid (OV.out.below bl)
        have X' := Lib.hid (below_on XV.out bl)
        have LL := Lib.hid (lay_len ((64 : Nat) : Int) ((3 : Nat) : Int) (numB (((a.hop : Nat) : Int)) 4))
        generalize layL ((64 : Nat) : Int) ((3 : Nat) : Int) (numB (((a.hop : Nat) : Int)) 4) = Z at E OL LL ⊢
        clear ol bl OV XV CL
        cases sl
        all_goals
          go_wp2_with (at_builtin; refine wpList_appB rfl _ _ rfl w1.heap.size _ _ (PR 2) Z (PR 3) E.out rfl rfl X'.out.size O'.out OL.out (by have := LL.out; have := LV.out; have := KL.out 2; omega) ?_)
          intro s7 c7 w7 hown hbel _
          have O7 := Lib.hid hown
          have X7 := Lib.hid (X'.out.trans hbel)
          clear hown hbel O' X' OL
          go_wp2_with fail
          go_meet
          exact ⟨s7, c7, rfl, O7, X7⟩
  case rest =>
  obtain ⟨s3, c3, hv, O3, X3⟩ := hcut
  subst hv
  clear O2 X2 Q3
  obtain ⟨v3, hv3⟩ : ∃ wv : World, wv = wc := ⟨_, rfl⟩
  rw [← hv3] at O3 X3 ⊢
  clear hv3 wc
  -- 4
  have Q4 := Lib.hid ((X3.out.block _ (row_lt Q1.out)).trans Q1.out)
  have y0 : World.cell? v3 ⟨w.heap.size, 0, none⟩ = some (.int .i64 a.has) := row_cell Q4.out 0
  have T4 := Lib.hid (TH.out 4 v3 (by decide) (by decide))
  go_wp2_with fail
  refine T4.out.mono ?_
  rintro e wz ⟨rfl, hz⟩
  subst hz
  clear T4 y0
  go_upto_if 82 with (fail)
  go_cut [4] from 82 to 88 (fun v4 wx => ∃ s c, v4 = .slice s (PR 4).length c ∧ Hid (OwnB wx w1.heap.size (.slice s (PR 4).length c) (PR 4)) ∧ Hid (Below w1.heap.size w1 wx))
  case first =>
    rcases hb : bt a 4 with _ | _
    · have E : Hid (PR 4 = PR 3) := Lib.hid (by rw [KS.out 3]; unfold knL; rw [if_neg (by rw [show isB a.has ((4 : Nat) : Int) = bt a 4 from rfl, hb]; decide), List.append_nil])
      clear hb
      go_wp2_with fail
      go_meet
      exact ⟨s3, c3, by rw [E.out], Lib.hid (by rw [E.out]; exact O3.out), X3⟩
    · as_aux_lemma =>
        have E : Hid (PR 4 = PR 3 ++ layL ((128 : Nat) : Int) ((4 : Nat) : Int) (numB (a.med) 4)) := Lib.hid (by rw [KS.out 3]; unfold knL; rw [if_pos (by rw [show isB a.has ((4 : Nat) : Int) = bt a 4 from rfl, hb])]; congr 1)
        have LV : Hid ((numB (a.med) 4).length ≤ 33554432) := Lib.hid (by have := val_len HC.out HP.out (t := 4) (by rw [show isB a.has ((4 : Nat) : Int) = bt a 4 from rfl, hb]); simpa [valL] using this)
        have LT : Hid (∀ y ∈ numB (a.med) 4, y < 256) := Lib.hid (by have := val_lt a 4; simpa [valL] using this)
        clear hb
        have yf : World.cell? v3 ⟨w.heap.size, 4, none⟩ = some (.int .i64 a.med) := row_cell Q4.out 4
        have CB := Lib.hid (BY.out a.med 4 v3 NN.out.2.2.1.1 NN.out.2.2.1.2 (by decide))
        go_wp2_with fail
        refine CB.out.mono ?_
        rintro e wv ⟨sb, cb, rfl, ob, bb⟩
        have VB := Lib.hid (ownB_bytes ob (numB_lt _ _))
        have OV := Lib.hid (O3.out.below bb)
        have XV := Lib.hid (below_on X3.out bb)
        clear ob bb yf CB
        have CL := Lib.hid (r_lay 128 4 (.slice sb 4 cb) (numB (a.med) 4) wv (by decide) (by decide) VB.out (by have := LV.out; omega))
        clear VB
        go_wp2_with fail
        refine CL.out.mono ?_
        rintro e wl ⟨sl, cl, rfl, ol, bl⟩
        have OL := Lib.hid (ownB_bytes ol (lay_lt _ _ LT.out))
        have O' := Lib.hid (OV.out.below bl)
        have X' := Lib.hid (below_on XV.out bl)
        have LL := Lib.hid (lay_len ((128 : Nat) : Int) ((4 : Nat) : Int) (numB (a.med) 4))
        generalize layL ((128 : Nat) : Int) ((4 : Nat) : Int) (numB (a.med) 4) = Z at E OL LL ⊢
        clear ol bl OV XV CL
        cases sl
        all_goals
          go_wp2_with (at_builtin; refine wpList_appB rfl _ _ rfl w1.heap.size _ _ (PR 3) Z (PR 4) E.out rfl rfl X'.out.size O'.out OL.out (by have := LL.out; have := LV.out; have := KL.out 3; omega) ?_)
          intro s7 c7 w7 hown hbel _
          have O7 := Lib.hid hown
          have X7 := Lib.hid (X'.out.trans hbel)
          clear hown hbel O' X' OL
          go_wp2_with fail
          go_meet
          exact ⟨s7, c7, rfl, O7, X7⟩
  case rest =>
  obtain ⟨s4, c4, hv, O4, X4⟩ := hcut
  subst hv
  clear O3 X3 Q4
  obtain ⟨v4, hv4⟩ : ∃ wv : World, wv = wc := ⟨_, rfl⟩
  rw [← hv4] at O4 X4 ⊢
  clear hv4 wc
  -- 5
  have Q5 := Lib.hid ((X4.out.block _ (row_lt Q1.out)).trans Q1.out)
  have y0 : World.cell? v4 ⟨w.heap.size, 0, none⟩ = some (.int .i64 a.has) := row_cell Q5.out 0
  have T5 := Lib.hid (TH.out 5 v4 (by decide) (by decide))
  go_wp2_with fail
  refine T5.out.mono ?_
  rintro e wz ⟨rfl, hz⟩
  subst hz
  clear T5 y0
  go_upto_if 91 with (fail)
  go_cut [4] from 91 to 97 (fun v4 wx => ∃ s c, v4 = .slice s (PR 5).length c ∧ Hid (OwnB wx w1.heap.size (.slice s (PR 5).length c) (PR 5)) ∧ Hid (Below w1.heap.size w1 wx))
  case first =>
    rcases hb : bt a 5 with _ | _
    · have E : Hid (PR 5 = PR 4) := Lib.hid (by rw [KS.out 4]; unfold knL; rw [if_neg (by rw [show isB a.has ((5 : Nat) : Int) = bt a 5 from rfl, hb]; decide), List.append_nil])
      clear hb
      go_wp2_with fail
      go_meet
      exact ⟨s4, c4, by rw [E.out], Lib.hid (by rw [E.out]; exact O4.out), X4⟩
    · as_aux_lemma =>
        have E : Hid (PR 5 = PR 4 ++ layL ((64 : Nat) : Int) ((5 : Nat) : Int) (numB (a.loc) 4)) := Lib.hid (by rw [KS.out 4]; unfold knL; rw [if_pos (by rw [show isB a.has ((5 : Nat) : Int) = bt a 5 from rfl, hb])]; congr 1)
        have LV : Hid ((numB (a.loc) 4).length ≤ 33554432) := Lib.hid (by have := val_len HC.out HP.out (t := 5) (by rw [show isB a.has ((5 : Nat) : Int) = bt a 5 from rfl, hb]); simpa [valL] using this)
        have LT : Hid (∀ y ∈ numB (a.loc) 4, y < 256) := Lib.hid (by have := val_lt a 5; simpa [valL] using this)
        clear hb
        have yf : World.cell? v4 ⟨w.heap.size, 5, none⟩ = some (.int .i64 a.loc) := row_cell Q5.out 5
        have CB := Lib.hid (BY.out a.loc 4 v4 NN.out.2.2.2.1.1 NN.out.2.2.2.1.2 (by decide))
        go_wp2_with fail
        refine CB.out.mono ?_
        rintro e wv ⟨sb, cb, rfl, ob, bb⟩
        have VB := Lib.hid (ownB_bytes ob (numB_lt _ _))
        have OV := Lib.hid (O4.out.below bb)
        have XV := Lib.hid (below_on X4.out bb)
        clear ob bb yf CB
        have CL := Lib.hid (r_lay 64 5 (.slice sb 4 cb) (numB (a.loc) 4) wv (by decide) (by decide) VB.out (by have := LV.out; omega))
        clear VB
        go_wp2_with fail
        refine CL.out.mono ?_
        rintro e wl ⟨sl, cl, rfl, ol, bl⟩
        have OL := Lib.hid (ownB_bytes ol (lay_lt _ _ LT.out))
        have O' := Lib.hid (OV.out.below bl)
        have X' := Lib.hid (below_on XV.out bl)
        have LL := Lib.hid (lay_len ((64 : Nat) : Int) ((5 : Nat) : Int) (numB (a.loc) 4))
        generalize layL ((64 : Nat) : Int) ((5 : Nat) : Int) (numB (a.loc) 4) = Z at E OL LL ⊢
        clear ol bl OV XV CL
        cases sl
        all_goals
          go_wp2_with (at_builtin; refine wpList_appB rfl _ _ rfl w1.heap.size _ _ (PR 4) Z (PR 5) E.out rfl rfl X'.out.size O'.out OL.out (by have := LL.out; have := LV.out; have := KL.out 4; omega) ?_)
          intro s7 c7 w7 hown hbel _
          have O7 := Lib.hid hown
          have X7 := Lib.hid (X'.out.trans hbel)
          clear hown hbel O' X' OL
          go_wp2_with fail
          go_meet
          exact ⟨s7, c7, rfl, O7, X7⟩
  case rest =>
  obtain ⟨s5, c5, hv, O5, X5⟩ := hcut
  subst hv
  clear O4 X4 Q5
  obtain ⟨v5, hv5⟩ : ∃ wv : World, wv = wc := ⟨_, rfl⟩
  rw [← hv5] at O5 X5 ⊢
  clear hv5 wc
  -- 6
  have Q6 := Lib.hid ((X5.out.block _ (row_lt Q1.out)).trans Q1.out)
  have y0 : World.cell? v5 ⟨w.heap.size, 0, none⟩ = some (.int .i64 a.has) := row_cell Q6.out 0
  have T6 := Lib.hid (TH.out 6 v5 (by decide) (by decide))
  go_wp2_with fail
  refine T6.out.mono ?_
  rintro e wz ⟨rfl, hz⟩
  subst hz
  clear T6 y0
  go_upto_if 100 with (fail)
  go_cut [4] from 100 to 103 (fun v4 wx => ∃ s c, v4 = .slice s (PR 6).length c ∧ Hid (OwnB wx w1.heap.size (.slice s (PR 6).length c) (PR 6)) ∧ Hid (Below w1.heap.size w1 wx))
  case first =>
    rcases hb : bt a 6 with _ | _
    · have E : Hid (PR 6 = PR 5) := Lib.hid (by rw [KS.out 5]; unfold knL; rw [if_neg (by rw [show isB a.has ((6 : Nat) : Int) = bt a 6 from rfl, hb]; decide), List.append_nil])
      clear hb
      go_wp2_with fail
      go_meet
      exact ⟨s5, c5, by rw [E.out], Lib.hid (by rw [E.out]; exact O5.out), X5⟩
    · as_aux_lemma =>
        have E : Hid (PR 6 = PR 5 ++ layL ((64 : Nat) : Int) ((6 : Nat) : Int) (([] : List Nat))) := Lib.hid (by rw [KS.out 5]; unfold knL; rw [if_pos (by rw [show isB a.has ((6 : Nat) : Int) = bt a 6 from rfl, hb])]; congr 1)
        have LV : Hid ((([] : List Nat)).length ≤ 33554432) := Lib.hid (by simp)
        have LT : Hid (∀ y ∈ ([] : List Nat), y < 256) := Lib.hid (by simp)
        clear hb
        obtain ⟨wv, hwv⟩ : ∃ wv : World, wv = v5 := ⟨_, rfl⟩
        rw [← hwv] at O5 X5 ⊢
        have VB : Hid (BytesAt wv (.slice none 0 0) []) := Lib.hid (bytes_nil wv)
        have OV := Lib.hid O5.out
        have XV := Lib.hid X5.out
        clear hwv
        have CL := Lib.hid (r_lay 64 6 (.slice none 0 0) (([] : List Nat)) wv (by decide) (by decide) VB.out (by have := LV.out; omega))
        clear VB
        go_wp2_with fail
        refine CL.out.mono ?_
        rintro e wl ⟨sl, cl, rfl, ol, bl⟩
        have OL := Lib.hid (ownB_bytes ol (lay_lt _ _ LT.out))
        have O' := Lib.hid (OV.out.below bl)
        have X' := Lib.hid (below_on XV.out bl)
        have LL := Lib.hid (lay_len ((64 : Nat) : Int) ((6 : Nat) : Int) (([] : List Nat)))
        generalize layL ((64 : Nat) : Int) ((6 : Nat) : Int) (([] : List Nat)) = Z at E OL LL ⊢
        clear ol bl OV XV CL
        cases sl
        all_goals
          go_wp2_with (at_builtin; refine wpList_appB rfl _ _ rfl w1.heap.size _ _ (PR 5) Z (PR 6) E.out rfl rfl X'.out.size O'.out OL.out (by have := LL.out; have := LV.out; have := KL.out 5; omega) ?_)
          intro s7 c7 w7 hown hbel _
          have O7 := Lib.hid hown
          have X7 := Lib.hid (X'.out.trans hbel)
          clear hown hbel O' X' OL
          go_wp2_with fail
          go_meet
          exact ⟨s7, c7, rfl, O7, X7⟩
  case rest =>
  obtain ⟨s6, c6, hv, O6, X6⟩ := hcut
  subst hv
  clear O5 X5 Q6
  obtain ⟨v6, hv6⟩ : ∃ wv : World, wv = wc := ⟨_, rfl⟩
  rw [← hv6] at O6 X6 ⊢
  clear hv6 wc
  -- 7
  have Q7 := Lib.hid ((X6.out.block _ (row_lt Q1.out)).trans Q1.out)
  have y0 : World.cell? v6 ⟨w.heap.size, 0, none⟩ = some (.int .i64 a.has) := row_cell Q7.out 0
  have T7 := Lib.hid (TH.out 7 v6 (by decide) (by decide))
  go_wp2_with fail
  refine T7.out.mono ?_
  rintro e wz ⟨rfl, hz⟩
  subst hz
  clear T7 y0
  go_upto_if 106 with (fail)
  go_cut [4] from 106 to 116 (fun v4 wx => ∃ s c, v4 = .slice s (PR 7).length c ∧ Hid (OwnB wx w1.heap.size (.slice s (PR 7).length c) (PR 7)) ∧ Hid (Below w1.heap.size w1 wx))
  case first =>
    rcases hb : bt a 7 with _ | _
    · have E : Hid (PR 7 = PR 6) := Lib.hid (by rw [KS.out 6]; unfold knL; rw [if_neg (by rw [show isB a.has ((7 : Nat) : Int) = bt a 7 from rfl, hb]; decide), List.append_nil])
      clear hb
      go_wp2_with fail
      go_meet
      exact ⟨s6, c6, by rw [E.out], Lib.hid (by rw [E.out]; exact O6.out), X6⟩
    · as_aux_lemma =>
        have E : Hid (PR 7 = PR 6 ++ layL ((192 : Nat) : Int) ((7 : Nat) : Int) (numB a.aggrAs 2 ++ numB ((a.aggrId : Nat) : Int) 4)) := Lib.hid (by rw [KS.out 6]; unfold knL; rw [if_pos (by rw [show isB a.has ((7 : Nat) : Int) = bt a 7 from rfl, hb])]; congr 1)
        have LV : Hid ((numB a.aggrAs 2 ++ numB ((a.aggrId : Nat) : Int) 4).length ≤ 33554432) := Lib.hid (by have := val_len HC.out HP.out (t := 7) (by rw [show isB a.has ((7 : Nat) : Int) = bt a 7 from rfl, hb]); simpa [valL] using this)
        have LT : Hid (∀ y ∈ numB a.aggrAs 2 ++ numB ((a.aggrId : Nat) : Int) 4, y < 256) := Lib.hid (by have := val_lt a 7; simpa [valL] using this)
        clear hb
        have NE := Lib.hid (own_ne O6.out Q7.out (by decide))
        have C6 : Hid (v6.cell? ⟨w.heap.size, 6, none⟩ = some (.int .i64 a.aggrAs)) := Lib.hid (row_cell Q7.out 6)
        have C7 : Hid (v6.cell? ⟨w.heap.size, 7, none⟩ = some (.int .i64 ((a.aggrId : Nat) : Int))) := Lib.hid (row_cell Q7.out 7)
        have CB1 := Lib.hid (fun W => BY.out a.aggrAs 2 W NN.out.2.2.2.2.1.1 NN.out.2.2.2.2.1.2 (by decide))
        have CB2 := Lib.hid (fun W => BY.out ((a.aggrId : Nat) : Int) 4 W NN.out.2.2.2.2.2.1 NN.out.2.2.2.2.2.2 (by decide))
        have CL := Lib.hid (fun u W (h : BytesAt W u (numB a.aggrAs 2 ++ numB ((a.aggrId : Nat) : Int) 4)) => r_lay 192 7 u _ W (by decide) (by decide) h (by rw [List.length_append, numB_len, numB_len]; decide))
        have LL := Lib.hid (lay_len ((192 : Nat) : Int) ((7 : Nat) : Int) (numB a.aggrAs 2 ++ numB ((a.aggrId : Nat) : Int) 4))
        have LQ := Lib.hid (fun y (h : y ∈ layL ((192 : Nat) : Int) ((7 : Nat) : Int) (numB a.aggrAs 2 ++ numB ((a.aggrId : Nat) : Int) 4)) => lay_lt _ _ LT.out y h)
        have LP : Hid (0 < (layL ((192 : Nat) : Int) ((7 : Nat) : Int) (numB a.aggrAs 2 ++ numB ((a.aggrId : Nat) : Int) 4)).length) := Lib.hid (lay_pos _ _ _)
        generalize layL ((192 : Nat) : Int) ((7 : Nat) : Int) (numB a.aggrAs 2 ++ numB ((a.aggrId : Nat) : Int) 4) = Z at E CL LL LQ LP
        have X6s := Lib.hid X6.out.size
        go_upto_region 31 with (fail)
        have OD := O6.out.below (Below.refl _ _).drew
        have XD := (Below.refl v6.heap.size v6).drew
        have G6 := Lib.hid (own_lt O6.out)
        refine wp_region_held_drew (S := fun w' => Kept (fun b => (Value.slice s6 (PR 6).length c6).ownBlock = some b) v6 w') (by kernel_rfl) ?_ (fun hHeld => ?_)
        · exact (Kept.refl _ _).drew
        generalize World.drew v6 = wd at OD XD hHeld ⊢
        refine rgy (i := 0) (v := ?_) (atN rfl) (by kernel_rfl) (fun _ _ _ h => h) ?_ ?_ hHeld ?_; rotate_left 1; (· rfl); (· intro w' hSw; (try clear hHeld); go_simp; try with_reducible rfl)
        try simp only [Act.put, List.setIfInBounds_toArray, List.set_cons_zero, List.set_cons_succ]
        refine rgy (i := 1) (v := ?_) (atN rfl) (by kernel_rfl) (fun _ _ _ h => h) ?_ ?_ hHeld ?_; rotate_left 1; (· rfl); (· intro w' hSw; (try clear hHeld); go_simp; try with_reducible rfl)
        try simp only [Act.put, List.setIfInBounds_toArray, List.set_cons_zero, List.set_cons_succ]
        refine rgy (i := 2) (v := ?_) (atN rfl) (by kernel_rfl) (fun _ _ _ h => h) ?_ ?_ hHeld ?_; rotate_left 1; (· rfl); (· intro w' hSw; have y6 := hSw.cell C6.out NE.out; have y7 := hSw.cell C7.out NE.out; (try clear hHeld); go_simp; try with_reducible rfl)
        try simp only [Act.put, List.setIfInBounds_toArray, List.set_cons_zero, List.set_cons_succ]
        refine rgy (i := 4) (v := ?_) (atN rfl) (by kernel_rfl) (fun _ _ _ h => h) ?_ ?_ hHeld ?_; rotate_left 1; (· rfl); (· intro w' hSw; (try clear hHeld); go_simp; try with_reducible rfl)
        try simp only [Act.put, List.setIfInBounds_toArray, List.set_cons_zero, List.set_cons_succ]
        refine rgy (i := 5) (v := ?_) (atN rfl) (by kernel_rfl) (fun _ _ _ h => h) ?_ ?_ hHeld ?_; rotate_left 1; (· rfl); (· intro w' hSw; have y6 := hSw.cell C6.out NE.out; have y7 := hSw.cell C7.out NE.out; (try clear hHeld); go_simp; try with_reducible rfl)
        try simp only [Act.put, List.setIfInBounds_toArray, List.set_cons_zero, List.set_cons_succ]
        refine rg_call (i := 3) (atN rfl) (by kernel_rfl) ?_ (fun K hK => ?_); (· rfl); (try clear hb); go_simp; (refine (CB1.out _).mono ?_; rintro e wb ⟨sb, cb, rfl, ob, bb⟩); have OB := Lib.hid (ownB_base ob XD.size); have O3 := Lib.hid (OwnB.below OD bb); have XB := Lib.hid (below_on XD bb); clear ob bb OD XD hHeld; go_wp2_with fail; refine hK.out _ _ ?_ (fun hHeld => ?_); (· exact Kept.of_below XB.out); clear hK K
        try simp only [Act.put, List.setIfInBounds_toArray, List.set_cons_zero, List.set_cons_succ]
        refine rg_call (i := 6) (atN rfl) (by kernel_rfl) ?_ (fun K hK => ?_); (· rfl); (try clear hb); go_simp; (refine (CB2.out _).mono ?_; rintro e wf ⟨sf, cf, rfl, of', bf⟩); have OB' := Lib.hid (OwnB.below OB.out bf); have VF := Lib.hid (ownB_bytes of' (numB_lt _ _)); have O4 := Lib.hid (OwnB.below O3.out bf); have XF := Lib.hid (below_on XB.out bf); clear of' bf OB O3 XB; go_wp2_with fail; refine hK.out _ _ ?_ (fun hHeld => ?_); (· exact Kept.of_below XF.out); clear hK K
        try simp only [Act.put, List.setIfInBounds_toArray, List.set_cons_zero, List.set_cons_succ]
        refine rg_call (i := 7) (atN rfl) (by kernel_rfl) ?_ (fun K hK => ?_); (· rfl); (try clear hb); refine wp_appB (.tmp 110) (.tmp 113) rfl v6.heap.size _ _ (numB a.aggrAs 2) (numB ((a.aggrId : Nat) : Int) 4) _ rfl rfl rfl XF.out.size OB'.out VF.out (by rw [numB_len]; decide) (by rw [numB_len, numB_len]; decide) ?_; intro s7 c7 w7 hown hbel hk7; have VG := Lib.hid (ownB_bytes hown LT.out); have XG := Lib.hid (XF.out.trans hbel); have O5' := Lib.hid (ownB_kept O4.out hk7 (fun g hg h => by have := own_form_le OB'.out g h; have := G6.out g hg; omega)); clear hown hbel hk7 OB' VF O4 XF; refine hK.out _ _ ?_ (fun hHeld => ?_); (· exact Kept.of_below XG.out); clear hK K
        try simp only [Act.put, List.setIfInBounds_toArray, List.set_cons_zero, List.set_cons_succ]
        refine rg_call (i := 8) (atN rfl) (by kernel_rfl) ?_ (fun K hK => ?_); (· rfl); (try clear hb); go_simp; (refine (CL.out _ _ VG.out).mono ?_; rintro e wl ⟨sl, cl, rfl, ol, bl⟩); have OL := Lib.hid (ownB_bytes ol LQ.out); have O8' := Lib.hid (OwnB.below O5'.out bl); have XH := Lib.hid (below_on XG.out bl); clear ol bl O5' XG VG; go_wp2_with fail; refine hK.out _ _ ?_ (fun hHeld => ?_); (· exact Kept.of_below XH.out); clear hK K
        try simp only [Act.put, List.setIfInBounds_toArray, List.set_cons_zero, List.set_cons_succ]
        refine rg_call (i := 9) (atN rfl) (by kernel_rfl) ?_ (fun K hK => ?_); (· rfl); (try clear hb); refine wp_appB (.tmp 107) (.tmp 115) rfl w1.heap.size _ _ (PR 6) Z (PR 7) E.out rfl rfl (Nat.le_trans X6s.out XH.out.size) O8'.out OL.out LP.out (by have := LL.out; have := LV.out; have := KL.out 6; omega) ?_; intro s8 c8 w8 hown hbel hk8; have O8 := Lib.hid hown; have KI : Hid (Kept (fun b => (Value.slice s6 (PR 6).length c6).ownBlock = some b) v6 w8) := Lib.hid ((Kept.of_below XH.out).trans hk8); have X8 : Hid (Below w1.heap.size w1 w8) := Lib.hid ((X6.out.trans (XH.out.mono X6s.out)).trans hbel); clear hown hbel hk8; refine hK.out _ _ ?_ (fun hHeld => ?_); (· exact KI.out); clear hK K
        try simp only [Act.put, List.setIfInBounds_toArray, List.set_cons_zero, List.set_cons_succ]
        refine rgy (i := 10) (v := ?_) (atN rfl) (by kernel_rfl) (fun _ _ _ h => h) ?_ ?_ hHeld ?_; rotate_left 1; (· rfl); (· intro w' hSw; (try clear hHeld); go_simp; try with_reducible rfl)
        try simp only [Act.put, List.setIfInBounds_toArray, List.set_cons_zero, List.set_cons_succ]
        refine wpAnyH_done (by kernel_rfl) ?_ _
        go_wp2_with fail
        go_meet
        exact ⟨s8, c8, rfl, O8, X8⟩
  case rest =>
  obtain ⟨s7, c7, hv, O7, X7⟩ := hcut
  subst hv
  clear O6 X6 Q7
  obtain ⟨v7, hv7⟩ : ∃ wv : World, wv = wc := ⟨_, rfl⟩
  rw [← hv7] at O7 X7 ⊢
  clear hv7 wc
  -- 8
  have Q8 := Lib.hid ((X7.out.block _ (row_lt Q1.out)).trans Q1.out)
  have y0 : World.cell? v7 ⟨w.heap.size, 0, none⟩ = some (.int .i64 a.has) := row_cell Q8.out 0
  have T8 := Lib.hid (TH.out 8 v7 (by decide) (by decide))
  go_wp2_with fail
  refine T8.out.mono ?_
  rintro e wz ⟨rfl, hz⟩
  subst hz
  clear T8 y0
  go_upto_if 119 with (fail)
  go_cut [4] from 119 to 136 (fun v4 wx => ∃ s c, v4 = .slice s (PR 8).length c ∧ Hid (OwnB wx w1.heap.size (.slice s (PR 8).length c) (PR 8)) ∧ Hid (Below w1.heap.size w1 wx))
  case first =>
    rcases hb : bt a 8 with _ | _
    · have E : Hid (PR 8 = PR 7) := Lib.hid (by rw [KS.out 7]; unfold knL; rw [if_neg (by rw [show isB a.has ((8 : Nat) : Int) = bt a 8 from rfl, hb]; decide), List.append_nil])
      clear hb
      go_wp2_with fail
      go_meet
      exact ⟨s7, c7, by rw [E.out], Lib.hid (by rw [E.out]; exact O7.out), X7⟩
    · as_aux_lemma =>
        have HS := Lib.hid (comms_nat HC.out (show isB a.has ((8 : Nat) : Int) = true from hb))
        have LC := Lib.hid (comms_len (check_comms HC.out (show isB a.has ((8 : Nat) : Int) = true from hb)))
        have E : Hid (PR 8 = PR 7 ++ layL ((192 : Nat) : Int) ((8 : Nat) : Int) (commL a.comms)) := Lib.hid (by rw [KS.out 7]; unfold knL; rw [if_pos (by rw [show isB a.has ((8 : Nat) : Int) = bt a 8 from rfl, hb])]; congr 1)
        have LV : Hid ((commL a.comms).length ≤ 33554432) := Lib.hid (by have := val_len HC.out HP.out (t := 8) (by rw [show isB a.has ((8 : Nat) : Int) = bt a 8 from rfl, hb]); exact this)
        have LT : Hid (∀ y ∈ commL a.comms, y < 256) := Lib.hid (by exact val_lt a 8)
        clear hb
        as_aux_lemma =>
          have LP : Hid (∀ k, ((a.comms.take k).flatMap fun c => numB c 4).length ≤ 33554432) := Lib.hid (fun k => by
            have h1 := flatM_len (fun c : Int => numB c 4) 4 (a.comms.take k) (fun x _ => by rw [numB_len]; exact Nat.le_refl _)
            have h2 := List.length_take_le' k a.comms
            have h3 := LC.out
            omega)
          obtain ⟨Y, hY⟩ : ∃ Y : Nat → List Nat, Y = fun k => (a.comms.take k).flatMap fun c => numB c 4 := ⟨_, rfl⟩
          have YS : Hid (∀ k s, a.comms[k]? = some s → Y (k + 1) = Y k ++ numB s 4) := Lib.hid (fun k s h => by rw [hY]; exact flat_take (fun n => numB n 4) h)
          have Y0 : Hid (Y 0 = []) := Lib.hid (by rw [hY]; rfl)
          have YE : Hid (Y a.comms.length = commL a.comms) := Lib.hid (by rw [hY]; simp [commL])
          have YL : Hid (∀ k, (Y k).length ≤ 33554432) := Lib.hid (by rw [hY]; exact LP.out)
          clear hY LP
          go_upto_region 34 with (fail)
          obtain ⟨wB, hwB, oB, bB⟩ : ∃ wB, wB = v7.alloc (.cells #[] 5) ∧ OwnB wB v7.heap.size (.slice (some ⟨v7.heap.size, 0, none⟩) 0 0) [] ∧ Below v7.heap.size v7 wB := ⟨_, rfl, own_empty (Nat.le_refl _), (Below.refl _ _).alloc (Nat.le_refl _) _⟩
          rw [← hwB]
          have y2 : wB.cell? ⟨w.heap.size, 8, none⟩ = some (.slice sc a.comms.length cc) := cell_below (row_cell Q8.out 8) bB
          have OB := Lib.hid oB
          have BB := Lib.hid bB
          have hcl : a.comms.length ≤ 256 := LC.out
          clear hwB oB bB
          go_wp2_with fail
          clear y2
          go_loopw [124, 10] (fun i9 v5 wr => ∃ (k : Nat) (s5 : Option Addr) (c5 : Nat), k ≤ a.comms.length ∧ i9 = .int .i64 k ∧ v5 = .slice s5 (Y k).length c5 ∧ Hid (OwnB wr v7.heap.size (.slice s5 (Y k).length c5) (Y k)) ∧ Hid (Below v7.heap.size v7 wr)) (fun i9 _ _ => a.comms.length - (intOf i9).toNat)
          case atStart => exact ⟨0, some ⟨v7.heap.size, 0, none⟩, 0, by omega, rfl, by rw [Y0.out]; rfl, Lib.hid (by rw [Y0.out]; exact OB.out), BB⟩
          case round =>
            clear OB BB
            obtain ⟨k, s5, c5, hk, rfl, rfl, O, BR⟩ := hrel
            by_cases hlt : k < a.comms.length
            · obtain ⟨x, hx⟩ : ∃ x, a.comms[k]? = some x := ⟨_, List.getElem?_eq_getElem hlt⟩
              obtain ⟨g2, o2, rfl, p4⟩ := int_at HA.out.2.1 hx
              have c4 := cell_below p4 (below_on B1.out (below_on X7.out BR.out))
              have SX := HS.out x (List.mem_of_getElem? hx)
              have L2 := YL.out k
              have j0 : (0 : Int) ≤ (k : Int) := by omega
              have j1 : (k : Int) < (a.comms.length : Int) := by omega
              have CB := Lib.hid (fun W => BY.out x 4 W SX.1 SX.2 (by decide))
              have ZE := Lib.hid (YS.out k x hx)
              clear p4 hx SX
              go_wp2_with fail
              refine (CB.out wr).mono ?_
              rintro e wv ⟨sv, cv, rfl, ov, bv⟩
              have OV := Lib.hid (O.out.below bv)
              have XV := Lib.hid (below_on BR.out bv)
              have VB := Lib.hid (ownB_bytes ov (numB_lt _ _))
              clear ov bv O BR CB c4
              cases sv
              all_goals
                go_wp2_with (at_builtin; refine wpList_appB rfl _ _ rfl v7.heap.size _ _ (Y k) (numB x 4) (Y (k + 1)) ZE.out rfl rfl XV.out.size OV.out VB.out (by rw [numB_len]; omega) ?_)
                intro s8 c8 w8 hown hbel _
                have O8 := Lib.hid hown
                have B8 := Lib.hid (XV.out.trans hbel)
                clear hown hbel XV OV VB ZE
                go_wp2_with fail
                exact ⟨⟨k + 1, s8, c8, by omega, by go_num, rfl, O8, B8⟩, by simp [intOf]; omega⟩
            · obtain rfl : k = a.comms.length := by omega
              rw [YE.out] at O ⊢
              have VB := Lib.hid (ownB_bytes O.out LT.out)
              obtain ⟨wv, hwv⟩ : ∃ wv : World, wv = wr := ⟨_, rfl⟩
              rw [← hwv] at VB BR ⊢
              have OV : Hid (OwnB wv w1.heap.size (.slice s7 (PR 7).length c7) (PR 7)) := Lib.hid (O7.out.below BR.out)
              have XV := Lib.hid (below_on X7.out BR.out)
              clear O BR hwv YL YS Y0 YE HS LC
              cases s5
              all_goals
                have CL := Lib.hid (r_lay 192 8 (.slice _ (commL a.comms).length c5) (commL a.comms) wv (by decide) (by decide) VB.out (by have := LV.out; omega))
                clear VB
                go_wp2_with fail
                refine CL.out.mono ?_
                rintro e wl ⟨sl, cl, rfl, ol, bl⟩
                have OL := Lib.hid (ownB_bytes ol (lay_lt _ _ LT.out))
                have O' := Lib.hid (OV.out.below bl)
                have X' := Lib.hid (below_on XV.out bl)
                have LL := Lib.hid (lay_len ((192 : Nat) : Int) ((8 : Nat) : Int) (commL a.comms))
                generalize layL ((192 : Nat) : Int) ((8 : Nat) : Int) (commL a.comms) = Z at E OL LL ⊢
                clear ol bl OV XV CL
                cases sl
                all_goals
                  go_wp2_with (at_builtin; refine wpList_appB rfl _ _ rfl w1.heap.size _ _ (PR 7) Z (PR 8) E.out rfl rfl X'.out.size O'.out OL.out (by have := LL.out; have := LV.out; have := KL.out 7; omega) ?_)
                  intro s7 c7 w7 hown hbel _
                  have O7 := Lib.hid hown
                  have X7 := Lib.hid (X'.out.trans hbel)
                  clear hown hbel O' X' OL
                  go_wp2_with fail
                  go_meet
                  exact ⟨s7, c7, rfl, O7, X7⟩
  case rest =>
  obtain ⟨s8, c8, hv, O8, X8⟩ := hcut
  subst hv
  clear O7 X7 Q8
  obtain ⟨v8, hv8⟩ : ∃ wv : World, wv = wc := ⟨_, rfl⟩
  rw [← hv8] at O8 X8 ⊢
  clear hv8 wc
  as_aux_lemma =>
    have EC : Hid (encI a = if a.others.all (fun o => decide (o.2.length ≤ 4096)) then if (encL a).length ≤ 4096 then 0 else 6 else 6) := Lib.hid (by unfold encI; rw [HC.out]; rfl)
    have EL : Hid (encL a = PR 8 ++ a.others.flatMap othL) := Lib.hid (by rw [HK.out]; rfl)
    have Q9 := Lib.hid ((X8.out.block _ (row_lt Q1.out)).trans Q1.out)
    have y9 : World.cell? v8 ⟨w.heap.size, 9, none⟩ = some (.slice so a.others.length co) := row_cell Q9.out 9
    have OR := Lib.hid (oth_rng (check_oth HC.out) (by decide))
    have K8L := Lib.hid (KL.out 8)
    have hol := HO.out
    obtain ⟨ks, hks⟩ : ∃ ks, PR 8 = ks := ⟨_, rfl⟩
    rw [hks] at O8 K8L EL ⊢
    obtain ⟨X, hX⟩ : ∃ X : Nat → List Nat, X = fun k => ks ++ (a.others.take k).flatMap othL := ⟨_, rfl⟩
    have XS : Hid (∀ k o, a.others[k]? = some o → X (k + 1) = X k ++ othL o) := Lib.hid (fun k o h => by rw [hX]; simp only; rw [flat_take othL h, List.append_assoc])
    have XZ : Hid (X 0 = ks) := Lib.hid (by rw [hX]; simp)
    have XE : Hid (X a.others.length = encL a) := Lib.hid (by rw [EL.out, hX]; simp)
    have XL : Hid (∀ k, (∀ o ∈ a.others.take k, o.2.length ≤ 4096) → (X k).length ≤ 1099511627776) := Lib.hid (fun k h => by
      rw [hX]; simp only; rw [List.length_append]
      have h1 := oths_len h
      have h2 : (a.others.take k).length ≤ a.others.length := List.length_take_le' k a.others
      have := K8L.out
      omega)
    clear hks KL KS K0 HK TH BY NN HAS HP hX EL K8L
    go_wp2_with fail
    clear y9
    go_loopw [140, 4] (fun i v5 wr => ∃ (k : Nat) (s5 : Option Addr) (c5 : Nat), k ≤ a.others.length ∧ i = .int .i64 k ∧ v5 = .slice s5 (X k).length c5 ∧ Hid (OwnB wr w1.heap.size (.slice s5 (X k).length c5) (X k)) ∧ Hid (∀ o ∈ a.others.take k, o.2.length ≤ 4096) ∧ Hid (Below w1.heap.size w1 wr)) (fun i _ _ => a.others.length - (intOf i).toNat)
    case atStart => exact ⟨0, s8, c8, by omega, rfl, by rw [XZ.out], Lib.hid (by rw [XZ.out]; exact O8.out), Lib.hid (by simp), X8⟩
    case round =>
      clear O8 X8 Q9
      obtain ⟨k, s5, c5, hk, rfl, rfl, O, AL, BR⟩ := hrel
      by_cases hlt : k < a.others.length
      · obtain ⟨ob, hoo⟩ : ∃ o, a.others[k]? = some o := ⟨_, List.getElem?_eq_getElem hlt⟩
        have BW := Lib.hid (below_on B1.out BR.out)
        obtain ⟨g, o, e0, e1, rfl, ⟨u, hu, hrg, hin⟩, p0', p1'⟩ := pair_at HA.out.2.2 hoo
        injection hu with e1 e2; injection e2 with e2 _; subst e1; subst e2
        have p0 := cell_below p0' BW.out
        have p1 := cell_below p1' BW.out
        have HU := Lib.hid (BytesAt.below hin BW.out)
        obtain ⟨su, cu, rfl, hlu, hcu, -⟩ := hin
        have ST := XS.out k ob hoo
        have TS : Hid (a.others.take (k + 1) = a.others.take k ++ [ob]) := Lib.hid (by rw [List.take_add_one, hoo]; rfl)
        have OM := Lib.hid (List.mem_of_getElem? hoo)
        obtain ⟨t0, t1⟩ := OR.out ob OM.out
        have k0 : (0 : Int) ≤ (k : Int) := by omega
        have k1 : (k : Int) < (a.others.length : Int) := by omega
        obtain ⟨ot, ov⟩ := ob
        obtain ⟨t, rfl⟩ := Int.eq_ofNat_of_zero_le t0
        simp only at p0 p1 HU hlu hcu t1
        have hl63 : ov.length ≤ 9223372036854775807 := Nat.le_trans hlu hcu
        have ZE : Hid (X (k + 1) = X k ++ layL ((224 : Nat) : Int) ((t : Nat) : Int) ov) := Lib.hid ST
        have LX := Lib.hid (XL.out k AL.out)
        clear p0' p1' hoo ST hlu hcu hrg t0
        go_upto_region 43 with (fail)
        obtain ⟨w2, hw2, q2, hb2, -⟩ := box1 wr #[.int .i64 ((t : Nat) : Int), .slice su ov.length cu] 76
        rw [← hw2]
        have z0 : w2.cell? ⟨wr.heap.size, 0, none⟩ = some (.int .i64 ((t : Nat) : Int)) := row_cell q2 0
        have z1 : w2.cell? ⟨wr.heap.size, 1, none⟩ = some (.slice su ov.length cu) := row_cell q2 1
        have O2 := Lib.hid (O.out.below hb2)
        have B2 := Lib.hid (BR.out.trans (hb2.mono BR.out.size))
        have H2 := Lib.hid (BytesAt.below HU.out hb2)
        clear hw2 q2 hb2 p0 p1 O BR BW HU
        by_cases hl : ov.length ≤ 4096
        · have e1 : decide ((ov.length : Int) > 4096) = false := by simp; omega
          have CL := Lib.hid (r_lay 224 t (.slice su ov.length cu) ov w2 (by decide) (by omega) H2.out (by omega))
          have HL := Lib.hid hl
          have VL := Lib.hid (bytes_rng H2.out)
          have LL := Lib.hid (lay_len ((224 : Nat) : Int) ((t : Nat) : Int) ov)
          have LQ := Lib.hid (lay_lt ((224 : Nat) : Int) ((t : Nat) : Int) VL.out)
          have A3 : Hid (∀ o ∈ a.others.take (k + 1), o.2.length ≤ 4096) := Lib.hid (by
            rw [TS.out]
            intro x hx
            rcases List.mem_append.1 hx with hx | hx
            · exact AL.out x hx
            · rw [List.mem_singleton.1 hx]; exact hl)
          clear hl AL TS OM VL
          generalize layL ((224 : Nat) : Int) ((t : Nat) : Int) ov = Z at CL LL LQ ZE
          go_wp2_with fail
          refine CL.out.mono ?_
          rintro e wl ⟨sl, cl, rfl, ol, bl⟩
          have OL := Lib.hid (ownB_bytes ol LQ.out)
          have O' := Lib.hid (O2.out.below bl)
          have X' := Lib.hid (below_on B2.out bl)
          clear ol bl O2 B2 CL H2 LQ z0 z1
          cases sl
          all_goals
            go_wp2_with (at_builtin; refine wpList_appB rfl _ _ rfl w1.heap.size _ _ (X k) Z (X (k + 1)) ZE.out rfl rfl X'.out.size O'.out OL.out (by have := LL.out; have := HL.out; have := LX.out; omega) ?_)
            intro s7 c7 w7 hown hbel _
            have O7 := Lib.hid hown
            have X7 := Lib.hid (X'.out.trans hbel)
            clear hown hbel O' X' OL ZE
            go_wp2_with fail
            exact ⟨⟨k + 1, s7, c7, by omega, by go_num, rfl, O7, A3, X7⟩, by simp [intOf]; omega⟩
        · have e1 : decide ((ov.length : Int) > 4096) = true := by simp; omega
          have E6 : Hid (encI a = 6) := Lib.hid (by
            rw [EC.out, if_neg]
            intro h
            have := List.all_eq_true.1 h _ OM.out
            simp only [decide_eq_true_eq] at this
            exact hl this)
          clear hl
          go_wp2_with fail
          exact bodyPost_ret (v := .tuple #[.slice none 0 0, .int .i64 6]) (by simp [results, Tryd.results16, go_sem]) rfl ⟨.slice none 0 0, by rw [E6.out], fun h => absurd (E6.out ▸ h) (by decide), fun _ => rfl, below_on B1.out B2.out⟩
      · obtain rfl : k = a.others.length := by omega
        rw [XE.out] at O ⊢
        have AA : a.others.all (fun o => decide (o.2.length ≤ 4096)) = true := by
          rw [List.all_eq_true]
          intro x hx
          have := AL.out
          rw [List.take_length] at this
          simpa using this x hx
        have EC2 : Hid (encI a = if (encL a).length ≤ 4096 then 0 else 6) := Lib.hid (by rw [EC.out, if_pos AA])
        have BF := Lib.hid (below_on B1.out BR.out)
        clear AA EC AL
        by_cases hl : (encL a).length ≤ 4096
        · have e1 : decide (((encL a).length : Int) > 4096) = false := by simp; omega
          have E6 : Hid (encI a = 0) := Lib.hid (by rw [EC2.out, if_pos hl])
          clear EC2
          go_wp2_with fail
          exact bodyPost_ret (v := .tuple #[.slice s5 (encL a).length c5, .int .i64 0]) (by simp [results, Tryd.results16, go_sem]) rfl ⟨.slice s5 (encL a).length c5, by rw [E6.out], fun _ => ownB_base O.out B1.out.size, fun h => absurd E6.out h, BF.out⟩
        · have e1 : decide (((encL a).length : Int) > 4096) = true := by simp; omega
          have E6 : Hid (encI a = 6) := Lib.hid (by rw [EC2.out, if_neg hl])
          clear EC2
          go_wp2_with fail
          exact bodyPost_ret (v := .tuple #[.slice none 0 0, .int .i64 6]) (by simp [results, Tryd.results16, go_sem]) rfl ⟨.slice none 0 0, by rw [E6.out], fun h => absurd (E6.out ▸ h) (by decide), fun _ => rfl, BF.out⟩
end Go.Proofs.YtohkbcdnlmjcjaaDoor
