/- Texts of one proof, one behind another. -/
import Derived.Test.YtadlecnlgkhneaaOw21
import Derived.Test.YtadlecnlgkhneaaOw23
/-
  AdjOwn walked: what is told is new memory; what was handed in may be changed.
-/
namespace Go.Proofs.Ytadlecnlgkhneaa
open Go.RowKit

theorem own_1 {own : Int} {p : Pf} {a : At} (hp : rightB p.1 p.2 = true) : ∃ T, updP own 5 [] 2 [] [p] a = (0, T, if passB a.path own then [] else [(p, a)]) := by
  have h1 : saidP [] [p] = [p] := setOf_one p
  cases ha : passB a.path own with
  | true =>
    have h2 : netsP own [p] a = [] := by unfold netsP; rw [ha]; rfl
    refine ⟨[p].filter (turnB [] [] a), ?_⟩
    unfold updP
    rw [if_pos rfl, h1, h2, if_pos (rights_all (by simpa using hp)), if_neg (by simp [cntP, hadB, getL])]
    rfl
  | false =>
    have h2 : netsP own [p] a = [p] := by unfold netsP; rw [ha]; exact setOf_one p
    refine ⟨[p].filter (turnB [] [p] a), ?_⟩
    unfold updP
    rw [if_pos rfl, h1, h2, if_pos (rights_all (by simpa using hp)), if_neg (by simp [cntP, hadB, getL])]
    rfl
theorem own_2 {own : Int} {p : Pf} {a : At} (hp : rightB p.1 p.2 = true) (hb : passB a.path own = false) : updP own 5 [(p, a)] 2 [] [p] a = (0, [], [(p, a)]) := by
  have h1 : saidP [] [p] = [p] := setOf_one p
  have h2 : netsP own [p] a = [p] := by unfold netsP; rw [hb]; exact setOf_one p
  have h3 : [p].filter (turnB [(p, a)] [p] a) = [] := by
    have : turnB [(p, a)] [p] a p = false := by unfold turnB; rw [getL_self]; simp [sameA_refl]
    rw [List.filter_cons, this]
    simp
  have h4 : putAll (dropAll [(p, a)] [p]) [p] a = [(p, a)] := by
    show putP (delL [(p, a)] p) p a = _
    rw [delL_self]
    rfl
  unfold updP
  rw [if_pos rfl, h1, h2, if_pos (rights_all (by simpa using hp)), if_neg (by simp [cntP, hadB, getL_self]), h3, h4]
theorem On.withinN {w : World} {Q : World → Prop} {lo : Nat} (h : Fresh lo w Q) : On (fun k => lo ≤ k ∧ k < w.heap.size) w Q := h.wide fun _ hk hl => ⟨hk, hl⟩
theorem own_3 {p : Pf} {a : At} {vs : List RE} (hs : (vs.map (·.p)).Pairwise plt) (hm : ∀ q, q ∈ vs.map (·.p) ↔ (getL [(p, a)] q).isSome = true) : ∃ y, vs = [y] ∧ y.p = p := by
  have key : ∀ x ∈ vs, x.p = p := fun x hx => by
    have := (hm x.p).1 (List.mem_map_of_mem hx)
    by_cases e : p = x.p
    · exact e.symm
    · simp [getL, e] at this
  match vs, hs, hm, key with
  | [], _, hm, _ => exact absurd ((hm p).2 (by rw [getL_self]; rfl)) (by simp)
  | [y], _, _, key => exact ⟨y, rfl, key y (by simp)⟩
  | y :: z :: l, hs, _, key =>
    simp only [List.map_cons, List.pairwise_cons] at hs
    have h1 := hs.1 z.p (by simp)
    rw [key y (by simp), key z (by simp)] at h1
    unfold plt at h1
    omega
theorem range_below {w w' : World} {b o : Nat} {cs : List Value} (h : w.rangeAt b o cs) (hb : Below w.heap.size w w') : w'.rangeAt b o cs := fun j v hv => cell_below (h j v hv) hb
theorem re_range {w : World} {B n c g : Nat} {peer : Int} {y : RE} (h : w.ownsRow B 48 13 (.slice (some ⟨g, 0, none⟩) n c) n (rtL peer y)) : w.rangeAt g 3 y.v.C.toList := by
  intro j v hj
  have hl : j < 10 := (List.getElem?_eq_some_iff.1 hj).1
  refine (own_row_cell h rfl (j := 3 + j) (u := v) ?_).1
  rw [← hj]
  show (.int .i64 peer :: .int .u32 y.p.1 :: .int .i64 y.p.2 :: y.v.C.toList)[3 + j]? = _
  rw [Nat.add_comm]
  rfl
set_option maxHeartbeats 25600000 in
set_option maxRecDepth 100000 in
theorem law_AdjOwn (a : At) (u : AV) (n : Int) (w : World) (ha : AvAt w a u) (za : AtSz a) : Calls Try.prog 5 #[u.V, .int .i64 n] w fun e w' => e = .returned (.bool true) ∧ Below w.heap.size w w' := by
  obtain ⟨k, hk⟩ : ∃ k : Nat, n % 128 = k := Int.eq_ofNat_of_zero_le (by omega)
  have hand : bits .and .i64 n 127 = (k : Int) := by rw [and_127, hk]
  have HA := Lib.hid ha
  have ZA := Lib.hid za
  have K7 : Hid (k < 256) := Lib.hid (by omega)
  obtain ⟨ps, pc, cs, cc, os, oc, rfl, hal⟩ := ha
  have AL := Lib.hid hal
  obtain ⟨ps', pc', e, -, pl, -⟩ := id hal.1
  have pl : pc' ≤ 9223372036854775807 := pl
  clear za hk hal e pl
  have pl : a.path.length ≤ 9223372036854775807 := by obtain ⟨_, _, _, h1, h2, -⟩ := AL.out.1; exact Nat.le_trans h1 h2
  go_enter Try.func5, Try.ntmps5
  go_upto_region 1 with (fail)
  obtain ⟨W0, hW0, qa, hb0, -⟩ := box1 w (avOf a ps pc cs cc os oc).C 35
  rw [← hW0]
  clear hW0
  have QA0 := Lib.hid qa
  have B0 := Lib.hid hb0
  clear qa hb0
  go_wp2_with fail
  refine (law_head W0).mono ?_
  rintro e w1 ⟨rfl, hb1⟩
  have QA := Lib.hid ((hb1.block _ (row_lt QA0.out)).trans QA0.out)
  have B1 := Lib.hid (below_on B0.out hb1)
  clear hb1 QA0 B0
  have y2 : w1.cell? ⟨w.heap.size, 2, none⟩ = some (.slice ps a.path.length pc) := row_cell QA.out 2
  have y8 : w1.cell? ⟨w.heap.size, 8, none⟩ = some (.slice cs a.comms.length cc) := row_cell QA.out 8
  have y9 : w1.cell? ⟨w.heap.size, 9, none⟩ = some (.slice os a.others.length oc) := row_cell QA.out 9
  go_upto_region 3 with (fail)
  go_cut [36] (fun s wx => ∃ c : Bool, s = .bool c ∧ w1 = wx)
  case first =>
    rcases hc1 : decide ((a.path.length : Int) > 6) with _ | _
    · rcases hc2 : decide ((a.comms.length : Int) > 40) with _ | _
      · rcases hc3 : decide ((a.others.length : Int) > 5) with _ | _
        · go_wp2_with fail
          go_meet
          exact ⟨_, rfl, rfl⟩
        · go_wp2_with fail
          go_meet
          exact ⟨_, rfl, rfl⟩
      · go_wp2_with fail
        go_meet
        exact ⟨_, rfl, rfl⟩
    · go_wp2_with fail
      go_meet
      exact ⟨_, rfl, rfl⟩
  case rest =>
    obtain ⟨c, rfl, rfl⟩ := hcut
    cases c with
    | true =>
      clear y2 y8 y9
      go_wp2_with fail
      go_ret
      exact ⟨rfl, B1.out⟩
    | false =>
      clear y8 y9
      go_wp2_with fail
      clear y2
      go_loopw [40] (fun t wr => ∃ i : Nat, i ≤ a.path.length ∧ t = .int .i64 i ∧ Hid (Below w1.heap.size w1 wr)) (fun t _ => a.path.length - (intOf t).toNat)
      case atStart => exact ⟨0, by omega, rfl, Lib.hid (Below.refl _ _)⟩
      case round =>
        obtain ⟨i, hi, rfl, BR⟩ := hrel
        by_cases hlt : i < a.path.length
        · obtain ⟨sg, hsg⟩ : ∃ sg, a.path[i]? = some sg := ⟨_, List.getElem?_eq_getElem hlt⟩
          have PA := (AL.out.below (below_on B1.out BR.out)).1
          obtain ⟨s', c', e, -, -, h3⟩ := id PA
          injection e with e _ ec
          subst e; subst ec
          obtain ⟨g, o, rfl, -⟩ := h3 (by omega)
          obtain ⟨c0, c1, ⟨x, hx, hin⟩, y3, y4⟩ := pair_cells PA hsg
          injection hx with hx1 hx2
          injection hx2 with hx2 _
          subst hx1; subst hx2
          obtain ⟨su, cu, rfl, -, ml, -⟩ := hin
          have i0 : (0 : Int) ≤ (i : Int) := by omega
          have i1 : (i : Int) < (a.path.length : Int) := by omega
          clear PA h3 hsg ml
          generalize sg.1 = b at y3
          generalize sg.2.length = m at y4
          go_upto_region 8 with (fail)
          obtain ⟨W2, hW2, q2, hb2, -⟩ := box1 wr #[.bool b, .slice su m cu] 54
          rw [← hW2]
          have B2 := Lib.hid (below_on BR.out hb2)
          have y5 : W2.cell? ⟨wr.heap.size, 1, none⟩ = some (.slice su m cu) := row_cell q2 1
          clear hW2 q2 hb2 y3 y4 BR
          rcases hc : decide ((m : Int) > 60) with _ | _
          · go_wp2_with fail
            exact ⟨⟨i + 1, by omega, by go_num, B2⟩, by simp [intOf]; omega⟩
          · go_wp2_with fail
            go_ret
            exact ⟨rfl, below_on B1.out B2.out⟩
        · obtain rfl : i = a.path.length := by omega
          clear hi hlt
          have B2 := Lib.hid (below_on B1.out BR.out)
          have QA2 := Lib.hid ((BR.out.block _ (row_lt QA.out)).trans QA.out)
          obtain ⟨w2, hw2⟩ : ∃ w2, w2 = wr := ⟨_, rfl⟩
          subst hw2
          clear QA B1 BR
          go_wp2_with fail
          refine (l_net k K7.out w2).mono ?_
          rintro e w7 ⟨rfl, hb7⟩
          have OP : Hid (OkP (netP k)) := Lib.hid (netP_ok K7.out)
          have RP : Hid (rightB (netP k).1 (netP k).2 = true) := Lib.hid (netP_right k)
          generalize netP k = p at OP RP ⊢
          have B7 := Lib.hid (below_on B2.out hb7)
          have QA7 := Lib.hid ((hb7.block _ (row_lt QA2.out)).trans QA2.out)
          clear hb7 B2 QA2
          go_upto_region 12 with (fail)
          obtain ⟨w8, hw8, c0, c1, hb8⟩ := box2 w7 (.int .u32 p.1) (.int .i64 p.2) 29
          rw [← hw8]
          clear hw8
          have B8 := Lib.hid (below_on B7.out hb8)
          have QA8 := Lib.hid ((hb8.block _ (row_lt QA7.out)).trans QA7.out)
          have HA8 := Lib.hid (HA.out.below B8.out)
          have C0 := Lib.hid c0
          have C1 := Lib.hid c1
          clear hb8 B7 QA7 HA c0 c1
          go_wp2_with fail
          refine (ad_New 3 (-1) 5 w8).mono ?_
          rintro e w9 ⟨rb, rfl, hr, hb9⟩
          have L9 : LR w8 w9 rb 3 (-1) 5 [] (fun k => w8.heap.size ≤ k ∧ k < w9.heap.size) := lr_new (Below.refl _ _) hr hb9
          generalize (fun k => w8.heap.size ≤ k ∧ k < w9.heap.size : Nat → Prop) = F1 at L9
          have L9 := Lib.hid L9
          have CL := Lib.hid (av_CloneU a (avOf a ps pc cs cc os oc) w9 (HA8.out.below L9.out.bel) ZA.out)
          have QA9 := Lib.hid ((L9.out.bel.block _ (row_lt QA8.out)).trans QA8.out)
          clear hr hb9
          go_wp2_with ((with_reducible refine halt_at (X := .load 35 (.tmp 2)) ?_ ?_); (· rfl))
          unfold Halt
          refine ld_at (by rfl) 35 (.tmp 2) rfl w.heap.size rfl 35 (avOf a ps pc cs cc os oc).C (0, 0) _ QA9.out Try.underlying35 rfl sz_av ?_
          go_wp2_with fail
          refine CL.out.mono ?_
          rintro e w10 ⟨um, rfl, fr, hb10⟩
          have FM := Lib.hid fr.withinN
          have FMS := Lib.hid hb10.size
          have L10 := Lib.hid (L9.out.below hb10)
          have LO : Hid (∀ k, F1 k → k < w9.heap.size) := Lib.hid L9.out.flt
          have L9S : Hid (w8.heap.size ≤ w9.heap.size) := Lib.hid L9.out.bel.size
          clear CL fr hb10 QA9 L9
          have UV : um.V = .agg um.C := rfl
          go_wp2_with ((with_reducible refine halt_at (X := .store 35 (.tmp 9) (.tmp 54)) ?_ ?_); (· rfl))
          unfold Halt
          clear UV
          refine st_fresh rfl 35 (.tmp 9) (.tmp 54) rfl rfl _ um.C rfl sz_av rfl (by simp [Value.oneCell']) ?_
          obtain ⟨w11, hw11, qm, hb11, -⟩ := box1 w10 um.C 35
          rw [← hw11]
          clear hw11
          have QM11 := Lib.hid qm
          have FM11 := Lib.hid (FM.out.below hb11)
          have S11 := Lib.hid hb11.size
          have L11 := Lib.hid (L10.out.below hb11)
          have c0 := cell_below C0.out L11.out.bel
          have c1 := cell_below C1.out L11.out.bel
          clear qm hb11 FM L10
          go_wp2_with ((with_reducible refine halt_at (X := .load 35 (.tmp 9)) ?_ ?_); (· rfl))
          obtain ⟨w12, hw12, hb12⟩ : ∃ w12, w12 = w11.alloc (.cells #[.int .u32 p.1, .int .i64 p.2] 29) ∧ Below w11.heap.size w11 w12 := ⟨_, rfl, (Below.refl _ _).alloc (Nat.le_refl _) _⟩
          have P12 : Hid (PsAt w12 (.slice (some ⟨w11.heap.size, 0, none⟩) 1 1) [p]) := Lib.hid (by rw [hw12]; exact psAt_new w11 p 29 OP.out)
          have L12 := Lib.hid (L11.out.below hb12)
          have QM12 := Lib.hid ((hb12.block _ (row_lt QM11.out)).trans QM11.out)
          have FM12 := Lib.hid (FM11.out.below hb12)
          have S12 : Hid (w10.heap.size ≤ w12.heap.size) := Lib.hid (Nat.le_trans S11.out hb12.size)
          rw [← hw12]
          clear hw12 hb12 c0 c1 L11 QM11 FM11 S11
          unfold Halt
          refine ld_at (by rfl) 35 (.tmp 9) rfl w10.heap.size rfl 35 um.C (0, 0) _ QM12.out Try.underlying35 rfl sz_av ?_
          go_wp2_with fail
          obtain ⟨T1, hu1⟩ := own_1 (own := -1) (p := p) (a := a) RP.out
          refine (ad_Update (mgV none 0 0 um (some ⟨w11.heap.size, 0, none⟩) 1 1) [] [p] a w12 L12.out.rib SlAt.nil P12.out (fun W hk => (FM12.out.kept hk (fun k _ h1 h2 => by have := LO.out k h2; omega)).self.at) (by simp) ZA.out).mono ?_
          intro e w13 hp
          rw [show updP (-1) 5 [] (mgV none 0 0 um (some ⟨w11.heap.size, 0, none⟩) 1 1).kind [] [p] a = _ from hu1] at hp
          obtain ⟨v13, F2, rfl, -, l13, hF2, -, hk13⟩ := L12.out.upd hp
          have FM13 := Lib.hid (FM12.out.kept hk13 (fun k _ h1 h2 => by have := LO.out k h2; omega))
          have LO2 : Hid (∀ k, F2 k → ¬ (w9.heap.size ≤ k ∧ k < w10.heap.size)) := Lib.hid fun k hk h => by
            rcases hF2 k hk with h1 | h1
            · have := LO.out k h1; omega
            · have := S12.out; omega
          have QM13 := Lib.hid ((hk13.block _ (row_lt QM12.out) (fun h => by have := LO.out _ h; have := FMS.out; omega)).trans QM12.out)
          have L13 := Lib.hid l13
          clear hp l13 hF2 hk13 FM12 QM12 L12 P12 hu1 LO S12
          have PA := Lib.hid (av_Passes a (avOf a ps pc cs cc os oc) (-1) w13 (HA8.out.below L13.out.bel))
          have QA13 := Lib.hid ((L13.out.bel.block _ (row_lt QA8.out)).trans QA8.out)
          obtain ⟨pa, hpa⟩ : ∃ pa, passB a.path (-1) = pa := ⟨_, rfl⟩
          rw [hpa] at PA L13
          have HP := Lib.hid hpa
          clear hpa
          go_wp2_with ((with_reducible refine halt_at (X := .load 35 (.tmp 2)) ?_ ?_); (· rfl))
          unfold Halt
          refine ld_at (by rfl) 35 (.tmp 2) rfl w.heap.size rfl 35 (avOf a ps pc cs cc os oc).C (0, 0) _ QA13.out Try.underlying35 rfl sz_av ?_
          go_wp2_with fail
          refine PA.out.mono ?_
          rintro e w14 ⟨rfl, hb14⟩
          have L14 := Lib.hid (L13.out.below hb14)
          have FM14 := Lib.hid (FM13.out.below hb14)
          have QM14 := Lib.hid ((hb14.block _ (row_lt QM13.out)).trans QM13.out)
          have S14 : Hid (w10.heap.size < w14.heap.size) := Lib.hid (row_lt QM14.out)
          clear hb14 PA QA13 L13 FM13 QM13
          cases pa with
          | true =>
            have LEN := Lib.hid (ad_Len (R := []) (show RibAt w14 rb 3 (-1) 5 [] F2 from L14.out.rib))
            go_wp2_with fail
            refine LEN.out.mono ?_
            rintro e w15 ⟨rfl, rfl⟩
            go_wp2_with fail
            go_ret
            exact ⟨rfl, below_on B8.out L14.out.bel⟩
          | false =>
            have SPL := Lib.hid (l_spoil _ a um w14 FM14.out (fun k hk => by have := S14.out; omega))
            go_wp2_with ((with_reducible refine halt_at (X := .load 35 (.tmp 9)) ?_ ?_); (· rfl))
            unfold Halt
            refine ld_at (by rfl) 35 (.tmp 9) rfl w10.heap.size rfl 35 um.C (0, 0) _ QM14.out Try.underlying35 rfl sz_av ?_
            go_wp2_with fail
            refine SPL.out.mono ?_
            rintro e w15 ⟨⟨z15, rfl⟩, hk15⟩
            have L15 : Hid (LR w8 w15 rb 3 (-1) 5 [(p, a)] F2) := Lib.hid (L14.out.kept hk15 (fun k h => LO2.out k h) (fun k hk => by have := L9S.out; omega))
            have c0 := cell_below C0.out L15.out.bel
            have c1 := cell_below C1.out L15.out.bel
            clear SPL hk15 L14 FM14 QM14 S14 LO2 FMS
            go_wp2_with fail
            refine (ad_Get p w15 L15.out.rib OP.out).mono ?_
            rintro e w16 (⟨hg, _⟩ | ⟨b', x, hg, rfl, -, fr, hb16⟩)
            · exact absurd hg (by rw [getL_self]; simp)
            rw [getL_self] at hg
            obtain rfl := Option.some.inj hg
            have FX16 := Lib.hid fr.withinN
            have L16 := Lib.hid (L15.out.below hb16)
            have FL : Hid (∀ k, F2 k → k < w15.heap.size) := Lib.hid L15.out.flt
            have S15 : Hid (w8.heap.size ≤ w15.heap.size ∧ w15.heap.size ≤ w16.heap.size) := Lib.hid ⟨L15.out.bel.size, hb16.size⟩
            clear hg fr hb16 c0 c1 L15
            go_upto_region 19 with (fail)
            obtain ⟨w17, hw17, qr, hb17, -⟩ := box1 w16 (rtC 3 p x) 48
            rw [← hw17]
            clear hw17
            have QR17 := Lib.hid qr
            have RR17 : Hid (w17.rangeAt w16.heap.size 3 x.C.toList) := Lib.hid (rt_range qr)
            have L17 := Lib.hid (L16.out.below hb17)
            have FX17 := Lib.hid (FX16.out.below hb17)
            have S17 := Lib.hid hb17.size
            have QA17 := Lib.hid ((L17.out.bel.block _ (row_lt QA8.out)).trans QA8.out)
            have SM := Lib.hid (av_Same a a x (avOf a ps pc cs cc os oc) w17 FX17.out.self.at (HA8.out.below L17.out.bel))
            rw [sameA_refl] at SM
            clear qr hb17 L16 FX16
            go_wp2_with ((with_reducible refine halt_at (X := .load 35 (.tmp 88)) ?_ ?_); (· rfl))
            unfold Halt
            refine ldm_at (by rfl) 35 (.tmp 88) rfl w16.heap.size 3 rfl x.C.toList _ RR17.out Try.underlying35 rfl sz_av ?_
            go_wp2_with ((with_reducible refine halt_at (X := .load 35 (.tmp 2)) ?_ ?_); (· rfl))
            unfold Halt
            refine ld_at (by rfl) 35 (.tmp 2) rfl w.heap.size rfl 35 (avOf a ps pc cs cc os oc).C (0, 0) _ QA17.out Try.underlying35 rfl sz_av ?_
            go_wp2_with fail
            refine SM.out.mono ?_
            rintro e w18 ⟨rfl, hb18⟩
            have L18 := Lib.hid (L17.out.below hb18)
            have FX18 := Lib.hid (FX17.out.below hb18)
            have RR18 : Hid (w18.rangeAt w16.heap.size 3 x.C.toList) := Lib.hid (rt_range ((hb18.block _ (row_lt QR17.out)).trans QR17.out))
            have SPL := Lib.hid (l_spoil _ a x w18 FX18.out (fun k hk => by have := S17.out; have := hb18.size; omega))
            clear SM hb18 QA17 L17 FX17 RR17 QR17 S17
            go_wp2_with ((with_reducible refine halt_at (X := .load 35 (.tmp 94)) ?_ ?_); (· rfl))
            unfold Halt
            refine ldm_at (by rfl) 35 (.tmp 94) rfl w16.heap.size 3 rfl x.C.toList _ RR18.out Try.underlying35 rfl sz_av ?_
            go_wp2_with fail
            refine SPL.out.mono ?_
            rintro e w19 ⟨⟨z19, rfl⟩, hk19⟩
            have L19 : Hid (LR w8 w19 rb 3 (-1) 5 [(p, a)] F2) := Lib.hid (L18.out.kept hk19 (fun k h h2 => by have := FL.out k h; omega) (fun k hk => by have := S15.out; omega))
            clear SPL hk19 L18 FX18 RR18 FL S15
            go_wp2_with fail
            refine (ad_All w19 L19.out.rib).mono ?_
            rintro e w20 ⟨v20, vs, rfl, hre, hsr, hmm, hb20⟩
            obtain ⟨y, rfl, hyp⟩ := own_3 hsr hmm
            obtain ⟨hya, -⟩ := hre.has y (by simp)
            rw [hyp, getL_self] at hya
            have hya := Option.some.inj hya
            obtain ⟨s20, c20, hv20, hg20⟩ := own_form hre.own
            subst hv20
            obtain ⟨g20, rfl⟩ := hg20 (by simp)
            have RG20 : Hid (w20.rangeAt g20 3 y.v.C.toList) := Lib.hid (re_range (peer := 3) (by have := hre.own; simpa using this))
            obtain ⟨el, eh, eo⟩ := hre.ent y (by simp)
            rw [← hya] at eo
            have EL := Lib.hid el
            have EH := Lib.hid eh
            have FY20 := Lib.hid eo
            have L20 := Lib.hid (L19.out.below hb20)
            have FL : Hid (∀ k, F2 k → k < w19.heap.size) := Lib.hid L19.out.flt
            have S19 : Hid (w8.heap.size ≤ w19.heap.size) := Lib.hid L19.out.bel.size
            have QA20 := Lib.hid ((L20.out.bel.block _ (row_lt QA8.out)).trans QA8.out)
            have SM : Hid (∀ W, Below w20.heap.size w20 W → Calls Try.prog 15 #[y.v.V, (avOf a ps pc cs cc os oc).V] W fun e W' => e = .returned (.bool true) ∧ Below W.heap.size W W') := Lib.hid fun W hW => by
              have h := av_Same a a y.v (avOf a ps pc cs cc os oc) W ((FY20.out.below hW).self.at) (HA8.out.below (below_on L20.out.bel hW))
              rw [sameA_refl] at h
              exact h
            clear hre hsr hmm hb20 hyp hya el eh eo hg20 L19
            simp only [List.length_singleton]
            go_upto_region 23 with (fail)
            refine wp_region_held_drew (S := fun w' => Below w20.heap.size w20 w') (by kernel_rfl) ?_ (fun hHeld => ?_)
            · exact (Below.refl _ _).drew
            refine rgy (i := 0) (v := ?_) (atN rfl) (by kernel_rfl) (fun _ _ _ h => h) ?_ ?_ hHeld ?_; rotate_left 1; (· rfl); (· intro w' hSw; (try clear hHeld); go_simp; try with_reducible rfl)
            try simp only [Act.put, List.setIfInBounds_toArray, List.set_cons_zero, List.set_cons_succ]
            refine rgy (i := 1) (v := ?_) (atN rfl) (by kernel_rfl) (fun _ _ _ h => h) ?_ ?_ hHeld ?_; rotate_left 1; (· rfl); (· intro w' hSw; (try clear hHeld); go_simp; try with_reducible rfl)
            try simp only [Act.put, List.setIfInBounds_toArray, List.set_cons_zero, List.set_cons_succ]
            refine rgy (i := 2) (v := ?_) (atN rfl) (by kernel_rfl) (fun _ _ _ h => h) ?_ ?_ hHeld ?_; rotate_left 1; (· rfl); (· intro w' hSw; (try clear hHeld); go_simp; try with_reducible rfl)
            try simp only [Act.put, List.setIfInBounds_toArray, List.set_cons_zero, List.set_cons_succ]
            refine rgy (i := 3) (v := ?_) (atN rfl) (by kernel_rfl) (fun _ _ _ h => h) ?_ ?_ hHeld ?_; rotate_left 1; (· rfl); (· intro w' hSw; (try clear hHeld); go_simp; try with_reducible rfl)
            try simp only [Act.put, List.setIfInBounds_toArray, List.set_cons_zero, List.set_cons_succ]
            first | (refine rgn (i := 4) (atN rfl) (by kernel_rfl) (fun _ _ _ h => h) ?_ hHeld ?_; (· rfl)) | (refine rgy (i := 4) (v := ?_) (atN rfl) (by kernel_rfl) (fun _ _ _ h => h) ?_ ?_ hHeld ?_; rotate_left 1; (· rfl); (· intro w' hSw; (try clear hHeld); go_simp; try with_reducible rfl))
            try simp only [Act.put, List.setIfInBounds_toArray, List.set_cons_zero, List.set_cons_succ]
            first | (refine rgn (i := 5) (atN rfl) (by kernel_rfl) (fun _ _ _ h => h) ?_ hHeld ?_; (· rfl)) | (refine rgy (i := 5) (v := ?_) (atN rfl) (by kernel_rfl) (fun _ _ _ h => h) ?_ ?_ hHeld ?_; rotate_left 1; (· rfl); (· intro w' hSw; (try clear hHeld); go_simp; try with_reducible rfl))
            try simp only [Act.put, List.setIfInBounds_toArray, List.set_cons_zero, List.set_cons_succ]
            first | (refine rgn (i := 6) (atN rfl) (by kernel_rfl) (fun _ _ _ h => h) ?_ hHeld ?_; (· rfl)) | (refine rgy (i := 6) (v := ?_) (atN rfl) (by kernel_rfl) (fun _ _ _ h => h) ?_ ?_ hHeld ?_; rotate_left 1; (· rfl); (· intro w' hSw; (try clear hHeld); go_simp; try with_reducible rfl))
            try simp only [Act.put, List.setIfInBounds_toArray, List.set_cons_zero, List.set_cons_succ]
            first | (refine rgn (i := 7) (atN rfl) (by kernel_rfl) (fun _ _ _ h => h) ?_ hHeld ?_; (· rfl)) | (refine rgy (i := 7) (v := ?_) (atN rfl) (by kernel_rfl) (fun _ _ _ h => h) ?_ ?_ hHeld ?_; rotate_left 1; (· rfl); (· intro w' hSw; refine exec_ldm 35 (.tmp 105) ?_ g20 3 ?_ y.v.C.toList _ (range_below RG20.out hSw) Try.underlying35 rfl sz_av <;> rfl))
            try simp only [Act.put, List.setIfInBounds_toArray, List.set_cons_zero, List.set_cons_succ]
            first | (refine rgn (i := 8) (atN rfl) (by kernel_rfl) (fun _ _ _ h => h) ?_ hHeld ?_; (· rfl)) | (refine rgy (i := 8) (v := ?_) (atN rfl) (by kernel_rfl) (fun _ _ _ h => h) ?_ ?_ hHeld ?_; rotate_left 1; (· rfl); (· intro w' hSw; refine exec_ld 35 (.tmp 2) ?_ w.heap.size ?_ 35 (avOf a ps pc cs cc os oc).C (0, 0) _ ((hSw.block _ (row_lt QA20.out)).trans QA20.out) Try.underlying35 rfl sz_av <;> rfl))
            try simp only [Act.put, List.setIfInBounds_toArray, List.set_cons_zero, List.set_cons_succ]
            first | (refine rgn (i := 9) (atN rfl) (by kernel_rfl) (fun _ _ _ h => h) ?_ hHeld ?_; (· rfl)) | (refine rg_call (i := 9) (atN rfl) (by kernel_rfl) ?_ (fun K hK => ?_); (· rfl); (try clear hb); go_simp; (refine (SM.out _ hHeld).mono ?_; rintro e w1 ⟨rfl, hb⟩); go_wp2_with fail; refine hK.out _ _ ?_ (fun hHeld => ?_); (· exact hHeld.trans (hb.mono hHeld.size)); clear hK K)
            try simp only [Act.put, List.setIfInBounds_toArray, List.set_cons_zero, List.set_cons_succ]
            first | (refine rgn (i := 10) (atN rfl) (by kernel_rfl) (fun _ _ _ h => h) ?_ hHeld ?_; (· rfl)) | (refine rgy (i := 10) (v := ?_) (atN rfl) (by kernel_rfl) (fun _ _ _ h => h) ?_ ?_ hHeld ?_; rotate_left 1; (· rfl); (· intro w' hSw; (try clear hHeld); go_simp; try with_reducible rfl))
            try simp only [Act.put, List.setIfInBounds_toArray, List.set_cons_zero, List.set_cons_succ]
            refine rgy (i := 11) (v := ?_) (atN rfl) (by kernel_rfl) (fun _ _ _ h => h) ?_ ?_ hHeld ?_; rotate_left 1; (· rfl); (· intro w' hSw; (try clear hHeld); go_simp; try with_reducible rfl)
            try simp only [Act.put, List.setIfInBounds_toArray, List.set_cons_zero, List.set_cons_succ]
            refine wpAnyH_done (by kernel_rfl) ?_ _
            obtain ⟨w21, hw21⟩ : ∃ w21 : World, w21 = w1 := ⟨_, rfl⟩
            rw [← hw21] at hHeld ⊢
            clear hw21
            have L21 := Lib.hid (L20.out.below hHeld)
            have FY21 := Lib.hid (FY20.out.below hHeld)
            have RG21 := Lib.hid (range_below RG20.out hHeld)
            have SPL := Lib.hid (l_spoil _ a y.v w21 FY21.out (fun k hk => by have := EH.out; have := hHeld.size; omega))
            clear hHeld SM QA20 L20 FY20 RG20
            go_wp2_with ((with_reducible refine halt_at (X := .load 35 (.tmp 113)) ?_ ?_); (· rfl))
            unfold Halt
            refine ldm_at (by rfl) 35 (.tmp 113) rfl g20 3 rfl y.v.C.toList _ RG21.out Try.underlying35 rfl sz_av ?_
            go_wp2_with fail
            refine SPL.out.mono ?_
            rintro e w22 ⟨⟨z22, rfl⟩, hk22⟩
            have L22 : Hid (LR w8 w22 rb 3 (-1) 5 [(p, a)] F2) := Lib.hid (L21.out.kept hk22 (fun k h h2 => by have := FL.out k h; have := EL.out; omega) (fun k hk => by have := S19.out; have := EL.out; omega))
            have c0 := cell_below C0.out L22.out.bel
            have c1 := cell_below C1.out L22.out.bel
            clear SPL hk22 L21 FY21 RG21 EL EH FL S19
            go_wp2_with fail
            refine (ad_Get p w22 L22.out.rib OP.out).mono ?_
            rintro e w23 (⟨hg, _⟩ | ⟨a', x2, hg, rfl, -, fr, hb23⟩)
            · exact absurd hg (by rw [getL_self]; simp)
            rw [getL_self] at hg
            have hg := Option.some.inj hg
            subst hg
            have FX23 := Lib.hid fr.withinN
            have FL22 : Hid (∀ k, F2 k → k < w22.heap.size) := Lib.hid L22.out.flt
            have L23 := Lib.hid (L22.out.below hb23)
            clear fr hb23 c0 c1 L22
            go_upto_region 27 with (fail)
            obtain ⟨w24, hw24, qr, hb24, -⟩ := box1 w23 (rtC 3 p x2) 48
            rw [← hw24]
            clear hw24
            have QR24 := Lib.hid qr
            have L24 := Lib.hid (L23.out.below hb24)
            have FX24 := Lib.hid (FX23.out.below hb24)
            have NR24 : Hid (¬ F2 w23.heap.size) := Lib.hid (fun h => Nat.lt_irrefl _ (L23.out.flt _ h))
            have c0 := cell_below C0.out L24.out.bel
            have c1 := cell_below C1.out L24.out.bel
            clear qr hb24 FX23 L23
            go_wp2_with ((with_reducible refine halt_at (X := .load 35 (.tmp 2)) ?_ ?_); (· rfl))
            obtain ⟨w25, hw25, hb25⟩ : ∃ w25, w25 = w24.alloc (.cells #[.int .u32 p.1, .int .i64 p.2] 29) ∧ Below w24.heap.size w24 w25 := ⟨_, rfl, (Below.refl _ _).alloc (Nat.le_refl _) _⟩
            have P25 : Hid (PsAt w25 (.slice (some ⟨w24.heap.size, 0, none⟩) 1 1) [p]) := Lib.hid (by rw [hw25]; exact psAt_new w24 p 29 OP.out)
            have L25 := Lib.hid (L24.out.below hb25)
            have QR25 := Lib.hid ((hb25.block _ (row_lt QR24.out)).trans QR24.out)
            have FX25 := Lib.hid (FX24.out.below hb25)
            have QA25 := Lib.hid ((L25.out.bel.block _ (row_lt QA8.out)).trans QA8.out)
            rw [← hw25]
            clear hw25 hb25 c0 c1 L24 QR24 FX24
            unfold Halt
            refine ld_at (by rfl) 35 (.tmp 2) rfl w.heap.size rfl 35 (avOf a ps pc cs cc os oc).C (0, 0) _ QA25.out Try.underlying35 rfl sz_av ?_
            go_wp2_with fail
            have hu2 := own_2 (own := -1) (p := p) (a := a) RP.out HP.out
            refine (ad_Update (mgV none 0 0 (avOf a ps pc cs cc os oc) (some ⟨w24.heap.size, 0, none⟩) 1 1) [] [p] a w25 L25.out.rib SlAt.nil P25.out (fun W hk => L25.out.av HA8.out hk) (by simp) ZA.out).mono ?_
            intro e w26 hp
            rw [show updP (-1) 5 [(p, a)] (mgV none 0 0 (avOf a ps pc cs cc os oc) (some ⟨w24.heap.size, 0, none⟩) 1 1).kind [] [p] a = _ from hu2] at hp
            obtain ⟨v26, F3, rfl, o26, l26, -, -, hk26⟩ := L25.out.upd hp
            have L26 := Lib.hid l26
            obtain ⟨s26, c26, hv26, -⟩ := o26.at
            simp only [List.length_nil] at hv26
            subst hv26
            have QR26 := Lib.hid ((hk26.block _ (row_lt QR25.out) NR24.out).trans QR25.out)
            have RR26 : Hid (w26.rangeAt w23.heap.size 3 x2.C.toList) := Lib.hid (rt_range QR26.out)
            have FX26 := Lib.hid (FX25.out.kept hk26 (fun k _ h1 h2 => by have := FL22.out k h2; omega)).self.at
            have QA26 := Lib.hid ((L26.out.bel.block _ (row_lt QA8.out)).trans QA8.out)
            have SM := Lib.hid (av_Same a a x2 (avOf a ps pc cs cc os oc) w26 FX26.out (HA8.out.below L26.out.bel))
            rw [sameA_refl] at SM
            clear hp o26 l26 hk26 hu2 QR25 FX25 QA25 L25 P25 FL22 NR24
            go_wp2_with ((with_reducible refine halt_at (X := .load 35 (.tmp 133)) ?_ ?_); (· rfl))
            unfold Halt
            refine ldm_at (by rfl) 35 (.tmp 133) rfl w23.heap.size 3 rfl x2.C.toList _ RR26.out Try.underlying35 rfl sz_av ?_
            go_wp2_with ((with_reducible refine halt_at (X := .load 35 (.tmp 2)) ?_ ?_); (· rfl))
            unfold Halt
            refine ld_at (by rfl) 35 (.tmp 2) rfl w.heap.size rfl 35 (avOf a ps pc cs cc os oc).C (0, 0) _ QA26.out Try.underlying35 rfl sz_av ?_
            go_wp2_with fail
            refine SM.out.mono ?_
            rintro e w27 ⟨rfl, hb27⟩
            have BF := Lib.hid (below_on B8.out (below_on L26.out.bel hb27))
            clear SM hb27 QA26 FX26 RR26 QR26 L26
            go_wp2_with fail
            go_ret
            exact ⟨rfl, BF.out⟩
end Go.Proofs.Ytadlecnlgkhneaa
