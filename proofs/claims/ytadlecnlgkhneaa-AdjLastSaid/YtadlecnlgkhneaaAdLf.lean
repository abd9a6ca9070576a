/-
  AdjLast: proved of all attributes, every n and whether gone: what a peer says last of a prefix counts; what it says is gone, is.
-/
import Derived.Test.YtadlecnlgkhneaaAdLt
namespace Go.Proofs.Ytadlecnlgkhneaa
open Go.RowKit
set_option maxHeartbeats 25600000 in
set_option maxRecDepth 100000 in
theorem law_AdjLast_f (a b : At) (u v : AV) (n : Int) (w : World) (ha : AvAt w a u) (hb : AvAt w b v) (za : AtSz a) (zb : AtSz b) : Calls Try.prog 4 #[u.V, v.V, .int .i64 n, .bool false] w fun e w' => e = .returned (.bool true) ∧ Below w.heap.size w w' := by
  obtain ⟨k, hk⟩ : ∃ k : Nat, n % 128 = k := Int.eq_ofNat_of_zero_le (by omega)
  have hand : bits .and .i64 n 127 = (k : Int) := by rw [and_127, hk]
  have HA := Lib.hid ha
  have HB := Lib.hid hb
  have ZA := Lib.hid za
  have ZB := Lib.hid zb
  have K7 : Hid (k < 256) := Lib.hid (by omega)
  clear ha hb za zb hk
  go_enter Try.func4, Try.ntmps4
  go_upto_region 1 with (fail)
  obtain ⟨W0, hW0, qa, qb, hb0⟩ := boxTwo w u.C 35 v.C 35
  rw [← hW0]
  clear hW0
  have QA0 := Lib.hid qa
  have QB0 := Lib.hid qb
  have B0 := Lib.hid hb0
  clear qa qb hb0
  go_wp2_with fail
  refine (law_head W0).mono ?_
  rintro e w1 ⟨rfl, hb1⟩
  have QA := Lib.hid ((hb1.block _ (row_lt QA0.out)).trans QA0.out)
  have QB := Lib.hid ((hb1.block _ (row_lt QB0.out)).trans QB0.out)
  have B1 := Lib.hid (below_on B0.out hb1)
  clear hb1 QA0 QB0 B0
  have LB := Lib.hid (fun m W => l_big m W)
  have PA := Lib.hid (fun W (h : Below w.heap.size w W) => av_Passes a u 9 W (HA.out.below h))
  have PB := Lib.hid (fun W (h : Below w.heap.size w W) => av_Passes b v 9 W (HB.out.below h))
  generalize hpa : passB a.path 9 = pa at PA
  generalize hpb : passB b.path 9 = pb at PB
  have HPA := Lib.hid hpa
  have HPB := Lib.hid hpb
  clear hpa hpb
  go_upto_region 3 with (fail)
  go_cut [36] (fun s wx => ∃ c : Bool, s = .bool c ∧ Hid (c = false → pa = false ∧ pb = false) ∧ Hid (Below w1.heap.size w1 wx))
  case first =>
    go_wp2_with ((with_reducible refine halt_at (X := .load 35 (.tmp 4)) ?_ ?_); (· rfl))
    unfold Halt
    refine ld_at (by rfl) 35 (.tmp 4) rfl w.heap.size rfl 35 u.C (0, 0) _ QA.out Try.underlying35 rfl sz_av ?_
    go_wp2_with fail
    refine (LB.out (msA u) w1).mono ?_
    rintro e w2 ⟨rfl, hb2⟩
    generalize bigB (msA u) = c1
    have B2 := Lib.hid hb2
    have QB2 := Lib.hid ((hb2.block _ (row_lt QB.out)).trans QB.out)
    have QA2 := Lib.hid ((hb2.block _ (row_lt QA.out)).trans QA.out)
    clear hb2
    cases c1 with
    | true =>
      go_wp2_with fail
      go_meet
      exact ⟨true, rfl, Lib.hid (fun h => by cases h), B2⟩
    | false =>
      go_wp2_with ((with_reducible refine halt_at (X := .load 35 (.tmp 5)) ?_ ?_); (· rfl))
      unfold Halt
      refine ld_at (by rfl) 35 (.tmp 5) rfl (w.heap.size + 1) rfl 35 v.C (0, 0) _ QB2.out Try.underlying35 rfl sz_av ?_
      go_wp2_with fail
      refine (LB.out (msA v) w2).mono ?_
      rintro e w3 ⟨rfl, hb3⟩
      generalize bigB (msA v) = c2
      have B3 := Lib.hid (below_on B2.out hb3)
      have QB3 := Lib.hid ((hb3.block _ (row_lt QB2.out)).trans QB2.out)
      have QA3 := Lib.hid ((hb3.block _ (row_lt QA2.out)).trans QA2.out)
      clear hb3
      cases c2 with
      | true =>
        go_wp2_with fail
        go_meet
        exact ⟨true, rfl, Lib.hid (fun h => by cases h), B3⟩
      | false =>
        go_wp2_with ((with_reducible refine halt_at (X := .load 35 (.tmp 4)) ?_ ?_); (· rfl))
        unfold Halt
        refine ld_at (by rfl) 35 (.tmp 4) rfl w.heap.size rfl 35 u.C (0, 0) _ QA3.out Try.underlying35 rfl sz_av ?_
        go_wp2_with fail
        refine (PA.out w3 (below_on B1.out B3.out)).mono ?_
        rintro e w4 ⟨rfl, hb4⟩
        have B4 := Lib.hid (below_on B3.out hb4)
        have QB4 := Lib.hid ((hb4.block _ (row_lt QB3.out)).trans QB3.out)
        clear hb4
        cases pa with
        | true =>
          go_wp2_with fail
          go_meet
          exact ⟨true, rfl, Lib.hid (fun h => by cases h), B4⟩
        | false =>
          go_wp2_with ((with_reducible refine halt_at (X := .load 35 (.tmp 5)) ?_ ?_); (· rfl))
          unfold Halt
          refine ld_at (by rfl) 35 (.tmp 5) rfl (w.heap.size + 1) rfl 35 v.C (0, 0) _ QB4.out Try.underlying35 rfl sz_av ?_
          go_wp2_with fail
          refine (PB.out w4 (below_on B1.out B4.out)).mono ?_
          rintro e w5 ⟨rfl, hb5⟩
          have B5 := Lib.hid (below_on B4.out hb5)
          clear hb5
          cases pb
          · go_wp2_with fail
            go_meet
            exact ⟨false, rfl, Lib.hid (by simp), B5⟩
          · go_wp2_with fail
            go_meet
            exact ⟨true, rfl, Lib.hid (fun h => by cases h), B5⟩
  case rest =>
    obtain ⟨c, rfl, HC, HH⟩ := hcut
    obtain ⟨w6, hw6⟩ : ∃ w6 : World, w6 = wc := ⟨_, rfl⟩
    rw [← hw6] at HH ⊢
    clear hw6
    have B6 := Lib.hid (below_on B1.out HH.out)
    have QA6 := Lib.hid ((HH.out.block _ (row_lt QA.out)).trans QA.out)
    have QB6 := Lib.hid ((HH.out.block _ (row_lt QB.out)).trans QB.out)
    clear HH B1 QA QB LB PA PB
    cases c with
    | true =>
      go_wp2_with fail
      go_ret
      exact ⟨rfl, B6.out⟩
    | false =>
      have PAF : Hid (passB a.path 9 = false) := Lib.hid (HPA.out.trans (HC.out rfl).1)
      have PBF : Hid (passB b.path 9 = false) := Lib.hid (HPB.out.trans (HC.out rfl).2)
      clear HC HPA HPB
      go_wp2_with fail
      refine (l_net k K7.out w6).mono ?_
      rintro e w7 ⟨rfl, hb7⟩
      have OP : Hid (OkP (netP k)) := Lib.hid (netP_ok K7.out)
      have RP : Hid (rightB (netP k).1 (netP k).2 = true) := Lib.hid (netP_right k)
      generalize netP k = p at OP RP ⊢
      have B7 := Lib.hid (below_on B6.out hb7)
      have QB7 := Lib.hid ((hb7.block _ (row_lt QB6.out)).trans QB6.out)
      have QA7 := Lib.hid ((hb7.block _ (row_lt QA6.out)).trans QA6.out)
      clear hb7 B6 QA6 QB6
      go_upto_region 6 with (fail)
      obtain ⟨w8, hw8, c0, c1, hb8⟩ := box2 w7 (.int .u32 p.1) (.int .i64 p.2) 29
      rw [← hw8]
      clear hw8
      have B8 := Lib.hid (below_on B7.out hb8)
      have QB8 := Lib.hid ((hb8.block _ (row_lt QB7.out)).trans QB7.out)
      have QA8 := Lib.hid ((hb8.block _ (row_lt QA7.out)).trans QA7.out)
      have HA8 := Lib.hid (HA.out.below B8.out)
      have HB8 := Lib.hid (HB.out.below B8.out)
      have C0 := Lib.hid c0
      have C1 := Lib.hid c1
      clear hb8 B7 QA7 QB7 HA HB c0 c1
      go_wp2_with fail
      refine (ad_New 1 9 5 w8).mono ?_
      rintro e w9 ⟨rb, rfl, hr, hb9⟩
      have L9 : LR w8 w9 rb 1 9 5 [] (fun k => w8.heap.size ≤ k ∧ k < w9.heap.size) := lr_new (Below.refl _ _) hr hb9
      generalize (fun k => w8.heap.size ≤ k ∧ k < w9.heap.size : Nat → Prop) = F1 at L9
      have L9 := Lib.hid L9
      clear hr hb9
      obtain ⟨T1, hu1⟩ := last_1 (a := a) RP.out PAF.out
      have U1 := Lib.hid hu1
      clear hu1
      have c0 := cell_below C0.out L9.out.bel
      have c1 := cell_below C1.out L9.out.bel
      go_wp2_with ((with_reducible refine halt_at (X := .load 35 (.tmp 4)) ?_ ?_); (· rfl))
      obtain ⟨w10, hw10⟩ : ∃ w10, w10 = w9.alloc (.cells #[.int .u32 p.1, .int .i64 p.2] 29) := ⟨_, rfl⟩
      have P10 : Hid (PsAt w10 (.slice (some ⟨w9.heap.size, 0, none⟩) 1 1) [p]) := Lib.hid (by rw [hw10]; exact psAt_new w9 p 29 OP.out)
      have L10 := Lib.hid (L9.out.below (W' := w10) (by rw [hw10]; exact (Below.refl _ _).alloc (Nat.le_refl _) _))
      rw [← hw10]
      clear hw10 c0 c1 L9
      have QA10 := Lib.hid ((L10.out.bel.block _ (row_lt QA8.out)).trans QA8.out)
      unfold Halt
      refine ld_at (by rfl) 35 (.tmp 4) rfl w.heap.size rfl 35 u.C (0, 0) _ QA10.out Try.underlying35 rfl sz_av ?_
      go_wp2_with fail
      refine (ad_Update (mgV none 0 0 u (some ⟨w9.heap.size, 0, none⟩) 1 1) [] [p] a w10 L10.out.rib SlAt.nil P10.out (fun W hk => L10.out.av HA8.out hk) (by simp) ZA.out).mono ?_
      intro e w11 hp
      rw [show updP 9 5 [] (mgV none 0 0 u (some ⟨w9.heap.size, 0, none⟩) 1 1).kind [] [p] a = _ from U1.out] at hp
      obtain ⟨v11, F2, rfl, -, l11, -, -, -⟩ := L10.out.upd hp
      have L11 : Hid (LR w8 w11 rb 1 9 5 [(p, a)] F2) := Lib.hid l11
      clear hp l11 P10 QA10 U1 L10
      have c0 := cell_below C0.out L11.out.bel
      have c1 := cell_below C1.out L11.out.bel
      go_wp2_with ((with_reducible refine halt_at (X := .load 35 (.tmp 5)) ?_ ?_); (· rfl))
      obtain ⟨w12, hw12⟩ : ∃ w12, w12 = w11.alloc (.cells #[.int .u32 p.1, .int .i64 p.2] 29) := ⟨_, rfl⟩
      have P12 : Hid (PsAt w12 (.slice (some ⟨w11.heap.size, 0, none⟩) 1 1) [p]) := Lib.hid (by rw [hw12]; exact psAt_new w11 p 29 OP.out)
      have L12 := Lib.hid (L11.out.below (W' := w12) (by rw [hw12]; exact (Below.refl _ _).alloc (Nat.le_refl _) _))
      rw [← hw12]
      clear hw12 c0 c1 L11
      have QB12 := Lib.hid ((L12.out.bel.block _ (row_lt QB8.out)).trans QB8.out)
      unfold Halt
      refine ld_at (by rfl) 35 (.tmp 5) rfl (w.heap.size + 1) rfl 35 v.C (0, 0) _ QB12.out Try.underlying35 rfl sz_av ?_
      go_wp2_with ((with_reducible refine halt_at (X := .store 43 (.tmp 13) (.tmp 53)) ?_ ?_); (· rfl))
      unfold Halt
      refine st_fresh rfl 43 (.tmp 13) (.tmp 53) rfl rfl _ (mgV none 0 0 v (some ⟨w11.heap.size, 0, none⟩) 1 1).C rfl sz_msg rfl (by simp [Value.oneCell']) ?_
      obtain ⟨w13, hw13, qm, hb13, -⟩ := box1 w12 (mgV none 0 0 v (some ⟨w11.heap.size, 0, none⟩) 1 1).C 43
      rw [← hw13]
      clear hw13 QB12
      have QM := Lib.hid qm
      have NFM : Hid (¬ F2 w12.heap.size) := Lib.hid (fun h => Nat.lt_irrefl _ (L12.out.flt _ h))
      have WS12 := Lib.hid L12.out.bel.size
      have L13 := Lib.hid (L12.out.below hb13)
      have P13 := Lib.hid (P12.out.below hb13)
      clear qm hb13 P12 L12
      have U2 := Lib.hid (last_2 (a := a) RP.out PBF.out)
      generalize w11.heap.size = g11 at QM P13 ⊢
      go_wp2_with ((with_reducible refine halt_at (X := .load 43 (.tmp 13)) ?_ ?_); (· rfl))
      unfold Halt
      refine ld_at (by rfl) 43 (.tmp 13) rfl w12.heap.size rfl 43 (mgV none 0 0 v (some ⟨g11, 0, none⟩) 1 1).C (0, 0) _ QM.out Try.underlying43 rfl sz_msg ?_
      go_wp2_with fail
      refine (ad_Update (mgV none 0 0 v (some ⟨g11, 0, none⟩) 1 1) [] [p] b w13 L13.out.rib SlAt.nil P13.out (fun W hk => L13.out.av HB8.out hk) (by simp) ZB.out).mono ?_
      intro e w14 hp
      rw [show updP 9 5 [(p, a)] (mgV none 0 0 v (some ⟨g11, 0, none⟩) 1 1).kind [] [p] b = _ from U2.out] at hp
      obtain ⟨v14, F3, rfl, o14, l14, -, -, -⟩ := L13.out.upd hp
      have L14 : Hid (LR w8 w14 rb 1 9 5 [(p, b)] F3) := Lib.hid l14
      obtain ⟨s14, c14, hv14, -⟩ := o14.at
      simp only at hv14
      have SM := Lib.hid (fun W (h : Below w14.heap.size w14 W) => av_Same a b u v W (HA8.out.below (below_on L14.out.bel h)) (HB8.out.below (below_on L14.out.bel h)))
      have SB := Lib.hid (fun W (x : AV) (h : Below w14.heap.size w14 W) (hx : AvAt W b x) => av_Same b b x v W hx (HB8.out.below (below_on L14.out.bel h)))
      have sbb := sameA_refl b
      rw [sbb] at SB
      generalize hsm : sameA a b = sm at SM hv14
      clear hp l14 o14 QM P13 L13 U2 hsm sbb
      have hv14' : v14 = .slice s14 (bif sm then 0 else 1) c14 := by rw [hv14]; cases sm <;> rfl
      clear hv14
      cases sm
      all_goals
          subst hv14'
          have c0 := cell_below C0.out L14.out.bel
          have c1 := cell_below C1.out L14.out.bel
          go_wp2_with fail
          refine (ad_Get p w14 L14.out.rib OP.out).mono ?_
          rintro e w15 (⟨hg, _⟩ | ⟨b', x, hg, rfl, -, fr, hb15⟩)
          · exact absurd hg (by rw [getL_self]; simp)
          rw [getL_self] at hg
          obtain rfl := Option.some.inj hg
          have FX := Lib.hid fr.self
          have B15 := Lib.hid hb15
          clear hg fr hb15 c0 c1
          go_upto_region 14 with (fail)
          obtain ⟨w16, hw16, qr, hb16, -⟩ := box1 w15 (rtC 1 p x) 48
          rw [← hw16]
          clear hw16
          have QR := Lib.hid qr
          have B16 := Lib.hid (below_on B15.out hb16)
          have FX16 := Lib.hid (FX.out.below hb16)
          have QA16 := Lib.hid (((below_on L14.out.bel B16.out).block _ (row_lt QA8.out)).trans QA8.out)
          have QB16 := Lib.hid (((below_on L14.out.bel B16.out).block _ (row_lt QB8.out)).trans QB8.out)
          clear qr hb16 FX B15
          go_wp2_with ((with_reducible refine halt_at (X := .load 35 (.tmp 4)) ?_ ?_); (· rfl))
          unfold Halt
          refine ld_at (by rfl) 35 (.tmp 4) rfl w.heap.size rfl 35 u.C (0, 0) _ QA16.out Try.underlying35 rfl sz_av ?_
          go_wp2_with ((with_reducible refine halt_at (X := .load 35 (.tmp 5)) ?_ ?_); (· rfl))
          unfold Halt
          refine ld_at (by rfl) 35 (.tmp 5) rfl (w.heap.size + 1) rfl 35 v.C (0, 0) _ QB16.out Try.underlying35 rfl sz_av ?_
          go_wp2_with fail
          refine (SM.out w16 B16.out).mono ?_
          rintro e w17 ⟨rfl, hb17⟩
          have B17 := Lib.hid (below_on B16.out hb17)
          have QR17 := Lib.hid ((hb17.block _ (row_lt QR.out)).trans QR.out)
          have QB17 := Lib.hid ((hb17.block _ (row_lt QB16.out)).trans QB16.out)
          have FX17 := Lib.hid (FX16.out.below hb17)
          have RR17 : Hid (w17.rangeAt w15.heap.size 3 x.C.toList) := Lib.hid (rt_range QR17.out)
          clear hb17 QA16 QB16 QR FX16 B16
          go_wp2_with ((with_reducible refine halt_at (X := .load 35 (.tmp 98)) ?_ ?_); (· rfl))
          unfold Halt
          refine ldm_at (by rfl) 35 (.tmp 98) rfl w15.heap.size 3 rfl x.C.toList _ RR17.out Try.underlying35 rfl sz_av ?_
          go_wp2_with ((with_reducible refine halt_at (X := .load 35 (.tmp 5)) ?_ ?_); (· rfl))
          unfold Halt
          refine ld_at (by rfl) 35 (.tmp 5) rfl (w.heap.size + 1) rfl 35 v.C (0, 0) _ QB17.out Try.underlying35 rfl sz_av ?_
          go_wp2_with fail
          refine (SB.out w17 x B17.out FX17.out).mono ?_
          rintro e w18 ⟨rfl, hb18⟩
          have B18 := Lib.hid (below_on B17.out hb18)
          clear hb18
          go_wp2_with fail
          go_ret
          exact ⟨rfl, below_on B8.out (below_on L14.out.bel B18.out)⟩
end Go.Proofs.Ytadlecnlgkhneaa
