/- Texts of one proof, one behind another. -/
import Derived.Test.YtkoidahgbbabiaaGreatSf22
import Derived.Test.YtkoidahgbbabiaaGreatSf1
/-
  ServerForms: walked for all numbers, sides and attributes.
-/
namespace Go.Proofs.YtkoidahgbbabiaaGreat
open Go.RowKit Go.ChangeShapes Go.WideShapes
theorem rt_built (p : Pf) (v : AV) : Tryz.prog.built 61 [(0, .int .i64 1), (1, .agg #[.int .u32 p.1, .int .i64 p.2]), (2, .agg v.C)] = some (rtC 1 p v) := by kernel_rfl
theorem al_k {W : World} {p : World → Prop} {C : Array Value} {T : TypeId} (h : ∀ w1 : World, w1.heap[W.heap.size]? = some (.cells C T (0, 0)) → Below W.heap.size W w1 → p w1) : p (W.alloc (.cells C T)) := h _ (heap_alloc_new W _) ((Below.refl _ _).alloc (Nat.le_refl _) _)
theorem new_both {own most : Int} {xs : List Sd} {W w' : World} {e : Ending} (h : NewPost own most xs W e w') : ∃ o : Option Addr, e = .returned (.tuple #[.pointer o, .int .i64 (newCd own xs)]) ∧ Below W.heap.size W w' ∧
    ((newCd own xs ≠ 0 ∧ o = none) ∨ (newCd own xs = 0 ∧ ∃ (rho : Nat → Role) (sb fb : Nat) (ls : List Pl), o = some ⟨sb, 0, none⟩ ∧ SrvM w' rho sb fb ls (newSv own most xs))) := by
  rcases h with ⟨h1, h2, h3⟩ | ⟨h1, rho, sb, fb, ls, h2, h3, -, h5⟩
  · exact ⟨none, h2, h3, .inl ⟨h1, rfl⟩⟩
  · exact ⟨_, by rw [h2, h1], h5, .inr ⟨h1, rho, sb, fb, ls, rfl, h3⟩⟩
set_option maxHeartbeats 6400000 in
set_option maxRecDepth 100000 in
theorem law_ServerForms (own : Int) (v : Value) (xs : List Sd) (most : Int) (a : At) (vp vc vo : Value) (w : World) (hx : SdsAt w v xs) (hA : AtL w a vp vc vo) (hz : AtSz a) :
    Calls Tryz.prog 7 #[.int .i64 own, v, .int .i64 most, .agg (atV a vp vc vo).toArray] w fun e w' => e = .returned (.bool true) ∧ Below w.heap.size w w' := by
  show Calls Tryz.prog 7 #[.int .i64 own, v, .int .i64 most, .agg #[.int .i64 a.has, .int .i64 a.origin, vp, .int .u32 a.hop, .int .i64 a.med, .int .i64 a.loc, .int .i64 a.aggrAs, .int .u32 a.aggrId, vc, vo]] w _
  obtain ⟨s1, c1, rfl, hl1, hl2, -⟩ := id hx
  have HX := Lib.hid hx
  have HA := Lib.hid hA
  have HZ := Lib.hid hz
  have HD := Lib.hid (fun w => law_head w)
  obtain ⟨sp, cp, rfl, -⟩ := id hA.1
  obtain ⟨sc, cc, rfl, -⟩ := id hA.2.1
  obtain ⟨so, co, rfl, -⟩ := id hA.2.2
  clear hx hA hz hl1 hl2
  go_enter Tryz.func7, Tryz.ntmps7
  go_upto_region 1 with (fail)
  obtain ⟨w0, hw0, q0, hb0, -⟩ := box1 w #[.int .i64 a.has, .int .i64 a.origin, .slice sp a.path.length cp, .int .u32 a.hop, .int .i64 a.med, .int .i64 a.loc, .int .i64 a.aggrAs, .int .u32 a.aggrId, .slice sc a.comms.length cc, .slice so a.others.length co] 42
  rw [← hw0]
  obtain ⟨ab, hab⟩ : ∃ ab, ab = w.heap.size := ⟨_, rfl⟩
  rw [← hab] at q0 ⊢
  have Q0 := Lib.hid q0
  have B0 := Lib.hid hb0
  clear hw0 hab q0 hb0
  go_wp2_with fail
  refine (HD.out w0).mono ?_
  rintro e w1 ⟨rfl, hb1⟩
  have Q1 := Lib.hid ((hb1.block _ (row_lt Q0.out)).trans Q0.out)
  have B1 := Lib.hid (below_on B0.out hb1)
  have y2 : w1.cell? ⟨ab, 2, none⟩ = some (.slice sp a.path.length cp) := row_cell Q1.out 2
  have y8 : w1.cell? ⟨ab, 8, none⟩ = some (.slice sc a.comms.length cc) := row_cell Q1.out 8
  have y9 : w1.cell? ⟨ab, 9, none⟩ = some (.slice so a.others.length co) := row_cell Q1.out 9
  clear hb1 Q0 B0 HD
  go_upto_region 3 with (fail)
  go_cut [45] from 25 to 45 (fun s wx => ∃ b : Bool, s = .bool b ∧ Hid (b = false → xs.length ≤ 40) ∧ wx = w1)
  case first =>
    by_cases h1 : xs.length ≤ 40
    · have d1 : decide ((xs.length : Int) > 40) = false := by simp; omega
      have X40 := Lib.hid h1
      by_cases h2 : a.path.length ≤ 6
      · have d2 : decide ((a.path.length : Int) > 6) = false := by simp; omega
        by_cases h3 : a.comms.length ≤ 40
        · have d3 : decide ((a.comms.length : Int) > 40) = false := by simp; omega
          by_cases h4 : a.others.length ≤ 5
          · have d4 : decide ((a.others.length : Int) > 5) = false := by simp; omega
            clear h1 h2 h3 h4
            go_wp2_with fail
            go_meet
            exact ⟨false, rfl, Lib.hid (fun _ => X40.out), rfl⟩
          · have d4 : decide ((a.others.length : Int) > 5) = true := by simp; omega
            clear h1 h2 h3 h4
            go_wp2_with fail
            go_meet
            exact ⟨true, rfl, Lib.hid (fun h => by cases h), rfl⟩
        · have d3 : decide ((a.comms.length : Int) > 40) = true := by simp; omega
          clear h1 h2 h3
          go_wp2_with fail
          go_meet
          exact ⟨true, rfl, Lib.hid (fun h => by cases h), rfl⟩
      · have d2 : decide ((a.path.length : Int) > 6) = true := by simp; omega
        clear h1 h2
        go_wp2_with fail
        go_meet
        exact ⟨true, rfl, Lib.hid (fun h => by cases h), rfl⟩
    · have d1 : decide ((xs.length : Int) > 40) = true := by simp; omega
      clear h1
      go_wp2_with fail
      go_meet
      exact ⟨true, rfl, Lib.hid (fun h => by cases h), rfl⟩
  case rest =>
    obtain ⟨b, rfl, X40, rfl⟩ := hcut
    clear y2 y8 y9
    rcases b with _ | _
    · have X4 : Hid (xs.length ≤ 40) := Lib.hid (X40.out rfl)
      have NW := Lib.hid (sv_New own most _ xs wc (HX.out.below B1.out))
      clear X40
      go_wp2_with fail
      refine NW.out.mono ?_
      intro e w2 hpost
      obtain ⟨o, rfl, hb2, hcase⟩ := new_both hpost
      obtain ⟨cd, hcd⟩ : ∃ cd, newCd own xs = cd := ⟨_, rfl⟩
      have HCD := Lib.hid hcd
      rw [hcd] at hcase ⊢
      have CASE := Lib.hid hcase
      have B2 := Lib.hid (below_on B1.out hb2)
      have X2 := Lib.hid (HX.out.below B2.out)
      have Q2 := Lib.hid ((hb2.block _ (row_lt Q1.out)).trans Q1.out)
      clear hcd hcase hpost hb2 NW HX Q1 B1
      go_wp2_with fail
      go_loopw [11, 55] (fun t11 t55 wr => ∃ i : Nat, i ≤ xs.length ∧ t55 = .int .i64 i ∧ t11 = .int .i64 (wantS (xs.take i)) ∧ Hid (Below w2.heap.size w2 wr)) (fun _ t55 _ => xs.length - (intOf t55).toNat)
      case atStart => exact ⟨0, by omega, rfl, rfl, Lib.hid (Below.refl _ _)⟩
      case round =>
        obtain ⟨i, hi, rfl, rfl, BR⟩ := hrel
        by_cases hil : i < xs.length
        · obtain ⟨x, hx⟩ : ∃ x, xs[i]? = some x := ⟨_, List.getElem?_eq_getElem hil⟩
          obtain ⟨g, of, rfl, ⟨hx2, hx1⟩, p0, p1⟩ := sd_pair X2.out hx
          replace p0 := cell_below p0 BR.out
          replace p1 := cell_below p1 BR.out
          have NX : Hid (wantS (xs.take (i + 1)) = if sdB x then wantS (xs.take i) else 1) := Lib.hid (by rw [take_snoc hx, wantS_snoc])
          obtain ⟨z, hz⟩ : ∃ z, wantS (xs.take i) = z := ⟨_, rfl⟩
          rw [hz] at NX ⊢
          have i0 : (0 : Int) ≤ (i : Int) := by omega
          have i1 : (i : Int) < (xs.length : Int) := by omega
          have IL := Lib.hid hil
          obtain ⟨x1, x2⟩ := x
          clear hx hz hi hil hx1 hx2
          go_upto_region 10 with (fail)
          obtain ⟨w3, hw3, u0, u1, hb3⟩ := box2 wr (.int .i64 x1) (.int .u32 x2) 75
          rw [← hw3]
          obtain ⟨pb, hpb⟩ : ∃ pb, pb = wr.heap.size := ⟨_, rfl⟩
          rw [← hpb] at u0 u1 ⊢
          have B3 := Lib.hid (below_on BR.out hb3)
          clear hw3 hpb hb3 p0 p1 BR
          go_cut [71] from 59 to 71 (fun s wx => s = .bool (!sdB (x1, x2)) ∧ wx = w3)
          case first =>
            by_cases h1 : x1 < 1
            · have d1 : decide (x1 < 1) = true := by simpa using h1
              have E : Hid ((!sdB (x1, x2)) = true) := Lib.hid (by unfold sdB sysB; simp; omega)
              clear h1
              go_wp2_with fail
              go_meet
              exact ⟨by rw [E.out], rfl⟩
            · have d1 : decide (x1 < 1) = false := by simpa using h1
              by_cases h2 : x1 > 65535
              · have d2 : decide (x1 > 65535) = true := by simpa using h2
                have E : Hid ((!sdB (x1, x2)) = true) := Lib.hid (by unfold sdB sysB; simp; omega)
                clear h1 h2
                go_wp2_with fail
                go_meet
                exact ⟨by rw [E.out], rfl⟩
              · have d2 : decide (x1 > 65535) = false := by simpa using h2
                have hs : sysB x1 = true := by unfold sysB; simp; omega
                by_cases h3 : x2 = 0
                · subst h3
                  have E : Hid ((!sdB (x1, 0)) = true) := Lib.hid (by unfold sdB; simp)
                  clear h1 h2 hs
                  go_wp2_with fail
                  go_meet
                  exact ⟨by rw [E.out], rfl⟩
                · have d3 : ((x2 : Int) == 0) = false := by rw [beq_eq_false_iff_ne]; omega
                  have E : Hid ((!sdB (x1, x2)) = false) := Lib.hid (by unfold sdB; simp [hs, h3])
                  clear h1 h2 hs h3
                  go_wp2_with fail
                  go_meet
                  exact ⟨by rw [E.out], rfl⟩
          case rest =>
            obtain ⟨rfl, rfl⟩ := hcut
            clear u0 u1
            have iw : IntKind.i64.wrap ((i : Int) + 1) = ((i + 1 : Nat) : Int) := by
              have := X4.out
              have := IL.out
              rw [IntWalk.i64_in _ (by omega)]; omega
            rcases hs : sdB (x1, x2) with _ | _
            · have E : Hid (wantS (xs.take (i + 1)) = 1) := Lib.hid (by rw [NX.out, hs]; rfl)
              clear NX hs
              go_wp2_with fail
              exact ⟨⟨i + 1, by have := IL.out; omega, rfl, by rw [E.out], B3⟩, by have := IL.out; simp only [intOf]; omega⟩
            · have E : Hid (wantS (xs.take (i + 1)) = z) := Lib.hid (by rw [NX.out, hs]; rfl)
              clear NX hs
              go_wp2_with fail
              exact ⟨⟨i + 1, by have := IL.out; omega, rfl, by rw [E.out], B3⟩, by have := IL.out; simp only [intOf]; omega⟩
        · obtain rfl : i = xs.length := by omega
          rw [List.take_length]
          have X3 := Lib.hid (X2.out.below BR.out)
          have Q3 := Lib.hid ((BR.out.block _ (row_lt Q2.out)).trans Q2.out)
          have B3 := Lib.hid (below_on B2.out BR.out)
          have CASE3 : Hid ((cd ≠ 0 ∧ o = none) ∨ (cd = 0 ∧ ∃ (rho : Nat → Role) (sb fb : Nat) (ls : List Pl), o = some ⟨sb, 0, none⟩ ∧ SrvM wr rho sb fb ls (newSv own most xs))) := Lib.hid (by
            rcases CASE.out with h | ⟨h1, rho, sb, fb, ls, h2, h3⟩
            · exact .inl h
            · exact .inr ⟨h1, rho, sb, fb, ls, h2, h3.below BR.out⟩)
          clear X2 Q2 B2 CASE hi hil BR
          obtain ⟨zm, hzm⟩ : ∃ zm, decide ((xs.length : Int) > 16) = zm := ⟨_, rfl⟩
          have ZM : Hid (wantM xs = if zm then 3 else wantS xs) := Lib.hid (by
            rw [← hzm]
            unfold wantM
            by_cases h : 16 < xs.length
            · rw [if_pos h, if_pos (by simp; omega)]
            · rw [if_neg h, if_neg (by simp; omega)])
          have dz : decide (16 < xs.length) = zm := by rw [← hzm, decide_eq_decide]; omega
          obtain ⟨ws, hws⟩ : ∃ ws, wantS xs = ws := ⟨_, rfl⟩
          rw [hws] at ZM ⊢
          clear hws
          go_upto_if 75 with (fail)
          clear hzm dz
          go_cut [11] from 76 to 76 (fun s wx => s = .int .i64 (wantM xs) ∧ wx = wr)
          case first =>
            rcases zm with _ | _
            · have E : Hid (wantM xs = ws) := Lib.hid (by rw [ZM.out]; rfl)
              clear ZM
              go_wp2_with fail
              go_meet
              exact ⟨by rw [E.out], rfl⟩
            · have E : Hid (wantM xs = 3) := Lib.hid (by rw [ZM.out]; rfl)
              clear ZM
              go_wp2_with fail
              go_meet
              exact ⟨by rw [E.out], rfl⟩
          case rest =>
            obtain ⟨rfl, rfl⟩ := hcut
            clear ZM
            obtain ⟨wm, hwm⟩ : ∃ wm, wantM xs = wm := ⟨_, rfl⟩
            have WC : Hid ((if badB own xs then 1 else wm) = cd) := Lib.hid (by rw [← hwm, want_cd]; exact HCD.out)
            rw [hwm]
            clear hwm
            go_upto_region 15 with (fail)
            go_cut [86] from 76 to 86 (fun s wx => s = .bool (badB own xs) ∧ wx = wc)
            case first =>
              by_cases h1 : own < 1
              · have d1 : decide (own < 1) = true := by simpa using h1
                have E : Hid (badB own xs = true) := Lib.hid (by unfold badB sysB; simp; omega)
                clear h1
                go_wp2_with fail
                go_meet
                exact ⟨by rw [E.out], rfl⟩
              · have d1 : decide (own < 1) = false := by simpa using h1
                by_cases h2 : own > 65535
                · have d2 : decide (own > 65535) = true := by simpa using h2
                  have E : Hid (badB own xs = true) := Lib.hid (by unfold badB sysB; simp; omega)
                  clear h1 h2
                  go_wp2_with fail
                  go_meet
                  exact ⟨by rw [E.out], rfl⟩
                · have d2 : decide (own > 65535) = false := by simpa using h2
                  have hs : sysB own = true := by unfold sysB; simp; omega
                  by_cases h3 : xs.length = 0
                  · have d3 : ((xs.length : Int) == 0) = true := by simpa using h3
                    have E : Hid (badB own xs = true) := Lib.hid (by unfold badB; simp [h3])
                    clear h1 h2 hs h3
                    go_wp2_with fail
                    go_meet
                    exact ⟨by rw [E.out], rfl⟩
                  · have d3 : ((xs.length : Int) == 0) = false := by rw [beq_eq_false_iff_ne]; omega
                    have E : Hid (badB own xs = false) := Lib.hid (by unfold badB; simp [hs, h3])
                    clear h1 h2 hs h3
                    go_wp2_with fail
                    go_meet
                    exact ⟨by rw [E.out], rfl⟩
            case rest =>
              obtain ⟨w4, hw4⟩ : ∃ w4 : World, wc = w4 := ⟨_, rfl⟩
              obtain ⟨rfl, h0⟩ := hcut
              subst h0
              obtain ⟨bd, hbd⟩ : ∃ bd, badB own xs = bd := ⟨_, rfl⟩
              rw [hbd] at WC
              rw [hbd]
              clear hbd
              go_upto_if 86 with (fail)
              go_cut [11] from 87 to 87 (fun s wx => s = .int .i64 cd ∧ wx = w4)
              case first =>
                rcases bd with _ | _
                · have E : Hid (wm = cd) := Lib.hid (by have := WC.out; simpa using this)
                  clear WC
                  go_wp2_with fail
                  go_meet
                  exact ⟨by rw [E.out], hw4⟩
                · have E : Hid (1 = cd) := Lib.hid (by have := WC.out; simpa using this)
                  clear WC
                  go_wp2_with fail
                  go_meet
                  exact ⟨by rw [E.out], hw4⟩
              case rest =>
                obtain ⟨rfl, h5⟩ := hcut
                subst h5
                subst hw4
                clear WC
                obtain ⟨w5, hw5⟩ : ∃ w5 : World, w5 = wc := ⟨_, rfl⟩
                rw [← hw5] at X3 Q3 B3 CASE3 ⊢
                clear hw5
                have cc0 : (cd != cd) = false := by simp
                rcases CASE3.out with ⟨hc, rfl⟩ | ⟨hc, rho, sb, fb, ls, rfl, hS⟩
                · have c1 : (cd != 0) = true := by simpa using hc
                  clear hc CASE3
                  go_upto_region 20 with (fail)
                  clear Q3 X3
                  have N1 := Lib.hid (fun w => l_net14 1 (by decide) w)
                  have mz := msg_zero
                  go_wp2_with fail
                  refine (sv_Leave_nil 0 w5).mono ?_
                  rintro e w6 ⟨rfl, rfl⟩
                  go_wp2_with fail
                  refine (sv_Update_nil 0 mv0 w5).mono ?_
                  rintro e w6 ⟨rfl, hb6⟩
                  have B6 := Lib.hid (below_on B3.out hb6)
                  clear hb6 B3 mz
                  go_wp2_with fail
                  refine (N1.out w6).mono ?_
                  rintro e w7 ⟨rfl, hb7⟩
                  have B7 := Lib.hid (below_on B6.out hb7)
                  clear hb7 B6
                  go_wp2_with fail
                  refine (sv_Best_nil 0 w7 (netP 1)).mono ?_
                  rintro e w8 ⟨rfl, hb8⟩
                  have B8 := Lib.hid (below_on B7.out hb8)
                  clear hb8 B7
                  go_wp2_with ((with_reducible refine halt_at (X := .store 61 (.tmp 18) (.tmp 114)) ?_ ?_); (· rfl))
                  unfold Halt
                  refine st_fresh rfl 61 (.tmp 18) (.tmp 114) rfl rfl _ (rtC 0 (0, 0) av0) rfl sz_rt rfl (rt_one _ _ _) ?_
                  obtain ⟨w9, hw9, -, hb9, -⟩ := box1 w8 (rtC 0 (0, 0) av0) 61
                  rw [← hw9]
                  have B9 := Lib.hid (below_on B8.out hb9)
                  clear hw9 hb9 B8
                  simp only [Act.put]
                  go_wp2_with fail
                  refine (sv_Mark_nil 0 _ w9).mono ?_
                  rintro e w10 ⟨rfl, rfl⟩
                  go_wp2_with fail
                  refine (sv_Sides_nil w9).mono ?_
                  rintro e w10 ⟨rfl, rfl⟩
                  go_wp2_with fail
                  refine (sv_Join_nil 0 w9).mono ?_
                  rintro e w11 ⟨rfl, rfl⟩
                  go_wp2_with fail
                  refine (sv_Block_nil 0 0 true w9).mono ?_
                  rintro e w12 ⟨rfl, rfl⟩
                  go_wp2_with fail
                  refine (sv_Bests_nil 0 w9).mono ?_
                  rintro e w13 ⟨rfl, rfl⟩
                  go_wp2_with fail
                  refine (N1.out w9).mono ?_
                  rintro e w14 ⟨rfl, hb14⟩
                  have B14 := Lib.hid (below_on B9.out hb14)
                  clear hb14 B9
                  go_wp2_with fail
                  refine (sv_Offers_nil 0 w14 (netP 1)).mono ?_
                  rintro e w15 ⟨rfl, hb15⟩
                  have B15 := Lib.hid (below_on B14.out hb15)
                  clear hb15 B14
                  go_wp2_with fail
                  refine (sv_Nets_nil w15).mono ?_
                  rintro e w16 ⟨rfl, rfl⟩
                  go_wp2_with fail
                  refine (sv_News_nil 0 w15).mono ?_
                  rintro e w17 ⟨rfl, rfl⟩
                  go_wp2_with fail
                  refine (sv_Routes_nil 0 w15).mono ?_
                  rintro e w18 ⟨rfl, rfl⟩
                  go_wp2_with fail
                  refine (N1.out w15).mono ?_
                  rintro e w19 ⟨rfl, hb19⟩
                  have B19 := Lib.hid (below_on B15.out hb19)
                  clear hb19 B15
                  go_wp2_with fail
                  refine (sv_Goes_nil 0 1 (netP 1) w19).mono ?_
                  rintro e w20 ⟨rfl, hb20⟩
                  have B20 := Lib.hid (below_on B19.out hb20)
                  clear hb20 B19
                  go_wp2_with fail
                  refine (sv_There_nil 0 w20).mono ?_
                  rintro e w21 ⟨rfl, rfl⟩
                  go_wp2_with fail
                  refine (sv_Side_nil 0 w20).mono ?_
                  rintro e w22 ⟨rfl, hb22⟩
                  have B22 := Lib.hid (below_on B20.out hb22)
                  clear hb22 B20
                  go_wp2_with fail
                  go_ret
                  exact ⟨rfl, B22.out⟩
                · subst hc
                  have SV := Lib.hid hS
                  clear hS CASE3
                  have HM : Hid (∀ (i : Nat) (x : Sd), xs[i]? = some x → (newSv own most xs).ms[i]? = some (pmOf x)) := Lib.hid (fun i x hx => by
                    show (xs.map pmOf)[i]? = _
                    rw [List.getElem?_map, hx]; rfl)
                  have MN : Hid ((newSv own most xs).ms.length = xs.length) := Lib.hid (by show (xs.map pmOf).length = _; rw [List.length_map])
                  have OW : Hid (own % 65536 = own) := Lib.hid (by
                    have h := HCD.out
                    cases hs : sysB own with
                    | false => rw [newCd_arg (.inl hs)] at h; omega
                    | true => unfold sysB at hs; simp at hs; omega)
                  clear HCD
                  go_wp2_with fail
                  go_loopw [185] (fun t185 wr => ∃ i : Nat, i ≤ xs.length ∧ t185 = .int .i64 i ∧ Hid (Below w5.heap.size w5 wr)) (fun t185 _ => xs.length - (intOf t185).toNat)
                  case atStart => exact ⟨0, by omega, rfl, Lib.hid (Below.refl _ _)⟩
                  case round =>
                    obtain ⟨i, hi, rfl, BR⟩ := hrel
                    by_cases hil : i < xs.length
                    · obtain ⟨x, hx⟩ : ∃ x, xs[i]? = some x := ⟨_, List.getElem?_eq_getElem hil⟩
                      obtain ⟨g, of, rfl, -, p0, p1⟩ := sd_pair X3.out hx
                      replace p0 := cell_below p0 BR.out
                      replace p1 := cell_below p1 BR.out
                      have SD := Lib.hid (fun w' (hb : Below wr.heap.size wr w') => sv_Side ((SV.out.below BR.out).below hb) (HM.out i x hx))
                      have i0 : (0 : Int) ≤ (i : Int) := by omega
                      have i1 : (i : Int) < (xs.length : Int) := by omega
                      have IL := Lib.hid hil
                      obtain ⟨x1, x2⟩ := x
                      clear hx hi hil
                      go_upto_region 28 with (fail)
                      obtain ⟨w6, hw6, u0, u1, hb6⟩ := box2 wr (.int .i64 x1) (.int .u32 x2) 75
                      rw [← hw6]
                      obtain ⟨pb, hpb⟩ : ∃ pb, pb = wr.heap.size := ⟨_, rfl⟩
                      rw [← hpb] at u0 u1 ⊢
                      have SD6 : Hid (∀ w', Below w6.heap.size w6 w' → Calls Tryz.prog 35 #[.pointer (some ⟨sb, 0, none⟩), .int .i64 i] w' fun e w2 => e = .returned (.agg #[.int .i64 x1, .int .u32 x2]) ∧ Below w'.heap.size w' w2) := Lib.hid (fun w' hb => SD.out w' (below_on hb6 hb))
                      have B6 := Lib.hid (below_on BR.out hb6)
                      clear hw6 hpb hb6 p0 p1 BR SD
                      refine wp_region_held_drew (S := fun w' => Below w6.heap.size w6 w') (by kernel_rfl) ?_ (fun hHeld => ?_)
                      · exact (Below.refl _ _).drew
                      generalize World.drew w6 = wd at hHeld ⊢
                      refine qy 0 ?_ ?_ ?_ hHeld ?_; rotate_left 1; (· rfl); (· intro w' hSw; (try clear hHeld); go_simp; try with_reducible rfl)
                      try simp only [zp1, zp3, zp4, zp5]
                      refine qy 1 ?_ ?_ ?_ hHeld ?_; rotate_left 1; (· rfl); (· intro w' hSw; (try clear hHeld); go_simp; try with_reducible rfl)
                      try simp only [zp1, zp3, zp4, zp5]
                      refine qy 3 ?_ ?_ ?_ hHeld ?_; rotate_left 1; (· rfl); (· intro w' hSw; have u0 := cell_below u0 hSw; have u1 := cell_below u1 hSw; (try clear hHeld); go_simp; try with_reducible rfl)
                      try simp only [zp1, zp3, zp4, zp5]
                      refine rg_call (i := 2) (atN rfl) (by kernel_rfl) ?_ (fun K hK => ?_); (· rfl); (try clear hb); go_simp; (refine (SD6.out _ hHeld).mono ?_; rintro e w1 ⟨rfl, hb⟩); go_wp2_with fail; refine hK.out _ _ ?_ (fun hHeld => ?_); (· exact hHeld.trans (hb.mono hHeld.size)); clear hK K
                      try simp only [zp1, zp3, zp4, zp5]
                      refine qy 4 ?_ ?_ ?_ hHeld ?_; rotate_left 1; (· rfl); (· intro w' hSw; (try clear hHeld); go_simp; try with_reducible rfl)
                      try simp only [zp1, zp3, zp4, zp5]
                      refine wpAnyH_done (by kernel_rfl) ?_ _
                      have B7 := Lib.hid (below_on B6.out hHeld)
                      have iw : IntKind.i64.wrap ((i : Int) + 1) = ((i + 1 : Nat) : Int) := by
                        have := X4.out
                        have := IL.out
                        rw [IntWalk.i64_in _ (by omega)]; omega
                      clear hHeld u0 u1 SD6 B6
                      go_wp2_with fail
                      exact ⟨⟨i + 1, by have := IL.out; omega, rfl, B7⟩, by have := IL.out; simp only [intOf]; omega⟩
                    · obtain rfl : i = xs.length := by omega
                      have SR := Lib.hid (SV.out.below BR.out)
                      have QR := Lib.hid ((BR.out.block _ (row_lt Q3.out)).trans Q3.out)
                      have BB := Lib.hid (below_on B3.out BR.out)
                      clear X3 SV Q3 B3 BR hi hil
                      obtain ⟨vA, hvA⟩ : ∃ vA, avOf a sp cp sc cc so co = vA := ⟨_, rfl⟩
                      have AVA : Hid (AvAt wr a vA) := Lib.hid ⟨sp, cp, sc, cc, so, co, hvA.symm, HA.out.below BB.out⟩
                      have QV : Hid (wr.heap[ab]? = some (.cells vA.C 42 (0, 0))) := Lib.hid (by rw [← hvA]; exact QR.out)
                      have N1 := Lib.hid (fun w => l_net14 1 (by decide) w)
                      have ST : Hid (∀ w', Below wr.heap.size wr w' → Calls Tryz.prog 36 #[.pointer (some ⟨sb, 0, none⟩), .agg (rtC 1 (netP 1) vA)] w' fun e w2 => ∃ u : AV, e = .returned (.agg (rtC 1 (netP 1) u)) ∧ Fresh w'.heap.size w2 (fun W => AvAt W (stripA own a) u) ∧ Below w'.heap.size w' w2) := Lib.hid (fun w' hb => sv_Strip (SR.out.below hb) 1 (netP 1) a vA (AVA.out.below hb) HZ.out)
                      clear QR hvA
                      go_upto_region 31 with (fail)
                      go_cut [22] from 196 to 200 (fun s wx => ∃ (rb : Nat) (u : AV), s = .pointer (some ⟨rb, 0, none⟩) ∧ Hid (wx.heap[rb]? = some (.cells (rtC 1 (netP 1) u) 61 (0, 0))) ∧ Hid (AvAt wx (stripA own a) u) ∧ Hid (Below wr.heap.size wr wx))
                      case first =>
                        refine wp_region_held_drew (S := fun w' => Below wr.heap.size wr w') (by kernel_rfl) ?_ (fun hHeld => ?_)
                        · exact (Below.refl _ _).drew
                        generalize World.drew wr = wd at hHeld ⊢
                        refine qy 0 ?_ ?_ ?_ hHeld ?_; rotate_left 1; (· rfl); (· intro w' hSw; (try clear hHeld); go_simp; try with_reducible rfl)
                        try simp only [zp1, zp3, zp4, zp5]
                        refine qy 2 ?_ ?_ ?_ hHeld ?_; rotate_left 1; (· rfl); (· intro w' hSw; refine exec_ld 42 (.tmp 7) ?_ ab ?_ 42 vA.C (0, 0) _ ((hSw.block _ (row_lt QV.out)).trans QV.out) Tryz.underlying42 rfl sz_avS <;> rfl)
                        try simp only [zp1, zp3, zp4, zp5]
                        refine rg_call2 (i := 1) (j := 5) (atS at0) (atS (atS (atS (atS (atS at0))))) (by kernel_rfl) ?_ ?_ (fun K hK => ?_) (fun K hK => ?_)
                        · rfl
                        · rfl
                        · (try clear hb); go_simp; (refine (N1.out _).mono ?_; rintro e w1 ⟨rfl, hb⟩); (try replace qA := (hb.block _ (row_lt qA)).trans qA); have SZ := Lib.hid hb.size; go_wp2_with fail; refine hK.out _ _ ?_ (fun hHeld => ?_); (· exact hHeld.trans (hb.mono hHeld.size)); clear hK K
                          try simp only [zp1, zp3, zp4, zp5]
                          refine qy 3 ?_ ?_ ?_ hHeld ?_; rotate_left 1; (· rfl); (· intro w' hSw; have mbl := rt_built (netP 1) vA; (try clear hHeld); go_simp; try with_reducible rfl)
                          try simp only [zp1, zp3, zp4, zp5]
                          refine rg_call2 (i := 4) (j := 5) (atS (atS (atS (atS at0)))) (atS (atS (atS (atS (atS at0))))) (by kernel_rfl) ?_ ?_ (fun K hK => ?_) (fun K hK => ?_)
                          · rfl
                          · rfl
                          · (try clear hb); go_simp; refine (ST.out _ hHeld).mono ?_; rintro e wq ⟨u, rfl, fr, hb⟩; have FR := Lib.hid (fr.wide (G := fun k => _ ≤ k ∧ k < wq.heap.size) (fun k hk hl => ⟨hk, hl⟩)); clear fr; (try replace qA := (hb.block _ (row_lt qA)).trans qA); go_wp2_with fail; refine hK.out _ _ ?_ (fun hHeld => ?_); (· exact below_on hHeld hb); clear hK K
                            try simp only [zp1, zp3, zp4, zp5]
                            refine rg_call (i := 5) (atN rfl) (by kernel_rfl) ?_ (fun K hK => ?_); (· rfl); (try clear hb); go_simp; refine al_k (p := K _) ?_; intro wA qA hb; have LQ := Lib.hid (row_lt qA); have LB := Lib.hid hHeld.size; (try have FR := Lib.hid (FR.out.below hb)); refine hK.out _ _ ?_ (fun hHeld => ?_); (· exact below_on hHeld hb); clear hK K
                            try simp only [zp1, zp3, zp4, zp5]
                            refine rg_call (i := 6) (atN rfl) (by kernel_rfl) ?_ (fun K hK => ?_); (· rfl); (try clear hb); refine wp_store_rowat 61 (.tmp 22) (.tmp 200) rfl _ rfl 61 (rtC 0 (0, 0) av0) (rtC 1 (netP 1) u) rfl qA (by kernel_rfl) rfl (rt_one _ _ _) ?_; refine setRow_k (p := K _) qA ?_; intro wz qz kz; have AVF := Lib.hid (FR.out.kept kz (fun k _ hk e => by have := LQ.out; (try have := SZ.out); omega)).self; refine hK.out _ _ ?_ (fun hHeld => ?_); (· exact hHeld.trans (kz.below hHeld.size (by rintro k rfl; exact LB.out))); clear hK K
                            try simp only [Act.put]
                            refine wpAnyH_done (by kernel_rfl) ?_ _
                            have FZ := Lib.hid hHeld
                            have QZ := Lib.hid qz
                            clear hHeld qz kz
                            go_wp2_with fail
                            go_meet
                            exact ⟨_, u, rfl, QZ, AVF, FZ⟩
                          · (try clear hb); go_simp; refine al_k (p := K _) ?_; intro wA qA hb; have LQ := Lib.hid (row_lt qA); have LB := Lib.hid hHeld.size; (try have FR := Lib.hid (FR.out.below hb)); refine hK.out _ _ ?_ (fun hHeld => ?_); (· exact below_on hHeld hb); clear hK K
                            try simp only [zp1, zp3, zp4, zp5]
                            refine rg_call (i := 4) (atN rfl) (by kernel_rfl) ?_ (fun K hK => ?_); (· rfl); (try clear hb); go_simp; refine (ST.out _ hHeld).mono ?_; rintro e wq ⟨u, rfl, fr, hb⟩; have FR := Lib.hid (fr.wide (G := fun k => _ ≤ k ∧ k < wq.heap.size) (fun k hk hl => ⟨hk, hl⟩)); clear fr; (try replace qA := (hb.block _ (row_lt qA)).trans qA); go_wp2_with fail; refine hK.out _ _ ?_ (fun hHeld => ?_); (· exact below_on hHeld hb); clear hK K
                            try simp only [zp1, zp3, zp4, zp5]
                            refine rg_call (i := 6) (atN rfl) (by kernel_rfl) ?_ (fun K hK => ?_); (· rfl); (try clear hb); refine wp_store_rowat 61 (.tmp 22) (.tmp 200) rfl _ rfl 61 (rtC 0 (0, 0) av0) (rtC 1 (netP 1) u) rfl qA (by kernel_rfl) rfl (rt_one _ _ _) ?_; refine setRow_k (p := K _) qA ?_; intro wz qz kz; have AVF := Lib.hid (FR.out.kept kz (fun k _ hk e => by have := LQ.out; (try have := SZ.out); omega)).self; refine hK.out _ _ ?_ (fun hHeld => ?_); (· exact hHeld.trans (kz.below hHeld.size (by rintro k rfl; exact LB.out))); clear hK K
                            try simp only [Act.put]
                            refine wpAnyH_done (by kernel_rfl) ?_ _
                            have FZ := Lib.hid hHeld
                            have QZ := Lib.hid qz
                            clear hHeld qz kz
                            go_wp2_with fail
                            go_meet
                            exact ⟨_, u, rfl, QZ, AVF, FZ⟩
                        · (try clear hb); go_simp; refine al_k (p := K _) ?_; intro wA qA hb; have LQ := Lib.hid (row_lt qA); have LB := Lib.hid hHeld.size; (try have FR := Lib.hid (FR.out.below hb)); refine hK.out _ _ ?_ (fun hHeld => ?_); (· exact below_on hHeld hb); clear hK K
                          try simp only [zp1, zp3, zp4, zp5]
                          refine rg_call (i := 1) (atN rfl) (by kernel_rfl) ?_ (fun K hK => ?_); (· rfl); (try clear hb); go_simp; (refine (N1.out _).mono ?_; rintro e w1 ⟨rfl, hb⟩); (try replace qA := (hb.block _ (row_lt qA)).trans qA); have SZ := Lib.hid hb.size; go_wp2_with fail; refine hK.out _ _ ?_ (fun hHeld => ?_); (· exact hHeld.trans (hb.mono hHeld.size)); clear hK K
                          try simp only [zp1, zp3, zp4, zp5]
                          refine qy 3 ?_ ?_ ?_ hHeld ?_; rotate_left 1; (· rfl); (· intro w' hSw; have mbl := rt_built (netP 1) vA; (try clear hHeld); go_simp; try with_reducible rfl)
                          try simp only [zp1, zp3, zp4, zp5]
                          refine rg_call (i := 4) (atN rfl) (by kernel_rfl) ?_ (fun K hK => ?_); (· rfl); (try clear hb); go_simp; refine (ST.out _ hHeld).mono ?_; rintro e wq ⟨u, rfl, fr, hb⟩; have FR := Lib.hid (fr.wide (G := fun k => _ ≤ k ∧ k < wq.heap.size) (fun k hk hl => ⟨hk, hl⟩)); clear fr; (try replace qA := (hb.block _ (row_lt qA)).trans qA); go_wp2_with fail; refine hK.out _ _ ?_ (fun hHeld => ?_); (· exact below_on hHeld hb); clear hK K
                          try simp only [zp1, zp3, zp4, zp5]
                          refine rg_call (i := 6) (atN rfl) (by kernel_rfl) ?_ (fun K hK => ?_); (· rfl); (try clear hb); refine wp_store_rowat 61 (.tmp 22) (.tmp 200) rfl _ rfl 61 (rtC 0 (0, 0) av0) (rtC 1 (netP 1) u) rfl qA (by kernel_rfl) rfl (rt_one _ _ _) ?_; refine setRow_k (p := K _) qA ?_; intro wz qz kz; have AVF := Lib.hid (FR.out.kept kz (fun k _ hk e => by have := LQ.out; (try have := SZ.out); omega)).self; refine hK.out _ _ ?_ (fun hHeld => ?_); (· exact hHeld.trans (kz.below hHeld.size (by rintro k rfl; exact LB.out))); clear hK K
                          try simp only [Act.put]
                          refine wpAnyH_done (by kernel_rfl) ?_ _
                          have FZ := Lib.hid hHeld
                          have QZ := Lib.hid qz
                          clear hHeld qz kz
                          go_wp2_with fail
                          go_meet
                          exact ⟨_, u, rfl, QZ, AVF, FZ⟩
                      case rest =>
                        obtain ⟨rb, u, rfl, QU, AU, BU⟩ := hcut
                        obtain ⟨wx, hwx⟩ : ∃ wx : World, wx = wc := ⟨_, rfl⟩
                        rw [← hwx] at QU AU BU ⊢
                        have SX := Lib.hid (SR.out.below BU.out)
                        have SI : Hid (∀ w', Below wx.heap.size wx w' → Calls Tryz.prog 33 #[.pointer (some ⟨sb, 0, none⟩)] w' fun e w2 => e = .returned (.int .i64 xs.length) ∧ Below w'.heap.size w' w2) := Lib.hid (fun w' hb => (sv_Sides (SX.out.below hb)).mono (by
                          rintro e w2 ⟨rfl, rfl⟩
                          rw [MN.out]
                          exact ⟨rfl, Below.refl _ _⟩))
                        have SN : Hid (∀ w', Below wx.heap.size wx w' → Calls Tryz.prog 35 #[.pointer (some ⟨sb, 0, none⟩), .int .i64 xs.length] w' fun e w2 => e = .returned (.agg #[.int .i64 0, .int .u32 0]) ∧ Below w'.heap.size w' w2) := Lib.hid (fun w' hb => sv_Side_no (SX.out.below hb) (by rw [MN.out]; omega))
                        have Fss : Hid (∀ w' fb2, Below wx.heap.size wx w' → w'.cell? ⟨fb2, 0, none⟩ = some (.int .i64 own) → Calls Tryz.prog 39 #[.pointer (some ⟨fb2, 0, none⟩), vA.V] w' fun e w2 => ∃ u : AV, e = .returned u.V ∧ Fresh w'.heap.size w2 (fun W => AvAt W (stripA own a) u) ∧ Below w'.heap.size w' w2) := Lib.hid (fun w' fb2 hb hf => by
                          obtain ⟨vp, vc, vo, e, hl⟩ := ((AVA.out.below BU.out).below hb).form
                          rw [e]
                          exact ex_Strip a vp vc vo fb2 own w' hl HZ.out hf)
                        have SM : Hid (∀ w' (u1 u2 : AV), AvAt w' (stripA own a) u1 → AvAt w' (stripA own a) u2 → Calls Tryz.prog 37 #[u1.V, u2.V] w' fun e w2 => e = .returned (.bool true) ∧ Below w'.heap.size w' w2) := Lib.hid (fun w' u1 u2 h1 h2 => by
                          obtain ⟨vp, vc, vo, e, hl⟩ := h1.form
                          obtain ⟨vp2, vc2, vo2, e2, hl2⟩ := h2.form
                          rw [e, e2]
                          have := at_Same _ _ _ _ _ _ _ _ w' hl hl2
                          rw [sameA_refl] at this
                          exact this)
                        have x0 : wx.cell? ⟨rb, 0, none⟩ = some (.int .i64 1) := row_cell QU.out 0
                        have RU := Lib.hid (rt_range QU.out)
                        have QX : Hid (wx.heap[ab]? = some (.cells vA.C 42 (0, 0))) := Lib.hid ((BU.out.block _ (row_lt QV.out)).trans QV.out)
                        clear hwx SR QV N1 ST AVA SX QU
                        go_upto_region 32 with (fail)
                        refine wp_region_held_drew (S := fun w' => Below wx.heap.size wx w') (by kernel_rfl) ?_ (fun hHeld => ?_)
                        · exact (Below.refl _ _).drew
                        generalize World.drew wx = wd at hHeld ⊢
                        refine qy 0 ?_ ?_ ?_ hHeld ?_; rotate_left 1; (· rfl); (· intro w' hSw; (try clear hHeld); go_simp; try with_reducible rfl)
                        try simp only [zp1, zp3, zp4, zp5]
                        refine qy 2 ?_ ?_ ?_ hHeld ?_; rotate_left 1; (· rfl); (· intro w' hSw; (try clear hHeld); go_simp; try with_reducible rfl)
                        try simp only [zp1, zp3, zp4, zp5]
                        refine qy 3 ?_ ?_ ?_ hHeld ?_; rotate_left 1; (· rfl); (· intro w' hSw; (try clear hHeld); go_simp; try with_reducible rfl)
                        try simp only [zp1, zp3, zp4, zp5]
                        refine rg_call (i := 1) (atN rfl) (by kernel_rfl) ?_ (fun K hK => ?_); (· rfl); (try clear hb); go_simp; (refine (SI.out _ hHeld).mono ?_; rintro e w1 ⟨rfl, hb⟩); (try have FIL := Lib.hid (FIL.out.below hb)); (try have AV2 := Lib.hid (AV2.out.below hb)); go_wp2_with fail; refine hK.out _ _ ?_ (fun hHeld => ?_); (· exact hHeld.trans (hb.mono hHeld.size)); clear hK K
                        try simp only [zp1, zp3, zp4, zp5]
                        refine qy 4 ?_ ?_ ?_ hHeld ?_; rotate_left 1; (· rfl); (· intro w' hSw; (try clear hHeld); go_simp; try with_reducible rfl)
                        try simp only [zp1, zp3, zp4, zp5]
                        refine qy 5 ?_ ?_ ?_ hHeld ?_; rotate_left 1; (· rfl); (· intro w' hSw; (try clear hHeld); go_simp; try with_reducible rfl)
                        try simp only [zp1, zp3, zp4, zp5]
                        refine qy 6 ?_ ?_ ?_ hHeld ?_; rotate_left 1; (· rfl); (· intro w' hSw; (try clear hHeld); go_simp; try with_reducible rfl)
                        try simp only [zp1, zp3, zp4, zp5]
                        refine qy 7 ?_ ?_ ?_ hHeld ?_; rotate_left 1; (· rfl); (· intro w' hSw; (try clear hHeld); go_simp; try with_reducible rfl)
                        try simp only [zp1, zp3, zp4, zp5]
                        refine qy 8 ?_ ?_ ?_ hHeld ?_; rotate_left 1; (· rfl); (· intro w' hSw; (try clear hHeld); go_simp; try with_reducible rfl)
                        try simp only [zp1, zp3, zp4, zp5]
                        refine qy 10 ?_ ?_ ?_ hHeld ?_; rotate_left 1; (· rfl); (· intro w' hSw; (try clear hHeld); go_simp; try with_reducible rfl)
                        try simp only [zp1, zp3, zp4, zp5]
                        refine rg_call (i := 9) (atN rfl) (by kernel_rfl) ?_ (fun K hK => ?_); (· rfl); (try clear hb); go_simp; (refine (SN.out _ hHeld).mono ?_; rintro e w1 ⟨rfl, hb⟩); (try have FIL := Lib.hid (FIL.out.below hb)); (try have AV2 := Lib.hid (AV2.out.below hb)); go_wp2_with fail; refine hK.out _ _ ?_ (fun hHeld => ?_); (· exact hHeld.trans (hb.mono hHeld.size)); clear hK K
                        try simp only [zp1, zp3, zp4, zp5]
                        refine qy 11 ?_ ?_ ?_ hHeld ?_; rotate_left 1; (· rfl); (· intro w' hSw; (try clear hHeld); go_simp; try with_reducible rfl)
                        try simp only [zp1, zp3, zp4, zp5]
                        refine qy 12 ?_ ?_ ?_ hHeld ?_; rotate_left 1; (· rfl); (· intro w' hSw; (try clear hHeld); go_simp; try with_reducible rfl)
                        try simp only [zp1, zp3, zp4, zp5]
                        refine qy 13 ?_ ?_ ?_ hHeld ?_; rotate_left 1; (· rfl); (· intro w' hSw; (try clear hHeld); go_simp; try with_reducible rfl)
                        try simp only [zp1, zp3, zp4, zp5]
                        refine qy 14 ?_ ?_ ?_ hHeld ?_; rotate_left 1; (· rfl); (· intro w' hSw; (try clear hHeld); go_simp; try with_reducible rfl)
                        try simp only [zp1, zp3, zp4, zp5]
                        refine qy 15 ?_ ?_ ?_ hHeld ?_; rotate_left 1; (· rfl); (· intro w' hSw; have x0 := cell_below x0 hSw; (try clear hHeld); go_simp; try with_reducible rfl)
                        try simp only [zp1, zp3, zp4, zp5]
                        refine qy 16 ?_ ?_ ?_ hHeld ?_; rotate_left 1; (· rfl); (· intro w' hSw; (try clear hHeld); go_simp; try with_reducible rfl)
                        try simp only [zp1, zp3, zp4, zp5]
                        refine qy 17 ?_ ?_ ?_ hHeld ?_; rotate_left 1; (· rfl); (· intro w' hSw; (try clear hHeld); go_simp; try with_reducible rfl)
                        try simp only [zp1, zp3, zp4, zp5]
                        refine qy 18 ?_ ?_ ?_ hHeld ?_; rotate_left 1; (· rfl); (· intro w' hSw; (try clear hHeld); go_simp; try with_reducible rfl)
                        try simp only [zp1, zp3, zp4, zp5]
                        refine qy 19 ?_ ?_ ?_ hHeld ?_; rotate_left 1; (· rfl); (· intro w' hSw; (try clear hHeld); go_simp; try with_reducible rfl)
                        try simp only [zp1, zp3, zp4, zp5]
                        refine qy 20 ?_ ?_ ?_ hHeld ?_; rotate_left 1; (· rfl); (· intro w' hSw; refine exec_ldm 42 (.tmp 220) ?_ rb 3 ?_ u.C.toList _ (range_below RU.out hSw) Tryz.underlying42 rfl sz_avS <;> rfl)
                        try simp only [zp1, zp3, zp4, zp5]
                        refine qy 21 ?_ ?_ ?_ hHeld ?_; rotate_left 1; (· rfl); (· intro w' hSw; (try clear hHeld); go_simp; try with_reducible rfl)
                        try simp only [zp1, zp3, zp4, zp5]
                        refine qy 23 ?_ ?_ ?_ hHeld ?_; rotate_left 1; (· rfl); (· intro w' hSw; refine exec_ld 42 (.tmp 7) ?_ ab ?_ 42 vA.C (0, 0) _ ((hSw.block _ (row_lt QX.out)).trans QX.out) Tryz.underlying42 rfl sz_avS <;> rfl)
                        try simp only [zp1, zp3, zp4, zp5]
                        refine rg_call (i := 22) (atN rfl) (by kernel_rfl) ?_ (fun K hK => ?_); (· rfl); (try clear hb); go_simp; refine (ex_New own _).mono ?_; rintro e wn ⟨rfl, fil, hb⟩; have FIL := Lib.hid fil; clear fil; go_wp2_with fail; refine hK.out _ _ ?_ (fun hHeld => ?_); (· exact below_on hHeld hb); clear hK K
                        try simp only [zp1, zp3, zp4, zp5]
                        refine rg_call (i := 24) (atN rfl) (by kernel_rfl) ?_ (fun K hK => ?_); (· rfl); (try clear hb); go_simp; refine (Fss.out _ _ hHeld (by have h := FIL.out.own; rw [OW.out] at h; exact h)).mono ?_; rintro e wq ⟨u2, rfl, fr, hb⟩; have AV2 := Lib.hid fr.self; clear fr; go_wp2_with fail; refine hK.out _ _ ?_ (fun hHeld => ?_); (· exact below_on hHeld hb); clear hK K
                        try simp only [zp1, zp3, zp4, zp5]
                        refine rg_call (i := 25) (atN rfl) (by kernel_rfl) ?_ (fun K hK => ?_); (· rfl); (try clear hb); go_simp; refine (SM.out _ u u2 (AU.out.below hHeld) AV2.out).mono ?_; rintro e wr2 ⟨rfl, hb⟩; go_wp2_with fail; refine hK.out _ _ ?_ (fun hHeld => ?_); (· exact below_on hHeld hb); clear hK K
                        try simp only [zp1, zp3, zp4, zp5]
                        refine qy 26 ?_ ?_ ?_ hHeld ?_; rotate_left 1; (· rfl); (· intro w' hSw; (try clear hHeld); go_simp; try with_reducible rfl)
                        try simp only [zp1, zp3, zp4, zp5]
                        refine qy 27 ?_ ?_ ?_ hHeld ?_; rotate_left 1; (· rfl); (· intro w' hSw; (try clear hHeld); go_simp; try with_reducible rfl)
                        try simp only [zp1, zp3, zp4, zp5]
                        refine wpAnyH_done (by kernel_rfl) ?_ _
                        have FZ := Lib.hid (below_on BB.out (below_on BU.out hHeld))
                        clear hHeld
                        go_wp2_with fail
                        go_ret
                        exact ⟨rfl, FZ.out⟩
    · clear X40
      go_wp2_with fail
      go_ret
      exact ⟨rfl, B1.out⟩
end Go.Proofs.YtkoidahgbbabiaaGreat
