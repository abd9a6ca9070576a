/-
  ServerOffers: proved of every number of participants, whatever steps, receiver and prefix: of all who offer a route the first is the best; none of them is blocked, or the receiver; when all are blocked there is none.
-/
import Derived.Test.YtkoidahgbbabiaaGreatOf25
import Derived.Test.YtkoidahgbbabiaaGreatOf1
import Derived.Test.YtkoidahgbbabiaaGreatOf5
namespace Go.Proofs.YtkoidahgbbabiaaGreat
open Go.RowKit

theorem and_3 (x : Int) : bits .and .i64 x 3 = x % 4 := and_low_i64 x 2 (by decide)
theorem and_7 (x : Int) : bits .and .i64 x 7 = x % 8 := and_low_i64 x 3 (by decide)
theorem bs_at {w : World} {s : Option Addr} {n c : Nat} {xs : List BE} (h : SlAt w 13 (fun x cs => cs = beL x) (.slice s n c) xs) {i : Nat} {x : BE} (hx : xs[i]? = some x) : ∃ g o, s = some ⟨g, o, none⟩ ∧ w.rangeAt g (o + i * 13) (beL x) := by
  obtain ⟨s', c', e, h1, h2, h3⟩ := h
  injection e with e _ _
  subst e
  have hi := (List.getElem?_eq_some_iff.1 hx).1
  obtain ⟨b, off, rfl, h4⟩ := h3 (by omega)
  obtain ⟨cs, -, rfl, hc⟩ := h4 i x hx
  exact ⟨b, off, rfl, fun j v hv => hc j v hv⟩
/-- what Best answers, either way. -/
theorem best_one_way {b : Option (Int × At)} {p : Pf} {W : World} {e : Ending} {w' : World} (h : BestPost b p W e w') :
    ∃ (peer : Int) (pp : Pf) (u : AV) (ok : Bool), e = .returned (.tuple #[.agg (rtC peer pp u), .bool ok]) ∧ Below W.heap.size W w' ∧ ok = b.isSome ∧ ∀ q c, b = some (q, c) → peer = q ∧ pp = p ∧ Fresh W.heap.size w' (fun W => AvAt W c u) := by
  rcases h with ⟨rfl, rfl, hb⟩ | ⟨peer, a, u, rfl, rfl, -, fr, hb⟩
  · exact ⟨0, (0, 0), av0, false, rfl, hb, rfl, fun q c h => by cases h⟩
  · refine ⟨peer, p, u, true, rfl, hb, rfl, fun q c h => ?_⟩
    injection h with h
    injection h with h1 h2
    subst h1; subst h2
    exact ⟨rfl, rfl, fr.imp fun _ h => h.at⟩
set_option maxHeartbeats 6400000 in
set_option maxRecDepth 100000 in
theorem law_ServerOffers (n : Int) (v : Value) (xs : List Stp) (who : Int) (p : Pf) (w : World) (hv : StpsAt w v xs) (hz : ∀ x ∈ xs, MsSz x.x) (hp : KOk p) :
    Calls Tryz.prog 6 #[.int .i64 n, v, .int .i64 who, .agg #[.int .u32 p.1, .int .i64 p.2]] w fun e w' => e = .returned (.bool true) ∧ Below w.heap.size w w' := by
  obtain ⟨k4, hk4⟩ : ∃ k : Nat, n % 4 = k := Int.eq_ofNat_of_zero_le (by omega)
  have hand : bits .and .i64 n 3 = (k4 : Int) := by rw [and_3, hk4]
  obtain ⟨N, hN⟩ : ∃ N : Nat, N = k4 + 1 := ⟨_, rfl⟩
  have zN : IntKind.i64.wrap ((1 : Int) + (k4 : Int)) = (N : Int) := by rw [IntWalk.i64_in _ (by omega)]; omega
  have hN1 : 1 ≤ N := by omega
  have hN4 : N ≤ 4 := by omega
  obtain ⟨q, hq⟩ : ∃ k : Nat, who % 8 = k := Int.eq_ofNat_of_zero_le (by omega)
  have hand7 : bits .and .i64 who 7 = (q : Int) := by rw [and_7, hq]
  obtain ⟨r, hr⟩ : ∃ r : Nat, r = q % N := ⟨_, rfl⟩
  have hrem : Int.tmod (q : Int) (N : Int) = (r : Int) := by rw [hr]; rfl
  have hrN : r < N := by rw [hr]; exact Nat.mod_lt _ (by omega)
  obtain ⟨s0, c0, rfl, hl1, hl2, -⟩ := id hv
  have xl : xs.length ≤ 9223372036854775807 := Nat.le_trans hl1 hl2
  have HV := Lib.hid hv
  have HZ := Lib.hid hz
  have HP := Lib.hid hp
  have SD := Lib.hid (l_sides14 N (by omega))
  have NC := Lib.hid (newCd_sds (n := N) (by omega) (by omega))
  clear hv hz hl1 hl2 hk4 hN hq hr hp
  go_enter Tryz.func6, Tryz.ntmps6
  go_upto_region 1 with (fail)
  obtain ⟨W0, hW0, x0, x1, hB⟩ := box2 w (.int .u32 p.1) (.int .i64 p.2) 53
  rw [← hW0]
  obtain ⟨pb, hpb⟩ : ∃ pb, pb = w.heap.size := ⟨_, rfl⟩
  rw [← hpb] at x0 x1 ⊢
  have B0 := Lib.hid hB
  have X0 := Lib.hid x0
  have X1 := Lib.hid x1
  clear hW0 hB hpb x0 x1
  go_wp2_with fail
  refine (law_head W0).mono ?_
  rintro e w1 ⟨rfl, hb1⟩
  have B1 := Lib.hid (below_on B0.out hb1)
  have X01 := Lib.hid (cell_below X0.out hb1)
  have X11 := Lib.hid (cell_below X1.out hb1)
  clear hb1 X0 X1
  go_wp2_with fail
  refine (SD.out w1).mono ?_
  rintro e w2 ⟨s1, c1, rfl, ow, hb2⟩
  have NW := Lib.hid (ls_New 65000 20 (.slice s1 N c1) (sdsN N) w w2 (below_on B1.out hb2) (sds_own ow (by omega)) NC.out)
  have X02 := Lib.hid (cell_below X01.out hb2)
  have X12 := Lib.hid (cell_below X11.out hb2)
  clear ow hb2 X01 X11
  go_wp2_with fail
  refine NW.out.mono ?_
  rintro e w3 ⟨rho, sb, fb, ls, rfl, L0, lo0, hb3⟩
  have nz : ((N : Int) == 0) = false := by simp; omega
  have X03 := Lib.hid (cell_below X02.out hb3)
  have X13 := Lib.hid (cell_below X12.out hb3)
  have NPB : Hid (rho pb = .no) := Lib.hid (by
    cases hr : rho pb with
    | no => rfl
    | _ =>
      have h1 := lo0 pb (by rw [hr]; intro e; cases e)
      have h2 := size_lt X02.out
      omega)
  obtain ⟨A1, hA1⟩ : ∃ A1, newA 65000 20 (sdsN N) = A1 := ⟨_, rfl⟩
  have V1 : Hid (A1.V.length = N) := Lib.hid (by rw [← hA1]; exact newA_len ..)
  have T1 : Hid (∀ i, A1.th i = false) := Lib.hid (by rw [← hA1]; exact fun _ => rfl)
  rw [hA1] at L0
  have J0 : Hid (LSv w w3 rho sb fb ls (joinN A1 0)) := Lib.hid L0
  clear hA1 L0 NW lo0 hb3 X02 X12
  go_wp2_with fail
  go_loopw [11] (fun t11 wr => ∃ k : Nat, k ≤ N ∧ t11 = .int .i64 k ∧ Hid (LSv w wr rho sb fb ls (joinN A1 k)) ∧ Hid (Step rho rho w3 wr)) (fun t11 _ => N - (intOf t11).toNat)
  case atStart => exact ⟨0, by omega, rfl, J0, Lib.hid Step.refl⟩
  case round =>
    clear J0
    obtain ⟨k, hk, rfl, LJ, SJ⟩ := hrel
    by_cases hkn : k < N
    · have dk : decide ((k : Int) < (N : Int)) = true := by simp; omega
      have JN := Lib.hid (ls_Join LJ.out (i := k) (by rw [(joinN_V A1 k).1, V1.out]; exact hkn) (by rw [joinN_th, if_neg (by omega)]; exact T1.out k))
      clear LJ
      go_wp2_with fail
      refine JN.out.mono ?_
      rintro e w6 ⟨rfl, hl, hst⟩
      have SJ2 := Lib.hid (SJ.out.trans hst)
      have LJ2 : Hid (LSv w w6 rho sb fb ls (joinN A1 (k + 1))) := Lib.hid (by rw [joinN_succ]; exact hl)
      clear hl JN hst SJ
      go_wp2_with fail
      exact ⟨⟨k + 1, by omega, by go_num, LJ2, SJ2⟩, by simp [intOf]; omega⟩
    · obtain rfl : k = N := by omega
      have dk : decide ((k : Int) < (k : Int)) = false := by simp
      obtain ⟨A2, hA2⟩ : ∃ A2, joinN A1 k = A2 := ⟨_, rfl⟩
      have V2 : Hid (A2.V.length = k) := Lib.hid (by rw [← hA2, (joinN_V A1 k).1]; exact V1.out)
      have T2 : Hid (∀ i, i < k → A2.th i = true) := Lib.hid (by rw [← hA2]; intro i hi; rw [joinN_th, if_pos hi])
      have O2 : Hid (A2.own = A1.own ∧ A2.most = A1.most ∧ A2.bl = A1.bl) := Lib.hid (by rw [← hA2]; obtain ⟨-, h1, h2, h3⟩ := joinN_V A1 k; exact ⟨h1, h3, h2⟩)
      rw [hA2] at LJ
      have U0 : Hid (LSv w wr rho sb fb ls (A2.says (xs.take 0))) := LJ
      clear hA2 LJ V1 T1
      go_upto_block 2 with (fail)
      clear dk
      go_cut [12] from 43 to 71 (fun s12 wx => ∃ (A3 : Ab) (rho2 : Nat → Role), Hid (LSv w wx rho2 sb fb ls A3) ∧ Hid (A3.V.length = k) ∧ Hid (∀ i, i < k → A3.th i = true) ∧ Hid (A3.own = A1.own ∧ A3.most = A1.most ∧ A3.bl = A1.bl) ∧ Hid (Step rho rho2 w3 wx))
      case first =>
        go_wp2_with fail
        go_loopw [12] (fun t12 wr => ∃ (j : Nat) (rho2 : Nat → Role), j ≤ xs.length ∧ j ≤ 20 ∧ t12 = .int .i64 j ∧ Hid (LSv w wr rho2 sb fb ls (A2.says (xs.take j))) ∧ Hid (Step rho rho2 w3 wr)) (fun t12 _ => xs.length - (intOf t12).toNat)
        case atStart => exact ⟨0, rho, by omega, by omega, rfl, U0, SJ⟩
        case round =>
          clear U0
          obtain ⟨j, rho2, hj, hj20, rfl, LU, SU⟩ := hrel
          by_cases hjl : j < xs.length ∧ j < 20
          · obtain ⟨x, hx⟩ : ∃ x, xs[j]? = some x := ⟨_, List.getElem?_eq_getElem hjl.1⟩
            have j1 : decide ((j : Int) < (xs.length : Int)) = true := by simp; omega
            have j2 : decide ((j : Int) < 20) = true := by simp; omega
            have i0 : (0 : Int) ≤ (j : Int) := by omega
            have i1 : (j : Int) < (xs.length : Int) := by omega
            have SN : Hid (A2.says (xs.take (j + 1)) = (A2.says (xs.take j)).say x) := Lib.hid (by rw [take_snoc hx, says_snoc])
            have JL := Lib.hid hjl.2
            have MZ := Lib.hid (HZ.out x (List.mem_of_getElem? hx))
            obtain ⟨g, o, rfl, hrg, hok, hms⟩ := stps_at HV.out hx
            have NG : Hid (¬ (rho2 g ≠ .no)) := Lib.hid (fun h => h (LU.out.old (World.block_lt_of_cell? w ⟨g, _, none⟩ (hrg 0 _ rfl))))
            have RG := Lib.hid (range_below (stp_range hrg) LU.out.bel)
            have cn : wr.cell? ⟨g, o + j * 24 + 1, none⟩ = some (.int .i64 x.n) := cell_below (hrg 1 _ rfl) LU.out.bel
            have MS := Lib.hid hms
            have BG := Lib.hid (l_big14 x.x wr (hms.below LU.out.bel))
            clear hx hrg hok hms hjl
            go_wp2_with ((with_reducible refine halt_at (X := .load 46 (.tmp 56)) ?_ ?_); (· rfl))
            unfold Halt
            refine ldm_at (by rfl) 46 (.tmp 56) rfl g (o + j * 24 + 4) rfl x.x.m.C.toList _ RG.out Tryz.underlying46 rfl sz_msgS ?_
            go_wp2_with fail
            refine BG.out.mono ?_
            rintro e w7 ⟨rfl, hb7⟩
            have LU7 := Lib.hid (LU.out.below hb7)
            have SU7 := Lib.hid (SU.out.grow hb7)
            have RG7 := Lib.hid (range_below RG.out hb7)
            replace cn := cell_below cn hb7
            rcases hbg : bigM x.x with _ | _
            · have GA := Lib.hid (bigM_no hbg MZ.out)
              have SE : Hid (A2.says (xs.take (j + 1)) = (A2.says (xs.take j)).updI x.n x.x.m.kind x.x.gone x.x.nets x.x.a) := Lib.hid (by rw [SN.out]; unfold Ab.say; rw [hbg]; rfl)
              have LD := Lib.hid (LU7.out.below (Below.refl w7.heap.size w7).drew)
              have SDD := Lib.hid (SU7.out.grow (Below.refl w7.heap.size w7).drew)
              clear hbg hb7 BG LU RG SN
              go_upto_region 15 with (fail)
              refine wp_region_held_drew (S := fun w' => Kept (fun k => rho2 k ≠ .no) w7 w') (by kernel_rfl) ?_ (fun hHeld => ?_)
              · exact (Kept.refl _ _).drew
              generalize World.drew w7 = wd at LD SDD hHeld ⊢
              refine rgy (i := 0) (v := ?_) (atN rfl) (by kernel_rfl) (fun _ _ _ h => h) ?_ ?_ hHeld ?_; rotate_left 1; (· rfl); (· intro w' hSw; (try clear hHeld); go_simp; try with_reducible rfl)
              try simp only [Act.put, List.setIfInBounds_toArray, List.set_cons_zero, List.set_cons_succ]
              refine rgy (i := 1) (v := ?_) (atN rfl) (by kernel_rfl) (fun _ _ _ h => h) ?_ ?_ hHeld ?_; rotate_left 1; (· rfl); (· intro w' hSw; (try clear hHeld); go_simp; try with_reducible rfl)
              try simp only [Act.put, List.setIfInBounds_toArray, List.set_cons_zero, List.set_cons_succ]
              refine rgy (i := 2) (v := ?_) (atN rfl) (by kernel_rfl) (fun _ _ _ h => h) ?_ ?_ hHeld ?_; rotate_left 1; (· rfl); (· intro w' hSw; (try clear hHeld); go_simp; try with_reducible rfl)
              try simp only [Act.put, List.setIfInBounds_toArray, List.set_cons_zero, List.set_cons_succ]
              refine rgy (i := 3) (v := ?_) (atN rfl) (by kernel_rfl) (fun _ _ _ h => h) ?_ ?_ hHeld ?_; rotate_left 1; (· rfl); (· intro w' hSw; have cn := hSw.cell cn NG.out; (try clear hHeld); go_simp; try with_reducible rfl)
              try simp only [Act.put, List.setIfInBounds_toArray, List.set_cons_zero, List.set_cons_succ]
              refine rgy (i := 4) (v := ?_) (atN rfl) (by kernel_rfl) (fun _ _ _ h => h) ?_ ?_ hHeld ?_; rotate_left 1; (· rfl); (· intro w' hSw; (try clear hHeld); go_simp; try with_reducible rfl)
              try simp only [Act.put, List.setIfInBounds_toArray, List.set_cons_zero, List.set_cons_succ]
              refine rgy (i := 5) (v := ?_) (atN rfl) (by kernel_rfl) (fun _ _ _ h => h) ?_ ?_ hHeld ?_; rotate_left 1; (· rfl); (· intro w' hSw; have cn := hSw.cell cn NG.out; (try clear hHeld); go_simp; try with_reducible rfl)
              try simp only [Act.put, List.setIfInBounds_toArray, List.set_cons_zero, List.set_cons_succ]
              refine rgy (i := 6) (v := ?_) (atN rfl) (by kernel_rfl) (fun _ _ _ h => h) ?_ ?_ hHeld ?_; rotate_left 1; (· rfl); (· intro w' hSw; (try clear hHeld); go_simp; try with_reducible rfl)
              try simp only [Act.put, List.setIfInBounds_toArray, List.set_cons_zero, List.set_cons_succ]
              refine rgy (i := 7) (v := ?_) (atN rfl) (by kernel_rfl) (fun _ _ _ h => h) ?_ ?_ hHeld ?_; rotate_left 1; (· rfl); (· intro w' hSw; (try clear hHeld); go_simp; try with_reducible rfl)
              try simp only [Act.put, List.setIfInBounds_toArray, List.set_cons_zero, List.set_cons_succ]
              refine rgy (i := 8) (v := ?_) (atN rfl) (by kernel_rfl) (fun _ _ _ h => h) ?_ ?_ hHeld ?_; rotate_left 1; (· rfl); (· intro w' hSw; have cn := hSw.cell cn NG.out; (try clear hHeld); go_simp; try with_reducible rfl)
              try simp only [Act.put, List.setIfInBounds_toArray, List.set_cons_zero, List.set_cons_succ]
              refine rgy (i := 9) (v := ?_) (atN rfl) (by kernel_rfl) (fun _ _ _ h => h) ?_ ?_ hHeld ?_; rotate_left 1; (· rfl); (· intro w' hSw; (try clear hHeld); go_simp; try with_reducible rfl)
              try simp only [Act.put, List.setIfInBounds_toArray, List.set_cons_zero, List.set_cons_succ]
              refine rgy (i := 10) (v := ?_) (atN rfl) (by kernel_rfl) (fun _ _ _ h => h) ?_ ?_ hHeld ?_; rotate_left 1; (· rfl); (· intro w' hSw; refine exec_ldm 46 (.tmp 69) ?_ g (o + j * 24 + 4) ?_ x.x.m.C.toList _ (fun q u hq => hSw.cell (RG7.out q u hq) NG.out) Tryz.underlying46 rfl sz_msgS <;> rfl)
              try simp only [Act.put, List.setIfInBounds_toArray, List.set_cons_zero, List.set_cons_succ]
              refine rg_call (i := 11) (atN rfl) (by kernel_rfl) ?_ (fun K hK => ?_); (· rfl); (try clear hb); go_simp; refine (ls_UpdateI LD.out x.n x.x (LD.out.ms MS.out) GA.out.1 GA.out.2).mono ?_; rintro e wq ⟨rho3, v3, cd, rfl, hl3, st3⟩; go_wp2_with fail; refine hK.out _ _ ?_ (fun hHeld => ?_); (· exact hHeld.trans st3.kept); clear hK K
              try simp only [Act.put, List.setIfInBounds_toArray, List.set_cons_zero, List.set_cons_succ]
              refine wpAnyH_done (by kernel_rfl) ?_ _
              have LU3 : Hid (LSv w wq rho3 sb fb ls (A2.says (xs.take (j + 1)))) := Lib.hid (by rw [SE.out]; exact hl3)
              have SU3 := Lib.hid (SDD.out.trans st3)
              clear hHeld hl3 st3 LD cn SDD SU7 SU
              go_wp2_with fail
              exact ⟨⟨j + 1, rho3, by omega, by have := JL.out; omega, by go_num, LU3, SU3⟩, by simp [intOf]; omega⟩
            · have LU8 : Hid (LSv w w7 rho2 sb fb ls (A2.says (xs.take (j + 1)))) := Lib.hid (by rw [SN.out]; unfold Ab.say; rw [hbg]; exact LU7.out)
              clear hbg hb7 BG LU RG SN cn LU7
              go_wp2_with fail
              exact ⟨⟨j + 1, rho2, by omega, by have := JL.out; omega, by go_num, LU8, SU7⟩, by simp [intOf]; omega⟩
          · obtain ⟨A3, hA3⟩ : ∃ A3, A2.says (xs.take j) = A3 := ⟨_, rfl⟩
            have SM := same_says (xs.take j) A2
            rw [hA3] at SM LU
            have V3 : Hid (A3.V.length = k) := Lib.hid (by rw [SM.len]; exact V2.out)
            have T3 : Hid (∀ i, i < k → A3.th i = true) := Lib.hid (by rw [SM.th]; exact T2.out)
            have O3 : Hid (A3.own = A1.own ∧ A3.most = A1.most ∧ A3.bl = A1.bl) := Lib.hid (by rw [SM.own, SM.most, SM.bl]; exact O2.out)
            clear hA3 SM
            by_cases hj1 : j < xs.length
            · have hj2 : ¬ j < 20 := fun h => hjl ⟨hj1, h⟩
              have j1 : decide ((j : Int) < (xs.length : Int)) = true := by simp; omega
              have j2 : decide ((j : Int) < 20) = false := by simp; omega
              have j3 : decide (j < 20) = false := by simp; omega
              have j4 : decide (j < xs.length) = true := by simp; omega
              clear hj1 hj2 hjl
              go_wp2_with fail
              go_meet
              exact ⟨A3, rho2, LU, V3, T3, O3, SU⟩
            · have j1 : decide ((j : Int) < (xs.length : Int)) = false := by simp; omega
              have j4 : decide (j < xs.length) = false := by simp; omega
              clear hj1 hjl
              go_wp2_with fail
              go_meet
              exact ⟨A3, rho2, LU, V3, T3, O3, SU⟩
      case rest =>
        obtain ⟨A3, rho2, LU, V3, T3, O3, ST3⟩ := hcut
        obtain ⟨w8, hw8⟩ : ∃ w8 : World, w8 = wc := ⟨_, rfl⟩
        rw [← hw8] at LU ST3 ⊢
        clear hw8 U0 V2 T2 O2 SJ
        have RK := Lib.hid (show r < A3.V.length by rw [V3.out]; exact hrN)
        have R16 : Hid (r < 16) := Lib.hid (by omega)
        have x0 := ST3.out.cell X03.out NPB.out
        have x1 := ST3.out.cell X13.out NPB.out
        have N2 : Hid (rho2 pb = .no) := Lib.hid ((ST3.out.same pb (size_lt X03.out)).trans NPB.out)
        have OF := Lib.hid (ls_Offers LU.out RK.out p HP.out)
        clear ST3 X03 X13
        go_wp2_with fail
        refine OF.out.mono ?_
        rintro e w9 ⟨so, co, L, AA, rfl, oo, op, on_, o1, hb9⟩
        have L9 := Lib.hid (LU.out.below hb9)
        have TO : Hid (ToldOf A3 r p L) := Lib.hid ⟨op, on_⟩
        have FI : Hid (∀ x, L[0]? = some x → A3.best r p = some (x.peer, x.a)) := Lib.hid o1
        have SL0 := Lib.hid (LU.out.fresh (oo.fresh beL_len))
        have BE0 := Lib.hid (ls_Best L9.out RK.out p HP.out)
        replace x0 := cell_below x0 hb9
        replace x1 := cell_below x1 hb9
        clear oo op on_ o1 hb9 OF LU
        go_wp2_with fail
        refine BE0.out.mono ?_
        intro e w10 hbp
        obtain ⟨peer, pp, u, ok, rfl, hb10, hok, hbe⟩ := best_one_way hbp
        have L10 := Lib.hid (L9.out.below hb10)
        have HBE := Lib.hid hbe
        have HOK := Lib.hid hok
        have SL1 := Lib.hid (SL0.out.below hb10)
        replace x0 := cell_below x0 hb10
        replace x1 := cell_below x1 hb10
        clear hbp hb10 hok hbe L9 SL0 BE0
        go_wp2_with ((with_reducible refine halt_at (X := .store 61 (.tmp 14) (.tmp 85)) ?_ ?_); (· rfl))
        unfold Halt
        refine st_fresh rfl 61 (.tmp 14) (.tmp 85) rfl rfl _ (rtC peer pp u) rfl sz_rt rfl (rt_one _ _ _) ?_
        obtain ⟨w11, hw11, q11, hb11, -⟩ := box1 w10 (rtC peer pp u) 61
        rw [← hw11]
        obtain ⟨bb, hbb⟩ : ∃ bb, bb = w10.heap.size := ⟨_, rfl⟩
        rw [← hbb] at q11 ⊢
        have Q11 := Lib.hid q11
        have L11 := Lib.hid (L10.out.below hb11)
        have SL2 := Lib.hid (SL1.out.below hb11)
        have B11 := Lib.hid hb11
        replace x0 := cell_below x0 hb11
        replace x1 := cell_below x1 hb11
        clear hw11 q11 hb11 hbb L10 SL1
        simp only [Act.put]
        go_upto_region 19 with (fail)
        go_cut [102] from 87 to 101 (fun s102 wx => s102 = .bool false ∧ Hid (Below w11.heap.size w11 wx))
        case first =>
          rcases ok with _ | _
          · have hn : A3.best r p = none := by have := HOK.out; cases hb : A3.best r p with
              | none => rfl
              | some x => rw [hb] at this; cases this
            obtain rfl : L = [] := TO.out.none.1 hn
            clear hn
            refine wp_region_held_drew (S := fun w' => Below w11.heap.size w11 w') (by kernel_rfl) ?_ (fun hHeld => ?_)
            · exact (Below.refl _ _).drew
            generalize World.drew w11 = wd at hHeld ⊢
            refine rgy (i := 0) (v := ?_) (atN rfl) (by kernel_rfl) (fun _ _ _ h => h) ?_ ?_ hHeld ?_; rotate_left 1; (· rfl); (· intro w' hSw; (try clear hHeld); go_simp; try with_reducible rfl)
            try simp only [Act.put, List.setIfInBounds_toArray, List.set_cons_zero, List.set_cons_succ]
            refine rgy (i := 1) (v := ?_) (atN rfl) (by kernel_rfl) (fun _ _ _ h => h) ?_ ?_ hHeld ?_; rotate_left 1; (· rfl); (· intro w' hSw; (try clear hHeld); go_simp; try with_reducible rfl)
            try simp only [Act.put, List.setIfInBounds_toArray, List.set_cons_zero, List.set_cons_succ]
            refine rgy (i := 2) (v := ?_) (atN rfl) (by kernel_rfl) (fun _ _ _ h => h) ?_ ?_ hHeld ?_; rotate_left 1; (· rfl); (· intro w' hSw; (try clear hHeld); go_simp; try with_reducible rfl)
            try simp only [Act.put, List.setIfInBounds_toArray, List.set_cons_zero, List.set_cons_succ]
            refine rgy (i := 3) (v := ?_) (atN rfl) (by kernel_rfl) (fun _ _ _ h => h) ?_ ?_ hHeld ?_; rotate_left 1; (· rfl); (· intro w' hSw; (try clear hHeld); go_simp; try with_reducible rfl)
            try simp only [Act.put, List.setIfInBounds_toArray, List.set_cons_zero, List.set_cons_succ]
            refine rgy (i := 4) (v := ?_) (atN rfl) (by kernel_rfl) (fun _ _ _ h => h) ?_ ?_ hHeld ?_; rotate_left 1; (· rfl); (· intro w' hSw; (try clear hHeld); go_simp; try with_reducible rfl)
            try simp only [Act.put, List.setIfInBounds_toArray, List.set_cons_zero, List.set_cons_succ]
            refine rgy (i := 5) (v := ?_) (atN rfl) (by kernel_rfl) (fun _ _ _ h => h) ?_ ?_ hHeld ?_; rotate_left 1; (· rfl); (· intro w' hSw; (try clear hHeld); go_simp; try with_reducible rfl)
            try simp only [Act.put, List.setIfInBounds_toArray, List.set_cons_zero, List.set_cons_succ]
            refine rgy (i := 6) (v := ?_) (atN rfl) (by kernel_rfl) (fun _ _ _ h => h) ?_ ?_ hHeld ?_; rotate_left 1; (· rfl); (· intro w' hSw; (try clear hHeld); go_simp; try with_reducible rfl)
            try simp only [Act.put, List.setIfInBounds_toArray, List.set_cons_zero, List.set_cons_succ]
            refine rgy (i := 7) (v := ?_) (atN rfl) (by kernel_rfl) (fun _ _ _ h => h) ?_ ?_ hHeld ?_; rotate_left 1; (· rfl); (· intro w' hSw; (try clear hHeld); go_simp; try with_reducible rfl)
            try simp only [Act.put, List.setIfInBounds_toArray, List.set_cons_zero, List.set_cons_succ]
            refine rgn (i := 8) (atN rfl) (by kernel_rfl) (fun _ _ _ h => h) ?_ hHeld ?_; (· rfl)
            try simp only [Act.put, List.setIfInBounds_toArray, List.set_cons_zero, List.set_cons_succ]
            refine rgn (i := 9) (atN rfl) (by kernel_rfl) (fun _ _ _ h => h) ?_ hHeld ?_; (· rfl)
            try simp only [Act.put, List.setIfInBounds_toArray, List.set_cons_zero, List.set_cons_succ]
            refine rgn (i := 10) (atN rfl) (by kernel_rfl) (fun _ _ _ h => h) ?_ hHeld ?_; (· rfl)
            try simp only [Act.put, List.setIfInBounds_toArray, List.set_cons_zero, List.set_cons_succ]
            refine rgn (i := 11) (atN rfl) (by kernel_rfl) (fun _ _ _ h => h) ?_ hHeld ?_; (· rfl)
            try simp only [Act.put, List.setIfInBounds_toArray, List.set_cons_zero, List.set_cons_succ]
            refine rgn (i := 12) (atN rfl) (by kernel_rfl) (fun _ _ _ h => h) ?_ hHeld ?_; (· rfl)
            try simp only [Act.put, List.setIfInBounds_toArray, List.set_cons_zero, List.set_cons_succ]
            refine rgn (i := 13) (atN rfl) (by kernel_rfl) (fun _ _ _ h => h) ?_ hHeld ?_; (· rfl)
            try simp only [Act.put, List.setIfInBounds_toArray, List.set_cons_zero, List.set_cons_succ]
            refine rgy (i := 14) (v := ?_) (atN rfl) (by kernel_rfl) (fun _ _ _ h => h) ?_ ?_ hHeld ?_; rotate_left 1; (· rfl); (· intro w' hSw; (try clear hHeld); go_simp; try with_reducible rfl)
            try simp only [Act.put, List.setIfInBounds_toArray, List.set_cons_zero, List.set_cons_succ]
            refine rgy (i := 15) (v := ?_) (atN rfl) (by kernel_rfl) (fun _ _ _ h => h) ?_ ?_ hHeld ?_; rotate_left 1; (· rfl); (· intro w' hSw; (try clear hHeld); go_simp; try with_reducible rfl)
            try simp only [Act.put, List.setIfInBounds_toArray, List.set_cons_zero, List.set_cons_succ]
            refine wpAnyH_done (by kernel_rfl) ?_ _
            go_wp2_with fail
            go_meet
            exact ⟨rfl, Lib.hid hHeld⟩
          · obtain ⟨qc, hqc⟩ : ∃ qc, A3.best r p = some qc := Option.isSome_iff_exists.1 HOK.out.symm
            obtain ⟨h1, h2, fr⟩ := HBE.out qc.1 qc.2 hqc
            obtain ⟨x, hx⟩ : ∃ x, L[0]? = some x := by
              cases hL : L with
              | nil => rw [TO.out.none.2 hL] at hqc; cases hqc
              | cons x L => exact ⟨x, rfl⟩
            have h3 := FI.out x hx
            rw [hqc] at h3
            injection h3 with h3
            have h4 : qc.1 = x.peer := congrArg Prod.fst h3
            have h5 : qc.2 = x.a := congrArg Prod.snd h3
            have h6 : x.p = p := TO.out.net x (List.mem_of_getElem? hx)
            obtain ⟨g, o, rfl, hrg⟩ := bs_at SL2.out.self.1 hx
            have RG := Lib.hid hrg
            have LP : 0 < L.length := (List.getElem?_eq_some_iff.1 hx).1
            have dl : decide ((L.length : Int) > 0) = true := by simp; omega
            have dl2 : decide (0 < L.length) = true := by simp; omega
            have i1 : (0 : Int) < (L.length : Int) := by omega
            have SMF : Hid (∀ w', Below w11.heap.size w11 w' → Calls Tryz.prog 29 #[.agg (rtC x.peer x.p x.v), .agg (rtC peer pp u)] w' fun e w2 => e = .returned (.bool true) ∧ Below w'.heap.size w' w2) := Lib.hid (fun w' hb => by
              have hc := l_same14 x ⟨peer, pp, x.a, u⟩ w' ((SL2.out.below hb).self.2 x (List.mem_of_getElem? hx)) (by
                have := ((fr.below B11.out).below hb).self
                rw [h5] at this
                exact this)
              have e : sameBE x ⟨peer, pp, x.a, u⟩ = true := sameBE_iff.2 ⟨h4.symm.trans h1.symm, h6.trans h2.symm, rfl⟩
              rw [e] at hc
              exact hc)
            clear hqc h1 h2 fr hx h3 h4 h5 h6 hrg
            refine wp_region_held_drew (S := fun w' => Below w11.heap.size w11 w') (by kernel_rfl) ?_ (fun hHeld => ?_)
            · exact (Below.refl _ _).drew
            generalize World.drew w11 = wd at hHeld ⊢
            refine rgy (i := 0) (v := ?_) (atN rfl) (by kernel_rfl) (fun _ _ _ h => h) ?_ ?_ hHeld ?_; rotate_left 1; (· rfl); (· intro w' hSw; (try clear hHeld); go_simp; try with_reducible rfl)
            try simp only [Act.put, List.setIfInBounds_toArray, List.set_cons_zero, List.set_cons_succ]
            refine rgy (i := 1) (v := ?_) (atN rfl) (by kernel_rfl) (fun _ _ _ h => h) ?_ ?_ hHeld ?_; rotate_left 1; (· rfl); (· intro w' hSw; (try clear hHeld); go_simp; try with_reducible rfl)
            try simp only [Act.put, List.setIfInBounds_toArray, List.set_cons_zero, List.set_cons_succ]
            refine rgy (i := 2) (v := ?_) (atN rfl) (by kernel_rfl) (fun _ _ _ h => h) ?_ ?_ hHeld ?_; rotate_left 1; (· rfl); (· intro w' hSw; (try clear hHeld); go_simp; try with_reducible rfl)
            try simp only [Act.put, List.setIfInBounds_toArray, List.set_cons_zero, List.set_cons_succ]
            refine rgy (i := 3) (v := ?_) (atN rfl) (by kernel_rfl) (fun _ _ _ h => h) ?_ ?_ hHeld ?_; rotate_left 1; (· rfl); (· intro w' hSw; (try clear hHeld); go_simp; try with_reducible rfl)
            try simp only [Act.put, List.setIfInBounds_toArray, List.set_cons_zero, List.set_cons_succ]
            refine rgy (i := 4) (v := ?_) (atN rfl) (by kernel_rfl) (fun _ _ _ h => h) ?_ ?_ hHeld ?_; rotate_left 1; (· rfl); (· intro w' hSw; (try clear hHeld); go_simp; try with_reducible rfl)
            try simp only [Act.put, List.setIfInBounds_toArray, List.set_cons_zero, List.set_cons_succ]
            refine rgy (i := 5) (v := ?_) (atN rfl) (by kernel_rfl) (fun _ _ _ h => h) ?_ ?_ hHeld ?_; rotate_left 1; (· rfl); (· intro w' hSw; (try clear hHeld); go_simp; try with_reducible rfl)
            try simp only [Act.put, List.setIfInBounds_toArray, List.set_cons_zero, List.set_cons_succ]
            first | (refine rgn (i := 6) (atN rfl) (by kernel_rfl) (fun _ _ _ h => h) ?_ hHeld ?_; (· rfl)) | (refine rgy (i := 6) (v := ?_) (atN rfl) (by kernel_rfl) (fun _ _ _ h => h) ?_ ?_ hHeld ?_; rotate_left 1; (· rfl); (· intro w' hSw; (try clear hHeld); go_simp; try with_reducible rfl))
            try simp only [Act.put, List.setIfInBounds_toArray, List.set_cons_zero, List.set_cons_succ]
            first | (refine rgn (i := 7) (atN rfl) (by kernel_rfl) (fun _ _ _ h => h) ?_ hHeld ?_; (· rfl)) | (refine rgy (i := 7) (v := ?_) (atN rfl) (by kernel_rfl) (fun _ _ _ h => h) ?_ ?_ hHeld ?_; rotate_left 1; (· rfl); (· intro w' hSw; (try clear hHeld); go_simp; try with_reducible rfl))
            try simp only [Act.put, List.setIfInBounds_toArray, List.set_cons_zero, List.set_cons_succ]
            first | (refine rgn (i := 8) (atN rfl) (by kernel_rfl) (fun _ _ _ h => h) ?_ hHeld ?_; (· rfl)) | (refine rgy (i := 8) (v := ?_) (atN rfl) (by kernel_rfl) (fun _ _ _ h => h) ?_ ?_ hHeld ?_; rotate_left 1; (· rfl); (· intro w' hSw; (try clear hHeld); go_simp; try with_reducible rfl))
            try simp only [Act.put, List.setIfInBounds_toArray, List.set_cons_zero, List.set_cons_succ]
            first | (refine rgn (i := 9) (atN rfl) (by kernel_rfl) (fun _ _ _ h => h) ?_ hHeld ?_; (· rfl)) | (refine rgy (i := 9) (v := ?_) (atN rfl) (by kernel_rfl) (fun _ _ _ h => h) ?_ ?_ hHeld ?_; rotate_left 1; (· rfl); (· intro w' hSw; (try clear hHeld); go_simp; try with_reducible rfl))
            try simp only [Act.put, List.setIfInBounds_toArray, List.set_cons_zero, List.set_cons_succ]
            first | (refine rgn (i := 10) (atN rfl) (by kernel_rfl) (fun _ _ _ h => h) ?_ hHeld ?_; (· rfl)) | (refine rgy (i := 10) (v := ?_) (atN rfl) (by kernel_rfl) (fun _ _ _ h => h) ?_ ?_ hHeld ?_; rotate_left 1; (· rfl); (· intro w' hSw; refine exec_ldm 61 (.tmp 96) ?_ g (o + 0 * 13) ?_ (beL x) _ (fun q u hq => cell_below (RG.out q u hq) hSw) Tryz.underlying61 rfl sz_rt <;> rfl))
            try simp only [Act.put, List.setIfInBounds_toArray, List.set_cons_zero, List.set_cons_succ]
            first | (refine rgn (i := 11) (atN rfl) (by kernel_rfl) (fun _ _ _ h => h) ?_ hHeld ?_; (· rfl)) | (refine rgy (i := 11) (v := ?_) (atN rfl) (by kernel_rfl) (fun _ _ _ h => h) ?_ ?_ hHeld ?_; rotate_left 1; (· rfl); (· intro w' hSw; refine exec_ld 61 (.tmp 14) ?_ bb ?_ 61 (rtC peer pp u) (0, 0) _ ((hSw.block _ (row_lt Q11.out)).trans Q11.out) Tryz.underlying61 rfl sz_rt <;> rfl))
            try simp only [Act.put, List.setIfInBounds_toArray, List.set_cons_zero, List.set_cons_succ]
            first | (refine rgn (i := 12) (atN rfl) (by kernel_rfl) (fun _ _ _ h => h) ?_ hHeld ?_; (· rfl)) | (refine rg_call (i := 12) (atN rfl) (by kernel_rfl) ?_ (fun K hK => ?_); (· rfl); (try clear hb); go_simp; (refine (SMF.out _ hHeld).mono ?_; rintro e w1 ⟨rfl, hb⟩); go_wp2_with fail; refine hK.out _ _ ?_ (fun hHeld => ?_); (· exact hHeld.trans (hb.mono hHeld.size)); clear hK K)
            try simp only [Act.put, List.setIfInBounds_toArray, List.set_cons_zero, List.set_cons_succ]
            first | (refine rgn (i := 13) (atN rfl) (by kernel_rfl) (fun _ _ _ h => h) ?_ hHeld ?_; (· rfl)) | (refine rgy (i := 13) (v := ?_) (atN rfl) (by kernel_rfl) (fun _ _ _ h => h) ?_ ?_ hHeld ?_; rotate_left 1; (· rfl); (· intro w' hSw; (try clear hHeld); go_simp; try with_reducible rfl))
            try simp only [Act.put, List.setIfInBounds_toArray, List.set_cons_zero, List.set_cons_succ]
            first | (refine rgn (i := 14) (atN rfl) (by kernel_rfl) (fun _ _ _ h => h) ?_ hHeld ?_; (· rfl)) | (refine rgy (i := 14) (v := ?_) (atN rfl) (by kernel_rfl) (fun _ _ _ h => h) ?_ ?_ hHeld ?_; rotate_left 1; (· rfl); (· intro w' hSw; (try clear hHeld); go_simp; try with_reducible rfl))
            try simp only [Act.put, List.setIfInBounds_toArray, List.set_cons_zero, List.set_cons_succ]
            refine rgy (i := 15) (v := ?_) (atN rfl) (by kernel_rfl) (fun _ _ _ h => h) ?_ ?_ hHeld ?_; rotate_left 1; (· rfl); (· intro w' hSw; (try clear hHeld); go_simp; try with_reducible rfl)
            try simp only [Act.put, List.setIfInBounds_toArray, List.set_cons_zero, List.set_cons_succ]
            refine wpAnyH_done (by kernel_rfl) ?_ _
            go_wp2_with fail
            go_meet
            exact ⟨rfl, Lib.hid hHeld⟩
        case rest =>
          obtain ⟨rfl, HH⟩ := hcut
          obtain ⟨w12, hw12⟩ : ∃ w12 : World, w12 = wc := ⟨_, rfl⟩
          rw [← hw12] at HH ⊢
          have L12 := Lib.hid (L11.out.below HH.out)
          have SL3 := Lib.hid (SL2.out.below HH.out)
          replace x0 := cell_below x0 HH.out
          replace x1 := cell_below x1 HH.out
          clear hw12 HH L11 SL2 HBE HOK FI Q11 B11
          obtain ⟨lcap, hlc⟩ : ∃ c, co = c := ⟨_, rfl⟩
          have LC : Hid (L.length ≤ co ∧ co ≤ maxLen) := Lib.hid (by
            obtain ⟨s', c', e, h1, h2, -⟩ := SL3.out.self.1
            injection e with _ _ e
            subst e
            exact ⟨h1, h2⟩)
          have lnl : L.length ≤ 9223372036854775807 := by have := LC.out; unfold maxLen at this; omega
          have BL0 : Hid (LSv w w12 rho2 sb fb ls (blocks A3 r (L.take 0))) := Lib.hid L12.out
          clear hlc
          go_wp2_with fail
          go_loopw [105] (fun t105 wr => ∃ (z : Nat) (rho3 : Nat → Role), z ≤ L.length ∧ t105 = .int .i64 z ∧ Hid (LSv w wr rho3 sb fb ls (blocks A3 r (L.take z))) ∧ Hid (On (fun k => rho3 k = .no) wr (fun W => SlAt W 13 (fun x cs => cs = beL x) (.slice so L.length co) L ∧ ∀ x ∈ L, AvAt W x.a x.v)) ∧ Hid (Step rho2 rho3 w12 wr)) (fun t105 _ => L.length - (intOf t105).toNat)
          case atStart => exact ⟨0, rho2, by omega, rfl, BL0, SL3, Lib.hid Step.refl⟩
          case round =>
            clear BL0 SL3 L12
            obtain ⟨z, rho3, hz, rfl, LB, SL, ST⟩ := hrel
            have N3 : Hid (rho3 pb = .no) := Lib.hid ((ST.out.same pb (size_lt x0)).trans N2.out)
            have y0 := ST.out.cell x0 N2.out
            have y1 := ST.out.cell x1 N2.out
            by_cases hzl : z < L.length
            · obtain ⟨x, hx⟩ : ∃ x, L[z]? = some x := ⟨_, List.getElem?_eq_getElem hzl⟩
              obtain ⟨nx, hnx⟩ : ∃ nx : Nat, x.peer = (nx : Int) ∧ nx < A3.V.length ∧ nx ≠ r ∧ A3.goes nx r p = true := by
                obtain ⟨c, hc, h1, h2⟩ := TO.out.of (List.mem_of_getElem? hx)
                obtain ⟨n, v, g1, g2, g3, g4⟩ := offs_mem hc
                exact ⟨n, h1.symm.trans g1, (List.getElem?_eq_some_iff.1 g2).1, (goesB_way g4).1, goes_iff.2 ⟨c, hc, g1⟩⟩
              have HNX := Lib.hid hnx
              have HXP : Hid (x.p = p) := Lib.hid (TO.out.net x (List.mem_of_getElem? hx))
              have FR1 : Hid ((L.take z).any (fun y => y.peer.toNat == nx) = false) := Lib.hid (by
                rw [List.any_eq_false]
                intro y hy
                obtain ⟨j, hj, rfl⟩ := List.mem_take_iff_getElem.1 hy
                have hpw := List.pairwise_iff_getElem.1 TO.out.peers j z (by omega) hzl (by omega)
                rw [(List.getElem?_eq_some_iff.1 hx).2] at hpw
                have : L[j] ∈ L := List.getElem_mem _
                obtain ⟨c, hc, h1, h2⟩ := TO.out.of this
                obtain ⟨n, v, g1, g2, g3, g4⟩ := offs_mem hc
                have hnp := hnx.1
                rw [← h1, g1, hnp] at hpw
                rw [← h1, g1]
                simp
                omega)
              have GO1 : Hid ((blocks A3 r (L.take z)).goes nx r p = true) := Lib.hid (by rw [blocks_goes A3 r R16.out, FR1.out, hnx.2.2.2]; rfl)
              have TK : Hid (L.take (z + 1) = L.take z ++ [x]) := Lib.hid (take_snoc hx)
              have VB : Hid ((blocks A3 r (L.take z)).V.length = A3.V.length) := Lib.hid (by rw [(blocks_V r _ A3).1])
              obtain ⟨g, o, rfl, hrg⟩ := bs_at SL.out.self.1 hx
              have RG := Lib.hid hrg
              have z0 : (0 : Int) ≤ (z : Int) := by omega
              have z1 : (z : Int) < (L.length : Int) := by omega
              have z2 : (z : Int) ≤ (L.length : Int) := by omega
              have z3 : (z : Int) ≤ (co : Int) := by have := LC.out.1; omega
              have z4 : z ≤ co := by have := LC.out.1; omega
              have NE1 : ((nx : Int) == (r : Int)) = false := by simp; exact_mod_cast hnx.2.2.1
              have NE2 : ((nx : Int) = (r : Int)) = False := by simp; exact_mod_cast hnx.2.2.1
              have HXZ := Lib.hid hx
              clear hx hrg hnx
              go_wp2_with ((with_reducible refine halt_at (X := .load 61 (.tmp 108)) ?_ ?_); (· rfl))
              unfold Halt
              refine ldm_at (by rfl) 61 (.tmp 108) rfl g (o + z * 13) rfl (beL x) _ RG.out Tryz.underlying61 rfl sz_rt ?_
              go_wp2_with ((with_reducible refine halt_at (X := .store 61 (.tmp 17) (.tmp 109)) ?_ ?_); (· rfl))
              unfold Halt
              refine st_fresh rfl 61 (.tmp 17) (.tmp 109) rfl rfl _ (rtC x.peer x.p x.v) rfl sz_rt rfl (rt_one _ _ _) ?_
              obtain ⟨w13, hw13, q13, hb13, -⟩ := box1 wr (rtC x.peer x.p x.v) 61
              rw [← hw13]
              obtain ⟨xb, hxb⟩ : ∃ xb, xb = wr.heap.size := ⟨_, rfl⟩
              rw [← hxb] at q13 ⊢
              rw [HNX.out.1, HXP.out] at q13
              have c0 : w13.cell? ⟨xb, 0, none⟩ = some (.int .i64 (nx : Int)) := row_cell q13 0
              have c1 : w13.cell? ⟨xb, 1, none⟩ = some (.int .u32 p.1) := row_cell q13 1
              have c2 : w13.cell? ⟨xb, 2, none⟩ = some (.int .i64 p.2) := row_cell q13 2
              have LB1 := Lib.hid (LB.out.below hb13)
              have SL1 := Lib.hid (SL.out.below hb13)
              have ST1 := Lib.hid (ST.out.grow hb13)
              have NXB := Lib.hid (LB.out.new (Nat.le_of_eq hxb.symm))
              replace y0 := cell_below y0 hb13
              replace y1 := cell_below y1 hb13
              have GS := Lib.hid (ls_Goes LB1.out (i := nx) (j := r) (by rw [VB.out]; exact HNX.out.2.1) (by rw [VB.out]; exact RK.out) p HP.out.1)
              rw [GO1.out] at GS
              have RGB := Lib.hid (fun j u h => cell_below (RG.out j u h) hb13)
              clear hw13 q13 hb13 hxb LB SL ST RG RGB
              simp only [Act.put]
              go_wp2_with fail
              refine GS.out.mono ?_
              rintro e w14 ⟨rfl, hb14⟩
              have LB2 := Lib.hid (LB1.out.below hb14)
              have SL2 := Lib.hid (SL1.out.below hb14)
              have ST2 := Lib.hid (ST1.out.grow hb14)
              replace y0 := cell_below y0 hb14
              replace y1 := cell_below y1 hb14
              replace c0 := cell_below c0 hb14
              replace c1 := cell_below c1 hb14
              replace c2 := cell_below c2 hb14
              clear hb14 GS LB1 SL1 ST1
              go_upto_region 26 with (fail)
              go_wp2_with fail
              go_loopw [133] (fun t133 wr => ∃ q : Nat, q ≤ z ∧ t133 = .int .i64 q ∧ Hid (Below w14.heap.size w14 wr)) (fun t133 _ => z - (intOf t133).toNat)
              case atStart => exact ⟨0, by omega, rfl, Lib.hid (Below.refl _ _)⟩
              case round =>
                obtain ⟨q, hq, rfl, BQ⟩ := hrel
                by_cases hqz : q < z
                · obtain ⟨y, hy⟩ : ∃ y, L[q]? = some y := ⟨_, List.getElem?_eq_getElem (by omega)⟩
                  obtain ⟨g2, o2, hgo, hrg⟩ := bs_at (SL2.out.below BQ.out).self.1 hy
                  injection hgo with hgo
                  injection hgo with e1 e2 _
                  subst e1; subst e2
                  have RG := Lib.hid hrg
                  have HNE : y.peer ≠ (nx : Int) := by
                    have hpw := List.pairwise_iff_getElem.1 TO.out.peers q z (by omega) hzl hqz
                    rw [(List.getElem?_eq_some_iff.1 HXZ.out).2, (List.getElem?_eq_some_iff.1 hy).2, HNX.out.1] at hpw
                    exact hpw
                  have NE3 : (y.peer == (nx : Int)) = false := by simpa using HNE
                  have NE4 : (y.peer = (nx : Int)) = False := eq_false HNE
                  have q0 : (0 : Int) ≤ (q : Int) := by omega
                  have q1 : (q : Int) < (z : Int) := by omega
                  have d0 := cell_below c0 BQ.out
                  clear hy hrg HNE
                  go_wp2_with ((with_reducible refine halt_at (X := .load 61 (.tmp 135)) ?_ ?_); (· rfl))
                  unfold Halt
                  refine ldm_at (by rfl) 61 (.tmp 135) rfl g (o + q * 13) rfl (beL y) _ RG.out Tryz.underlying61 rfl sz_rt ?_
                  go_wp2_with ((with_reducible refine halt_at (X := .store 61 (.tmp 19) (.tmp 136)) ?_ ?_); (· rfl))
                  unfold Halt
                  refine st_fresh rfl 61 (.tmp 19) (.tmp 136) rfl rfl _ (rtC y.peer y.p y.v) rfl sz_rt rfl (rt_one _ _ _) ?_
                  obtain ⟨w15, hw15, q15, hb15, -⟩ := box1 wr (rtC y.peer y.p y.v) 61
                  rw [← hw15]
                  have e0 : w15.cell? ⟨wr.heap.size, 0, none⟩ = some (.int .i64 y.peer) := row_cell q15 0
                  replace d0 := cell_below d0 hb15
                  have BQ2 := Lib.hid (below_on BQ.out hb15)
                  clear hw15 q15 hb15 BQ RG
                  simp only [Act.put]
                  go_wp2_with fail
                  exact ⟨⟨q + 1, by omega, by go_num, BQ2⟩, by simp [intOf]; omega⟩
                · obtain rfl : q = z := by omega
                  have LB3 := Lib.hid (LB2.out.below BQ.out)
                  have SL3 := Lib.hid (SL2.out.below BQ.out)
                  have ST3 := Lib.hid (ST2.out.grow BQ.out)
                  have d0 := cell_below c0 BQ.out
                  have t0 := cell_below y0 BQ.out
                  have t1 := cell_below y1 BQ.out
                  have BK := Lib.hid (ls_Block LB3.out (i := nx) (j := r) (by rw [VB.out]; exact HNX.out.2.1) (by rw [VB.out]; exact RK.out) true)
                  have EB : Hid ((blocks A3 r (L.take q)).block nx r true = blocks A3 r (L.take (q + 1))) := Lib.hid (by
                    rw [TK.out, blocks_snoc, HNX.out.1, Int.toNat_natCast])
                  rw [EB.out] at BK
                  clear hq hqz BQ SL2 ST2 LB2 y0 y1 c0 c1 c2
                  go_wp2_with fail
                  refine BK.out.mono ?_
                  rintro e w16 ⟨rho4, rfl, l4, st4⟩
                  have LB4 := Lib.hid l4
                  have SL4 := Lib.hid (st4.free SL3.out)
                  have ST4 := Lib.hid (ST3.out.trans st4)
                  replace d0 := st4.cell d0 NXB.out
                  replace t0 := st4.cell t0 N3.out
                  replace t1 := st4.cell t1 N3.out
                  have GS2 := Lib.hid (ls_Goes LB4.out (i := nx) (j := r) (by rw [(blocks_V r _ A3).1]; exact HNX.out.2.1) (by rw [(blocks_V r _ A3).1]; exact RK.out) p HP.out.1)
                  have GF : Hid ((blocks A3 r (L.take (q + 1))).goes nx r p = false) := Lib.hid (by
                    rw [blocks_goes A3 r R16.out, TK.out, List.any_append]
                    have : [x].any (fun y => y.peer.toNat == nx) = true := by simp [HNX.out.1]
                    rw [this, Bool.or_true]
                    simp)
                  rw [GF.out] at GS2
                  clear l4 st4 BK LB3 SL3 ST3
                  go_wp2_with fail
                  refine GS2.out.mono ?_
                  rintro e w17 ⟨rfl, hb17⟩
                  have LB5 := Lib.hid (LB4.out.below hb17)
                  have SL5 := Lib.hid (SL4.out.below hb17)
                  have ST5 := Lib.hid (ST4.out.grow hb17)
                  clear hb17 GS2 LB4 SL4 ST4 d0 t0 t1
                  go_wp2_with fail
                  exact ⟨⟨q + 1, rho4, by omega, by go_num, LB5, SL5, ST5⟩, by simp [intOf]; omega⟩
            · obtain rfl : z = L.length := by omega
              rw [List.take_length] at LB
              have BN := Lib.hid (ls_Best LB.out (i := r) (by rw [(blocks_V r _ A3).1]; exact RK.out) p HP.out)
              have BO := Lib.hid (blocks_best A3 r R16.out TO.out)
              clear hz hzl SL
              go_wp2_with fail
              refine BN.out.mono ?_
              rintro e w20 (⟨-, rfl, hb20⟩ | ⟨_, _, _, h, -⟩)
              · have FB := Lib.hid (LB.out.below hb20).bel
                clear hb20 BN LB y0 y1
                go_wp2_with ((with_reducible refine halt_at (X := .store 61 (.tmp 20) (.tmp 163)) ?_ ?_); (· rfl))
                unfold Halt
                refine st_fresh rfl 61 (.tmp 20) (.tmp 163) rfl rfl _ (rtC 0 (0, 0) av0) rfl sz_rt rfl (rt_one _ _ _) ?_
                have FB2 := Lib.hid (below_on FB.out ((Below.refl w20.heap.size w20).alloc (Nat.le_refl _) (.cells (rtC 0 (0, 0) av0) 61)))
                simp only [Act.put]
                go_wp2_with fail
                go_ret
                exact ⟨rfl, FB2.out⟩
              · rw [BO.out] at h; cases h
namespace serverOffers
open Go.ChangeShapes Go.WideShapes Go.ChangeAt Go.RowKit
set_option linter.unusedVariables false
set_option maxRecDepth 100000 in
theorem lifted (os : Os) (started : os.Started) (H : Type) (enc : TypeId × Value → H) :
    ReturnsInHanded {} Tryz.checked os 6 .any (Rows.serverOffersSpec.pre6 enc Tryz.prog Tryz.f6 Rows.serverOffersRow.domain false) (Rows.serverOffersSpec.post enc Tryz.prog Tryz.f6 false true false false) := by
  refine returnsInHanded_of_change_sized (C := Tryz.checked) fr_own started (by kernel_rfl) Tryz.func6
    (ChangeSpec.witness6 (enc := enc) (C := Tryz.checked) false ⟨#[], #[.int .i64 0, .slice none 0 0, .int .i64 0, .agg #[.int .u32 0, .int .i64 0]], []⟩ 8 (by kernel_rfl) (by kernel_rfl) (by kernel_rfl) (by kernel_rfl)) ?_
  intro W base args ds gs before hval0 hW hcnd hsz0 _
  have hval : ∀ (j : Nat) t v, Tryz.f6.params[j]? = some t → args[j]? = some v → Value.okWide Tryz.prog W .any base t v := hval0
  have hW' := hW
  obtain ⟨p, q, hA0, hV, rfl, hfz, hnd⟩ := hW
  have hA : DataW.TrodAll enc Tryz.prog W 0 (fun _ => true) true Tryz.f6.params.toList args.toList ds p := hA0
  rw [Tryz.params6] at hA hval
  obtain ⟨v0, vs0, d0, ds0, p0, q0, hargs, rfl, rfl, h0, r0⟩ := trodAll_cons hA
  obtain ⟨v1, vs1, d1, ds1, p1, q1, rfl, rfl, rfl, h1, r1⟩ := trodAll_cons r0
  obtain ⟨v2, vs2, d2, ds2, p2, q2, rfl, rfl, rfl, h2, r2⟩ := trodAll_cons r1
  obtain ⟨v3, vs3, d3, ds3, p3, q3, rfl, rfl, rfl, h3, r3⟩ := trodAll_cons r2
  obtain ⟨rfl, rfl, rfl⟩ := trodAll_nil r3
  obtain rfl : args = #[v0, v1, v2, v3] := by cases args; simp_all
  obtain ⟨rfl, rfl⟩ := trodVars_none hV
  have lt0 : ∀ x ∈ p0, x.block < W.heap.size := by obtain ⟨m, hm⟩ := h0; exact DataW.trod_lt m _ _ _ hm
  have lt1 : ∀ x ∈ p1, x.block < W.heap.size := by obtain ⟨m, hm⟩ := h1; exact DataW.trod_lt m _ _ _ hm
  have lt2 : ∀ x ∈ p2, x.block < W.heap.size := by obtain ⟨m, hm⟩ := h2; exact DataW.trod_lt m _ _ _ hm
  have lt3 : ∀ x ∈ p3, x.block < W.heap.size := by obtain ⟨m, hm⟩ := h3; exact DataW.trod_lt m _ _ _ hm
  have hsz : (DataW.weightsEach Tryz.prog [3, 22, 3, 53] [d0, d1, d2, d3]).all (· ≤ reachBytes) = true := hsz0
  obtain ⟨n, rfl, nl, nh⟩ := open_i64 (hval 0 3 v0 rfl rfl)
  obtain ⟨xs, hxs, hxz⟩ := open_steps_sz (hval 1 22 v1 rfl rfl) h1 (sz_of hsz (j := 1) rfl rfl)
  obtain ⟨who, rfl, wl, wh⟩ := open_i64 (hval 2 3 v2 rfl rfl)
  obtain ⟨a1, n1, rfl, z0, z1, z2, z3⟩ := open_pref (hval 3 53 v3 rfl rfl)
  clear hA0 hval0 hsz0 hsz
  refine (law_ServerOffers n v1 xs who (a1, n1) W hxs hxz ⟨⟨z0, z1⟩, ⟨z2, z3⟩⟩).mono fun e W' ⟨he, bel⟩ => ?_
  subst he
  exact ⟨_, rfl, _, _, _, [], _, [], hW', trodAll_mk1 (shut_bool Tryz.underlying4 _), (trodAll_cons_mk (Below.trod fr_laidOut (by kernel_rfl) (of_decide_eq_true (by kernel_rfl)) h0 bel lt0) (trodAll_cons_mk (Below.trod fr_laidOut (by kernel_rfl) (of_decide_eq_true (by kernel_rfl)) h1 bel lt1) (trodAll_cons_mk (Below.trod fr_laidOut (by kernel_rfl) (of_decide_eq_true (by kernel_rfl)) h2 bel lt2) (trodAll_cons_mk (Below.trod fr_laidOut (by kernel_rfl) (of_decide_eq_true (by kernel_rfl)) h3 bel lt3) trodAll_mk0)))), rfl, bel.frame _, fun h => by cases h⟩
theorem over : Rows.serverOffersRow.holds Tryz.pinned (OpenSpec.ofChange Rows.serverOffersSpec) :=
  OpenClaim.holds_of_wide 6 Tryz.f6 rfl rfl rfl rfl rfl rfl rfl ⟨rfl, rfl, rfl, rfl, rfl⟩ rfl rfl rfl rfl rfl (by kernel_rfl) Tryz.func6 (by kernel_rfl)
    (of_decide_eq_true (by kernel_rfl)) (by unfold Func.isWrapper; first | (rw [if_pos (by decide +kernel)]; kernel_rfl) | (rw [if_neg (by decide +kernel)]; exact ⟨rfl, rfl⟩))
    (fun os started H enc _ => lifted os started H enc)
/-- THE STATEMENT ServerOffers. -/
theorem proved : Rows.ServerOffersSaid := over
#print axioms proved
end serverOffers
end Go.Proofs.YtkoidahgbbabiaaGreat
