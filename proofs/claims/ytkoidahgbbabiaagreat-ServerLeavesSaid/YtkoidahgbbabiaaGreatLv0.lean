/-
  ServerLeaves: proved of every number of participants, whatever steps and whoever leaves: who leaves takes all its routes along; who comes is told all.
-/
import Derived.Test.YtkoidahgbbabiaaGreatLv25
import Derived.Test.YtkoidahgbbabiaaGreatLv1
import Derived.Test.YtkoidahgbbabiaaGreatLv6
namespace Go.Proofs.YtkoidahgbbabiaaGreat
open Go.RowKit

theorem and_3 (x : Int) : bits .and .i64 x 3 = x % 4 := and_low_i64 x 2 (by decide)
theorem and_7 (x : Int) : bits .and .i64 x 7 = x % 8 := and_low_i64 x 3 (by decide)
theorem leave_R (A : Ab) (i : Nat) : (A.leave i).R i = [] := by
  unfold Ab.leave Ab.turn Ab.R
  simp only
  rw [setV_get]
  cases A.V[i]? <;> simp
theorem leave_nw (A : Ab) (i : Nat) (p : Pf) : (A.leave i).nw i p = false := by
  unfold Ab.leave Ab.turn Ab.away
  simp only [setF_same]
  simp
theorem leave_len (A : Ab) (i : Nat) : (A.leave i).V.length = A.V.length := setV_len ..
theorem leave_th (A : Ab) (i : Nat) : (A.leave i).th i = false := setF_same ..
/-- nobody's best route is by who has left. -/
theorem leave_best {A : Ab} {i j : Nat} {p : Pf} {n : Int} {a : At} (h : (A.leave i).best j p = some (n, a)) : n ≠ (i : Int) := by
  obtain ⟨k, v, rfl, hv, hg, -⟩ := best_from h
  intro e
  have e : k = i := by omega
  subst e
  have hv : (setV A.V k [])[k]? = some v := hv
  rw [setV_get] at hv
  cases hx : A.V[k]? with
  | none => rw [hx] at hv; simp at hv
  | some x =>
    rw [hx] at hv; simp at hv
    rw [← hv] at hg
    cases hg
theorem bs_at {w : World} {s : Option Addr} {n c : Nat} {xs : List BE} (h : SlAt w 13 (fun x cs => cs = beL x) (.slice s n c) xs) {i : Nat} {x : BE} (hx : xs[i]? = some x) : ∃ g o, s = some ⟨g, o, none⟩ ∧ w.rangeAt g (o + i * 13) (beL x) := by
  obtain ⟨s', c', e, h1, h2, h3⟩ := h
  injection e with e _ _
  subst e
  have hi := (List.getElem?_eq_some_iff.1 hx).1
  obtain ⟨b, off, rfl, h4⟩ := h3 (by omega)
  obtain ⟨cs, -, rfl, hc⟩ := h4 i x hx
  exact ⟨b, off, rfl, fun j v hv => hc j v hv⟩
theorem plt_ext {L M : List Pf} (h : L.Pairwise plt) (k : M.Pairwise plt) (hm : ∀ p, p ∈ L ↔ p ∈ M) : L = M := srt_ext h k hm
set_option maxHeartbeats 6400000 in
set_option maxRecDepth 100000 in
theorem law_ServerLeaves (n : Int) (v : Value) (xs : List Stp) (who : Int) (w : World) (hv : StpsAt w v xs) (hz : ∀ x ∈ xs, MsSz x.x) :
    Calls Tryz.prog 4 #[.int .i64 n, v, .int .i64 who] w fun e w' => e = .returned (.bool true) ∧ Below w.heap.size w w' := by
  obtain ⟨k4, hk4⟩ : ∃ k : Nat, n % 4 = k := Int.eq_ofNat_of_zero_le (by omega)
  have hand : bits .and .i64 n 3 = (k4 : Int) := by rw [and_3, hk4]
  obtain ⟨N, hN⟩ : ∃ N : Nat, N = k4 + 2 := ⟨_, rfl⟩
  have zN : IntKind.i64.wrap ((2 : Int) + (k4 : Int)) = (N : Int) := by rw [IntWalk.i64_in _ (by omega)]; omega
  have hN1 : 1 ≤ N := by omega
  have hN4 : N ≤ 5 := by omega
  obtain ⟨q, hq⟩ : ∃ k : Nat, who % 8 = k := Int.eq_ofNat_of_zero_le (by omega)
  have hand7 : bits .and .i64 who 7 = (q : Int) := by rw [and_7, hq]
  obtain ⟨r, hr⟩ : ∃ r : Nat, r = q % N := ⟨_, rfl⟩
  have hrem : Int.tmod (q : Int) (N : Int) = (r : Int) := by rw [hr]; rfl
  have hrN : r < N := by rw [hr]; exact Nat.mod_lt _ (by omega)
  obtain ⟨s0, c0, rfl, hl1, hl2, -⟩ := id hv
  have xl : xs.length ≤ 9223372036854775807 := Nat.le_trans hl1 hl2
  have HV := Lib.hid hv
  have HZ := Lib.hid hz
  have SD := Lib.hid (l_sides14 N (by omega))
  have NC := Lib.hid (newCd_sds (n := N) (by omega) (by omega))
  clear hv hz hl1 hl2 hk4 hN hq hr
  go_enter Tryz.func4, Tryz.ntmps4
  go_wp2_with fail
  refine (law_head w).mono ?_
  rintro e w1 ⟨rfl, hb1⟩
  have B1 := Lib.hid hb1
  clear hb1
  go_wp2_with fail
  refine (SD.out w1).mono ?_
  rintro e w2 ⟨s1, c1, rfl, ow, hb2⟩
  have NW := Lib.hid (ls_New 65000 20 (.slice s1 N c1) (sdsN N) w w2 (below_on B1.out hb2) (sds_own ow (by omega)) NC.out)
  clear ow hb2
  go_wp2_with fail
  refine NW.out.mono ?_
  rintro e w3 ⟨rho, sb, fb, ls, rfl, L0, -, -⟩
  have nz : ((N : Int) == 0) = false := by simp; omega
  obtain ⟨A1, hA1⟩ : ∃ A1, newA 65000 20 (sdsN N) = A1 := ⟨_, rfl⟩
  have V1 : Hid (A1.V.length = N) := Lib.hid (by rw [← hA1]; exact newA_len ..)
  have T1 : Hid (∀ i, A1.th i = false) := Lib.hid (by rw [← hA1]; exact fun _ => rfl)
  rw [hA1] at L0
  have J0 : Hid (LSv w w3 rho sb fb ls (joinN A1 0)) := Lib.hid L0
  clear hA1 L0 NW
  go_wp2_with fail
  go_loopw [9] (fun t11 wr => ∃ k : Nat, k ≤ N ∧ t11 = .int .i64 k ∧ Hid (LSv w wr rho sb fb ls (joinN A1 k))) (fun t11 _ => N - (intOf t11).toNat)
  case atStart => exact ⟨0, by omega, rfl, J0⟩
  case round =>
    clear J0
    obtain ⟨k, hk, rfl, LJ⟩ := hrel
    by_cases hkn : k < N
    · have dk : decide ((k : Int) < (N : Int)) = true := by simp; omega
      have JN := Lib.hid (ls_Join LJ.out (i := k) (by rw [(joinN_V A1 k).1, V1.out]; exact hkn) (by rw [joinN_th, if_neg (by omega)]; exact T1.out k))
      clear LJ
      go_wp2_with fail
      refine JN.out.mono ?_
      rintro e w6 ⟨rfl, hl, -⟩
      have LJ2 : Hid (LSv w w6 rho sb fb ls (joinN A1 (k + 1))) := Lib.hid (by rw [joinN_succ]; exact hl)
      clear hl JN
      go_wp2_with fail
      exact ⟨⟨k + 1, by omega, by go_num, LJ2⟩, by simp [intOf]; omega⟩
    · obtain rfl : k = N := by omega
      have dk : decide ((k : Int) < (k : Int)) = false := by simp
      obtain ⟨A2, hA2⟩ : ∃ A2, joinN A1 k = A2 := ⟨_, rfl⟩
      have V2 : Hid (A2.V.length = k) := Lib.hid (by rw [← hA2, (joinN_V A1 k).1]; exact V1.out)
      have T2 : Hid (∀ i, i < k → A2.th i = true) := Lib.hid (by rw [← hA2]; intro i hi; rw [joinN_th, if_pos hi])
      have O2 : Hid (A2.own = A1.own ∧ A2.most = A1.most ∧ A2.bl = A1.bl) := Lib.hid (by rw [← hA2]; obtain ⟨-, h1, h2, h3⟩ := joinN_V A1 k; exact ⟨h1, h3, h2⟩)
      rw [hA2] at LJ
      have U0 : Hid (LSv w wr rho sb fb ls (A2.says (xs.take 0))) := LJ
      clear hA2 LJ V1 T1
      go_upto_block 2 with (fail)
      clear dk
      go_cut [10] from 41 to 69 (fun s12 wx => ∃ (A3 : Ab) (rho2 : Nat → Role), Hid (LSv w wx rho2 sb fb ls A3) ∧ Hid (A3.V.length = k) ∧ Hid (∀ i, i < k → A3.th i = true) ∧ Hid (A3.own = A1.own ∧ A3.most = A1.most ∧ A3.bl = A1.bl))
      case first =>
        go_wp2_with fail
        go_loopw [10] (fun t12 wr => ∃ (j : Nat) (rho2 : Nat → Role), j ≤ xs.length ∧ j ≤ 20 ∧ t12 = .int .i64 j ∧ Hid (LSv w wr rho2 sb fb ls (A2.says (xs.take j)))) (fun t12 _ => xs.length - (intOf t12).toNat)
        case atStart => exact ⟨0, rho, by omega, by omega, rfl, U0⟩
        case round =>
          clear U0
          obtain ⟨j, rho2, hj, hj20, rfl, LU⟩ := hrel
          by_cases hjl : j < xs.length ∧ j < 20
          · obtain ⟨x, hx⟩ : ∃ x, xs[j]? = some x := ⟨_, List.getElem?_eq_getElem hjl.1⟩
            have j1 : decide ((j : Int) < (xs.length : Int)) = true := by simp; omega
            have j2 : decide ((j : Int) < 20) = true := by simp; omega
            have i0 : (0 : Int) ≤ (j : Int) := by omega
            have i1 : (j : Int) < (xs.length : Int) := by omega
            have SN : Hid (A2.says (xs.take (j + 1)) = (A2.says (xs.take j)).say x) := Lib.hid (by rw [take_snoc hx, says_snoc])
            have JL := Lib.hid hjl.2
            have MZ := Lib.hid (HZ.out x (List.mem_of_getElem? hx))
            obtain ⟨g, o, rfl, hrg, hok, hms⟩ := stps_at HV.out hx
            have NG : Hid (¬ (rho2 g ≠ .no)) := Lib.hid (fun h => h (LU.out.old (World.block_lt_of_cell? w ⟨g, _, none⟩ (hrg 0 _ rfl))))
            have RG := Lib.hid (range_below (stp_range hrg) LU.out.bel)
            have cn : wr.cell? ⟨g, o + j * 24 + 1, none⟩ = some (.int .i64 x.n) := cell_below (hrg 1 _ rfl) LU.out.bel
            have MS := Lib.hid hms
            have BG := Lib.hid (l_big14 x.x wr (hms.below LU.out.bel))
            clear hx hrg hok hms hjl
            go_wp2_with ((with_reducible refine halt_at (X := .load 46 (.tmp 54)) ?_ ?_); (· rfl))
            unfold Halt
            refine ldm_at (by rfl) 46 (.tmp 54) rfl g (o + j * 24 + 4) rfl x.x.m.C.toList _ RG.out Tryz.underlying46 rfl sz_msgS ?_
            go_wp2_with fail
            refine BG.out.mono ?_
            rintro e w7 ⟨rfl, hb7⟩
            have LU7 := Lib.hid (LU.out.below hb7)
            have RG7 := Lib.hid (range_below RG.out hb7)
            replace cn := cell_below cn hb7
            rcases hbg : bigM x.x with _ | _
            · have GA := Lib.hid (bigM_no hbg MZ.out)
              have SE : Hid (A2.says (xs.take (j + 1)) = (A2.says (xs.take j)).updI x.n x.x.m.kind x.x.gone x.x.nets x.x.a) := Lib.hid (by rw [SN.out]; unfold Ab.say; rw [hbg]; rfl)
              have LD := Lib.hid (LU7.out.below (Below.refl w7.heap.size w7).drew)
              clear hbg hb7 BG LU RG SN
              go_upto_region 15 with (fail)
              refine wp_region_held_drew (S := fun w' => Kept (fun k => rho2 k ≠ .no) w7 w') (by kernel_rfl) ?_ (fun hHeld => ?_)
              · exact (Kept.refl _ _).drew
              generalize World.drew w7 = wd at LD hHeld ⊢
              refine rgy (i := 0) (v := ?_) (atN rfl) (by kernel_rfl) (fun _ _ _ h => h) ?_ ?_ hHeld ?_; rotate_left 1; (· rfl); (· intro w' hSw; (try clear hHeld); go_simp; try with_reducible rfl)
              try simp only [Act.put, List.setIfInBounds_toArray, List.set_cons_zero, List.set_cons_succ]
              refine rgy (i := 1) (v := ?_) (atN rfl) (by kernel_rfl) (fun _ _ _ h => h) ?_ ?_ hHeld ?_; rotate_left 1; (· rfl); (· intro w' hSw; (try clear hHeld); go_simp; try with_reducible rfl)
              try simp only [Act.put, List.setIfInBounds_toArray, List.set_cons_zero, List.set_cons_succ]
              refine rgy (i := 2) (v := ?_) (atN rfl) (by kernel_rfl) (fun _ _ _ h => h) ?_ ?_ hHeld ?_; rotate_left 1; (· rfl); (· intro w' hSw; (try clear hHeld); go_simp; try with_reducible rfl)
              try simp only [Act.put, List.setIfInBounds_toArray, List.set_cons_zero, List.set_cons_succ]
              refine rgy (i := 3) (v := ?_) (atN rfl) (by kernel_rfl) (fun _ _ _ h => h) ?_ ?_ hHeld ?_; rotate_left 1; (· rfl); (· intro w' hSw; have cn := hSw.cell cn NG.out; (try clear hHeld); go_simp; try with_reducible rfl)
              try simp only [Act.put, List.setIfInBounds_toArray, List.set_cons_zero, List.set_cons_succ]
              refine rgy (i := 4) (v := ?_) (atN rfl) (by kernel_rfl) (fun _ _ _ h => h) ?_ ?_ hHeld ?_; rotate_left 1; (· rfl); (· intro w' hSw; (try clear hHeld); go_simp; try with_reducible rfl)
              try simp only [Act.put, List.setIfInBounds_toArray, List.set_cons_zero, List.set_cons_succ]
              refine rgy (i := 5) (v := ?_) (atN rfl) (by kernel_rfl) (fun _ _ _ h => h) ?_ ?_ hHeld ?_; rotate_left 1; (· rfl); (· intro w' hSw; have cn := hSw.cell cn NG.out; (try clear hHeld); go_simp; try with_reducible rfl)
              try simp only [Act.put, List.setIfInBounds_toArray, List.set_cons_zero, List.set_cons_succ]
              refine rgy (i := 6) (v := ?_) (atN rfl) (by kernel_rfl) (fun _ _ _ h => h) ?_ ?_ hHeld ?_; rotate_left 1; (· rfl); (· intro w' hSw; (try clear hHeld); go_simp; try with_reducible rfl)
              try simp only [Act.put, List.setIfInBounds_toArray, List.set_cons_zero, List.set_cons_succ]
              refine rgy (i := 7) (v := ?_) (atN rfl) (by kernel_rfl) (fun _ _ _ h => h) ?_ ?_ hHeld ?_; rotate_left 1; (· rfl); (· intro w' hSw; (try clear hHeld); go_simp; try with_reducible rfl)
              try simp only [Act.put, List.setIfInBounds_toArray, List.set_cons_zero, List.set_cons_succ]
              refine rgy (i := 8) (v := ?_) (atN rfl) (by kernel_rfl) (fun _ _ _ h => h) ?_ ?_ hHeld ?_; rotate_left 1; (· rfl); (· intro w' hSw; have cn := hSw.cell cn NG.out; (try clear hHeld); go_simp; try with_reducible rfl)
              try simp only [Act.put, List.setIfInBounds_toArray, List.set_cons_zero, List.set_cons_succ]
              refine rgy (i := 9) (v := ?_) (atN rfl) (by kernel_rfl) (fun _ _ _ h => h) ?_ ?_ hHeld ?_; rotate_left 1; (· rfl); (· intro w' hSw; (try clear hHeld); go_simp; try with_reducible rfl)
              try simp only [Act.put, List.setIfInBounds_toArray, List.set_cons_zero, List.set_cons_succ]
              refine rgy (i := 10) (v := ?_) (atN rfl) (by kernel_rfl) (fun _ _ _ h => h) ?_ ?_ hHeld ?_; rotate_left 1; (· rfl); (· intro w' hSw; refine exec_ldm 46 (.tmp 67) ?_ g (o + j * 24 + 4) ?_ x.x.m.C.toList _ (fun q u hq => hSw.cell (RG7.out q u hq) NG.out) Tryz.underlying46 rfl sz_msgS <;> rfl)
              try simp only [Act.put, List.setIfInBounds_toArray, List.set_cons_zero, List.set_cons_succ]
              refine rg_call (i := 11) (atN rfl) (by kernel_rfl) ?_ (fun K hK => ?_); (· rfl); (try clear hb); go_simp; refine (ls_UpdateI LD.out x.n x.x (LD.out.ms MS.out) GA.out.1 GA.out.2).mono ?_; rintro e wq ⟨rho3, v3, cd, rfl, hl3, st3⟩; go_wp2_with fail; refine hK.out _ _ ?_ (fun hHeld => ?_); (· exact hHeld.trans st3.kept); clear hK K
              try simp only [Act.put, List.setIfInBounds_toArray, List.set_cons_zero, List.set_cons_succ]
              refine wpAnyH_done (by kernel_rfl) ?_ _
              have LU3 : Hid (LSv w wq rho3 sb fb ls (A2.says (xs.take (j + 1)))) := Lib.hid (by rw [SE.out]; exact hl3)
              clear hHeld hl3 st3 LD cn
              go_wp2_with fail
              exact ⟨⟨j + 1, rho3, by omega, by have := JL.out; omega, by go_num, LU3⟩, by simp [intOf]; omega⟩
            · have LU8 : Hid (LSv w w7 rho2 sb fb ls (A2.says (xs.take (j + 1)))) := Lib.hid (by rw [SN.out]; unfold Ab.say; rw [hbg]; exact LU7.out)
              clear hbg hb7 BG LU RG SN cn LU7
              go_wp2_with fail
              exact ⟨⟨j + 1, rho2, by omega, by have := JL.out; omega, by go_num, LU8⟩, by simp [intOf]; omega⟩
          · obtain ⟨A3, hA3⟩ : ∃ A3, A2.says (xs.take j) = A3 := ⟨_, rfl⟩
            have SM := same_says (xs.take j) A2
            rw [hA3] at SM LU
            have V3 : Hid (A3.V.length = k) := Lib.hid (by rw [SM.len]; exact V2.out)
            have T3 : Hid (∀ i, i < k → A3.th i = true) := Lib.hid (by rw [SM.th]; exact T2.out)
            have O3 : Hid (A3.own = A1.own ∧ A3.most = A1.most ∧ A3.bl = A1.bl) := Lib.hid (by rw [SM.own, SM.most, SM.bl]; exact O2.out)
            clear hA3 SM
            by_cases hj1 : j < xs.length
            · have hj2 : ¬ j < 20 := fun h => hjl ⟨hj1, h⟩
              have j1 : decide ((j : Int) < (xs.length : Int)) = true := by simp; omega
              have j2 : decide ((j : Int) < 20) = false := by simp; omega
              have j3 : decide (j < 20) = false := by simp; omega
              have j4 : decide (j < xs.length) = true := by simp; omega
              clear hj1 hj2 hjl
              go_wp2_with fail
              go_meet
              exact ⟨A3, rho2, LU, V3, T3, O3⟩
            · have j1 : decide ((j : Int) < (xs.length : Int)) = false := by simp; omega
              have j4 : decide (j < xs.length) = false := by simp; omega
              clear hj1 hjl
              go_wp2_with fail
              go_meet
              exact ⟨A3, rho2, LU, V3, T3, O3⟩
      case rest =>
        obtain ⟨A3, rho2, LU, V3, T3, O3⟩ := hcut
        obtain ⟨w8, hw8⟩ : ∃ w8 : World, w8 = wc := ⟨_, rfl⟩
        rw [← hw8] at LU ⊢
        clear hw8 U0 V2 T2 O2
        have RK := Lib.hid (show r < A3.V.length by rw [V3.out]; exact hrN)
        have RT := Lib.hid (ls_Routes LU.out RK.out)
        have TH := Lib.hid (T3.out r hrN)
        go_wp2_with fail
        refine RT.out.mono ?_
        rintro e w9 ⟨v9, vs, rfl, re, rs, rm, hb9⟩
        obtain ⟨s9, c9, rfl, -⟩ := own_form re.own
        have L9 := Lib.hid (LU.out.below hb9)
        have RS := Lib.hid rs
        have RM := Lib.hid rm
        have LV := Lib.hid (ls_Leave L9.out RK.out TH.out)
        clear re rs rm hb9 RT LU
        go_wp2_with fail
        refine LV.out.mono ?_
        rintro e w10 ⟨rho3, s10, c10, LG, rfl, gs, gm, L10, -, -⟩
        have L10 := Lib.hid L10
        have EL : Hid (LG.length = vs.length) := Lib.hid (by
          have := nodup_len (plt_nodup gs) (plt_nodup RS.out) (fun p => (gm p).trans (RM.out p).symm)
          rwa [List.length_map] at this)
        have d0 : ((LG.length : Int) != (vs.length : Int)) = false := by rw [EL.out]; simp
        have RK4 : Hid (r < (A3.leave r).V.length) := Lib.hid (by rw [leave_len]; exact RK.out)
        have V4 : Hid ((A3.leave r).V.length = k) := Lib.hid (by rw [leave_len]; exact V3.out)
        have RT2 := Lib.hid (ls_Routes L10.out RK4.out)
        clear gs gm LV L9 EL
        go_wp2_with fail
        refine RT2.out.mono ?_
        rintro e w11 ⟨v11, vs2, rfl, re2, -, rm2, hb11⟩
        obtain ⟨s11, c11, rfl, -⟩ := own_form re2.own
        have e2 : vs2.length = 0 := by
          cases vs2 with
          | nil => rfl
          | cons x vs2 =>
            have := (rm2 x.p).1 (by simp)
            rw [leave_R] at this
            cases this
        rw [e2]
        have L11 := Lib.hid (L10.out.below hb11)
        have NW5 := Lib.hid (ls_News L11.out RK4.out)
        clear re2 rm2 hb11 RT2 e2 L10
        go_wp2_with fail
        refine NW5.out.mono ?_
        rintro e w12 ⟨s12, c12, L12, rfl, -, -, hL12, -, L13, -⟩
        have e12 : L12 = [] := List.eq_nil_iff_forall_not_mem.2 fun p hp => by have := (hL12 p).1 hp; rw [leave_nw] at this; cases this
        subst e12
        obtain ⟨A4, hA4⟩ : ∃ A4, (A3.leave r).hush r = A4 := ⟨_, rfl⟩
        have V5 : Hid (A4.V.length = k) := Lib.hid (by rw [← hA4]; exact V4.out)
        have T5 : Hid (A4.th r = false) := Lib.hid (by rw [← hA4]; exact leave_th A3 r)
        have B5 : Hid (∀ j p n a, A4.best j p = some (n, a) → n ≠ (r : Int)) := Lib.hid (by rw [← hA4]; intro j p n a h; exact leave_best (A := A3) (i := r) h)
        have W5 : Hid (∀ p, A4.nw r p = false) := Lib.hid (by rw [← hA4]; intro p; exact congrFun (setF_same _ _ _) p)
        rw [hA4] at L13
        have L13 := Lib.hid L13
        clear hA4 hL12 NW5 L11 RK4 V4 V3 T3 TH RK RM RS d0
        go_wp2_with fail
        go_loopw [14] (fun t14 wr => ∃ j : Nat, j ≤ k ∧ t14 = .int .i64 j ∧ Hid (LSv w wr rho3 sb fb ls A4)) (fun t14 _ => k - (intOf t14).toNat)
        case atStart => exact ⟨0, by omega, rfl, L13⟩
        case round =>
          clear L13
          obtain ⟨j, hj, rfl, LJ⟩ := hrel
          by_cases hjk : j < k
          · have dj : decide ((j : Int) < (k : Int)) = true := by simp; omega
            have dj2 : decide (j < k) = true := by simp; omega
            have BS := Lib.hid (ls_Bests LJ.out (i := j) (by rw [V5.out]; exact hjk))
            go_wp2_with fail
            refine BS.out.mono ?_
            rintro e w14 ⟨s14, c14, LB, AB, rfl, ob, -, vb, -, hb14⟩
            have L14 := Lib.hid (LJ.out.below hb14)
            have SB := Lib.hid (own_slat beL_len ob.own)
            have VB : Hid (∀ x ∈ LB, x.peer ≠ (r : Int)) := Lib.hid (fun x hx => B5.out _ _ _ _ (vb x hx).1)
            have lbl : LB.length ≤ 9223372036854775807 := by
              obtain ⟨sa, cap, -, g1, g2, -⟩ := SB.out
              exact Nat.le_trans g1 g2
            clear ob vb hb14 BS LJ
            go_wp2_with fail
            go_loopw [115] (fun t115 wr => ∃ z : Nat, z ≤ LB.length ∧ t115 = .int .i64 z ∧ Hid (Below w14.heap.size w14 wr)) (fun t115 _ => LB.length - (intOf t115).toNat)
            case atStart => exact ⟨0, by omega, rfl, Lib.hid (Below.refl _ _)⟩
            case round =>
              obtain ⟨z, hz, rfl, BQ⟩ := hrel
              by_cases hzl : z < LB.length
              · obtain ⟨x, hx⟩ : ∃ x, LB[z]? = some x := ⟨_, List.getElem?_eq_getElem hzl⟩
                obtain ⟨g, o, rfl, hrg⟩ := bs_at (SlAt.below SB.out BQ.out fun _ _ h => h) hx
                have RG := Lib.hid hrg
                have z0 : (0 : Int) ≤ (z : Int) := by omega
                have z1 : (z : Int) < (LB.length : Int) := by omega
                have NE : (x.peer == (r : Int)) = false := by have := VB.out x (List.mem_of_getElem? hx); simpa using this
                have NE2 : (x.peer = (r : Int)) = False := by have := VB.out x (List.mem_of_getElem? hx); simpa using this
                clear hx hrg
                go_wp2_with ((with_reducible refine halt_at (X := .load 61 (.tmp 117)) ?_ ?_); (· rfl))
                unfold Halt
                refine ldm_at (by rfl) 61 (.tmp 117) rfl g (o + z * 13) rfl (beL x) _ RG.out Tryz.underlying61 rfl sz_rt ?_
                go_wp2_with ((with_reducible refine halt_at (X := .store 61 (.tmp 16) (.tmp 118)) ?_ ?_); (· rfl))
                unfold Halt
                refine st_fresh rfl 61 (.tmp 16) (.tmp 118) rfl rfl _ (rtC x.peer x.p x.v) rfl sz_rt rfl (rt_one _ _ _) ?_
                obtain ⟨w15, hw15, q15, hb15, -⟩ := box1 wr (rtC x.peer x.p x.v) 61
                rw [← hw15]
                have cp : w15.cell? ⟨wr.heap.size, 0, none⟩ = some (.int .i64 x.peer) := row_cell q15 0
                have BQ2 := Lib.hid (below_on BQ.out hb15)
                clear hw15 q15 hb15 BQ RG
                simp only [Act.put]
                go_wp2_with fail
                exact ⟨⟨z + 1, by omega, by go_num, BQ2⟩, by simp [intOf]; omega⟩
              · obtain rfl : z = LB.length := by omega
                have L15 := Lib.hid (L14.out.below BQ.out)
                clear BQ hz hzl
                go_wp2_with fail
                exact ⟨⟨j + 1, by omega, by go_num, L15⟩, by simp [intOf]; omega⟩
          · obtain rfl : j = k := by omega
            have dj : decide ((j : Int) < (j : Int)) = false := by simp
            have JN := Lib.hid (ls_Join LJ.out (i := r) (by rw [V5.out]; exact hrN) T5.out)
            clear LJ hj hjk
            go_wp2_with fail
            refine JN.out.mono ?_
            rintro e w16 ⟨rfl, L16, -⟩
            have NW6 := Lib.hid (ls_News L16 (i := r) (by show r < A4.V.length; rw [V5.out]; exact hrN))
            clear JN L16
            go_wp2_with fail
            refine NW6.out.mono ?_
            rintro e w17 ⟨sn, cn, LN, rfl, PN, SN, MN, -, L17, -⟩
            have BS2 := Lib.hid (ls_Bests L17 (i := r) (by show r < A4.V.length; rw [V5.out]; exact hrN))
            have MN2 : Hid (∀ p, p ∈ LN ↔ (A4.best r p).isSome = true) := Lib.hid (fun p => by
              rw [MN p]
              unfold Ab.join
              simp only [setF_same]
              rw [W5.out p, Bool.false_or])
            have PN := Lib.hid PN
            have SN := Lib.hid SN
            have L17 := Lib.hid L17
            clear MN NW6
            go_wp2_with fail
            refine BS2.out.mono ?_
            rintro e w18 ⟨s18, c18, LB, AB, rfl, ob, sbp, vb, ab, hb18⟩
            have EQ : LN = LB.map (·.p) := plt_ext SN.out sbp (fun p => by
              rw [MN2.out p]
              constructor
              · intro h
                obtain ⟨b, hb⟩ := Option.isSome_iff_exists.1 h
                exact ab p b hb
              · intro h
                obtain ⟨x, hx, rfl⟩ := List.mem_map.1 h
                have h1 : A4.best r x.p = some (x.peer, x.a) := (vb x hx).1
                rw [h1]; rfl)
            have EL : Hid (LB.length = LN.length) := Lib.hid (by rw [EQ, List.length_map])
            have GE : Hid (∀ (z : Nat) (p : Pf), LN[z]? = some p → ∃ x : BE, LB[z]? = some x ∧ x.p = p) := Lib.hid (fun z p hp => by
              rw [EQ, List.getElem?_map] at hp
              cases hx : LB[z]? with
              | none => rw [hx] at hp; simp at hp
              | some x => rw [hx] at hp; simp at hp; exact ⟨x, rfl, hp⟩)
            have PS := Lib.hid (PN.out.self.below hb18)
            have SB := Lib.hid (own_slat beL_len ob.own)
            have FB := Lib.hid (L17.out.below hb18).bel
            have lnl : LN.length ≤ 9223372036854775807 := by
              obtain ⟨sa, cap, -, g1, g2, -⟩ := PS.out
              exact Nat.le_trans g1 g2
            rw [EL.out] at SB ⊢
            have ne0 : ((LN.length : Int) != (LN.length : Int)) = false := by simp
            clear ob sbp vb ab hb18 BS2 EQ PN SN L17 MN2 V5 T5 B5 W5
            go_wp2_with fail
            go_loopw [141] (fun t141 wr => ∃ z : Nat, z ≤ LN.length ∧ t141 = .int .i64 z ∧ Hid (Below w18.heap.size w18 wr)) (fun t141 _ => LN.length - (intOf t141).toNat)
            case atStart => exact ⟨0, by omega, rfl, Lib.hid (Below.refl _ _)⟩
            case round =>
              obtain ⟨z, hz, rfl, BQ⟩ := hrel
              by_cases hzl : z < LN.length
              · obtain ⟨p, hp⟩ : ∃ p, LN[z]? = some p := ⟨_, List.getElem?_eq_getElem hzl⟩
                obtain ⟨x, hx, hxp⟩ := GE.out z p hp
                obtain ⟨g, o, rfl, hrg⟩ := bs_at (SlAt.below SB.out BQ.out fun _ _ h => h) hx
                obtain ⟨g2, o2, d0', d1', rfl, ⟨hpc, -⟩, p0, p1⟩ := ps_pair (PS.out.below BQ.out) hp
                injection hpc with q1 q2; injection q2 with q2 _; subst q1; subst q2
                have b1 : wr.cell? ⟨g, o + z * 13 + 1, none⟩ = some (.int .u32 p.1) := by rw [← hxp]; exact hrg 1 _ rfl
                have b2 : wr.cell? ⟨g, o + z * 13 + 1 + 1, none⟩ = some (.int .i64 p.2) := by rw [← hxp]; exact hrg 2 _ rfl
                have z0 : (0 : Int) ≤ (z : Int) := by omega
                have z1 : (z : Int) < (LN.length : Int) := by omega
                clear hx hxp hrg hp
                go_upto_region 39 with (fail)
                go_quiet (fail)
                rename_i nq
                obtain ⟨wx, hwx⟩ : ∃ W, W = wr.drewN nq := ⟨_, rfl⟩
                have BX : Hid (Below w18.heap.size w18 wx) := Lib.hid (by rw [hwx]; exact below_on BQ.out ⟨rfl, rfl, rfl, Nat.le_refl _, fun _ _ => rfl⟩)
                rw [← hwx]
                clear hwx BQ p0 p1 b1 b2
                go_wp2_with fail
                exact ⟨⟨z + 1, by omega, by go_num, BX⟩, by simp [intOf]; omega⟩
              · obtain rfl : z = LN.length := by omega
                have FF := Lib.hid (below_on FB.out BQ.out)
                clear BQ hz hzl
                go_wp2_with fail
                go_ret
                exact ⟨rfl, FF.out⟩
namespace serverLeaves
open Go.ChangeShapes Go.WideShapes Go.ChangeAt Go.RowKit
set_option linter.unusedVariables false
set_option maxRecDepth 100000 in
theorem lifted (os : Os) (started : os.Started) (H : Type) (enc : TypeId × Value → H) :
    ReturnsInHanded {} Tryz.checked os 4 .any (Rows.serverLeavesSpec.pre6 enc Tryz.prog Tryz.f4 Rows.serverLeavesRow.domain false) (Rows.serverLeavesSpec.post enc Tryz.prog Tryz.f4 false true false false) := by
  refine returnsInHanded_of_change_sized (C := Tryz.checked) fr_own started (by kernel_rfl) Tryz.func4
    (ChangeSpec.witness6 (enc := enc) (C := Tryz.checked) false ⟨#[], #[.int .i64 0, .slice none 0 0, .int .i64 0], []⟩ 8 (by kernel_rfl) (by kernel_rfl) (by kernel_rfl) (by kernel_rfl)) ?_
  intro W base args ds gs before hval0 hW hcnd hsz0 _
  have hval : ∀ (j : Nat) t v, Tryz.f4.params[j]? = some t → args[j]? = some v → Value.okWide Tryz.prog W .any base t v := hval0
  have hW' := hW
  obtain ⟨p, q, hA0, hV, rfl, hfz, hnd⟩ := hW
  have hA : DataW.TrodAll enc Tryz.prog W 0 (fun _ => true) true Tryz.f4.params.toList args.toList ds p := hA0
  rw [Tryz.params4] at hA hval
  obtain ⟨v0, vs0, d0, ds0, p0, q0, hargs, rfl, rfl, h0, r0⟩ := trodAll_cons hA
  obtain ⟨v1, vs1, d1, ds1, p1, q1, rfl, rfl, rfl, h1, r1⟩ := trodAll_cons r0
  obtain ⟨v2, vs2, d2, ds2, p2, q2, rfl, rfl, rfl, h2, r2⟩ := trodAll_cons r1
  obtain ⟨rfl, rfl, rfl⟩ := trodAll_nil r2
  obtain rfl : args = #[v0, v1, v2] := by cases args; simp_all
  obtain ⟨rfl, rfl⟩ := trodVars_none hV
  have lt0 : ∀ x ∈ p0, x.block < W.heap.size := by obtain ⟨m, hm⟩ := h0; exact DataW.trod_lt m _ _ _ hm
  have lt1 : ∀ x ∈ p1, x.block < W.heap.size := by obtain ⟨m, hm⟩ := h1; exact DataW.trod_lt m _ _ _ hm
  have lt2 : ∀ x ∈ p2, x.block < W.heap.size := by obtain ⟨m, hm⟩ := h2; exact DataW.trod_lt m _ _ _ hm
  have hsz : (DataW.weightsEach Tryz.prog [3, 22, 3] [d0, d1, d2]).all (· ≤ reachBytes) = true := hsz0
  obtain ⟨n, rfl, nl, nh⟩ := open_i64 (hval 0 3 v0 rfl rfl)
  obtain ⟨xs, hxs, hxz⟩ := open_steps_sz (hval 1 22 v1 rfl rfl) h1 (sz_of hsz (j := 1) rfl rfl)
  obtain ⟨who, rfl, wl, wh⟩ := open_i64 (hval 2 3 v2 rfl rfl)
  clear hA0 hval0 hsz0 hsz
  refine (law_ServerLeaves n v1 xs who W hxs hxz).mono fun e W' ⟨he, bel⟩ => ?_
  subst he
  exact ⟨_, rfl, _, _, _, [], _, [], hW', trodAll_mk1 (shut_bool Tryz.underlying4 _), (trodAll_cons_mk (Below.trod fr_laidOut (by kernel_rfl) (of_decide_eq_true (by kernel_rfl)) h0 bel lt0) (trodAll_cons_mk (Below.trod fr_laidOut (by kernel_rfl) (of_decide_eq_true (by kernel_rfl)) h1 bel lt1) (trodAll_cons_mk (Below.trod fr_laidOut (by kernel_rfl) (of_decide_eq_true (by kernel_rfl)) h2 bel lt2) trodAll_mk0))), rfl, bel.frame _, fun h => by cases h⟩
theorem over : Rows.serverLeavesRow.holds Tryz.pinned (OpenSpec.ofChange Rows.serverLeavesSpec) :=
  OpenClaim.holds_of_wide 4 Tryz.f4 rfl rfl rfl rfl rfl rfl rfl ⟨rfl, rfl, rfl, rfl, rfl⟩ rfl rfl rfl rfl rfl (by kernel_rfl) Tryz.func4 (by kernel_rfl)
    (of_decide_eq_true (by kernel_rfl)) (by unfold Func.isWrapper; first | (rw [if_pos (by decide +kernel)]; kernel_rfl) | (rw [if_neg (by decide +kernel)]; exact ⟨rfl, rfl⟩))
    (fun os started H enc _ => lifted os started H enc)
/-- THE STATEMENT ServerLeaves. -/
theorem proved : Rows.ServerLeavesSaid := over
#print axioms proved
end serverLeaves
end Go.Proofs.YtkoidahgbbabiaaGreat
