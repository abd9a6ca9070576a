/-
  ServerMarks: proved of every number of participants, whatever steps, prefixes and receiver: what is marked is told again, once, in order; of who isn't there nothing is told.
-/
import Derived.Test.YtkoidahgbbabiaaGreatMk25
import Derived.Test.YtkoidahgbbabiaaGreatMk1
import Derived.Test.YtkoidahgbbabiaaGreatMk6
namespace Go.Proofs.YtkoidahgbbabiaaGreat
open Go.RowKit

abbrev boV (b : Bool) : Value := .bool b
abbrev WantT (W : World) (b : Nat) (l : List (Pf × Bool)) : Prop := MapT pfV boV KOk W b l
theorem zero_bo (w : World) : (zeroValue 4).run Tryz.prog w = .ok (.bool false) w := by kernel_rfl
theorem and_3 (x : Int) : bits .and .i64 x 3 = x % 4 := and_low_i64 x 2 (by decide)
theorem and_7 (x : Int) : bits .and .i64 x 7 = x % 8 := and_low_i64 x 3 (by decide)
/-- what isn't the server's is as it was. -/
structure Agr (rho : Nat → Role) (w W : World) : Prop where
  size : w.heap.size ≤ W.heap.size
  block : ∀ k, rho k = .no → k < w.heap.size → W.heap[k]? = w.heap[k]?
theorem Agr.refl (rho : Nat → Role) (w : World) : Agr rho w w := ⟨Nat.le_refl _, fun _ _ _ => rfl⟩
theorem Agr.kept {rho : Nat → Role} {w W W' : World} {G : Nat → Prop} (h : Agr rho w W) (hk : Kept G W W') (hG : ∀ k, G k → w.heap.size ≤ k ∨ rho k ≠ .no) : Agr rho w W' :=
  ⟨Nat.le_trans h.size hk.size, fun k hn hl => (hk.block k (Nat.lt_of_lt_of_le hl h.size) fun hg => (hG k hg).elim (by omega) (fun h => h hn)).trans (h.block k hn hl)⟩
theorem Agr.below {rho : Nat → Role} {w W W' : World} (h : Agr rho w W) (hb : Below W.heap.size W W') : Agr rho w W' := h.kept (G := fun _ => False) (Kept.of_below hb) fun _ h => h.elim
theorem Agr.step {rho rho' : Nat → Role} {w W W' : World} (h : Agr rho w W) (st : Step rho rho' W W') : Agr rho w W' := h.kept st.kept fun _ h => .inr h
theorem Agr.on {rho : Nat → Role} {w W : World} {Q : World → Prop} (h : Agr rho w W) (hq : On (fun k => rho k = .no) w Q) : Q W := hq W h.block
theorem pcmp_lessM {p q : Pf} (h : plt p q) : decide (pcmp p q ≥ 0) = false := by
  have := pcmp_lt.2 h
  simp; omega
theorem plt_step {L : List Pf} (h : L.Pairwise plt) {k : Nat} {x y : Pf} (hx : L[k]? = some x) (hy : L[k + 1]? = some y) : plt x y := by
  obtain ⟨h1, e1⟩ := List.getElem?_eq_some_iff.1 hx
  obtain ⟨h2, e2⟩ := List.getElem?_eq_some_iff.1 hy
  have := List.pairwise_iff_getElem.1 h k (k + 1) h1 h2 (by omega)
  rw [e1, e2] at this
  exact this
set_option maxHeartbeats 6400000 in
set_option maxRecDepth 100000 in
theorem law_ServerMarks (n : Int) (v : Value) (xs : List Stp) (who : Int) (u : Value) (ps : List Pf) (w : World) (hv : StpsAt w v xs) (hz : ∀ x ∈ xs, MsSz x.x) (hu : PsAt w u ps) :
    Calls Tryz.prog 3 #[.int .i64 n, v, .int .i64 who, u] w fun e w' => e = .returned (.bool true) ∧ Below w.heap.size w w' := by
  obtain ⟨k4, hk4⟩ : ∃ k : Nat, n % 4 = k := Int.eq_ofNat_of_zero_le (by omega)
  have hand : bits .and .i64 n 3 = (k4 : Int) := by rw [and_3, hk4]
  obtain ⟨N, hN⟩ : ∃ N : Nat, N = k4 + 1 := ⟨_, rfl⟩
  have zN : IntKind.i64.wrap ((1 : Int) + (k4 : Int)) = (N : Int) := by rw [IntWalk.i64_in _ (by omega)]; omega
  have hN1 : 1 ≤ N := by omega
  have hN4 : N ≤ 4 := by omega
  obtain ⟨q, hq⟩ : ∃ k : Nat, who % 8 = k := Int.eq_ofNat_of_zero_le (by omega)
  have hand7 : bits .and .i64 who 7 = (q : Int) := by rw [and_7, hq]
  obtain ⟨r, hr⟩ : ∃ r : Nat, r = q % N := ⟨_, rfl⟩
  have hrem : Int.tmod (q : Int) (N : Int) = (r : Int) := by rw [hr]; rfl
  have hrN : r < N := by rw [hr]; exact Nat.mod_lt _ (by omega)
  obtain ⟨s0, c0, rfl, hl1, hl2, -⟩ := id hv
  obtain ⟨su, cu, rfl, hu1, hu2, -⟩ := id hu
  have xl : xs.length ≤ 9223372036854775807 := Nat.le_trans hl1 hl2
  have pl : ps.length ≤ 9223372036854775807 := Nat.le_trans hu1 hu2
  have HV := Lib.hid hv
  have HZ := Lib.hid hz
  have HU := Lib.hid hu
  have SD := Lib.hid (l_sides14 N (by omega))
  have NC := Lib.hid (newCd_sds (n := N) (by omega) (by omega))
  clear hv hz hu hl1 hl2 hu1 hu2 hk4 hN hq hr
  have hmm := @run_makeMap Tryz.prog
  go_enter Tryz.func3, Tryz.ntmps3
  go_wp2_with fail
  refine (law_head w).mono ?_
  rintro e w1 ⟨rfl, hb1⟩
  have B1 := Lib.hid hb1
  clear hb1
  by_cases h20 : 20 < ps.length
  · have d0 : decide ((ps.length : Int) > 20) = true := dgt _ 20 (by simpa using h20)
    clear h20
    go_wp2_with fail
    go_ret
    exact ⟨rfl, B1.out⟩
  · have d0 : decide ((ps.length : Int) > 20) = false := dgt _ 20 (by simpa using h20)
    have P20 : Hid (ps.length ≤ 20) := Lib.hid (by omega)
    clear h20
    go_wp2_with fail
    refine (SD.out w1).mono ?_
    rintro e w2 ⟨s1, c1, rfl, ow, hb2⟩
    have NW := Lib.hid (ls_New 65000 20 (.slice s1 N c1) (sdsN N) w w2 (below_on B1.out hb2) (sds_own ow (by omega)) NC.out)
    clear ow hb2
    go_wp2_with fail
    refine NW.out.mono ?_
    rintro e w3 ⟨rho, sb, fb, ls, rfl, L0, -, -⟩
    have L0 := Lib.hid L0
    clear NW
    have A0 : Hid ((newA 65000 20 (sdsN N)).V.length = N) := Lib.hid (newA_len ..)
    have nz : ((N : Int) == 0) = false := by simp; omega
    go_wp2_with fail
    refine (ls_Mark_off L0.out (i := r) (by rw [A0.out]; exact hrN) rfl _).mono ?_
    rintro e w4 ⟨rfl, rfl⟩
    go_wp2_with fail
    refine (ls_News L0.out (i := r) (by rw [A0.out]; exact hrN)).mono ?_
    rintro e w5 ⟨s5, c5, L5, rfl, -, -, hL5, -, L1, -⟩
    have e5 : L5 = [] := List.eq_nil_iff_forall_not_mem.2 fun p hp => by have := (hL5 p).1 hp; cases this
    subst e5
    obtain ⟨A1, hA1⟩ : ∃ A1, (newA 65000 20 (sdsN N)).hush r = A1 := ⟨_, rfl⟩
    have V1 : Hid (A1.V.length = N) := Lib.hid (by rw [← hA1]; exact A0.out)
    have T1 : Hid (∀ i, A1.th i = false) := Lib.hid (by rw [← hA1]; exact fun _ => rfl)
    rw [hA1] at L1
    have J0 : Hid (LSv w w5 rho sb fb ls (joinN A1 0)) := Lib.hid L1
    clear hL5 hA1 L1 L0 A0
    go_wp2_with fail
    go_loopw [11] (fun t11 wr => ∃ k : Nat, k ≤ N ∧ t11 = .int .i64 k ∧ Hid (LSv w wr rho sb fb ls (joinN A1 k))) (fun t11 _ => N - (intOf t11).toNat)
    case atStart => exact ⟨0, by omega, rfl, J0⟩
    case round =>
      clear J0
      obtain ⟨k, hk, rfl, LJ⟩ := hrel
      by_cases hkn : k < N
      · have dk : decide ((k : Int) < (N : Int)) = true := by simp; omega
        have JN := Lib.hid (ls_Join LJ.out (i := k) (by rw [(joinN_V A1 k).1, V1.out]; exact hkn) (by rw [joinN_th, if_neg (by omega)]; exact T1.out k))
        clear LJ
        go_wp2_with fail
        refine JN.out.mono ?_
        rintro e w6 ⟨rfl, hl, -⟩
        have LJ2 : Hid (LSv w w6 rho sb fb ls (joinN A1 (k + 1))) := Lib.hid (by rw [joinN_succ]; exact hl)
        clear hl JN
        go_wp2_with fail
        exact ⟨⟨k + 1, by omega, by go_num, LJ2⟩, by simp [intOf]; omega⟩
      · obtain rfl : k = N := by omega
        have dk : decide ((k : Int) < (k : Int)) = false := by simp
        obtain ⟨A2, hA2⟩ : ∃ A2, joinN A1 k = A2 := ⟨_, rfl⟩
        have V2 : Hid (A2.V.length = k) := Lib.hid (by rw [← hA2, (joinN_V A1 k).1]; exact V1.out)
        have T2 : Hid (A2.th r = true) := Lib.hid (by rw [← hA2, joinN_th, if_pos hrN])
        rw [hA2] at LJ
        have U0 : Hid (LSv w wr rho sb fb ls (A2.says (xs.take 0))) := LJ
        clear hA2 LJ V1 T1
        go_upto_block 2 with (fail)
        clear dk
        go_cut [12] from 56 to 84 (fun s12 wx => ∃ (A3 : Ab) (rho2 : Nat → Role), Hid (LSv w wx rho2 sb fb ls A3) ∧ Hid (r < A3.V.length) ∧ Hid (A3.th r = true))
        case first =>
          go_wp2_with fail
          go_loopw [12] (fun t12 wr => ∃ (j : Nat) (rho2 : Nat → Role), j ≤ xs.length ∧ j ≤ 20 ∧ t12 = .int .i64 j ∧ Hid (LSv w wr rho2 sb fb ls (A2.says (xs.take j)))) (fun t12 _ => xs.length - (intOf t12).toNat)
          case atStart => exact ⟨0, rho, by omega, by omega, rfl, U0⟩
          case round =>
            clear U0
            obtain ⟨j, rho2, hj, hj20, rfl, LU⟩ := hrel
            by_cases hjl : j < xs.length ∧ j < 20
            · obtain ⟨x, hx⟩ : ∃ x, xs[j]? = some x := ⟨_, List.getElem?_eq_getElem hjl.1⟩
              have j1 : decide ((j : Int) < (xs.length : Int)) = true := by simp; omega
              have j2 : decide ((j : Int) < 20) = true := by simp; omega
              have i0 : (0 : Int) ≤ (j : Int) := by omega
              have i1 : (j : Int) < (xs.length : Int) := by omega
              have SN : Hid (A2.says (xs.take (j + 1)) = (A2.says (xs.take j)).say x) := Lib.hid (by rw [take_snoc hx, says_snoc])
              have JL := Lib.hid hjl.2
              have MZ := Lib.hid (HZ.out x (List.mem_of_getElem? hx))
              obtain ⟨g, o, rfl, hrg, hok, hms⟩ := stps_at HV.out hx
              have NG : Hid (¬ (rho2 g ≠ .no)) := Lib.hid (fun h => h (LU.out.old (World.block_lt_of_cell? w ⟨g, _, none⟩ (hrg 0 _ rfl))))
              have RG := Lib.hid (range_below (stp_range hrg) LU.out.bel)
              have cn : wr.cell? ⟨g, o + j * 24 + 1, none⟩ = some (.int .i64 x.n) := cell_below (hrg 1 _ rfl) LU.out.bel
              have MS := Lib.hid hms
              have BG := Lib.hid (l_big14 x.x wr (hms.below LU.out.bel))
              clear hx hrg hok hms hjl
              go_wp2_with ((with_reducible refine halt_at (X := .load 46 (.tmp 69)) ?_ ?_); (· rfl))
              unfold Halt
              refine ldm_at (by rfl) 46 (.tmp 69) rfl g (o + j * 24 + 4) rfl x.x.m.C.toList _ RG.out Tryz.underlying46 rfl sz_msgS ?_
              go_wp2_with fail
              refine BG.out.mono ?_
              rintro e w7 ⟨rfl, hb7⟩
              have LU7 := Lib.hid (LU.out.below hb7)
              have RG7 := Lib.hid (range_below RG.out hb7)
              replace cn := cell_below cn hb7
              rcases hbg : bigM x.x with _ | _
              · have GA := Lib.hid (bigM_no hbg MZ.out)
                have SE : Hid (A2.says (xs.take (j + 1)) = (A2.says (xs.take j)).updI x.n x.x.m.kind x.x.gone x.x.nets x.x.a) := Lib.hid (by rw [SN.out]; unfold Ab.say; rw [hbg]; rfl)
                have LD := Lib.hid (LU7.out.below (Below.refl w7.heap.size w7).drew)
                clear hbg hb7 BG LU RG SN
                go_upto_region 21 with (fail)
                refine wp_region_held_drew (S := fun w' => Kept (fun k => rho2 k ≠ .no) w7 w') (by kernel_rfl) ?_ (fun hHeld => ?_)
                · exact (Kept.refl _ _).drew
                generalize World.drew w7 = wd at LD hHeld ⊢
                refine rgy (i := 0) (v := ?_) (atN rfl) (by kernel_rfl) (fun _ _ _ h => h) ?_ ?_ hHeld ?_; rotate_left 1; (· rfl); (· intro w' hSw; (try clear hHeld); go_simp; try with_reducible rfl)
                try simp only [Act.put, List.setIfInBounds_toArray, List.set_cons_zero, List.set_cons_succ]
                refine rgy (i := 1) (v := ?_) (atN rfl) (by kernel_rfl) (fun _ _ _ h => h) ?_ ?_ hHeld ?_; rotate_left 1; (· rfl); (· intro w' hSw; (try clear hHeld); go_simp; try with_reducible rfl)
                try simp only [Act.put, List.setIfInBounds_toArray, List.set_cons_zero, List.set_cons_succ]
                refine rgy (i := 2) (v := ?_) (atN rfl) (by kernel_rfl) (fun _ _ _ h => h) ?_ ?_ hHeld ?_; rotate_left 1; (· rfl); (· intro w' hSw; (try clear hHeld); go_simp; try with_reducible rfl)
                try simp only [Act.put, List.setIfInBounds_toArray, List.set_cons_zero, List.set_cons_succ]
                refine rgy (i := 3) (v := ?_) (atN rfl) (by kernel_rfl) (fun _ _ _ h => h) ?_ ?_ hHeld ?_; rotate_left 1; (· rfl); (· intro w' hSw; have cn := hSw.cell cn NG.out; (try clear hHeld); go_simp; try with_reducible rfl)
                try simp only [Act.put, List.setIfInBounds_toArray, List.set_cons_zero, List.set_cons_succ]
                refine rgy (i := 4) (v := ?_) (atN rfl) (by kernel_rfl) (fun _ _ _ h => h) ?_ ?_ hHeld ?_; rotate_left 1; (· rfl); (· intro w' hSw; (try clear hHeld); go_simp; try with_reducible rfl)
                try simp only [Act.put, List.setIfInBounds_toArray, List.set_cons_zero, List.set_cons_succ]
                refine rgy (i := 5) (v := ?_) (atN rfl) (by kernel_rfl) (fun _ _ _ h => h) ?_ ?_ hHeld ?_; rotate_left 1; (· rfl); (· intro w' hSw; have cn := hSw.cell cn NG.out; (try clear hHeld); go_simp; try with_reducible rfl)
                try simp only [Act.put, List.setIfInBounds_toArray, List.set_cons_zero, List.set_cons_succ]
                refine rgy (i := 6) (v := ?_) (atN rfl) (by kernel_rfl) (fun _ _ _ h => h) ?_ ?_ hHeld ?_; rotate_left 1; (· rfl); (· intro w' hSw; (try clear hHeld); go_simp; try with_reducible rfl)
                try simp only [Act.put, List.setIfInBounds_toArray, List.set_cons_zero, List.set_cons_succ]
                refine rgy (i := 7) (v := ?_) (atN rfl) (by kernel_rfl) (fun _ _ _ h => h) ?_ ?_ hHeld ?_; rotate_left 1; (· rfl); (· intro w' hSw; (try clear hHeld); go_simp; try with_reducible rfl)
                try simp only [Act.put, List.setIfInBounds_toArray, List.set_cons_zero, List.set_cons_succ]
                refine rgy (i := 8) (v := ?_) (atN rfl) (by kernel_rfl) (fun _ _ _ h => h) ?_ ?_ hHeld ?_; rotate_left 1; (· rfl); (· intro w' hSw; have cn := hSw.cell cn NG.out; (try clear hHeld); go_simp; try with_reducible rfl)
                try simp only [Act.put, List.setIfInBounds_toArray, List.set_cons_zero, List.set_cons_succ]
                refine rgy (i := 9) (v := ?_) (atN rfl) (by kernel_rfl) (fun _ _ _ h => h) ?_ ?_ hHeld ?_; rotate_left 1; (· rfl); (· intro w' hSw; (try clear hHeld); go_simp; try with_reducible rfl)
                try simp only [Act.put, List.setIfInBounds_toArray, List.set_cons_zero, List.set_cons_succ]
                refine rgy (i := 10) (v := ?_) (atN rfl) (by kernel_rfl) (fun _ _ _ h => h) ?_ ?_ hHeld ?_; rotate_left 1; (· rfl); (· intro w' hSw; refine exec_ldm 46 (.tmp 82) ?_ g (o + j * 24 + 4) ?_ x.x.m.C.toList _ (fun q u hq => hSw.cell (RG7.out q u hq) NG.out) Tryz.underlying46 rfl sz_msgS <;> rfl)
                try simp only [Act.put, List.setIfInBounds_toArray, List.set_cons_zero, List.set_cons_succ]
                refine rg_call (i := 11) (atN rfl) (by kernel_rfl) ?_ (fun K hK => ?_); (· rfl); (try clear hb); go_simp; refine (ls_UpdateI LD.out x.n x.x (LD.out.ms MS.out) GA.out.1 GA.out.2).mono ?_; rintro e wq ⟨rho3, v3, cd, rfl, hl3, st3⟩; go_wp2_with fail; refine hK.out _ _ ?_ (fun hHeld => ?_); (· exact hHeld.trans st3.kept); clear hK K
                try simp only [Act.put, List.setIfInBounds_toArray, List.set_cons_zero, List.set_cons_succ]
                refine wpAnyH_done (by kernel_rfl) ?_ _
                have LU3 : Hid (LSv w wq rho3 sb fb ls (A2.says (xs.take (j + 1)))) := Lib.hid (by rw [SE.out]; exact hl3)
                clear hHeld hl3 st3 LD cn
                go_wp2_with fail
                exact ⟨⟨j + 1, rho3, by omega, by have := JL.out; omega, by go_num, LU3⟩, by simp [intOf]; omega⟩
              · have LU8 : Hid (LSv w w7 rho2 sb fb ls (A2.says (xs.take (j + 1)))) := Lib.hid (by rw [SN.out]; unfold Ab.say; rw [hbg]; exact LU7.out)
                clear hbg hb7 BG LU RG SN cn LU7
                go_wp2_with fail
                exact ⟨⟨j + 1, rho2, by omega, by have := JL.out; omega, by go_num, LU8⟩, by simp [intOf]; omega⟩
            · obtain ⟨A3, hA3⟩ : ∃ A3, A2.says (xs.take j) = A3 := ⟨_, rfl⟩
              have SM := same_says (xs.take j) A2
              rw [hA3] at SM LU
              have V3 : Hid (r < A3.V.length) := Lib.hid (by rw [SM.len, V2.out]; exact hrN)
              have T3 : Hid (A3.th r = true) := Lib.hid (by rw [SM.th]; exact T2.out)
              clear hA3 SM
              by_cases hj1 : j < xs.length
              · have hj2 : ¬ j < 20 := fun h => hjl ⟨hj1, h⟩
                have j1 : decide ((j : Int) < (xs.length : Int)) = true := by simp; omega
                have j2 : decide ((j : Int) < 20) = false := by simp; omega
                have j3 : decide (j < 20) = false := by simp; omega
                have j4 : decide (j < xs.length) = true := by simp; omega
                clear hj1 hj2 hjl
                go_wp2_with fail
                go_meet
                exact ⟨A3, rho2, LU, V3, T3⟩
              · have j1 : decide ((j : Int) < (xs.length : Int)) = false := by simp; omega
                have j4 : decide (j < xs.length) = false := by simp; omega
                clear hj1 hjl
                go_wp2_with fail
                go_meet
                exact ⟨A3, rho2, LU, V3, T3⟩
        case rest =>
          obtain ⟨A3, rho2, LU, V3, T3⟩ := hcut
          obtain ⟨w8, hw8⟩ : ∃ w8 : World, w8 = wc := ⟨_, rfl⟩
          rw [← hw8] at LU ⊢
          clear hw8 U0 V2 T2
          have NW3 := Lib.hid (ls_News LU.out V3.out)
          go_wp2_with fail
          refine NW3.out.mono ?_
          rintro e w9 ⟨s9, c9, L9, rfl, -, -, -, -, L4, -⟩
          have MK := Lib.hid (ls_Mark L4 (i := r) V3.out T3.out (.slice su ps.length cu) ps (L4.ps HU.out))
          clear L4 NW3 LU
          go_wp2_with fail
          refine MK.out.mono ?_
          rintro e w10 ⟨rho3, rfl, L5, -⟩
          have NW5 := Lib.hid (ls_News L5 (i := r) V3.out)
          clear L5 MK
          go_wp2_with fail
          refine NW5.out.mono ?_
          rintro e w11 ⟨sn, cn, LN, rfl, PN, SN, MN, -, L6, -⟩
          have MN2 : Hid (∀ p, p ∈ LN ↔ (p ∈ ps ∧ rightB p.1 p.2 = true)) := Lib.hid (fun p => by
            rw [MN p]
            unfold Ab.mark Ab.hush
            simp only [setF_same]
            simp)
          have PN := Lib.hid PN
          have SN := Lib.hid SN
          have L6 := Lib.hid L6
          clear MN NW5
          obtain ⟨A4, hA4⟩ : ∃ A4, ((A3.hush r).mark r ps).hush r = A4 := ⟨_, rfl⟩
          have V4 : Hid (r < A4.V.length) := Lib.hid (by rw [← hA4]; exact V3.out)
          have W4 : Hid (∀ p, A4.nw r p = false) := Lib.hid (by rw [← hA4]; intro p; exact congrFun (setF_same _ _ _) p)
          rw [hA4] at L6
          clear hA4 V3 T3
          go_upto_region 26 with (fail)
          have hM := MapT.made (ek := pfV) (ev := boV) (ok := KOk) w11
          obtain ⟨w12, hw12⟩ : ∃ w12 : World, w12 = w11.alloc (.map #[] 0) := ⟨_, rfl⟩
          have hb12 : Below w11.heap.size w11 w12 := by rw [hw12]; exact (Below.refl _ _).alloc (Nat.le_refl _) _
          obtain ⟨wb, hwb⟩ : ∃ wb, wb = w11.heap.size := ⟨_, rfl⟩
          rw [← hw12, ← hwb] at hM
          rw [← hw12, ← hwb]
          have M0 : Hid (WantT w12 wb []) := Lib.hid hM
          have L7 := Lib.hid (L6.out.below hb12)
          have NWB := Lib.hid (L6.out.new (Nat.le_of_eq hwb.symm))
          have WBL : Hid (w11.heap.size ≤ wb) := Lib.hid (Nat.le_of_eq hwb.symm)
          have WBW : Hid (w.heap.size ≤ wb) := Lib.hid (by rw [hwb]; exact L6.out.bel.size)
          have AG0 := Lib.hid ((Agr.refl rho3 w11).below hb12)
          have K0 : Hid (∀ p : Pf, (getL ([] : List (Pf × Bool)) p).isSome = true ↔ p ∈ ps.take 0 ∧ rightB p.1 p.2 = true) := Lib.hid (by simp [getL])
          clear hM hw12 hb12 hwb L6
          go_wp2_with fail
          go_loopw [98] (fun t98 wr => ∃ (k : Nat) (T : List (Pf × Bool)), k ≤ ps.length ∧ t98 = .int .i64 k ∧ Hid (LSv w wr rho3 sb fb ls A4) ∧ Hid (WantT wr wb T) ∧ Hid (∀ p, (getL T p).isSome = true ↔ p ∈ ps.take k ∧ rightB p.1 p.2 = true) ∧ Hid (∀ x ∈ T, x.2 = true ∧ RgtP x.1) ∧ Hid (Agr rho3 w11 wr)) (fun t98 _ => ps.length - (intOf t98).toNat)
          case atStart => exact ⟨0, [], by omega, rfl, L7, M0, K0, Lib.hid (fun x hx => by cases hx), AG0⟩
          case round =>
            clear L7 M0 K0 AG0
            obtain ⟨k, T, hk, rfl, LT, MT, KT, OT, AG⟩ := hrel
            by_cases hkl : k < ps.length
            · obtain ⟨p, hp⟩ : ∃ p, ps[k]? = some p := ⟨_, List.getElem?_eq_getElem hkl⟩
              obtain ⟨g2, o2, d0', d1', rfl, ⟨hpc, hok⟩, p0, p1⟩ := ps_pair (LT.out.ps HU.out).self hp
              injection hpc with q1 q2; injection q2 with q2 _; subst q1; subst q2
              have HOK := Lib.hid hok
              have CK := Lib.hid (fun W => ip_Check p.1 p.2 W hok.1 hok.2)
              have TK : Hid (ps.take (k + 1) = ps.take k ++ [p]) := Lib.hid (take_snoc hp)
              have k0 : (0 : Int) ≤ (k : Int) := by omega
              have k1 : (k : Int) < (ps.length : Int) := by omega
              clear hp hok
              go_upto_region 29 with (fail)
              obtain ⟨v1, hv1, c0, c1, hb1⟩ := box2 wr (.int .u32 p.1) (.int .i64 p.2) 53
              rw [← hv1]
              obtain ⟨pb, hpb⟩ : ∃ pb, pb = wr.heap.size := ⟨_, rfl⟩
              rw [← hpb] at c0 c1 ⊢
              have LT1 := Lib.hid (LT.out.below hb1)
              have MT1 := Lib.hid (MT.out.below hb1)
              have AG1 := Lib.hid (AG.out.below hb1)
              clear hv1 hb1 LT MT AG p0 p1 hpb
              rcases hr : rightB p.1 p.2 with _ | _
              · rw [hr] at CK
                have KT2 : Hid (∀ q, (getL T q).isSome = true ↔ q ∈ ps.take (k + 1) ∧ rightB q.1 q.2 = true) := Lib.hid (fun q => by
                  rw [KT.out q, TK.out, List.mem_append, List.mem_singleton]
                  constructor
                  · rintro ⟨h1, h2⟩; exact ⟨.inl h1, h2⟩
                  · rintro ⟨h1 | rfl, h2⟩
                    · exact ⟨h1, h2⟩
                    · rw [hr] at h2; cases h2)
                clear hr KT TK
                go_wp2_with fail
                refine (CK.out _).mono ?_
                rintro e v2 ⟨rfl, hb2⟩
                have LT2 := Lib.hid (LT1.out.below hb2)
                have MT2 := Lib.hid (MT1.out.below hb2)
                have AG2 := Lib.hid (AG1.out.below hb2)
                clear hb2 LT1 MT1 AG1 c0 c1
                go_wp2_with fail
                exact ⟨⟨k + 1, T, by omega, by go_num, LT2, MT2, KT2, OT, AG2⟩, by simp [intOf]; omega⟩
              · rw [hr] at CK
                have RG : Hid (RgtP p) := Lib.hid ⟨HOK.out, hr⟩
                have KT2 : Hid (∀ q, (getL (putL T p true) q).isSome = true ↔ q ∈ ps.take (k + 1) ∧ rightB q.1 q.2 = true) := Lib.hid (fun q => by
                  rw [getL_put, TK.out, List.mem_append, List.mem_singleton]
                  by_cases e : q = p
                  · subst e; simp [hr]
                  · rw [if_neg e, KT.out q]; simp [e])
                have OT2 : Hid (∀ x ∈ putL T p true, x.2 = true ∧ RgtP x.1) := Lib.hid (fun x hx => by
                  rcases mem_put hx with ⟨h, -⟩ | h
                  · exact OT.out x h
                  · rw [h]; exact ⟨rfl, RG.out⟩)
                clear hr KT TK
                go_wp2_with fail
                refine (CK.out _).mono ?_
                rintro e v2 ⟨rfl, hb2⟩
                have LT2 := Lib.hid (LT1.out.below hb2)
                have MT2 := Lib.hid (MT1.out.below hb2)
                have AG2 := Lib.hid (AG1.out.below hb2)
                replace c0 := cell_below c0 hb2
                replace c1 := cell_below c1 hb2
                obtain ⟨o2, hs2, hm2⟩ := MT2.out.store pf_enc Tryz.underlying51 p RG.out.key true (rgt_short MT2.out.apart fun x hx => (OT.out x hx).2) v2 rfl
                have hk2 : Kept (fun k => k = wb) v2 (ChangeMaps.setBlock v2 wb o2) := Kept.setBlock o2 rfl
                have LT3 := Lib.hid (LT2.out.out hk2 (fun k e => by rw [e]; exact NWB.out) (fun k e => by rw [e]; exact WBW.out))
                have AG3 := Lib.hid (AG2.out.kept hk2 fun k e => .inl (by rw [e]; exact WBL.out))
                have MT3 : Hid (WantT (ChangeMaps.setBlock v2 wb o2) wb (putL T p true)) := Lib.hid hm2
                clear hb2 LT1 MT1 AG1 LT2 MT2 AG2 hm2 hk2
                go_wp2_with fail
                exact ⟨⟨k + 1, putL T p true, by omega, by go_num, LT3, MT3, KT2, OT2, AG3⟩, by simp [intOf]; omega⟩
            · obtain rfl : k = ps.length := by omega
              rw [List.take_length] at KT
              have EQ : Hid (T.length = LN.length) := Lib.hid (by
                have := nodup_len (plt_nodup SN.out) (keysU_nodup MT.out.apart) (fun p => by rw [MN2.out, keysU_mem MT.out.apart, KT.out])
                rw [List.length_map] at this
                exact this.symm)
              have hln := fun ty => MT.out.len Tryz.underlying51 ty wr rfl
              rw [EQ.out] at hln
              have NW7 := Lib.hid (ls_News LT.out V4.out)
              have ne0 : ((LN.length : Int) != (LN.length : Int)) = false := by simp
              clear hk hkl
              go_wp2_with fail
              refine NW7.out.mono ?_
              rintro e w13 ⟨s13, c13, L13, rfl, -, -, hL13, -, L8, st8⟩
              have e13 : L13 = [] := List.eq_nil_iff_forall_not_mem.2 fun p hp => by have := (hL13 p).1 hp; rw [W4.out p] at this; cases this
              subst e13
              have AG8 := Lib.hid (AG.out.step st8)
              have MT8 : Hid (WantT w13 wb T) := Lib.hid (MT.out.of_block (st8.block MT.out.lt NWB.out))
              have L8 := Lib.hid L8
              have PS8 := Lib.hid (AG8.out.on PN.out)
              have LK0 : Hid (∀ p ∈ LN, ∀ w', Below w13.heap.size w13 w' → (Instr.lookup 51 (.map (some wb)) (pfV p) false).run Tryz.prog w' = .ok (.bool true) w') := Lib.hid (fun p hp w' hb => by
                have h1 := (KT.out p).2 ((MN2.out p).1 hp)
                obtain ⟨b, hb1⟩ := Option.isSome_iff_exists.1 h1
                have h2 := OT.out _ (getL_mem hb1)
                have := MT8.out.look pf_enc Tryz.underlying51 p h2.2.key zero_bo w' (hb.block _ MT8.out.lt) false
                rw [this, hb1]
                simp only at h2
                rw [h2.1]
                rfl)
              have pln : LN.length ≤ 9223372036854775807 := by
                obtain ⟨sa, cap, -, g1, g2, -⟩ := PS8.out
                exact Nat.le_trans g1 g2
              clear hL13 st8 AG MT LT hln NW7 KT OT EQ AG8 MT8 MN2
              go_wp2_with fail
              go_loopw [122] (fun t122 wr => ∃ k : Nat, k ≤ LN.length ∧ t122 = .int .i64 k ∧ Hid (Below w13.heap.size w13 wr)) (fun t122 _ => LN.length - (intOf t122).toNat)
              case atStart => exact ⟨0, by omega, rfl, Lib.hid (Below.refl _ _)⟩
              case round =>
                obtain ⟨k, hk, rfl, BW⟩ := hrel
                by_cases hkl : k < LN.length
                · obtain ⟨p, hp⟩ : ∃ p, LN[k]? = some p := ⟨_, List.getElem?_eq_getElem hkl⟩
                  have PSW := Lib.hid (PS8.out.below BW.out)
                  obtain ⟨g2, o2, d0', d1', rfl, ⟨hpc, hok⟩, p0, p1⟩ := ps_pair PSW.out hp
                  injection hpc with q1 q2; injection q2 with q2 _; subst q1; subst q2
                  have LK := Lib.hid (LK0.out p (List.mem_of_getElem? hp))
                  have HPK := Lib.hid hp
                  have k0 : (0 : Int) ≤ (k : Int) := by omega
                  have k1 : (k : Int) < (LN.length : Int) := by omega
                  clear hp hok
                  go_upto_region 37 with (fail)
                  obtain ⟨v1, hv1, c0, c1, hb1⟩ := box2 wr (.int .u32 p.1) (.int .i64 p.2) 53
                  rw [← hv1]
                  obtain ⟨pb, hpb⟩ : ∃ pb, pb = wr.heap.size := ⟨_, rfl⟩
                  rw [← hpb] at c0 c1 ⊢
                  have BW1 := Lib.hid (below_on BW.out hb1)
                  have PS1 := Lib.hid (PSW.out.below hb1)
                  have LK1 := Lib.hid (fun w' (hb : Below v1.heap.size v1 w') => LK.out w' (below_on BW1.out hb))
                  clear hv1 hb1 hpb BW PSW p0 p1 LK
                  by_cases kz : k = 0
                  · subst kz
                    have dk : decide (((0 : Nat) : Int) > 0) = false := by decide
                    refine wp_region_held_drew (S := fun w' => Below v1.heap.size v1 w') (by kernel_rfl) ?_ (fun hHeld => ?_)
                    · exact (Below.refl _ _).drew
                    generalize World.drew v1 = wd at hHeld ⊢
                    refine rgy (i := 0) (v := ?_) (atN rfl) (by kernel_rfl) (fun _ _ _ h => h) ?_ ?_ hHeld ?_; rotate_left 1; (· rfl); (· intro w' hSw; (try clear hHeld); go_simp; try with_reducible rfl)
                    try simp only [Act.put, List.setIfInBounds_toArray, List.set_cons_zero, List.set_cons_succ]
                    refine rgy (i := 1) (v := ?_) (atN rfl) (by kernel_rfl) (fun _ _ _ h => h) ?_ ?_ hHeld ?_; rotate_left 1; (· rfl); (· intro w' hSw; have c0 := cell_below c0 hSw; have c1 := cell_below c1 hSw; (try clear hHeld); go_simp; try with_reducible rfl)
                    try simp only [Act.put, List.setIfInBounds_toArray, List.set_cons_zero, List.set_cons_succ]
                    refine rgy (i := 2) (v := ?_) (atN rfl) (by kernel_rfl) (fun _ _ _ h => h) ?_ ?_ hHeld ?_; rotate_left 1; (· rfl); (· intro w' hSw; have lk := LK1.out w' hSw; (try clear hHeld); go_simp; try with_reducible rfl)
                    try simp only [Act.put, List.setIfInBounds_toArray, List.set_cons_zero, List.set_cons_succ]
                    refine rgy (i := 3) (v := ?_) (atN rfl) (by kernel_rfl) (fun _ _ _ h => h) ?_ ?_ hHeld ?_; rotate_left 1; (· rfl); (· intro w' hSw; (try clear hHeld); go_simp; try with_reducible rfl)
                    try simp only [Act.put, List.setIfInBounds_toArray, List.set_cons_zero, List.set_cons_succ]
                    refine rgy (i := 4) (v := ?_) (atN rfl) (by kernel_rfl) (fun _ _ _ h => h) ?_ ?_ hHeld ?_; rotate_left 1; (· rfl); (· intro w' hSw; (try clear hHeld); go_simp; try with_reducible rfl)
                    try simp only [Act.put, List.setIfInBounds_toArray, List.set_cons_zero, List.set_cons_succ]
                    first | (refine rgn (i := 5) (atN rfl) (by kernel_rfl) (fun _ _ _ h => h) ?_ hHeld ?_; (· rfl)) | (refine rgy (i := 5) (v := ?_) (atN rfl) (by kernel_rfl) (fun _ _ _ h => h) ?_ ?_ hHeld ?_; rotate_left 1; (· rfl); (· intro w' hSw; (try clear hHeld); go_simp; try with_reducible rfl))
                    try simp only [Act.put, List.setIfInBounds_toArray, List.set_cons_zero, List.set_cons_succ]
                    first | (refine rgn (i := 6) (atN rfl) (by kernel_rfl) (fun _ _ _ h => h) ?_ hHeld ?_; (· rfl)) | (refine rgy (i := 6) (v := ?_) (atN rfl) (by kernel_rfl) (fun _ _ _ h => h) ?_ ?_ hHeld ?_; rotate_left 1; (· rfl); (· intro w' hSw; (try clear hHeld); go_simp; try with_reducible rfl))
                    try simp only [Act.put, List.setIfInBounds_toArray, List.set_cons_zero, List.set_cons_succ]
                    first | (refine rgn (i := 7) (atN rfl) (by kernel_rfl) (fun _ _ _ h => h) ?_ hHeld ?_; (· rfl)) | (refine rgy (i := 7) (v := ?_) (atN rfl) (by kernel_rfl) (fun _ _ _ h => h) ?_ ?_ hHeld ?_; rotate_left 1; (· rfl); (· intro w' hSw; (try clear hHeld); go_simp; try with_reducible rfl))
                    try simp only [Act.put, List.setIfInBounds_toArray, List.set_cons_zero, List.set_cons_succ]
                    first | (refine rgn (i := 8) (atN rfl) (by kernel_rfl) (fun _ _ _ h => h) ?_ hHeld ?_; (· rfl)) | (refine rgy (i := 8) (v := ?_) (atN rfl) (by kernel_rfl) (fun _ _ _ h => h) ?_ ?_ hHeld ?_; rotate_left 1; (· rfl); (· intro w' hSw; (try clear hHeld); go_simp; try with_reducible rfl))
                    try simp only [Act.put, List.setIfInBounds_toArray, List.set_cons_zero, List.set_cons_succ]
                    first | (refine rgn (i := 9) (atN rfl) (by kernel_rfl) (fun _ _ _ h => h) ?_ hHeld ?_; (· rfl)) | (refine rgy (i := 9) (v := ?_) (atN rfl) (by kernel_rfl) (fun _ _ _ h => h) ?_ ?_ hHeld ?_; rotate_left 1; (· rfl); (· intro w' hSw; (try clear hHeld); go_simp; try with_reducible rfl))
                    try simp only [Act.put, List.setIfInBounds_toArray, List.set_cons_zero, List.set_cons_succ]
                    first | (refine rgn (i := 10) (atN rfl) (by kernel_rfl) (fun _ _ _ h => h) ?_ hHeld ?_; (· rfl)) | (refine rgy (i := 10) (v := ?_) (atN rfl) (by kernel_rfl) (fun _ _ _ h => h) ?_ ?_ hHeld ?_; rotate_left 1; (· rfl); (· intro w' hSw; (try clear hHeld); go_simp; try with_reducible rfl))
                    try simp only [Act.put, List.setIfInBounds_toArray, List.set_cons_zero, List.set_cons_succ]
                    first | (refine rgn (i := 11) (atN rfl) (by kernel_rfl) (fun _ _ _ h => h) ?_ hHeld ?_; (· rfl)) | (refine rgy (i := 11) (v := ?_) (atN rfl) (by kernel_rfl) (fun _ _ _ h => h) ?_ ?_ hHeld ?_; rotate_left 1; (· rfl); (· intro w' hSw; have c0 := cell_below c0 hSw; have c1 := cell_below c1 hSw; (try clear hHeld); go_simp; try with_reducible rfl))
                    try simp only [Act.put, List.setIfInBounds_toArray, List.set_cons_zero, List.set_cons_succ]
                    first | (refine rgn (i := 12) (atN rfl) (by kernel_rfl) (fun _ _ _ h => h) ?_ hHeld ?_; (· rfl)) | (refine rgy (i := 12) (v := ?_) (atN rfl) (by kernel_rfl) (fun _ _ _ h => h) ?_ ?_ hHeld ?_; rotate_left 1; (· rfl); (· intro w' hSw; have c0 := cell_below c0 hSw; have c1 := cell_below c1 hSw; (try clear hHeld); go_simp; try with_reducible rfl))
                    try simp only [Act.put, List.setIfInBounds_toArray, List.set_cons_zero, List.set_cons_succ]
                    first | (refine rgn (i := 13) (atN rfl) (by kernel_rfl) (fun _ _ _ h => h) ?_ hHeld ?_; (· rfl)) | (refine rgy (i := 13) (v := ?_) (atN rfl) (by kernel_rfl) (fun _ _ _ h => h) ?_ ?_ hHeld ?_; rotate_left 1; (· rfl); (· intro w' hSw; have c0 := cell_below c0 hSw; have c1 := cell_below c1 hSw; (try clear hHeld); go_simp; try with_reducible rfl))
                    try simp only [Act.put, List.setIfInBounds_toArray, List.set_cons_zero, List.set_cons_succ]
                    first | (refine rgn (i := 14) (atN rfl) (by kernel_rfl) (fun _ _ _ h => h) ?_ hHeld ?_; (· rfl)) | (refine rg_call (i := 14) (atN rfl) (by kernel_rfl) ?_ (fun K hK => ?_); (· rfl); (try clear hb); go_simp; (refine (ps_Cmp p p _).mono ?_; rintro e w1 ⟨rfl, hb⟩); go_wp2_with fail; refine hK.out _ _ ?_ (fun hHeld => ?_); (· exact hHeld.trans (hb.mono hHeld.size)); clear hK K)
                    try simp only [Act.put, List.setIfInBounds_toArray, List.set_cons_zero, List.set_cons_succ]
                    first | (refine rgn (i := 15) (atN rfl) (by kernel_rfl) (fun _ _ _ h => h) ?_ hHeld ?_; (· rfl)) | (refine rgy (i := 15) (v := ?_) (atN rfl) (by kernel_rfl) (fun _ _ _ h => h) ?_ ?_ hHeld ?_; rotate_left 1; (· rfl); (· intro w' hSw; (try clear hHeld); go_simp; try with_reducible rfl))
                    try simp only [Act.put, List.setIfInBounds_toArray, List.set_cons_zero, List.set_cons_succ]
                    first | (refine rgn (i := 16) (atN rfl) (by kernel_rfl) (fun _ _ _ h => h) ?_ hHeld ?_; (· rfl)) | (refine rgy (i := 16) (v := ?_) (atN rfl) (by kernel_rfl) (fun _ _ _ h => h) ?_ ?_ hHeld ?_; rotate_left 1; (· rfl); (· intro w' hSw; (try clear hHeld); go_simp; try with_reducible rfl))
                    try simp only [Act.put, List.setIfInBounds_toArray, List.set_cons_zero, List.set_cons_succ]
                    refine rgy (i := 17) (v := ?_) (atN rfl) (by kernel_rfl) (fun _ _ _ h => h) ?_ ?_ hHeld ?_; rotate_left 1; (· rfl); (· intro w' hSw; (try clear hHeld); go_simp; try with_reducible rfl)
                    try simp only [Act.put, List.setIfInBounds_toArray, List.set_cons_zero, List.set_cons_succ]
                    refine wpAnyH_done (by kernel_rfl) ?_ _
                    have BW2 := Lib.hid (below_on BW1.out hHeld)
                    clear hHeld c0 c1
                    go_wp2_with fail
                    exact ⟨⟨0 + 1, by omega, by go_num, BW2⟩, by simp [intOf]; omega⟩
                  · obtain ⟨j, hj⟩ : ∃ j, j + 1 = k := ⟨k - 1, by omega⟩
                    obtain ⟨z, hz⟩ : ∃ z, LN[j]? = some z := ⟨_, List.getElem?_eq_getElem (by omega)⟩
                    obtain ⟨g3, o3, e0', e1', hsz, ⟨hpz, -⟩, z0, z1⟩ := ps_pair PS1.out hz
                    injection hsz with hsz
                    injection hsz with hs1 hs2 _
                    subst hs1; subst hs2
                    injection hpz with q1 q2; injection q2 with q2 _; subst q1; subst q2
                    have PC : decide (pcmp z p ≥ 0) = false := pcmp_lessM (plt_step SN.out hz (by rw [hj]; exact HPK.out))
                    have d1 : decide ((k : Int) > 0) = true := by simp; omega
                    have d3 : decide (0 < k) = true := by simp; omega
                    have zk : IntKind.i64.wrap ((k : Int) - 1) = (j : Int) := by rw [IntWalk.i64_in _ (by omega)]; omega
                    have i2 : (0 : Int) ≤ (j : Int) := by omega
                    have i3 : (j : Int) < (LN.length : Int) := by omega
                    clear hj kz
                    clear hz
                    refine wp_region_held_drew (S := fun w' => Below v1.heap.size v1 w') (by kernel_rfl) ?_ (fun hHeld => ?_)
                    · exact (Below.refl _ _).drew
                    generalize World.drew v1 = wd at hHeld ⊢
                    refine rgy (i := 0) (v := ?_) (atN rfl) (by kernel_rfl) (fun _ _ _ h => h) ?_ ?_ hHeld ?_; rotate_left 1; (· rfl); (· intro w' hSw; (try clear hHeld); go_simp; try with_reducible rfl)
                    try simp only [Act.put, List.setIfInBounds_toArray, List.set_cons_zero, List.set_cons_succ]
                    refine rgy (i := 1) (v := ?_) (atN rfl) (by kernel_rfl) (fun _ _ _ h => h) ?_ ?_ hHeld ?_; rotate_left 1; (· rfl); (· intro w' hSw; have c0 := cell_below c0 hSw; have c1 := cell_below c1 hSw; have z0 := cell_below z0 hSw; have z1 := cell_below z1 hSw; (try clear hHeld); go_simp; try with_reducible rfl)
                    try simp only [Act.put, List.setIfInBounds_toArray, List.set_cons_zero, List.set_cons_succ]
                    refine rgy (i := 2) (v := ?_) (atN rfl) (by kernel_rfl) (fun _ _ _ h => h) ?_ ?_ hHeld ?_; rotate_left 1; (· rfl); (· intro w' hSw; have lk := LK1.out w' hSw; (try clear hHeld); go_simp; try with_reducible rfl)
                    try simp only [Act.put, List.setIfInBounds_toArray, List.set_cons_zero, List.set_cons_succ]
                    refine rgy (i := 3) (v := ?_) (atN rfl) (by kernel_rfl) (fun _ _ _ h => h) ?_ ?_ hHeld ?_; rotate_left 1; (· rfl); (· intro w' hSw; (try clear hHeld); go_simp; try with_reducible rfl)
                    try simp only [Act.put, List.setIfInBounds_toArray, List.set_cons_zero, List.set_cons_succ]
                    refine rgy (i := 4) (v := ?_) (atN rfl) (by kernel_rfl) (fun _ _ _ h => h) ?_ ?_ hHeld ?_; rotate_left 1; (· rfl); (· intro w' hSw; (try clear hHeld); go_simp; try with_reducible rfl)
                    try simp only [Act.put, List.setIfInBounds_toArray, List.set_cons_zero, List.set_cons_succ]
                    first | (refine rgn (i := 5) (atN rfl) (by kernel_rfl) (fun _ _ _ h => h) ?_ hHeld ?_; (· rfl)) | (refine rgy (i := 5) (v := ?_) (atN rfl) (by kernel_rfl) (fun _ _ _ h => h) ?_ ?_ hHeld ?_; rotate_left 1; (· rfl); (· intro w' hSw; (try clear hHeld); go_simp; try with_reducible rfl))
                    try simp only [Act.put, List.setIfInBounds_toArray, List.set_cons_zero, List.set_cons_succ]
                    first | (refine rgn (i := 6) (atN rfl) (by kernel_rfl) (fun _ _ _ h => h) ?_ hHeld ?_; (· rfl)) | (refine rgy (i := 6) (v := ?_) (atN rfl) (by kernel_rfl) (fun _ _ _ h => h) ?_ ?_ hHeld ?_; rotate_left 1; (· rfl); (· intro w' hSw; (try clear hHeld); go_simp; try with_reducible rfl))
                    try simp only [Act.put, List.setIfInBounds_toArray, List.set_cons_zero, List.set_cons_succ]
                    first | (refine rgn (i := 7) (atN rfl) (by kernel_rfl) (fun _ _ _ h => h) ?_ hHeld ?_; (· rfl)) | (refine rgy (i := 7) (v := ?_) (atN rfl) (by kernel_rfl) (fun _ _ _ h => h) ?_ ?_ hHeld ?_; rotate_left 1; (· rfl); (· intro w' hSw; (try clear hHeld); go_simp; try with_reducible rfl))
                    try simp only [Act.put, List.setIfInBounds_toArray, List.set_cons_zero, List.set_cons_succ]
                    first | (refine rgn (i := 8) (atN rfl) (by kernel_rfl) (fun _ _ _ h => h) ?_ hHeld ?_; (· rfl)) | (refine rgy (i := 8) (v := ?_) (atN rfl) (by kernel_rfl) (fun _ _ _ h => h) ?_ ?_ hHeld ?_; rotate_left 1; (· rfl); (· intro w' hSw; (try clear hHeld); go_simp; try with_reducible rfl))
                    try simp only [Act.put, List.setIfInBounds_toArray, List.set_cons_zero, List.set_cons_succ]
                    first | (refine rgn (i := 9) (atN rfl) (by kernel_rfl) (fun _ _ _ h => h) ?_ hHeld ?_; (· rfl)) | (refine rgy (i := 9) (v := ?_) (atN rfl) (by kernel_rfl) (fun _ _ _ h => h) ?_ ?_ hHeld ?_; rotate_left 1; (· rfl); (· intro w' hSw; (try clear hHeld); go_simp; try with_reducible rfl))
                    try simp only [Act.put, List.setIfInBounds_toArray, List.set_cons_zero, List.set_cons_succ]
                    first | (refine rgn (i := 10) (atN rfl) (by kernel_rfl) (fun _ _ _ h => h) ?_ hHeld ?_; (· rfl)) | (refine rgy (i := 10) (v := ?_) (atN rfl) (by kernel_rfl) (fun _ _ _ h => h) ?_ ?_ hHeld ?_; rotate_left 1; (· rfl); (· intro w' hSw; (try clear hHeld); go_simp; try with_reducible rfl))
                    try simp only [Act.put, List.setIfInBounds_toArray, List.set_cons_zero, List.set_cons_succ]
                    first | (refine rgn (i := 11) (atN rfl) (by kernel_rfl) (fun _ _ _ h => h) ?_ hHeld ?_; (· rfl)) | (refine rgy (i := 11) (v := ?_) (atN rfl) (by kernel_rfl) (fun _ _ _ h => h) ?_ ?_ hHeld ?_; rotate_left 1; (· rfl); (· intro w' hSw; have c0 := cell_below c0 hSw; have c1 := cell_below c1 hSw; have z0 := cell_below z0 hSw; have z1 := cell_below z1 hSw; (try clear hHeld); go_simp; try with_reducible rfl))
                    try simp only [Act.put, List.setIfInBounds_toArray, List.set_cons_zero, List.set_cons_succ]
                    first | (refine rgn (i := 12) (atN rfl) (by kernel_rfl) (fun _ _ _ h => h) ?_ hHeld ?_; (· rfl)) | (refine rgy (i := 12) (v := ?_) (atN rfl) (by kernel_rfl) (fun _ _ _ h => h) ?_ ?_ hHeld ?_; rotate_left 1; (· rfl); (· intro w' hSw; have c0 := cell_below c0 hSw; have c1 := cell_below c1 hSw; have z0 := cell_below z0 hSw; have z1 := cell_below z1 hSw; (try clear hHeld); go_simp; try with_reducible rfl))
                    try simp only [Act.put, List.setIfInBounds_toArray, List.set_cons_zero, List.set_cons_succ]
                    first | (refine rgn (i := 13) (atN rfl) (by kernel_rfl) (fun _ _ _ h => h) ?_ hHeld ?_; (· rfl)) | (refine rgy (i := 13) (v := ?_) (atN rfl) (by kernel_rfl) (fun _ _ _ h => h) ?_ ?_ hHeld ?_; rotate_left 1; (· rfl); (· intro w' hSw; have c0 := cell_below c0 hSw; have c1 := cell_below c1 hSw; have z0 := cell_below z0 hSw; have z1 := cell_below z1 hSw; (try clear hHeld); go_simp; try with_reducible rfl))
                    try simp only [Act.put, List.setIfInBounds_toArray, List.set_cons_zero, List.set_cons_succ]
                    first | (refine rgn (i := 14) (atN rfl) (by kernel_rfl) (fun _ _ _ h => h) ?_ hHeld ?_; (· rfl)) | (refine rg_call (i := 14) (atN rfl) (by kernel_rfl) ?_ (fun K hK => ?_); (· rfl); (try clear hb); go_simp; (refine (ps_Cmp z p _).mono ?_; rintro e w1 ⟨rfl, hb⟩); go_wp2_with fail; refine hK.out _ _ ?_ (fun hHeld => ?_); (· exact hHeld.trans (hb.mono hHeld.size)); clear hK K)
                    try simp only [Act.put, List.setIfInBounds_toArray, List.set_cons_zero, List.set_cons_succ]
                    first | (refine rgn (i := 15) (atN rfl) (by kernel_rfl) (fun _ _ _ h => h) ?_ hHeld ?_; (· rfl)) | (refine rgy (i := 15) (v := ?_) (atN rfl) (by kernel_rfl) (fun _ _ _ h => h) ?_ ?_ hHeld ?_; rotate_left 1; (· rfl); (· intro w' hSw; (try clear hHeld); go_simp; try with_reducible rfl))
                    try simp only [Act.put, List.setIfInBounds_toArray, List.set_cons_zero, List.set_cons_succ]
                    first | (refine rgn (i := 16) (atN rfl) (by kernel_rfl) (fun _ _ _ h => h) ?_ hHeld ?_; (· rfl)) | (refine rgy (i := 16) (v := ?_) (atN rfl) (by kernel_rfl) (fun _ _ _ h => h) ?_ ?_ hHeld ?_; rotate_left 1; (· rfl); (· intro w' hSw; (try clear hHeld); go_simp; try with_reducible rfl))
                    try simp only [Act.put, List.setIfInBounds_toArray, List.set_cons_zero, List.set_cons_succ]
                    refine rgy (i := 17) (v := ?_) (atN rfl) (by kernel_rfl) (fun _ _ _ h => h) ?_ ?_ hHeld ?_; rotate_left 1; (· rfl); (· intro w' hSw; (try clear hHeld); go_simp; try with_reducible rfl)
                    try simp only [Act.put, List.setIfInBounds_toArray, List.set_cons_zero, List.set_cons_succ]
                    refine wpAnyH_done (by kernel_rfl) ?_ _
                    have BW2 := Lib.hid (below_on BW1.out hHeld)
                    clear hHeld c0 c1 z0 z1
                    go_wp2_with fail
                    exact ⟨⟨k + 1, by omega, by go_num, BW2⟩, by simp [intOf]; omega⟩
                · obtain rfl : k = LN.length := by omega
                  have FB := Lib.hid (below_on L8.out.bel BW.out)
                  clear BW
                  go_wp2_with fail
                  go_ret
                  exact ⟨rfl, FB.out⟩
namespace serverMarks
open Go.ChangeShapes Go.WideShapes Go.ChangeAt Go.RowKit
set_option linter.unusedVariables false
set_option maxRecDepth 100000 in
theorem lifted (os : Os) (started : os.Started) (H : Type) (enc : TypeId × Value → H) :
    ReturnsInHanded {} Tryz.checked os 3 .any (Rows.serverMarksSpec.pre6 enc Tryz.prog Tryz.f3 Rows.serverMarksRow.domain false) (Rows.serverMarksSpec.post enc Tryz.prog Tryz.f3 false true false false) := by
  refine returnsInHanded_of_change_sized (C := Tryz.checked) fr_own started (by kernel_rfl) Tryz.func3
    (ChangeSpec.witness6 (enc := enc) (C := Tryz.checked) false ⟨#[], #[.int .i64 0, .slice none 0 0, .int .i64 0, .slice none 0 0], []⟩ 8 (by kernel_rfl) (by kernel_rfl) (by kernel_rfl) (by kernel_rfl)) ?_
  intro W base args ds gs before hval0 hW hcnd hsz0 _
  have hval : ∀ (j : Nat) t v, Tryz.f3.params[j]? = some t → args[j]? = some v → Value.okWide Tryz.prog W .any base t v := hval0
  have hW' := hW
  obtain ⟨p, q, hA0, hV, rfl, hfz, hnd⟩ := hW
  have hA : DataW.TrodAll enc Tryz.prog W 0 (fun _ => true) true Tryz.f3.params.toList args.toList ds p := hA0
  rw [Tryz.params3] at hA hval
  obtain ⟨v0, vs0, d0, ds0, p0, q0, hargs, rfl, rfl, h0, r0⟩ := trodAll_cons hA
  obtain ⟨v1, vs1, d1, ds1, p1, q1, rfl, rfl, rfl, h1, r1⟩ := trodAll_cons r0
  obtain ⟨v2, vs2, d2, ds2, p2, q2, rfl, rfl, rfl, h2, r2⟩ := trodAll_cons r1
  obtain ⟨v3, vs3, d3, ds3, p3, q3, rfl, rfl, rfl, h3, r3⟩ := trodAll_cons r2
  obtain ⟨rfl, rfl, rfl⟩ := trodAll_nil r3
  obtain rfl : args = #[v0, v1, v2, v3] := by cases args; simp_all
  obtain ⟨rfl, rfl⟩ := trodVars_none hV
  have lt0 : ∀ x ∈ p0, x.block < W.heap.size := by obtain ⟨m, hm⟩ := h0; exact DataW.trod_lt m _ _ _ hm
  have lt1 : ∀ x ∈ p1, x.block < W.heap.size := by obtain ⟨m, hm⟩ := h1; exact DataW.trod_lt m _ _ _ hm
  have lt2 : ∀ x ∈ p2, x.block < W.heap.size := by obtain ⟨m, hm⟩ := h2; exact DataW.trod_lt m _ _ _ hm
  have lt3 : ∀ x ∈ p3, x.block < W.heap.size := by obtain ⟨m, hm⟩ := h3; exact DataW.trod_lt m _ _ _ hm
  have hsz : (DataW.weightsEach Tryz.prog [3, 22, 3, 23] [d0, d1, d2, d3]).all (· ≤ reachBytes) = true := hsz0
  obtain ⟨n, rfl, nl, nh⟩ := open_i64 (hval 0 3 v0 rfl rfl)
  obtain ⟨xs, hxs, hxz⟩ := open_steps_sz (hval 1 22 v1 rfl rfl) h1 (sz_of hsz (j := 1) rfl rfl)
  obtain ⟨who, rfl, wl, wh⟩ := open_i64 (hval 2 3 v2 rfl rfl)
  obtain ⟨ps, hps⟩ := open_pfsS (hval 3 23 v3 rfl rfl) h3
  clear hA0 hval0 hsz0 hsz
  refine (law_ServerMarks n v1 xs who v3 ps W hxs hxz hps).mono fun e W' ⟨he, bel⟩ => ?_
  subst he
  exact ⟨_, rfl, _, _, _, [], _, [], hW', trodAll_mk1 (shut_bool Tryz.underlying4 _), (trodAll_cons_mk (Below.trod fr_laidOut (by kernel_rfl) (of_decide_eq_true (by kernel_rfl)) h0 bel lt0) (trodAll_cons_mk (Below.trod fr_laidOut (by kernel_rfl) (of_decide_eq_true (by kernel_rfl)) h1 bel lt1) (trodAll_cons_mk (Below.trod fr_laidOut (by kernel_rfl) (of_decide_eq_true (by kernel_rfl)) h2 bel lt2) (trodAll_cons_mk (Below.trod fr_laidOut (by kernel_rfl) (of_decide_eq_true (by kernel_rfl)) h3 bel lt3) trodAll_mk0)))), rfl, bel.frame _, fun h => by cases h⟩
theorem over : Rows.serverMarksRow.holds Tryz.pinned (OpenSpec.ofChange Rows.serverMarksSpec) :=
  OpenClaim.holds_of_wide 3 Tryz.f3 rfl rfl rfl rfl rfl rfl rfl ⟨rfl, rfl, rfl, rfl, rfl⟩ rfl rfl rfl rfl rfl (by kernel_rfl) Tryz.func3 (by kernel_rfl)
    (of_decide_eq_true (by kernel_rfl)) (by unfold Func.isWrapper; first | (rw [if_pos (by decide +kernel)]; kernel_rfl) | (rw [if_neg (by decide +kernel)]; exact ⟨rfl, rfl⟩))
    (fun os started H enc _ => lifted os started H enc)
/-- THE STATEMENT ServerMarks. -/
theorem proved : Rows.ServerMarksSaid := over
#print axioms proved
end serverMarks
end Go.Proofs.YtkoidahgbbabiaaGreat
