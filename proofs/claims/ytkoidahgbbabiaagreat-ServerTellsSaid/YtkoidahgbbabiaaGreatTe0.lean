/-
  ServerTells: proved of every number of participants, whatever steps.
-/
import Derived.Test.YtkoidahgbbabiaaGreatTe23
import Derived.Test.YtkoidahgbbabiaaGreatTe1
namespace Go.Proofs.YtkoidahgbbabiaaGreat
open Go.RowKit

theorem and_3t (x : Int) : bits .and .i64 x 3 = x % 4 := and_low_i64 x 2 (by decide)
theorem sz_stp : (Tryz.prog.info? 48).map (·.size) = some 24 := by kernel_rfl
theorem stp_one (x : Stp) : x.C.all (·.oneCell') = true := by simp [Value.oneCell']
set_option maxHeartbeats 6400000 in
set_option maxRecDepth 100000 in
theorem law_ServerTells (n : Int) (v : Value) (xs : List Stp) (w : World) (hv : StpsAt w v xs) (hz : ∀ x ∈ xs, MsSz x.x) :
    Calls Tryz.prog 5 #[.int .i64 n, v] w fun e w' => e = .returned (.bool true) ∧ Below w.heap.size w w' := by
  obtain ⟨k4, hk4⟩ : ∃ k : Nat, n % 4 = k := Int.eq_ofNat_of_zero_le (by omega)
  have hand : bits .and .i64 n 3 = (k4 : Int) := by rw [and_3t, hk4]
  obtain ⟨N, hN⟩ : ∃ N : Nat, N = k4 + 1 := ⟨_, rfl⟩
  have zN : IntKind.i64.wrap ((1 : Int) + (k4 : Int)) = (N : Int) := by rw [IntWalk.i64_in _ (by omega)]; omega
  have hN1 : 1 ≤ N := by omega
  have hN4 : N ≤ 4 := by omega
  obtain ⟨s0, c0, rfl, hl1, hl2, -⟩ := id hv
  have xl : xs.length ≤ 9223372036854775807 := Nat.le_trans hl1 hl2
  have HV := Lib.hid hv
  have HZ := Lib.hid hz
  have SD := Lib.hid (l_sides14 N (by omega))
  have NC := Lib.hid (newCd_sds (n := N) (by omega) (by omega))
  obtain ⟨i0, hii, hz0, hz1, hz2⟩ := info_parts info_mapPR
  have hmm := @run_makeMap Tryz.prog
  clear hv hz hl1 hl2 hk4 hN
  go_enter Tryz.func5, Tryz.ntmps5
  go_wp2_with fail
  refine (law_head w).mono ?_
  rintro e w1 ⟨rfl, hb1⟩
  have B1 := Lib.hid hb1
  clear hb1
  go_wp2_with fail
  refine (SD.out w1).mono ?_
  rintro e w2 ⟨s1, c1, rfl, ow, hb2⟩
  have NW := Lib.hid (ls_New 65000 20 (.slice s1 N c1) (sdsN N) w w2 (below_on B1.out hb2) (sds_own ow (by omega)) NC.out)
  clear ow hb2
  go_wp2_with fail
  refine NW.out.mono ?_
  rintro e w3 ⟨rho, sb, fb, ls, rfl, L0, -, -⟩
  have nz : ((N : Int) == 0) = false := by simp; omega
  obtain ⟨A1, hA1⟩ : ∃ A1, newA 65000 20 (sdsN N) = A1 := ⟨_, rfl⟩
  have V1 : Hid (A1.V.length = N) := Lib.hid (by rw [← hA1]; exact newA_len ..)
  have T1 : Hid (∀ i, KnOk A1 i []) := Lib.hid (by rw [← hA1]; exact fun i => KnOk.new _ _ _ i)
  rw [hA1] at L0
  have L0 := Lib.hid L0
  clear hA1 NW
  obtain ⟨BB, hBB⟩ : ∃ BB, BB = w3.heap.size := ⟨_, rfl⟩
  have RN : Hid (∀ k, BB ≤ k → rho k = .no) := Lib.hid (fun k hk => L0.out.new (by omega))
  have W3 : Hid (w.heap.size ≤ BB) := Lib.hid (by rw [hBB]; exact L0.out.bel.size)
  have O0 : Hid (MadeM (w3.alloc (.cells #[] 64)) BB (.slice (some ⟨w3.heap.size, 0, none⟩) 0 0) []) := Lib.hid ⟨own_empty (by omega), fun b hb => by (cases hb), List.nodup_nil⟩
  have LA0 : Hid (LSv w (w3.alloc (.cells #[] 64)) rho sb fb ls A1) := Lib.hid (L0.out.below ((Below.refl _ _).alloc (Nat.le_refl _) _))
  have BA0 : Hid (BB ≤ (w3.alloc (.cells #[] 64)).heap.size) := Lib.hid (by have := ((Below.refl w3.heap.size w3).alloc (Nat.le_refl _) (.cells #[] 64)).size; omega)
  clear hBB L0
  go_wp2_with fail
  go_loopw [7, 8] (fun t7 t8 wr => ∃ (bs : List Nat) (s : Option Addr) (c : Nat), bs.length ≤ N ∧ t8 = .int .i64 bs.length ∧ t7 = .slice s bs.length c ∧ Hid (MadeM wr BB (.slice s bs.length c) bs) ∧ Hid (LSv w wr rho sb fb ls A1) ∧ Hid (BB ≤ wr.heap.size)) (fun _ t8 _ => N - (intOf t8).toNat)
  case atStart => exact ⟨[], _, 0, by simp, rfl, rfl, O0, LA0, BA0⟩
  case round =>
    clear O0 LA0 BA0
    obtain ⟨bs, s, c, hk, rfl, rfl, OW, LV, BV⟩ := hrel
    by_cases hkn : bs.length < N
    · have d0 : decide ((bs.length : Int) < (N : Int)) = true := by simp; omega
      obtain ⟨k, hkb⟩ : ∃ k, bs.length = k := ⟨_, rfl⟩
      obtain ⟨W4, hW4⟩ : ∃ W4, W4 = wr.alloc (.map #[] 0) := ⟨_, rfl⟩
      have HM : Hid (MapT pfV beV KOk W4 wr.heap.size ([] : List (Pf × BE))) := Lib.hid (by rw [hW4]; exact MapT.made wr)
      have HB4 : Hid (Below wr.heap.size wr W4) := Lib.hid (by rw [hW4]; exact (Below.refl _ _).alloc (Nat.le_refl _) _)
      obtain ⟨W5, hW5⟩ : ∃ W5, W5 = W4.alloc (.cells #[mpV wr.heap.size] 64) := ⟨_, rfl⟩
      have HB5 : Hid (Below W4.heap.size W4 W5) := Lib.hid (by rw [hW5]; exact (Below.refl _ _).alloc (Nat.le_refl _) _)
      have NC5 := Lib.hid (new_cells W4 #[mpV wr.heap.size] 64)
      have OA := Lib.hid ((OW.out.below HB4.out).below HB5.out)
      have BA : Hid (BB ≤ W5.heap.size) := Lib.hid (by have := BV.out; have := HB4.out.size; have := HB5.out.size; omega)
      subst hW5
      subst hW4
      have hkl : k ≤ 4 := by omega
      rw [hkb] at hk hkn d0 ⊢
      have OB : Hid (((wr.alloc (.map #[] 0)).alloc (.cells #[mpV wr.heap.size] 64)).ownsRow BB 64 1 (.slice s k c) k (bs.map mpV)) := Lib.hid (by have := OA.out.own; rw [hkb] at this; exact this)
      have NC6 : Hid (∀ (j : Nat) (u : Value), [mpV wr.heap.size][j]? = some u → ((wr.alloc (.map #[] 0)).alloc (.cells #[mpV wr.heap.size] 64)).cell? ((⟨wr.heap.size + 1, 0, none⟩ : Addr).add j) = some u) := Lib.hid (by
        have h := NC5.out
        have e : (wr.alloc (.map #[] 0)).heap.size = wr.heap.size + 1 := by simp
        rw [e] at h
        exact h)
      go_wp2_with (at_builtin; refine wpList_append_own_at _ rfl _ _ 63 rfl BB 64 i0 _ 1 8 Tryz.underlying63 hii hz0 hz1 hz2 rfl (by decide) (.slice s k c) k (bs.map mpV) rfl OB.out ⟨wr.heap.size + 1, 0, none⟩ 1 1 [mpV wr.heap.size] rfl rfl NC6.out (mp_one _) (by unfold maxLen; omega) (by omega) BA.out ?_)
      intro v3 w5 h2 h3 _ hat
      obtain ⟨s3, c3, hv3, -⟩ := own_form h2
      subst hv3
      have h2' : w5.ownsRow BB 64 1 (.slice s3 (bs.length + 1) c3) (bs.length + 1) (bs.map mpV ++ [mpV wr.heap.size]) := by rw [hkb]; exact h2
      have O3 : Hid (MadeM w5 BB (.slice s3 (k + 1) c3) (bs ++ [wr.heap.size])) := Lib.hid (by
        have := OW.out.more BV.out (HB4.out.trans (HB5.out.mono HB4.out.size)) (HM.out.below HB5.out) h2' (by rw [hkb]; exact kept_gr h3) (by
          rw [hkb]
          have e : ((wr.alloc (.map #[] 0)).alloc (.cells #[mpV wr.heap.size] 64)).heap.size = wr.heap.size + 1 + 1 := by simp
          rw [e]
          exact hat)
        rw [hkb] at this
        exact this)
      have L3 : Hid (LSv w w5 rho sb fb ls A1) := Lib.hid (((LV.out.below HB4.out).below HB5.out).out (kept_gr h3) (fun g hg => RN.out g (own_form_le OB.out g hg)) (fun g hg => Nat.le_trans W3.out (own_form_le OB.out g hg)))
      have BB3 : Hid (BB ≤ w5.heap.size) := Lib.hid (Nat.le_trans BA.out (kept_gr h3).size)
      have LL : (bs ++ [wr.heap.size]).length = k + 1 := by simp [hkb]
      clear h2 h2' h3 hat OB OA OW LV BV HM HB4 HB5 NC5 NC6 BA
      go_wp2_with fail
      refine ⟨⟨bs ++ [wr.heap.size], s3, c3, ?_, ?_, ?_, ?_, L3, BB3⟩, ?_⟩
      · rw [LL]; omega
      · rw [LL]; go_num
      · rw [LL]
      · rw [LL]; exact O3
      · simp [intOf]; omega
    · obtain rfl : bs.length = N := by omega
      have d0 : decide ((bs.length : Int) < (bs.length : Int)) = false := by simp
      obtain ⟨g, rfl, kn⟩ := OW.out.kn (by omega) RN.out
      have K0 := Lib.hid kn
      have LV0 := Lib.hid LV.out
      have KO0 : Hid (∀ (i : Nat) l, (List.replicate bs.length ([] : List (Pf × BE)))[i]? = some l → KnOk A1 i l) := Lib.hid (by
        intro i l hl
        rw [List.getElem?_replicate] at hl
        split at hl
        · injection hl with hl; subst hl; exact T1.out i
        · cases hl)
      obtain ⟨N, hN⟩ : ∃ N, bs.length = N := ⟨_, rfl⟩
      have BL0 := Lib.hid hN
      rw [hN] at hN1 hN4 zN nz d0 V1 K0 KO0 ⊢
      clear kn hk hkn OW LV BV RN T1 hN i0 hii hz0 hz1 hz2 SD NC B1
      go_upto_block 12 with (fail)
      clear d0
      go_wp2_with fail
      go_loopw [9] (fun t9 wr => ∃ (j : Nat) (rho2 : Nat → Role) (A : Ab) (bs : List Nat) (kl : List (List (Pf × BE))) (D : Nat → Prop), j ≤ xs.length ∧ j ≤ 50 ∧ t9 = .int .i64 j ∧ Hid (LSv w wr rho2 sb fb ls A) ∧ Hid (A.V.length = N) ∧ Hid (bs.length = N) ∧ Hid (KnM wr rho2 BB g c 64 bs kl D) ∧ Hid (∀ (i : Nat) l, kl[i]? = some l → KnOk A i l)) (fun t9 _ => xs.length - (intOf t9).toNat)
      case atStart => exact ⟨0, rho, A1, bs, _, _, by omega, by omega, rfl, LV0, V1, BL0, K0, KO0⟩
      case round =>
        clear LV0 V1 BL0 K0 KO0
        obtain ⟨j, rho2, A, bs, kl, D, hj, hj50, rfl, LU, VL, BL, KM, KO⟩ := hrel
        by_cases hjl : j < xs.length ∧ j < 50
        · obtain ⟨x, hx⟩ : ∃ x, xs[j]? = some x := ⟨_, List.getElem?_eq_getElem hjl.1⟩
          have j1 : decide ((j : Int) < (xs.length : Int)) = true := by simp; omega
          have j2 : decide ((j : Int) < 50) = true := by simp; omega
          have ii0 : (0 : Int) ≤ (j : Int) := by omega
          have ii1 : (j : Int) < (xs.length : Int) := by omega
          have JL := Lib.hid hjl
          have MZ := Lib.hid (HZ.out x (List.mem_of_getElem? hx))
          obtain ⟨gs, os, rfl, hrg, hok, hms⟩ := stps_at HV.out hx
          have RG := Lib.hid (range_below hrg LU.out.bel)
          have MS := Lib.hid hms
          have SO := Lib.hid hok
          clear hx hrg hok hms hjl hj hj50
          go_wp2_with ((with_reducible refine halt_at (X := .load 48 (.tmp 55)) ?_ ?_); (· rfl))
          unfold Halt
          refine ldm_at (by rfl) 48 (.tmp 55) rfl gs (os + j * 24) rfl x.C.toList _ RG.out Tryz.underlying48 rfl sz_stp ?_
          go_wp2_with ((with_reducible refine halt_at (X := .store 48 (.tmp 10) (.tmp 56)) ?_ ?_); (· rfl))
          unfold Halt
          refine st_fresh rfl 48 (.tmp 10) (.tmp 56) rfl rfl _ x.C rfl sz_stp rfl (stp_one x) ?_
          obtain ⟨w4, hw4, q4, hb4, -⟩ := box1 wr x.C 48
          rw [← hw4]
          obtain ⟨tb, htb⟩ : ∃ tb, tb = wr.heap.size := ⟨_, rfl⟩
          rw [← htb] at q4 ⊢
          have NT := Lib.hid (LU.out.new (Nat.le_of_eq htb.symm))
          have TG : Hid (BB ≤ tb ∧ tb ∉ g :: bs ∧ ¬ D tb) := Lib.hid (by
            have h1 : ∀ k, (k ∈ g :: bs ∨ D k) → k < tb := fun k hk => by rw [htb]; exact (KM.out.no k hk).2
            have h2 := KM.out.hi g (List.mem_cons_self ..)
            have h3 := h1 g (.inl (List.mem_cons_self ..))
            exact ⟨by omega, fun h => by have := h1 tb (.inl h); omega, fun h => by have := h1 tb (.inr h); omega⟩)
          have d0 : w4.cell? ⟨tb, 0, none⟩ = some (.int .i64 x.k) := row_cell q4 0
          have d1 : w4.cell? ⟨tb, 1, none⟩ = some (.int .i64 x.n) := row_cell q4 1
          have d2 : w4.cell? ⟨tb, 2, none⟩ = some (.int .i64 x.to_) := row_cell q4 2
          have d3 : w4.cell? ⟨tb, 3, none⟩ = some (.bool x.on) := row_cell q4 3
          have RM : Hid (w4.rangeAt tb 4 x.x.m.C.toList) := Lib.hid (by
            have := stp_range (W := w4) (g := tb) (o := 0) (s := x) (fun j v hv => by
              rw [row_cell q4 (0 + j), Nat.zero_add]
              simpa using hv)
            simpa using this)
          have FZ : Hid (w4.frozen? ⟨tb, 1, none⟩ = false) := Lib.hid (row_free q4 1)
          have LU4 := Lib.hid (LU.out.below hb4)
          have KM4 := Lib.hid (KM.out.below hb4)
          have BG := Lib.hid (l_big14 x.x w4 (MS.out.below LU4.out.bel))
          clear hw4 q4 hb4 htb RG LU KM
          simp only [Act.put]
          go_wp2_with ((with_reducible refine halt_at (X := .load 46 (.tmp 57)) ?_ ?_); (· rfl))
          unfold Halt
          refine ldm_at (by rfl) 46 (.tmp 57) rfl tb 4 rfl x.x.m.C.toList _ RM.out Tryz.underlying46 rfl sz_msgS ?_
          go_wp2_with fail
          refine BG.out.mono ?_
          rintro e w5 ⟨rfl, hb5⟩
          have LU5 := Lib.hid (LU4.out.below hb5)
          have KM5 := Lib.hid (KM4.out.below hb5)
          have RM5 := Lib.hid (range_below RM.out hb5)
          have FZ5 : Hid (w5.frozen? ⟨tb, 1, none⟩ = false) := Lib.hid (by
            have hl := World.block_lt_of_cell? w4 ⟨tb, 1, none⟩ d1
            have := FZ.out
            unfold World.frozen? at this ⊢
            rw [hb5.block tb hl]
            exact this)
          replace d0 := cell_below d0 hb5
          replace d1 := cell_below d1 hb5
          replace d2 := cell_below d2 hb5
          replace d3 := cell_below d3 hb5
          clear hb5 BG LU4 KM4 RM
          rcases hbg : bigM x.x with _ | _
          · have GA := Lib.hid (bigM_no hbg MZ.out)
            obtain ⟨q4, hq4⟩ : ∃ k : Nat, x.n % 4 = k := Int.eq_ofNat_of_zero_le (by omega)
            have handx : bits .and .i64 x.n 3 = (q4 : Int) := by rw [and_3t, hq4]
            obtain ⟨r, hr⟩ : ∃ r : Nat, r = q4 % N := ⟨_, rfl⟩
            have hrem : Int.tmod (q4 : Int) (N : Int) = (r : Int) := by rw [hr]; rfl
            have hrN : r < N := by rw [hr]; exact Nat.mod_lt _ (by omega)
            have f1 : w5.frozen? ⟨tb, 1, none⟩ = false := FZ5.out
            clear hbg hq4 hr
            go_upto_region 18 with (fail)
            obtain ⟨w6, hw6⟩ : ∃ w6, w6 = w5.setCell ⟨tb, 1, none⟩ (.int .i64 (r : Int)) := ⟨_, rfl⟩
            rw [← hw6]
            have hk6 : Kept (fun k => k = tb) w5 w6 := by rw [hw6]; exact Kept.setCell _ _ rfl
            have LU6 : Hid (LSv w w6 rho2 sb fb ls A) := Lib.hid (LU5.out.out hk6 (fun k e => by rw [e]; exact NT.out) (fun k e => by rw [e]; exact Nat.le_trans W3.out TG.out.1))
            have KM6 := Lib.hid (KM5.out.out hk6 (fun k hk e => by subst e; exact hk.elim TG.out.2.1 TG.out.2.2))
            have e0 : w6.cell? ⟨tb, 0, none⟩ = some (.int .i64 x.k) := by rw [hw6, World.cell?_setCell_other _ _ _ _ (fun h => by injection h with _ h _; cases h)]; exact d0
            have e1 : w6.cell? ⟨tb, 1, none⟩ = some (.int .i64 (r : Int)) := by rw [hw6]; exact World.cell?_setCell_same _ _ _ d1
            have e2 : w6.cell? ⟨tb, 2, none⟩ = some (.int .i64 x.to_) := by rw [hw6, World.cell?_setCell_other _ _ _ _ (fun h => by injection h with _ h _; cases h)]; exact d2
            have e3 : w6.cell? ⟨tb, 3, none⟩ = some (.bool x.on) := by rw [hw6, World.cell?_setCell_other _ _ _ _ (fun h => by injection h with _ h _; cases h)]; exact d3
            have RM6 : Hid (w6.rangeAt tb 4 x.x.m.C.toList) := Lib.hid (fun q v hq => by
              rw [hw6, World.cell?_setCell_other _ _ _ _ (fun h => by injection h with _ h _; omega)]
              exact RM5.out q v hq)
            have RK := Lib.hid (show r < A.V.length by rw [VL.out]; exact hrN)
            have MS6 := Lib.hid (LU6.out.ms MS.out)
            clear hk6 hw6 d0 d1 d2 d3 RM5 LU5 KM5 f1 FZ5
            by_cases K1 : x.k = 1
            · rw [K1] at e0
              rcases ht : A.th r with _ | _
              · have LV := Lib.hid (ls_Leave_off LU6.out RK.out ht)
                clear ht e2 e3 RM6 MS6
                go_wp2_with fail
                refine LV.out.mono ?_
                rintro e w7 ⟨rfl, rfl⟩
                clear LV
                go_wp2_with fail
                exact ⟨⟨j + 1, rho2, A, bs, kl, D, by have := JL.out; omega, by have := JL.out; omega, by go_num, LU6, VL, BL, KM6, KO⟩, by have := JL.out; simp [intOf]; omega⟩
              · have LV := Lib.hid (ls_Leave LU6.out RK.out ht)
                clear ht e2 e3 RM6 MS6
                go_wp2_with fail
                refine LV.out.mono ?_
                rintro e w7 ⟨rho3, s7, c7, L7, rfl, -, -, l7, st7, -⟩
                have LU7 := Lib.hid l7
                have KM7 := Lib.hid (KM6.out.step st7)
                have VL7 : Hid ((A.leave r).V.length = N) := Lib.hid ((setV_len ..).trans VL.out)
                have KO7 : Hid (∀ (i : Nat) l, kl[i]? = some l → KnOk (A.leave r) i l) := Lib.hid (fun i l hl => (KO.out i l hl).leave r)
                clear LV l7 st7 e1
                go_wp2_with fail
                exact ⟨⟨j + 1, rho3, A.leave r, bs, kl, D, by have := JL.out; omega, by have := JL.out; omega, by go_num, LU7, VL7, BL, KM7, KO7⟩, by have := JL.out; simp [intOf]; omega⟩
            · by_cases K2 : x.k = 2
              · rw [K2] at e0
                have UP := Lib.hid (ls_UpdateI LU6.out (r : Int) x.x MS6.out GA.out.1 GA.out.2)
                clear K1 e2 e3 MS6
                go_wp2_with ((with_reducible refine halt_at (X := .load 46 (.tmp 91)) ?_ ?_); (· rfl))
                unfold Halt
                refine ldm_at (by rfl) 46 (.tmp 91) rfl tb 4 rfl x.x.m.C.toList _ RM6.out Tryz.underlying46 rfl sz_msgS ?_
                go_wp2_with fail
                refine UP.out.mono ?_
                rintro e w7 ⟨rho3, v7, c7, rfl, l7, st7⟩
                have LU7 := Lib.hid l7
                have KM7 := Lib.hid (KM6.out.step st7)
                have VL7 : Hid ((A.updI r x.x.m.kind x.x.gone x.x.nets x.x.a).V.length = N) := Lib.hid ((same_updI ..).len.trans VL.out)
                have KO7 : Hid (∀ (i : Nat) l, kl[i]? = some l → KnOk (A.updI r x.x.m.kind x.x.gone x.x.nets x.x.a) i l) := Lib.hid (fun i l hl => (KO.out i l hl).updI _ _ _ _ _)
                clear UP l7 st7 e1 RM6
                go_wp2_with fail
                exact ⟨⟨j + 1, rho3, _, bs, kl, D, by have := JL.out; omega, by have := JL.out; omega, by go_num, LU7, VL7, BL, KM7, KO7⟩, by have := JL.out; simp [intOf]; omega⟩
              · by_cases K3 : x.k = 3
                · rw [K3] at e0
                  clear K1 K2 RM6 MS6
                  by_cases hto : 0 ≤ x.to_ ∧ x.to_ < (N : Int)
                  · obtain ⟨q, hq⟩ := Int.eq_ofNat_of_zero_le hto.1
                    rw [hq] at e2 hto
                    have BK := Lib.hid (ls_Block LU6.out (i := r) (j := q) RK.out (by rw [VL.out]; omega) x.on)
                    clear hq hto
                    go_wp2_with fail
                    refine BK.out.mono ?_
                    rintro e w7 ⟨rho3, rfl, l7, st7⟩
                    have LU7 := Lib.hid l7
                    have KM7 := Lib.hid (KM6.out.step st7)
                    have VL7 : Hid ((A.block r q x.on).V.length = N) := VL
                    have KO7 : Hid (∀ (i : Nat) l, kl[i]? = some l → KnOk (A.block r q x.on) i l) := Lib.hid (fun i l hl => (KO.out i l hl).block _ _ _)
                    clear BK l7 st7 e1 e3
                    go_wp2_with fail
                    exact ⟨⟨j + 1, rho3, _, bs, kl, D, by have := JL.out; omega, by have := JL.out; omega, by go_num, LU7, VL7, BL, KM7, KO7⟩, by have := JL.out; simp [intOf]; omega⟩
                  · have BK := Lib.hid (ls_Block_no LU6.out (n := (r : Int)) (k := x.to_) (by rw [VL.out]; exact fun h => hto h.2) x.on)
                    clear hto
                    go_wp2_with fail
                    refine BK.out.mono ?_
                    rintro e w7 ⟨rfl, rfl⟩
                    clear BK e1 e3
                    go_wp2_with fail
                    exact ⟨⟨j + 1, rho2, A, bs, kl, D, by have := JL.out; omega, by have := JL.out; omega, by go_num, LU6, VL, BL, KM6, KO⟩, by have := JL.out; simp [intOf]; omega⟩
                · by_cases K0 : x.k = 0
                  · rw [K0] at e0
                    clear K1 K2 K3 RM6 MS6 e2 e3
                    rcases ht : A.th r with _ | _
                    · have JN := Lib.hid (ls_Join LU6.out RK.out ht)
                      clear ht
                      go_wp2_with fail
                      refine JN.out.mono ?_
                      rintro e w7 ⟨rfl, l7, st7⟩
                      have LU7 := Lib.hid l7
                      have KM7 := Lib.hid (KM6.out.step st7)
                      replace e1 := st7.cell e1 NT.out
                      have RB : Hid (r < bs.length) := Lib.hid (by rw [BL.out]; exact hrN)
                      obtain ⟨W8, hW8⟩ : ∃ W8, W8 = w7.alloc (.map #[] 0) := ⟨_, rfl⟩
                      have HB8 : Hid (Below w7.heap.size w7 W8) := Lib.hid (by rw [hW8]; exact (Below.refl _ _).alloc (Nat.le_refl _) _)
                      have HM8 : Hid (MapT pfV beV KOk W8 w7.heap.size ([] : List (Pf × BE))) := Lib.hid (by rw [hW8]; exact MapT.made w7)
                      obtain ⟨b0, l0, -, -, ⟨z0, z1⟩, -, -, -⟩ := (KM7.out.below HB8.out).at RB.out
                      have GI : Hid (rho2 g = .no ∧ BB ≤ g ∧ g < w7.heap.size) := Lib.hid ⟨(KM7.out.no g (.inl (List.mem_cons_self ..))).1, KM7.out.hi g (List.mem_cons_self ..), (KM7.out.no g (.inl (List.mem_cons_self ..))).2⟩
                      have KM9 : Hid (KnM (W8.setCell ⟨g, r, none⟩ (.map (some w7.heap.size))) rho2 BB g c 64 (bs.set r w7.heap.size) (kl.set r []) D) := Lib.hid (KM7.out.anew RB.out HB8.out HM8.out (Nat.le_refl _) (LU7.out.new (Nat.le_refl _)) (by have := GI.out; omega) rfl)
                      have LU9 : Hid (LSv w (W8.setCell ⟨g, r, none⟩ (.map (some w7.heap.size))) rho2 sb fb ls (A.join r)) := Lib.hid ((LU7.out.below HB8.out).out (G := fun k => k = g) (Kept.setCell _ _ rfl) (fun k e => by rw [e]; exact GI.out.1) (fun k e => by rw [e]; exact Nat.le_trans W3.out GI.out.2.1))
                      have BL9 : Hid ((bs.set r w7.heap.size).length = N) := Lib.hid (by rw [List.length_set]; exact BL.out)
                      have VL9 : Hid ((A.join r).V.length = N) := VL
                      have KO9 : Hid (∀ (i : Nat) l, (kl.set r [])[i]? = some l → KnOk (A.join r) i l) := Lib.hid (kn_set (P := fun i l => KnOk (A.join r) i l) (KnOk.join_self A r) fun i l hi hl => (KO.out i l hl).join hi)
                      have i0 : (0 : Int) ≤ (r : Int) := by omega
                      have i1 : (r : Int) < (N : Int) := by omega
                      subst hW8
                      have e1' := cell_below e1 HB8.out
                      clear JN l7 st7 HB8 HM8 GI RB KM7 LU7
                      go_wp2_with fail
                      exact ⟨⟨j + 1, rho2, A.join r, bs.set r w7.heap.size, kl.set r [], D, by have := JL.out; omega, by have := JL.out; omega, by go_num, LU9, VL9, BL9, KM9, KO9⟩, by have := JL.out; simp [intOf]; omega⟩
                    · have JN := Lib.hid (ls_Join_have LU6.out RK.out ht)
                      clear ht
                      go_wp2_with fail
                      refine JN.out.mono ?_
                      rintro e w7 ⟨rfl, rfl⟩
                      clear JN e1
                      go_wp2_with fail
                      exact ⟨⟨j + 1, rho2, A, bs, kl, D, by have := JL.out; omega, by have := JL.out; omega, by go_num, LU6, VL, BL, KM6, KO⟩, by have := JL.out; simp [intOf]; omega⟩
                  · by_cases K4 : x.k = 4
                    · rw [K4] at e0
                      have NWS := Lib.hid (ls_NewsO LU6.out RK.out)
                      clear K0 K1 K2 K3 RM6 MS6 e2 e3
                      go_wp2_with fail
                      refine NWS.out.mono ?_
                      rintro e w7 ⟨s7, c7, L, rfl, p7, s7p, m7, r7, l7, st7⟩
                      have ll := ownPs_len p7
                      have RB : Hid (r < bs.length) := Lib.hid (by rw [BL.out]; exact hrN)
                      obtain ⟨lr, hlr⟩ := KM6.out.len_i RB.out
                      have LU7 := Lib.hid l7
                      have KM7 : Hid (KnM w7 rho2 BB g c 64 bs (kl.set r lr) D) := Lib.hid (by rw [set_self hlr]; exact KM6.out.step st7)
                      have PS7 := Lib.hid p7
                      have ML := Lib.hid m7
                      have RL := Lib.hid r7
                      have KR := Lib.hid (KO.out r lr hlr)
                      have F7 := Lib.hid (st7.cell e1 NT.out)
                      have KV7 : Hid (∀ q, knV lr q = if q ∈ L.take 0 then A.best r q else knV lr q) := Lib.hid (fun q => by simp)
                      have BMX : Hid (∀ b, bs[r]? = some b → b < w6.heap.size) := Lib.hid (fun b hb => (KM6.out.bno hb).2.1)
                      have RH : Hid (r < (A.hush r).V.length) := RK
                      clear NWS KM6 LU6 e1 p7 s7p m7 r7 l7 st7 hlr
                      go_wp2_with fail
                      go_loopw [111] (fun t111 wr => ∃ (z : Nat) (l' : List (Pf × BE)) (D' : Nat → Prop), z ≤ L.length ∧ t111 = .int .i64 z ∧ Hid (LSv w wr rho2 sb fb ls (A.hush r)) ∧ Hid (KnM wr rho2 BB g c 64 bs (kl.set r l') D') ∧ Hid (∀ q, knV l' q = if q ∈ L.take z then A.best r q else knV lr q) ∧ Hid (OwnPs wr w6.heap.size (.slice s7 L.length c7) L) ∧ Hid (wr.cell? ⟨tb, 1, none⟩ = some (.int .i64 (r : Int)))) (fun t111 _ => L.length - (intOf t111).toNat)
                      case atStart => exact ⟨0, lr, D, by omega, rfl, LU7, KM7, KV7, PS7, F7⟩
                      case round =>
                        clear LU7 KM7 KV7 PS7 F7
                        obtain ⟨z, l', D', hz, rfl, LZ, KZ, KV, PZ, FZ⟩ := hrel
                        by_cases hzl : z < L.length
                        · obtain ⟨p, hp⟩ : ∃ p, L[z]? = some p := ⟨_, List.getElem?_eq_getElem hzl⟩
                          have RP := Lib.hid (RL.out p (List.mem_of_getElem? hp))
                          have NX : Hid (∀ b : Option BE, b.map (fun x => (x.peer, x.a)) = A.best r p → ∀ q, knV (tell1 l' p b) q = if q ∈ L.take (z + 1) then A.best r q else knV lr q) := Lib.hid (fun b hb => kn_next KV.out hp hb)
                          obtain ⟨g2, o2, d0', d1', rfl, ⟨hpc, -⟩, p0, p1⟩ := ps_pair PZ.out.at hp
                          injection hpc with q1 q2; injection q2 with q2 _; subst q1; subst q2
                          have z0 : (0 : Int) ≤ (z : Int) := by omega
                          have z1 : (z : Int) < (L.length : Int) := by omega
                          have f1 := FZ.out
                          clear hp FZ KV
                          go_upto_region 32 with (fail)
                          obtain ⟨v1, hv1, b0, b1, hb1⟩ := box2 wr (.int .u32 p.1) (.int .i64 p.2) 53
                          rw [← hv1]
                          obtain ⟨pb, hpb⟩ : ∃ pb, pb = wr.heap.size := ⟨_, rfl⟩
                          rw [← hpb] at b0 b1 ⊢
                          have LZ1 := Lib.hid (LZ.out.below hb1)
                          have KZ1 := Lib.hid (KZ.out.below hb1)
                          have PZ1 := Lib.hid (PZ.out.below hb1)
                          replace f1 := cell_below f1 hb1
                          have BS := Lib.hid (ls_Best LZ1.out (i := r) RH.out p RP.out.key)
                          clear hv1 hb1 LZ KZ PZ p0 p1 hpb
                          go_wp2_with fail
                          refine BS.out.mono ?_
                          rintro e v2 (⟨hn, rfl, hb2⟩ | ⟨pe, a, u, hn, rfl, ga, fr, hb2⟩)
                          · as_aux_lemma =>
                              have NX0 := Lib.hid (NX.out none hn.symm)
                              clear hn NX BS
                              replace b0 := cell_below b0 hb2
                              replace b1 := cell_below b1 hb2
                              replace f1 := cell_below f1 hb2
                              have LZ2 := Lib.hid (LZ1.out.below hb2)
                              have KZ2 := Lib.hid (KZ1.out.below hb2)
                              have PZ2 := Lib.hid (PZ1.out.below hb2)
                              clear hb2 LZ1 KZ1 PZ1
                              go_wp2_with ((with_reducible refine halt_at (X := .store 61 (.tmp 13) (.tmp 121)) ?_ ?_); (· rfl))
                              unfold Halt
                              refine st_fresh rfl 61 (.tmp 13) (.tmp 121) rfl rfl _ (rtC 0 (0, 0) av0) rfl sz_rt rfl (rt_one _ _ _) ?_
                              obtain ⟨v3, hv3, -, hb3, -⟩ := box1 v2 (rtC 0 (0, 0) av0) 61
                              rw [← hv3]
                              simp only [Act.put]
                              replace b0 := cell_below b0 hb3
                              replace b1 := cell_below b1 hb3
                              replace f1 := cell_below f1 hb3
                              have LZ3 := Lib.hid (LZ2.out.below hb3)
                              have KZ3 := Lib.hid (KZ2.out.below hb3)
                              have PZ3 := Lib.hid (PZ2.out.below hb3)
                              clear hv3 hb3 LZ2 KZ2 PZ2
                              obtain ⟨bm, lm, hbm, hlm, ⟨y0, -⟩, hmap, hkt, hne⟩ := KZ3.out.at RB.out
                              obtain rfl := kn_at hlm
                              obtain ⟨o1, hs1, hm1⟩ := hmap.drop pf_enc Tryz.underlying64 p RP.out.key v3.drew rfl
                              have hk1 : Kept (fun k => k = bm) v3 (ChangeMaps.setBlock v3.drew bm o1) := (Kept.refl _ v3).drew.trans (Kept.setBlock o1 rfl)
                              have bno := KZ3.out.bno hbm
                              have KZ4 : Hid (KnM (ChangeMaps.setBlock v3.drew bm o1) rho2 BB g c 64 bs (kl.set r (tell1 lm p none)) (fun k => D' k ∨ D' k)) := Lib.hid (by
                                have := KZ3.out.del hbm hlm RP.out hk1 hm1
                                rwa [set_set'] at this)
                              have LZ4 : Hid (LSv w (ChangeMaps.setBlock v3.drew bm o1) rho2 sb fb ls (A.hush r)) := Lib.hid (LZ3.out.out hk1 (fun k e => by rw [e]; exact bno.1) (fun k e => by rw [e]; exact Nat.le_trans W3.out bno.2.2))
                              have PZ4 : Hid (OwnPs (ChangeMaps.setBlock v3.drew bm o1) w6.heap.size (.slice (some ⟨g2, o2, none⟩) L.length c7) L) := Lib.hid (PZ3.out.kept hk1 fun k hk e => by
                                have h1 := own_form_le PZ3.out.1 k hk
                                have h2 := BMX.out bm hbm
                                omega)
                              have FZ4 : Hid ((ChangeMaps.setBlock v3.drew bm o1).cell? ⟨tb, 1, none⟩ = some (.int .i64 (r : Int))) := Lib.hid (hk1.cell f1 (fun e => TG.out.2.1 (List.mem_cons_of_mem _ (by have e : tb = bm := e; rw [e]; exact List.mem_of_getElem? hbm))))
                              have i0 : (0 : Int) ≤ (r : Int) := by omega
                              have i1 : (r : Int) < (N : Int) := by omega
                              have ZL := Lib.hid hzl
                              clear hmap hkt hne hm1 hk1 bno KZ3 LZ3 PZ3 hbm hlm
                              go_upto_region 35 with (fail)
                              refine region_tailR 6 (by kernel_rfl) (by kernel_rfl) ?_
                              simp only [List.take_succ_cons, List.take_zero, List.drop_succ_cons, List.drop_zero]
                              repeat still_step
                              refine wpStill_nil ?_
                              go_wp2_with fail
                              exact ⟨⟨z + 1, _, _, by have := ZL.out; omega, by go_num, LZ4, KZ4, NX0, PZ4, FZ4⟩, by have := ZL.out; simp [intOf]; omega⟩
                          · as_aux_lemma =>
                              have NX0 := Lib.hid (NX.out (some ⟨pe, p, a, u⟩) hn.symm)
                              clear hn NX BS
                              replace b0 := cell_below b0 hb2
                              replace b1 := cell_below b1 hb2
                              replace f1 := cell_below f1 hb2
                              have FR := Lib.hid (fr.imp fun _ h => h.at)
                              have B12 := Lib.hid hb2
                              have PZ2 := Lib.hid (PZ1.out.below hb2)
                              clear fr hb2 ga PZ1
                              go_wp2_with ((with_reducible refine halt_at (X := .store 61 (.tmp 13) (.tmp 121)) ?_ ?_); (· rfl))
                              unfold Halt
                              refine st_fresh rfl 61 (.tmp 13) (.tmp 121) rfl rfl _ (rtC pe p u) rfl sz_rt rfl (rt_one _ _ _) ?_
                              obtain ⟨v3, hv3, q3, hb3, -⟩ := box1 v2 (rtC pe p u) 61
                              rw [← hv3]
                              obtain ⟨qb, hqb⟩ : ∃ qb, qb = v2.heap.size := ⟨_, rfl⟩
                              rw [← hqb] at q3 ⊢
                              simp only [Act.put]
                              replace b0 := cell_below b0 hb3
                              replace b1 := cell_below b1 hb3
                              replace f1 := cell_below f1 hb3
                              have Q3 := Lib.hid q3
                              have B13 := Lib.hid (below_on B12.out hb3)
                              have LZ3 := Lib.hid (LZ1.out.below B13.out)
                              have KZ3 := Lib.hid (KZ1.out.below B13.out)
                              have PZ3 := Lib.hid (PZ2.out.below hb3)
                              have FR3 := Lib.hid (FR.out.below hb3)
                              clear hv3 hb3 PZ2 q3 FR B12 hqb
                              obtain ⟨bm, lm, hbm, hlm, ⟨y0, -⟩, hmap, hkt, hne⟩ := KZ3.out.at RB.out
                              obtain rfl := kn_at hlm
                              obtain ⟨o1, hs1, hm1⟩ := hmap.store pf_enc Tryz.underlying64 p RP.out.key ⟨pe, p, a, u⟩ (rgt_short hkt.apart hkt.rgt) v3.drew rfl
                              have hk1 : Kept (fun k => k = bm) v3 (ChangeMaps.setBlock v3.drew bm o1) := (Kept.refl _ v3).drew.trans (Kept.setBlock o1 rfl)
                              have bno := KZ3.out.bno hbm
                              have KZ4 : Hid (KnM (ChangeMaps.setBlock v3.drew bm o1) rho2 BB g c 64 bs (kl.set r (tell1 lm p (some ⟨pe, p, a, u⟩))) (fun k => D' k ∨ (D' k ∨ (v1.heap.size ≤ k ∧ k < v3.heap.size)))) := Lib.hid (by
                                have := KZ1.out.put (y := ⟨pe, p, a, u⟩) hbm hlm RP.out rfl B13.out FR3.out (fun k hk => LZ1.out.new hk) hk1 hm1
                                rwa [set_set'] at this)
                              have LZ4 : Hid (LSv w (ChangeMaps.setBlock v3.drew bm o1) rho2 sb fb ls (A.hush r)) := Lib.hid (LZ3.out.out hk1 (fun k e => by rw [e]; exact bno.1) (fun k e => by rw [e]; exact Nat.le_trans W3.out bno.2.2))
                              have PZ4 : Hid (OwnPs (ChangeMaps.setBlock v3.drew bm o1) w6.heap.size (.slice (some ⟨g2, o2, none⟩) L.length c7) L) := Lib.hid (PZ3.out.kept hk1 fun k hk e => by
                                have h1 := own_form_le PZ3.out.1 k hk
                                have h2 := BMX.out bm hbm
                                omega)
                              have FZ4 : Hid ((ChangeMaps.setBlock v3.drew bm o1).cell? ⟨tb, 1, none⟩ = some (.int .i64 (r : Int))) := Lib.hid (hk1.cell f1 (fun e => TG.out.2.1 (List.mem_cons_of_mem _ (by have e : tb = bm := e; rw [e]; exact List.mem_of_getElem? hbm))))
                              have i0 : (0 : Int) ≤ (r : Int) := by omega
                              have i1 : (r : Int) < (N : Int) := by omega
                              have ZL := Lib.hid hzl
                              clear hmap hkt hne hm1 hk1 bno KZ3 LZ3 PZ3 hbm hlm KZ1 LZ1 FR3
                              go_upto_region 34 with (fail)
                              refine region_tailR 7 (by kernel_rfl) (by kernel_rfl) ?_
                              simp only [List.take_succ_cons, List.take_zero, List.drop_succ_cons, List.drop_zero]
                              repeat still_step
                              refine still_ld (by rfl) (exec_ld 61 (.tmp 13) rfl qb rfl 61 (rtC pe p u) (0, 0) _ (show v3.drew.heap[qb]? = _ from Q3.out) Tryz.underlying61 rfl sz_rt) ?_
                              refine wpStill_nil ?_
                              go_wp2_with fail
                              exact ⟨⟨z + 1, _, _, by have := ZL.out; omega, by go_num, LZ4, KZ4, NX0, PZ4, FZ4⟩, by have := ZL.out; simp [intOf]; omega⟩
                        · obtain rfl : z = L.length := by omega
                          have KV2 : Hid (∀ q, knV l' q = if q ∈ L then A.best r q else knV lr q) := Lib.hid (fun q => by have := KV.out q; rwa [List.take_length] at this)
                          have f1 := FZ.out
                          obtain ⟨th, hth⟩ : ∃ th, A.th r = th := ⟨_, rfl⟩
                          have TH : Hid (Calls Tryz.prog 28 #[.pointer (some ⟨sb, 0, none⟩), .int .i64 (r : Int)] wr fun e w' => e = .returned (.bool th) ∧ wr = w') := Lib.hid (by rw [← hth]; exact ls_There LZ.out (i := r) RH.out)
                          have HT := Lib.hid hth
                          have KO2 : Hid (KnOk (A.hush r) r l') := Lib.hid (KR.out.told ML.out KV2.out)
                          have KS2 : Hid (∀ (i : Nat) l, (kl.set r l')[i]? = some l → KnOk (A.hush r) i l) := Lib.hid (kn_set (P := fun i l => KnOk (A.hush r) i l) KO2.out fun i l hi hl => (KO.out i l hl).hush hi)
                          clear KV FZ hz hzl hth
                          go_wp2_with fail
                          refine TH.out.mono ?_
                          rintro e v5 ⟨rfl, rfl⟩
                          clear TH
                          rcases th with _ | _
                          · clear f1
                            go_wp2_with fail
                            exact ⟨⟨j + 1, rho2, A.hush r, bs, kl.set r l', D', by have := JL.out; omega, by have := JL.out; omega, by go_num, LZ, VL, BL, KZ, KS2⟩, by have := JL.out; simp [intOf]; omega⟩
                          · have KA : Hid (∀ q, knV l' q = (A.hush r).best r q) := Lib.hid (KO2.out.all HT.out (fun q => congrFun (setF_same _ _ _) q))
                            have BT := Lib.hid (ls_Bests LZ.out (i := r) RH.out)
                            go_wp2_with fail
                            refine BT.out.mono ?_
                            rintro e v6 ⟨s8, c8, LB, AB, rfl, ob, sbp, vb, ab, hb6⟩
                            have LZ6 := Lib.hid (LZ.out.below hb6)
                            have KZ6 := Lib.hid (KZ.out.below hb6)
                            replace f1 := cell_below f1 hb6
                            obtain ⟨bm, lm, hbm, hlm, ⟨y0, -⟩, hmap, hkt, -⟩ := KZ6.out.at RB.out
                            obtain rfl := kn_at hlm
                            have EL : Hid (lm.length = LB.length) := Lib.hid (kn_len hkt KA.out sbp (fun x hx => (vb x hx).1) ab)
                            have SM : Hid (∀ x ∈ LB, ∃ y, getL lm x.p = some y ∧ sameBE y x = true ∧ (x.p, y) ∈ lm) := Lib.hid (fun x hx => kn_same hkt KA.out (vb x hx).1)
                            have KP : Hid (∀ x ∈ LB, KOk x.p) := Lib.hid (fun x hx => (vb x hx).2.1.key)
                            have OB : Hid (On (fun k => rho2 k = .no) v6 (fun W => SlAt W 13 (fun x cs => cs = beL x) (.slice s8 LB.length c8) LB ∧ ∀ x ∈ LB, AvAt W x.a x.v)) := Lib.hid (((ob.fresh beL_len).imp (fun _ h => ⟨h.1, fun x hx => (h.2 x hx).at⟩)).wide fun k hk _ => LZ.out.new hk)
                            have hln := fun ty => hmap.len Tryz.underlying64 ty v6 rfl
                            have dl : ((LB.length : Int) != (lm.length : Int)) = false := by rw [EL.out]; simp
                            have lbl : LB.length ≤ 9223372036854775807 := by
                              obtain ⟨sa, cap, -, g1, g2, -⟩ := OB.out.self.1
                              exact Nat.le_trans g1 g2
                            have i0 : (0 : Int) ≤ (r : Int) := by omega
                            have i1 : (r : Int) < (N : Int) := by omega
                            have NW2 := Lib.hid (ls_NewsO LZ6.out (i := r) RH.out)
                            clear ob sbp vb ab hb6 hmap hkt hbm hlm BT LZ KZ EL PZ ML RL KR KV2
                            go_wp2_with fail
                            refine NW2.out.mono ?_
                            rintro e v7 ⟨s9, c9, L9, rfl, -, -, m9, -, l9, st9⟩
                            have e9 : L9 = [] := List.eq_nil_iff_forall_not_mem.2 fun q hq => by
                              have h1 := (m9 q).1 hq
                              have h2 : (A.hush r).nw r q = false := congrFun (setF_same _ _ _) q
                              rw [h2] at h1; cases h1
                            subst e9
                            have LZ7 := Lib.hid l9
                            have KZ7 := Lib.hid (KZ6.out.step st9)
                            have OB7 := Lib.hid (st9.free OB.out)
                            replace f1 := st9.cell f1 NT.out
                            clear l9 st9 m9 NW2 hln dl y0 OB LZ6 KZ6
                            obtain ⟨bn, ln, hbn, hln2, ⟨u0, -⟩, hmap7, -, -⟩ := KZ7.out.at RB.out
                            obtain rfl := kn_at hln2
                            have AVM : Hid (∀ y ∈ ln, AvAt v7 y.2.a y.2.v) := Lib.hid (KZ7.out.val.self ln (List.mem_of_getElem? hln2))
                            have LK : Hid (∀ w', Below v7.heap.size v7 w' → ∀ x ∈ LB, (Instr.lookup 64 (.map (some bn)) (pfV x.p) true).run Tryz.prog w' = .ok (.tuple #[((getL ln x.p).map beV).getD (.agg (rtC 0 (0, 0) av0)), .bool (getL ln x.p).isSome]) w') := Lib.hid (fun w' hb x hx => hmap7.look pf_enc Tryz.underlying64 x.p (KP.out x hx) zero_rt w' (hb.block _ hmap7.lt) true)
                            have F1 := Lib.hid f1
                            have U0 := Lib.hid u0
                            clear hbn hln2 hmap7 f1 u0
                            go_wp2_with fail
                            go_loopw [166] (fun t166 wr => ∃ y : Nat, y ≤ LB.length ∧ t166 = .int .i64 y ∧ Hid (Below v7.heap.size v7 wr)) (fun t166 _ => LB.length - (intOf t166).toNat)
                            case atStart => exact ⟨0, by omega, rfl, Lib.hid (Below.refl _ _)⟩
                            case round =>
                              obtain ⟨y, hy, rfl, BQ⟩ := hrel
                              by_cases hyl : y < LB.length
                              · as_aux_lemma =>
                                  obtain ⟨x, hx⟩ : ∃ x, LB[y]? = some x := ⟨_, List.getElem?_eq_getElem hyl⟩
                                  have hxm := List.mem_of_getElem? hx
                                  obtain ⟨t, ht1, ht2, ht3⟩ := SM.out x hxm
                                  have HT2 := Lib.hid ht2
                                  have LKx : Hid (∀ w', Below v7.heap.size v7 w' → (Instr.lookup 64 (.map (some bn)) (pfV x.p) true).run Tryz.prog w' = .ok (.tuple #[.agg (rtC t.peer t.p t.v), .bool true]) w') := Lib.hid (fun w' hb => by have := LK.out w' hb x hxm; rw [ht1] at this; exact this)
                                  obtain ⟨g3, o3, rfl, hrg⟩ := be_at (SlAt.below OB7.out.self.1 BQ.out fun _ _ h => h) hx
                                  have RG := Lib.hid hrg
                                  have AX := Lib.hid ((OB7.out.self.2 x hxm).below BQ.out)
                                  have AT := Lib.hid ((AVM.out (x.p, t) ht3).below BQ.out)
                                  have y0 : (0 : Int) ≤ (y : Int) := by omega
                                  have y1 : (y : Int) < (LB.length : Int) := by omega
                                  have f2 := cell_below F1.out BQ.out
                                  have u1 := cell_below U0.out BQ.out
                                  clear hx hrg hxm ht1 ht2 ht3 LK KO KP KA SM
                                  go_wp2_with ((with_reducible refine halt_at (X := .load 61 (.tmp 168)) ?_ ?_); (· rfl))
                                  unfold Halt
                                  refine ldm_at (by rfl) 61 (.tmp 168) rfl g3 (o3 + y * 13) rfl (beL x) _ RG.out Tryz.underlying61 rfl sz_rt ?_
                                  go_wp2_with ((with_reducible refine halt_at (X := .store 61 (.tmp 17) (.tmp 169)) ?_ ?_); (· rfl))
                                  unfold Halt
                                  refine st_fresh rfl 61 (.tmp 17) (.tmp 169) rfl rfl _ (rtC x.peer x.p x.v) rfl sz_rt rfl (rt_one _ _ _) ?_
                                  obtain ⟨v8, hv8, q8, hb8, -⟩ := box1 wr (rtC x.peer x.p x.v) 61
                                  rw [← hv8]
                                  obtain ⟨xb, hxb⟩ : ∃ xb, xb = wr.heap.size := ⟨_, rfl⟩
                                  rw [← hxb] at q8 ⊢
                                  have c1 : v8.cell? ⟨xb, 1, none⟩ = some (.int .u32 x.p.1) := row_cell q8 1
                                  have c2 : v8.cell? ⟨xb, 2, none⟩ = some (.int .i64 x.p.2) := row_cell q8 2
                                  replace f2 := cell_below f2 hb8
                                  replace u1 := cell_below u1 hb8
                                  have B8 := Lib.hid (below_on BQ.out hb8)
                                  have Q8 := Lib.hid q8
                                  have AX8 := Lib.hid (AX.out.below hb8)
                                  have AT8 := Lib.hid (AT.out.below hb8)
                                  have LK8 : Hid (∀ w', Below v8.heap.size v8 w' → (Instr.lookup 64 (.map (some bn)) (pfV x.p) true).run Tryz.prog w' = .ok (.tuple #[.agg (rtC t.peer t.p t.v), .bool true]) w') := Lib.hid (fun w' hb => LKx.out w' (below_on B8.out hb))
                                  clear hv8 q8 hb8 hxb LKx BQ RG AX AT
                                  simp only [Act.put]
                                  go_upto_region 44 with (fail)
                                  go_cut [18, 19] from 170 to 180 (fun s18 s19 wx => ∃ b9 : Nat, s18 = .pointer (some ⟨b9, 0, none⟩) ∧ s19 = .bool true ∧ Hid (Below v8.heap.size v8 wx ∧ wx.heap[b9]? = some (.cells (rtC t.peer t.p t.v) 61 (0, 0))))
                                  case first =>
                                    refine wp_region_held_drew (S := fun w' => Below v8.heap.size v8 w') (by kernel_rfl) ?_ (fun hHeld => ?_)
                                    · exact (Below.refl _ _).drew
                                    generalize World.drew v8 = wd at hHeld ⊢
                                    refine rgy (i := 0) (v := ?_) (atN rfl) (by kernel_rfl) (fun _ _ _ h => h) ?_ ?_ hHeld ?_; rotate_left 1; (· rfl); (· intro w' hSw; (try clear hHeld); go_simp; try with_reducible rfl)
                                    try simp only [Act.put, List.setIfInBounds_toArray, List.set_cons_zero, List.set_cons_succ]
                                    refine rgy (i := 1) (v := ?_) (atN rfl) (by kernel_rfl) (fun _ _ _ h => h) ?_ ?_ hHeld ?_; rotate_left 1; (· rfl); (· intro w' hSw; (try clear hHeld); go_simp; try with_reducible rfl)
                                    try simp only [Act.put, List.setIfInBounds_toArray, List.set_cons_zero, List.set_cons_succ]
                                    refine rgy (i := 2) (v := ?_) (atN rfl) (by kernel_rfl) (fun _ _ _ h => h) ?_ ?_ hHeld ?_; rotate_left 1; (· rfl); (· intro w' hSw; have f2 := cell_below f2 hSw; have u1 := cell_below u1 hSw; have c1 := cell_below c1 hSw; have c2 := cell_below c2 hSw; (try clear hHeld); go_simp; try with_reducible rfl)
                                    try simp only [Act.put, List.setIfInBounds_toArray, List.set_cons_zero, List.set_cons_succ]
                                    refine rgy (i := 3) (v := ?_) (atN rfl) (by kernel_rfl) (fun _ _ _ h => h) ?_ ?_ hHeld ?_; rotate_left 1; (· rfl); (· intro w' hSw; have f2 := cell_below f2 hSw; have u1 := cell_below u1 hSw; have c1 := cell_below c1 hSw; have c2 := cell_below c2 hSw; (try clear hHeld); go_simp; try with_reducible rfl)
                                    try simp only [Act.put, List.setIfInBounds_toArray, List.set_cons_zero, List.set_cons_succ]
                                    refine rgy (i := 4) (v := ?_) (atN rfl) (by kernel_rfl) (fun _ _ _ h => h) ?_ ?_ hHeld ?_; rotate_left 1; (· rfl); (· intro w' hSw; have f2 := cell_below f2 hSw; have u1 := cell_below u1 hSw; have c1 := cell_below c1 hSw; have c2 := cell_below c2 hSw; (try clear hHeld); go_simp; try with_reducible rfl)
                                    try simp only [Act.put, List.setIfInBounds_toArray, List.set_cons_zero, List.set_cons_succ]
                                    refine rgy (i := 5) (v := ?_) (atN rfl) (by kernel_rfl) (fun _ _ _ h => h) ?_ ?_ hHeld ?_; rotate_left 1; (· rfl); (· intro w' hSw; (try clear hHeld); go_simp; try with_reducible rfl)
                                    try simp only [Act.put, List.setIfInBounds_toArray, List.set_cons_zero, List.set_cons_succ]
                                    refine rgy (i := 6) (v := ?_) (atN rfl) (by kernel_rfl) (fun _ _ _ h => h) ?_ ?_ hHeld ?_; rotate_left 1; (· rfl); (· intro w' hSw; have f2 := cell_below f2 hSw; have u1 := cell_below u1 hSw; have c1 := cell_below c1 hSw; have c2 := cell_below c2 hSw; (try clear hHeld); go_simp; try with_reducible rfl)
                                    try simp only [Act.put, List.setIfInBounds_toArray, List.set_cons_zero, List.set_cons_succ]
                                    refine rgy (i := 7) (v := ?_) (atN rfl) (by kernel_rfl) (fun _ _ _ h => h) ?_ ?_ hHeld ?_; rotate_left 1; (· rfl); (· intro w' hSw; have lk := LK8.out w' hSw; (try clear hHeld); go_simp; try with_reducible rfl)
                                    try simp only [Act.put, List.setIfInBounds_toArray, List.set_cons_zero, List.set_cons_succ]
                                    refine rgy (i := 8) (v := ?_) (atN rfl) (by kernel_rfl) (fun _ _ _ h => h) ?_ ?_ hHeld ?_; rotate_left 1; (· rfl); (· intro w' hSw; (try clear hHeld); go_simp; try with_reducible rfl)
                                    try simp only [Act.put, List.setIfInBounds_toArray, List.set_cons_zero, List.set_cons_succ]
                                    refine rgy (i := 9) (v := ?_) (atN rfl) (by kernel_rfl) (fun _ _ _ h => h) ?_ ?_ hHeld ?_; rotate_left 1; (· rfl); (· intro w' hSw; (try clear hHeld); go_simp; try with_reducible rfl)
                                    try simp only [Act.put, List.setIfInBounds_toArray, List.set_cons_zero, List.set_cons_succ]
                                    refine rgy (i := 10) (v := ?_) (atN rfl) (by kernel_rfl) (fun _ _ _ h => h) ?_ ?_ hHeld ?_; rotate_left 1; (· rfl); (· intro w' hSw; (try clear hHeld); go_simp; try with_reducible rfl)
                                    try simp only [Act.put, List.setIfInBounds_toArray, List.set_cons_zero, List.set_cons_succ]
                                    refine rg_call (i := 11) (atN rfl) (by kernel_rfl) ?_ (fun K hK => ?_); (· rfl); (try clear hb); go_simp; refine box_zrt (p := K _) ?_; intro w1 hz hb1; have hgs := hHeld.size; refine hK.out _ _ ?_ (fun hHeld => ?_); (· exact below_on hHeld hb1); clear hK K
                                    try simp only [Act.put, List.setIfInBounds_toArray, List.set_cons_zero, List.set_cons_succ]
                                    refine rg_call (i := 12) (atN rfl) (by kernel_rfl) ?_ (fun K hK => ?_); (· rfl); (try clear hb); refine wp_store_rowat 61 (.tmp 18) (.tmp 179) rfl _ rfl 61 (rtC 0 (0, 0) av0) _ rfl hz (by kernel_rfl) rfl (rt_one _ _ _) ?_; refine setRow_k hz (p := K _) ?_; intro w2 hr hk2; refine hK.out _ _ ?_ (fun hHeld => ?_); (· exact hHeld.trans (hk2.below hHeld.size (by rintro k rfl; exact hgs))); clear hK K
                                    try simp only [Act.put]
                                    refine rgy (i := 13) (v := ?_) (atN rfl) (by kernel_rfl) (fun _ _ _ h => h) ?_ ?_ hHeld ?_; rotate_left 1; (· rfl); (· intro w' hSw; (try clear hHeld); go_simp; try with_reducible rfl)
                                    try simp only [Act.put, List.setIfInBounds_toArray, List.set_cons_zero, List.set_cons_succ]
                                    refine wpAnyH_done (by kernel_rfl) ?_ _
                                    go_wp2_with fail
                                    go_meet
                                    exact ⟨_, rfl, rfl, Lib.hid ⟨hHeld, hr⟩⟩
                                  case rest =>
                                    obtain ⟨b9, rfl, rfl, HH⟩ := hcut
                                    obtain ⟨v9, hv9⟩ : ∃ v9 : World, v9 = wc := ⟨_, rfl⟩
                                    rw [← hv9] at HH ⊢
                                    have Q9 := Lib.hid HH.out.2
                                    have Q89 := Lib.hid ((HH.out.1.block _ (row_lt Q8.out)).trans Q8.out)
                                    have SA := Lib.hid (l_same14 t x v9 (AT8.out.below HH.out.1) (AX8.out.below HH.out.1))
                                    have B9 := Lib.hid (below_on B8.out HH.out.1)
                                    rw [HT2.out] at SA
                                    clear hv9 HH f2 u1 c1 c2 B8 Q8 AX8 AT8 LK8 HT2
                                    go_wp2_with ((with_reducible refine halt_at (X := .load 61 (.tmp 18)) ?_ ?_); (· rfl))
                                    unfold Halt
                                    refine ld_at (by rfl) 61 (.tmp 18) rfl b9 rfl 61 (rtC t.peer t.p t.v) (0, 0) _ Q9.out Tryz.underlying61 rfl sz_rt ?_
                                    go_wp2_with ((with_reducible refine halt_at (X := .load 61 (.tmp 17)) ?_ ?_); (· rfl))
                                    unfold Halt
                                    refine ld_at (by rfl) 61 (.tmp 17) rfl xb rfl 61 (rtC x.peer x.p x.v) (0, 0) _ Q89.out Tryz.underlying61 rfl sz_rt ?_
                                    go_wp2_with fail
                                    refine SA.out.mono ?_
                                    rintro e v10 ⟨rfl, hb10⟩
                                    have BQ2 := Lib.hid (below_on B9.out hb10)
                                    clear hb10 SA B9 Q9 Q89
                                    go_wp2_with fail
                                    exact ⟨⟨y + 1, by omega, by go_num, BQ2⟩, by simp [intOf]; omega⟩
                              · obtain rfl : y = LB.length := by omega
                                have LZ8 := Lib.hid (LZ7.out.below BQ.out)
                                have KZ8 := Lib.hid (KZ7.out.below BQ.out)
                                have KS8 : Hid (∀ (i : Nat) l, (kl.set r ln)[i]? = some l → KnOk ((A.hush r).hush r) i l) := Lib.hid (kn_set (P := fun i l => KnOk ((A.hush r).hush r) i l) (fun _ q _ => KA.out q) fun i l hi hl => ((KO.out i l hl).hush hi).hush hi)
                                clear BQ hy hyl LZ7 KZ7
                                go_wp2_with fail
                                exact ⟨⟨j + 1, rho2, (A.hush r).hush r, bs, kl.set r ln, D', by have := JL.out; omega, by have := JL.out; omega, by go_num, LZ8, VL, BL, KZ8, KS8⟩, by have := JL.out; simp [intOf]; omega⟩
                    · have n0 : (x.k == 0) = false := by simpa using K0
                      have n1 : (x.k == 1) = false := by simpa using K1
                      have n2 : (x.k == 2) = false := by simpa using K2
                      have n3 : (x.k == 3) = false := by simpa using K3
                      have n4 : (x.k == 4) = false := by simpa using K4
                      clear RM6 MS6 e1 e2 e3
                      go_wp2_with fail
                      exact ⟨⟨j + 1, rho2, A, bs, kl, D, by have := JL.out; omega, by have := JL.out; omega, by go_num, LU6, VL, BL, KM6, KO⟩, by have := JL.out; simp [intOf]; omega⟩
          · clear hbg d0 d1 d2 d3 RM5 FZ5
            go_wp2_with fail
            exact ⟨⟨j + 1, rho2, A, bs, kl, D, by have := JL.out; omega, by have := JL.out; omega, by go_num, LU5, VL, BL, KM5, KO⟩, by have := JL.out; simp [intOf]; omega⟩
        · have F0 := Lib.hid LU.out.bel
          clear LU VL BL KM KO
          by_cases hj1 : j < xs.length
          · have hj2 : ¬ j < 50 := fun h => hjl ⟨hj1, h⟩
            have j1 : decide ((j : Int) < (xs.length : Int)) = true := by simp; omega
            have j2 : decide ((j : Int) < 50) = false := by simp; omega
            have j3 : decide (j < 50) = false := by simp; omega
            have j4 : decide (j < xs.length) = true := by simp; omega
            clear hj1 hj2 hjl
            go_wp2_with fail
            go_ret
            exact ⟨rfl, F0.out⟩
          · have j1 : decide ((j : Int) < (xs.length : Int)) = false := by simp; omega
            have j4 : decide (j < xs.length) = false := by simp; omega
            clear hj1 hjl
            go_wp2_with fail
            go_ret
            exact ⟨rfl, F0.out⟩
namespace serverTells
open Go.ChangeShapes Go.WideShapes Go.ChangeAt Go.RowKit
set_option linter.unusedVariables false
set_option maxRecDepth 100000 in
theorem lifted (os : Os) (started : os.Started) (H : Type) (enc : TypeId × Value → H) :
    ReturnsInHanded {} Tryz.checked os 5 .any (Rows.serverTellsSpec.pre6 enc Tryz.prog Tryz.f5 Rows.serverTellsRow.domain false) (Rows.serverTellsSpec.post enc Tryz.prog Tryz.f5 false true false false) := by
  refine returnsInHanded_of_change_sized (C := Tryz.checked) fr_own started (by kernel_rfl) Tryz.func5
    (ChangeSpec.witness6 (enc := enc) (C := Tryz.checked) false ⟨#[], #[.int .i64 0, .slice none 0 0], []⟩ 8 (by kernel_rfl) (by kernel_rfl) (by kernel_rfl) (by kernel_rfl)) ?_
  intro W base args ds gs before hval0 hW hcnd hsz0 _
  have hval : ∀ (j : Nat) t v, Tryz.f5.params[j]? = some t → args[j]? = some v → Value.okWide Tryz.prog W .any base t v := hval0
  have hW' := hW
  obtain ⟨p, q, hA0, hV, rfl, hfz, hnd⟩ := hW
  have hA : DataW.TrodAll enc Tryz.prog W 0 (fun _ => true) true Tryz.f5.params.toList args.toList ds p := hA0
  rw [Tryz.params5] at hA hval
  obtain ⟨v0, vs0, d0, ds0, p0, q0, hargs, rfl, rfl, h0, r0⟩ := trodAll_cons hA
  obtain ⟨v1, vs1, d1, ds1, p1, q1, rfl, rfl, rfl, h1, r1⟩ := trodAll_cons r0
  obtain ⟨rfl, rfl, rfl⟩ := trodAll_nil r1
  obtain rfl : args = #[v0, v1] := by cases args; simp_all
  obtain ⟨rfl, rfl⟩ := trodVars_none hV
  have lt0 : ∀ x ∈ p0, x.block < W.heap.size := by obtain ⟨m, hm⟩ := h0; exact DataW.trod_lt m _ _ _ hm
  have lt1 : ∀ x ∈ p1, x.block < W.heap.size := by obtain ⟨m, hm⟩ := h1; exact DataW.trod_lt m _ _ _ hm
  have hsz : (DataW.weightsEach Tryz.prog [3, 22] [d0, d1]).all (· ≤ reachBytes) = true := hsz0
  obtain ⟨n, rfl, nl, nh⟩ := open_i64 (hval 0 3 v0 rfl rfl)
  obtain ⟨xs, hxs, hxz⟩ := open_steps_sz (hval 1 22 v1 rfl rfl) h1 (sz_of hsz (j := 1) rfl rfl)
  clear hA0 hval0 hsz0 hsz
  refine (law_ServerTells n v1 xs W hxs hxz).mono fun e W' ⟨he, bel⟩ => ?_
  subst he
  exact ⟨_, rfl, _, _, _, [], _, [], hW', trodAll_mk1 (shut_bool Tryz.underlying4 _), (trodAll_cons_mk (Below.trod fr_laidOut (by kernel_rfl) (of_decide_eq_true (by kernel_rfl)) h0 bel lt0) (trodAll_cons_mk (Below.trod fr_laidOut (by kernel_rfl) (of_decide_eq_true (by kernel_rfl)) h1 bel lt1) trodAll_mk0)), rfl, bel.frame _, fun h => by cases h⟩
theorem over : Rows.serverTellsRow.holds Tryz.pinned (OpenSpec.ofChange Rows.serverTellsSpec) :=
  OpenClaim.holds_of_wide 5 Tryz.f5 rfl rfl rfl rfl rfl rfl rfl ⟨rfl, rfl, rfl, rfl, rfl⟩ rfl rfl rfl rfl rfl (by kernel_rfl) Tryz.func5 (by kernel_rfl)
    (of_decide_eq_true (by kernel_rfl)) (by unfold Func.isWrapper; first | (rw [if_pos (by decide +kernel)]; kernel_rfl) | (rw [if_neg (by decide +kernel)]; exact ⟨rfl, rfl⟩))
    (fun os started H enc _ => lifted os started H enc)
/-- THE STATEMENT ServerTells. -/
theorem proved : Rows.ServerTellsSaid := over
#print axioms proved
end serverTells
end Go.Proofs.YtkoidahgbbabiaaGreat
