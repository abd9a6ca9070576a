/- Texts of one proof, one behind another. -/
import Derived.Test.YtohkbcdnlmjcjaaDoorWr13
/-
  ATTRIBUTES: take, of the kind 1. (printed by maketake.py)
-/
namespace Go.Proofs.YtohkbcdnlmjcjaaDoor
open Go.RowKit
set_option maxHeartbeats 6400000 in
set_option maxRecDepth 100000 in
theorem take_1 (lo ab : Nat) (P : Nat → Prop) (a : At) (vp vc vo va v : Value) (us : List OthV) (hd : Nat) (al xs : List Nat) (w : World) (h : DA w lo ab P a vp vc vo us) (hT : Tabs w) (h0 : al[0]? = some hd) (h1 : al[1]? = some 1)
    (hA : ∀ W, Kept (fun k => k = ab) w W → BytesAt W va al) (hB : ∀ W, Kept (fun k => k = ab) w W → BytesAt W v xs) :
    Calls Tryd.prog 43 #[.pointer (some ⟨ab, 0, none⟩), va, v] w (TkPost ab lo P (takeP a hd 1 xs) vo us w) := by
  have H := Lib.hid h
  have HA := Lib.hid hA
  have HB := Lib.hid hB
  have LA := Lib.hid (show 0 < al.length by have := (List.getElem?_eq_some_iff.1 h0).1; omega)
  obtain ⟨b, off, cap, rfl, b0, hd2⟩ := byte_cells (hA w (Kept.refl _ _)) h0
  obtain ⟨b', off', cap', e1, b1, -⟩ := byte_cells (hA w (Kept.refl _ _)) h1
  injection e1 with e1 _ e3
  injection e1 with e1
  injection e1 with e1 e2 _
  subst e1; subst e2; subst e3
  obtain ⟨sv, cv, rfl, -⟩ := hB w (Kept.refl _ _)
  have a1 : (1 : Int) < (al.length : Int) := by have := (List.getElem?_eq_some_iff.1 h1).1; omega
  have a0 : (0 : Int) < (al.length : Int) := by omega
  obtain ⟨hs, hhs⟩ : ∃ hs, bits .and .i64 (hd : Int) 192 = hs := ⟨_, rfl⟩
  obtain ⟨pt, hpt⟩ : ∃ pt, bits .and .u8 (hd : Int) 32 = pt := ⟨_, rfl⟩
  have FB : Hid (flgBad hd 1 = ((hs != 64) || ((pt != 0) && (hs != 192)))) := Lib.hid (by rw [← hhs, ← hpt]; rfl)
  have t1 := hT.flag 1 (by decide)
  have t2 := hT.size 1 (by decide)
  clear h hA hB h0 h1 hT
  go_enter Tryd.func43, Tryd.ntmps43
  go_upto_region 1 with (fail)
  obtain ⟨W0, hW0, qf, hb0, -⟩ := box1 w fltZ 54
  rw [← hW0]
  clear hW0
  have QF := Lib.hid qf
  have B0 := Lib.hid hb0
  have K0 := Lib.hid (Kept.of_below (F := fun k => k = ab) hb0)
  have D0 := Lib.hid (H.out.below hb0)
  have LT := Lib.hid (row_lt H.out.row)
  have c0 : W0.cell? ⟨b, off, none⟩ = some (.int .u8 hd) := cell_below b0 hb0
  have c1 : W0.cell? ⟨b, off + 1, none⟩ = some (.int .u8 1) := cell_below b1 hb0
  have t1 : W0.cell? ⟨0, 1, none⟩ = some (.int .i64 64) := cell_below t1 hb0
  have t2 : W0.cell? ⟨1, 1, none⟩ = some (.int .i64 1) := cell_below t2 hb0
  have g0 : (0 : Int) ≤ (hd : Int) := by omega
  have g1 : (hd : Int) ≤ 255 := by omega
  have CVA := Lib.hid (fun W (hk : Kept (fun k => k = ab) w W) => conv_at (HA.out W hk) LA.out)
  obtain ⟨st, CV⟩ := CVA.out W0 K0.out
  clear qf hb0 b0 b1 hd2
  go_upto_region 3 with (fail)
  go_cut [33] (fun s wx => s = .bool (flgBad hd 1) ∧ W0 = wx)
  case first =>
    clear t2 CV
    by_cases h1 : hs = 64
    · have x1 : (hs != 64) = false := by simp [h1]
      subst h1
      by_cases h2 : pt = 0
      · have E : Hid (flgBad hd 1 = false) := Lib.hid (by rw [FB.out, h2]; rfl)
        subst h2
        go_wp2_with fail
        go_meet
        exact ⟨by rw [E.out], rfl⟩
      · have x2 : (pt != 0) = true := by simpa using h2
        have E : Hid (flgBad hd 1 = ((64 : Int) != 192)) := Lib.hid (by rw [FB.out, x2]; rfl)
        go_wp2_with fail
        go_meet
        exact ⟨by rw [E.out]; rfl, rfl⟩
    · have x1 : (hs != 64) = true := by simpa using h1
      have E : Hid (flgBad hd 1 = true) := Lib.hid (by rw [FB.out, x1]; rfl)
      go_wp2_with fail
      go_meet
      exact ⟨by rw [E.out], rfl⟩
  case rest =>
    obtain ⟨hs1, hw⟩ := hcut
    subst hs1
    subst hw
    clear hhs hpt FB t1
    cases hf : flgBad hd 1 with
    | true =>
      have E : Hid ((takeP a hd 1 xs).1 = 4) := Lib.hid (by unfold takeP; rw [if_pos hf])
      clear hf
      go_wp2_with ((with_reducible refine halt_at (X := .store 54 (.tmp 6) (.tmp 36)) ?_ ?_); (· rfl))
      unfold Halt
      refine st_row rfl 54 (.tmp 6) (.tmp 36) rfl w.heap.size rfl 54 fltZ #[.int .i64 3, .int .i64 4, .string st] rfl QF.out sz_fault rfl (by simp [Value.oneCell']) ?_
      go_wp2_with fail
      exact bodyPost_ret (results_take _ _ w.heap.size #[.int .i64 3, .int .i64 4, .string st] rfl rfl (setRow_heap _ _ _ _ _ _ QF.out)) rfl (tk_bad (c := 4) rfl E.out (by decide) (kept_box K0.out _))
    | false =>
      have HF := Lib.hid hf
      clear hf
      by_cases hn : xs.length = 1
      rotate_left 1
      · have SZ : szBad 1 xs.length = true := by
          generalize xs.length = n at hn
          simp [szBad, sizL]; omega
        have E : Hid ((takeP a hd 1 xs).1 = 5) := Lib.hid (by unfold takeP; rw [if_neg (by rw [HF.out]; decide), if_pos SZ])
        have x3 : ((xs.length : Int) != 1) = true := by
          generalize xs.length = n at hn
          simp; omega
        have x4 : ¬ (xs.length : Int) = 1 := by omega
        clear SZ hn
        go_wp2_with ((with_reducible refine halt_at (X := .store 54 (.tmp 6) (.tmp 61)) ?_ ?_); (· rfl))
        unfold Halt
        refine st_row rfl 54 (.tmp 6) (.tmp 61) rfl w.heap.size rfl 54 fltZ #[.int .i64 3, .int .i64 5, .string st] rfl QF.out sz_fault rfl (by simp [Value.oneCell']) ?_
        go_wp2_with fail
        exact bodyPost_ret (results_take _ _ w.heap.size #[.int .i64 3, .int .i64 5, .string st] rfl rfl (setRow_heap _ _ _ _ _ _ QF.out)) rfl (tk_bad (c := 5) rfl E.out (by decide) (kept_box K0.out _))
      have SZ : Hid (szBad 1 xs.length = false) := Lib.hid (by rw [hn]; decide)
      have x3 : ((xs.length : Int) != 1) = false := by rw [hn]; rfl
      have x4 : ((xs.length : Int) = 1) = True := eq_true (by omega)
      have HN := Lib.hid hn
      clear hn
      have SO := Lib.hid (set_1 lo ab P a vp vc vo (.slice sv xs.length cv) us xs W0 D0.out (HB.out W0 K0.out) (by have := HN.out; omega))
      have OK : Hid ((setP a 1 xs).1 = true) := Lib.hid (by simp [setP])
      unfold SetPost at SO
      rw [OK.out] at SO
      go_wp2_with fail
      refine SO.out.mono ?_
      rintro e w1 ⟨rfl, hk1, P1, vp1, vc1, d1, p1⟩
      have K1 := Lib.hid (K0.out.trans hk1)
      have D1 := Lib.hid d1
      have P1H := Lib.hid p1
      have QF1 := Lib.hid ((hk1.block _ (row_lt QF.out) (by have := LT.out; omega)).trans QF.out)
      have SB0 := Lib.hid (Nat.le_trans B0.out.size hk1.size)
      have QF0 := Lib.hid (row_lt QF.out)
      clear hk1 d1 p1 SO t2 c0 c1 CV QF
      obtain ⟨a1', ha1'⟩ : ∃ a1', (setP a 1 xs).2 = a1' := ⟨_, rfl⟩
      rw [ha1'] at D1
      have HA1 := Lib.hid ha1'
      clear ha1'
      have GD := Lib.hid (at_good a1' vp1 vc1 vo 1 (by decide) (by decide) w1 D1.out.atl)
      obtain ⟨gb, hgb⟩ : ∃ gb, goodB a1' 1 = gb := ⟨_, rfl⟩
      rw [hgb] at GD
      have GB := Lib.hid hgb
      have CV1 := Lib.hid (fun W (hk : Kept (fun k => k = ab) w1 W) => CVA.out W (K1.out.trans hk))
      clear hgb
      go_wp2_with ((with_reducible refine halt_at (X := .load 28 (.tmp 83)) ?_ ?_); (· rfl))
      unfold Halt
      refine ld_at (by rfl) 28 (.tmp 83) rfl ab rfl 28 (atV a1' vp1 vc1 vo).toArray (0, 0) _ D1.out.row Tryd.underlying28 rfl sz_attrs ?_
      go_wp2_with fail
      refine GD.out.mono ?_
      rintro e w2 ⟨rfl, hb2⟩
      have QF2 := Lib.hid ((hb2.block _ (row_lt QF1.out)).trans QF1.out)
      have K2' := Lib.hid (K1.out.trans (Kept.of_below hb2))
      have D2' := Lib.hid (D1.out.below hb2)
      obtain ⟨st2, CV2⟩ := CVA.out w2 K2'.out
      clear hb2 QF1 K1 D1 GD CV1
      cases gb with
      | false =>
        have E : Hid ((takeP a hd 1 xs).1 = 6) := Lib.hid (by unfold takeP; rw [if_neg (by rw [HF.out]; decide), if_neg (by rw [SZ.out]; decide), if_neg (by omega)]; rw [if_neg (by rw [OK.out]; decide), HA1.out]; rw [if_pos ⟨rfl, GB.out⟩])
        go_wp2_with ((with_reducible refine halt_at (X := .store 54 (.tmp 6) (.tmp 91)) ?_ ?_); (· rfl))
        unfold Halt
        refine st_row rfl 54 (.tmp 6) (.tmp 91) rfl w.heap.size rfl 54 fltZ #[.int .i64 3, .int .i64 6, .string st2] rfl QF2.out sz_fault rfl (by simp [Value.oneCell']) ?_
        go_wp2_with fail
        exact bodyPost_ret (results_take _ _ w.heap.size #[.int .i64 3, .int .i64 6, .string st2] rfl rfl (setRow_heap _ _ _ _ _ _ QF2.out)) rfl (tk_bad (c := 6) rfl E.out (by decide) (kept_box K2'.out _))
      | true =>
        have E : Hid (takeP a hd 1 xs = (0, { a1' with has := bits .or .i64 a1'.has (2 ^ 1) })) := Lib.hid (by unfold takeP; rw [if_neg (by rw [HF.out]; decide), if_neg (by rw [SZ.out]; decide), if_neg (by omega)]; rw [if_neg (by rw [OK.out]; decide), HA1.out, if_neg (by rintro ⟨-, h⟩; rw [GB.out] at h; cases h)]; rw [if_neg (by rintro ⟨h, -⟩; cases h)])
        have HD := Lib.hid (D2'.out.below (Below.refl _ _).drew)
        have y0 : (World.drew w2).cell? ⟨ab, 0, none⟩ = some (.int .i64 a1'.has) := HD.out.at 0 _ rfl
        have f0 := row_free HD.out.row 0
        have KD := Lib.hid (K2'.out.drew)
        have QD : Hid ((World.drew w2).heap[w.heap.size]? = some (.cells fltZ 54 (0, 0))) := Lib.hid QF2.out
        have wp2 : IntKind.i64.wrap (2 : Int) = 2 := by decide +kernel
        go_upto_region 15 with (fail)
        refine wp_region_held_drew (S := fun _ => True) (by kernel_rfl) ?_ (fun hHeld => ?_)
        · trivial
        generalize World.drew w2 = wd at y0 f0 HD KD QD hHeld ⊢
        refine rgy (i := 0) (v := ?_) (atN rfl) (by kernel_rfl) (fun _ _ _ h => h) ?_ ?_ hHeld ?_; rotate_left 1; (· rfl); (· intro w' hSw; (try clear hHeld); go_simp; try with_reducible rfl)
        try simp only [Act.put, List.setIfInBounds_toArray, List.set_cons_zero, List.set_cons_succ]
        refine rgy (i := 1) (v := ?_) (atN rfl) (by kernel_rfl) (fun _ _ _ h => h) ?_ ?_ hHeld ?_; rotate_left 1; (· rfl); (· intro w' hSw; (try clear hHeld); go_simp; try with_reducible rfl)
        try simp only [Act.put, List.setIfInBounds_toArray, List.set_cons_zero, List.set_cons_succ]
        refine rgy (i := 2) (v := ?_) (atN rfl) (by kernel_rfl) (fun _ _ _ h => h) ?_ ?_ hHeld ?_; rotate_left 1; (· rfl); (· intro w' hSw; (try clear hHeld); go_simp; try with_reducible rfl)
        try simp only [Act.put, List.setIfInBounds_toArray, List.set_cons_zero, List.set_cons_succ]
        refine rgy (i := 4) (v := ?_) (atN rfl) (by kernel_rfl) (fun _ _ _ h => h) ?_ ?_ hHeld ?_; rotate_left 1; (· rfl); (· intro w' hSw; (try clear hHeld); go_simp; try with_reducible rfl)
        try simp only [Act.put, List.setIfInBounds_toArray, List.set_cons_zero, List.set_cons_succ]
        refine rgy (i := 5) (v := ?_) (atN rfl) (by kernel_rfl) (fun _ _ _ h => h) ?_ ?_ hHeld ?_; rotate_left 1; (· rfl); (· intro w' hSw; (try clear hHeld); go_simp; try with_reducible rfl)
        try simp only [Act.put, List.setIfInBounds_toArray, List.set_cons_zero, List.set_cons_succ]
        refine rg_call (i := 3) (atN rfl) (by kernel_rfl) ?_ (fun K hK => ?_); (· rfl); (try clear hb); go_simp; go_wp2_with fail; refine hK.out _ _ ?_ (fun hHeld => ?_); (· trivial); clear hK K
        try simp only [Act.put, List.setIfInBounds_toArray, List.set_cons_zero, List.set_cons_succ]
        refine rgy (i := 6) (v := ?_) (atN rfl) (by kernel_rfl) (fun _ _ _ h => h) ?_ ?_ hHeld ?_; rotate_left 1; (· rfl); (· intro w' hSw; (try clear hHeld); go_simp; try with_reducible rfl)
        try simp only [Act.put, List.setIfInBounds_toArray, List.set_cons_zero, List.set_cons_succ]
        refine rgy (i := 7) (v := ?_) (atN rfl) (by kernel_rfl) (fun _ _ _ h => h) ?_ ?_ hHeld ?_; rotate_left 1; (· rfl); (· intro w' hSw; (try clear hHeld); go_simp; try with_reducible rfl)
        try simp only [Act.put, List.setIfInBounds_toArray, List.set_cons_zero, List.set_cons_succ]
        refine rgy (i := 8) (v := ?_) (atN rfl) (by kernel_rfl) (fun _ _ _ h => h) ?_ ?_ hHeld ?_; rotate_left 1; (· rfl); (· intro w' hSw; (try clear hHeld); go_simp; try with_reducible rfl)
        try simp only [Act.put, List.setIfInBounds_toArray, List.set_cons_zero, List.set_cons_succ]
        refine rg_call (i := 9) (atN rfl) (by kernel_rfl) ?_ (fun K hK => ?_); (· rfl); (try clear hb); go_simp; go_wp2_with fail; refine hK.out _ _ ?_ (fun hHeld => ?_); (· trivial); clear hK K
        try simp only [Act.put]
        refine wpAnyH_done (by kernel_rfl) ?_ _
        obtain ⟨we, hwe⟩ : ∃ we, we = wd.setCell ⟨ab, 0, none⟩ (.int .i64 (bits .or .i64 a1'.has 2)) := ⟨_, rfl⟩
        rw [← hwe]
        have D2 : Hid (DA we lo ab P1 { a1' with has := bits .or .i64 a1'.has 2 } vp1 vc1 vo us) := Lib.hid (by rw [hwe]; exact HD.out.cell 0 _ (by simp [atV]) rfl rfl rfl (has_rng HD.out.rng))
        have KE : Hid (Kept (fun k => k = ab) wd we) := Lib.hid (by rw [hwe]; exact Kept.setCell _ _ rfl)
        have QE := Lib.hid ((KE.out.block _ (row_lt QD.out) (by have := LT.out; omega)).trans QD.out)
        have K2 := Lib.hid (KD.out.trans KE.out)
        have NF := Lib.hid (fun hp => by have := P1H.out _ hp; rcases this with h | h; exact absurd (H.out.plt _ h) (Nat.lt_irrefl _); have := SB0.out; have := QF0.out; omega : ¬ P1 w.heap.size)
        clear hwe y0 f0 HD KD QD KE hHeld D2' K2' QF2
        go_wp2_with ((with_reducible refine halt_at (X := .store 54 (.tmp 6) (.tmp 114)) ?_ ?_); (· rfl))
        unfold Halt
        refine st_row rfl 54 (.tmp 6) (.tmp 114) rfl w.heap.size rfl 54 fltZ fltZ rfl QE.out sz_fault rfl (by simp [Value.oneCell']) ?_
        go_wp2_with fail
        refine bodyPost_ret (results_take _ _ w.heap.size fltZ rfl rfl (setRow_heap _ _ _ _ _ _ QE.out)) rfl ⟨kept_box K2.out _, ?_⟩
        rw [E.out, if_pos rfl]
        exact ⟨rfl, P1, vp1, vc1, D2.out.box LT.out NF.out (fun g hg e => by have := own_lt H.out.oth g hg; omega), fun k hk => (P1H.out k hk).imp_right fun h => Nat.le_trans B0.out.size h⟩
end Go.Proofs.YtohkbcdnlmjcjaaDoor

/-
  ATTRIBUTES: take, of the kind 2. (printed by maketake.py)
-/
namespace Go.Proofs.YtohkbcdnlmjcjaaDoor
open Go.RowKit
set_option maxHeartbeats 6400000 in
set_option maxRecDepth 100000 in
theorem take_2 (lo ab : Nat) (P : Nat → Prop) (a : At) (vp vc vo va v : Value) (us : List OthV) (hd : Nat) (al xs : List Nat) (w : World) (h : DA w lo ab P a vp vc vo us) (hT : Tabs w) (h0 : al[0]? = some hd) (h1 : al[1]? = some 2)
    (hA : ∀ W, Kept (fun k => k = ab) w W → BytesAt W va al) (hB : ∀ W, Kept (fun k => k = ab) w W → BytesAt W v xs) (hx : xs.length ≤ 1048576) :
    Calls Tryd.prog 43 #[.pointer (some ⟨ab, 0, none⟩), va, v] w (TkPost ab lo P (takeP a hd 2 xs) vo us w) := by
  have H := Lib.hid h
  have HA := Lib.hid hA
  have HB := Lib.hid hB
  have HX := Lib.hid hx
  clear hx
  have LA := Lib.hid (show 0 < al.length by have := (List.getElem?_eq_some_iff.1 h0).1; omega)
  obtain ⟨b, off, cap, rfl, b0, hd2⟩ := byte_cells (hA w (Kept.refl _ _)) h0
  obtain ⟨b', off', cap', e1, b1, -⟩ := byte_cells (hA w (Kept.refl _ _)) h1
  injection e1 with e1 _ e3
  injection e1 with e1
  injection e1 with e1 e2 _
  subst e1; subst e2; subst e3
  obtain ⟨sv, cv, rfl, -⟩ := hB w (Kept.refl _ _)
  have a1 : (1 : Int) < (al.length : Int) := by have := (List.getElem?_eq_some_iff.1 h1).1; omega
  have a0 : (0 : Int) < (al.length : Int) := by omega
  obtain ⟨hs, hhs⟩ : ∃ hs, bits .and .i64 (hd : Int) 192 = hs := ⟨_, rfl⟩
  obtain ⟨pt, hpt⟩ : ∃ pt, bits .and .u8 (hd : Int) 32 = pt := ⟨_, rfl⟩
  have FB : Hid (flgBad hd 2 = ((hs != 64) || ((pt != 0) && (hs != 192)))) := Lib.hid (by rw [← hhs, ← hpt]; rfl)
  have t1 := hT.flag 2 (by decide)
  have t2 := hT.size 2 (by decide)
  clear h hA hB h0 h1 hT
  go_enter Tryd.func43, Tryd.ntmps43
  go_upto_region 1 with (fail)
  obtain ⟨W0, hW0, qf, hb0, -⟩ := box1 w fltZ 54
  rw [← hW0]
  clear hW0
  have QF := Lib.hid qf
  have B0 := Lib.hid hb0
  have K0 := Lib.hid (Kept.of_below (F := fun k => k = ab) hb0)
  have D0 := Lib.hid (H.out.below hb0)
  have LT := Lib.hid (row_lt H.out.row)
  have c0 : W0.cell? ⟨b, off, none⟩ = some (.int .u8 hd) := cell_below b0 hb0
  have c1 : W0.cell? ⟨b, off + 1, none⟩ = some (.int .u8 2) := cell_below b1 hb0
  have t1 : W0.cell? ⟨0, 2, none⟩ = some (.int .i64 64) := cell_below t1 hb0
  have t2 : W0.cell? ⟨1, 2, none⟩ = some (.int .i64 (-1)) := cell_below t2 hb0
  have g0 : (0 : Int) ≤ (hd : Int) := by omega
  have g1 : (hd : Int) ≤ 255 := by omega
  have CVA := Lib.hid (fun W (hk : Kept (fun k => k = ab) w W) => conv_at (HA.out W hk) LA.out)
  obtain ⟨st, CV⟩ := CVA.out W0 K0.out
  clear qf hb0 b0 b1 hd2
  go_upto_region 3 with (fail)
  go_cut [33] (fun s wx => s = .bool (flgBad hd 2) ∧ W0 = wx)
  case first =>
    clear t2 CV
    by_cases h1 : hs = 64
    · have x1 : (hs != 64) = false := by simp [h1]
      subst h1
      by_cases h2 : pt = 0
      · have E : Hid (flgBad hd 2 = false) := Lib.hid (by rw [FB.out, h2]; rfl)
        subst h2
        go_wp2_with fail
        go_meet
        exact ⟨by rw [E.out], rfl⟩
      · have x2 : (pt != 0) = true := by simpa using h2
        have E : Hid (flgBad hd 2 = ((64 : Int) != 192)) := Lib.hid (by rw [FB.out, x2]; rfl)
        go_wp2_with fail
        go_meet
        exact ⟨by rw [E.out]; rfl, rfl⟩
    · have x1 : (hs != 64) = true := by simpa using h1
      have E : Hid (flgBad hd 2 = true) := Lib.hid (by rw [FB.out, x1]; rfl)
      go_wp2_with fail
      go_meet
      exact ⟨by rw [E.out], rfl⟩
  case rest =>
    obtain ⟨hs1, hw⟩ := hcut
    subst hs1
    subst hw
    clear hhs hpt FB t1
    cases hf : flgBad hd 2 with
    | true =>
      have E : Hid ((takeP a hd 2 xs).1 = 4) := Lib.hid (by unfold takeP; rw [if_pos hf])
      clear hf
      go_wp2_with ((with_reducible refine halt_at (X := .store 54 (.tmp 6) (.tmp 36)) ?_ ?_); (· rfl))
      unfold Halt
      refine st_row rfl 54 (.tmp 6) (.tmp 36) rfl w.heap.size rfl 54 fltZ #[.int .i64 3, .int .i64 4, .string st] rfl QF.out sz_fault rfl (by simp [Value.oneCell']) ?_
      go_wp2_with fail
      exact bodyPost_ret (results_take _ _ w.heap.size #[.int .i64 3, .int .i64 4, .string st] rfl rfl (setRow_heap _ _ _ _ _ _ QF.out)) rfl (tk_bad (c := 4) rfl E.out (by decide) (kept_box K0.out _))
    | false =>
      have HF := Lib.hid hf
      clear hf
      have SZ : Hid (szBad 2 xs.length = false) := Lib.hid (by simp [szBad, sizL])
      have SO := Lib.hid (set_2 lo ab P a vp vc vo (.slice sv xs.length cv) us xs W0 D0.out (HB.out W0 K0.out) HX.out)
      obtain ⟨ok, hok⟩ : ∃ ok, (setP a 2 xs).1 = ok := ⟨_, rfl⟩
      have OK := Lib.hid hok
      unfold SetPost at SO
      rw [OK.out] at SO
      clear hok
      go_wp2_with fail
      refine SO.out.mono ?_
      rintro e w1 ⟨rfl, hk1, P1, vp1, vc1, d1, p1⟩
      have K1 := Lib.hid (K0.out.trans hk1)
      have D1 := Lib.hid d1
      have P1H := Lib.hid p1
      have QF1 := Lib.hid ((hk1.block _ (row_lt QF.out) (by have := LT.out; omega)).trans QF.out)
      have SB0 := Lib.hid (Nat.le_trans B0.out.size hk1.size)
      have QF0 := Lib.hid (row_lt QF.out)
      clear hk1 d1 p1 SO t2 c0 c1 CV QF
      obtain ⟨a1', ha1'⟩ : ∃ a1', (setP a 2 xs).2 = a1' := ⟨_, rfl⟩
      rw [ha1'] at D1
      have HA1 := Lib.hid ha1'
      clear ha1'
      cases ok with
      | false =>
        have E : Hid ((takeP a hd 2 xs).1 = 11) := Lib.hid (by unfold takeP; rw [if_neg (by rw [HF.out]; decide), if_neg (by rw [SZ.out]; decide), if_neg (by omega)]; rw [if_pos OK.out])
        go_wp2_with ((with_reducible refine halt_at (X := .store 54 (.tmp 6) (.tmp 78)) ?_ ?_); (· rfl))
        unfold Halt
        refine st_row rfl 54 (.tmp 6) (.tmp 78) rfl w.heap.size rfl 54 fltZ #[.int .i64 3, .int .i64 11, .string ⟨#[]⟩] rfl QF1.out sz_fault rfl (by simp [Value.oneCell']) ?_
        go_wp2_with fail
        exact bodyPost_ret (results_take _ _ w.heap.size #[.int .i64 3, .int .i64 11, .string ⟨#[]⟩] rfl rfl (setRow_heap _ _ _ _ _ _ QF1.out)) rfl (tk_bad (c := 11) rfl E.out (by decide) (kept_box K1.out _))
      | true =>
        have E : Hid (takeP a hd 2 xs = (0, { a1' with has := bits .or .i64 a1'.has (2 ^ 2) })) := Lib.hid (by unfold takeP; rw [if_neg (by rw [HF.out]; decide), if_neg (by rw [SZ.out]; decide), if_neg (by omega)]; rw [if_neg (by rw [OK.out]; decide), HA1.out, if_neg (by rintro ⟨h, -⟩; cases h)]; rw [if_neg (by rintro ⟨h, -⟩; cases h)])
        have HD := Lib.hid (D1.out.below (Below.refl _ _).drew)
        have y0 : (World.drew w1).cell? ⟨ab, 0, none⟩ = some (.int .i64 a1'.has) := HD.out.at 0 _ rfl
        have f0 := row_free HD.out.row 0
        have KD := Lib.hid (K1.out.drew)
        have QD : Hid ((World.drew w1).heap[w.heap.size]? = some (.cells fltZ 54 (0, 0))) := Lib.hid QF1.out
        have wp2 : IntKind.i64.wrap (4 : Int) = 4 := by decide +kernel
        go_upto_region 15 with (fail)
        refine wp_region_held_drew (S := fun _ => True) (by kernel_rfl) ?_ (fun hHeld => ?_)
        · trivial
        generalize World.drew w1 = wd at y0 f0 HD KD QD hHeld ⊢
        refine rgy (i := 0) (v := ?_) (atN rfl) (by kernel_rfl) (fun _ _ _ h => h) ?_ ?_ hHeld ?_; rotate_left 1; (· rfl); (· intro w' hSw; (try clear hHeld); go_simp; try with_reducible rfl)
        try simp only [Act.put, List.setIfInBounds_toArray, List.set_cons_zero, List.set_cons_succ]
        refine rgy (i := 1) (v := ?_) (atN rfl) (by kernel_rfl) (fun _ _ _ h => h) ?_ ?_ hHeld ?_; rotate_left 1; (· rfl); (· intro w' hSw; (try clear hHeld); go_simp; try with_reducible rfl)
        try simp only [Act.put, List.setIfInBounds_toArray, List.set_cons_zero, List.set_cons_succ]
        refine rgy (i := 2) (v := ?_) (atN rfl) (by kernel_rfl) (fun _ _ _ h => h) ?_ ?_ hHeld ?_; rotate_left 1; (· rfl); (· intro w' hSw; (try clear hHeld); go_simp; try with_reducible rfl)
        try simp only [Act.put, List.setIfInBounds_toArray, List.set_cons_zero, List.set_cons_succ]
        refine rgy (i := 4) (v := ?_) (atN rfl) (by kernel_rfl) (fun _ _ _ h => h) ?_ ?_ hHeld ?_; rotate_left 1; (· rfl); (· intro w' hSw; (try clear hHeld); go_simp; try with_reducible rfl)
        try simp only [Act.put, List.setIfInBounds_toArray, List.set_cons_zero, List.set_cons_succ]
        refine rgy (i := 5) (v := ?_) (atN rfl) (by kernel_rfl) (fun _ _ _ h => h) ?_ ?_ hHeld ?_; rotate_left 1; (· rfl); (· intro w' hSw; (try clear hHeld); go_simp; try with_reducible rfl)
        try simp only [Act.put, List.setIfInBounds_toArray, List.set_cons_zero, List.set_cons_succ]
        refine rg_call (i := 3) (atN rfl) (by kernel_rfl) ?_ (fun K hK => ?_); (· rfl); (try clear hb); go_simp; go_wp2_with fail; refine hK.out _ _ ?_ (fun hHeld => ?_); (· trivial); clear hK K
        try simp only [Act.put, List.setIfInBounds_toArray, List.set_cons_zero, List.set_cons_succ]
        refine rgy (i := 6) (v := ?_) (atN rfl) (by kernel_rfl) (fun _ _ _ h => h) ?_ ?_ hHeld ?_; rotate_left 1; (· rfl); (· intro w' hSw; (try clear hHeld); go_simp; try with_reducible rfl)
        try simp only [Act.put, List.setIfInBounds_toArray, List.set_cons_zero, List.set_cons_succ]
        refine rgy (i := 7) (v := ?_) (atN rfl) (by kernel_rfl) (fun _ _ _ h => h) ?_ ?_ hHeld ?_; rotate_left 1; (· rfl); (· intro w' hSw; (try clear hHeld); go_simp; try with_reducible rfl)
        try simp only [Act.put, List.setIfInBounds_toArray, List.set_cons_zero, List.set_cons_succ]
        refine rgy (i := 8) (v := ?_) (atN rfl) (by kernel_rfl) (fun _ _ _ h => h) ?_ ?_ hHeld ?_; rotate_left 1; (· rfl); (· intro w' hSw; (try clear hHeld); go_simp; try with_reducible rfl)
        try simp only [Act.put, List.setIfInBounds_toArray, List.set_cons_zero, List.set_cons_succ]
        refine rg_call (i := 9) (atN rfl) (by kernel_rfl) ?_ (fun K hK => ?_); (· rfl); (try clear hb); go_simp; go_wp2_with fail; refine hK.out _ _ ?_ (fun hHeld => ?_); (· trivial); clear hK K
        try simp only [Act.put]
        refine wpAnyH_done (by kernel_rfl) ?_ _
        obtain ⟨we, hwe⟩ : ∃ we, we = wd.setCell ⟨ab, 0, none⟩ (.int .i64 (bits .or .i64 a1'.has 4)) := ⟨_, rfl⟩
        rw [← hwe]
        have D2 : Hid (DA we lo ab P1 { a1' with has := bits .or .i64 a1'.has 4 } vp1 vc1 vo us) := Lib.hid (by rw [hwe]; exact HD.out.cell 0 _ (by simp [atV]) rfl rfl rfl (has_rng HD.out.rng))
        have KE : Hid (Kept (fun k => k = ab) wd we) := Lib.hid (by rw [hwe]; exact Kept.setCell _ _ rfl)
        have QE := Lib.hid ((KE.out.block _ (row_lt QD.out) (by have := LT.out; omega)).trans QD.out)
        have K2 := Lib.hid (KD.out.trans KE.out)
        have NF := Lib.hid (fun hp => by have := P1H.out _ hp; rcases this with h | h; exact absurd (H.out.plt _ h) (Nat.lt_irrefl _); have := SB0.out; have := QF0.out; omega : ¬ P1 w.heap.size)
        clear hwe y0 f0 HD KD QD KE hHeld D1 K1 QF1
        go_wp2_with ((with_reducible refine halt_at (X := .store 54 (.tmp 6) (.tmp 114)) ?_ ?_); (· rfl))
        unfold Halt
        refine st_row rfl 54 (.tmp 6) (.tmp 114) rfl w.heap.size rfl 54 fltZ fltZ rfl QE.out sz_fault rfl (by simp [Value.oneCell']) ?_
        go_wp2_with fail
        refine bodyPost_ret (results_take _ _ w.heap.size fltZ rfl rfl (setRow_heap _ _ _ _ _ _ QE.out)) rfl ⟨kept_box K2.out _, ?_⟩
        rw [E.out, if_pos rfl]
        exact ⟨rfl, P1, vp1, vc1, D2.out.box LT.out NF.out (fun g hg e => by have := own_lt H.out.oth g hg; omega), fun k hk => (P1H.out k hk).imp_right fun h => Nat.le_trans B0.out.size h⟩
end Go.Proofs.YtohkbcdnlmjcjaaDoor

/-
  ATTRIBUTES: take, of the kind 3. (printed by maketake.py)
-/
namespace Go.Proofs.YtohkbcdnlmjcjaaDoor
open Go.RowKit
set_option maxHeartbeats 6400000 in
set_option maxRecDepth 100000 in
theorem take_3 (lo ab : Nat) (P : Nat → Prop) (a : At) (vp vc vo va v : Value) (us : List OthV) (hd : Nat) (al xs : List Nat) (w : World) (h : DA w lo ab P a vp vc vo us) (hT : Tabs w) (h0 : al[0]? = some hd) (h1 : al[1]? = some 3)
    (hA : ∀ W, Kept (fun k => k = ab) w W → BytesAt W va al) (hB : ∀ W, Kept (fun k => k = ab) w W → BytesAt W v xs) :
    Calls Tryd.prog 43 #[.pointer (some ⟨ab, 0, none⟩), va, v] w (TkPost ab lo P (takeP a hd 3 xs) vo us w) := by
  have H := Lib.hid h
  have HA := Lib.hid hA
  have HB := Lib.hid hB
  have LA := Lib.hid (show 0 < al.length by have := (List.getElem?_eq_some_iff.1 h0).1; omega)
  obtain ⟨b, off, cap, rfl, b0, hd2⟩ := byte_cells (hA w (Kept.refl _ _)) h0
  obtain ⟨b', off', cap', e1, b1, -⟩ := byte_cells (hA w (Kept.refl _ _)) h1
  injection e1 with e1 _ e3
  injection e1 with e1
  injection e1 with e1 e2 _
  subst e1; subst e2; subst e3
  obtain ⟨sv, cv, rfl, -⟩ := hB w (Kept.refl _ _)
  have a1 : (1 : Int) < (al.length : Int) := by have := (List.getElem?_eq_some_iff.1 h1).1; omega
  have a0 : (0 : Int) < (al.length : Int) := by omega
  obtain ⟨hs, hhs⟩ : ∃ hs, bits .and .i64 (hd : Int) 192 = hs := ⟨_, rfl⟩
  obtain ⟨pt, hpt⟩ : ∃ pt, bits .and .u8 (hd : Int) 32 = pt := ⟨_, rfl⟩
  have FB : Hid (flgBad hd 3 = ((hs != 64) || ((pt != 0) && (hs != 192)))) := Lib.hid (by rw [← hhs, ← hpt]; rfl)
  have t1 := hT.flag 3 (by decide)
  have t2 := hT.size 3 (by decide)
  clear h hA hB h0 h1 hT
  go_enter Tryd.func43, Tryd.ntmps43
  go_upto_region 1 with (fail)
  obtain ⟨W0, hW0, qf, hb0, -⟩ := box1 w fltZ 54
  rw [← hW0]
  clear hW0
  have QF := Lib.hid qf
  have B0 := Lib.hid hb0
  have K0 := Lib.hid (Kept.of_below (F := fun k => k = ab) hb0)
  have D0 := Lib.hid (H.out.below hb0)
  have LT := Lib.hid (row_lt H.out.row)
  have c0 : W0.cell? ⟨b, off, none⟩ = some (.int .u8 hd) := cell_below b0 hb0
  have c1 : W0.cell? ⟨b, off + 1, none⟩ = some (.int .u8 3) := cell_below b1 hb0
  have t1 : W0.cell? ⟨0, 3, none⟩ = some (.int .i64 64) := cell_below t1 hb0
  have t2 : W0.cell? ⟨1, 3, none⟩ = some (.int .i64 4) := cell_below t2 hb0
  have g0 : (0 : Int) ≤ (hd : Int) := by omega
  have g1 : (hd : Int) ≤ 255 := by omega
  have CVA := Lib.hid (fun W (hk : Kept (fun k => k = ab) w W) => conv_at (HA.out W hk) LA.out)
  obtain ⟨st, CV⟩ := CVA.out W0 K0.out
  clear qf hb0 b0 b1 hd2
  go_upto_region 3 with (fail)
  go_cut [33] (fun s wx => s = .bool (flgBad hd 3) ∧ W0 = wx)
  case first =>
    clear t2 CV
    by_cases h1 : hs = 64
    · have x1 : (hs != 64) = false := by simp [h1]
      subst h1
      by_cases h2 : pt = 0
      · have E : Hid (flgBad hd 3 = false) := Lib.hid (by rw [FB.out, h2]; rfl)
        subst h2
        go_wp2_with fail
        go_meet
        exact ⟨by rw [E.out], rfl⟩
      · have x2 : (pt != 0) = true := by simpa using h2
        have E : Hid (flgBad hd 3 = ((64 : Int) != 192)) := Lib.hid (by rw [FB.out, x2]; rfl)
        go_wp2_with fail
        go_meet
        exact ⟨by rw [E.out]; rfl, rfl⟩
    · have x1 : (hs != 64) = true := by simpa using h1
      have E : Hid (flgBad hd 3 = true) := Lib.hid (by rw [FB.out, x1]; rfl)
      go_wp2_with fail
      go_meet
      exact ⟨by rw [E.out], rfl⟩
  case rest =>
    obtain ⟨hs1, hw⟩ := hcut
    subst hs1
    subst hw
    clear hhs hpt FB t1
    cases hf : flgBad hd 3 with
    | true =>
      have E : Hid ((takeP a hd 3 xs).1 = 4) := Lib.hid (by unfold takeP; rw [if_pos hf])
      clear hf
      go_wp2_with ((with_reducible refine halt_at (X := .store 54 (.tmp 6) (.tmp 36)) ?_ ?_); (· rfl))
      unfold Halt
      refine st_row rfl 54 (.tmp 6) (.tmp 36) rfl w.heap.size rfl 54 fltZ #[.int .i64 3, .int .i64 4, .string st] rfl QF.out sz_fault rfl (by simp [Value.oneCell']) ?_
      go_wp2_with fail
      exact bodyPost_ret (results_take _ _ w.heap.size #[.int .i64 3, .int .i64 4, .string st] rfl rfl (setRow_heap _ _ _ _ _ _ QF.out)) rfl (tk_bad (c := 4) rfl E.out (by decide) (kept_box K0.out _))
    | false =>
      have HF := Lib.hid hf
      clear hf
      by_cases hn : xs.length = 4
      rotate_left 1
      · have SZ : szBad 3 xs.length = true := by
          generalize xs.length = n at hn
          simp [szBad, sizL]; omega
        have E : Hid ((takeP a hd 3 xs).1 = 5) := Lib.hid (by unfold takeP; rw [if_neg (by rw [HF.out]; decide), if_pos SZ])
        have x3 : ((xs.length : Int) != 4) = true := by
          generalize xs.length = n at hn
          simp; omega
        have x4 : ¬ (xs.length : Int) = 4 := by omega
        clear SZ hn
        go_wp2_with ((with_reducible refine halt_at (X := .store 54 (.tmp 6) (.tmp 61)) ?_ ?_); (· rfl))
        unfold Halt
        refine st_row rfl 54 (.tmp 6) (.tmp 61) rfl w.heap.size rfl 54 fltZ #[.int .i64 3, .int .i64 5, .string st] rfl QF.out sz_fault rfl (by simp [Value.oneCell']) ?_
        go_wp2_with fail
        exact bodyPost_ret (results_take _ _ w.heap.size #[.int .i64 3, .int .i64 5, .string st] rfl rfl (setRow_heap _ _ _ _ _ _ QF.out)) rfl (tk_bad (c := 5) rfl E.out (by decide) (kept_box K0.out _))
      have SZ : Hid (szBad 3 xs.length = false) := Lib.hid (by rw [hn]; decide)
      have x3 : ((xs.length : Int) != 4) = false := by rw [hn]; rfl
      have x4 : ((xs.length : Int) = 4) = True := eq_true (by omega)
      have HN := Lib.hid hn
      clear hn
      have SO := Lib.hid (set_3 lo ab P a vp vc vo (.slice sv xs.length cv) us xs W0 D0.out (HB.out W0 K0.out) (by have := HN.out; omega))
      have OK : Hid ((setP a 3 xs).1 = true) := Lib.hid (by simp [setP])
      unfold SetPost at SO
      rw [OK.out] at SO
      go_wp2_with fail
      refine SO.out.mono ?_
      rintro e w1 ⟨rfl, hk1, P1, vp1, vc1, d1, p1⟩
      have K1 := Lib.hid (K0.out.trans hk1)
      have D1 := Lib.hid d1
      have P1H := Lib.hid p1
      have QF1 := Lib.hid ((hk1.block _ (row_lt QF.out) (by have := LT.out; omega)).trans QF.out)
      have SB0 := Lib.hid (Nat.le_trans B0.out.size hk1.size)
      have QF0 := Lib.hid (row_lt QF.out)
      clear hk1 d1 p1 SO t2 c0 c1 CV QF
      obtain ⟨a1', ha1'⟩ : ∃ a1', (setP a 3 xs).2 = a1' := ⟨_, rfl⟩
      rw [ha1'] at D1
      have HA1 := Lib.hid ha1'
      clear ha1'
      have GD := Lib.hid (at_good a1' vp1 vc1 vo 3 (by decide) (by decide) w1 D1.out.atl)
      obtain ⟨gb, hgb⟩ : ∃ gb, goodB a1' 3 = gb := ⟨_, rfl⟩
      rw [hgb] at GD
      have GB := Lib.hid hgb
      have CV1 := Lib.hid (fun W (hk : Kept (fun k => k = ab) w1 W) => CVA.out W (K1.out.trans hk))
      clear hgb
      go_wp2_with ((with_reducible refine halt_at (X := .load 28 (.tmp 96)) ?_ ?_); (· rfl))
      unfold Halt
      refine ld_at (by rfl) 28 (.tmp 96) rfl ab rfl 28 (atV a1' vp1 vc1 vo).toArray (0, 0) _ D1.out.row Tryd.underlying28 rfl sz_attrs ?_
      go_wp2_with fail
      refine GD.out.mono ?_
      rintro e w2 ⟨rfl, hb2⟩
      have QF2 := Lib.hid ((hb2.block _ (row_lt QF1.out)).trans QF1.out)
      have K2' := Lib.hid (K1.out.trans (Kept.of_below hb2))
      have D2' := Lib.hid (D1.out.below hb2)
      obtain ⟨st2, CV2⟩ := CVA.out w2 K2'.out
      clear hb2 QF1 K1 D1 GD CV1
      cases gb with
      | false =>
        have E : Hid ((takeP a hd 3 xs).1 = 8) := Lib.hid (by unfold takeP; rw [if_neg (by rw [HF.out]; decide), if_neg (by rw [SZ.out]; decide), if_neg (by omega)]; rw [if_neg (by rw [OK.out]; decide), HA1.out]; rw [if_neg (by rintro ⟨h, -⟩; cases h), if_pos ⟨rfl, GB.out⟩])
        go_wp2_with ((with_reducible refine halt_at (X := .store 54 (.tmp 6) (.tmp 104)) ?_ ?_); (· rfl))
        unfold Halt
        refine st_row rfl 54 (.tmp 6) (.tmp 104) rfl w.heap.size rfl 54 fltZ #[.int .i64 3, .int .i64 8, .string st2] rfl QF2.out sz_fault rfl (by simp [Value.oneCell']) ?_
        go_wp2_with fail
        exact bodyPost_ret (results_take _ _ w.heap.size #[.int .i64 3, .int .i64 8, .string st2] rfl rfl (setRow_heap _ _ _ _ _ _ QF2.out)) rfl (tk_bad (c := 8) rfl E.out (by decide) (kept_box K2'.out _))
      | true =>
        have E : Hid (takeP a hd 3 xs = (0, { a1' with has := bits .or .i64 a1'.has (2 ^ 3) })) := Lib.hid (by unfold takeP; rw [if_neg (by rw [HF.out]; decide), if_neg (by rw [SZ.out]; decide), if_neg (by omega)]; rw [if_neg (by rw [OK.out]; decide), HA1.out, if_neg (by rintro ⟨h, -⟩; cases h)]; rw [if_neg (by rintro ⟨-, h⟩; rw [GB.out] at h; cases h)])
        have HD := Lib.hid (D2'.out.below (Below.refl _ _).drew)
        have y0 : (World.drew w2).cell? ⟨ab, 0, none⟩ = some (.int .i64 a1'.has) := HD.out.at 0 _ rfl
        have f0 := row_free HD.out.row 0
        have KD := Lib.hid (K2'.out.drew)
        have QD : Hid ((World.drew w2).heap[w.heap.size]? = some (.cells fltZ 54 (0, 0))) := Lib.hid QF2.out
        have wp2 : IntKind.i64.wrap (8 : Int) = 8 := by decide +kernel
        go_upto_region 15 with (fail)
        refine wp_region_held_drew (S := fun _ => True) (by kernel_rfl) ?_ (fun hHeld => ?_)
        · trivial
        generalize World.drew w2 = wd at y0 f0 HD KD QD hHeld ⊢
        refine rgy (i := 0) (v := ?_) (atN rfl) (by kernel_rfl) (fun _ _ _ h => h) ?_ ?_ hHeld ?_; rotate_left 1; (· rfl); (· intro w' hSw; (try clear hHeld); go_simp; try with_reducible rfl)
        try simp only [Act.put, List.setIfInBounds_toArray, List.set_cons_zero, List.set_cons_succ]
        refine rgy (i := 1) (v := ?_) (atN rfl) (by kernel_rfl) (fun _ _ _ h => h) ?_ ?_ hHeld ?_; rotate_left 1; (· rfl); (· intro w' hSw; (try clear hHeld); go_simp; try with_reducible rfl)
        try simp only [Act.put, List.setIfInBounds_toArray, List.set_cons_zero, List.set_cons_succ]
        refine rgy (i := 2) (v := ?_) (atN rfl) (by kernel_rfl) (fun _ _ _ h => h) ?_ ?_ hHeld ?_; rotate_left 1; (· rfl); (· intro w' hSw; (try clear hHeld); go_simp; try with_reducible rfl)
        try simp only [Act.put, List.setIfInBounds_toArray, List.set_cons_zero, List.set_cons_succ]
        refine rgy (i := 4) (v := ?_) (atN rfl) (by kernel_rfl) (fun _ _ _ h => h) ?_ ?_ hHeld ?_; rotate_left 1; (· rfl); (· intro w' hSw; (try clear hHeld); go_simp; try with_reducible rfl)
        try simp only [Act.put, List.setIfInBounds_toArray, List.set_cons_zero, List.set_cons_succ]
        refine rgy (i := 5) (v := ?_) (atN rfl) (by kernel_rfl) (fun _ _ _ h => h) ?_ ?_ hHeld ?_; rotate_left 1; (· rfl); (· intro w' hSw; (try clear hHeld); go_simp; try with_reducible rfl)
        try simp only [Act.put, List.setIfInBounds_toArray, List.set_cons_zero, List.set_cons_succ]
        refine rg_call (i := 3) (atN rfl) (by kernel_rfl) ?_ (fun K hK => ?_); (· rfl); (try clear hb); go_simp; go_wp2_with fail; refine hK.out _ _ ?_ (fun hHeld => ?_); (· trivial); clear hK K
        try simp only [Act.put, List.setIfInBounds_toArray, List.set_cons_zero, List.set_cons_succ]
        refine rgy (i := 6) (v := ?_) (atN rfl) (by kernel_rfl) (fun _ _ _ h => h) ?_ ?_ hHeld ?_; rotate_left 1; (· rfl); (· intro w' hSw; (try clear hHeld); go_simp; try with_reducible rfl)
        try simp only [Act.put, List.setIfInBounds_toArray, List.set_cons_zero, List.set_cons_succ]
        refine rgy (i := 7) (v := ?_) (atN rfl) (by kernel_rfl) (fun _ _ _ h => h) ?_ ?_ hHeld ?_; rotate_left 1; (· rfl); (· intro w' hSw; (try clear hHeld); go_simp; try with_reducible rfl)
        try simp only [Act.put, List.setIfInBounds_toArray, List.set_cons_zero, List.set_cons_succ]
        refine rgy (i := 8) (v := ?_) (atN rfl) (by kernel_rfl) (fun _ _ _ h => h) ?_ ?_ hHeld ?_; rotate_left 1; (· rfl); (· intro w' hSw; (try clear hHeld); go_simp; try with_reducible rfl)
        try simp only [Act.put, List.setIfInBounds_toArray, List.set_cons_zero, List.set_cons_succ]
        refine rg_call (i := 9) (atN rfl) (by kernel_rfl) ?_ (fun K hK => ?_); (· rfl); (try clear hb); go_simp; go_wp2_with fail; refine hK.out _ _ ?_ (fun hHeld => ?_); (· trivial); clear hK K
        try simp only [Act.put]
        refine wpAnyH_done (by kernel_rfl) ?_ _
        obtain ⟨we, hwe⟩ : ∃ we, we = wd.setCell ⟨ab, 0, none⟩ (.int .i64 (bits .or .i64 a1'.has 8)) := ⟨_, rfl⟩
        rw [← hwe]
        have D2 : Hid (DA we lo ab P1 { a1' with has := bits .or .i64 a1'.has 8 } vp1 vc1 vo us) := Lib.hid (by rw [hwe]; exact HD.out.cell 0 _ (by simp [atV]) rfl rfl rfl (has_rng HD.out.rng))
        have KE : Hid (Kept (fun k => k = ab) wd we) := Lib.hid (by rw [hwe]; exact Kept.setCell _ _ rfl)
        have QE := Lib.hid ((KE.out.block _ (row_lt QD.out) (by have := LT.out; omega)).trans QD.out)
        have K2 := Lib.hid (KD.out.trans KE.out)
        have NF := Lib.hid (fun hp => by have := P1H.out _ hp; rcases this with h | h; exact absurd (H.out.plt _ h) (Nat.lt_irrefl _); have := SB0.out; have := QF0.out; omega : ¬ P1 w.heap.size)
        clear hwe y0 f0 HD KD QD KE hHeld D2' K2' QF2
        go_wp2_with ((with_reducible refine halt_at (X := .store 54 (.tmp 6) (.tmp 114)) ?_ ?_); (· rfl))
        unfold Halt
        refine st_row rfl 54 (.tmp 6) (.tmp 114) rfl w.heap.size rfl 54 fltZ fltZ rfl QE.out sz_fault rfl (by simp [Value.oneCell']) ?_
        go_wp2_with fail
        refine bodyPost_ret (results_take _ _ w.heap.size fltZ rfl rfl (setRow_heap _ _ _ _ _ _ QE.out)) rfl ⟨kept_box K2.out _, ?_⟩
        rw [E.out, if_pos rfl]
        exact ⟨rfl, P1, vp1, vc1, D2.out.box LT.out NF.out (fun g hg e => by have := own_lt H.out.oth g hg; omega), fun k hk => (P1H.out k hk).imp_right fun h => Nat.le_trans B0.out.size h⟩
end Go.Proofs.YtohkbcdnlmjcjaaDoor
