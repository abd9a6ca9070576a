/- Texts of one proof, one behind another. -/
import Derived.Test.YtohkbcdnlmjcjaaDoorWr13
import Derived.Test.YtohkbcdnlmjcjaaDoorWr15
import Derived.Test.YtohkbcdnlmjcjaaDoorWr16
import Derived.Test.YtohkbcdnlmjcjaaDoorWr17
/-
  ATTRIBUTES: take, of the kind 7. (printed by maketake.py)
-/
namespace Go.Proofs.YtohkbcdnlmjcjaaDoor
open Go.RowKit
set_option maxHeartbeats 6400000 in
set_option maxRecDepth 100000 in
theorem take_7 (lo ab : Nat) (P : Nat → Prop) (a : At) (vp vc vo va v : Value) (us : List OthV) (hd : Nat) (al xs : List Nat) (w : World) (h : DA w lo ab P a vp vc vo us) (hT : Tabs w) (h0 : al[0]? = some hd) (h1 : al[1]? = some 7)
    (hA : ∀ W, Kept (fun k => k = ab) w W → BytesAt W va al) (hB : ∀ W, Kept (fun k => k = ab) w W → BytesAt W v xs) :
    Calls Tryd.prog 43 #[.pointer (some ⟨ab, 0, none⟩), va, v] w (TkPost ab lo P (takeP a hd 7 xs) vo us w) := by
  have H := Lib.hid h
  have HA := Lib.hid hA
  have HB := Lib.hid hB
  have LA := Lib.hid (show 0 < al.length by have := (List.getElem?_eq_some_iff.1 h0).1; omega)
  obtain ⟨b, off, cap, rfl, b0, hd2⟩ := byte_cells (hA w (Kept.refl _ _)) h0
  obtain ⟨b', off', cap', e1, b1, -⟩ := byte_cells (hA w (Kept.refl _ _)) h1
  injection e1 with e1 _ e3
  injection e1 with e1
  injection e1 with e1 e2 _
  subst e1; subst e2; subst e3
  obtain ⟨sv, cv, rfl, -⟩ := hB w (Kept.refl _ _)
  have a1 : (1 : Int) < (al.length : Int) := by have := (List.getElem?_eq_some_iff.1 h1).1; omega
  have a0 : (0 : Int) < (al.length : Int) := by omega
  obtain ⟨hs, hhs⟩ : ∃ hs, bits .and .i64 (hd : Int) 192 = hs := ⟨_, rfl⟩
  obtain ⟨pt, hpt⟩ : ∃ pt, bits .and .u8 (hd : Int) 32 = pt := ⟨_, rfl⟩
  have FB : Hid (flgBad hd 7 = ((hs != 192) || ((pt != 0) && (hs != 192)))) := Lib.hid (by rw [← hhs, ← hpt]; rfl)
  have t1 := hT.flag 7 (by decide)
  have t2 := hT.size 7 (by decide)
  clear h hA hB h0 h1 hT
  go_enter Tryd.func43, Tryd.ntmps43
  go_upto_region 1 with (fail)
  obtain ⟨W0, hW0, qf, hb0, -⟩ := box1 w fltZ 54
  rw [← hW0]
  clear hW0
  have QF := Lib.hid qf
  have B0 := Lib.hid hb0
  have K0 := Lib.hid (Kept.of_below (F := fun k => k = ab) hb0)
  have D0 := Lib.hid (H.out.below hb0)
  have LT := Lib.hid (row_lt H.out.row)
  have c0 : W0.cell? ⟨b, off, none⟩ = some (.int .u8 hd) := cell_below b0 hb0
  have c1 : W0.cell? ⟨b, off + 1, none⟩ = some (.int .u8 7) := cell_below b1 hb0
  have t1 : W0.cell? ⟨0, 7, none⟩ = some (.int .i64 192) := cell_below t1 hb0
  have t2 : W0.cell? ⟨1, 7, none⟩ = some (.int .i64 6) := cell_below t2 hb0
  have g0 : (0 : Int) ≤ (hd : Int) := by omega
  have g1 : (hd : Int) ≤ 255 := by omega
  have CVA := Lib.hid (fun W (hk : Kept (fun k => k = ab) w W) => conv_at (HA.out W hk) LA.out)
  obtain ⟨st, CV⟩ := CVA.out W0 K0.out
  clear qf hb0 b0 b1 hd2
  go_upto_region 3 with (fail)
  go_cut [33] (fun s wx => s = .bool (flgBad hd 7) ∧ W0 = wx)
  case first =>
    clear t2 CV
    by_cases h1 : hs = 192
    · have x1 : (hs != 192) = false := by simp [h1]
      subst h1
      by_cases h2 : pt = 0
      · have E : Hid (flgBad hd 7 = false) := Lib.hid (by rw [FB.out, h2]; rfl)
        subst h2
        go_wp2_with fail
        go_meet
        exact ⟨by rw [E.out], rfl⟩
      · have x2 : (pt != 0) = true := by simpa using h2
        have E : Hid (flgBad hd 7 = ((192 : Int) != 192)) := Lib.hid (by rw [FB.out, x2]; rfl)
        go_wp2_with fail
        go_meet
        exact ⟨by rw [E.out]; rfl, rfl⟩
    · have x1 : (hs != 192) = true := by simpa using h1
      have E : Hid (flgBad hd 7 = true) := Lib.hid (by rw [FB.out, x1]; rfl)
      go_wp2_with fail
      go_meet
      exact ⟨by rw [E.out], rfl⟩
  case rest =>
    obtain ⟨hs1, hw⟩ := hcut
    subst hs1
    subst hw
    clear hhs hpt FB t1
    cases hf : flgBad hd 7 with
    | true =>
      have E : Hid ((takeP a hd 7 xs).1 = 4) := Lib.hid (by unfold takeP; rw [if_pos hf])
      clear hf
      go_wp2_with ((with_reducible refine halt_at (X := .store 54 (.tmp 6) (.tmp 36)) ?_ ?_); (· rfl))
      unfold Halt
      refine st_row rfl 54 (.tmp 6) (.tmp 36) rfl w.heap.size rfl 54 fltZ #[.int .i64 3, .int .i64 4, .string st] rfl QF.out sz_fault rfl (by simp [Value.oneCell']) ?_
      go_wp2_with fail
      exact bodyPost_ret (results_take _ _ w.heap.size #[.int .i64 3, .int .i64 4, .string st] rfl rfl (setRow_heap _ _ _ _ _ _ QF.out)) rfl (tk_bad (c := 4) rfl E.out (by decide) (kept_box K0.out _))
    | false =>
      have HF := Lib.hid hf
      clear hf
      by_cases hn : xs.length = 6
      rotate_left 1
      · have SZ : szBad 7 xs.length = true := by
          generalize xs.length = n at hn
          simp [szBad, sizL]; omega
        have E : Hid ((takeP a hd 7 xs).1 = 5) := Lib.hid (by unfold takeP; rw [if_neg (by rw [HF.out]; decide), if_pos SZ])
        have x3 : ((xs.length : Int) != 6) = true := by
          generalize xs.length = n at hn
          simp; omega
        have x4 : ¬ (xs.length : Int) = 6 := by omega
        clear SZ hn
        go_wp2_with ((with_reducible refine halt_at (X := .store 54 (.tmp 6) (.tmp 61)) ?_ ?_); (· rfl))
        unfold Halt
        refine st_row rfl 54 (.tmp 6) (.tmp 61) rfl w.heap.size rfl 54 fltZ #[.int .i64 3, .int .i64 5, .string st] rfl QF.out sz_fault rfl (by simp [Value.oneCell']) ?_
        go_wp2_with fail
        exact bodyPost_ret (results_take _ _ w.heap.size #[.int .i64 3, .int .i64 5, .string st] rfl rfl (setRow_heap _ _ _ _ _ _ QF.out)) rfl (tk_bad (c := 5) rfl E.out (by decide) (kept_box K0.out _))
      have SZ : Hid (szBad 7 xs.length = false) := Lib.hid (by rw [hn]; decide)
      have x3 : ((xs.length : Int) != 6) = false := by rw [hn]; rfl
      have x4 : ((xs.length : Int) = 6) = True := eq_true (by omega)
      have HN := Lib.hid hn
      clear hn
      have SO := Lib.hid (set_7 lo ab P a vp vc vo (.slice sv xs.length cv) us xs W0 D0.out (HB.out W0 K0.out) HN.out)
      have OK : Hid ((setP a 7 xs).1 = true) := Lib.hid (by simp [setP])
      unfold SetPost at SO
      rw [OK.out] at SO
      go_wp2_with fail
      refine SO.out.mono ?_
      rintro e w1 ⟨rfl, hk1, P1, vp1, vc1, d1, p1⟩
      have K1 := Lib.hid (K0.out.trans hk1)
      have D1 := Lib.hid d1
      have P1H := Lib.hid p1
      have QF1 := Lib.hid ((hk1.block _ (row_lt QF.out) (by have := LT.out; omega)).trans QF.out)
      have SB0 := Lib.hid (Nat.le_trans B0.out.size hk1.size)
      have QF0 := Lib.hid (row_lt QF.out)
      clear hk1 d1 p1 SO t2 c0 c1 CV QF
      obtain ⟨a1', ha1'⟩ : ∃ a1', (setP a 7 xs).2 = a1' := ⟨_, rfl⟩
      rw [ha1'] at D1
      have HA1 := Lib.hid ha1'
      clear ha1'
      have E : Hid (takeP a hd 7 xs = (0, { a1' with has := bits .or .i64 a1'.has (2 ^ 7) })) := Lib.hid (by unfold takeP; rw [if_neg (by rw [HF.out]; decide), if_neg (by rw [SZ.out]; decide), if_neg (by omega)]; rw [if_neg (by rw [OK.out]; decide), HA1.out, if_neg (by rintro ⟨h, -⟩; cases h)]; rw [if_neg (by rintro ⟨h, -⟩; cases h)])
      have HD := Lib.hid (D1.out.below (Below.refl _ _).drew)
      have y0 : (World.drew w1).cell? ⟨ab, 0, none⟩ = some (.int .i64 a1'.has) := HD.out.at 0 _ rfl
      have f0 := row_free HD.out.row 0
      have KD := Lib.hid (K1.out.drew)
      have QD : Hid ((World.drew w1).heap[w.heap.size]? = some (.cells fltZ 54 (0, 0))) := Lib.hid QF1.out
      have wp2 : IntKind.i64.wrap (128 : Int) = 128 := by decide +kernel
      go_upto_region 15 with (fail)
      refine wp_region_held_drew (S := fun _ => True) (by kernel_rfl) ?_ (fun hHeld => ?_)
      · trivial
      generalize World.drew w1 = wd at y0 f0 HD KD QD hHeld ⊢
      refine rgy (i := 0) (v := ?_) (atN rfl) (by kernel_rfl) (fun _ _ _ h => h) ?_ ?_ hHeld ?_; rotate_left 1; (· rfl); (· intro w' hSw; (try clear hHeld); go_simp; try with_reducible rfl)
      try simp only [Act.put, List.setIfInBounds_toArray, List.set_cons_zero, List.set_cons_succ]
      refine rgy (i := 1) (v := ?_) (atN rfl) (by kernel_rfl) (fun _ _ _ h => h) ?_ ?_ hHeld ?_; rotate_left 1; (· rfl); (· intro w' hSw; (try clear hHeld); go_simp; try with_reducible rfl)
      try simp only [Act.put, List.setIfInBounds_toArray, List.set_cons_zero, List.set_cons_succ]
      refine rgy (i := 2) (v := ?_) (atN rfl) (by kernel_rfl) (fun _ _ _ h => h) ?_ ?_ hHeld ?_; rotate_left 1; (· rfl); (· intro w' hSw; (try clear hHeld); go_simp; try with_reducible rfl)
      try simp only [Act.put, List.setIfInBounds_toArray, List.set_cons_zero, List.set_cons_succ]
      refine rgy (i := 4) (v := ?_) (atN rfl) (by kernel_rfl) (fun _ _ _ h => h) ?_ ?_ hHeld ?_; rotate_left 1; (· rfl); (· intro w' hSw; (try clear hHeld); go_simp; try with_reducible rfl)
      try simp only [Act.put, List.setIfInBounds_toArray, List.set_cons_zero, List.set_cons_succ]
      refine rgy (i := 5) (v := ?_) (atN rfl) (by kernel_rfl) (fun _ _ _ h => h) ?_ ?_ hHeld ?_; rotate_left 1; (· rfl); (· intro w' hSw; (try clear hHeld); go_simp; try with_reducible rfl)
      try simp only [Act.put, List.setIfInBounds_toArray, List.set_cons_zero, List.set_cons_succ]
      refine rg_call (i := 3) (atN rfl) (by kernel_rfl) ?_ (fun K hK => ?_); (· rfl); (try clear hb); go_simp; go_wp2_with fail; refine hK.out _ _ ?_ (fun hHeld => ?_); (· trivial); clear hK K
      try simp only [Act.put, List.setIfInBounds_toArray, List.set_cons_zero, List.set_cons_succ]
      refine rgy (i := 6) (v := ?_) (atN rfl) (by kernel_rfl) (fun _ _ _ h => h) ?_ ?_ hHeld ?_; rotate_left 1; (· rfl); (· intro w' hSw; (try clear hHeld); go_simp; try with_reducible rfl)
      try simp only [Act.put, List.setIfInBounds_toArray, List.set_cons_zero, List.set_cons_succ]
      refine rgy (i := 7) (v := ?_) (atN rfl) (by kernel_rfl) (fun _ _ _ h => h) ?_ ?_ hHeld ?_; rotate_left 1; (· rfl); (· intro w' hSw; (try clear hHeld); go_simp; try with_reducible rfl)
      try simp only [Act.put, List.setIfInBounds_toArray, List.set_cons_zero, List.set_cons_succ]
      refine rgy (i := 8) (v := ?_) (atN rfl) (by kernel_rfl) (fun _ _ _ h => h) ?_ ?_ hHeld ?_; rotate_left 1; (· rfl); (· intro w' hSw; (try clear hHeld); go_simp; try with_reducible rfl)
      try simp only [Act.put, List.setIfInBounds_toArray, List.set_cons_zero, List.set_cons_succ]
      refine rg_call (i := 9) (atN rfl) (by kernel_rfl) ?_ (fun K hK => ?_); (· rfl); (try clear hb); go_simp; go_wp2_with fail; refine hK.out _ _ ?_ (fun hHeld => ?_); (· trivial); clear hK K
      try simp only [Act.put]
      refine wpAnyH_done (by kernel_rfl) ?_ _
      obtain ⟨we, hwe⟩ : ∃ we, we = wd.setCell ⟨ab, 0, none⟩ (.int .i64 (bits .or .i64 a1'.has 128)) := ⟨_, rfl⟩
      rw [← hwe]
      have D2 : Hid (DA we lo ab P1 { a1' with has := bits .or .i64 a1'.has 128 } vp1 vc1 vo us) := Lib.hid (by rw [hwe]; exact HD.out.cell 0 _ (by simp [atV]) rfl rfl rfl (has_rng HD.out.rng))
      have KE : Hid (Kept (fun k => k = ab) wd we) := Lib.hid (by rw [hwe]; exact Kept.setCell _ _ rfl)
      have QE := Lib.hid ((KE.out.block _ (row_lt QD.out) (by have := LT.out; omega)).trans QD.out)
      have K2 := Lib.hid (KD.out.trans KE.out)
      have NF := Lib.hid (fun hp => by have := P1H.out _ hp; rcases this with h | h; exact absurd (H.out.plt _ h) (Nat.lt_irrefl _); have := SB0.out; have := QF0.out; omega : ¬ P1 w.heap.size)
      clear hwe y0 f0 HD KD QD KE hHeld D1 K1 QF1
      go_wp2_with ((with_reducible refine halt_at (X := .store 54 (.tmp 6) (.tmp 114)) ?_ ?_); (· rfl))
      unfold Halt
      refine st_row rfl 54 (.tmp 6) (.tmp 114) rfl w.heap.size rfl 54 fltZ fltZ rfl QE.out sz_fault rfl (by simp [Value.oneCell']) ?_
      go_wp2_with fail
      refine bodyPost_ret (results_take _ _ w.heap.size fltZ rfl rfl (setRow_heap _ _ _ _ _ _ QE.out)) rfl ⟨kept_box K2.out _, ?_⟩
      rw [E.out, if_pos rfl]
      exact ⟨rfl, P1, vp1, vc1, D2.out.box LT.out NF.out (fun g hg e => by have := own_lt H.out.oth g hg; omega), fun k hk => (P1H.out k hk).imp_right fun h => Nat.le_trans B0.out.size h⟩
end Go.Proofs.YtohkbcdnlmjcjaaDoor

/-
  ATTRIBUTES: take, of the kind 8. (printed by maketake.py)
-/
namespace Go.Proofs.YtohkbcdnlmjcjaaDoor
open Go.RowKit
set_option maxHeartbeats 6400000 in
set_option maxRecDepth 100000 in
theorem take_8 (lo ab : Nat) (P : Nat → Prop) (a : At) (vp vc vo va v : Value) (us : List OthV) (hd : Nat) (al xs : List Nat) (w : World) (h : DA w lo ab P a vp vc vo us) (hT : Tabs w) (h0 : al[0]? = some hd) (h1 : al[1]? = some 8)
    (hA : ∀ W, Kept (fun k => k = ab) w W → BytesAt W va al) (hB : ∀ W, Kept (fun k => k = ab) w W → BytesAt W v xs) (h8 : a.comms = []) (hx : xs.length ≤ 1048576) :
    Calls Tryd.prog 43 #[.pointer (some ⟨ab, 0, none⟩), va, v] w (TkPost ab lo P (takeP a hd 8 xs) vo us w) := by
  have H := Lib.hid h
  have HA := Lib.hid hA
  have HB := Lib.hid hB
  have HC := Lib.hid h8
  have HX := Lib.hid hx
  clear hx
  clear h8
  have LA := Lib.hid (show 0 < al.length by have := (List.getElem?_eq_some_iff.1 h0).1; omega)
  obtain ⟨b, off, cap, rfl, b0, hd2⟩ := byte_cells (hA w (Kept.refl _ _)) h0
  obtain ⟨b', off', cap', e1, b1, -⟩ := byte_cells (hA w (Kept.refl _ _)) h1
  injection e1 with e1 _ e3
  injection e1 with e1
  injection e1 with e1 e2 _
  subst e1; subst e2; subst e3
  obtain ⟨sv, cv, rfl, -⟩ := hB w (Kept.refl _ _)
  have a1 : (1 : Int) < (al.length : Int) := by have := (List.getElem?_eq_some_iff.1 h1).1; omega
  have a0 : (0 : Int) < (al.length : Int) := by omega
  obtain ⟨hs, hhs⟩ : ∃ hs, bits .and .i64 (hd : Int) 192 = hs := ⟨_, rfl⟩
  obtain ⟨pt, hpt⟩ : ∃ pt, bits .and .u8 (hd : Int) 32 = pt := ⟨_, rfl⟩
  have FB : Hid (flgBad hd 8 = ((hs != 192) || ((pt != 0) && (hs != 192)))) := Lib.hid (by rw [← hhs, ← hpt]; rfl)
  have t1 := hT.flag 8 (by decide)
  have t2 := hT.size 8 (by decide)
  clear h hA hB h0 h1 hT
  go_enter Tryd.func43, Tryd.ntmps43
  go_upto_region 1 with (fail)
  obtain ⟨W0, hW0, qf, hb0, -⟩ := box1 w fltZ 54
  rw [← hW0]
  clear hW0
  have QF := Lib.hid qf
  have B0 := Lib.hid hb0
  have K0 := Lib.hid (Kept.of_below (F := fun k => k = ab) hb0)
  have D0 := Lib.hid (H.out.below hb0)
  have LT := Lib.hid (row_lt H.out.row)
  have c0 : W0.cell? ⟨b, off, none⟩ = some (.int .u8 hd) := cell_below b0 hb0
  have c1 : W0.cell? ⟨b, off + 1, none⟩ = some (.int .u8 8) := cell_below b1 hb0
  have t1 : W0.cell? ⟨0, 8, none⟩ = some (.int .i64 192) := cell_below t1 hb0
  have t2 : W0.cell? ⟨1, 8, none⟩ = some (.int .i64 (-1)) := cell_below t2 hb0
  have g0 : (0 : Int) ≤ (hd : Int) := by omega
  have g1 : (hd : Int) ≤ 255 := by omega
  have CVA := Lib.hid (fun W (hk : Kept (fun k => k = ab) w W) => conv_at (HA.out W hk) LA.out)
  obtain ⟨st, CV⟩ := CVA.out W0 K0.out
  clear qf hb0 b0 b1 hd2
  go_upto_region 3 with (fail)
  go_cut [33] (fun s wx => s = .bool (flgBad hd 8) ∧ W0 = wx)
  case first =>
    clear t2 CV
    by_cases h1 : hs = 192
    · have x1 : (hs != 192) = false := by simp [h1]
      subst h1
      by_cases h2 : pt = 0
      · have E : Hid (flgBad hd 8 = false) := Lib.hid (by rw [FB.out, h2]; rfl)
        subst h2
        go_wp2_with fail
        go_meet
        exact ⟨by rw [E.out], rfl⟩
      · have x2 : (pt != 0) = true := by simpa using h2
        have E : Hid (flgBad hd 8 = ((192 : Int) != 192)) := Lib.hid (by rw [FB.out, x2]; rfl)
        go_wp2_with fail
        go_meet
        exact ⟨by rw [E.out]; rfl, rfl⟩
    · have x1 : (hs != 192) = true := by simpa using h1
      have E : Hid (flgBad hd 8 = true) := Lib.hid (by rw [FB.out, x1]; rfl)
      go_wp2_with fail
      go_meet
      exact ⟨by rw [E.out], rfl⟩
  case rest =>
    obtain ⟨hs1, hw⟩ := hcut
    subst hs1
    subst hw
    clear hhs hpt FB t1
    cases hf : flgBad hd 8 with
    | true =>
      have E : Hid ((takeP a hd 8 xs).1 = 4) := Lib.hid (by unfold takeP; rw [if_pos hf])
      clear hf
      go_wp2_with ((with_reducible refine halt_at (X := .store 54 (.tmp 6) (.tmp 36)) ?_ ?_); (· rfl))
      unfold Halt
      refine st_row rfl 54 (.tmp 6) (.tmp 36) rfl w.heap.size rfl 54 fltZ #[.int .i64 3, .int .i64 4, .string st] rfl QF.out sz_fault rfl (by simp [Value.oneCell']) ?_
      go_wp2_with fail
      exact bodyPost_ret (results_take _ _ w.heap.size #[.int .i64 3, .int .i64 4, .string st] rfl rfl (setRow_heap _ _ _ _ _ _ QF.out)) rfl (tk_bad (c := 4) rfl E.out (by decide) (kept_box K0.out _))
    | false =>
      have HF := Lib.hid hf
      clear hf
      by_cases hn : xs.length % 4 = 0
      rotate_left 1
      · have SZ : szBad 8 xs.length = true := by simp [szBad, sizL]; omega
        have E : Hid ((takeP a hd 8 xs).1 = 5) := Lib.hid (by unfold takeP; rw [if_neg (by rw [HF.out]; decide), if_pos SZ])
        have x3 : ((xs.length : Int) % 4 != 0) = true := by simp; omega
        have x4 : ¬ (xs.length : Int) % 4 = 0 := by omega
        clear SZ hn
        go_wp2_with ((with_reducible refine halt_at (X := .store 54 (.tmp 6) (.tmp 61)) ?_ ?_); (· rfl))
        unfold Halt
        refine st_row rfl 54 (.tmp 6) (.tmp 61) rfl w.heap.size rfl 54 fltZ #[.int .i64 3, .int .i64 5, .string st] rfl QF.out sz_fault rfl (by simp [Value.oneCell']) ?_
        go_wp2_with fail
        exact bodyPost_ret (results_take _ _ w.heap.size #[.int .i64 3, .int .i64 5, .string st] rfl rfl (setRow_heap _ _ _ _ _ _ QF.out)) rfl (tk_bad (c := 5) rfl E.out (by decide) (kept_box K0.out _))
      have SZ : Hid (szBad 8 xs.length = false) := Lib.hid (by simp [szBad, sizL]; omega)
      have x3 : ((xs.length : Int) % 4 != 0) = false := by simp; omega
      have x4 : ((xs.length : Int) % 4 = 0) = True := eq_true (by omega)
      have HN := Lib.hid hn
      clear hn
      have w5 : wrap64 ((xs.length : Int) / 4) = (xs.length : Int) / 4 := IntWalk.wrap64_in _ (by have := HX.out; omega)
      by_cases hg : xs.length / 4 > 256
      · have E : Hid ((takeP a hd 8 xs).1 = 9) := Lib.hid (by unfold takeP; rw [if_neg (by rw [HF.out]; decide), if_neg (by rw [SZ.out]; decide), if_pos ⟨rfl, hg⟩])
        have x5 : decide ((xs.length : Int) / 4 > 256) = true := by simp; omega
        have x6 : (xs.length : Int) / 4 > 256 := by omega
        clear hg
        go_wp2_with ((with_reducible refine halt_at (X := .store 54 (.tmp 6) (.tmp 72)) ?_ ?_); (· rfl))
        unfold Halt
        refine st_row rfl 54 (.tmp 6) (.tmp 72) rfl w.heap.size rfl 54 fltZ #[.int .i64 3, .int .i64 9, .string st] rfl QF.out sz_fault rfl (by simp [Value.oneCell']) ?_
        go_wp2_with fail
        exact bodyPost_ret (results_take _ _ w.heap.size #[.int .i64 3, .int .i64 9, .string st] rfl rfl (setRow_heap _ _ _ _ _ _ QF.out)) rfl (tk_bad (c := 9) rfl E.out (by decide) (kept_box K0.out _))
      have x5 : decide ((xs.length : Int) / 4 > 256) = false := by simp; omega
      have x6 : ¬ (xs.length : Int) / 4 > 256 := by omega
      have HG := Lib.hid hg
      clear hg
      have SO := Lib.hid (set_8 lo ab P a vp vc vo (.slice sv xs.length cv) us xs W0 D0.out (fun W hk => HB.out W (K0.out.trans hk)) HC.out HN.out HX.out)
      have OK : Hid ((setP a 8 xs).1 = true) := Lib.hid (by simp [setP])
      unfold SetPost at SO
      rw [OK.out] at SO
      go_wp2_with fail
      refine SO.out.mono ?_
      rintro e w1 ⟨rfl, hk1, P1, vp1, vc1, d1, p1⟩
      have K1 := Lib.hid (K0.out.trans hk1)
      have D1 := Lib.hid d1
      have P1H := Lib.hid p1
      have QF1 := Lib.hid ((hk1.block _ (row_lt QF.out) (by have := LT.out; omega)).trans QF.out)
      have SB0 := Lib.hid (Nat.le_trans B0.out.size hk1.size)
      have QF0 := Lib.hid (row_lt QF.out)
      clear hk1 d1 p1 SO t2 c0 c1 CV QF
      obtain ⟨a1', ha1'⟩ : ∃ a1', (setP a 8 xs).2 = a1' := ⟨_, rfl⟩
      rw [ha1'] at D1
      have HA1 := Lib.hid ha1'
      clear ha1'
      have E : Hid (takeP a hd 8 xs = (0, { a1' with has := bits .or .i64 a1'.has (2 ^ 8) })) := Lib.hid (by unfold takeP; rw [if_neg (by rw [HF.out]; decide), if_neg (by rw [SZ.out]; decide), if_neg (by have := HG.out; omega)]; rw [if_neg (by rw [OK.out]; decide), HA1.out, if_neg (by rintro ⟨h, -⟩; cases h)]; rw [if_neg (by rintro ⟨h, -⟩; cases h)])
      have HD := Lib.hid (D1.out.below (Below.refl _ _).drew)
      have y0 : (World.drew w1).cell? ⟨ab, 0, none⟩ = some (.int .i64 a1'.has) := HD.out.at 0 _ rfl
      have f0 := row_free HD.out.row 0
      have KD := Lib.hid (K1.out.drew)
      have QD : Hid ((World.drew w1).heap[w.heap.size]? = some (.cells fltZ 54 (0, 0))) := Lib.hid QF1.out
      have wp2 : IntKind.i64.wrap (256 : Int) = 256 := by decide +kernel
      go_upto_region 15 with (fail)
      refine wp_region_held_drew (S := fun _ => True) (by kernel_rfl) ?_ (fun hHeld => ?_)
      · trivial
      generalize World.drew w1 = wd at y0 f0 HD KD QD hHeld ⊢
      refine rgy (i := 0) (v := ?_) (atN rfl) (by kernel_rfl) (fun _ _ _ h => h) ?_ ?_ hHeld ?_; rotate_left 1; (· rfl); (· intro w' hSw; (try clear hHeld); go_simp; try with_reducible rfl)
      try simp only [Act.put, List.setIfInBounds_toArray, List.set_cons_zero, List.set_cons_succ]
      refine rgy (i := 1) (v := ?_) (atN rfl) (by kernel_rfl) (fun _ _ _ h => h) ?_ ?_ hHeld ?_; rotate_left 1; (· rfl); (· intro w' hSw; (try clear hHeld); go_simp; try with_reducible rfl)
      try simp only [Act.put, List.setIfInBounds_toArray, List.set_cons_zero, List.set_cons_succ]
      refine rgy (i := 2) (v := ?_) (atN rfl) (by kernel_rfl) (fun _ _ _ h => h) ?_ ?_ hHeld ?_; rotate_left 1; (· rfl); (· intro w' hSw; (try clear hHeld); go_simp; try with_reducible rfl)
      try simp only [Act.put, List.setIfInBounds_toArray, List.set_cons_zero, List.set_cons_succ]
      refine rgy (i := 4) (v := ?_) (atN rfl) (by kernel_rfl) (fun _ _ _ h => h) ?_ ?_ hHeld ?_; rotate_left 1; (· rfl); (· intro w' hSw; (try clear hHeld); go_simp; try with_reducible rfl)
      try simp only [Act.put, List.setIfInBounds_toArray, List.set_cons_zero, List.set_cons_succ]
      refine rgy (i := 5) (v := ?_) (atN rfl) (by kernel_rfl) (fun _ _ _ h => h) ?_ ?_ hHeld ?_; rotate_left 1; (· rfl); (· intro w' hSw; (try clear hHeld); go_simp; try with_reducible rfl)
      try simp only [Act.put, List.setIfInBounds_toArray, List.set_cons_zero, List.set_cons_succ]
      refine rg_call (i := 3) (atN rfl) (by kernel_rfl) ?_ (fun K hK => ?_); (· rfl); (try clear hb); go_simp; go_wp2_with fail; refine hK.out _ _ ?_ (fun hHeld => ?_); (· trivial); clear hK K
      try simp only [Act.put, List.setIfInBounds_toArray, List.set_cons_zero, List.set_cons_succ]
      refine rgy (i := 6) (v := ?_) (atN rfl) (by kernel_rfl) (fun _ _ _ h => h) ?_ ?_ hHeld ?_; rotate_left 1; (· rfl); (· intro w' hSw; (try clear hHeld); go_simp; try with_reducible rfl)
      try simp only [Act.put, List.setIfInBounds_toArray, List.set_cons_zero, List.set_cons_succ]
      refine rgy (i := 7) (v := ?_) (atN rfl) (by kernel_rfl) (fun _ _ _ h => h) ?_ ?_ hHeld ?_; rotate_left 1; (· rfl); (· intro w' hSw; (try clear hHeld); go_simp; try with_reducible rfl)
      try simp only [Act.put, List.setIfInBounds_toArray, List.set_cons_zero, List.set_cons_succ]
      refine rgy (i := 8) (v := ?_) (atN rfl) (by kernel_rfl) (fun _ _ _ h => h) ?_ ?_ hHeld ?_; rotate_left 1; (· rfl); (· intro w' hSw; (try clear hHeld); go_simp; try with_reducible rfl)
      try simp only [Act.put, List.setIfInBounds_toArray, List.set_cons_zero, List.set_cons_succ]
      refine rg_call (i := 9) (atN rfl) (by kernel_rfl) ?_ (fun K hK => ?_); (· rfl); (try clear hb); go_simp; go_wp2_with fail; refine hK.out _ _ ?_ (fun hHeld => ?_); (· trivial); clear hK K
      try simp only [Act.put]
      refine wpAnyH_done (by kernel_rfl) ?_ _
      obtain ⟨we, hwe⟩ : ∃ we, we = wd.setCell ⟨ab, 0, none⟩ (.int .i64 (bits .or .i64 a1'.has 256)) := ⟨_, rfl⟩
      rw [← hwe]
      have D2 : Hid (DA we lo ab P1 { a1' with has := bits .or .i64 a1'.has 256 } vp1 vc1 vo us) := Lib.hid (by rw [hwe]; exact HD.out.cell 0 _ (by simp [atV]) rfl rfl rfl (has_rng HD.out.rng))
      have KE : Hid (Kept (fun k => k = ab) wd we) := Lib.hid (by rw [hwe]; exact Kept.setCell _ _ rfl)
      have QE := Lib.hid ((KE.out.block _ (row_lt QD.out) (by have := LT.out; omega)).trans QD.out)
      have K2 := Lib.hid (KD.out.trans KE.out)
      have NF := Lib.hid (fun hp => by have := P1H.out _ hp; rcases this with h | h; exact absurd (H.out.plt _ h) (Nat.lt_irrefl _); have := SB0.out; have := QF0.out; omega : ¬ P1 w.heap.size)
      clear hwe y0 f0 HD KD QD KE hHeld D1 K1 QF1
      go_wp2_with ((with_reducible refine halt_at (X := .store 54 (.tmp 6) (.tmp 114)) ?_ ?_); (· rfl))
      unfold Halt
      refine st_row rfl 54 (.tmp 6) (.tmp 114) rfl w.heap.size rfl 54 fltZ fltZ rfl QE.out sz_fault rfl (by simp [Value.oneCell']) ?_
      go_wp2_with fail
      refine bodyPost_ret (results_take _ _ w.heap.size fltZ rfl rfl (setRow_heap _ _ _ _ _ _ QE.out)) rfl ⟨kept_box K2.out _, ?_⟩
      rw [E.out, if_pos rfl]
      exact ⟨rfl, P1, vp1, vc1, D2.out.box LT.out NF.out (fun g hg e => by have := own_lt H.out.oth g hg; omega), fun k hk => (P1H.out k hk).imp_right fun h => Nat.le_trans B0.out.size h⟩
end Go.Proofs.YtohkbcdnlmjcjaaDoor

/-
  ATTRIBUTES: Decode, plain; what holds on its way.
-/
namespace Go.Proofs.YtohkbcdnlmjcjaaDoor
open Go.RowKit

def decStep (a : At) (xs : List Nat) : Nat × At :=
  if 1 ≤ xs.getD 1 0 ∧ xs.getD 1 0 ≤ 8 then takeP a (xs.getD 0 0) (xs.getD 1 0) ((xs.take (cutN xs)).drop (fromN xs)) else othP a (xs.getD 0 0) (xs.getD 1 0) ((xs.take (cutN xs)).drop (fromN xs))
set_option maxRecDepth 100000 in
theorem cut_ge (xs : List Nat) : 3 ≤ cutN xs := by
  unfold cutN
  rcases from_le xs with h | h <;> omega
/-- bytes read: what is wrong with them, 0: nothing; what there is. -/
def decP (a : At) (seen : List Nat) (xs : List Nat) : Nat × At :=
  if _h : xs = [] then (0, a)
  else if xs.length < fromN xs ∨ xs.length < cutN xs ∨ xs.getD 1 0 ∈ seen then (1, a)
  else if (decStep a xs).1 = 0 then decP (decStep a xs).2 (xs.getD 1 0 :: seen) (xs.drop (cutN xs)) else ((decStep a xs).1, a)
termination_by xs.length
decreasing_by
  have := cut_ge xs
  have : 0 < xs.length := List.length_pos_iff.2 _h
  rw [List.length_drop]
  omega
set_option maxRecDepth 100000 in
theorem decP_nil (a : At) (seen : List Nat) : decP a seen [] = (0, a) := by rw [decP]; rfl
set_option maxRecDepth 100000 in
theorem decP_bad {a : At} {seen xs : List Nat} (h0 : xs ≠ []) (h : xs.length < fromN xs ∨ xs.length < cutN xs ∨ xs.getD 1 0 ∈ seen) : decP a seen xs = (1, a) := by rw [decP, dif_neg h0, if_pos h]
set_option maxRecDepth 100000 in
theorem decP_next {a : At} {seen xs : List Nat} (h0 : xs ≠ []) (h : ¬ (xs.length < fromN xs ∨ xs.length < cutN xs ∨ xs.getD 1 0 ∈ seen)) (hs : (decStep a xs).1 = 0) : decP a seen xs = decP (decStep a xs).2 (xs.getD 1 0 :: seen) (xs.drop (cutN xs)) := by rw [decP, dif_neg h0, if_neg h, if_pos hs]
set_option maxRecDepth 100000 in
theorem decP_fault {a : At} {seen xs : List Nat} (h0 : xs ≠ []) (h : ¬ (xs.length < fromN xs ∨ xs.length < cutN xs ∨ xs.getD 1 0 ∈ seen)) (hs : (decStep a xs).1 ≠ 0) : decP a seen xs = ((decStep a xs).1, a) := by rw [decP, dif_neg h0, if_neg h, if_neg hs]
def atO : At := ⟨0, 0, [], 0, 0, 0, 0, 0, [], []⟩
set_option maxRecDepth 100000 in
theorem zero_all : ∀ t, t < 256 → Tryd.zeroCells79[t]? = some (.bool false) := by
  intro t ht
  have : Tryd.zeroCells79 = Array.replicate 256 (.bool false) := by kernel_rfl
  rw [this]
  simp [ht]
set_option maxRecDepth 100000 in
theorem flt_any (w : World) (n : Int) (s : ByteArray) : (binOp .neq 54 (.agg #[.int .i64 3, .int .i64 n, .string s]) (.agg fltZ)).run Tryd.prog w = .ok (.bool true) w := by kernel_rfl
/-- what holds while attributes are read. -/
structure DS (w wr : World) (P : Nat → Prop) (a : At) (vp vc vo : Value) (us : List OthV) (seen : List Nat) : Prop where
  da : DA wr (w.heap.size + 4) (w.heap.size + 1 + 1) P a vp vc vo us
  phi : ∀ k, P k → w.heap.size + 4 ≤ k
  sn : ∃ SC : Array Value, wr.heap[w.heap.size + 1 + 1 + 1]? = some (.cells SC 79 (0, 0)) ∧ ∀ t, t < 256 → SC[t]? = some (.bool (decide (t ∈ seen)))
  r0 : wr.heap[w.heap.size]? = some (.cells atZ6 28 (0, 0))
  r1 : wr.heap[w.heap.size + 1]? = some (.cells fltZ 54 (0, 0))
  cm : 8 ∉ seen → a.comms = []
  be : Below w.heap.size w wr
section
variable {w wr w' : World} {P P' G : Nat → Prop} {a a' : At} {vp vc vo vp' vc' vo' : Value} {us us' : List OthV} {seen : List Nat}
set_option maxRecDepth 100000 in
theorem DS.big (h : DS w wr P a vp vc vo us seen) : w.heap.size + 4 ≤ wr.heap.size := by
  obtain ⟨SC, h1, -⟩ := h.sn
  have := row_lt h1
  omega
set_option maxRecDepth 100000 in
/-- what turns other blocks only. -/
theorem DS.kept (h : DS w wr P a vp vc vo us seen) (hk : Kept G wr w') (hG : ∀ k, G k → w.heap.size + 4 ≤ k ∧ ¬ P k ∧ ¬ vo.ownBlock = some k) : DS w w' P a vp vc vo us seen := by
  obtain ⟨SC, h1, h2⟩ := h.sn
  have n : ∀ k, k < w.heap.size + 4 → ¬ G k := fun k hk hg => by have := (hG k hg).1; omega
  exact ⟨h.da.kept hk (n _ (by omega)) (fun k hp hg => (hG k hg).2.1 hp) (fun k ho hg => (hG k hg).2.2 ho), h.phi, ⟨SC, (hk.block _ (row_lt h1) (n _ (by omega))).trans h1, h2⟩, (hk.block _ (row_lt h.r0) (n _ (by omega))).trans h.r0, (hk.block _ (row_lt h.r1) (n _ (by omega))).trans h.r1, h.cm,
    h.be.trans (hk.below h.be.size (fun k hg => by have := (hG k hg).1; omega))⟩
set_option maxRecDepth 100000 in
theorem DS.below (h : DS w wr P a vp vc vo us seen) (hb : Below wr.heap.size wr w') : DS w w' P a vp vc vo us seen := h.kept (G := fun _ => False) (Kept.of_below hb) fun _ h => h.elim
set_option maxRecDepth 100000 in
/-- a kind is noted. -/
theorem DS.mark (h : DS w wr P a vp vc vo us seen) {t : Nat} (ht : t < 256) : DS w (wr.setCell ⟨w.heap.size + 1 + 1 + 1, t, none⟩ (.bool true)) P a vp vc vo us (t :: seen) := by
  obtain ⟨SC, h1, h2⟩ := h.sn
  have hk : Kept (fun k => k = w.heap.size + 1 + 1 + 1) wr (wr.setCell ⟨w.heap.size + 1 + 1 + 1, t, none⟩ (.bool true)) := Kept.setCell _ _ rfl
  refine ⟨h.da.kept hk (by omega) (fun k hp e => by have := h.phi k hp; omega) (fun k ho e => by have := own_form_le h.da.oth k ho; omega), h.phi, ⟨_, set_same h1 t (.bool true), fun i hi => ?_⟩, (hk.block _ (row_lt h.r0) (by omega)).trans h.r0, (hk.block _ (row_lt h.r1) (by omega)).trans h.r1, fun h8 => h.cm fun hm => h8 (List.mem_cons_of_mem _ hm), h.be.trans (hk.below h.be.size (fun k hg => by omega))⟩
  rw [Array.getElem?_setIfInBounds]
  have hsz : t < SC.size := (Array.getElem?_eq_some_iff.1 (h2 t ht)).1
  by_cases hti : t = i
  · subst hti
    rw [if_pos rfl, if_pos hsz]
    simp
  · rw [if_neg hti, h2 i hi]
    have : i ∈ t :: seen ↔ i ∈ seen := by simp [show i ≠ t from fun e => hti e.symm]
    rw [decide_eq_decide.2 this]
set_option maxRecDepth 100000 in
/-- an attribute was taken. -/
theorem DS.next (h : DS w wr P a vp vc vo us seen) (hk : Kept (fun k => k = w.heap.size + 1 + 1 ∨ vo.ownBlock = some k) wr w') (d : DA w' (w.heap.size + 4) (w.heap.size + 1 + 1) P' a' vp' vc' vo' us') (hP : ∀ k, P' k → P k ∨ wr.heap.size ≤ k) (hc : 8 ∉ seen → a'.comms = []) : DS w w' P' a' vp' vc' vo' us' seen := by
  obtain ⟨SC, h1, h2⟩ := h.sn
  have ob : ∀ k, vo.ownBlock = some k → w.heap.size + 4 ≤ k := own_form_le h.da.oth
  have n : ∀ k, k < w.heap.size + 4 → k ≠ w.heap.size + 1 + 1 → ¬ (k = w.heap.size + 1 + 1 ∨ vo.ownBlock = some k) := fun k hk hne hg => by
    rcases hg with e | e
    · exact hne e
    · have := ob k e; omega
  refine ⟨d, fun k hk' => ?_, ⟨SC, (hk.block _ (row_lt h1) (n _ (by omega) (by omega))).trans h1, h2⟩, (hk.block _ (row_lt h.r0) (n _ (by omega) (by omega))).trans h.r0, (hk.block _ (row_lt h.r1) (n _ (by omega) (by omega))).trans h.r1, hc,
    h.be.trans (hk.below h.be.size (fun k hg => by rcases hg with e | e; omega; have := ob k e; omega))⟩
  rcases hP k hk' with e | e
  · exact h.phi k e
  · have := h.big; omega
set_option maxRecDepth 100000 in
/-- what stays, whatever became of it. -/
theorem DS.left (h : DS w wr P a vp vc vo us seen) (hk : Kept (fun k => k = w.heap.size + 1 + 1 ∨ vo.ownBlock = some k) wr w') : w'.heap[w.heap.size]? = some (.cells atZ6 28 (0, 0)) ∧ w'.heap[w.heap.size + 1]? = some (.cells fltZ 54 (0, 0)) ∧ Below w.heap.size w w' := by
  have ob : ∀ k, vo.ownBlock = some k → w.heap.size + 4 ≤ k := own_form_le h.da.oth
  have n : ∀ k, k < w.heap.size + 2 → ¬ (k = w.heap.size + 1 + 1 ∨ vo.ownBlock = some k) := fun k hk e => by
    rcases e with e | e
    · omega
    · have := ob k e; omega
  exact ⟨(hk.block _ (row_lt h.r0) (n _ (by omega))).trans h.r0, (hk.block _ (row_lt h.r1) (n _ (by omega))).trans h.r1, h.be.trans (hk.below h.be.size (fun k hg => by rcases hg with e | e; omega; have := ob k e; omega))⟩
set_option maxRecDepth 100000 in
theorem getD_at {xs : List Nat} {i x : Nat} (h : xs[i]? = some x) : xs.getD i 0 = x := by simp [List.getD, h]
set_option maxRecDepth 100000 in
theorem known_iff {t : Nat} : knownB (t : Int) = true ↔ 1 ≤ t ∧ t ≤ 8 := by
  unfold knownB
  simp only [Bool.and_eq_true, decide_eq_true_eq]
  omega
set_option maxRecDepth 100000 in
/-- the others in another order. -/
theorem DS.sorted (h : DS w wr P a vp vc vo us seen) (hp : us'.Perm us) (ho : w'.ownsRow (w.heap.size + 4) 61 2 vo us'.length (us'.flatMap otC)) (hk : Kept (fun b => vo.ownBlock = some b) wr w') : DS w w' P { a with others := us'.map (·.1) } vp vc vo us' seen := by
  obtain ⟨SC, h1, h2⟩ := h.sn
  have ob : ∀ k, vo.ownBlock = some k → w.heap.size + 4 ≤ k := own_form_le h.da.oth
  have n : ∀ k, k < w.heap.size + 4 → ¬ vo.ownBlock = some k := fun k hk e => by have := ob k e; omega
  refine ⟨⟨(hk.block _ (row_lt h.da.row) (n _ (by omega))).trans h.da.row, ho, ?_, rfl, h.da.sep, h.da.seo, fun k hk' => Nat.lt_of_lt_of_le (h.da.plt k hk') hk.size, h.da.rng, h.da.cnl⟩, h.phi, ⟨SC, (hk.block _ (row_lt h1) (n _ (by omega))).trans h1, h2⟩,
    (hk.block _ (row_lt h.r0) (n _ (by omega))).trans h.r0, (hk.block _ (row_lt h.r1) (n _ (by omega))).trans h.r1, h.cm, h.be.trans (hk.below h.be.size (fun k hg => by have := ob k hg; omega))⟩
  exact (h.da.dat.kept hk fun k _ hP e => (h.da.seo k e).1 hP).imp fun W h => ⟨h.1, h.2.1, fun x hx => h.2.2 x (hp.mem_iff.1 hx)⟩
end
set_option maxRecDepth 100000 in
theorem setP_keep (a : At) (t : Nat) (xs : List Nat) : (setP a t xs).2.others = a.others ∧ (t ≠ 8 → (setP a t xs).2.comms = a.comms) := by
  unfold setP
  split
  · exact ⟨rfl, fun _ => rfl⟩
  split
  · cases rdPath xs <;> exact ⟨rfl, fun _ => rfl⟩
  split
  · exact ⟨rfl, fun _ => rfl⟩
  split
  · exact ⟨rfl, fun _ => rfl⟩
  split
  · exact ⟨rfl, fun _ => rfl⟩
  split
  · exact ⟨rfl, fun _ => rfl⟩
  split
  · rename_i h; exact ⟨rfl, fun h8 => absurd h h8⟩
  · exact ⟨rfl, fun _ => rfl⟩
set_option maxRecDepth 100000 in
theorem takeP_keep (a : At) (hd t : Nat) (xs : List Nat) : (takeP a hd t xs).2.others = a.others ∧ (t ≠ 8 → (takeP a hd t xs).2.comms = a.comms) := by
  have h := setP_keep a t xs
  unfold takeP
  repeat' split
  all_goals first | exact ⟨rfl, fun _ => rfl⟩ | exact h
set_option maxRecDepth 100000 in
theorem othP_keep (a : At) (hd t : Nat) (xs : List Nat) : (othP a hd t xs).2.others.length ≤ a.others.length + 1 ∧ (othP a hd t xs).2.comms = a.comms := by
  unfold othP
  repeat' split
  all_goals first | exact ⟨Nat.le_succ _, rfl⟩ | exact ⟨by simp, rfl⟩
set_option maxRecDepth 100000 in
theorem step_len (a : At) (xs : List Nat) : (decStep a xs).2.others.length ≤ a.others.length + 1 := by
  unfold decStep
  split
  · rw [(takeP_keep ..).1]; exact Nat.le_succ _
  · exact (othP_keep ..).1
set_option maxRecDepth 100000 in
theorem step_com (a : At) (xs : List Nat) (h8 : xs.getD 1 0 ≠ 8) : (decStep a xs).2.comms = a.comms := by
  unfold decStep
  split
  · exact (takeP_keep ..).2 h8
  · exact (othP_keep ..).2
/-- what one attribute's step leaves. -/
def StPost (ab lo : Nat) (P : Nat → Prop) (r : Nat × At) (vo : Value) (w : World) (e : Ending) (w' : World) : Prop :=
  ∃ (c s : Int) (st : ByteArray), e = .returned (.agg #[.int .i64 c, .int .i64 s, .string st]) ∧ Kept (fun k => k = ab ∨ vo.ownBlock = some k) w w' ∧
    ((c = 0 ∧ s = 0 ∧ st = ⟨#[]⟩ ∧ r.1 = 0 ∧ ∃ P' vp' vc' vo' us', DA w' lo ab P' r.2 vp' vc' vo' us' ∧ (∀ k, P' k → P k ∨ w.heap.size ≤ k) ∧ (∀ k, vo'.ownBlock = some k → vo.ownBlock = some k ∨ w.heap.size ≤ k)) ∨ (c = 3 ∧ s = (r.1 : Int) ∧ r.1 ≠ 0))
set_option maxRecDepth 100000 in
theorem tk_st {ab lo : Nat} {P : Nat → Prop} {r : Nat × At} {vo : Value} {us : List OthV} {w w' : World} {e : Ending} (h : TkPost ab lo P r vo us w e w') : StPost ab lo P r vo w e w' := by
  obtain ⟨hk, h⟩ := h
  split at h
  · rename_i h0
    obtain ⟨rfl, P', vp', vc', d, hp⟩ := h
    exact ⟨0, 0, ⟨#[]⟩, rfl, hk.imp fun k h => .inl h, .inl ⟨rfl, rfl, rfl, h0, P', vp', vc', vo, us, d, hp, fun k hk => .inl hk⟩⟩
  · rename_i h0
    obtain ⟨st, rfl⟩ := h
    exact ⟨3, r.1, st, rfl, hk.imp fun k h => .inl h, .inr ⟨rfl, rfl, h0⟩⟩
set_option maxRecDepth 100000 in
theorem ot_st {ab lo : Nat} {P : Nat → Prop} {r : Nat × At} {vp vc vo : Value} {w w' : World} {e : Ending} (h : OtPost ab lo P r vp vc vo w e w') : StPost ab lo P r vo w e w' := by
  obtain ⟨hk, h⟩ := h
  split at h
  · rename_i h0
    obtain ⟨rfl, P', vo', us', d, hp, ho⟩ := h
    exact ⟨0, 0, ⟨#[]⟩, rfl, hk, .inl ⟨rfl, rfl, rfl, h0, P', vp, vc, vo', us', d, hp, ho⟩⟩
  · rename_i h0
    obtain ⟨st, rfl⟩ := h
    exact ⟨3, r.1, st, rfl, hk, .inr ⟨rfl, rfl, h0⟩⟩
set_option maxRecDepth 100000 in
/-- take, of any kind. -/
theorem at_take (lo ab : Nat) (P : Nat → Prop) (a : At) (vp vc vo va v : Value) (us : List OthV) (hd t : Nat) (al xs : List Nat) (w : World) (h : DA w lo ab P a vp vc vo us) (hT : Tabs w) (h0 : al[0]? = some hd) (h1 : al[1]? = some t)
    (hA : ∀ W, Kept (fun k => k = ab) w W → BytesAt W va al) (hB : ∀ W, Kept (fun k => k = ab) w W → BytesAt W v xs) (t1 : 1 ≤ t) (t8 : t ≤ 8) (h8 : t = 8 → a.comms = []) (hx : xs.length ≤ 1048576) :
    Calls Tryd.prog 43 #[.pointer (some ⟨ab, 0, none⟩), va, v] w (TkPost ab lo P (takeP a hd t xs) vo us w) := by
  obtain rfl | rfl | rfl | rfl | rfl | rfl | rfl | rfl : t = 1 ∨ t = 2 ∨ t = 3 ∨ t = 4 ∨ t = 5 ∨ t = 6 ∨ t = 7 ∨ t = 8 := by omega
  · exact take_1 lo ab P a vp vc vo va v us hd al xs w h hT h0 h1 hA hB
  · exact take_2 lo ab P a vp vc vo va v us hd al xs w h hT h0 h1 hA hB hx
  · exact take_3 lo ab P a vp vc vo va v us hd al xs w h hT h0 h1 hA hB
  · exact take_4 lo ab P a vp vc vo va v us hd al xs w h hT h0 h1 hA hB
  · exact take_5 lo ab P a vp vc vo va v us hd al xs w h hT h0 h1 hA hB
  · exact take_6 lo ab P a vp vc vo va v us hd al xs w h hT h0 h1 hA hB
  · exact take_7 lo ab P a vp vc vo va v us hd al xs w h hT h0 h1 hA hB
  · exact take_8 lo ab P a vp vc vo va v us hd al xs w h hT h0 h1 hA hB (h8 rfl) hx
end Go.Proofs.YtohkbcdnlmjcjaaDoor
