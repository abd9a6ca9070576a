/- Texts of one proof, one behind another. -/
import Derived.Test.YtohkbcdnlmjcjaaDoorWr13
import Derived.Shelf.SlGeneric
import Derived.Shelf.SlSortCmp.NoneTotal
import Derived.Ground.SlsfProg
import Derived.Test.YtohkbcdnlmjcjaaDoorProg
/-
  ATTRIBUTES: other: an attribute that isn't known.
-/
namespace Go.Proofs.YtohkbcdnlmjcjaaDoor
open Go.RowKit

set_option maxRecDepth 100000 in
theorem DA.snoc {W W1 W2 W3 : World} {lo ab : Nat} {P : Nat → Prop} {a : At} {vp vc vo v' u : Value} {us : List OthV} {t : Int} {xs : List Nat} (h : DA W lo ab P a vp vc vo us) (hb1 : Below W.heap.size W W1) (hu : Fresh W.heap.size W1 fun W => BytesAt W u xs) (hb2 : Below W1.heap.size W1 W2)
    (ho : W3.ownsRow lo 61 2 v' (us.length + 1) (us.flatMap otC ++ [.int .i64 t, u])) (hk : Kept (fun b => vo.ownBlock = some b) W2 W3) (hv : v'.ownBlock = vo.ownBlock ∨ v'.ownBlock = some W2.heap.size) (ht : I64r t) :
    DA (W3.setCell ⟨ab, 9, none⟩ v') lo ab (fun k => P k ∨ (W.heap.size ≤ k ∧ k < W1.heap.size)) { a with others := a.others ++ [(t, xs)] } vp vc v' (us ++ [((t, xs), u)]) := by
  have hab := row_lt h.row
  have hb12 := below_on hb1 hb2
  have nab : ¬ vo.ownBlock = some ab := fun e => (h.seo ab e).2 rfl
  have hrow : W3.heap[ab]? = some (.cells (atV a vp vc vo).toArray 28 (0, 0)) := (hk.block ab (Nat.lt_of_lt_of_le hab hb12.size) nab).trans ((hb12.block ab hab).trans h.row)
  have ks : Kept (fun k => k = ab) W3 (W3.setCell ⟨ab, 9, none⟩ v') := Kept.setCell _ _ rfl
  have hs : (W3.setCell ⟨ab, 9, none⟩ v').heap.size = W3.heap.size := by simp [World.setCell]
  have own' : ∀ g, v'.ownBlock = some g → vo.ownBlock = some g ∨ g = W2.heap.size := fun g hg => by
    rcases hv with e | e
    · exact .inl (e ▸ hg)
    · rw [e] at hg; exact .inr (Option.some.inj hg).symm
  have sizes : W.heap.size ≤ W1.heap.size ∧ W1.heap.size ≤ W2.heap.size ∧ W2.heap.size ≤ W3.heap.size := ⟨hb1.size, hb2.size, hk.size⟩
  refine ⟨?_, ?_, ?_, ?_, ?_, ?_, ?_, h.rng, h.cnl⟩
  · have := set_same hrow 9 v'
    simpa [atV] using this
  · rw [List.length_append, List.flatMap_append]
    refine own_kept (F := fun k => k = ab) ?_ ks fun g hg e => ?_
    · simpa [otC] using ho
    · subst e
      rcases own' g hg with e | e
      · exact nab e
      · omega
  · have d1 : On P W3 _ := (h.dat.below hb12).kept hk fun k _ hP e => (h.seo k e).1 hP
    have d2 : On (fun k => W.heap.size ≤ k ∧ k < W1.heap.size) W3 (fun W => BytesAt W u xs) := ((hu.wide (G := fun k => W.heap.size ≤ k ∧ k < W1.heap.size) fun k hk hl => ⟨hk, hl⟩).below hb2).kept hk fun k _ hF e => by
      have := own_lt h.oth k e; omega
    have d1' := (d1.wide (G := fun k => P k ∨ (W.heap.size ≤ k ∧ k < W1.heap.size)) fun k hk _ => .inl hk).kept ks fun k _ hF e => by
      subst e
      rcases hF with hF | hF
      · exact h.sep hF
      · omega
    have d2' := (d2.wide (G := fun k => P k ∨ (W.heap.size ≤ k ∧ k < W1.heap.size)) fun k hk _ => .inr hk).kept ks fun k _ hF e => by
      subst e
      rcases hF with hF | hF
      · exact h.sep hF
      · omega
    refine (d1'.and d2').imp fun W h => ⟨h.1.1, h.1.2.1, fun x hx => ?_⟩
    rcases List.mem_append.1 hx with hx | hx
    · exact h.1.2.2 x hx
    · rw [List.mem_singleton.1 hx]
      exact ⟨ht, h.2⟩
  · rw [List.map_append, h.osm]; rfl
  · rintro (hF | hF)
    · exact h.sep hF
    · omega
  · intro g hg
    rcases own' g hg with e | e
    · refine ⟨?_, (h.seo g e).2⟩
      rintro (hF | hF)
      · exact (h.seo g e).1 hF
      · have := own_lt h.oth g e; omega
    · subst e
      refine ⟨?_, by omega⟩
      rintro (hF | hF)
      · have := h.plt _ hF; omega
      · omega
  · rintro k (hF | hF)
    · have := h.plt k hF; omega
    · omega
/-- an attribute that isn't known, taken. -/
def othP (a : At) (hd t : Nat) (xs : List Nat) : Nat × At :=
  if bits .and .u8 (hd : Int) 128 == 0 then (2, a) else if (bits .and .u8 (hd : Int) 64 != 0) && t != 0 then (0, { a with others := a.others ++ [((t : Int), xs)] }) else (0, a)
def OtPost (ab lo : Nat) (P : Nat → Prop) (r : Nat × At) (vp vc vo : Value) (w : World) (e : Ending) (w' : World) : Prop :=
  Kept (fun k => k = ab ∨ vo.ownBlock = some k) w w' ∧ (if r.1 = 0 then e = .returned (.agg fltZ) ∧ ∃ P' vo' us', DA w' lo ab P' r.2 vp vc vo' us' ∧ (∀ k, P' k → P k ∨ w.heap.size ≤ k) ∧ (∀ k, vo'.ownBlock = some k → vo.ownBlock = some k ∨ w.heap.size ≤ k)
    else ∃ st, e = .returned (.agg #[.int .i64 3, .int .i64 r.1, .string st]))
set_option maxRecDepth 100000 in
theorem results_other (tmps : Array Value) (W : World) (b : Nat) (C : Array Value) (hC : C.size = 3) (h4 : tmps.getD 6 undef = .pointer (some ⟨b, 0, none⟩)) (hb : W.heap[b]? = some (.cells C 54 (0, 0))) :
    (results Tryd.f44 tmps).run Tryd.prog W = .ok (.agg C) W := results_cell_row Tryd.results44 tmps W b 54 C (0, 0) _ h4 hb Tryd.underlying54 rfl (by rw [hC]; kernel_rfl)
set_option maxRecDepth 100000 in
theorem two_k {W : World} {q : World → Prop} {c0 c1 : Value} {T : TypeId} (h : ∀ w1 : World, (∀ (j : Nat) (c : Value), [c0, c1][j]? = some c → w1.cell? ((⟨W.heap.size, 0, none⟩ : Addr).add j) = some c) → Below W.heap.size W w1 → q w1) : q (W.alloc (.cells #[c0, c1] T)) :=
  h _ (new_cells W _ _) ((Below.refl _ _).alloc (Nat.le_refl _) _)
set_option maxRecDepth 100000 in
theorem one_ot {t : Int} {s : Option Addr} {n c : Nat} : ∀ u ∈ [Value.int .i64 t, .slice s n c], u.oneCell' = true := by
  intro u hu
  simp only [List.mem_cons, List.not_mem_nil, or_false] at hu
  rcases hu with rfl | rfl <;> rfl
set_option maxHeartbeats 6400000 in
set_option maxRecDepth 100000 in
theorem at_other (lo ab : Nat) (P : Nat → Prop) (a : At) (vp vc vo va v : Value) (us : List OthV) (hd t : Nat) (al xs : List Nat) (w : World) (h : DA w lo ab P a vp vc vo us) (h0 : al[0]? = some hd) (h1 : al[1]? = some t) (hlo : lo ≤ w.heap.size)
    (hA : BytesAt w va al) (hB : BytesAt w v xs) (hx : xs.length ≤ 1048576) (hu : us.length ≤ 1048576) :
    Calls Tryd.prog 44 #[.pointer (some ⟨ab, 0, none⟩), va, v] w (OtPost ab lo P (othP a hd t xs) vp vc vo w) := by
  obtain ⟨ti, hji, hy0, hy1, hy2⟩ := info_parts info_other
  have H := Lib.hid h
  have HA := Lib.hid hA
  have HB := Lib.hid hB
  have LO := Lib.hid hlo
  have LA := Lib.hid (show 0 < al.length by have := (List.getElem?_eq_some_iff.1 h0).1; omega)
  obtain ⟨b, off, cap, rfl, b0, hd2⟩ := byte_cells hA h0
  obtain ⟨b', off', cap', e1, b1, tt2⟩ := byte_cells hA h1
  injection e1 with e1 _ e3
  injection e1 with e1
  injection e1 with e1 e2 _
  subst e1; subst e2; subst e3
  obtain ⟨sv, cv, rfl, -⟩ := id hB
  have a1 : (1 : Int) < (al.length : Int) := by have := (List.getElem?_eq_some_iff.1 h1).1; omega
  have a0 : (0 : Int) < (al.length : Int) := by omega
  obtain ⟨hs, hhs⟩ : ∃ hs, bits .and .u8 (hd : Int) 128 = hs := ⟨_, rfl⟩
  obtain ⟨pt, hpt⟩ : ∃ pt, bits .and .u8 (hd : Int) 64 = pt := ⟨_, rfl⟩
  have FB : Hid (othP a hd t xs = if hs == 0 then (2, a) else if (pt != 0) && t != 0 then (0, { a with others := a.others ++ [((t : Int), xs)] }) else (0, a)) := Lib.hid (by rw [← hhs, ← hpt]; rfl)
  clear h hA hB h0 h1 hlo
  go_enter Tryd.func44, Tryd.ntmps44
  go_upto_region 1 with (fail)
  obtain ⟨W0, hW0, qf, hb0, -⟩ := box1 w fltZ 54
  rw [← hW0]
  clear hW0
  have QF := Lib.hid qf
  have B0 := Lib.hid hb0
  have K0 := Lib.hid (Kept.of_below (F := fun k => k = ab ∨ vo.ownBlock = some k) hb0)
  have D0 := Lib.hid (H.out.below hb0)
  have LT := Lib.hid (row_lt H.out.row)
  have c0 : W0.cell? ⟨b, off, none⟩ = some (.int .u8 hd) := cell_below b0 hb0
  have c1 : W0.cell? ⟨b, off + 1, none⟩ = some (.int .u8 t) := cell_below b1 hb0
  have g0 : (0 : Int) ≤ (hd : Int) := by omega
  have g1 : (hd : Int) ≤ 255 := by omega
  have g2 : (0 : Int) ≤ (t : Int) := by omega
  have g3 : (t : Int) ≤ 255 := by omega
  obtain ⟨st, CV⟩ := conv_at (HA.out.below hb0) LA.out
  clear qf hb0 b0 b1 hd2 tt2
  by_cases h1 : hs = 0
  · have x1 : (hs == 0) = true := by simpa using h1
    have E : Hid ((othP a hd t xs).1 = 2) := Lib.hid (by rw [FB.out, x1]; rfl)
    subst h1
    clear hpt FB
    go_wp2_with ((with_reducible refine halt_at (X := .store 54 (.tmp 6) (.tmp 19)) ?_ ?_); (· rfl))
    unfold Halt
    refine st_row rfl 54 (.tmp 6) (.tmp 19) rfl w.heap.size rfl 54 fltZ #[.int .i64 3, .int .i64 2, .string st] rfl QF.out sz_fault rfl (by simp [Value.oneCell']) ?_
    go_wp2_with fail
    refine bodyPost_ret (results_other _ _ w.heap.size #[.int .i64 3, .int .i64 2, .string st] rfl rfl (setRow_heap _ _ _ _ _ _ QF.out)) rfl ⟨kept_box K0.out _, ?_⟩
    rw [E.out, if_neg (by decide)]
    exact ⟨st, rfl⟩
  · have x1 : (hs == 0) = false := by simpa using h1
    have x2 : ¬ hs = 0 := h1
    have FC : Hid (othP a hd t xs = if (pt != 0) && t != 0 then (0, { a with others := a.others ++ [((t : Int), xs)] }) else (0, a)) := Lib.hid (by rw [FB.out, x1]; rfl)
    clear FB CV
    go_upto_region 4 with (fail)
    go_cut [28] (fun s wx => s = .bool ((pt != 0) && t != 0) ∧ W0 = wx)
    case first =>
      clear FC
      by_cases h2 : pt = 0
      · subst h2
        go_wp2_with fail
        go_meet
        exact ⟨rfl, rfl⟩
      · have y1 : (pt != 0) = true := by simpa using h2
        by_cases h3 : t = 0
        · have y2 : ((t : Int) != 0) = false := by subst h3; rfl
          have y3 : ((t : Int) = 0) = True := eq_true (by omega)
          have y4 : Hid ((t != 0) = false) := Lib.hid (by subst h3; rfl)
          clear h3
          go_wp2_with fail
          go_meet
          exact ⟨by rw [y4.out, y1]; rfl, rfl⟩
        · have y2 : ((t : Int) != 0) = true := by simp; omega
          have y3 : ¬ (t : Int) = 0 := by omega
          have y4 : Hid ((t != 0) = true) := Lib.hid (by simpa using h3)
          clear h3
          go_wp2_with fail
          go_meet
          exact ⟨by rw [y4.out, y1]; rfl, rfl⟩
    case rest =>
      obtain ⟨hs1, hw⟩ := hcut
      subst hs1
      subst hw
      clear hhs x1 x2 c0 c1
      cases hk : ((pt != 0) && t != 0) with
      | false =>
        have E : Hid (othP a hd t xs = (0, a)) := Lib.hid (by rw [FC.out, hk]; rfl)
        clear hk hpt FC
        go_wp2_with ((with_reducible refine halt_at (X := .store 54 (.tmp 6) (.tmp 42)) ?_ ?_); (· rfl))
        unfold Halt
        refine st_row rfl 54 (.tmp 6) (.tmp 42) rfl w.heap.size rfl 54 fltZ fltZ rfl QF.out sz_fault rfl (by simp [Value.oneCell']) ?_
        go_wp2_with fail
        refine bodyPost_ret (results_other _ _ w.heap.size fltZ rfl rfl (setRow_heap _ _ _ _ _ _ QF.out)) rfl ⟨kept_box K0.out _, ?_⟩
        rw [E.out, if_pos rfl]
        exact ⟨rfl, P, vo, us, D0.out.box LT.out (fun h => Nat.lt_irrefl _ (H.out.plt _ h)) (fun g hg e => by have := own_lt H.out.oth g hg; omega), fun k hk => .inl hk, fun k hk => .inl hk⟩
      | true =>
        have E : Hid (othP a hd t xs = (0, { a with others := a.others ++ [((t : Int), xs)] })) := Lib.hid (by rw [FC.out, hk]; rfl)
        clear hk hpt FC
        have CL := Lib.hid (clone_bytes (.slice sv xs.length cv) xs W0.drew (BytesAt.below (HB.out.below B0.out) (Below.refl _ _).drew) (by omega))
        have DD : Hid (DA W0.drew lo ab P a vp vc vo us) := Lib.hid (D0.out.below (Below.refl _ _).drew)
        have hBR : Below W0.heap.size W0 W0.drew := (Below.refl _ _).drew
        have QD : Hid (W0.drew.heap[w.heap.size]? = some (.cells fltZ 54 (0, 0))) := Lib.hid QF.out
        have y9 : (World.drew W0).cell? ⟨ab, 9, none⟩ = some vo := DD.out.at 9 _ rfl
        have BX := Lib.hid (bytes_rng HB.out)
        clear D0 QF HA HB
        go_upto_region 5 with (fail)
        refine wp_region_held_drew (S := fun _ => True) (by kernel_rfl) ?_ (fun hHeld => ?_)
        · trivial
        generalize World.drew W0 = wd at CL DD hBR QD y9 hHeld ⊢
        refine rgy (i := 0) (v := ?_) (atN rfl) (by kernel_rfl) (fun _ _ _ h => h) ?_ ?_ hHeld ?_; rotate_left 1; (· rfl); (· intro w' hSw; (try clear hHeld); go_simp; try with_reducible rfl)
        try simp only [Act.put, List.setIfInBounds_toArray, List.set_cons_zero, List.set_cons_succ]
        refine rgy (i := 1) (v := ?_) (atN rfl) (by kernel_rfl) (fun _ _ _ h => h) ?_ ?_ hHeld ?_; rotate_left 1; (· rfl); (· intro w' hSw; (try clear hHeld); go_simp; try with_reducible rfl)
        try simp only [Act.put, List.setIfInBounds_toArray, List.set_cons_zero, List.set_cons_succ]
        refine rgy (i := 2) (v := ?_) (atN rfl) (by kernel_rfl) (fun _ _ _ h => h) ?_ ?_ hHeld ?_; rotate_left 1; (· rfl); (· intro w' hSw; (try clear hHeld); go_simp; try with_reducible rfl)
        try simp only [Act.put, List.setIfInBounds_toArray, List.set_cons_zero, List.set_cons_succ]
        refine rgy (i := 3) (v := ?_) (atN rfl) (by kernel_rfl) (fun _ _ _ h => h) ?_ ?_ hHeld ?_; rotate_left 1; (· rfl); (· intro w' hSw; (try clear hHeld); go_simp; try with_reducible rfl)
        try simp only [Act.put, List.setIfInBounds_toArray, List.set_cons_zero, List.set_cons_succ]
        refine rgy (i := 5) (v := ?_) (atN rfl) (by kernel_rfl) (fun _ _ _ h => h) ?_ ?_ hHeld ?_; rotate_left 1; (· rfl); (· intro w' hSw; (try clear hHeld); go_simp; try with_reducible rfl)
        try simp only [Act.put, List.setIfInBounds_toArray, List.set_cons_zero, List.set_cons_succ]
        refine rgy (i := 6) (v := ?_) (atN rfl) (by kernel_rfl) (fun _ _ _ h => h) ?_ ?_ hHeld ?_; rotate_left 1; (· rfl); (· intro w' hSw; (try clear hHeld); go_simp; try with_reducible rfl)
        try simp only [Act.put, List.setIfInBounds_toArray, List.set_cons_zero, List.set_cons_succ]
        refine rg_call2 (i := 4) (j := 7) (atS (atS (atS (atS at0)))) (atS (atS (atS (atS (atS (atS (atS at0))))))) (by kernel_rfl) ?_ ?_ (fun K hK => ?_) (fun K hK => ?_)
        · rfl
        · rfl
        · (try clear hb); go_simp; go_wp2_with fail; refine hK.out _ _ ?_ (fun hHeld => ?_); (· trivial); clear hK K
          try simp only [Act.put, List.setIfInBounds_toArray, List.set_cons_zero, List.set_cons_succ]
          refine rg_call (i := 7) (atN rfl) (by kernel_rfl) ?_ (fun K hK => ?_); (· rfl); (try clear hb); go_simp; (refine CL.out.mono ?_; rintro e w1 ⟨v1, rfl, o1, hb1⟩); have O1 := Lib.hid o1; have HB1 := Lib.hid hb1; obtain ⟨s1, c1', hv1, -⟩ := own_form o1; subst hv1; replace y9 := cell_below y9 hb1; clear o1 hb1 CL; go_wp2_with fail; refine hK.out _ _ ?_ (fun hHeld => ?_); (· trivial); clear hK K
          try simp only [Act.put, List.setIfInBounds_toArray, List.set_cons_zero, List.set_cons_succ]
          refine rgy (i := 8) (v := ?_) (atN rfl) (by kernel_rfl) (fun _ _ _ h => h) ?_ ?_ hHeld ?_; rotate_left 1; (· rfl); (· intro w' hSw; (try clear hHeld); go_simp; try with_reducible rfl)
          try simp only [Act.put, List.setIfInBounds_toArray, List.set_cons_zero, List.set_cons_succ]
          refine rg_call (i := 9) (atN rfl) (by kernel_rfl) ?_ (fun K hK => ?_); (· rfl); (try clear hb); go_simp; refine two_k (q := K _) ?_; intro w2 hcs hb2; replace y9 := cell_below y9 hb2; have HB2 := Lib.hid hb2; refine hK.out _ _ ?_ (fun hHeld => ?_); (· trivial); clear hK K
          try simp only [Act.put, List.setIfInBounds_toArray, List.set_cons_zero, List.set_cons_succ]
          refine rg_call (i := 10) (atN rfl) (by kernel_rfl) ?_ (fun K hK => ?_); (· rfl); (try clear hb); refine wp_append_k (.tmp 33) (.tmp 38) 26 rfl lo 61 ti _ 2 32 Tryd.underlying26 hji hy0 hy1 hy2 rfl (by decide) vo us.length (us.flatMap otC) rfl (own_below DD.out.oth (below_on HB1.out HB2.out)) ⟨w1.heap.size, 0, none⟩ 1 1 [.int .i64 t, .slice s1 xs.length c1'] rfl rfl hcs one_ot (by unfold maxLen; omega) (by omega) (Nat.le_trans (Nat.le_trans LO.out B0.out.size) (Nat.le_trans hBR.size (below_on HB1.out HB2.out).size)) ?_; intro v7 w7 hown7 hgrow7 hblk7; have B02 := Lib.hid (below_on hBR (below_on HB1.out HB2.out)); have NAB : Hid (¬ vo.ownBlock = some ab) := Lib.hid (fun e => (H.out.seo ab e).2 rfl); have Q7 := Lib.hid (((kept_grownB hgrow7).block _ (Nat.lt_of_lt_of_le LT.out (Nat.le_trans B0.out.size B02.out.size)) NAB.out).trans ((B02.out.block _ (Nat.lt_of_lt_of_le LT.out B0.out.size)).trans ((B0.out.block _ LT.out).trans H.out.row))); have y7 : w7.cell? ⟨ab, 9, none⟩ = some vo := row_cell Q7.out 9; have f7 := row_free Q7.out 9; have O7 := Lib.hid hown7; have G7 := Lib.hid (kept_grownB hgrow7); have V7 := Lib.hid hblk7; obtain ⟨s7, c7, hv7, -⟩ := own_form hown7; subst hv7; clear hown7 hgrow7 hblk7; refine hK.out _ _ ?_ (fun hHeld => ?_); (· trivial); clear hK K
          try simp only [Act.put, List.setIfInBounds_toArray, List.set_cons_zero, List.set_cons_succ]
          refine rgy (i := 11) (v := ?_) (atN rfl) (by kernel_rfl) (fun _ _ _ h => h) ?_ ?_ hHeld ?_; rotate_left 1; (· rfl); (· intro w' hSw; (try clear hHeld); go_simp; try with_reducible rfl)
          try simp only [Act.put, List.setIfInBounds_toArray, List.set_cons_zero, List.set_cons_succ]
          refine rgy (i := 12) (v := ?_) (atN rfl) (by kernel_rfl) (fun _ _ _ h => h) ?_ ?_ hHeld ?_; rotate_left 1; (· rfl); (· intro w' hSw; (try clear hHeld); go_simp; try with_reducible rfl)
          try simp only [Act.put, List.setIfInBounds_toArray, List.set_cons_zero, List.set_cons_succ]
          refine rg_call (i := 13) (atN rfl) (by kernel_rfl) ?_ (fun K hK => ?_); (· rfl); (try clear hb); go_simp; go_wp2_with fail; refine hK.out _ _ ?_ (fun hHeld => ?_); (· trivial); clear hK K
          try simp only [Act.put]
          refine wpAnyH_done (by kernel_rfl) ?_ _
          have TR : Hid (I64r (t : Int)) := Lib.hid (by unfold I64r; omega)
          have D2 := Lib.hid (DA.snoc (xs := xs) DD.out HB1.out ((own_fresh O1.out).imp fun W h => own_u8s h BX.out) HB2.out O7.out G7.out V7.out TR.out)
          have QF7 := Lib.hid ((G7.out.block _ (Nat.lt_of_lt_of_le (row_lt QD.out) (below_on HB1.out HB2.out).size) (fun e => by have := own_lt H.out.oth _ e; omega)).trans (((below_on HB1.out HB2.out).block _ (row_lt QD.out)).trans QD.out))
          have K7 := Lib.hid (((K0.out.trans (Kept.of_below B02.out)).trans (G7.out.imp fun b hb => .inr hb)).trans (Kept.setCell (F := fun k => k = ab ∨ vo.ownBlock = some k) ⟨ab, 9, none⟩ (.slice s7 (us.length + 1) c7) (.inl rfl)))
          have SZS := Lib.hid (⟨B0.out.size, hBR.size, HB1.out.size, HB2.out.size⟩ : w.heap.size ≤ W0.heap.size ∧ W0.heap.size ≤ wd.heap.size ∧ wd.heap.size ≤ w1.heap.size ∧ w1.heap.size ≤ w2.heap.size)
          have WF := Lib.hid (row_lt QD.out)
          obtain ⟨w8, hw8⟩ : ∃ w8, w8 = w7.setCell ⟨ab, 9, none⟩ (.slice s7 (us.length + 1) c7) := ⟨_, rfl⟩
          have QF8 : Hid (w8.heap[w.heap.size]? = some (.cells fltZ 54 (0, 0))) := Lib.hid (by
            rw [hw8]
            exact (set_other ab 9 _ (by have := LT.out; omega)).trans QF7.out)
          rw [← hw8] at D2 K7 ⊢
          have OV : Hid (∀ k, (Value.slice s7 (us.length + 1) c7).ownBlock = some k → vo.ownBlock = some k ∨ w2.heap.size ≤ k) := Lib.hid (fun k hk => by
            rcases V7.out with e | e
            · exact .inl (e ▸ hk)
            · rw [e] at hk; have := Option.some.inj hk; right; omega)
          clear hw8 hHeld O7 G7 V7 y7 f7 Q7 B02 QF7 QD DD y9 O1 HB1 HB2 hcs hb2 hBR
          go_wp2_with ((with_reducible refine halt_at (X := .store 54 (.tmp 6) (.tmp 42)) ?_ ?_); (· rfl))
          unfold Halt
          refine st_row rfl 54 (.tmp 6) (.tmp 42) rfl w.heap.size rfl 54 fltZ fltZ rfl QF8.out sz_fault rfl (by simp [Value.oneCell']) ?_
          go_wp2_with fail
          refine bodyPost_ret (results_other _ _ w.heap.size fltZ rfl rfl (setRow_heap _ _ _ _ _ _ QF8.out)) rfl ⟨kept_box K7.out _, ?_⟩
          rw [E.out, if_pos rfl]
          refine ⟨rfl, _, _, _, D2.out.box LT.out (fun h => ?_) (fun g hg e => ?_), fun k hk => ?_, fun k hk => (OV.out k hk).imp_right fun h => by have := SZS.out; omega⟩
          · rcases h with h | h
            · exact Nat.lt_irrefl _ (H.out.plt _ h)
            · have := WF.out; omega
          · subst e
            rcases OV.out _ hg with h | h
            · exact Nat.lt_irrefl _ (own_lt H.out.oth _ h)
            · have := SZS.out; have := WF.out; omega
          · exact Or.imp_right (fun h => by have := SZS.out; have := h.1; omega) hk
        · (try clear hb); go_simp; (refine CL.out.mono ?_; rintro e w1 ⟨v1, rfl, o1, hb1⟩); have O1 := Lib.hid o1; have HB1 := Lib.hid hb1; obtain ⟨s1, c1', hv1, -⟩ := own_form o1; subst hv1; replace y9 := cell_below y9 hb1; clear o1 hb1 CL; go_wp2_with fail; refine hK.out _ _ ?_ (fun hHeld => ?_); (· trivial); clear hK K
          try simp only [Act.put, List.setIfInBounds_toArray, List.set_cons_zero, List.set_cons_succ]
          refine rgy (i := 8) (v := ?_) (atN rfl) (by kernel_rfl) (fun _ _ _ h => h) ?_ ?_ hHeld ?_; rotate_left 1; (· rfl); (· intro w' hSw; (try clear hHeld); go_simp; try with_reducible rfl)
          try simp only [Act.put, List.setIfInBounds_toArray, List.set_cons_zero, List.set_cons_succ]
          refine rg_call2 (i := 4) (j := 9) (atS (atS (atS (atS at0)))) (atS (atS (atS (atS (atS (atS (atS (atS (atS at0))))))))) (by kernel_rfl) ?_ ?_ (fun K hK => ?_) (fun K hK => ?_)
          · rfl
          · rfl
          · (try clear hb); go_simp; go_wp2_with fail; refine hK.out _ _ ?_ (fun hHeld => ?_); (· trivial); clear hK K
            try simp only [Act.put, List.setIfInBounds_toArray, List.set_cons_zero, List.set_cons_succ]
            refine rg_call (i := 9) (atN rfl) (by kernel_rfl) ?_ (fun K hK => ?_); (· rfl); (try clear hb); go_simp; refine two_k (q := K _) ?_; intro w2 hcs hb2; replace y9 := cell_below y9 hb2; have HB2 := Lib.hid hb2; refine hK.out _ _ ?_ (fun hHeld => ?_); (· trivial); clear hK K
            try simp only [Act.put, List.setIfInBounds_toArray, List.set_cons_zero, List.set_cons_succ]
            refine rg_call (i := 10) (atN rfl) (by kernel_rfl) ?_ (fun K hK => ?_); (· rfl); (try clear hb); refine wp_append_k (.tmp 33) (.tmp 38) 26 rfl lo 61 ti _ 2 32 Tryd.underlying26 hji hy0 hy1 hy2 rfl (by decide) vo us.length (us.flatMap otC) rfl (own_below DD.out.oth (below_on HB1.out HB2.out)) ⟨w1.heap.size, 0, none⟩ 1 1 [.int .i64 t, .slice s1 xs.length c1'] rfl rfl hcs one_ot (by unfold maxLen; omega) (by omega) (Nat.le_trans (Nat.le_trans LO.out B0.out.size) (Nat.le_trans hBR.size (below_on HB1.out HB2.out).size)) ?_; intro v7 w7 hown7 hgrow7 hblk7; have B02 := Lib.hid (below_on hBR (below_on HB1.out HB2.out)); have NAB : Hid (¬ vo.ownBlock = some ab) := Lib.hid (fun e => (H.out.seo ab e).2 rfl); have Q7 := Lib.hid (((kept_grownB hgrow7).block _ (Nat.lt_of_lt_of_le LT.out (Nat.le_trans B0.out.size B02.out.size)) NAB.out).trans ((B02.out.block _ (Nat.lt_of_lt_of_le LT.out B0.out.size)).trans ((B0.out.block _ LT.out).trans H.out.row))); have y7 : w7.cell? ⟨ab, 9, none⟩ = some vo := row_cell Q7.out 9; have f7 := row_free Q7.out 9; have O7 := Lib.hid hown7; have G7 := Lib.hid (kept_grownB hgrow7); have V7 := Lib.hid hblk7; obtain ⟨s7, c7, hv7, -⟩ := own_form hown7; subst hv7; clear hown7 hgrow7 hblk7; refine hK.out _ _ ?_ (fun hHeld => ?_); (· trivial); clear hK K
            try simp only [Act.put, List.setIfInBounds_toArray, List.set_cons_zero, List.set_cons_succ]
            refine rgy (i := 11) (v := ?_) (atN rfl) (by kernel_rfl) (fun _ _ _ h => h) ?_ ?_ hHeld ?_; rotate_left 1; (· rfl); (· intro w' hSw; (try clear hHeld); go_simp; try with_reducible rfl)
            try simp only [Act.put, List.setIfInBounds_toArray, List.set_cons_zero, List.set_cons_succ]
            refine rgy (i := 12) (v := ?_) (atN rfl) (by kernel_rfl) (fun _ _ _ h => h) ?_ ?_ hHeld ?_; rotate_left 1; (· rfl); (· intro w' hSw; (try clear hHeld); go_simp; try with_reducible rfl)
            try simp only [Act.put, List.setIfInBounds_toArray, List.set_cons_zero, List.set_cons_succ]
            refine rg_call (i := 13) (atN rfl) (by kernel_rfl) ?_ (fun K hK => ?_); (· rfl); (try clear hb); go_simp; go_wp2_with fail; refine hK.out _ _ ?_ (fun hHeld => ?_); (· trivial); clear hK K
            try simp only [Act.put]
            refine wpAnyH_done (by kernel_rfl) ?_ _
            have TR : Hid (I64r (t : Int)) := Lib.hid (by unfold I64r; omega)
            have D2 := Lib.hid (DA.snoc (xs := xs) DD.out HB1.out ((own_fresh O1.out).imp fun W h => own_u8s h BX.out) HB2.out O7.out G7.out V7.out TR.out)
            have QF7 := Lib.hid ((G7.out.block _ (Nat.lt_of_lt_of_le (row_lt QD.out) (below_on HB1.out HB2.out).size) (fun e => by have := own_lt H.out.oth _ e; omega)).trans (((below_on HB1.out HB2.out).block _ (row_lt QD.out)).trans QD.out))
            have K7 := Lib.hid (((K0.out.trans (Kept.of_below B02.out)).trans (G7.out.imp fun b hb => .inr hb)).trans (Kept.setCell (F := fun k => k = ab ∨ vo.ownBlock = some k) ⟨ab, 9, none⟩ (.slice s7 (us.length + 1) c7) (.inl rfl)))
            have SZS := Lib.hid (⟨B0.out.size, hBR.size, HB1.out.size, HB2.out.size⟩ : w.heap.size ≤ W0.heap.size ∧ W0.heap.size ≤ wd.heap.size ∧ wd.heap.size ≤ w1.heap.size ∧ w1.heap.size ≤ w2.heap.size)
            have WF := Lib.hid (row_lt QD.out)
            obtain ⟨w8, hw8⟩ : ∃ w8, w8 = w7.setCell ⟨ab, 9, none⟩ (.slice s7 (us.length + 1) c7) := ⟨_, rfl⟩
            have QF8 : Hid (w8.heap[w.heap.size]? = some (.cells fltZ 54 (0, 0))) := Lib.hid (by
              rw [hw8]
              exact (set_other ab 9 _ (by have := LT.out; omega)).trans QF7.out)
            rw [← hw8] at D2 K7 ⊢
            have OV : Hid (∀ k, (Value.slice s7 (us.length + 1) c7).ownBlock = some k → vo.ownBlock = some k ∨ w2.heap.size ≤ k) := Lib.hid (fun k hk => by
              rcases V7.out with e | e
              · exact .inl (e ▸ hk)
              · rw [e] at hk; have := Option.some.inj hk; right; omega)
            clear hw8 hHeld O7 G7 V7 y7 f7 Q7 B02 QF7 QD DD y9 O1 HB1 HB2 hcs hb2 hBR
            go_wp2_with ((with_reducible refine halt_at (X := .store 54 (.tmp 6) (.tmp 42)) ?_ ?_); (· rfl))
            unfold Halt
            refine st_row rfl 54 (.tmp 6) (.tmp 42) rfl w.heap.size rfl 54 fltZ fltZ rfl QF8.out sz_fault rfl (by simp [Value.oneCell']) ?_
            go_wp2_with fail
            refine bodyPost_ret (results_other _ _ w.heap.size fltZ rfl rfl (setRow_heap _ _ _ _ _ _ QF8.out)) rfl ⟨kept_box K7.out _, ?_⟩
            rw [E.out, if_pos rfl]
            refine ⟨rfl, _, _, _, D2.out.box LT.out (fun h => ?_) (fun g hg e => ?_), fun k hk => ?_, fun k hk => (OV.out k hk).imp_right fun h => by have := SZS.out; omega⟩
            · rcases h with h | h
              · exact Nat.lt_irrefl _ (H.out.plt _ h)
              · have := WF.out; omega
            · subst e
              rcases OV.out _ hg with h | h
              · exact Nat.lt_irrefl _ (own_lt H.out.oth _ h)
              · have := SZS.out; have := WF.out; omega
            · exact Or.imp_right (fun h => by have := SZS.out; have := h.1; omega) hk
          · (try clear hb); go_simp; refine two_k (q := K _) ?_; intro w2 hcs hb2; replace y9 := cell_below y9 hb2; have HB2 := Lib.hid hb2; refine hK.out _ _ ?_ (fun hHeld => ?_); (· trivial); clear hK K
            try simp only [Act.put, List.setIfInBounds_toArray, List.set_cons_zero, List.set_cons_succ]
            refine rg_call (i := 4) (atN rfl) (by kernel_rfl) ?_ (fun K hK => ?_); (· rfl); (try clear hb); go_simp; go_wp2_with fail; refine hK.out _ _ ?_ (fun hHeld => ?_); (· trivial); clear hK K
            try simp only [Act.put, List.setIfInBounds_toArray, List.set_cons_zero, List.set_cons_succ]
            refine rg_call (i := 10) (atN rfl) (by kernel_rfl) ?_ (fun K hK => ?_); (· rfl); (try clear hb); refine wp_append_k (.tmp 33) (.tmp 38) 26 rfl lo 61 ti _ 2 32 Tryd.underlying26 hji hy0 hy1 hy2 rfl (by decide) vo us.length (us.flatMap otC) rfl (own_below DD.out.oth (below_on HB1.out HB2.out)) ⟨w1.heap.size, 0, none⟩ 1 1 [.int .i64 t, .slice s1 xs.length c1'] rfl rfl hcs one_ot (by unfold maxLen; omega) (by omega) (Nat.le_trans (Nat.le_trans LO.out B0.out.size) (Nat.le_trans hBR.size (below_on HB1.out HB2.out).size)) ?_; intro v7 w7 hown7 hgrow7 hblk7; have B02 := Lib.hid (below_on hBR (below_on HB1.out HB2.out)); have NAB : Hid (¬ vo.ownBlock = some ab) := Lib.hid (fun e => (H.out.seo ab e).2 rfl); have Q7 := Lib.hid (((kept_grownB hgrow7).block _ (Nat.lt_of_lt_of_le LT.out (Nat.le_trans B0.out.size B02.out.size)) NAB.out).trans ((B02.out.block _ (Nat.lt_of_lt_of_le LT.out B0.out.size)).trans ((B0.out.block _ LT.out).trans H.out.row))); have y7 : w7.cell? ⟨ab, 9, none⟩ = some vo := row_cell Q7.out 9; have f7 := row_free Q7.out 9; have O7 := Lib.hid hown7; have G7 := Lib.hid (kept_grownB hgrow7); have V7 := Lib.hid hblk7; obtain ⟨s7, c7, hv7, -⟩ := own_form hown7; subst hv7; clear hown7 hgrow7 hblk7; refine hK.out _ _ ?_ (fun hHeld => ?_); (· trivial); clear hK K
            try simp only [Act.put, List.setIfInBounds_toArray, List.set_cons_zero, List.set_cons_succ]
            refine rgy (i := 11) (v := ?_) (atN rfl) (by kernel_rfl) (fun _ _ _ h => h) ?_ ?_ hHeld ?_; rotate_left 1; (· rfl); (· intro w' hSw; (try clear hHeld); go_simp; try with_reducible rfl)
            try simp only [Act.put, List.setIfInBounds_toArray, List.set_cons_zero, List.set_cons_succ]
            refine rgy (i := 12) (v := ?_) (atN rfl) (by kernel_rfl) (fun _ _ _ h => h) ?_ ?_ hHeld ?_; rotate_left 1; (· rfl); (· intro w' hSw; (try clear hHeld); go_simp; try with_reducible rfl)
            try simp only [Act.put, List.setIfInBounds_toArray, List.set_cons_zero, List.set_cons_succ]
            refine rg_call (i := 13) (atN rfl) (by kernel_rfl) ?_ (fun K hK => ?_); (· rfl); (try clear hb); go_simp; go_wp2_with fail; refine hK.out _ _ ?_ (fun hHeld => ?_); (· trivial); clear hK K
            try simp only [Act.put]
            refine wpAnyH_done (by kernel_rfl) ?_ _
            have TR : Hid (I64r (t : Int)) := Lib.hid (by unfold I64r; omega)
            have D2 := Lib.hid (DA.snoc (xs := xs) DD.out HB1.out ((own_fresh O1.out).imp fun W h => own_u8s h BX.out) HB2.out O7.out G7.out V7.out TR.out)
            have QF7 := Lib.hid ((G7.out.block _ (Nat.lt_of_lt_of_le (row_lt QD.out) (below_on HB1.out HB2.out).size) (fun e => by have := own_lt H.out.oth _ e; omega)).trans (((below_on HB1.out HB2.out).block _ (row_lt QD.out)).trans QD.out))
            have K7 := Lib.hid (((K0.out.trans (Kept.of_below B02.out)).trans (G7.out.imp fun b hb => .inr hb)).trans (Kept.setCell (F := fun k => k = ab ∨ vo.ownBlock = some k) ⟨ab, 9, none⟩ (.slice s7 (us.length + 1) c7) (.inl rfl)))
            have SZS := Lib.hid (⟨B0.out.size, hBR.size, HB1.out.size, HB2.out.size⟩ : w.heap.size ≤ W0.heap.size ∧ W0.heap.size ≤ wd.heap.size ∧ wd.heap.size ≤ w1.heap.size ∧ w1.heap.size ≤ w2.heap.size)
            have WF := Lib.hid (row_lt QD.out)
            obtain ⟨w8, hw8⟩ : ∃ w8, w8 = w7.setCell ⟨ab, 9, none⟩ (.slice s7 (us.length + 1) c7) := ⟨_, rfl⟩
            have QF8 : Hid (w8.heap[w.heap.size]? = some (.cells fltZ 54 (0, 0))) := Lib.hid (by
              rw [hw8]
              exact (set_other ab 9 _ (by have := LT.out; omega)).trans QF7.out)
            rw [← hw8] at D2 K7 ⊢
            have OV : Hid (∀ k, (Value.slice s7 (us.length + 1) c7).ownBlock = some k → vo.ownBlock = some k ∨ w2.heap.size ≤ k) := Lib.hid (fun k hk => by
              rcases V7.out with e | e
              · exact .inl (e ▸ hk)
              · rw [e] at hk; have := Option.some.inj hk; right; omega)
            clear hw8 hHeld O7 G7 V7 y7 f7 Q7 B02 QF7 QD DD y9 O1 HB1 HB2 hcs hb2 hBR
            go_wp2_with ((with_reducible refine halt_at (X := .store 54 (.tmp 6) (.tmp 42)) ?_ ?_); (· rfl))
            unfold Halt
            refine st_row rfl 54 (.tmp 6) (.tmp 42) rfl w.heap.size rfl 54 fltZ fltZ rfl QF8.out sz_fault rfl (by simp [Value.oneCell']) ?_
            go_wp2_with fail
            refine bodyPost_ret (results_other _ _ w.heap.size fltZ rfl rfl (setRow_heap _ _ _ _ _ _ QF8.out)) rfl ⟨kept_box K7.out _, ?_⟩
            rw [E.out, if_pos rfl]
            refine ⟨rfl, _, _, _, D2.out.box LT.out (fun h => ?_) (fun g hg e => ?_), fun k hk => ?_, fun k hk => (OV.out k hk).imp_right fun h => by have := SZS.out; omega⟩
            · rcases h with h | h
              · exact Nat.lt_irrefl _ (H.out.plt _ h)
              · have := WF.out; omega
            · subst e
              rcases OV.out _ hg with h | h
              · exact Nat.lt_irrefl _ (own_lt H.out.oth _ h)
              · have := SZS.out; have := WF.out; omega
            · exact Or.imp_right (fun h => by have := SZS.out; have := h.1; omega) hk
end Go.Proofs.YtohkbcdnlmjcjaaDoor

/-
  DERIVED: THE SHELF's CONTRACTS AT THIS DUMP, IN PLAIN WORDS (tools/lay-plain.mjs out of 'TrydShelf.lean', which tools/lay-shelf.mjs wrote): THE SAME DECLARATIONS UNDER THE SAME NAMES: 'import', 'namespace', 'open', 'def', 'theorem' AND NOTHING ELSE: no command of the shelf's: FOR A HAND-IN. Each laying: the table of numbers ('.._ren') and one theorem, a field a fact of the dump's own or the kernel's comparison; each contract: ONE APPLICATION.
-/
namespace Go.Proofs
open Go.Shelf
def Tryd.sortO_ren : Go.Shelf.Ren := ⟨fun | 6 => 45 | 15 => 65 | 14 => 64 | 28 => 76 | 29 => 77 | 20 => 68 | 21 => 69 | 22 => 70 | 23 => 71 | 24 => 72 | 25 => 73 | 26 => 74 | 27 => 75 | 46 => 78 | 47 => 79 | 48 => 80 | 49 => 81 | 50 => 82 | 57 => 83 | n => n, fun | 22 => 26 | 24 => 61 | 25 => 85 | 3 => 3 | 39 => 33 | 0 => 0 | 53 => 23 | 55 => 116 | 4 => 4 | 46 => 108 | 45 => 107 | 50 => 112 | 5 => 5 | 9 => 9 | 66 => 117 | 70 => 121 | 76 => 123 | 77 => 124 | n => n, fun | n => n⟩
theorem Tryd.sortO : Go.Proofs.SlLaysF0.n6 Tryd.prog Tryd.sortO_ren := {
  mixed := by kernel_rfl
  f6 := ⟨Tryd.f45.name, by decide, Tryd.func45.trans (congrArg some (by kernel_rfl))⟩
  f14 := ⟨Tryd.f64.name, by decide, Tryd.func64.trans (congrArg some (by kernel_rfl))⟩
  f15 := Tryd.func65.trans (congrArg some (by kernel_rfl))
  f20 := ⟨Tryd.f68.name, by decide, Tryd.func68.trans (congrArg some (by kernel_rfl))⟩
  f21 := ⟨Tryd.f69.name, by decide, Tryd.func69.trans (congrArg some (by kernel_rfl))⟩
  f22 := ⟨Tryd.f70.name, by decide, Tryd.func70.trans (congrArg some (by kernel_rfl))⟩
  f23 := ⟨Tryd.f71.name, by decide, Tryd.func71.trans (congrArg some (by kernel_rfl))⟩
  f24 := ⟨Tryd.f72.name, by decide, Tryd.func72.trans (congrArg some (by kernel_rfl))⟩
  f25 := ⟨Tryd.f73.name, by decide, Tryd.func73.trans (congrArg some (by kernel_rfl))⟩
  f26 := ⟨Tryd.f74.name, by decide, Tryd.func74.trans (congrArg some (by kernel_rfl))⟩
  f27 := ⟨Tryd.f75.name, by decide, Tryd.func75.trans (congrArg some (by kernel_rfl))⟩
  f28 := Tryd.func76.trans (congrArg some (by kernel_rfl))
  f29 := Tryd.func77.trans (congrArg some (by kernel_rfl))
  f46 := ⟨Tryd.f78.name, by decide, Tryd.func78.trans (congrArg some (by kernel_rfl))⟩
  f47 := Tryd.func79.trans (congrArg some (by kernel_rfl))
  f48 := Tryd.func80.trans (congrArg some (by kernel_rfl))
  f49 := ⟨Tryd.f81.name, by decide, Tryd.func81.trans (congrArg some (by kernel_rfl))⟩
  f50 := ⟨Tryd.f82.name, by decide, Tryd.func82.trans (congrArg some (by kernel_rfl))⟩
  f57 := ⟨Tryd.f83.name, by decide, Tryd.func83.trans (congrArg some (by kernel_rfl))⟩
  t0 := Tryd.underlying0
  a0 := Tryd.isAgg0
  z0 := Tryd.sizeOf0
  v0 := Tryd.zeroValue0
  t3 := Tryd.underlying3
  a3 := Tryd.isAgg3
  z3 := Tryd.sizeOf3
  v3 := Tryd.zeroValue3
  t4 := Tryd.underlying4
  a4 := Tryd.isAgg4
  z4 := Tryd.sizeOf4
  v4 := Tryd.zeroValue4
  t5 := Tryd.underlying5
  a5 := Tryd.isAgg5
  z5 := Tryd.sizeOf5
  v5 := Tryd.zeroValue5
  t9 := Tryd.underlying9
  a9 := Tryd.isAgg9
  z9 := Tryd.sizeOf9
  v9 := Tryd.zeroValue9
  t22 := Tryd.underlying26
  a22 := Tryd.isAgg26
  z22 := Tryd.sizeOf26
  v22 := Tryd.zeroValue26
  t25 := Tryd.underlying85
  a25 := Tryd.isAgg85
  z25 := Tryd.sizeOf85
  v25 := Tryd.zeroValue85
  t39 := Tryd.underlying33
  a39 := Tryd.isAgg33
  z39 := Tryd.sizeOf33
  v39 := Tryd.zeroValue33
  t45 := Tryd.underlying107
  a45 := Tryd.isAgg107
  z45 := Tryd.sizeOf107
  v45 := Tryd.zeroValue107
  t46 := Tryd.underlying108
  a46 := Tryd.isAgg108
  z46 := Tryd.sizeOf108
  v46 := Tryd.zeroValue108
  t50 := Tryd.underlying112
  a50 := Tryd.isAgg112
  z50 := Tryd.sizeOf112
  v50 := Tryd.zeroValue112
  t53 := Tryd.underlying23
  a53 := Tryd.isAgg23
  z53 := Tryd.sizeOf23
  v53 := Tryd.zeroValue23
  t55 := Tryd.underlying116
  a55 := Tryd.isAgg116
  z55 := Tryd.sizeOf116
  v55 := Tryd.zeroValue116
  t66 := Tryd.underlying117
  a66 := Tryd.isAgg117
  z66 := Tryd.sizeOf117
  v66 := Tryd.zeroValue117
  t70 := Tryd.underlying121
  a70 := Tryd.isAgg121
  z70 := Tryd.sizeOf121
  v70 := Tryd.zeroValue121
  t76 := Tryd.underlying123
  a76 := Tryd.isAgg123
  z76 := Tryd.sizeOf123
  v76 := Tryd.zeroValue123
  t77 := Tryd.underlying124
  a77 := Tryd.isAgg124
  z77 := Tryd.sizeOf124
  v77 := Tryd.zeroValue124 }
end Go.Proofs
