/- Texts of one proof, one behind another. -/
import Derived.Test.YtkoidahgbbabiaaGreatTe14
import Derived.Test.YtkoidahgbbabiaaGreatTe18
import Derived.Test.YtkoidahgbbabiaaGreatTe1
/-
  ALL ROUTES OF A PEER: All: the function that is called at each.
-/
namespace Go.Proofs.YtkoidahgbbabiaaGreat
open Go.RowKit Go.Lib
set_option maxHeartbeats 12800000 in
set_option maxRecDepth 100000 in
theorem all1_call {w : World} {rb tb : Nat} {N : Nat → Option Nat} {E : List Ent} {peer own most : Int} {F : Nat → Prop} {ab rx : Nat} (P : Nat → Prop) (L : List Itm) (W : World) (A i : Nat) (v : AV) (h : AI w rb tb N E peer own most F ab rx P L W)
    (hA : A < 4294967296) (hR : rightB A i = true) (hg : getL (kvs E) (keyN A i) = some v) (hl : L.length < 8589934592) :
    Calls Tryz.prog 117 #[.agg #[.int .u32 A, .int .i64 i], v.V, .pointer (some ⟨ab, 0, none⟩), .pointer (some ⟨rx, 0, none⟩)] W fun e w' => e = .returned (.bool true) ∧ AI w rb tb N E peer own most F ab rx P (L ++ [((A, i), v)]) w' ∧ Kept (fun b => ¬ P b) W w' := by
  obtain ⟨i0, hii, hz0, hz1, hz2⟩ := info_parts info_route
  obtain ⟨en, hm, hep, hev, hgt⟩ := item_ent h.rib.rgt hA hR hg
  have CLN := Lib.hid (fun W' (hb : Below W.heap.size W W') => av_CloneU en.a v W' (by rw [← hev]; exact ((h.rib.ent en hm).2.below hb).self) (h.rib.szs en hm))
  have HH := Lib.hid h
  have GT := Lib.hid hgt
  have OKx : Hid (OkP (itP ((A, i), v))) := Lib.hid (by rw [← hep]; exact (h.rib.rgt en hm).1)
  obtain ⟨v0, vs, hab, hre, hmp, hpx, hog⟩ := h.sl
  have hvl : vs.length = L.length := by have := congrArg List.length hmp; simpa using this
  obtain ⟨s0, cp0, hv0, -⟩ := own_form hre.own
  subst hv0
  have HAB := Lib.hid hab
  have HRE := Lib.hid hre
  have HMP := Lib.hid hmp
  have HPX := Lib.hid hpx
  have HOG := Lib.hid hog
  have VL : Hid (vs.length < 8589934592) := Lib.hid (by omega)
  have RX := Lib.hid h.rxc
  have RP := Lib.hid h.rib.cells.1
  have WB := Lib.hid h.bel.size
  clear h hg hl hgt hep hev hm hab hre hmp hpx hog hvl
  generalize hpp : itP ((A, i), v) = p at GT OKx
  have P1 : Hid ((A : Int) = p.1 ∧ (i : Int) = p.2) := Lib.hid (by rw [← hpp]; exact ⟨rfl, rfl⟩)
  have HPP := Lib.hid hpp
  clear hpp
  go_enter Tryz.func117, Tryz.ntmps117
  go_upto_region 1 with (fail)
  obtain ⟨W0, hW0, c0, c1, qv, hB⟩ := box_pa W A i v
  rw [← hW0]; clear hW0
  rw [P1.out.1] at c0
  rw [P1.out.2] at c1
  have QV := Lib.hid qv
  have B0 := Lib.hid hB
  have rx0 := cell_below RX.out hB
  have rp0 := cell_below RP.out hB
  have cv0 : W0.cell? ⟨ab, 0, none⟩ = some (.slice s0 vs.length cp0) := (hB.cell (row_lt HAB.out)).trans (row_cell HAB.out 0)
  have fv : Hid (∀ W', Below W0.heap.size W0 W' → W'.frozen? ⟨ab, 0, none⟩ = false) := Lib.hid (fun W' hb => row_free (((below_on B0.out hb).block _ (row_lt HAB.out)).trans HAB.out) 0)
  clear qv hB
  have hBel : Below W0.heap.size W0 W0.drew := (Below.refl _ _).drew
  have qab : W0.drew.heap[ab]? = some (.cells #[.slice s0 vs.length cp0] 57 (0, 0)) := (B0.out.block _ (row_lt HAB.out)).trans HAB.out
  have ABL : Hid (ab < W.heap.size) := Lib.hid (row_lt HAB.out)
  have OWL : Hid (∀ g, Value.ownBlock (.slice s0 vs.length cp0) = some g → g < W.heap.size ∧ w.heap.size ≤ g) := Lib.hid (fun g hg => ⟨own_lt HRE.out.own g hg, own_form_le HRE.out.own g hg⟩)
  have NC : Hid (¬ (W.heap.size = ab ∨ Value.ownBlock (.slice s0 vs.length cp0) = some W.heap.size)) := Lib.hid (fun h => by
    rcases h with h | h
    · have := ABL.out; omega
    · have := (OWL.out _ h).1; omega)
  have ND : Hid (¬ (W.heap.size + 1 = ab ∨ Value.ownBlock (.slice s0 vs.length cp0) = some (W.heap.size + 1))) := Lib.hid (fun h => by
    rcases h with h | h
    · have := ABL.out; omega
    · have := (OWL.out _ h).1; omega)
  have NX : Hid (¬ (rx = ab ∨ Value.ownBlock (.slice s0 vs.length cp0) = some rx)) := Lib.hid (fun h => by
    rcases h with h | h
    · exact HH.out.lo.2 h
    · exact (HOG.out _ h).2.2 rfl)
  have NB : Hid (¬ (rb = ab ∨ Value.ownBlock (.slice s0 vs.length cp0) = some rb)) := Lib.hid (fun h => by
    have hrb := HH.out.flt _ HH.out.rib.frb
    rcases h with h | h
    · have := HH.out.lo.1; omega
    · have := (OWL.out _ h).2; omega)
  have NAO : Hid (¬ (Value.ownBlock (.slice s0 vs.length cp0) = some ab)) := Lib.hid (fun h => (HOG.out _ h).2.1 rfl)
  refine wp_region_held_drew (S := fun w1 => Kept (fun k => k = ab ∨ Value.ownBlock (.slice s0 vs.length cp0) = some k) W0 w1) (by kernel_rfl) ?_ (fun hHeld => ?_)
  · exact (Kept.refl _ _).drew
  generalize World.drew W0 = wd at hBel qab hHeld ⊢
  refine qy 1 ?_ ?_ ?_ hHeld ?_; rotate_left 1; (· rfl); (· intro w' hSw; have c0 := hSw.cell c0 NC.out; have c1 := hSw.cell c1 NC.out; have rx0 := hSw.cell rx0 NX.out; have rp0 := hSw.cell rp0 NB.out; (try clear hHeld); go_simp; try with_reducible rfl)
  try simp only [zp1, zp3, zp4, zp5]
  refine qy 5 ?_ ?_ ?_ hHeld ?_; rotate_left 1; (· rfl); (· intro w' hSw; have c0 := hSw.cell c0 NC.out; have c1 := hSw.cell c1 NC.out; have rx0 := hSw.cell rx0 NX.out; have rp0 := hSw.cell rp0 NB.out; (try clear hHeld); go_simp; try with_reducible rfl)
  try simp only [zp1, zp3, zp4, zp5]
  refine qy 6 ?_ ?_ ?_ hHeld ?_; rotate_left 1; (· rfl); (· intro w' hSw; refine exec_ld 42 (.tmp 5) ?_ (W.heap.size + 1) ?_ 42 v.C (0, 0) _ ((hSw.block _ (row_lt QV.out) ND.out).trans QV.out) Tryz.underlying42 rfl (by kernel_rfl) <;> rfl)
  try simp only [zp1, zp3, zp4, zp5]
  refine rg_call3 (i := 0) (j := 2) (k := 7) (atN rfl) (atN rfl) (atN rfl) (by kernel_rfl) ?_ ?_ ?_ (fun K hK => ?_) (fun K hK => ?_) (fun K hK => ?_)
  · rfl
  · rfl
  · rfl
  · (try clear hb); have cv : _ = some (Value.slice s0 vs.length cp0) := row_cell qab 0; go_simp; go_wp2_with fail; refine hK.out _ _ ?_ (fun hHeld => ?_); (· exact hHeld); clear hK K
    try simp only [zp1, zp3, zp4, zp5]
    refine rg_call2 (i := 2) (j := 7) (atS (atS at0)) (atS (atS (atS (atS (atS (atS (atS at0))))))) (by kernel_rfl) ?_ ?_ (fun K hK => ?_) (fun K hK => ?_)
    · rfl
    · rfl
    · (try clear hb); go_simp; go_wp2_with fail; refine hK.out _ _ ?_ (fun hHeld => ?_); (· exact hHeld); clear hK K
      try simp only [zp1, zp3, zp4, zp5]
      refine qy 3 ?_ ?_ ?_ hHeld ?_; rotate_left 1; (· rfl); (· intro w' hSw; (try clear hHeld); go_simp; try with_reducible rfl)
      try simp only [zp1, zp3, zp4, zp5]
      refine qy 4 ?_ ?_ ?_ hHeld ?_; rotate_left 1; (· rfl); (· intro w' hSw; have c0 := hSw.cell c0 NC.out; have c1 := hSw.cell c1 NC.out; have rx0 := hSw.cell rx0 NX.out; have rp0 := hSw.cell rp0 NB.out; (try clear hHeld); go_simp; try with_reducible rfl)
      try simp only [zp1, zp3, zp4, zp5]
      refine rg_call (i := 7) (atN rfl) (by kernel_rfl) ?_ (fun K hK => ?_); (· rfl); (try clear hb); go_simp; have hlo := hBel.size; refine (CLN.out _ (below_on B0.out hBel)).mono ?_; rintro e w1 ⟨u, rfl, fr, hb⟩; have FR := Lib.hid fr; clear fr; have hhi := hb.size; replace qab := (hb.block _ (row_lt qab)).trans qab; replace hBel := below_on hBel hb; have hBel1 := below_on B0.out hBel; go_wp2_with fail; refine hK.out _ _ ?_ (fun hHeld => ?_); (· exact hHeld.grow hb); clear hK K
      try simp only [zp1, zp3, zp4, zp5]
      refine qy 8 ?_ ?_ ?_ hHeld ?_; rotate_left 1; (· rfl); (· intro w' hSw; (try clear hHeld); go_simp; try with_reducible rfl)
      try simp only [zp1, zp3, zp4, zp5]
      refine rg_call (i := 9) (atN rfl) (by kernel_rfl) ?_ (fun K hK => ?_); (· rfl); (try clear hb); go_simp; refine rt_one_k (peer := peer) (p := p) (v := u) (q := K _) ?_; intro w2 hcs hb2; replace qab := (hb2.block _ (row_lt qab)).trans qab; replace hBel := below_on hBel hb2; refine hK.out _ _ ?_ (fun hHeld => ?_); (· exact hHeld.grow hb2); clear hK K
      try simp only [zp1, zp3, zp4, zp5]
      refine rg_call (i := 10) (atN rfl) (by kernel_rfl) ?_ (fun K hK => ?_); (· rfl); (try clear hb); refine wp_append_at _ _ 57 rfl w.heap.size 61 i0 _ 13 152 Tryz.underlying57 hii hz0 hz1 hz2 rfl (by decide) (.slice s0 vs.length cp0) vs.length (vs.flatMap (rtL peer)) rfl (own_below HRE.out.own (below_on B0.out hBel)) ⟨_, 0, none⟩ 1 1 (rtC peer p u).toList rfl rfl hcs (rtL_one peer ⟨p, en.a, u, 0, 0⟩) (by have := VL.out; unfold maxLen; omega) (by have := VL.out; omega) (by have := WB.out; have := B0.out.size; have := hBel.size; omega) ?_; intro v3 w3 h2 h3 hat; obtain ⟨s3, c3, rfl, -⟩ := own_form h2; have hk3 : Kept (fun k => Value.ownBlock (.slice s0 vs.length cp0) = some k) w2 w3 := ⟨h3.os, h3.tape, h3.output, h3.size, fun k hk hne => h3.block k hk (fun e => hne e.symm)⟩; refine hK.out _ _ ?_ (fun hHeld => ?_); (· exact hHeld.trans (hk3.imp fun k h => .inr h)); clear hK K
      try simp only [zp1, zp3, zp4, zp5]
      refine rg_call (i := 11) (atN rfl) (by kernel_rfl) ?_ (fun K hK => ?_); (· rfl); (try clear hb); have qab3 := (hk3.block _ (row_lt qab) NAO.out).trans qab; have cv : _ = some (Value.slice s0 vs.length cp0) := row_cell qab3 0; have fz := row_free qab3 0; go_simp; go_wp2_with fail; refine hK.out _ _ ?_ (fun hHeld => ?_); (· exact hHeld.put _ _ (.inl (.inl rfl))); clear hK K
      try simp only [Act.put]
      refine wpAnyH_done (by kernel_rfl) ?_ _
      have HS := Lib.hid (HH.out.step (w1 := w1) (w2 := w2) (w3 := w3) HAB.out HRE.out HMP.out HPX.out HOG.out HPP.out GT.out OKx.out hBel1 (Nat.le_trans B0.out.size hlo) FR.out hb2 h2 hk3 hat)
      clear hHeld hBel qab hBel1 hb2 h2 h3 hk3 hat
      go_wp2_with fail
      go_ret
      exact ⟨rfl, HS.out⟩
    · (try clear hb); go_simp; have hlo := hBel.size; refine (CLN.out _ (below_on B0.out hBel)).mono ?_; rintro e w1 ⟨u, rfl, fr, hb⟩; have FR := Lib.hid fr; clear fr; have hhi := hb.size; replace qab := (hb.block _ (row_lt qab)).trans qab; replace hBel := below_on hBel hb; have hBel1 := below_on B0.out hBel; go_wp2_with fail; refine hK.out _ _ ?_ (fun hHeld => ?_); (· exact hHeld.grow hb); clear hK K
      try simp only [zp1, zp3, zp4, zp5]
      refine rg_call (i := 2) (atN rfl) (by kernel_rfl) ?_ (fun K hK => ?_); (· rfl); (try clear hb); go_simp; go_wp2_with fail; refine hK.out _ _ ?_ (fun hHeld => ?_); (· exact hHeld); clear hK K
      try simp only [zp1, zp3, zp4, zp5]
      refine qy 3 ?_ ?_ ?_ hHeld ?_; rotate_left 1; (· rfl); (· intro w' hSw; (try clear hHeld); go_simp; try with_reducible rfl)
      try simp only [zp1, zp3, zp4, zp5]
      refine qy 4 ?_ ?_ ?_ hHeld ?_; rotate_left 1; (· rfl); (· intro w' hSw; have c0 := hSw.cell c0 NC.out; have c1 := hSw.cell c1 NC.out; have rx0 := hSw.cell rx0 NX.out; have rp0 := hSw.cell rp0 NB.out; (try clear hHeld); go_simp; try with_reducible rfl)
      try simp only [zp1, zp3, zp4, zp5]
      refine qy 8 ?_ ?_ ?_ hHeld ?_; rotate_left 1; (· rfl); (· intro w' hSw; (try clear hHeld); go_simp; try with_reducible rfl)
      try simp only [zp1, zp3, zp4, zp5]
      refine rg_call (i := 9) (atN rfl) (by kernel_rfl) ?_ (fun K hK => ?_); (· rfl); (try clear hb); go_simp; refine rt_one_k (peer := peer) (p := p) (v := u) (q := K _) ?_; intro w2 hcs hb2; replace qab := (hb2.block _ (row_lt qab)).trans qab; replace hBel := below_on hBel hb2; refine hK.out _ _ ?_ (fun hHeld => ?_); (· exact hHeld.grow hb2); clear hK K
      try simp only [zp1, zp3, zp4, zp5]
      refine rg_call (i := 10) (atN rfl) (by kernel_rfl) ?_ (fun K hK => ?_); (· rfl); (try clear hb); refine wp_append_at _ _ 57 rfl w.heap.size 61 i0 _ 13 152 Tryz.underlying57 hii hz0 hz1 hz2 rfl (by decide) (.slice s0 vs.length cp0) vs.length (vs.flatMap (rtL peer)) rfl (own_below HRE.out.own (below_on B0.out hBel)) ⟨_, 0, none⟩ 1 1 (rtC peer p u).toList rfl rfl hcs (rtL_one peer ⟨p, en.a, u, 0, 0⟩) (by have := VL.out; unfold maxLen; omega) (by have := VL.out; omega) (by have := WB.out; have := B0.out.size; have := hBel.size; omega) ?_; intro v3 w3 h2 h3 hat; obtain ⟨s3, c3, rfl, -⟩ := own_form h2; have hk3 : Kept (fun k => Value.ownBlock (.slice s0 vs.length cp0) = some k) w2 w3 := ⟨h3.os, h3.tape, h3.output, h3.size, fun k hk hne => h3.block k hk (fun e => hne e.symm)⟩; refine hK.out _ _ ?_ (fun hHeld => ?_); (· exact hHeld.trans (hk3.imp fun k h => .inr h)); clear hK K
      try simp only [zp1, zp3, zp4, zp5]
      refine rg_call (i := 11) (atN rfl) (by kernel_rfl) ?_ (fun K hK => ?_); (· rfl); (try clear hb); have qab3 := (hk3.block _ (row_lt qab) NAO.out).trans qab; have cv : _ = some (Value.slice s0 vs.length cp0) := row_cell qab3 0; have fz := row_free qab3 0; go_simp; go_wp2_with fail; refine hK.out _ _ ?_ (fun hHeld => ?_); (· exact hHeld.put _ _ (.inl (.inl rfl))); clear hK K
      try simp only [Act.put]
      refine wpAnyH_done (by kernel_rfl) ?_ _
      have HS := Lib.hid (HH.out.step (w1 := w1) (w2 := w2) (w3 := w3) HAB.out HRE.out HMP.out HPX.out HOG.out HPP.out GT.out OKx.out hBel1 (Nat.le_trans B0.out.size hlo) FR.out hb2 h2 hk3 hat)
      clear hHeld hBel qab hBel1 hb2 h2 h3 hk3 hat
      go_wp2_with fail
      go_ret
      exact ⟨rfl, HS.out⟩
  · (try clear hb); go_simp; go_wp2_with fail; refine hK.out _ _ ?_ (fun hHeld => ?_); (· exact hHeld); clear hK K
    try simp only [zp1, zp3, zp4, zp5]
    refine qy 3 ?_ ?_ ?_ hHeld ?_; rotate_left 1; (· rfl); (· intro w' hSw; (try clear hHeld); go_simp; try with_reducible rfl)
    try simp only [zp1, zp3, zp4, zp5]
    refine qy 4 ?_ ?_ ?_ hHeld ?_; rotate_left 1; (· rfl); (· intro w' hSw; have c0 := hSw.cell c0 NC.out; have c1 := hSw.cell c1 NC.out; have rx0 := hSw.cell rx0 NX.out; have rp0 := hSw.cell rp0 NB.out; (try clear hHeld); go_simp; try with_reducible rfl)
    try simp only [zp1, zp3, zp4, zp5]
    refine rg_call2 (i := 0) (j := 7) at0 (atS (atS (atS (atS (atS (atS (atS at0))))))) (by kernel_rfl) ?_ ?_ (fun K hK => ?_) (fun K hK => ?_)
    · rfl
    · rfl
    · (try clear hb); have cv : _ = some (Value.slice s0 vs.length cp0) := row_cell qab 0; go_simp; go_wp2_with fail; refine hK.out _ _ ?_ (fun hHeld => ?_); (· exact hHeld); clear hK K
      try simp only [zp1, zp3, zp4, zp5]
      refine rg_call (i := 7) (atN rfl) (by kernel_rfl) ?_ (fun K hK => ?_); (· rfl); (try clear hb); go_simp; have hlo := hBel.size; refine (CLN.out _ (below_on B0.out hBel)).mono ?_; rintro e w1 ⟨u, rfl, fr, hb⟩; have FR := Lib.hid fr; clear fr; have hhi := hb.size; replace qab := (hb.block _ (row_lt qab)).trans qab; replace hBel := below_on hBel hb; have hBel1 := below_on B0.out hBel; go_wp2_with fail; refine hK.out _ _ ?_ (fun hHeld => ?_); (· exact hHeld.grow hb); clear hK K
      try simp only [zp1, zp3, zp4, zp5]
      refine qy 8 ?_ ?_ ?_ hHeld ?_; rotate_left 1; (· rfl); (· intro w' hSw; (try clear hHeld); go_simp; try with_reducible rfl)
      try simp only [zp1, zp3, zp4, zp5]
      refine rg_call (i := 9) (atN rfl) (by kernel_rfl) ?_ (fun K hK => ?_); (· rfl); (try clear hb); go_simp; refine rt_one_k (peer := peer) (p := p) (v := u) (q := K _) ?_; intro w2 hcs hb2; replace qab := (hb2.block _ (row_lt qab)).trans qab; replace hBel := below_on hBel hb2; refine hK.out _ _ ?_ (fun hHeld => ?_); (· exact hHeld.grow hb2); clear hK K
      try simp only [zp1, zp3, zp4, zp5]
      refine rg_call (i := 10) (atN rfl) (by kernel_rfl) ?_ (fun K hK => ?_); (· rfl); (try clear hb); refine wp_append_at _ _ 57 rfl w.heap.size 61 i0 _ 13 152 Tryz.underlying57 hii hz0 hz1 hz2 rfl (by decide) (.slice s0 vs.length cp0) vs.length (vs.flatMap (rtL peer)) rfl (own_below HRE.out.own (below_on B0.out hBel)) ⟨_, 0, none⟩ 1 1 (rtC peer p u).toList rfl rfl hcs (rtL_one peer ⟨p, en.a, u, 0, 0⟩) (by have := VL.out; unfold maxLen; omega) (by have := VL.out; omega) (by have := WB.out; have := B0.out.size; have := hBel.size; omega) ?_; intro v3 w3 h2 h3 hat; obtain ⟨s3, c3, rfl, -⟩ := own_form h2; have hk3 : Kept (fun k => Value.ownBlock (.slice s0 vs.length cp0) = some k) w2 w3 := ⟨h3.os, h3.tape, h3.output, h3.size, fun k hk hne => h3.block k hk (fun e => hne e.symm)⟩; refine hK.out _ _ ?_ (fun hHeld => ?_); (· exact hHeld.trans (hk3.imp fun k h => .inr h)); clear hK K
      try simp only [zp1, zp3, zp4, zp5]
      refine rg_call (i := 11) (atN rfl) (by kernel_rfl) ?_ (fun K hK => ?_); (· rfl); (try clear hb); have qab3 := (hk3.block _ (row_lt qab) NAO.out).trans qab; have cv : _ = some (Value.slice s0 vs.length cp0) := row_cell qab3 0; have fz := row_free qab3 0; go_simp; go_wp2_with fail; refine hK.out _ _ ?_ (fun hHeld => ?_); (· exact hHeld.put _ _ (.inl (.inl rfl))); clear hK K
      try simp only [Act.put]
      refine wpAnyH_done (by kernel_rfl) ?_ _
      have HS := Lib.hid (HH.out.step (w1 := w1) (w2 := w2) (w3 := w3) HAB.out HRE.out HMP.out HPX.out HOG.out HPP.out GT.out OKx.out hBel1 (Nat.le_trans B0.out.size hlo) FR.out hb2 h2 hk3 hat)
      clear hHeld hBel qab hBel1 hb2 h2 h3 hk3 hat
      go_wp2_with fail
      go_ret
      exact ⟨rfl, HS.out⟩
    · (try clear hb); go_simp; have hlo := hBel.size; refine (CLN.out _ (below_on B0.out hBel)).mono ?_; rintro e w1 ⟨u, rfl, fr, hb⟩; have FR := Lib.hid fr; clear fr; have hhi := hb.size; replace qab := (hb.block _ (row_lt qab)).trans qab; replace hBel := below_on hBel hb; have hBel1 := below_on B0.out hBel; go_wp2_with fail; refine hK.out _ _ ?_ (fun hHeld => ?_); (· exact hHeld.grow hb); clear hK K
      try simp only [zp1, zp3, zp4, zp5]
      refine qy 8 ?_ ?_ ?_ hHeld ?_; rotate_left 1; (· rfl); (· intro w' hSw; (try clear hHeld); go_simp; try with_reducible rfl)
      try simp only [zp1, zp3, zp4, zp5]
      refine rg_call2 (i := 0) (j := 9) at0 (atS (atS (atS (atS (atS (atS (atS (atS (atS at0))))))))) (by kernel_rfl) ?_ ?_ (fun K hK => ?_) (fun K hK => ?_)
      · rfl
      · rfl
      · (try clear hb); have cv : _ = some (Value.slice s0 vs.length cp0) := row_cell qab 0; go_simp; go_wp2_with fail; refine hK.out _ _ ?_ (fun hHeld => ?_); (· exact hHeld); clear hK K
        try simp only [zp1, zp3, zp4, zp5]
        refine rg_call (i := 9) (atN rfl) (by kernel_rfl) ?_ (fun K hK => ?_); (· rfl); (try clear hb); go_simp; refine rt_one_k (peer := peer) (p := p) (v := u) (q := K _) ?_; intro w2 hcs hb2; replace qab := (hb2.block _ (row_lt qab)).trans qab; replace hBel := below_on hBel hb2; refine hK.out _ _ ?_ (fun hHeld => ?_); (· exact hHeld.grow hb2); clear hK K
        try simp only [zp1, zp3, zp4, zp5]
        refine rg_call (i := 10) (atN rfl) (by kernel_rfl) ?_ (fun K hK => ?_); (· rfl); (try clear hb); refine wp_append_at _ _ 57 rfl w.heap.size 61 i0 _ 13 152 Tryz.underlying57 hii hz0 hz1 hz2 rfl (by decide) (.slice s0 vs.length cp0) vs.length (vs.flatMap (rtL peer)) rfl (own_below HRE.out.own (below_on B0.out hBel)) ⟨_, 0, none⟩ 1 1 (rtC peer p u).toList rfl rfl hcs (rtL_one peer ⟨p, en.a, u, 0, 0⟩) (by have := VL.out; unfold maxLen; omega) (by have := VL.out; omega) (by have := WB.out; have := B0.out.size; have := hBel.size; omega) ?_; intro v3 w3 h2 h3 hat; obtain ⟨s3, c3, rfl, -⟩ := own_form h2; have hk3 : Kept (fun k => Value.ownBlock (.slice s0 vs.length cp0) = some k) w2 w3 := ⟨h3.os, h3.tape, h3.output, h3.size, fun k hk hne => h3.block k hk (fun e => hne e.symm)⟩; refine hK.out _ _ ?_ (fun hHeld => ?_); (· exact hHeld.trans (hk3.imp fun k h => .inr h)); clear hK K
        try simp only [zp1, zp3, zp4, zp5]
        refine rg_call (i := 11) (atN rfl) (by kernel_rfl) ?_ (fun K hK => ?_); (· rfl); (try clear hb); have qab3 := (hk3.block _ (row_lt qab) NAO.out).trans qab; have cv : _ = some (Value.slice s0 vs.length cp0) := row_cell qab3 0; have fz := row_free qab3 0; go_simp; go_wp2_with fail; refine hK.out _ _ ?_ (fun hHeld => ?_); (· exact hHeld.put _ _ (.inl (.inl rfl))); clear hK K
        try simp only [Act.put]
        refine wpAnyH_done (by kernel_rfl) ?_ _
        have HS := Lib.hid (HH.out.step (w1 := w1) (w2 := w2) (w3 := w3) HAB.out HRE.out HMP.out HPX.out HOG.out HPP.out GT.out OKx.out hBel1 (Nat.le_trans B0.out.size hlo) FR.out hb2 h2 hk3 hat)
        clear hHeld hBel qab hBel1 hb2 h2 h3 hk3 hat
        go_wp2_with fail
        go_ret
        exact ⟨rfl, HS.out⟩
      · (try clear hb); go_simp; refine rt_one_k (peer := peer) (p := p) (v := u) (q := K _) ?_; intro w2 hcs hb2; replace qab := (hb2.block _ (row_lt qab)).trans qab; replace hBel := below_on hBel hb2; refine hK.out _ _ ?_ (fun hHeld => ?_); (· exact hHeld.grow hb2); clear hK K
        try simp only [zp1, zp3, zp4, zp5]
        refine rg_call (i := 0) (atN rfl) (by kernel_rfl) ?_ (fun K hK => ?_); (· rfl); (try clear hb); have cv : _ = some (Value.slice s0 vs.length cp0) := row_cell qab 0; go_simp; go_wp2_with fail; refine hK.out _ _ ?_ (fun hHeld => ?_); (· exact hHeld); clear hK K
        try simp only [zp1, zp3, zp4, zp5]
        refine rg_call (i := 10) (atN rfl) (by kernel_rfl) ?_ (fun K hK => ?_); (· rfl); (try clear hb); refine wp_append_at _ _ 57 rfl w.heap.size 61 i0 _ 13 152 Tryz.underlying57 hii hz0 hz1 hz2 rfl (by decide) (.slice s0 vs.length cp0) vs.length (vs.flatMap (rtL peer)) rfl (own_below HRE.out.own (below_on B0.out hBel)) ⟨_, 0, none⟩ 1 1 (rtC peer p u).toList rfl rfl hcs (rtL_one peer ⟨p, en.a, u, 0, 0⟩) (by have := VL.out; unfold maxLen; omega) (by have := VL.out; omega) (by have := WB.out; have := B0.out.size; have := hBel.size; omega) ?_; intro v3 w3 h2 h3 hat; obtain ⟨s3, c3, rfl, -⟩ := own_form h2; have hk3 : Kept (fun k => Value.ownBlock (.slice s0 vs.length cp0) = some k) w2 w3 := ⟨h3.os, h3.tape, h3.output, h3.size, fun k hk hne => h3.block k hk (fun e => hne e.symm)⟩; refine hK.out _ _ ?_ (fun hHeld => ?_); (· exact hHeld.trans (hk3.imp fun k h => .inr h)); clear hK K
        try simp only [zp1, zp3, zp4, zp5]
        refine rg_call (i := 11) (atN rfl) (by kernel_rfl) ?_ (fun K hK => ?_); (· rfl); (try clear hb); have qab3 := (hk3.block _ (row_lt qab) NAO.out).trans qab; have cv : _ = some (Value.slice s0 vs.length cp0) := row_cell qab3 0; have fz := row_free qab3 0; go_simp; go_wp2_with fail; refine hK.out _ _ ?_ (fun hHeld => ?_); (· exact hHeld.put _ _ (.inl (.inl rfl))); clear hK K
        try simp only [Act.put]
        refine wpAnyH_done (by kernel_rfl) ?_ _
        have HS := Lib.hid (HH.out.step (w1 := w1) (w2 := w2) (w3 := w3) HAB.out HRE.out HMP.out HPX.out HOG.out HPP.out GT.out OKx.out hBel1 (Nat.le_trans B0.out.size hlo) FR.out hb2 h2 hk3 hat)
        clear hHeld hBel qab hBel1 hb2 h2 h3 hk3 hat
        go_wp2_with fail
        go_ret
        exact ⟨rfl, HS.out⟩
  · (try clear hb); go_simp; have hlo := hBel.size; refine (CLN.out _ (below_on B0.out hBel)).mono ?_; rintro e w1 ⟨u, rfl, fr, hb⟩; have FR := Lib.hid fr; clear fr; have hhi := hb.size; replace qab := (hb.block _ (row_lt qab)).trans qab; replace hBel := below_on hBel hb; have hBel1 := below_on B0.out hBel; go_wp2_with fail; refine hK.out _ _ ?_ (fun hHeld => ?_); (· exact hHeld.grow hb); clear hK K
    try simp only [zp1, zp3, zp4, zp5]
    refine rg_call2 (i := 0) (j := 2) at0 (atS (atS at0)) (by kernel_rfl) ?_ ?_ (fun K hK => ?_) (fun K hK => ?_)
    · rfl
    · rfl
    · (try clear hb); have cv : _ = some (Value.slice s0 vs.length cp0) := row_cell qab 0; go_simp; go_wp2_with fail; refine hK.out _ _ ?_ (fun hHeld => ?_); (· exact hHeld); clear hK K
      try simp only [zp1, zp3, zp4, zp5]
      refine rg_call (i := 2) (atN rfl) (by kernel_rfl) ?_ (fun K hK => ?_); (· rfl); (try clear hb); go_simp; go_wp2_with fail; refine hK.out _ _ ?_ (fun hHeld => ?_); (· exact hHeld); clear hK K
      try simp only [zp1, zp3, zp4, zp5]
      refine qy 3 ?_ ?_ ?_ hHeld ?_; rotate_left 1; (· rfl); (· intro w' hSw; (try clear hHeld); go_simp; try with_reducible rfl)
      try simp only [zp1, zp3, zp4, zp5]
      refine qy 4 ?_ ?_ ?_ hHeld ?_; rotate_left 1; (· rfl); (· intro w' hSw; have c0 := hSw.cell c0 NC.out; have c1 := hSw.cell c1 NC.out; have rx0 := hSw.cell rx0 NX.out; have rp0 := hSw.cell rp0 NB.out; (try clear hHeld); go_simp; try with_reducible rfl)
      try simp only [zp1, zp3, zp4, zp5]
      refine qy 8 ?_ ?_ ?_ hHeld ?_; rotate_left 1; (· rfl); (· intro w' hSw; (try clear hHeld); go_simp; try with_reducible rfl)
      try simp only [zp1, zp3, zp4, zp5]
      refine rg_call (i := 9) (atN rfl) (by kernel_rfl) ?_ (fun K hK => ?_); (· rfl); (try clear hb); go_simp; refine rt_one_k (peer := peer) (p := p) (v := u) (q := K _) ?_; intro w2 hcs hb2; replace qab := (hb2.block _ (row_lt qab)).trans qab; replace hBel := below_on hBel hb2; refine hK.out _ _ ?_ (fun hHeld => ?_); (· exact hHeld.grow hb2); clear hK K
      try simp only [zp1, zp3, zp4, zp5]
      refine rg_call (i := 10) (atN rfl) (by kernel_rfl) ?_ (fun K hK => ?_); (· rfl); (try clear hb); refine wp_append_at _ _ 57 rfl w.heap.size 61 i0 _ 13 152 Tryz.underlying57 hii hz0 hz1 hz2 rfl (by decide) (.slice s0 vs.length cp0) vs.length (vs.flatMap (rtL peer)) rfl (own_below HRE.out.own (below_on B0.out hBel)) ⟨_, 0, none⟩ 1 1 (rtC peer p u).toList rfl rfl hcs (rtL_one peer ⟨p, en.a, u, 0, 0⟩) (by have := VL.out; unfold maxLen; omega) (by have := VL.out; omega) (by have := WB.out; have := B0.out.size; have := hBel.size; omega) ?_; intro v3 w3 h2 h3 hat; obtain ⟨s3, c3, rfl, -⟩ := own_form h2; have hk3 : Kept (fun k => Value.ownBlock (.slice s0 vs.length cp0) = some k) w2 w3 := ⟨h3.os, h3.tape, h3.output, h3.size, fun k hk hne => h3.block k hk (fun e => hne e.symm)⟩; refine hK.out _ _ ?_ (fun hHeld => ?_); (· exact hHeld.trans (hk3.imp fun k h => .inr h)); clear hK K
      try simp only [zp1, zp3, zp4, zp5]
      refine rg_call (i := 11) (atN rfl) (by kernel_rfl) ?_ (fun K hK => ?_); (· rfl); (try clear hb); have qab3 := (hk3.block _ (row_lt qab) NAO.out).trans qab; have cv : _ = some (Value.slice s0 vs.length cp0) := row_cell qab3 0; have fz := row_free qab3 0; go_simp; go_wp2_with fail; refine hK.out _ _ ?_ (fun hHeld => ?_); (· exact hHeld.put _ _ (.inl (.inl rfl))); clear hK K
      try simp only [Act.put]
      refine wpAnyH_done (by kernel_rfl) ?_ _
      have HS := Lib.hid (HH.out.step (w1 := w1) (w2 := w2) (w3 := w3) HAB.out HRE.out HMP.out HPX.out HOG.out HPP.out GT.out OKx.out hBel1 (Nat.le_trans B0.out.size hlo) FR.out hb2 h2 hk3 hat)
      clear hHeld hBel qab hBel1 hb2 h2 h3 hk3 hat
      go_wp2_with fail
      go_ret
      exact ⟨rfl, HS.out⟩
    · (try clear hb); go_simp; go_wp2_with fail; refine hK.out _ _ ?_ (fun hHeld => ?_); (· exact hHeld); clear hK K
      try simp only [zp1, zp3, zp4, zp5]
      refine qy 3 ?_ ?_ ?_ hHeld ?_; rotate_left 1; (· rfl); (· intro w' hSw; (try clear hHeld); go_simp; try with_reducible rfl)
      try simp only [zp1, zp3, zp4, zp5]
      refine qy 4 ?_ ?_ ?_ hHeld ?_; rotate_left 1; (· rfl); (· intro w' hSw; have c0 := hSw.cell c0 NC.out; have c1 := hSw.cell c1 NC.out; have rx0 := hSw.cell rx0 NX.out; have rp0 := hSw.cell rp0 NB.out; (try clear hHeld); go_simp; try with_reducible rfl)
      try simp only [zp1, zp3, zp4, zp5]
      refine qy 8 ?_ ?_ ?_ hHeld ?_; rotate_left 1; (· rfl); (· intro w' hSw; (try clear hHeld); go_simp; try with_reducible rfl)
      try simp only [zp1, zp3, zp4, zp5]
      refine rg_call2 (i := 0) (j := 9) at0 (atS (atS (atS (atS (atS (atS (atS (atS (atS at0))))))))) (by kernel_rfl) ?_ ?_ (fun K hK => ?_) (fun K hK => ?_)
      · rfl
      · rfl
      · (try clear hb); have cv : _ = some (Value.slice s0 vs.length cp0) := row_cell qab 0; go_simp; go_wp2_with fail; refine hK.out _ _ ?_ (fun hHeld => ?_); (· exact hHeld); clear hK K
        try simp only [zp1, zp3, zp4, zp5]
        refine rg_call (i := 9) (atN rfl) (by kernel_rfl) ?_ (fun K hK => ?_); (· rfl); (try clear hb); go_simp; refine rt_one_k (peer := peer) (p := p) (v := u) (q := K _) ?_; intro w2 hcs hb2; replace qab := (hb2.block _ (row_lt qab)).trans qab; replace hBel := below_on hBel hb2; refine hK.out _ _ ?_ (fun hHeld => ?_); (· exact hHeld.grow hb2); clear hK K
        try simp only [zp1, zp3, zp4, zp5]
        refine rg_call (i := 10) (atN rfl) (by kernel_rfl) ?_ (fun K hK => ?_); (· rfl); (try clear hb); refine wp_append_at _ _ 57 rfl w.heap.size 61 i0 _ 13 152 Tryz.underlying57 hii hz0 hz1 hz2 rfl (by decide) (.slice s0 vs.length cp0) vs.length (vs.flatMap (rtL peer)) rfl (own_below HRE.out.own (below_on B0.out hBel)) ⟨_, 0, none⟩ 1 1 (rtC peer p u).toList rfl rfl hcs (rtL_one peer ⟨p, en.a, u, 0, 0⟩) (by have := VL.out; unfold maxLen; omega) (by have := VL.out; omega) (by have := WB.out; have := B0.out.size; have := hBel.size; omega) ?_; intro v3 w3 h2 h3 hat; obtain ⟨s3, c3, rfl, -⟩ := own_form h2; have hk3 : Kept (fun k => Value.ownBlock (.slice s0 vs.length cp0) = some k) w2 w3 := ⟨h3.os, h3.tape, h3.output, h3.size, fun k hk hne => h3.block k hk (fun e => hne e.symm)⟩; refine hK.out _ _ ?_ (fun hHeld => ?_); (· exact hHeld.trans (hk3.imp fun k h => .inr h)); clear hK K
        try simp only [zp1, zp3, zp4, zp5]
        refine rg_call (i := 11) (atN rfl) (by kernel_rfl) ?_ (fun K hK => ?_); (· rfl); (try clear hb); have qab3 := (hk3.block _ (row_lt qab) NAO.out).trans qab; have cv : _ = some (Value.slice s0 vs.length cp0) := row_cell qab3 0; have fz := row_free qab3 0; go_simp; go_wp2_with fail; refine hK.out _ _ ?_ (fun hHeld => ?_); (· exact hHeld.put _ _ (.inl (.inl rfl))); clear hK K
        try simp only [Act.put]
        refine wpAnyH_done (by kernel_rfl) ?_ _
        have HS := Lib.hid (HH.out.step (w1 := w1) (w2 := w2) (w3 := w3) HAB.out HRE.out HMP.out HPX.out HOG.out HPP.out GT.out OKx.out hBel1 (Nat.le_trans B0.out.size hlo) FR.out hb2 h2 hk3 hat)
        clear hHeld hBel qab hBel1 hb2 h2 h3 hk3 hat
        go_wp2_with fail
        go_ret
        exact ⟨rfl, HS.out⟩
      · (try clear hb); go_simp; refine rt_one_k (peer := peer) (p := p) (v := u) (q := K _) ?_; intro w2 hcs hb2; replace qab := (hb2.block _ (row_lt qab)).trans qab; replace hBel := below_on hBel hb2; refine hK.out _ _ ?_ (fun hHeld => ?_); (· exact hHeld.grow hb2); clear hK K
        try simp only [zp1, zp3, zp4, zp5]
        refine rg_call (i := 0) (atN rfl) (by kernel_rfl) ?_ (fun K hK => ?_); (· rfl); (try clear hb); have cv : _ = some (Value.slice s0 vs.length cp0) := row_cell qab 0; go_simp; go_wp2_with fail; refine hK.out _ _ ?_ (fun hHeld => ?_); (· exact hHeld); clear hK K
        try simp only [zp1, zp3, zp4, zp5]
        refine rg_call (i := 10) (atN rfl) (by kernel_rfl) ?_ (fun K hK => ?_); (· rfl); (try clear hb); refine wp_append_at _ _ 57 rfl w.heap.size 61 i0 _ 13 152 Tryz.underlying57 hii hz0 hz1 hz2 rfl (by decide) (.slice s0 vs.length cp0) vs.length (vs.flatMap (rtL peer)) rfl (own_below HRE.out.own (below_on B0.out hBel)) ⟨_, 0, none⟩ 1 1 (rtC peer p u).toList rfl rfl hcs (rtL_one peer ⟨p, en.a, u, 0, 0⟩) (by have := VL.out; unfold maxLen; omega) (by have := VL.out; omega) (by have := WB.out; have := B0.out.size; have := hBel.size; omega) ?_; intro v3 w3 h2 h3 hat; obtain ⟨s3, c3, rfl, -⟩ := own_form h2; have hk3 : Kept (fun k => Value.ownBlock (.slice s0 vs.length cp0) = some k) w2 w3 := ⟨h3.os, h3.tape, h3.output, h3.size, fun k hk hne => h3.block k hk (fun e => hne e.symm)⟩; refine hK.out _ _ ?_ (fun hHeld => ?_); (· exact hHeld.trans (hk3.imp fun k h => .inr h)); clear hK K
        try simp only [zp1, zp3, zp4, zp5]
        refine rg_call (i := 11) (atN rfl) (by kernel_rfl) ?_ (fun K hK => ?_); (· rfl); (try clear hb); have qab3 := (hk3.block _ (row_lt qab) NAO.out).trans qab; have cv : _ = some (Value.slice s0 vs.length cp0) := row_cell qab3 0; have fz := row_free qab3 0; go_simp; go_wp2_with fail; refine hK.out _ _ ?_ (fun hHeld => ?_); (· exact hHeld.put _ _ (.inl (.inl rfl))); clear hK K
        try simp only [Act.put]
        refine wpAnyH_done (by kernel_rfl) ?_ _
        have HS := Lib.hid (HH.out.step (w1 := w1) (w2 := w2) (w3 := w3) HAB.out HRE.out HMP.out HPX.out HOG.out HPP.out GT.out OKx.out hBel1 (Nat.le_trans B0.out.size hlo) FR.out hb2 h2 hk3 hat)
        clear hHeld hBel qab hBel1 hb2 h2 h3 hk3 hat
        go_wp2_with fail
        go_ret
        exact ⟨rfl, HS.out⟩
end Go.Proofs.YtkoidahgbbabiaaGreat
/-
  ALL ROUTES OF A PEER: All.
-/
namespace Go.Proofs.YtkoidahgbbabiaaGreat
open Go.RowKit Go.Lib
theorem all_srt (S : List (Nat × AV)) : ((goP S 32 0 0).map itP).Pairwise plt := by
  rw [List.pairwise_map]
  refine (goP_sorted (S := S) 32 0 0 rfl (by decide)).imp fun {x y} h => ?_
  unfold itLt at h
  unfold plt itP
  simp only
  omega
theorem all_mem {E : List Ent} (hE : ∀ e ∈ E, RgtP e.p) (p : Pf) : p ∈ (goP (kvs E) 32 0 0).map itP ↔ (getL (rts E) p).isSome = true := by
  constructor
  · intro h
    obtain ⟨x, hx, rfl⟩ := List.mem_map.1 h
    have hi := goP_in (S := kvs E) 32 0 0 rfl (by decide) x hx
    have hlt : x.1.1 < 4294967296 := by have := hi.hi; simpa using this
    obtain ⟨e, _, h1, _, h2⟩ := item_ent hE hlt (right_mod.2 ⟨hi.form, hi.le32⟩) hi.at_
    have e1 : itP ((x.1.1, x.1.2), x.2) = itP x := rfl
    rw [e1] at h2
    rw [h2]; rfl
  · intro h
    obtain ⟨a, ha⟩ := Option.isSome_iff_exists.1 h
    rw [find_rts] at ha
    cases hf : findE E p with
    | none => rw [hf] at ha; cases ha
    | some e =>
      obtain ⟨h1, rfl⟩ := findE_mem hf
      obtain ⟨x, n, hp, hx, hn, hm, hr⟩ := (hE e h1).nat
      have key := find_kvs hE (hE e h1)
      rw [hf] at key
      have hg : getL (kvs E) (keyN x n) = some e.v := by
        have : pKey e.p = keyN x n := by rw [hp]; rfl
        rw [← this]; exact key
      refine List.mem_map.2 ⟨((x, n), e.v), goP_mem hm hn hg 32 0 0 rfl (by decide) (Nat.zero_le _) (Nat.zero_le _) (by simpa using hx), ?_⟩
      rw [hp]; rfl
theorem ln_0 : Ln 32 ([] : List Itm) := by unfold Ln; simp
def AllPost (peer : Int) (R : Rts) (w : World) (e : Ending) (w' : World) : Prop := ∃ v vs, e = .returned v ∧ REs w' w.heap.size peer R v vs ∧ (vs.map (·.p)).Pairwise plt ∧ (∀ p, p ∈ vs.map (·.p) ↔ (getL R p).isSome = true) ∧ Below w.heap.size w w'
theorem each_all {w : World} {rb tb : Nat} {N : Nat → Option Nat} {E : List Ent} {peer own most : Int} {F : Nat → Prop} {ab rx : Nat} :
    EachOkN tb N (kvs E) most 117 #[.pointer (some ⟨ab, 0, none⟩), .pointer (some ⟨rx, 0, none⟩)] (fun _ => true) (AI w rb tb N E peer own most F ab rx) where
  ent := enters_of Tryz.func117 (by kernel_rfl) rfl
  stab P P' L W W' h hb hP := h.stab hb hP
  tri P L W h := h.rib.tri
  call P L W A i v h hA hR hg hl := all1_call P L W A i v h hA hR hg hl
set_option maxHeartbeats 3200000 in
set_option maxRecDepth 100000 in
theorem ad_All_in {rb tb : Nat} {N : Nat → Option Nat} {E : List Ent} {peer own most : Int} {F : Nat → Prop} (w : World) (h : RibIn w rb tb N E peer own most F) (hF : ∀ k, F k → k < w.heap.size) :
    Calls Tryz.prog 66 #[.pointer (some ⟨rb, 0, none⟩)] w (AllPost peer (rts E) w) := by
  have HH := Lib.hid h
  have HFL := Lib.hid hF
  clear h hF
  go_enter Tryz.func66, Tryz.ntmps66
  go_upto_region 4 with (fail)
  obtain ⟨W0, hW0, qr, qs, hB⟩ := boxTwo w #[.pointer (some ⟨rb, 0, none⟩)] 93 #[.slice none 0 0] 57
  rw [← hW0]
  clear hW0
  have rx0 : W0.cell? ⟨w.heap.size, 0, none⟩ = some (.pointer (some ⟨rb, 0, none⟩)) := row_cell qr 0
  have r3 := cell_below HH.out.cells.2.2.2 hB
  have I0 : Hid (AI w rb tb N E peer own most F (w.heap.size + 1) w.heap.size (fun _ => False) [] W0) := Lib.hid
    ⟨hB, HH.out.below hB, rx0, ⟨Nat.le_succ _, by omega⟩, HFL.out, ⟨_, [], qs, ⟨⟨rfl, .inl ⟨rfl, rfl⟩⟩, by simp, by simp, by simp⟩, rfl, by simp, by intro g hg; cases hg⟩, fun h => h, Nat.le_refl _, fun b hb => hb.elim⟩
  have AT := Lib.hid (trI_AllN each_all [] (fun _ => False) W0 I0.out ln_0)
  rw [runL_all _ (fun _ => rfl)] at AT
  clear qr qs
  go_wp2_with fail
  refine AT.out.mono ?_
  rintro e w1 ⟨rfl, I1, -⟩
  obtain ⟨v, vs, h1, h2, h3, -, -⟩ := I1.sl
  obtain ⟨s1, c1, hv, -⟩ := own_form h2.own
  subst hv
  have cv : w1.cell? ⟨w.heap.size + 1, 0, none⟩ = some (.slice s1 vs.length c1) := row_cell h1 0
  simp only [List.nil_append] at h3
  have FIN : Hid (AllPost peer (rts E) w (.returned (.slice s1 vs.length c1)) w1) := Lib.hid ⟨_, vs, rfl, h2, by rw [h3]; exact all_srt _, fun p => by rw [h3]; exact all_mem HH.out.rgt p, I1.bel⟩
  clear h1 h2 h3 I1 AT rx0 r3 hB
  go_wp2_with fail
  go_ret
  exact FIN.out
theorem ad_All {rb : Nat} {peer own most : Int} {R : Rts} {F : Nat → Prop} (w : World) (h : RibAt w rb peer own most R F) : Calls Tryz.prog 66 #[.pointer (some ⟨rb, 0, none⟩)] w (AllPost peer R w) := by
  obtain ⟨tb, N, E, hI, rfl⟩ := h
  obtain ⟨tb', hx⟩ : ∃ G : Nat → Prop, RibIn w rb tb N E peer own most G ∧ ∀ k, G k → k < w.heap.size := ⟨fun k => k = rb ∨ TOwn tb N k ∨ ∃ e ∈ E, e.lo ≤ k ∧ k < e.hi,
    ⟨hI.row, hI.tri, hI.rgt, hI.szs, hI.ent, .inl rfl, fun b hb => .inr (.inl hb), fun e he k h1 h2 => .inr (.inr ⟨e, he, h1, h2⟩), hI.apr, hI.apn, hI.most0, hI.most1, hI.room⟩, by
      rintro k (rfl | hk | ⟨e, he, h1, h2⟩)
      · exact row_lt hI.row
      · exact hI.tri.own_lt hk
      · exact Nat.lt_of_lt_of_le h2 (hI.ent e he).1⟩
  exact ad_All_in w hx.1 hx.2
end Go.Proofs.YtkoidahgbbabiaaGreat
/-
  ALL ROUTES OF A PEER: Clear: the function that is called at each.
-/
namespace Go.Proofs.YtkoidahgbbabiaaGreat
open Go.RowKit Go.Lib
structure CI (w : World) (rb tb : Nat) (N : Nat → Option Nat) (E : List Ent) (peer own most : Int) (F : Nat → Prop) (ab : Nat) (P : Nat → Prop) (L : List Itm) (W : World) : Prop where
  bel : Below w.heap.size w W
  rib : RibIn W rb tb N E peer own most F
  lo : w.heap.size ≤ ab
  flt : ∀ k, F k → k < w.heap.size
  sl : ∃ v, W.heap[ab]? = some (.cells #[v] 23 (0, 0)) ∧ OwnPs W w.heap.size v (L.map itP) ∧ (∀ g, v.ownBlock = some g → ¬ P g ∧ g ≠ ab)
  pab : ¬ P ab
  plt : ∀ b, P b → b < W.heap.size
section
variable {w W W' : World} {rb tb : Nat} {N : Nat → Option Nat} {E : List Ent} {peer own most : Int} {F P : Nat → Prop} {ab : Nat} {L : List Itm}
theorem CI.stab {P' : Nat → Prop} (h : CI w rb tb N E peer own most F ab P L W) (hb : Below W.heap.size W W') (hP : ∀ b, P' b → P b ∨ (W.heap.size ≤ b ∧ b < W'.heap.size)) : CI w rb tb N E peer own most F ab P' L W' := by
  obtain ⟨v, h1, h2, h3⟩ := h.sl
  refine ⟨below_on h.bel hb, h.rib.below hb, h.lo, h.flt, ⟨v, (hb.block _ (row_lt h1)).trans h1, h2.below hb, fun g hg => ⟨fun hp => ?_, (h3 g hg).2⟩⟩, fun hp => ?_, fun b hp => ?_⟩
  · rcases hP g hp with hp | hp
    · exact (h3 g hg).1 hp
    · have := own_lt h2.1 g hg; omega
  · rcases hP ab hp with hp | hp
    · exact h.pab hp
    · have := row_lt h1; omega
  · rcases hP b hp with hp | hp
    · exact Nat.lt_of_lt_of_le (h.plt b hp) hb.size
    · exact hp.2
theorem CI.step {w2 w3 : World} {v0 v3 : Value} {it : Itm} (h : CI w rb tb N E peer own most F ab P L W) (hab : W.heap[ab]? = some (.cells #[v0] 23 (0, 0))) (hre : OwnPs W w.heap.size v0 (L.map itP)) (hog : ∀ g, v0.ownBlock = some g → ¬ P g ∧ g ≠ ab)
    (b02 : Below W.heap.size W w2) (h2 : OwnPs w3 w.heap.size v3 ((L ++ [it]).map itP)) (hk3 : Kept (fun k => v0.ownBlock = some k) w2 w3) (hat : v3.ownBlock = v0.ownBlock ∨ v3.ownBlock = some w2.heap.size) :
    CI w rb tb N E peer own most F ab P (L ++ [it]) (w3.setCell ⟨ab, 0, none⟩ v3) ∧ Kept (fun b => ¬ P b) W (w3.setCell ⟨ab, 0, none⟩ v3) := by
  have hablt := row_lt hab
  have o0 := own_lt hre.1
  have o1 := own_form_le hre.1
  have s2 := b02.size
  have ws := h.bel.size
  have Kt : Kept (fun k => k = ab ∨ v0.ownBlock = some k) W (w3.setCell ⟨ab, 0, none⟩ v3) := (((Kept.of_below b02).trans (hk3.imp fun k hk => .inr hk)).put _ _ (.inl (.inl rfl)))
  have n3 : ∀ g, v3.ownBlock = some g → (v0.ownBlock = some g) ∨ g = w2.heap.size := fun g hg => by
    rcases hat with e | e
    · exact .inl (e ▸ hg)
    · rw [e] at hg; exact .inr (Option.some.inj hg).symm
  have n3ab : ∀ g, v3.ownBlock = some g → g ≠ ab := fun g hg e => by
    rcases n3 g hg with h1 | h1
    · exact (hog g h1).2 e
    · omega
  have hrow : w3.heap[ab]? = some (.cells #[v0] 23 (0, 0)) := (hk3.block ab (by omega) (fun h => (hog ab h).2 rfl)).trans ((b02.block ab hablt).trans hab)
  refine ⟨⟨h.bel.trans (Kt.below ws fun k hk => ?_), h.rib.kept Kt fun k hl hF hG => ?_, h.lo, h.flt, ⟨v3, ?_, h2.kept (Kept.setCell (F := fun k => k = ab) _ _ rfl) (fun g hg e => n3ab g hg e), ?_⟩, h.pab, fun b hb => Nat.lt_of_lt_of_le (h.plt b hb) Kt.size⟩, Kt.imp fun k hk hp => ?_⟩
  · rcases hk with rfl | hk
    · exact h.lo
    · exact o1 k hk
  · have := h.flt k hF
    have := h.lo
    rcases hG with rfl | hG
    · omega
    · have := o1 k hG; omega
  · rw [set_same hrow]; rfl
  · intro g hg
    rcases n3 g hg with h1 | h1
    · exact hog g h1
    · subst h1
      exact ⟨fun hp => by have := h.plt _ hp; omega, by omega⟩
  · rcases hk with rfl | hk
    · exact h.pab hp
    · exact (hog k hk).1 hp
end
set_option maxHeartbeats 3200000 in
set_option maxRecDepth 100000 in
theorem clear1_call {w : World} {rb tb : Nat} {N : Nat → Option Nat} {E : List Ent} {peer own most : Int} {F : Nat → Prop} {ab : Nat} (P : Nat → Prop) (L : List Itm) (W : World) (A i : Nat) (v : AV) (h : CI w rb tb N E peer own most F ab P L W)
    (hA : A < 4294967296) (hl : L.length < 8589934592) :
    Calls Tryz.prog 89 #[.agg #[.int .u32 A, .int .i64 i], v.V, .pointer (some ⟨ab, 0, none⟩)] W fun e w' => e = .returned (.bool true) ∧ CI w rb tb N E peer own most F ab P (L ++ [((A, i), v)]) w' ∧ Kept (fun b => ¬ P b) W w' := by
  obtain ⟨i0, hii, hz0, hz1, hz2⟩ := info_parts info_pref
  have HH := Lib.hid h
  have OKx : Hid (OkP (itP ((A, i), v))) := Lib.hid (by unfold itP OkP; simp only; omega)
  obtain ⟨v0, hab, hre, hog⟩ := h.sl
  obtain ⟨s0, cp0, hv0, -⟩ := own_form hre.1
  rw [List.length_map] at hv0
  subst hv0
  have HAB := Lib.hid hab
  have HRE := Lib.hid hre
  have HOG := Lib.hid hog
  have WB := Lib.hid h.bel.size
  clear h hab hre hog
  generalize hpp : itP ((A, i), v) = p at OKx
  have P1 : Hid ((A : Int) = p.1 ∧ (i : Int) = p.2) := Lib.hid (by rw [← hpp]; exact ⟨rfl, rfl⟩)
  have HPP := Lib.hid hpp
  have HL : Hid ((L.map itP).length = L.length) := Lib.hid (List.length_map ..)
  clear hpp
  go_enter Tryz.func89, Tryz.ntmps89
  go_upto_region 1 with (fail)
  obtain ⟨W0, hW0, c0, c1, -, hB⟩ := box_pa W A i v
  rw [← hW0]; clear hW0
  rw [P1.out.1] at c0
  rw [P1.out.2] at c1
  have q0 := (hB.block _ (row_lt HAB.out)).trans HAB.out
  have cv0 : W0.cell? ⟨ab, 0, none⟩ = some (.slice s0 L.length cp0) := row_cell q0 0
  have B0 := Lib.hid hB
  have hal : Below W0.heap.size W0 (W0.alloc (.cells #[.int .u32 p.1, .int .i64 p.2] 53)) := (Below.refl _ _).alloc (Nat.le_refl _) _
  have BA := Lib.hid (below_on hB hal)
  have OA := Lib.hid (HRE.out.below BA.out)
  have NC := Lib.hid (new_cells W0 #[.int .u32 p.1, .int .i64 p.2] 53)
  clear hB hal q0
  go_wp2_with (at_builtin; refine wpList_append_own_at _ rfl _ _ 23 rfl w.heap.size 53 i0 _ 2 16 Tryz.underlying23 hii hz0 hz1 hz2 rfl (by decide) (.slice s0 L.length cp0) (L.map itP).length ((L.map itP).flatMap encP) rfl OA.out.1 ⟨W0.heap.size, 0, none⟩ 1 1 [.int .u32 p.1, .int .i64 p.2] rfl rfl NC.out (encP_one p) (by have := HL.out; unfold maxLen; omega) (by have := HL.out; omega) (by have := WB.out; have := BA.out.size; omega) ?_)
  intro v3 w3 h2 h3 _ hat
  obtain ⟨s3, c3, hv3, -⟩ := own_form h2
  subst hv3
  have hk3 : Kept (fun k => Value.ownBlock (.slice s0 L.length cp0) = some k) (W0.alloc (.cells #[.int .u32 p.1, .int .i64 p.2] 53)) w3 := ⟨h3.os, h3.tape, h3.output, h3.size, fun k hk hne => h3.block k hk (fun e => hne e.symm)⟩
  have qab3 : w3.heap[ab]? = some (.cells #[.slice s0 L.length cp0] 23 (0, 0)) := (hk3.block _ (Nat.lt_of_lt_of_le (row_lt HAB.out) BA.out.size) (fun h => (HOG.out _ h).2 rfl)).trans ((BA.out.block _ (row_lt HAB.out)).trans HAB.out)
  have cv : w3.cell? ⟨ab, 0, none⟩ = some (.slice s0 L.length cp0) := row_cell qab3 0
  have fz := row_free qab3 0
  have HS := Lib.hid (HH.out.step (w2 := W0.alloc (.cells #[.int .u32 p.1, .int .i64 p.2] 53)) (it := ((A, i), v)) HAB.out HRE.out HOG.out BA.out (show OwnPs w3 w.heap.size _ ((L ++ [((A, i), v)]).map itP) by
    rw [List.map_append, List.map_cons, List.map_nil, HPP.out]
    refine ⟨?_, ?_⟩
    · rw [List.length_append, List.flatMap_append]; simpa [encP] using h2
    · intro q hq
      rcases List.mem_append.1 hq with hq | hq
      · exact HRE.out.2 q hq
      · simp at hq; subst hq; exact OKx.out) hk3 (by simpa using hat))
  clear h2 h3 hat hk3 qab3 cv0 c0 c1 OA NC BA B0
  go_wp2_with fail
  go_ret
  exact ⟨rfl, HS.out⟩
end Go.Proofs.YtkoidahgbbabiaaGreat
/-
  ALL ROUTES OF A PEER: Clear.
-/
namespace Go.Proofs.YtkoidahgbbabiaaGreat
open Go.RowKit Go.Lib
theorem each_clear {w : World} {rb tb : Nat} {N : Nat → Option Nat} {E : List Ent} {peer own most : Int} {F : Nat → Prop} {ab : Nat} :
    EachOkN tb N (kvs E) most 89 #[.pointer (some ⟨ab, 0, none⟩)] (fun _ => true) (CI w rb tb N E peer own most F ab) where
  ent := enters_of Tryz.func89 (by kernel_rfl) rfl
  stab P P' L W W' h hb hP := h.stab hb hP
  tri P L W h := h.rib.tri
  call P L W A i v h hA hR hg hl := clear1_call P L W A i v h hA hl
def ClearPost (rb : Nat) (peer own most : Int) (R : Rts) (F : Nat → Prop) (w : World) (e : Ending) (w' : World) : Prop :=
  ∃ v L F', e = .returned v ∧ OwnPs w' w.heap.size v L ∧ L.Pairwise plt ∧ (∀ p, p ∈ L ↔ (getL R p).isSome = true) ∧ RibAt w' rb peer own most [] F' ∧ (∀ k, F' k → F k ∨ (w.heap.size ≤ k ∧ k < w'.heap.size)) ∧ (∀ k, v.ownBlock = some k → ¬ F' k) ∧ Kept F w w'
theorem clear_fin {w w1 w2 : World} {rb tb : Nat} {N : Nat → Option Nat} {E : List Ent} {peer own most : Int} {F : Nat → Prop} {v : Value} {L : List Pf} (hs : L.Pairwise plt) (hm : ∀ p, p ∈ L ↔ (getL (rts E) p).isSome = true) (hb1 : Below w.heap.size w w1) (hr : RibIn w1 rb tb N E peer own most F) (hF : ∀ k, F k → k < w.heap.size)
    (ho : OwnPs w1 w.heap.size v L) (ht : TrI w2 w1.heap.size (fun _ => none) [] (min (max most 0) 4096)) (hb2 : Below w1.heap.size w1 w2) :
    ClearPost rb peer own most (rts E) F w (.returned v) (w2.setCell ⟨rb, 3, none⟩ (.pointer (some ⟨w1.heap.size, 0, none⟩))) := by
  have hrb := hF rb hr.frb
  have hsz := hb1.size
  have e : min (max most 0) 4096 = most := by have := hr.most0; have := hr.most1; omega
  rw [e] at ht
  have hlt := ht.lt
  have Kr : Kept (fun k => k = rb) w2 (w2.setCell ⟨rb, 3, none⟩ (.pointer (some ⟨w1.heap.size, 0, none⟩))) := Kept.setCell _ _ rfl
  refine ⟨v, L, fun k => k = rb ∨ k = w1.heap.size, rfl, (ho.below hb2).kept Kr (fun g hg e => by have := own_form_le ho.1 g hg; omega), hs, hm, ⟨w1.heap.size, fun _ => none, [], ⟨?_, ht.kept Kr (fun b hb => ?_), by simp, by simp, by simp, .inl rfl, fun b hb => ?_, by simp, fun hx => ?_, by simp, hr.most0, hr.most1, by have := hr.most0; simpa using this⟩, rfl⟩, fun k hk => ?_, fun g hg hk => ?_, ?_⟩
  · rw [set_same ((hb2.block rb (row_lt hr.row)).trans hr.row)]
    simp
  · rcases hb with rfl | ⟨k, hk⟩
    · intro e; omega
    · cases hk
  · rcases hb with rfl | ⟨k, hk⟩
    · exact .inr rfl
    · cases hk
  · rcases hx with hx | ⟨k, hk⟩
    · omega
    · cases hk
  · have := Kr.size
    rcases hk with rfl | rfl
    · exact .inl hr.frb
    · exact .inr (by omega)
  · have h1 := own_form_le ho.1 g hg
    have h2 := own_lt ho.1 g hg
    rcases hk with rfl | rfl <;> omega
  · have hb : Below w.heap.size w w2 := hb1.trans (hb2.mono hsz)
    exact (Kept.of_below hb).put _ _ (.inl hr.frb)
set_option maxHeartbeats 3200000 in
set_option maxRecDepth 100000 in
theorem ad_Clear_in {rb tb : Nat} {N : Nat → Option Nat} {E : List Ent} {peer own most : Int} {F : Nat → Prop} (w : World) (h : RibIn w rb tb N E peer own most F) (hF : ∀ k, F k → k < w.heap.size) :
    Calls Tryz.prog 41 #[.pointer (some ⟨rb, 0, none⟩)] w (ClearPost rb peer own most (rts E) F w) := by
  have HH := Lib.hid h
  have HFL := Lib.hid hF
  clear h hF
  go_enter Tryz.func41, Tryz.ntmps41
  go_upto_region 4 with (fail)
  obtain ⟨W0, hW0, qs, hB, -⟩ := box1 w #[.slice none 0 0] 23
  rw [← hW0]
  clear hW0
  have r3 := cell_below HH.out.cells.2.2.2 hB
  have I0 : Hid (CI w rb tb N E peer own most F w.heap.size (fun _ => False) [] W0) := Lib.hid ⟨hB, HH.out.below hB, Nat.le_refl _, HFL.out, ⟨_, qs, ownPs_nil _ _, by intro g hg; cases hg⟩, fun h => h, fun b hb => hb.elim⟩
  have AT := Lib.hid (trI_AllN each_clear [] (fun _ => False) W0 I0.out ln_0)
  rw [runL_all _ (fun _ => rfl)] at AT
  clear qs hB
  go_wp2_with fail
  refine AT.out.mono ?_
  rintro e w1 ⟨rfl, I1, -⟩
  obtain ⟨v, h1, h2, -⟩ := I1.sl
  simp only [List.nil_append] at h2
  obtain ⟨s1, c1, hv, -⟩ := own_form h2.1
  subst hv
  have II := Lib.hid I1
  have H1 := Lib.hid h1
  have H2 := Lib.hid h2
  have r2 := I1.rib.cells.2.2.1
  clear h1 h2 I1 AT r3
  go_wp2_with fail
  refine (trI_New most w1).mono ?_
  rintro e w2 ⟨rfl, T2, hb2⟩
  have r3 := cell_below II.out.rib.cells.2.2.2 hb2
  have f3 : w2.frozen? ⟨rb, 3, none⟩ = false := row_free ((hb2.block rb (row_lt II.out.rib.row)).trans II.out.rib.row) 3
  have cv : w2.cell? ⟨w.heap.size, 0, none⟩ = some (.slice s1 ((goP (kvs E) 32 0 0).map itP).length c1) := cell_below (row_cell H1.out 0) hb2
  have ne : ¬ rb = w.heap.size := by have := HFL.out rb HH.out.frb; omega
  have ne2 : ¬ w.heap.size = rb := fun e => ne e.symm
  have FIN := Lib.hid (clear_fin (all_srt (kvs E)) (all_mem HH.out.rgt) II.out.bel II.out.rib HFL.out H2.out T2 hb2)
  rw [List.length_map] at FIN
  clear T2 hb2 r2
  go_wp2_with fail
  go_ret
  exact FIN.out
theorem ad_Clear {rb : Nat} {peer own most : Int} {R : Rts} {F : Nat → Prop} (w : World) (h : RibAt w rb peer own most R F) (hF : ∀ k, F k → k < w.heap.size) : Calls Tryz.prog 41 #[.pointer (some ⟨rb, 0, none⟩)] w (ClearPost rb peer own most R F w) := by
  obtain ⟨tb, N, E, hI, rfl⟩ := h
  exact ad_Clear_in w hI hF
end Go.Proofs.YtkoidahgbbabiaaGreat
/-
  THE SERVER: who leaves takes its routes along.
-/
namespace Go.Proofs.YtkoidahgbbabiaaGreat
open Go.RowKit
theorem rts_right {W : World} {rb : Nat} {peer own most : Int} {R : Rts} {F : Nat → Prop} (h : RibAt W rb peer own most R F) {p : Pf} (hp : (getL R p).isSome = true) : RgtP p := by
  obtain ⟨tb, N, E, hI, rfl⟩ := h
  obtain ⟨a, ha⟩ := Option.isSome_iff_exists.1 hp
  rw [find_rts] at ha
  cases hf : findE E p with
  | none => rw [hf] at ha; cases ha
  | some e =>
    obtain ⟨h1, rfl⟩ := findE_mem hf
    exact hI.rgt e h1
theorem away_is (S : Sv) (i : Nat) : modS (modS S i (withThere false)) i (withNews fun _ => false) = awayS S i := by rw [modS_mod]; rfl
section
variable {W : World} {rho : Nat → Role} {sb fb : Nat} {ls : List Pl} {S : Sv}
set_option maxRecDepth 100000 in
theorem sv_Leave_off (h : SrvM W rho sb fb ls S) {i : Nat} {m : Pm} (hm : S.ms[i]? = some m) (hth : m.there = false) : Calls Tryz.prog 24 #[.pointer (some ⟨sb, 0, none⟩), .int .i64 i] W fun e w' => e = .returned (.tuple #[.slice none 0 0, .int .i64 4]) ∧ W = w' := by
  obtain ⟨l, hl, hM⟩ := h.get hm
  have m2 : W.cell? ⟨l.mb, 2, none⟩ = some (.bool false) := by rw [← hth]; exact row_cell hM.row 2
  have MB := Lib.hid (sv_member h hl)
  clear h hm hl hM hth
  go_enter Tryz.func24, Tryz.ntmps24
  go_wp2_with fail
  refine MB.out.mono ?_
  rintro e w1 ⟨rfl, rfl⟩
  go_wp2_with fail
  refine bodyPost_ret (v := .tuple #[.slice none 0 0, .int .i64 4]) (by simp [results, Tryz.results24, go_sem]) rfl ⟨rfl, rfl⟩
def LeavePost (sb fb : Nat) (ls : List Pl) (S : Sv) (i : Nat) (m : Pm) (rho : Nat → Role) (W : World) (e : Ending) (w' : World) : Prop :=
  ∃ (rho' : Nat → Role) (s : Option Addr) (c : Nat) (L : List Pf), e = .returned (.tuple #[.slice s L.length c, .int .i64 0]) ∧ L.Pairwise plt ∧ (∀ p, p ∈ L ↔ (getL m.R p).isSome = true) ∧ SrvM w' rho' sb fb ls (leaveS S i L) ∧ Step rho rho' W w' ∧ On (fun k => rho' k = .no) w' (fun W => PsAt W (.slice s L.length c) L)
set_option maxHeartbeats 6400000 in
set_option maxRecDepth 100000 in
theorem sv_Leave (h : SrvM W rho sb fb ls S) {i : Nat} {m : Pm} (hm : S.ms[i]? = some m) (hth : m.there = true) :
    Calls Tryz.prog 24 #[.pointer (some ⟨sb, 0, none⟩), .int .i64 i] W (LeavePost sb fb ls S i m rho W) := by
  obtain ⟨l, hl, hM⟩ := h.get hm
  have m2 : W.cell? ⟨l.mb, 2, none⟩ = some (.bool true) := by rw [← hth]; exact row_cell hM.row 2
  have m2f : W.frozen? ⟨l.mb, 2, none⟩ = false := row_free hM.row 2
  have MB := Lib.hid (sv_member h hl)
  have HS := Lib.hid h
  have HL := Lib.hid hl
  have HM := Lib.hid hm
  have ROW := Lib.hid hM.row
  clear h hm hl hM hth
  go_enter Tryz.func24, Tryz.ntmps24
  go_wp2_with fail
  refine MB.out.mono ?_
  rintro e w1 ⟨rfl, rfl⟩
  have X1 := Lib.hid (HS.out.setT HM.out HL.out false (Kept.setCell ⟨l.mb, 2, none⟩ (.bool false) rfl) (set_same ROW.out 2 (.bool false)))
  go_upto_region 7 with (fail)
  obtain ⟨w2, hw2⟩ : ∃ w2 : World, w2 = W.setCell ⟨l.mb, 2, none⟩ (.bool false) := ⟨_, rfl⟩
  rw [← hw2] at X1 ⊢
  have HM2 : Hid ((modS S i (withThere false)).ms[i]? = some (withThere false m)) := Lib.hid (by rw [modS_get, HM.out]; simp)
  have hM2 := X1.out.1.bod.mem i _ l HM2.out HL.out
  have b5 : w2.cell? ⟨l.mb, 5, none⟩ = some (.map (some l.nb)) := row_cell hM2.row 5
  obtain ⟨N, hN⟩ := hM2.news
  obtain ⟨o2, hs2, hm2⟩ := hN.map.empty Tryz.underlying128 w2 rfl
  have hk2 : Kept (fun k => k = l.nb) w2 (ChangeMaps.setBlock w2 l.nb o2) := Kept.setBlock o2 rfl
  have PN := Lib.hid (X1.out.1.setN HM2.out HL.out (fun _ => false) (N' := []) (fun p => rfl) (fun x hx => by cases hx) hk2 hm2)
  clear hw2 hM2 hN hm2 hk2 m2 m2f
  go_upto_region 8 with (fail)
  obtain ⟨w3, hw3⟩ : ∃ w3 : World, w3 = ChangeMaps.setBlock w2 l.nb o2 := ⟨_, rfl⟩
  rw [← hw3] at PN ⊢
  have D3 : Hid (SrvM w3 rho sb fb ls (awayS S i) ∧ Step rho rho W w3) := Lib.hid ⟨by rw [← away_is]; exact PN.out.1, X1.out.2.trans PN.out.2⟩
  have HM3 : Hid ((awayS S i).ms[i]? = some { m with there := false, news := fun _ => false }) := Lib.hid (by unfold awayS; rw [modS_get, HM.out]; simp)
  have hM3 := D3.out.1.bod.mem i _ l HM3.out HL.out
  have b3 : w3.cell? ⟨l.mb, 3, none⟩ = some (.pointer (some ⟨l.rb, 0, none⟩)) := row_cell hM3.row 3
  have CL := Lib.hid (ad_Clear w3 hM3.rib (fun k hk => D3.out.1.dom k (by rw [hk]; intro e; cases e)))
  have RGT : Hid (∀ p, (getL m.R p).isSome = true → RgtP p) := Lib.hid (fun p hp => rts_right hM3.rib hp)
  clear b5 hs2 hw3 X1 PN hM3
  go_wp2_with fail
  refine CL.out.mono ?_
  rintro e w4 ⟨v, L, F', rfl, ow, srt, mem, hrb, hF', hv, hk⟩
  obtain ⟨s, c, rfl, -⟩ := own_form ow.1
  have SR := Lib.hid (D3.out.1.setRib HM3.out HL.out hrb hF' hk (fun p a h => by simp [getL] at h))
  have NO : Hid (On (fun k => extP rho w3 F' (.rib i) k = .no) w4 (fun W => PsAt W (.slice s L.length c) L)) := Lib.hid (((own_on ow.1).wide (G := fun k => extP rho w3 F' (.rib i) k = .no) fun k hk _ => extP_no (own_form_le ow.1 k hk) (hv k hk)).imp fun W h => OwnPs.at ⟨h, ow.2⟩)
  have ST := Lib.hid (D3.out.2.trans SR.out.2)
  generalize extP rho w3 F' (.rib i) = rho4 at SR NO ST
  have MEM : Hid (∀ p, p ∈ L ↔ (getL m.R p).isSome = true) := Lib.hid mem
  have SRT := Lib.hid srt
  have TN := Lib.hid (sv_turn SR.out.1 (.slice s L.length c) L NO.out (fun p hp => RGT.out p ((MEM.out p).1 hp)))
  clear ow srt mem hrb hF' hv hk CL b3 D3
  go_wp2_with fail
  refine TN.out.mono ?_
  rintro e w5 ⟨rho5, rfl, hs5, st5⟩
  have FIN : Hid (LeavePost sb fb ls S i m rho W (.returned (.tuple #[.slice s L.length c, .int .i64 0])) w5) := Lib.hid ⟨rho5, s, c, L, rfl, SRT.out, MEM.out, hs5, ST.out.trans st5, st5.free NO.out⟩
  clear TN hs5 st5 NO ST SR
  go_wp2_with fail
  refine bodyPost_ret (v := .tuple #[.slice s L.length c, .int .i64 0]) (by simp [results, Tryz.results24, go_sem]) rfl FIN.out
end
end Go.Proofs.YtkoidahgbbabiaaGreat
