/- Texts of one proof, one behind another. -/
import Derived.Test.YtadlecnlgkhneaaOw22
/-
  ALL ROUTES OF A PEER: All: the function that is called at each.
-/
namespace Go.Proofs.Ytadlecnlgkhneaa
open Go.RowKit Go.Lib

set_option maxHeartbeats 12800000 in
set_option maxRecDepth 100000 in
theorem all1_call {w : World} {rb tb : Nat} {N : Nat → Option Nat} {E : List Ent} {peer own most : Int} {F : Nat → Prop} {ab rx : Nat} (P : Nat → Prop) (L : List Itm) (W : World) (A i : Nat) (v : AV) (h : AI w rb tb N E peer own most F ab rx P L W)
    (hA : A < 4294967296) (hR : rightB A i = true) (hg : getL (kvs E) (keyN A i) = some v) (hl : L.length < 8589934592) :
    Calls Try.prog 49 #[.agg #[.int .u32 A, .int .i64 i], v.V, .pointer (some ⟨ab, 0, none⟩), .pointer (some ⟨rx, 0, none⟩)] W fun e w' => e = .returned (.bool true) ∧ AI w rb tb N E peer own most F ab rx P (L ++ [((A, i), v)]) w' ∧ Kept (fun b => ¬ P b) W w' := by
  obtain ⟨i0, hii, hz0, hz1, hz2⟩ := info_parts info_route
  obtain ⟨en, hm, hep, hev, hgt⟩ := item_ent h.rib.rgt hA hR hg
  have CLN := Lib.hid (fun W' (hb : Below W.heap.size W W') => av_CloneU en.a v W' (by rw [← hev]; exact ((h.rib.ent en hm).2.below hb).self) (h.rib.szs en hm))
  have HH := Lib.hid h
  have GT := Lib.hid hgt
  have OKx : Hid (OkP (itP ((A, i), v))) := Lib.hid (by rw [← hep]; exact (h.rib.rgt en hm).1)
  obtain ⟨v0, vs, hab, hre, hmp, hpx, hog⟩ := h.sl
  have hvl : vs.length = L.length := by have := congrArg List.length hmp; simpa using this
  obtain ⟨s0, cp0, hv0, -⟩ := own_form hre.own
  subst hv0
  have HAB := Lib.hid hab
  have HRE := Lib.hid hre
  have HMP := Lib.hid hmp
  have HPX := Lib.hid hpx
  have HOG := Lib.hid hog
  have VL : Hid (vs.length < 8589934592) := Lib.hid (by omega)
  have RX := Lib.hid h.rxc
  have RP := Lib.hid h.rib.cells.1
  have WB := Lib.hid h.bel.size
  clear h hg hl hgt hep hev hm hab hre hmp hpx hog hvl
  generalize hpp : itP ((A, i), v) = p at GT OKx
  have P1 : Hid ((A : Int) = p.1 ∧ (i : Int) = p.2) := Lib.hid (by rw [← hpp]; exact ⟨rfl, rfl⟩)
  have HPP := Lib.hid hpp
  clear hpp
  go_enter Try.func49, Try.ntmps49
  go_upto_region 1 with (fail)
  obtain ⟨W0, hW0, c0, c1, qv, hB⟩ := box_pa W A i v
  rw [← hW0]; clear hW0
  rw [P1.out.1] at c0
  rw [P1.out.2] at c1
  have QV := Lib.hid qv
  have B0 := Lib.hid hB
  have rx0 := cell_below RX.out hB
  have rp0 := cell_below RP.out hB
  have cv0 : W0.cell? ⟨ab, 0, none⟩ = some (.slice s0 vs.length cp0) := (hB.cell (row_lt HAB.out)).trans (row_cell HAB.out 0)
  have fv : Hid (∀ W', Below W0.heap.size W0 W' → W'.frozen? ⟨ab, 0, none⟩ = false) := Lib.hid (fun W' hb => row_free (((below_on B0.out hb).block _ (row_lt HAB.out)).trans HAB.out) 0)
  clear qv hB
  have hBel : Below W0.heap.size W0 W0.drew := (Below.refl _ _).drew
  have qab : W0.drew.heap[ab]? = some (.cells #[.slice s0 vs.length cp0] 57 (0, 0)) := (B0.out.block _ (row_lt HAB.out)).trans HAB.out
  have ABL : Hid (ab < W.heap.size) := Lib.hid (row_lt HAB.out)
  have OWL : Hid (∀ g, Value.ownBlock (.slice s0 vs.length cp0) = some g → g < W.heap.size ∧ w.heap.size ≤ g) := Lib.hid (fun g hg => ⟨own_lt HRE.out.own g hg, own_form_le HRE.out.own g hg⟩)
  have NC : Hid (¬ (W.heap.size = ab ∨ Value.ownBlock (.slice s0 vs.length cp0) = some W.heap.size)) := Lib.hid (fun h => by
    rcases h with h | h
    · have := ABL.out; omega
    · have := (OWL.out _ h).1; omega)
  have ND : Hid (¬ (W.heap.size + 1 = ab ∨ Value.ownBlock (.slice s0 vs.length cp0) = some (W.heap.size + 1))) := Lib.hid (fun h => by
    rcases h with h | h
    · have := ABL.out; omega
    · have := (OWL.out _ h).1; omega)
  have NX : Hid (¬ (rx = ab ∨ Value.ownBlock (.slice s0 vs.length cp0) = some rx)) := Lib.hid (fun h => by
    rcases h with h | h
    · exact HH.out.lo.2 h
    · exact (HOG.out _ h).2.2 rfl)
  have NB : Hid (¬ (rb = ab ∨ Value.ownBlock (.slice s0 vs.length cp0) = some rb)) := Lib.hid (fun h => by
    have hrb := HH.out.flt _ HH.out.rib.frb
    rcases h with h | h
    · have := HH.out.lo.1; omega
    · have := (OWL.out _ h).2; omega)
  have NAO : Hid (¬ (Value.ownBlock (.slice s0 vs.length cp0) = some ab)) := Lib.hid (fun h => (HOG.out _ h).2.1 rfl)
  refine wp_region_held_drew (S := fun w1 => Kept (fun k => k = ab ∨ Value.ownBlock (.slice s0 vs.length cp0) = some k) W0 w1) (by kernel_rfl) ?_ (fun hHeld => ?_)
  · exact (Kept.refl _ _).drew
  generalize World.drew W0 = wd at hBel qab hHeld ⊢
  refine rgy (i := 1) (v := ?_) (atN rfl) (by kernel_rfl) (fun _ _ _ h => h) ?_ ?_ hHeld ?_; rotate_left 1; (· rfl); (· intro w' hSw; have c0 := hSw.cell c0 NC.out; have c1 := hSw.cell c1 NC.out; have rx0 := hSw.cell rx0 NX.out; have rp0 := hSw.cell rp0 NB.out; (try clear hHeld); go_simp; try with_reducible rfl)
  try simp only [Act.put, List.setIfInBounds_toArray, List.set_cons_zero, List.set_cons_succ]
  refine rgy (i := 5) (v := ?_) (atN rfl) (by kernel_rfl) (fun _ _ _ h => h) ?_ ?_ hHeld ?_; rotate_left 1; (· rfl); (· intro w' hSw; have c0 := hSw.cell c0 NC.out; have c1 := hSw.cell c1 NC.out; have rx0 := hSw.cell rx0 NX.out; have rp0 := hSw.cell rp0 NB.out; (try clear hHeld); go_simp; try with_reducible rfl)
  try simp only [Act.put, List.setIfInBounds_toArray, List.set_cons_zero, List.set_cons_succ]
  refine rgy (i := 6) (v := ?_) (atN rfl) (by kernel_rfl) (fun _ _ _ h => h) ?_ ?_ hHeld ?_; rotate_left 1; (· rfl); (· intro w' hSw; refine exec_ld 35 (.tmp 5) ?_ (W.heap.size + 1) ?_ 35 v.C (0, 0) _ ((hSw.block _ (row_lt QV.out) ND.out).trans QV.out) Try.underlying35 rfl (by kernel_rfl) <;> rfl)
  try simp only [Act.put, List.setIfInBounds_toArray, List.set_cons_zero, List.set_cons_succ]
  refine rg_call3 (i := 0) (j := 2) (k := 7) (atN rfl) (atN rfl) (atN rfl) (by kernel_rfl) ?_ ?_ ?_ (fun K hK => ?_) (fun K hK => ?_) (fun K hK => ?_)
  · rfl
  · rfl
  · rfl
  · (try clear hb); have cv : _ = some (Value.slice s0 vs.length cp0) := row_cell qab 0; go_simp; go_wp2_with fail; refine hK.out _ _ ?_ (fun hHeld => ?_); (· exact hHeld); clear hK K
    try simp only [Act.put, List.setIfInBounds_toArray, List.set_cons_zero, List.set_cons_succ]
    refine rg_call2 (i := 2) (j := 7) (atS (atS at0)) (atS (atS (atS (atS (atS (atS (atS at0))))))) (by kernel_rfl) ?_ ?_ (fun K hK => ?_) (fun K hK => ?_)
    · rfl
    · rfl
    · (try clear hb); go_simp; go_wp2_with fail; refine hK.out _ _ ?_ (fun hHeld => ?_); (· exact hHeld); clear hK K
      try simp only [Act.put, List.setIfInBounds_toArray, List.set_cons_zero, List.set_cons_succ]
      refine rgy (i := 3) (v := ?_) (atN rfl) (by kernel_rfl) (fun _ _ _ h => h) ?_ ?_ hHeld ?_; rotate_left 1; (· rfl); (· intro w' hSw; (try clear hHeld); go_simp; try with_reducible rfl)
      try simp only [Act.put, List.setIfInBounds_toArray, List.set_cons_zero, List.set_cons_succ]
      refine rgy (i := 4) (v := ?_) (atN rfl) (by kernel_rfl) (fun _ _ _ h => h) ?_ ?_ hHeld ?_; rotate_left 1; (· rfl); (· intro w' hSw; have c0 := hSw.cell c0 NC.out; have c1 := hSw.cell c1 NC.out; have rx0 := hSw.cell rx0 NX.out; have rp0 := hSw.cell rp0 NB.out; (try clear hHeld); go_simp; try with_reducible rfl)
      try simp only [Act.put, List.setIfInBounds_toArray, List.set_cons_zero, List.set_cons_succ]
      refine rg_call (i := 7) (atN rfl) (by kernel_rfl) ?_ (fun K hK => ?_); (· rfl); (try clear hb); go_simp; have hlo := hBel.size; refine (CLN.out _ (below_on B0.out hBel)).mono ?_; rintro e w1 ⟨u, rfl, fr, hb⟩; have FR := Lib.hid fr; clear fr; have hhi := hb.size; replace qab := (hb.block _ (row_lt qab)).trans qab; replace hBel := below_on hBel hb; have hBel1 := below_on B0.out hBel; go_wp2_with fail; refine hK.out _ _ ?_ (fun hHeld => ?_); (· exact hHeld.grow hb); clear hK K
      try simp only [Act.put, List.setIfInBounds_toArray, List.set_cons_zero, List.set_cons_succ]
      refine rgy (i := 8) (v := ?_) (atN rfl) (by kernel_rfl) (fun _ _ _ h => h) ?_ ?_ hHeld ?_; rotate_left 1; (· rfl); (· intro w' hSw; (try clear hHeld); go_simp; try with_reducible rfl)
      try simp only [Act.put, List.setIfInBounds_toArray, List.set_cons_zero, List.set_cons_succ]
      refine rg_call (i := 9) (atN rfl) (by kernel_rfl) ?_ (fun K hK => ?_); (· rfl); (try clear hb); go_simp; refine rt_one_k (peer := peer) (p := p) (v := u) (q := K _) ?_; intro w2 hcs hb2; replace qab := (hb2.block _ (row_lt qab)).trans qab; replace hBel := below_on hBel hb2; refine hK.out _ _ ?_ (fun hHeld => ?_); (· exact hHeld.grow hb2); clear hK K
      try simp only [Act.put, List.setIfInBounds_toArray, List.set_cons_zero, List.set_cons_succ]
      refine rg_call (i := 10) (atN rfl) (by kernel_rfl) ?_ (fun K hK => ?_); (· rfl); (try clear hb); refine wp_append_at _ _ 57 rfl w.heap.size 48 i0 _ 13 152 Try.underlying57 hii hz0 hz1 hz2 rfl (by decide) (.slice s0 vs.length cp0) vs.length (vs.flatMap (rtL peer)) rfl (own_below HRE.out.own (below_on B0.out hBel)) ⟨_, 0, none⟩ 1 1 (rtC peer p u).toList rfl rfl hcs (rtL_one peer ⟨p, en.a, u, 0, 0⟩) (by have := VL.out; unfold maxLen; omega) (by have := VL.out; omega) (by have := WB.out; have := B0.out.size; have := hBel.size; omega) ?_; intro v3 w3 h2 h3 hat; obtain ⟨s3, c3, rfl, -⟩ := own_form h2; have hk3 : Kept (fun k => Value.ownBlock (.slice s0 vs.length cp0) = some k) w2 w3 := ⟨h3.os, h3.tape, h3.output, h3.size, fun k hk hne => h3.block k hk (fun e => hne e.symm)⟩; refine hK.out _ _ ?_ (fun hHeld => ?_); (· exact hHeld.trans (hk3.imp fun k h => .inr h)); clear hK K
      try simp only [Act.put, List.setIfInBounds_toArray, List.set_cons_zero, List.set_cons_succ]
      refine rg_call (i := 11) (atN rfl) (by kernel_rfl) ?_ (fun K hK => ?_); (· rfl); (try clear hb); have qab3 := (hk3.block _ (row_lt qab) NAO.out).trans qab; have cv : _ = some (Value.slice s0 vs.length cp0) := row_cell qab3 0; have fz := row_free qab3 0; go_simp; go_wp2_with fail; refine hK.out _ _ ?_ (fun hHeld => ?_); (· exact hHeld.put _ _ (.inl (.inl rfl))); clear hK K
      try simp only [Act.put]
      refine wpAnyH_done (by kernel_rfl) ?_ _
      have HS := Lib.hid (HH.out.step (w1 := w1) (w2 := w2) (w3 := w3) HAB.out HRE.out HMP.out HPX.out HOG.out HPP.out GT.out OKx.out hBel1 (Nat.le_trans B0.out.size hlo) FR.out hb2 h2 hk3 hat)
      clear hHeld hBel qab hBel1 hb2 h2 h3 hk3 hat
      go_wp2_with fail
      go_ret
      exact ⟨rfl, HS.out⟩
    · (try clear hb); go_simp; have hlo := hBel.size; refine (CLN.out _ (below_on B0.out hBel)).mono ?_; rintro e w1 ⟨u, rfl, fr, hb⟩; have FR := Lib.hid fr; clear fr; have hhi := hb.size; replace qab := (hb.block _ (row_lt qab)).trans qab; replace hBel := below_on hBel hb; have hBel1 := below_on B0.out hBel; go_wp2_with fail; refine hK.out _ _ ?_ (fun hHeld => ?_); (· exact hHeld.grow hb); clear hK K
      try simp only [Act.put, List.setIfInBounds_toArray, List.set_cons_zero, List.set_cons_succ]
      refine rg_call (i := 2) (atN rfl) (by kernel_rfl) ?_ (fun K hK => ?_); (· rfl); (try clear hb); go_simp; go_wp2_with fail; refine hK.out _ _ ?_ (fun hHeld => ?_); (· exact hHeld); clear hK K
      try simp only [Act.put, List.setIfInBounds_toArray, List.set_cons_zero, List.set_cons_succ]
      refine rgy (i := 3) (v := ?_) (atN rfl) (by kernel_rfl) (fun _ _ _ h => h) ?_ ?_ hHeld ?_; rotate_left 1; (· rfl); (· intro w' hSw; (try clear hHeld); go_simp; try with_reducible rfl)
      try simp only [Act.put, List.setIfInBounds_toArray, List.set_cons_zero, List.set_cons_succ]
      refine rgy (i := 4) (v := ?_) (atN rfl) (by kernel_rfl) (fun _ _ _ h => h) ?_ ?_ hHeld ?_; rotate_left 1; (· rfl); (· intro w' hSw; have c0 := hSw.cell c0 NC.out; have c1 := hSw.cell c1 NC.out; have rx0 := hSw.cell rx0 NX.out; have rp0 := hSw.cell rp0 NB.out; (try clear hHeld); go_simp; try with_reducible rfl)
      try simp only [Act.put, List.setIfInBounds_toArray, List.set_cons_zero, List.set_cons_succ]
      refine rgy (i := 8) (v := ?_) (atN rfl) (by kernel_rfl) (fun _ _ _ h => h) ?_ ?_ hHeld ?_; rotate_left 1; (· rfl); (· intro w' hSw; (try clear hHeld); go_simp; try with_reducible rfl)
      try simp only [Act.put, List.setIfInBounds_toArray, List.set_cons_zero, List.set_cons_succ]
      refine rg_call (i := 9) (atN rfl) (by kernel_rfl) ?_ (fun K hK => ?_); (· rfl); (try clear hb); go_simp; refine rt_one_k (peer := peer) (p := p) (v := u) (q := K _) ?_; intro w2 hcs hb2; replace qab := (hb2.block _ (row_lt qab)).trans qab; replace hBel := below_on hBel hb2; refine hK.out _ _ ?_ (fun hHeld => ?_); (· exact hHeld.grow hb2); clear hK K
      try simp only [Act.put, List.setIfInBounds_toArray, List.set_cons_zero, List.set_cons_succ]
      refine rg_call (i := 10) (atN rfl) (by kernel_rfl) ?_ (fun K hK => ?_); (· rfl); (try clear hb); refine wp_append_at _ _ 57 rfl w.heap.size 48 i0 _ 13 152 Try.underlying57 hii hz0 hz1 hz2 rfl (by decide) (.slice s0 vs.length cp0) vs.length (vs.flatMap (rtL peer)) rfl (own_below HRE.out.own (below_on B0.out hBel)) ⟨_, 0, none⟩ 1 1 (rtC peer p u).toList rfl rfl hcs (rtL_one peer ⟨p, en.a, u, 0, 0⟩) (by have := VL.out; unfold maxLen; omega) (by have := VL.out; omega) (by have := WB.out; have := B0.out.size; have := hBel.size; omega) ?_; intro v3 w3 h2 h3 hat; obtain ⟨s3, c3, rfl, -⟩ := own_form h2; have hk3 : Kept (fun k => Value.ownBlock (.slice s0 vs.length cp0) = some k) w2 w3 := ⟨h3.os, h3.tape, h3.output, h3.size, fun k hk hne => h3.block k hk (fun e => hne e.symm)⟩; refine hK.out _ _ ?_ (fun hHeld => ?_); (· exact hHeld.trans (hk3.imp fun k h => .inr h)); clear hK K
      try simp only [Act.put, List.setIfInBounds_toArray, List.set_cons_zero, List.set_cons_succ]
      refine rg_call (i := 11) (atN rfl) (by kernel_rfl) ?_ (fun K hK => ?_); (· rfl); (try clear hb); have qab3 := (hk3.block _ (row_lt qab) NAO.out).trans qab; have cv : _ = some (Value.slice s0 vs.length cp0) := row_cell qab3 0; have fz := row_free qab3 0; go_simp; go_wp2_with fail; refine hK.out _ _ ?_ (fun hHeld => ?_); (· exact hHeld.put _ _ (.inl (.inl rfl))); clear hK K
      try simp only [Act.put]
      refine wpAnyH_done (by kernel_rfl) ?_ _
      have HS := Lib.hid (HH.out.step (w1 := w1) (w2 := w2) (w3 := w3) HAB.out HRE.out HMP.out HPX.out HOG.out HPP.out GT.out OKx.out hBel1 (Nat.le_trans B0.out.size hlo) FR.out hb2 h2 hk3 hat)
      clear hHeld hBel qab hBel1 hb2 h2 h3 hk3 hat
      go_wp2_with fail
      go_ret
      exact ⟨rfl, HS.out⟩
  · (try clear hb); go_simp; go_wp2_with fail; refine hK.out _ _ ?_ (fun hHeld => ?_); (· exact hHeld); clear hK K
    try simp only [Act.put, List.setIfInBounds_toArray, List.set_cons_zero, List.set_cons_succ]
    refine rgy (i := 3) (v := ?_) (atN rfl) (by kernel_rfl) (fun _ _ _ h => h) ?_ ?_ hHeld ?_; rotate_left 1; (· rfl); (· intro w' hSw; (try clear hHeld); go_simp; try with_reducible rfl)
    try simp only [Act.put, List.setIfInBounds_toArray, List.set_cons_zero, List.set_cons_succ]
    refine rgy (i := 4) (v := ?_) (atN rfl) (by kernel_rfl) (fun _ _ _ h => h) ?_ ?_ hHeld ?_; rotate_left 1; (· rfl); (· intro w' hSw; have c0 := hSw.cell c0 NC.out; have c1 := hSw.cell c1 NC.out; have rx0 := hSw.cell rx0 NX.out; have rp0 := hSw.cell rp0 NB.out; (try clear hHeld); go_simp; try with_reducible rfl)
    try simp only [Act.put, List.setIfInBounds_toArray, List.set_cons_zero, List.set_cons_succ]
    refine rg_call2 (i := 0) (j := 7) at0 (atS (atS (atS (atS (atS (atS (atS at0))))))) (by kernel_rfl) ?_ ?_ (fun K hK => ?_) (fun K hK => ?_)
    · rfl
    · rfl
    · (try clear hb); have cv : _ = some (Value.slice s0 vs.length cp0) := row_cell qab 0; go_simp; go_wp2_with fail; refine hK.out _ _ ?_ (fun hHeld => ?_); (· exact hHeld); clear hK K
      try simp only [Act.put, List.setIfInBounds_toArray, List.set_cons_zero, List.set_cons_succ]
      refine rg_call (i := 7) (atN rfl) (by kernel_rfl) ?_ (fun K hK => ?_); (· rfl); (try clear hb); go_simp; have hlo := hBel.size; refine (CLN.out _ (below_on B0.out hBel)).mono ?_; rintro e w1 ⟨u, rfl, fr, hb⟩; have FR := Lib.hid fr; clear fr; have hhi := hb.size; replace qab := (hb.block _ (row_lt qab)).trans qab; replace hBel := below_on hBel hb; have hBel1 := below_on B0.out hBel; go_wp2_with fail; refine hK.out _ _ ?_ (fun hHeld => ?_); (· exact hHeld.grow hb); clear hK K
      try simp only [Act.put, List.setIfInBounds_toArray, List.set_cons_zero, List.set_cons_succ]
      refine rgy (i := 8) (v := ?_) (atN rfl) (by kernel_rfl) (fun _ _ _ h => h) ?_ ?_ hHeld ?_; rotate_left 1; (· rfl); (· intro w' hSw; (try clear hHeld); go_simp; try with_reducible rfl)
      try simp only [Act.put, List.setIfInBounds_toArray, List.set_cons_zero, List.set_cons_succ]
      refine rg_call (i := 9) (atN rfl) (by kernel_rfl) ?_ (fun K hK => ?_); (· rfl); (try clear hb); go_simp; refine rt_one_k (peer := peer) (p := p) (v := u) (q := K _) ?_; intro w2 hcs hb2; replace qab := (hb2.block _ (row_lt qab)).trans qab; replace hBel := below_on hBel hb2; refine hK.out _ _ ?_ (fun hHeld => ?_); (· exact hHeld.grow hb2); clear hK K
      try simp only [Act.put, List.setIfInBounds_toArray, List.set_cons_zero, List.set_cons_succ]
      refine rg_call (i := 10) (atN rfl) (by kernel_rfl) ?_ (fun K hK => ?_); (· rfl); (try clear hb); refine wp_append_at _ _ 57 rfl w.heap.size 48 i0 _ 13 152 Try.underlying57 hii hz0 hz1 hz2 rfl (by decide) (.slice s0 vs.length cp0) vs.length (vs.flatMap (rtL peer)) rfl (own_below HRE.out.own (below_on B0.out hBel)) ⟨_, 0, none⟩ 1 1 (rtC peer p u).toList rfl rfl hcs (rtL_one peer ⟨p, en.a, u, 0, 0⟩) (by have := VL.out; unfold maxLen; omega) (by have := VL.out; omega) (by have := WB.out; have := B0.out.size; have := hBel.size; omega) ?_; intro v3 w3 h2 h3 hat; obtain ⟨s3, c3, rfl, -⟩ := own_form h2; have hk3 : Kept (fun k => Value.ownBlock (.slice s0 vs.length cp0) = some k) w2 w3 := ⟨h3.os, h3.tape, h3.output, h3.size, fun k hk hne => h3.block k hk (fun e => hne e.symm)⟩; refine hK.out _ _ ?_ (fun hHeld => ?_); (· exact hHeld.trans (hk3.imp fun k h => .inr h)); clear hK K
      try simp only [Act.put, List.setIfInBounds_toArray, List.set_cons_zero, List.set_cons_succ]
      refine rg_call (i := 11) (atN rfl) (by kernel_rfl) ?_ (fun K hK => ?_); (· rfl); (try clear hb); have qab3 := (hk3.block _ (row_lt qab) NAO.out).trans qab; have cv : _ = some (Value.slice s0 vs.length cp0) := row_cell qab3 0; have fz := row_free qab3 0; go_simp; go_wp2_with fail; refine hK.out _ _ ?_ (fun hHeld => ?_); (· exact hHeld.put _ _ (.inl (.inl rfl))); clear hK K
      try simp only [Act.put]
      refine wpAnyH_done (by kernel_rfl) ?_ _
      have HS := Lib.hid (HH.out.step (w1 := w1) (w2 := w2) (w3 := w3) HAB.out HRE.out HMP.out HPX.out HOG.out HPP.out GT.out OKx.out hBel1 (Nat.le_trans B0.out.size hlo) FR.out hb2 h2 hk3 hat)
      clear hHeld hBel qab hBel1 hb2 h2 h3 hk3 hat
      go_wp2_with fail
      go_ret
      exact ⟨rfl, HS.out⟩
    · (try clear hb); go_simp; have hlo := hBel.size; refine (CLN.out _ (below_on B0.out hBel)).mono ?_; rintro e w1 ⟨u, rfl, fr, hb⟩; have FR := Lib.hid fr; clear fr; have hhi := hb.size; replace qab := (hb.block _ (row_lt qab)).trans qab; replace hBel := below_on hBel hb; have hBel1 := below_on B0.out hBel; go_wp2_with fail; refine hK.out _ _ ?_ (fun hHeld => ?_); (· exact hHeld.grow hb); clear hK K
      try simp only [Act.put, List.setIfInBounds_toArray, List.set_cons_zero, List.set_cons_succ]
      refine rgy (i := 8) (v := ?_) (atN rfl) (by kernel_rfl) (fun _ _ _ h => h) ?_ ?_ hHeld ?_; rotate_left 1; (· rfl); (· intro w' hSw; (try clear hHeld); go_simp; try with_reducible rfl)
      try simp only [Act.put, List.setIfInBounds_toArray, List.set_cons_zero, List.set_cons_succ]
      refine rg_call2 (i := 0) (j := 9) at0 (atS (atS (atS (atS (atS (atS (atS (atS (atS at0))))))))) (by kernel_rfl) ?_ ?_ (fun K hK => ?_) (fun K hK => ?_)
      · rfl
      · rfl
      · (try clear hb); have cv : _ = some (Value.slice s0 vs.length cp0) := row_cell qab 0; go_simp; go_wp2_with fail; refine hK.out _ _ ?_ (fun hHeld => ?_); (· exact hHeld); clear hK K
        try simp only [Act.put, List.setIfInBounds_toArray, List.set_cons_zero, List.set_cons_succ]
        refine rg_call (i := 9) (atN rfl) (by kernel_rfl) ?_ (fun K hK => ?_); (· rfl); (try clear hb); go_simp; refine rt_one_k (peer := peer) (p := p) (v := u) (q := K _) ?_; intro w2 hcs hb2; replace qab := (hb2.block _ (row_lt qab)).trans qab; replace hBel := below_on hBel hb2; refine hK.out _ _ ?_ (fun hHeld => ?_); (· exact hHeld.grow hb2); clear hK K
        try simp only [Act.put, List.setIfInBounds_toArray, List.set_cons_zero, List.set_cons_succ]
        refine rg_call (i := 10) (atN rfl) (by kernel_rfl) ?_ (fun K hK => ?_); (· rfl); (try clear hb); refine wp_append_at _ _ 57 rfl w.heap.size 48 i0 _ 13 152 Try.underlying57 hii hz0 hz1 hz2 rfl (by decide) (.slice s0 vs.length cp0) vs.length (vs.flatMap (rtL peer)) rfl (own_below HRE.out.own (below_on B0.out hBel)) ⟨_, 0, none⟩ 1 1 (rtC peer p u).toList rfl rfl hcs (rtL_one peer ⟨p, en.a, u, 0, 0⟩) (by have := VL.out; unfold maxLen; omega) (by have := VL.out; omega) (by have := WB.out; have := B0.out.size; have := hBel.size; omega) ?_; intro v3 w3 h2 h3 hat; obtain ⟨s3, c3, rfl, -⟩ := own_form h2; have hk3 : Kept (fun k => Value.ownBlock (.slice s0 vs.length cp0) = some k) w2 w3 := ⟨h3.os, h3.tape, h3.output, h3.size, fun k hk hne => h3.block k hk (fun e => hne e.symm)⟩; refine hK.out _ _ ?_ (fun hHeld => ?_); (· exact hHeld.trans (hk3.imp fun k h => .inr h)); clear hK K
        try simp only [Act.put, List.setIfInBounds_toArray, List.set_cons_zero, List.set_cons_succ]
        refine rg_call (i := 11) (atN rfl) (by kernel_rfl) ?_ (fun K hK => ?_); (· rfl); (try clear hb); have qab3 := (hk3.block _ (row_lt qab) NAO.out).trans qab; have cv : _ = some (Value.slice s0 vs.length cp0) := row_cell qab3 0; have fz := row_free qab3 0; go_simp; go_wp2_with fail; refine hK.out _ _ ?_ (fun hHeld => ?_); (· exact hHeld.put _ _ (.inl (.inl rfl))); clear hK K
        try simp only [Act.put]
        refine wpAnyH_done (by kernel_rfl) ?_ _
        have HS := Lib.hid (HH.out.step (w1 := w1) (w2 := w2) (w3 := w3) HAB.out HRE.out HMP.out HPX.out HOG.out HPP.out GT.out OKx.out hBel1 (Nat.le_trans B0.out.size hlo) FR.out hb2 h2 hk3 hat)
        clear hHeld hBel qab hBel1 hb2 h2 h3 hk3 hat
        go_wp2_with fail
        go_ret
        exact ⟨rfl, HS.out⟩
      · (try clear hb); go_simp; refine rt_one_k (peer := peer) (p := p) (v := u) (q := K _) ?_; intro w2 hcs hb2; replace qab := (hb2.block _ (row_lt qab)).trans qab; replace hBel := below_on hBel hb2; refine hK.out _ _ ?_ (fun hHeld => ?_); (· exact hHeld.grow hb2); clear hK K
        try simp only [Act.put, List.setIfInBounds_toArray, List.set_cons_zero, List.set_cons_succ]
        refine rg_call (i := 0) (atN rfl) (by kernel_rfl) ?_ (fun K hK => ?_); (· rfl); (try clear hb); have cv : _ = some (Value.slice s0 vs.length cp0) := row_cell qab 0; go_simp; go_wp2_with fail; refine hK.out _ _ ?_ (fun hHeld => ?_); (· exact hHeld); clear hK K
        try simp only [Act.put, List.setIfInBounds_toArray, List.set_cons_zero, List.set_cons_succ]
        refine rg_call (i := 10) (atN rfl) (by kernel_rfl) ?_ (fun K hK => ?_); (· rfl); (try clear hb); refine wp_append_at _ _ 57 rfl w.heap.size 48 i0 _ 13 152 Try.underlying57 hii hz0 hz1 hz2 rfl (by decide) (.slice s0 vs.length cp0) vs.length (vs.flatMap (rtL peer)) rfl (own_below HRE.out.own (below_on B0.out hBel)) ⟨_, 0, none⟩ 1 1 (rtC peer p u).toList rfl rfl hcs (rtL_one peer ⟨p, en.a, u, 0, 0⟩) (by have := VL.out; unfold maxLen; omega) (by have := VL.out; omega) (by have := WB.out; have := B0.out.size; have := hBel.size; omega) ?_; intro v3 w3 h2 h3 hat; obtain ⟨s3, c3, rfl, -⟩ := own_form h2; have hk3 : Kept (fun k => Value.ownBlock (.slice s0 vs.length cp0) = some k) w2 w3 := ⟨h3.os, h3.tape, h3.output, h3.size, fun k hk hne => h3.block k hk (fun e => hne e.symm)⟩; refine hK.out _ _ ?_ (fun hHeld => ?_); (· exact hHeld.trans (hk3.imp fun k h => .inr h)); clear hK K
        try simp only [Act.put, List.setIfInBounds_toArray, List.set_cons_zero, List.set_cons_succ]
        refine rg_call (i := 11) (atN rfl) (by kernel_rfl) ?_ (fun K hK => ?_); (· rfl); (try clear hb); have qab3 := (hk3.block _ (row_lt qab) NAO.out).trans qab; have cv : _ = some (Value.slice s0 vs.length cp0) := row_cell qab3 0; have fz := row_free qab3 0; go_simp; go_wp2_with fail; refine hK.out _ _ ?_ (fun hHeld => ?_); (· exact hHeld.put _ _ (.inl (.inl rfl))); clear hK K
        try simp only [Act.put]
        refine wpAnyH_done (by kernel_rfl) ?_ _
        have HS := Lib.hid (HH.out.step (w1 := w1) (w2 := w2) (w3 := w3) HAB.out HRE.out HMP.out HPX.out HOG.out HPP.out GT.out OKx.out hBel1 (Nat.le_trans B0.out.size hlo) FR.out hb2 h2 hk3 hat)
        clear hHeld hBel qab hBel1 hb2 h2 h3 hk3 hat
        go_wp2_with fail
        go_ret
        exact ⟨rfl, HS.out⟩
  · (try clear hb); go_simp; have hlo := hBel.size; refine (CLN.out _ (below_on B0.out hBel)).mono ?_; rintro e w1 ⟨u, rfl, fr, hb⟩; have FR := Lib.hid fr; clear fr; have hhi := hb.size; replace qab := (hb.block _ (row_lt qab)).trans qab; replace hBel := below_on hBel hb; have hBel1 := below_on B0.out hBel; go_wp2_with fail; refine hK.out _ _ ?_ (fun hHeld => ?_); (· exact hHeld.grow hb); clear hK K
    try simp only [Act.put, List.setIfInBounds_toArray, List.set_cons_zero, List.set_cons_succ]
    refine rg_call2 (i := 0) (j := 2) at0 (atS (atS at0)) (by kernel_rfl) ?_ ?_ (fun K hK => ?_) (fun K hK => ?_)
    · rfl
    · rfl
    · (try clear hb); have cv : _ = some (Value.slice s0 vs.length cp0) := row_cell qab 0; go_simp; go_wp2_with fail; refine hK.out _ _ ?_ (fun hHeld => ?_); (· exact hHeld); clear hK K
      try simp only [Act.put, List.setIfInBounds_toArray, List.set_cons_zero, List.set_cons_succ]
      refine rg_call (i := 2) (atN rfl) (by kernel_rfl) ?_ (fun K hK => ?_); (· rfl); (try clear hb); go_simp; go_wp2_with fail; refine hK.out _ _ ?_ (fun hHeld => ?_); (· exact hHeld); clear hK K
      try simp only [Act.put, List.setIfInBounds_toArray, List.set_cons_zero, List.set_cons_succ]
      refine rgy (i := 3) (v := ?_) (atN rfl) (by kernel_rfl) (fun _ _ _ h => h) ?_ ?_ hHeld ?_; rotate_left 1; (· rfl); (· intro w' hSw; (try clear hHeld); go_simp; try with_reducible rfl)
      try simp only [Act.put, List.setIfInBounds_toArray, List.set_cons_zero, List.set_cons_succ]
      refine rgy (i := 4) (v := ?_) (atN rfl) (by kernel_rfl) (fun _ _ _ h => h) ?_ ?_ hHeld ?_; rotate_left 1; (· rfl); (· intro w' hSw; have c0 := hSw.cell c0 NC.out; have c1 := hSw.cell c1 NC.out; have rx0 := hSw.cell rx0 NX.out; have rp0 := hSw.cell rp0 NB.out; (try clear hHeld); go_simp; try with_reducible rfl)
      try simp only [Act.put, List.setIfInBounds_toArray, List.set_cons_zero, List.set_cons_succ]
      refine rgy (i := 8) (v := ?_) (atN rfl) (by kernel_rfl) (fun _ _ _ h => h) ?_ ?_ hHeld ?_; rotate_left 1; (· rfl); (· intro w' hSw; (try clear hHeld); go_simp; try with_reducible rfl)
      try simp only [Act.put, List.setIfInBounds_toArray, List.set_cons_zero, List.set_cons_succ]
      refine rg_call (i := 9) (atN rfl) (by kernel_rfl) ?_ (fun K hK => ?_); (· rfl); (try clear hb); go_simp; refine rt_one_k (peer := peer) (p := p) (v := u) (q := K _) ?_; intro w2 hcs hb2; replace qab := (hb2.block _ (row_lt qab)).trans qab; replace hBel := below_on hBel hb2; refine hK.out _ _ ?_ (fun hHeld => ?_); (· exact hHeld.grow hb2); clear hK K
      try simp only [Act.put, List.setIfInBounds_toArray, List.set_cons_zero, List.set_cons_succ]
      refine rg_call (i := 10) (atN rfl) (by kernel_rfl) ?_ (fun K hK => ?_); (· rfl); (try clear hb); refine wp_append_at _ _ 57 rfl w.heap.size 48 i0 _ 13 152 Try.underlying57 hii hz0 hz1 hz2 rfl (by decide) (.slice s0 vs.length cp0) vs.length (vs.flatMap (rtL peer)) rfl (own_below HRE.out.own (below_on B0.out hBel)) ⟨_, 0, none⟩ 1 1 (rtC peer p u).toList rfl rfl hcs (rtL_one peer ⟨p, en.a, u, 0, 0⟩) (by have := VL.out; unfold maxLen; omega) (by have := VL.out; omega) (by have := WB.out; have := B0.out.size; have := hBel.size; omega) ?_; intro v3 w3 h2 h3 hat; obtain ⟨s3, c3, rfl, -⟩ := own_form h2; have hk3 : Kept (fun k => Value.ownBlock (.slice s0 vs.length cp0) = some k) w2 w3 := ⟨h3.os, h3.tape, h3.output, h3.size, fun k hk hne => h3.block k hk (fun e => hne e.symm)⟩; refine hK.out _ _ ?_ (fun hHeld => ?_); (· exact hHeld.trans (hk3.imp fun k h => .inr h)); clear hK K
      try simp only [Act.put, List.setIfInBounds_toArray, List.set_cons_zero, List.set_cons_succ]
      refine rg_call (i := 11) (atN rfl) (by kernel_rfl) ?_ (fun K hK => ?_); (· rfl); (try clear hb); have qab3 := (hk3.block _ (row_lt qab) NAO.out).trans qab; have cv : _ = some (Value.slice s0 vs.length cp0) := row_cell qab3 0; have fz := row_free qab3 0; go_simp; go_wp2_with fail; refine hK.out _ _ ?_ (fun hHeld => ?_); (· exact hHeld.put _ _ (.inl (.inl rfl))); clear hK K
      try simp only [Act.put]
      refine wpAnyH_done (by kernel_rfl) ?_ _
      have HS := Lib.hid (HH.out.step (w1 := w1) (w2 := w2) (w3 := w3) HAB.out HRE.out HMP.out HPX.out HOG.out HPP.out GT.out OKx.out hBel1 (Nat.le_trans B0.out.size hlo) FR.out hb2 h2 hk3 hat)
      clear hHeld hBel qab hBel1 hb2 h2 h3 hk3 hat
      go_wp2_with fail
      go_ret
      exact ⟨rfl, HS.out⟩
    · (try clear hb); go_simp; go_wp2_with fail; refine hK.out _ _ ?_ (fun hHeld => ?_); (· exact hHeld); clear hK K
      try simp only [Act.put, List.setIfInBounds_toArray, List.set_cons_zero, List.set_cons_succ]
      refine rgy (i := 3) (v := ?_) (atN rfl) (by kernel_rfl) (fun _ _ _ h => h) ?_ ?_ hHeld ?_; rotate_left 1; (· rfl); (· intro w' hSw; (try clear hHeld); go_simp; try with_reducible rfl)
      try simp only [Act.put, List.setIfInBounds_toArray, List.set_cons_zero, List.set_cons_succ]
      refine rgy (i := 4) (v := ?_) (atN rfl) (by kernel_rfl) (fun _ _ _ h => h) ?_ ?_ hHeld ?_; rotate_left 1; (· rfl); (· intro w' hSw; have c0 := hSw.cell c0 NC.out; have c1 := hSw.cell c1 NC.out; have rx0 := hSw.cell rx0 NX.out; have rp0 := hSw.cell rp0 NB.out; (try clear hHeld); go_simp; try with_reducible rfl)
      try simp only [Act.put, List.setIfInBounds_toArray, List.set_cons_zero, List.set_cons_succ]
      refine rgy (i := 8) (v := ?_) (atN rfl) (by kernel_rfl) (fun _ _ _ h => h) ?_ ?_ hHeld ?_; rotate_left 1; (· rfl); (· intro w' hSw; (try clear hHeld); go_simp; try with_reducible rfl)
      try simp only [Act.put, List.setIfInBounds_toArray, List.set_cons_zero, List.set_cons_succ]
      refine rg_call2 (i := 0) (j := 9) at0 (atS (atS (atS (atS (atS (atS (atS (atS (atS at0))))))))) (by kernel_rfl) ?_ ?_ (fun K hK => ?_) (fun K hK => ?_)
      · rfl
      · rfl
      · (try clear hb); have cv : _ = some (Value.slice s0 vs.length cp0) := row_cell qab 0; go_simp; go_wp2_with fail; refine hK.out _ _ ?_ (fun hHeld => ?_); (· exact hHeld); clear hK K
        try simp only [Act.put, List.setIfInBounds_toArray, List.set_cons_zero, List.set_cons_succ]
        refine rg_call (i := 9) (atN rfl) (by kernel_rfl) ?_ (fun K hK => ?_); (· rfl); (try clear hb); go_simp; refine rt_one_k (peer := peer) (p := p) (v := u) (q := K _) ?_; intro w2 hcs hb2; replace qab := (hb2.block _ (row_lt qab)).trans qab; replace hBel := below_on hBel hb2; refine hK.out _ _ ?_ (fun hHeld => ?_); (· exact hHeld.grow hb2); clear hK K
        try simp only [Act.put, List.setIfInBounds_toArray, List.set_cons_zero, List.set_cons_succ]
        refine rg_call (i := 10) (atN rfl) (by kernel_rfl) ?_ (fun K hK => ?_); (· rfl); (try clear hb); refine wp_append_at _ _ 57 rfl w.heap.size 48 i0 _ 13 152 Try.underlying57 hii hz0 hz1 hz2 rfl (by decide) (.slice s0 vs.length cp0) vs.length (vs.flatMap (rtL peer)) rfl (own_below HRE.out.own (below_on B0.out hBel)) ⟨_, 0, none⟩ 1 1 (rtC peer p u).toList rfl rfl hcs (rtL_one peer ⟨p, en.a, u, 0, 0⟩) (by have := VL.out; unfold maxLen; omega) (by have := VL.out; omega) (by have := WB.out; have := B0.out.size; have := hBel.size; omega) ?_; intro v3 w3 h2 h3 hat; obtain ⟨s3, c3, rfl, -⟩ := own_form h2; have hk3 : Kept (fun k => Value.ownBlock (.slice s0 vs.length cp0) = some k) w2 w3 := ⟨h3.os, h3.tape, h3.output, h3.size, fun k hk hne => h3.block k hk (fun e => hne e.symm)⟩; refine hK.out _ _ ?_ (fun hHeld => ?_); (· exact hHeld.trans (hk3.imp fun k h => .inr h)); clear hK K
        try simp only [Act.put, List.setIfInBounds_toArray, List.set_cons_zero, List.set_cons_succ]
        refine rg_call (i := 11) (atN rfl) (by kernel_rfl) ?_ (fun K hK => ?_); (· rfl); (try clear hb); have qab3 := (hk3.block _ (row_lt qab) NAO.out).trans qab; have cv : _ = some (Value.slice s0 vs.length cp0) := row_cell qab3 0; have fz := row_free qab3 0; go_simp; go_wp2_with fail; refine hK.out _ _ ?_ (fun hHeld => ?_); (· exact hHeld.put _ _ (.inl (.inl rfl))); clear hK K
        try simp only [Act.put]
        refine wpAnyH_done (by kernel_rfl) ?_ _
        have HS := Lib.hid (HH.out.step (w1 := w1) (w2 := w2) (w3 := w3) HAB.out HRE.out HMP.out HPX.out HOG.out HPP.out GT.out OKx.out hBel1 (Nat.le_trans B0.out.size hlo) FR.out hb2 h2 hk3 hat)
        clear hHeld hBel qab hBel1 hb2 h2 h3 hk3 hat
        go_wp2_with fail
        go_ret
        exact ⟨rfl, HS.out⟩
      · (try clear hb); go_simp; refine rt_one_k (peer := peer) (p := p) (v := u) (q := K _) ?_; intro w2 hcs hb2; replace qab := (hb2.block _ (row_lt qab)).trans qab; replace hBel := below_on hBel hb2; refine hK.out _ _ ?_ (fun hHeld => ?_); (· exact hHeld.grow hb2); clear hK K
        try simp only [Act.put, List.setIfInBounds_toArray, List.set_cons_zero, List.set_cons_succ]
        refine rg_call (i := 0) (atN rfl) (by kernel_rfl) ?_ (fun K hK => ?_); (· rfl); (try clear hb); have cv : _ = some (Value.slice s0 vs.length cp0) := row_cell qab 0; go_simp; go_wp2_with fail; refine hK.out _ _ ?_ (fun hHeld => ?_); (· exact hHeld); clear hK K
        try simp only [Act.put, List.setIfInBounds_toArray, List.set_cons_zero, List.set_cons_succ]
        refine rg_call (i := 10) (atN rfl) (by kernel_rfl) ?_ (fun K hK => ?_); (· rfl); (try clear hb); refine wp_append_at _ _ 57 rfl w.heap.size 48 i0 _ 13 152 Try.underlying57 hii hz0 hz1 hz2 rfl (by decide) (.slice s0 vs.length cp0) vs.length (vs.flatMap (rtL peer)) rfl (own_below HRE.out.own (below_on B0.out hBel)) ⟨_, 0, none⟩ 1 1 (rtC peer p u).toList rfl rfl hcs (rtL_one peer ⟨p, en.a, u, 0, 0⟩) (by have := VL.out; unfold maxLen; omega) (by have := VL.out; omega) (by have := WB.out; have := B0.out.size; have := hBel.size; omega) ?_; intro v3 w3 h2 h3 hat; obtain ⟨s3, c3, rfl, -⟩ := own_form h2; have hk3 : Kept (fun k => Value.ownBlock (.slice s0 vs.length cp0) = some k) w2 w3 := ⟨h3.os, h3.tape, h3.output, h3.size, fun k hk hne => h3.block k hk (fun e => hne e.symm)⟩; refine hK.out _ _ ?_ (fun hHeld => ?_); (· exact hHeld.trans (hk3.imp fun k h => .inr h)); clear hK K
        try simp only [Act.put, List.setIfInBounds_toArray, List.set_cons_zero, List.set_cons_succ]
        refine rg_call (i := 11) (atN rfl) (by kernel_rfl) ?_ (fun K hK => ?_); (· rfl); (try clear hb); have qab3 := (hk3.block _ (row_lt qab) NAO.out).trans qab; have cv : _ = some (Value.slice s0 vs.length cp0) := row_cell qab3 0; have fz := row_free qab3 0; go_simp; go_wp2_with fail; refine hK.out _ _ ?_ (fun hHeld => ?_); (· exact hHeld.put _ _ (.inl (.inl rfl))); clear hK K
        try simp only [Act.put]
        refine wpAnyH_done (by kernel_rfl) ?_ _
        have HS := Lib.hid (HH.out.step (w1 := w1) (w2 := w2) (w3 := w3) HAB.out HRE.out HMP.out HPX.out HOG.out HPP.out GT.out OKx.out hBel1 (Nat.le_trans B0.out.size hlo) FR.out hb2 h2 hk3 hat)
        clear hHeld hBel qab hBel1 hb2 h2 h3 hk3 hat
        go_wp2_with fail
        go_ret
        exact ⟨rfl, HS.out⟩
end Go.Proofs.Ytadlecnlgkhneaa

/-
  ALL ROUTES OF A PEER: All.
-/
namespace Go.Proofs.Ytadlecnlgkhneaa
open Go.RowKit Go.Lib

theorem all_srt (S : List (Nat × AV)) : ((goP S 32 0 0).map itP).Pairwise plt := by
  rw [List.pairwise_map]
  refine (goP_sorted (S := S) 32 0 0 rfl (by decide)).imp fun {x y} h => ?_
  unfold itLt at h
  unfold plt itP
  simp only
  omega
theorem all_mem {E : List Ent} (hE : ∀ e ∈ E, RgtP e.p) (p : Pf) : p ∈ (goP (kvs E) 32 0 0).map itP ↔ (getL (rts E) p).isSome = true := by
  constructor
  · intro h
    obtain ⟨x, hx, rfl⟩ := List.mem_map.1 h
    have hi := goP_in (S := kvs E) 32 0 0 rfl (by decide) x hx
    have hlt : x.1.1 < 4294967296 := by have := hi.hi; simpa using this
    obtain ⟨e, _, h1, _, h2⟩ := item_ent hE hlt (right_mod.2 ⟨hi.form, hi.le32⟩) hi.at_
    have e1 : itP ((x.1.1, x.1.2), x.2) = itP x := rfl
    rw [e1] at h2
    rw [h2]; rfl
  · intro h
    obtain ⟨a, ha⟩ := Option.isSome_iff_exists.1 h
    rw [find_rts] at ha
    cases hf : findE E p with
    | none => rw [hf] at ha; cases ha
    | some e =>
      obtain ⟨h1, rfl⟩ := findE_mem hf
      obtain ⟨x, n, hp, hx, hn, hm, hr⟩ := (hE e h1).nat
      have key := find_kvs hE (hE e h1)
      rw [hf] at key
      have hg : getL (kvs E) (keyN x n) = some e.v := by
        have : pKey e.p = keyN x n := by rw [hp]; rfl
        rw [← this]; exact key
      refine List.mem_map.2 ⟨((x, n), e.v), goP_mem hm hn hg 32 0 0 rfl (by decide) (Nat.zero_le _) (Nat.zero_le _) (by simpa using hx), ?_⟩
      rw [hp]; rfl
theorem ln_0 : Ln 32 ([] : List Itm) := by unfold Ln; simp
def AllPost (peer : Int) (R : Rts) (w : World) (e : Ending) (w' : World) : Prop := ∃ v vs, e = .returned v ∧ REs w' w.heap.size peer R v vs ∧ (vs.map (·.p)).Pairwise plt ∧ (∀ p, p ∈ vs.map (·.p) ↔ (getL R p).isSome = true) ∧ Below w.heap.size w w'
theorem each_all {w : World} {rb tb : Nat} {N : Nat → Option Nat} {E : List Ent} {peer own most : Int} {F : Nat → Prop} {ab rx : Nat} :
    EachOkN tb N (kvs E) most 49 #[.pointer (some ⟨ab, 0, none⟩), .pointer (some ⟨rx, 0, none⟩)] (fun _ => true) (AI w rb tb N E peer own most F ab rx) where
  ent := enters_of Try.func49 (by kernel_rfl) rfl
  stab P P' L W W' h hb hP := h.stab hb hP
  tri P L W h := h.rib.tri
  call P L W A i v h hA hR hg hl := all1_call P L W A i v h hA hR hg hl
set_option maxHeartbeats 3200000 in
set_option maxRecDepth 100000 in
theorem ad_All_in {rb tb : Nat} {N : Nat → Option Nat} {E : List Ent} {peer own most : Int} {F : Nat → Prop} (w : World) (h : RibIn w rb tb N E peer own most F) (hF : ∀ k, F k → k < w.heap.size) :
    Calls Try.prog 18 #[.pointer (some ⟨rb, 0, none⟩)] w (AllPost peer (rts E) w) := by
  have HH := Lib.hid h
  have HFL := Lib.hid hF
  clear h hF
  go_enter Try.func18, Try.ntmps18
  go_upto_region 4 with (fail)
  obtain ⟨W0, hW0, qr, qs, hB⟩ := boxTwo w #[.pointer (some ⟨rb, 0, none⟩)] 23 #[.slice none 0 0] 57
  rw [← hW0]
  clear hW0
  have rx0 : W0.cell? ⟨w.heap.size, 0, none⟩ = some (.pointer (some ⟨rb, 0, none⟩)) := row_cell qr 0
  have r3 := cell_below HH.out.cells.2.2.2 hB
  have I0 : Hid (AI w rb tb N E peer own most F (w.heap.size + 1) w.heap.size (fun _ => False) [] W0) := Lib.hid
    ⟨hB, HH.out.below hB, rx0, ⟨Nat.le_succ _, by omega⟩, HFL.out, ⟨_, [], qs, ⟨⟨rfl, .inl ⟨rfl, rfl⟩⟩, by simp, by simp, by simp⟩, rfl, by simp, by intro g hg; cases hg⟩, fun h => h, Nat.le_refl _, fun b hb => hb.elim⟩
  have AT := Lib.hid (trI_AllN each_all [] (fun _ => False) W0 I0.out ln_0)
  rw [runL_all _ (fun _ => rfl)] at AT
  clear qr qs
  go_wp2_with fail
  refine AT.out.mono ?_
  rintro e w1 ⟨rfl, I1, -⟩
  obtain ⟨v, vs, h1, h2, h3, -, -⟩ := I1.sl
  obtain ⟨s1, c1, hv, -⟩ := own_form h2.own
  subst hv
  have cv : w1.cell? ⟨w.heap.size + 1, 0, none⟩ = some (.slice s1 vs.length c1) := row_cell h1 0
  simp only [List.nil_append] at h3
  have FIN : Hid (AllPost peer (rts E) w (.returned (.slice s1 vs.length c1)) w1) := Lib.hid ⟨_, vs, rfl, h2, by rw [h3]; exact all_srt _, fun p => by rw [h3]; exact all_mem HH.out.rgt p, I1.bel⟩
  clear h1 h2 h3 I1 AT rx0 r3 hB
  go_wp2_with fail
  go_ret
  exact FIN.out
theorem ad_All {rb : Nat} {peer own most : Int} {R : Rts} {F : Nat → Prop} (w : World) (h : RibAt w rb peer own most R F) : Calls Try.prog 18 #[.pointer (some ⟨rb, 0, none⟩)] w (AllPost peer R w) := by
  obtain ⟨tb, N, E, hI, rfl⟩ := h
  obtain ⟨tb', hx⟩ : ∃ G : Nat → Prop, RibIn w rb tb N E peer own most G ∧ ∀ k, G k → k < w.heap.size := ⟨fun k => k = rb ∨ TOwn tb N k ∨ ∃ e ∈ E, e.lo ≤ k ∧ k < e.hi,
    ⟨hI.row, hI.tri, hI.rgt, hI.szs, hI.ent, .inl rfl, fun b hb => .inr (.inl hb), fun e he k h1 h2 => .inr (.inr ⟨e, he, h1, h2⟩), hI.apr, hI.apn, hI.most0, hI.most1, hI.room⟩, by
      rintro k (rfl | hk | ⟨e, he, h1, h2⟩)
      · exact row_lt hI.row
      · exact hI.tri.own_lt hk
      · exact Nat.lt_of_lt_of_le h2 (hI.ent e he).1⟩
  exact ad_All_in w hx.1 hx.2
end Go.Proofs.Ytadlecnlgkhneaa
