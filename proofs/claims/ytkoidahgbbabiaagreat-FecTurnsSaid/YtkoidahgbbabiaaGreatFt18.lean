/- Texts of one proof, one behind another. -/
import Derived.Test.YtkoidahgbbabiaaGreatFt13
import Derived.Test.YtkoidahgbbabiaaGreatFt17
import Derived.Test.YtkoidahgbbabiaaGreatFt1
namespace Go.Proofs.YtkoidahgbbabiaaGreat
open Go.RowKit Go.Lib
set_option maxHeartbeats 12800000 in
set_option maxRecDepth 100000 in
theorem all1_call {w : World} {rb tb : Nat} {N : Nat → Option Nat} {E : List Ent} {peer own most : Int} {F : Nat → Prop} {ab rx : Nat} (P : Nat → Prop) (L : List Itm) (W : World) (A i : Nat) (v : AV) (h : AI w rb tb N E peer own most F ab rx P L W)
  (hA : A < 4294967296) (hR : rightB A i = true) (hg : getL (kvs E) (keyN A i) = some v) (hl : L.length < 8589934592) :
  Calls Tryz.prog 117 #[.agg #[.int .u32 A, .int .i64 i], v.V, .pointer (some ⟨ab, 0, none⟩), .pointer (some ⟨rx, 0, none⟩)] W fun e w' => e = .returned (.bool true) ∧ AI w rb tb N E peer own most F ab rx P (L ++ [((A, i), v)]) w' ∧ Kept (fun b => ¬ P b) W w' := by
 obtain ⟨i0, hii, hz0, hz1, hz2⟩ := info_parts info_route
 obtain ⟨en, hm, hep, hev, hgt⟩ := item_ent h.rib.rgt hA hR hg
 have CLN := jh (fun W' (hb : Below W.heap.size W W') => av_CloneU en.a v W' (by rw [← hev]; exact ((h.rib.ent en hm).2.below hb).self) (h.rib.szs en hm))
 have HH := jh h
 have GT := jh hgt
 have OKx : Hid (OkP (itP ((A, i), v))) := jh (by rw [← hep]; exact (h.rib.rgt en hm).1)
 obtain ⟨v0, vs, hab, hre, hmp, hpx, hog⟩ := h.sl
 have hvl : vs.length = L.length := by have := congrArg List.length hmp; simpa using this
 obtain ⟨s0, cp0, hv0, -⟩ := jV hre.own
 subst hv0
 have HAB := jh hab
 have HRE := jh hre
 have HMP := jh hmp
 have HPX := jh hpx
 have HOG := jh hog
 have VL : Hid (vs.length < 8589934592) := jh (by omega)
 have RX := jh h.rxc
 have RP := jh h.rib.cells.1
 have WB := jh h.bel.size
 clear h hg hl hgt hep hev hm hab hre hmp hpx hog hvl
 generalize hpp : itP ((A, i), v) = p at GT OKx
 have P1 : Hid ((A : Int) = p.1 ∧ (i : Int) = p.2) := jh (by rw [← hpp]; exact ⟨rfl, rfl⟩)
 have HPP := jh hpp
 clear hpp
 go_enter Tryz.func117, Tryz.ntmps117
 go_upto_region 1 with (fail)
 obtain ⟨W0, hW0, c0, c1, qv, hB⟩ := box_pa W A i v
 rw [← hW0]; clear hW0
 rw [P1.out.1] at c0
 rw [P1.out.2] at c1
 have QV := jh qv
 have B0 := jh hB
 have rx0 := jA RX.out hB
 have rp0 := jA RP.out hB
 have cv0 : W0.cell? ⟨ab, 0, none⟩ = some (.slice s0 vs.length cp0) := (hB.cell (jE HAB.out)).trans (jB HAB.out 0)
 have fv : Hid (∀ W', Below W0.heap.size W0 W' → W'.frozen? ⟨ab, 0, none⟩ = false) := jh (fun W' hb => jN (((jC B0.out hb).block _ (jE HAB.out)).trans HAB.out) 0)
 clear qv hB
 have hBel : Below W0.heap.size W0 W0.drew := (Below.refl _ _).drew
 have qab : W0.drew.heap[ab]? = some (.cells #[.slice s0 vs.length cp0] 57 (0, 0)) := (B0.out.block _ (jE HAB.out)).trans HAB.out
 have ABL : Hid (ab < W.heap.size) := jh (jE HAB.out)
 have OWL : Hid (∀ g, Value.ownBlock (.slice s0 vs.length cp0) = some g → g < W.heap.size ∧ w.heap.size ≤ g) := jh (fun g hg => ⟨own_lt HRE.out.own g hg, jJ HRE.out.own g hg⟩)
 have NC : Hid (¬ (W.heap.size = ab ∨ Value.ownBlock (.slice s0 vs.length cp0) = some W.heap.size)) := jh (fun h => by
  rcases h with h | h
  ·have := ABL.out; omega
  ·have := (OWL.out _ h).1; omega)
 have ND : Hid (¬ (W.heap.size + 1 = ab ∨ Value.ownBlock (.slice s0 vs.length cp0) = some (W.heap.size + 1))) := jh (fun h => by
  rcases h with h | h
  ·have := ABL.out; omega
  ·have := (OWL.out _ h).1; omega)
 have NX : Hid (¬ (rx = ab ∨ Value.ownBlock (.slice s0 vs.length cp0) = some rx)) := jh (fun h => by
  rcases h with h | h
  ·exact HH.out.lo.2 h
  ·exact (HOG.out _ h).2.2 rfl)
 have NB : Hid (¬ (rb = ab ∨ Value.ownBlock (.slice s0 vs.length cp0) = some rb)) := jh (fun h => by
  have hrb := HH.out.flt _ HH.out.rib.frb
  rcases h with h | h
  ·have := HH.out.lo.1; omega
  ·have := (OWL.out _ h).2; omega)
 have NAO : Hid (¬ (Value.ownBlock (.slice s0 vs.length cp0) = some ab)) := jh (fun h => (HOG.out _ h).2.1 rfl)
 refine wp_region_held_drew (S := fun w1 => Kept (fun k => k = ab ∨ Value.ownBlock (.slice s0 vs.length cp0) = some k) W0 w1) (by kernel_rfl) ?_ (fun hHeld => ?_)
 ·exact (Kept.refl _ _).drew
 generalize World.drew W0 = wd at hBel qab hHeld ⊢
 refine qy 1 ?_ ?_ ?_ hHeld ?_; rotate_left 1; (· rfl); (· intro w' hSw; have c0 := hSw.cell c0 NC.out; have c1 := hSw.cell c1 NC.out; have rx0 := hSw.cell rx0 NX.out; have rp0 := hSw.cell rp0 NB.out; (try clear hHeld); go_simp; try with_reducible rfl)
 try simp only [jz]
 refine qy 5 ?_ ?_ ?_ hHeld ?_; rotate_left 1; (· rfl); (· intro w' hSw; have c0 := hSw.cell c0 NC.out; have c1 := hSw.cell c1 NC.out; have rx0 := hSw.cell rx0 NX.out; have rp0 := hSw.cell rp0 NB.out; (try clear hHeld); go_simp; try with_reducible rfl)
 try simp only [jz]
 refine qy 6 ?_ ?_ ?_ hHeld ?_; rotate_left 1; (· rfl); (· intro w' hSw; refine exec_ld 42 (.tmp 5) ?_ (W.heap.size + 1) ?_ 42 v.C (0, 0) _ ((hSw.block _ (jE QV.out) ND.out).trans QV.out) Tryz.underlying42 rfl (by kernel_rfl) <;> rfl)
 try simp only [jz]
 refine rg_call3 (i := 0) (j := 2) (k := 7) (atN rfl) (atN rfl) (atN rfl) (by kernel_rfl) ?_ ?_ ?_ (fun K hK => ?_) (fun K hK => ?_) (fun K hK => ?_)
 ·rfl
 ·rfl
 ·rfl
 ·(try clear hb); have cv : _ = some (Value.slice s0 vs.length cp0) := jB qab 0; go_simp; go_wp2_with fail; refine hK.out _ _ ?_ (fun hHeld => ?_); (· exact hHeld); clear hK K
  try simp only [jz]
  refine jI (i := 2) (j := 7) (atS (atS at0)) (atS (atS (atS (atS (atS (atS (atS at0))))))) (by kernel_rfl) ?_ ?_ (fun K hK => ?_) (fun K hK => ?_)
  ·rfl
  ·rfl
  ·(try clear hb); go_simp; go_wp2_with fail; refine hK.out _ _ ?_ (fun hHeld => ?_); (· exact hHeld); clear hK K
   try simp only [jz]
   refine qy 3 ?_ ?_ ?_ hHeld ?_; rotate_left 1; (· rfl); (· intro w' hSw; (try clear hHeld); go_simp; try with_reducible rfl)
   try simp only [jz]
   refine qy 4 ?_ ?_ ?_ hHeld ?_; rotate_left 1; (· rfl); (· intro w' hSw; have c0 := hSw.cell c0 NC.out; have c1 := hSw.cell c1 NC.out; have rx0 := hSw.cell rx0 NX.out; have rp0 := hSw.cell rp0 NB.out; (try clear hHeld); go_simp; try with_reducible rfl)
   try simp only [jz]
   refine jr 7 ?_ fun K hK => ?_; (· rfl); (try clear hb); go_simp; have hlo := hBel.size; refine (CLN.out _ (jC B0.out hBel)).mono ?_; rintro e w1 ⟨u, rfl, fr, hb⟩; have FR := jh fr; clear fr; have hhi := hb.size; replace qab := (hb.block _ (jE qab)).trans qab; replace hBel := jC hBel hb; have hBel1 := jC B0.out hBel; go_wp2_with fail; refine hK.out _ _ ?_ (fun hHeld => ?_); (· exact hHeld.grow hb); clear hK K
   try simp only [jz]
   refine qy 8 ?_ ?_ ?_ hHeld ?_; rotate_left 1; (· rfl); (· intro w' hSw; (try clear hHeld); go_simp; try with_reducible rfl)
   try simp only [jz]
   refine jr 9 ?_ fun K hK => ?_; (· rfl); (try clear hb); go_simp; refine rt_one_k (peer := peer) (p := p) (v := u) (q := K _) ?_; intro w2 hcs hb2; replace qab := (hb2.block _ (jE qab)).trans qab; replace hBel := jC hBel hb2; refine hK.out _ _ ?_ (fun hHeld => ?_); (· exact hHeld.grow hb2); clear hK K
   try simp only [jz]
   refine jr 10 ?_ fun K hK => ?_; (· rfl); (try clear hb); refine wp_append_at _ _ 57 rfl w.heap.size 61 i0 _ 13 152 Tryz.underlying57 hii hz0 hz1 hz2 rfl (by decide) (.slice s0 vs.length cp0) vs.length (vs.flatMap (rtL peer)) rfl (jQ HRE.out.own (jC B0.out hBel)) ⟨_, 0, none⟩ 1 1 (rtC peer p u).toList rfl rfl hcs (rtL_one peer ⟨p, en.a, u, 0, 0⟩) (by have := VL.out; unfold maxLen; omega) (by have := VL.out; omega) (by have := WB.out; have := B0.out.size; have := hBel.size; omega) ?_; intro v3 w3 h2 h3 hat; obtain ⟨s3, c3, rfl, -⟩ := jV h2; have hk3 : Kept (fun k => Value.ownBlock (.slice s0 vs.length cp0) = some k) w2 w3 := ⟨h3.os, h3.tape, h3.output, h3.size, fun k hk hne => h3.block k hk (fun e => hne e.symm)⟩; refine hK.out _ _ ?_ (fun hHeld => ?_); (· exact hHeld.trans (hk3.imp fun k h => .inr h)); clear hK K
   try simp only [jz]
   refine jr 11 ?_ fun K hK => ?_; (· rfl); (try clear hb); have qab3 := (hk3.block _ (jE qab) NAO.out).trans qab; have cv : _ = some (Value.slice s0 vs.length cp0) := jB qab3 0; have fz := jN qab3 0; go_simp; go_wp2_with fail; refine hK.out _ _ ?_ (fun hHeld => ?_); (· exact hHeld.put _ _ (.inl (.inl rfl))); clear hK K
   try simp only [Act.put]
   refine wpAnyH_done (by kernel_rfl) ?_ _
   have HS := jh (HH.out.step (w1 := w1) (w2 := w2) (w3 := w3) HAB.out HRE.out HMP.out HPX.out HOG.out HPP.out GT.out OKx.out hBel1 (Nat.le_trans B0.out.size hlo) FR.out hb2 h2 hk3 hat)
   clear hHeld hBel qab hBel1 hb2 h2 h3 hk3 hat
   go_wp2_with fail
   go_ret
   exact ⟨rfl, HS.out⟩
  ·(try clear hb); go_simp; have hlo := hBel.size; refine (CLN.out _ (jC B0.out hBel)).mono ?_; rintro e w1 ⟨u, rfl, fr, hb⟩; have FR := jh fr; clear fr; have hhi := hb.size; replace qab := (hb.block _ (jE qab)).trans qab; replace hBel := jC hBel hb; have hBel1 := jC B0.out hBel; go_wp2_with fail; refine hK.out _ _ ?_ (fun hHeld => ?_); (· exact hHeld.grow hb); clear hK K
   try simp only [jz]
   refine jr 2 ?_ fun K hK => ?_; (· rfl); (try clear hb); go_simp; go_wp2_with fail; refine hK.out _ _ ?_ (fun hHeld => ?_); (· exact hHeld); clear hK K
   try simp only [jz]
   refine qy 3 ?_ ?_ ?_ hHeld ?_; rotate_left 1; (· rfl); (· intro w' hSw; (try clear hHeld); go_simp; try with_reducible rfl)
   try simp only [jz]
   refine qy 4 ?_ ?_ ?_ hHeld ?_; rotate_left 1; (· rfl); (· intro w' hSw; have c0 := hSw.cell c0 NC.out; have c1 := hSw.cell c1 NC.out; have rx0 := hSw.cell rx0 NX.out; have rp0 := hSw.cell rp0 NB.out; (try clear hHeld); go_simp; try with_reducible rfl)
   try simp only [jz]
   refine qy 8 ?_ ?_ ?_ hHeld ?_; rotate_left 1; (· rfl); (· intro w' hSw; (try clear hHeld); go_simp; try with_reducible rfl)
   try simp only [jz]
   refine jr 9 ?_ fun K hK => ?_; (· rfl); (try clear hb); go_simp; refine rt_one_k (peer := peer) (p := p) (v := u) (q := K _) ?_; intro w2 hcs hb2; replace qab := (hb2.block _ (jE qab)).trans qab; replace hBel := jC hBel hb2; refine hK.out _ _ ?_ (fun hHeld => ?_); (· exact hHeld.grow hb2); clear hK K
   try simp only [jz]
   refine jr 10 ?_ fun K hK => ?_; (· rfl); (try clear hb); refine wp_append_at _ _ 57 rfl w.heap.size 61 i0 _ 13 152 Tryz.underlying57 hii hz0 hz1 hz2 rfl (by decide) (.slice s0 vs.length cp0) vs.length (vs.flatMap (rtL peer)) rfl (jQ HRE.out.own (jC B0.out hBel)) ⟨_, 0, none⟩ 1 1 (rtC peer p u).toList rfl rfl hcs (rtL_one peer ⟨p, en.a, u, 0, 0⟩) (by have := VL.out; unfold maxLen; omega) (by have := VL.out; omega) (by have := WB.out; have := B0.out.size; have := hBel.size; omega) ?_; intro v3 w3 h2 h3 hat; obtain ⟨s3, c3, rfl, -⟩ := jV h2; have hk3 : Kept (fun k => Value.ownBlock (.slice s0 vs.length cp0) = some k) w2 w3 := ⟨h3.os, h3.tape, h3.output, h3.size, fun k hk hne => h3.block k hk (fun e => hne e.symm)⟩; refine hK.out _ _ ?_ (fun hHeld => ?_); (· exact hHeld.trans (hk3.imp fun k h => .inr h)); clear hK K
   try simp only [jz]
   refine jr 11 ?_ fun K hK => ?_; (· rfl); (try clear hb); have qab3 := (hk3.block _ (jE qab) NAO.out).trans qab; have cv : _ = some (Value.slice s0 vs.length cp0) := jB qab3 0; have fz := jN qab3 0; go_simp; go_wp2_with fail; refine hK.out _ _ ?_ (fun hHeld => ?_); (· exact hHeld.put _ _ (.inl (.inl rfl))); clear hK K
   try simp only [Act.put]
   refine wpAnyH_done (by kernel_rfl) ?_ _
   have HS := jh (HH.out.step (w1 := w1) (w2 := w2) (w3 := w3) HAB.out HRE.out HMP.out HPX.out HOG.out HPP.out GT.out OKx.out hBel1 (Nat.le_trans B0.out.size hlo) FR.out hb2 h2 hk3 hat)
   clear hHeld hBel qab hBel1 hb2 h2 h3 hk3 hat
   go_wp2_with fail
   go_ret
   exact ⟨rfl, HS.out⟩
 ·(try clear hb); go_simp; go_wp2_with fail; refine hK.out _ _ ?_ (fun hHeld => ?_); (· exact hHeld); clear hK K
  try simp only [jz]
  refine qy 3 ?_ ?_ ?_ hHeld ?_; rotate_left 1; (· rfl); (· intro w' hSw; (try clear hHeld); go_simp; try with_reducible rfl)
  try simp only [jz]
  refine qy 4 ?_ ?_ ?_ hHeld ?_; rotate_left 1; (· rfl); (· intro w' hSw; have c0 := hSw.cell c0 NC.out; have c1 := hSw.cell c1 NC.out; have rx0 := hSw.cell rx0 NX.out; have rp0 := hSw.cell rp0 NB.out; (try clear hHeld); go_simp; try with_reducible rfl)
  try simp only [jz]
  refine jI (i := 0) (j := 7) at0 (atS (atS (atS (atS (atS (atS (atS at0))))))) (by kernel_rfl) ?_ ?_ (fun K hK => ?_) (fun K hK => ?_)
  ·rfl
  ·rfl
  ·(try clear hb); have cv : _ = some (Value.slice s0 vs.length cp0) := jB qab 0; go_simp; go_wp2_with fail; refine hK.out _ _ ?_ (fun hHeld => ?_); (· exact hHeld); clear hK K
   try simp only [jz]
   refine jr 7 ?_ fun K hK => ?_; (· rfl); (try clear hb); go_simp; have hlo := hBel.size; refine (CLN.out _ (jC B0.out hBel)).mono ?_; rintro e w1 ⟨u, rfl, fr, hb⟩; have FR := jh fr; clear fr; have hhi := hb.size; replace qab := (hb.block _ (jE qab)).trans qab; replace hBel := jC hBel hb; have hBel1 := jC B0.out hBel; go_wp2_with fail; refine hK.out _ _ ?_ (fun hHeld => ?_); (· exact hHeld.grow hb); clear hK K
   try simp only [jz]
   refine qy 8 ?_ ?_ ?_ hHeld ?_; rotate_left 1; (· rfl); (· intro w' hSw; (try clear hHeld); go_simp; try with_reducible rfl)
   try simp only [jz]
   refine jr 9 ?_ fun K hK => ?_; (· rfl); (try clear hb); go_simp; refine rt_one_k (peer := peer) (p := p) (v := u) (q := K _) ?_; intro w2 hcs hb2; replace qab := (hb2.block _ (jE qab)).trans qab; replace hBel := jC hBel hb2; refine hK.out _ _ ?_ (fun hHeld => ?_); (· exact hHeld.grow hb2); clear hK K
   try simp only [jz]
   refine jr 10 ?_ fun K hK => ?_; (· rfl); (try clear hb); refine wp_append_at _ _ 57 rfl w.heap.size 61 i0 _ 13 152 Tryz.underlying57 hii hz0 hz1 hz2 rfl (by decide) (.slice s0 vs.length cp0) vs.length (vs.flatMap (rtL peer)) rfl (jQ HRE.out.own (jC B0.out hBel)) ⟨_, 0, none⟩ 1 1 (rtC peer p u).toList rfl rfl hcs (rtL_one peer ⟨p, en.a, u, 0, 0⟩) (by have := VL.out; unfold maxLen; omega) (by have := VL.out; omega) (by have := WB.out; have := B0.out.size; have := hBel.size; omega) ?_; intro v3 w3 h2 h3 hat; obtain ⟨s3, c3, rfl, -⟩ := jV h2; have hk3 : Kept (fun k => Value.ownBlock (.slice s0 vs.length cp0) = some k) w2 w3 := ⟨h3.os, h3.tape, h3.output, h3.size, fun k hk hne => h3.block k hk (fun e => hne e.symm)⟩; refine hK.out _ _ ?_ (fun hHeld => ?_); (· exact hHeld.trans (hk3.imp fun k h => .inr h)); clear hK K
   try simp only [jz]
   refine jr 11 ?_ fun K hK => ?_; (· rfl); (try clear hb); have qab3 := (hk3.block _ (jE qab) NAO.out).trans qab; have cv : _ = some (Value.slice s0 vs.length cp0) := jB qab3 0; have fz := jN qab3 0; go_simp; go_wp2_with fail; refine hK.out _ _ ?_ (fun hHeld => ?_); (· exact hHeld.put _ _ (.inl (.inl rfl))); clear hK K
   try simp only [Act.put]
   refine wpAnyH_done (by kernel_rfl) ?_ _
   have HS := jh (HH.out.step (w1 := w1) (w2 := w2) (w3 := w3) HAB.out HRE.out HMP.out HPX.out HOG.out HPP.out GT.out OKx.out hBel1 (Nat.le_trans B0.out.size hlo) FR.out hb2 h2 hk3 hat)
   clear hHeld hBel qab hBel1 hb2 h2 h3 hk3 hat
   go_wp2_with fail
   go_ret
   exact ⟨rfl, HS.out⟩
  ·(try clear hb); go_simp; have hlo := hBel.size; refine (CLN.out _ (jC B0.out hBel)).mono ?_; rintro e w1 ⟨u, rfl, fr, hb⟩; have FR := jh fr; clear fr; have hhi := hb.size; replace qab := (hb.block _ (jE qab)).trans qab; replace hBel := jC hBel hb; have hBel1 := jC B0.out hBel; go_wp2_with fail; refine hK.out _ _ ?_ (fun hHeld => ?_); (· exact hHeld.grow hb); clear hK K
   try simp only [jz]
   refine qy 8 ?_ ?_ ?_ hHeld ?_; rotate_left 1; (· rfl); (· intro w' hSw; (try clear hHeld); go_simp; try with_reducible rfl)
   try simp only [jz]
   refine jI (i := 0) (j := 9) at0 (atS (atS (atS (atS (atS (atS (atS (atS (atS at0))))))))) (by kernel_rfl) ?_ ?_ (fun K hK => ?_) (fun K hK => ?_)
   ·rfl
   ·rfl
   ·(try clear hb); have cv : _ = some (Value.slice s0 vs.length cp0) := jB qab 0; go_simp; go_wp2_with fail; refine hK.out _ _ ?_ (fun hHeld => ?_); (· exact hHeld); clear hK K
    try simp only [jz]
    refine jr 9 ?_ fun K hK => ?_; (· rfl); (try clear hb); go_simp; refine rt_one_k (peer := peer) (p := p) (v := u) (q := K _) ?_; intro w2 hcs hb2; replace qab := (hb2.block _ (jE qab)).trans qab; replace hBel := jC hBel hb2; refine hK.out _ _ ?_ (fun hHeld => ?_); (· exact hHeld.grow hb2); clear hK K
    try simp only [jz]
    refine jr 10 ?_ fun K hK => ?_; (· rfl); (try clear hb); refine wp_append_at _ _ 57 rfl w.heap.size 61 i0 _ 13 152 Tryz.underlying57 hii hz0 hz1 hz2 rfl (by decide) (.slice s0 vs.length cp0) vs.length (vs.flatMap (rtL peer)) rfl (jQ HRE.out.own (jC B0.out hBel)) ⟨_, 0, none⟩ 1 1 (rtC peer p u).toList rfl rfl hcs (rtL_one peer ⟨p, en.a, u, 0, 0⟩) (by have := VL.out; unfold maxLen; omega) (by have := VL.out; omega) (by have := WB.out; have := B0.out.size; have := hBel.size; omega) ?_; intro v3 w3 h2 h3 hat; obtain ⟨s3, c3, rfl, -⟩ := jV h2; have hk3 : Kept (fun k => Value.ownBlock (.slice s0 vs.length cp0) = some k) w2 w3 := ⟨h3.os, h3.tape, h3.output, h3.size, fun k hk hne => h3.block k hk (fun e => hne e.symm)⟩; refine hK.out _ _ ?_ (fun hHeld => ?_); (· exact hHeld.trans (hk3.imp fun k h => .inr h)); clear hK K
    try simp only [jz]
    refine jr 11 ?_ fun K hK => ?_; (· rfl); (try clear hb); have qab3 := (hk3.block _ (jE qab) NAO.out).trans qab; have cv : _ = some (Value.slice s0 vs.length cp0) := jB qab3 0; have fz := jN qab3 0; go_simp; go_wp2_with fail; refine hK.out _ _ ?_ (fun hHeld => ?_); (· exact hHeld.put _ _ (.inl (.inl rfl))); clear hK K
    try simp only [Act.put]
    refine wpAnyH_done (by kernel_rfl) ?_ _
    have HS := jh (HH.out.step (w1 := w1) (w2 := w2) (w3 := w3) HAB.out HRE.out HMP.out HPX.out HOG.out HPP.out GT.out OKx.out hBel1 (Nat.le_trans B0.out.size hlo) FR.out hb2 h2 hk3 hat)
    clear hHeld hBel qab hBel1 hb2 h2 h3 hk3 hat
    go_wp2_with fail
    go_ret
    exact ⟨rfl, HS.out⟩
   ·(try clear hb); go_simp; refine rt_one_k (peer := peer) (p := p) (v := u) (q := K _) ?_; intro w2 hcs hb2; replace qab := (hb2.block _ (jE qab)).trans qab; replace hBel := jC hBel hb2; refine hK.out _ _ ?_ (fun hHeld => ?_); (· exact hHeld.grow hb2); clear hK K
    try simp only [jz]
    refine jr 0 ?_ fun K hK => ?_; (· rfl); (try clear hb); have cv : _ = some (Value.slice s0 vs.length cp0) := jB qab 0; go_simp; go_wp2_with fail; refine hK.out _ _ ?_ (fun hHeld => ?_); (· exact hHeld); clear hK K
    try simp only [jz]
    refine jr 10 ?_ fun K hK => ?_; (· rfl); (try clear hb); refine wp_append_at _ _ 57 rfl w.heap.size 61 i0 _ 13 152 Tryz.underlying57 hii hz0 hz1 hz2 rfl (by decide) (.slice s0 vs.length cp0) vs.length (vs.flatMap (rtL peer)) rfl (jQ HRE.out.own (jC B0.out hBel)) ⟨_, 0, none⟩ 1 1 (rtC peer p u).toList rfl rfl hcs (rtL_one peer ⟨p, en.a, u, 0, 0⟩) (by have := VL.out; unfold maxLen; omega) (by have := VL.out; omega) (by have := WB.out; have := B0.out.size; have := hBel.size; omega) ?_; intro v3 w3 h2 h3 hat; obtain ⟨s3, c3, rfl, -⟩ := jV h2; have hk3 : Kept (fun k => Value.ownBlock (.slice s0 vs.length cp0) = some k) w2 w3 := ⟨h3.os, h3.tape, h3.output, h3.size, fun k hk hne => h3.block k hk (fun e => hne e.symm)⟩; refine hK.out _ _ ?_ (fun hHeld => ?_); (· exact hHeld.trans (hk3.imp fun k h => .inr h)); clear hK K
    try simp only [jz]
    refine jr 11 ?_ fun K hK => ?_; (· rfl); (try clear hb); have qab3 := (hk3.block _ (jE qab) NAO.out).trans qab; have cv : _ = some (Value.slice s0 vs.length cp0) := jB qab3 0; have fz := jN qab3 0; go_simp; go_wp2_with fail; refine hK.out _ _ ?_ (fun hHeld => ?_); (· exact hHeld.put _ _ (.inl (.inl rfl))); clear hK K
    try simp only [Act.put]
    refine wpAnyH_done (by kernel_rfl) ?_ _
    have HS := jh (HH.out.step (w1 := w1) (w2 := w2) (w3 := w3) HAB.out HRE.out HMP.out HPX.out HOG.out HPP.out GT.out OKx.out hBel1 (Nat.le_trans B0.out.size hlo) FR.out hb2 h2 hk3 hat)
    clear hHeld hBel qab hBel1 hb2 h2 h3 hk3 hat
    go_wp2_with fail
    go_ret
    exact ⟨rfl, HS.out⟩
 ·(try clear hb); go_simp; have hlo := hBel.size; refine (CLN.out _ (jC B0.out hBel)).mono ?_; rintro e w1 ⟨u, rfl, fr, hb⟩; have FR := jh fr; clear fr; have hhi := hb.size; replace qab := (hb.block _ (jE qab)).trans qab; replace hBel := jC hBel hb; have hBel1 := jC B0.out hBel; go_wp2_with fail; refine hK.out _ _ ?_ (fun hHeld => ?_); (· exact hHeld.grow hb); clear hK K
  try simp only [jz]
  refine jI (i := 0) (j := 2) at0 (atS (atS at0)) (by kernel_rfl) ?_ ?_ (fun K hK => ?_) (fun K hK => ?_)
  ·rfl
  ·rfl
  ·(try clear hb); have cv : _ = some (Value.slice s0 vs.length cp0) := jB qab 0; go_simp; go_wp2_with fail; refine hK.out _ _ ?_ (fun hHeld => ?_); (· exact hHeld); clear hK K
   try simp only [jz]
   refine jr 2 ?_ fun K hK => ?_; (· rfl); (try clear hb); go_simp; go_wp2_with fail; refine hK.out _ _ ?_ (fun hHeld => ?_); (· exact hHeld); clear hK K
   try simp only [jz]
   refine qy 3 ?_ ?_ ?_ hHeld ?_; rotate_left 1; (· rfl); (· intro w' hSw; (try clear hHeld); go_simp; try with_reducible rfl)
   try simp only [jz]
   refine qy 4 ?_ ?_ ?_ hHeld ?_; rotate_left 1; (· rfl); (· intro w' hSw; have c0 := hSw.cell c0 NC.out; have c1 := hSw.cell c1 NC.out; have rx0 := hSw.cell rx0 NX.out; have rp0 := hSw.cell rp0 NB.out; (try clear hHeld); go_simp; try with_reducible rfl)
   try simp only [jz]
   refine qy 8 ?_ ?_ ?_ hHeld ?_; rotate_left 1; (· rfl); (· intro w' hSw; (try clear hHeld); go_simp; try with_reducible rfl)
   try simp only [jz]
   refine jr 9 ?_ fun K hK => ?_; (· rfl); (try clear hb); go_simp; refine rt_one_k (peer := peer) (p := p) (v := u) (q := K _) ?_; intro w2 hcs hb2; replace qab := (hb2.block _ (jE qab)).trans qab; replace hBel := jC hBel hb2; refine hK.out _ _ ?_ (fun hHeld => ?_); (· exact hHeld.grow hb2); clear hK K
   try simp only [jz]
   refine jr 10 ?_ fun K hK => ?_; (· rfl); (try clear hb); refine wp_append_at _ _ 57 rfl w.heap.size 61 i0 _ 13 152 Tryz.underlying57 hii hz0 hz1 hz2 rfl (by decide) (.slice s0 vs.length cp0) vs.length (vs.flatMap (rtL peer)) rfl (jQ HRE.out.own (jC B0.out hBel)) ⟨_, 0, none⟩ 1 1 (rtC peer p u).toList rfl rfl hcs (rtL_one peer ⟨p, en.a, u, 0, 0⟩) (by have := VL.out; unfold maxLen; omega) (by have := VL.out; omega) (by have := WB.out; have := B0.out.size; have := hBel.size; omega) ?_; intro v3 w3 h2 h3 hat; obtain ⟨s3, c3, rfl, -⟩ := jV h2; have hk3 : Kept (fun k => Value.ownBlock (.slice s0 vs.length cp0) = some k) w2 w3 := ⟨h3.os, h3.tape, h3.output, h3.size, fun k hk hne => h3.block k hk (fun e => hne e.symm)⟩; refine hK.out _ _ ?_ (fun hHeld => ?_); (· exact hHeld.trans (hk3.imp fun k h => .inr h)); clear hK K
   try simp only [jz]
   refine jr 11 ?_ fun K hK => ?_; (· rfl); (try clear hb); have qab3 := (hk3.block _ (jE qab) NAO.out).trans qab; have cv : _ = some (Value.slice s0 vs.length cp0) := jB qab3 0; have fz := jN qab3 0; go_simp; go_wp2_with fail; refine hK.out _ _ ?_ (fun hHeld => ?_); (· exact hHeld.put _ _ (.inl (.inl rfl))); clear hK K
   try simp only [Act.put]
   refine wpAnyH_done (by kernel_rfl) ?_ _
   have HS := jh (HH.out.step (w1 := w1) (w2 := w2) (w3 := w3) HAB.out HRE.out HMP.out HPX.out HOG.out HPP.out GT.out OKx.out hBel1 (Nat.le_trans B0.out.size hlo) FR.out hb2 h2 hk3 hat)
   clear hHeld hBel qab hBel1 hb2 h2 h3 hk3 hat
   go_wp2_with fail
   go_ret
   exact ⟨rfl, HS.out⟩
  ·(try clear hb); go_simp; go_wp2_with fail; refine hK.out _ _ ?_ (fun hHeld => ?_); (· exact hHeld); clear hK K
   try simp only [jz]
   refine qy 3 ?_ ?_ ?_ hHeld ?_; rotate_left 1; (· rfl); (· intro w' hSw; (try clear hHeld); go_simp; try with_reducible rfl)
   try simp only [jz]
   refine qy 4 ?_ ?_ ?_ hHeld ?_; rotate_left 1; (· rfl); (· intro w' hSw; have c0 := hSw.cell c0 NC.out; have c1 := hSw.cell c1 NC.out; have rx0 := hSw.cell rx0 NX.out; have rp0 := hSw.cell rp0 NB.out; (try clear hHeld); go_simp; try with_reducible rfl)
   try simp only [jz]
   refine qy 8 ?_ ?_ ?_ hHeld ?_; rotate_left 1; (· rfl); (· intro w' hSw; (try clear hHeld); go_simp; try with_reducible rfl)
   try simp only [jz]
   refine jI (i := 0) (j := 9) at0 (atS (atS (atS (atS (atS (atS (atS (atS (atS at0))))))))) (by kernel_rfl) ?_ ?_ (fun K hK => ?_) (fun K hK => ?_)
   ·rfl
   ·rfl
   ·(try clear hb); have cv : _ = some (Value.slice s0 vs.length cp0) := jB qab 0; go_simp; go_wp2_with fail; refine hK.out _ _ ?_ (fun hHeld => ?_); (· exact hHeld); clear hK K
    try simp only [jz]
    refine jr 9 ?_ fun K hK => ?_; (· rfl); (try clear hb); go_simp; refine rt_one_k (peer := peer) (p := p) (v := u) (q := K _) ?_; intro w2 hcs hb2; replace qab := (hb2.block _ (jE qab)).trans qab; replace hBel := jC hBel hb2; refine hK.out _ _ ?_ (fun hHeld => ?_); (· exact hHeld.grow hb2); clear hK K
    try simp only [jz]
    refine jr 10 ?_ fun K hK => ?_; (· rfl); (try clear hb); refine wp_append_at _ _ 57 rfl w.heap.size 61 i0 _ 13 152 Tryz.underlying57 hii hz0 hz1 hz2 rfl (by decide) (.slice s0 vs.length cp0) vs.length (vs.flatMap (rtL peer)) rfl (jQ HRE.out.own (jC B0.out hBel)) ⟨_, 0, none⟩ 1 1 (rtC peer p u).toList rfl rfl hcs (rtL_one peer ⟨p, en.a, u, 0, 0⟩) (by have := VL.out; unfold maxLen; omega) (by have := VL.out; omega) (by have := WB.out; have := B0.out.size; have := hBel.size; omega) ?_; intro v3 w3 h2 h3 hat; obtain ⟨s3, c3, rfl, -⟩ := jV h2; have hk3 : Kept (fun k => Value.ownBlock (.slice s0 vs.length cp0) = some k) w2 w3 := ⟨h3.os, h3.tape, h3.output, h3.size, fun k hk hne => h3.block k hk (fun e => hne e.symm)⟩; refine hK.out _ _ ?_ (fun hHeld => ?_); (· exact hHeld.trans (hk3.imp fun k h => .inr h)); clear hK K
    try simp only [jz]
    refine jr 11 ?_ fun K hK => ?_; (· rfl); (try clear hb); have qab3 := (hk3.block _ (jE qab) NAO.out).trans qab; have cv : _ = some (Value.slice s0 vs.length cp0) := jB qab3 0; have fz := jN qab3 0; go_simp; go_wp2_with fail; refine hK.out _ _ ?_ (fun hHeld => ?_); (· exact hHeld.put _ _ (.inl (.inl rfl))); clear hK K
    try simp only [Act.put]
    refine wpAnyH_done (by kernel_rfl) ?_ _
    have HS := jh (HH.out.step (w1 := w1) (w2 := w2) (w3 := w3) HAB.out HRE.out HMP.out HPX.out HOG.out HPP.out GT.out OKx.out hBel1 (Nat.le_trans B0.out.size hlo) FR.out hb2 h2 hk3 hat)
    clear hHeld hBel qab hBel1 hb2 h2 h3 hk3 hat
    go_wp2_with fail
    go_ret
    exact ⟨rfl, HS.out⟩
   ·(try clear hb); go_simp; refine rt_one_k (peer := peer) (p := p) (v := u) (q := K _) ?_; intro w2 hcs hb2; replace qab := (hb2.block _ (jE qab)).trans qab; replace hBel := jC hBel hb2; refine hK.out _ _ ?_ (fun hHeld => ?_); (· exact hHeld.grow hb2); clear hK K
    try simp only [jz]
    refine jr 0 ?_ fun K hK => ?_; (· rfl); (try clear hb); have cv : _ = some (Value.slice s0 vs.length cp0) := jB qab 0; go_simp; go_wp2_with fail; refine hK.out _ _ ?_ (fun hHeld => ?_); (· exact hHeld); clear hK K
    try simp only [jz]
    refine jr 10 ?_ fun K hK => ?_; (· rfl); (try clear hb); refine wp_append_at _ _ 57 rfl w.heap.size 61 i0 _ 13 152 Tryz.underlying57 hii hz0 hz1 hz2 rfl (by decide) (.slice s0 vs.length cp0) vs.length (vs.flatMap (rtL peer)) rfl (jQ HRE.out.own (jC B0.out hBel)) ⟨_, 0, none⟩ 1 1 (rtC peer p u).toList rfl rfl hcs (rtL_one peer ⟨p, en.a, u, 0, 0⟩) (by have := VL.out; unfold maxLen; omega) (by have := VL.out; omega) (by have := WB.out; have := B0.out.size; have := hBel.size; omega) ?_; intro v3 w3 h2 h3 hat; obtain ⟨s3, c3, rfl, -⟩ := jV h2; have hk3 : Kept (fun k => Value.ownBlock (.slice s0 vs.length cp0) = some k) w2 w3 := ⟨h3.os, h3.tape, h3.output, h3.size, fun k hk hne => h3.block k hk (fun e => hne e.symm)⟩; refine hK.out _ _ ?_ (fun hHeld => ?_); (· exact hHeld.trans (hk3.imp fun k h => .inr h)); clear hK K
    try simp only [jz]
    refine jr 11 ?_ fun K hK => ?_; (· rfl); (try clear hb); have qab3 := (hk3.block _ (jE qab) NAO.out).trans qab; have cv : _ = some (Value.slice s0 vs.length cp0) := jB qab3 0; have fz := jN qab3 0; go_simp; go_wp2_with fail; refine hK.out _ _ ?_ (fun hHeld => ?_); (· exact hHeld.put _ _ (.inl (.inl rfl))); clear hK K
    try simp only [Act.put]
    refine wpAnyH_done (by kernel_rfl) ?_ _
    have HS := jh (HH.out.step (w1 := w1) (w2 := w2) (w3 := w3) HAB.out HRE.out HMP.out HPX.out HOG.out HPP.out GT.out OKx.out hBel1 (Nat.le_trans B0.out.size hlo) FR.out hb2 h2 hk3 hat)
    clear hHeld hBel qab hBel1 hb2 h2 h3 hk3 hat
    go_wp2_with fail
    go_ret
    exact ⟨rfl, HS.out⟩
open Go.RowKit Go.Lib
theorem all_srt (S : List (Nat × AV)) : ((goP S 32 0 0).map itP).Pairwise plt := by
 rw [List.pairwise_map]
 refine (goP_sorted (S := S) 32 0 0 rfl (by decide)).imp fun {x y} h => ?_
 unfold itLt at h
 unfold plt itP
 simp only
 omega
theorem all_mem {E : List Ent} (hE : ∀ e ∈ E, RgtP e.p) (p : Pf) : p ∈ (goP (kvs E) 32 0 0).map itP ↔ (getL (rts E) p).isSome = true := by
 constructor
 ·intro h
  obtain ⟨x, hx, rfl⟩ := List.mem_map.1 h
  have hi := goP_in (S := kvs E) 32 0 0 rfl (by decide) x hx
  have hlt : x.1.1 < 4294967296 := by have := hi.hi; simpa using this
  obtain ⟨e, _, h1, _, h2⟩ := item_ent hE hlt (right_mod.2 ⟨hi.form, hi.le32⟩) hi.at_
  have e1 : itP ((x.1.1, x.1.2), x.2) = itP x := rfl
  rw [e1] at h2
  rw [h2]; rfl
 ·intro h
  obtain ⟨a, ha⟩ := Option.isSome_iff_exists.1 h
  rw [find_rts] at ha
  cases hf : findE E p with
  | none => rw [hf] at ha; cases ha
  | some e =>
   obtain ⟨h1, rfl⟩ := findE_mem hf
   obtain ⟨x, n, hp, hx, hn, hm, hr⟩ := (hE e h1).nat
   have key := find_kvs hE (hE e h1)
   rw [hf] at key
   have hg : getL (kvs E) (keyN x n) = some e.v := by
    have : pKey e.p = keyN x n := by rw [hp]; rfl
    rw [← this]; exact key
   refine List.mem_map.2 ⟨((x, n), e.v), goP_mem hm hn hg 32 0 0 rfl (by decide) (Nat.zero_le _) (Nat.zero_le _) (by simpa using hx), ?_⟩
   rw [hp]; rfl
theorem ln_0 : Ln 32 ([] : List Itm) := by unfold Ln; simp
def AllPost (peer : Int) (R : Rts) (w : World) (e : Ending) (w' : World) : Prop := ∃ v vs, e = .returned v ∧ REs w' w.heap.size peer R v vs ∧ (vs.map (·.p)).Pairwise plt ∧ (∀ p, p ∈ vs.map (·.p) ↔ (getL R p).isSome = true) ∧ Below w.heap.size w w'
theorem each_all {w : World} {rb tb : Nat} {N : Nat → Option Nat} {E : List Ent} {peer own most : Int} {F : Nat → Prop} {ab rx : Nat} :
  EachOkN tb N (kvs E) most 117 #[.pointer (some ⟨ab, 0, none⟩), .pointer (some ⟨rx, 0, none⟩)] (fun _ => true) (AI w rb tb N E peer own most F ab rx) where
 ent := enters_of Tryz.func117 (by kernel_rfl) rfl
 stab P P' L W W' h hb hP := h.stab hb hP
 tri P L W h := h.rib.tri
 call P L W A i v h hA hR hg hl := all1_call P L W A i v h hA hR hg hl
set_option maxHeartbeats 3200000 in
set_option maxRecDepth 100000 in
theorem ad_All_in {rb tb : Nat} {N : Nat → Option Nat} {E : List Ent} {peer own most : Int} {F : Nat → Prop} (w : World) (h : RibIn w rb tb N E peer own most F) (hF : ∀ k, F k → k < w.heap.size) :
  Calls Tryz.prog 66 #[.pointer (some ⟨rb, 0, none⟩)] w (AllPost peer (rts E) w) := by
 have HH := jh h
 have HFL := jh hF
 clear h hF
 go_enter Tryz.func66, Tryz.ntmps66
 go_upto_region 4 with (fail)
 obtain ⟨W0, hW0, qr, qs, hB⟩ := boxTwo w #[.pointer (some ⟨rb, 0, none⟩)] 93 #[.slice none 0 0] 57
 rw [← hW0]
 clear hW0
 have rx0 : W0.cell? ⟨w.heap.size, 0, none⟩ = some (.pointer (some ⟨rb, 0, none⟩)) := jB qr 0
 have r3 := jA HH.out.cells.2.2.2 hB
 have I0 : Hid (AI w rb tb N E peer own most F (w.heap.size + 1) w.heap.size (fun _ => False) [] W0) := jh
  ⟨hB, HH.out.below hB, rx0, ⟨Nat.le_succ _, by omega⟩, HFL.out, ⟨_, [], qs, ⟨⟨rfl, .inl ⟨rfl, rfl⟩⟩, by simp, by simp, by simp⟩, rfl, by simp, by intro g hg; cases hg⟩, fun h => h, Nat.le_refl _, fun b hb => hb.elim⟩
 have AT := jh (trI_AllN each_all [] (fun _ => False) W0 I0.out ln_0)
 rw [runL_all _ (fun _ => rfl)] at AT
 clear qr qs
 go_wp2_with fail
 refine AT.out.mono ?_
 rintro e w1 ⟨rfl, I1, -⟩
 obtain ⟨v, vs, h1, h2, h3, -, -⟩ := I1.sl
 obtain ⟨s1, c1, hv, -⟩ := jV h2.own
 subst hv
 have cv : w1.cell? ⟨w.heap.size + 1, 0, none⟩ = some (.slice s1 vs.length c1) := jB h1 0
 simp only [List.nil_append] at h3
 have FIN : Hid (AllPost peer (rts E) w (.returned (.slice s1 vs.length c1)) w1) := jh ⟨_, vs, rfl, h2, by rw [h3]; exact all_srt _, fun p => by rw [h3]; exact all_mem HH.out.rgt p, I1.bel⟩
 clear h1 h2 h3 I1 AT rx0 r3 hB
 go_wp2_with fail
 go_ret
 exact FIN.out
theorem ad_All {rb : Nat} {peer own most : Int} {R : Rts} {F : Nat → Prop} (w : World) (h : RibAt w rb peer own most R F) : Calls Tryz.prog 66 #[.pointer (some ⟨rb, 0, none⟩)] w (AllPost peer R w) := by
 obtain ⟨tb, N, E, hI, rfl⟩ := h
 obtain ⟨tb', hx⟩ : ∃ G : Nat → Prop, RibIn w rb tb N E peer own most G ∧ ∀ k, G k → k < w.heap.size := ⟨fun k => k = rb ∨ TOwn tb N k ∨ ∃ e ∈ E, e.lo ≤ k ∧ k < e.hi,
  ⟨hI.row, hI.tri, hI.rgt, hI.szs, hI.ent, .inl rfl, fun b hb => .inr (.inl hb), fun e he k h1 h2 => .inr (.inr ⟨e, he, h1, h2⟩), hI.apr, hI.apn, hI.most0, hI.most1, hI.room⟩, by
   rintro k (rfl | hk | ⟨e, he, h1, h2⟩)
   ·exact jE hI.row
   ·exact hI.tri.own_lt hk
   ·exact Nat.lt_of_lt_of_le h2 (hI.ent e he).1⟩
 exact ad_All_in w hx.1 hx.2
open Go.RowKit Go.Lib
structure CI (w : World) (rb tb : Nat) (N : Nat → Option Nat) (E : List Ent) (peer own most : Int) (F : Nat → Prop) (ab : Nat) (P : Nat → Prop) (L : List Itm) (W : World) : Prop where
 bel : Below w.heap.size w W
 rib : RibIn W rb tb N E peer own most F
 lo : w.heap.size ≤ ab
 flt : ∀ k, F k → k < w.heap.size
 sl : ∃ v, W.heap[ab]? = some (.cells #[v] 23 (0, 0)) ∧ OwnPs W w.heap.size v (L.map itP) ∧ (∀ g, v.ownBlock = some g → ¬ P g ∧ g ≠ ab)
 pab : ¬ P ab
 plt : ∀ b, P b → b < W.heap.size
section
variable {w W W' : World} {rb tb : Nat} {N : Nat → Option Nat} {E : List Ent} {peer own most : Int} {F P : Nat → Prop} {ab : Nat} {L : List Itm}
theorem CI.stab {P' : Nat → Prop} (h : CI w rb tb N E peer own most F ab P L W) (hb : Below W.heap.size W W') (hP : ∀ b, P' b → P b ∨ (W.heap.size ≤ b ∧ b < W'.heap.size)) : CI w rb tb N E peer own most F ab P' L W' := by
 obtain ⟨v, h1, h2, h3⟩ := h.sl
 refine ⟨jC h.bel hb, h.rib.below hb, h.lo, h.flt, ⟨v, (hb.block _ (jE h1)).trans h1, h2.below hb, fun g hg => ⟨fun hp => ?_, (h3 g hg).2⟩⟩, fun hp => ?_, fun b hp => ?_⟩
 ·rcases hP g hp with hp | hp
  ·exact (h3 g hg).1 hp
  ·have := own_lt h2.1 g hg; omega
 ·rcases hP ab hp with hp | hp
  ·exact h.pab hp
  ·have := jE h1; omega
 ·rcases hP b hp with hp | hp
  ·exact Nat.lt_of_lt_of_le (h.plt b hp) hb.size
  ·exact hp.2
theorem CI.step {w2 w3 : World} {v0 v3 : Value} {it : Itm} (h : CI w rb tb N E peer own most F ab P L W) (hab : W.heap[ab]? = some (.cells #[v0] 23 (0, 0))) (hre : OwnPs W w.heap.size v0 (L.map itP)) (hog : ∀ g, v0.ownBlock = some g → ¬ P g ∧ g ≠ ab)
  (b02 : Below W.heap.size W w2) (h2 : OwnPs w3 w.heap.size v3 ((L ++ [it]).map itP)) (hk3 : Kept (fun k => v0.ownBlock = some k) w2 w3) (hat : v3.ownBlock = v0.ownBlock ∨ v3.ownBlock = some w2.heap.size) :
  CI w rb tb N E peer own most F ab P (L ++ [it]) (w3.setCell ⟨ab, 0, none⟩ v3) ∧ Kept (fun b => ¬ P b) W (w3.setCell ⟨ab, 0, none⟩ v3) := by
 have hablt := jE hab
 have o0 := own_lt hre.1
 have o1 := jJ hre.1
 have s2 := b02.size
 have ws := h.bel.size
 have Kt : Kept (fun k => k = ab ∨ v0.ownBlock = some k) W (w3.setCell ⟨ab, 0, none⟩ v3) := (((Kept.of_below b02).trans (hk3.imp fun k hk => .inr hk)).put _ _ (.inl (.inl rfl)))
 have n3 : ∀ g, v3.ownBlock = some g → (v0.ownBlock = some g) ∨ g = w2.heap.size := fun g hg => by
  rcases hat with e | e
  ·exact .inl (e ▸ hg)
  ·rw [e] at hg; exact .inr (Option.some.inj hg).symm
 have n3ab : ∀ g, v3.ownBlock = some g → g ≠ ab := fun g hg e => by
  rcases n3 g hg with h1 | h1
  ·exact (hog g h1).2 e
  ·omega
 have hrow : w3.heap[ab]? = some (.cells #[v0] 23 (0, 0)) := (hk3.block ab (by omega) (fun h => (hog ab h).2 rfl)).trans ((b02.block ab hablt).trans hab)
 refine ⟨⟨h.bel.trans (Kt.below ws fun k hk => ?_), h.rib.kept Kt fun k hl hF hG => ?_, h.lo, h.flt, ⟨v3, ?_, h2.kept (Kept.setCell (F := fun k => k = ab) _ _ rfl) (fun g hg e => n3ab g hg e), ?_⟩, h.pab, fun b hb => Nat.lt_of_lt_of_le (h.plt b hb) Kt.size⟩, Kt.imp fun k hk hp => ?_⟩
 ·rcases hk with rfl | hk
  ·exact h.lo
  ·exact o1 k hk
 ·have := h.flt k hF
  have := h.lo
  rcases hG with rfl | hG
  ·omega
  ·have := o1 k hG; omega
 ·rw [jO hrow]; rfl
 ·intro g hg
  rcases n3 g hg with h1 | h1
  ·exact hog g h1
  ·subst h1
   exact ⟨fun hp => by have := h.plt _ hp; omega, by omega⟩
 ·rcases hk with rfl | hk
  ·exact h.pab hp
  ·exact (hog k hk).1 hp
end
open Go.RowKit Go.Lib
open Go.RowKit
theorem rts_right {W : World} {rb : Nat} {peer own most : Int} {R : Rts} {F : Nat → Prop} (h : RibAt W rb peer own most R F) {p : Pf} (hp : (getL R p).isSome = true) : RgtP p := by
 obtain ⟨tb, N, E, hI, rfl⟩ := h
 obtain ⟨a, ha⟩ := Option.isSome_iff_exists.1 hp
 rw [find_rts] at ha
 cases hf : findE E p with
 | none => rw [hf] at ha; cases ha
 | some e =>
  obtain ⟨h1, rfl⟩ := findE_mem hf
  exact hI.rgt e h1
section
variable {W : World} {rho : Nat → Role} {sb fb : Nat} {ls : List Pl} {S : Sv}
end
open Go.RowKit
section
variable {W : World} {rho : Nat → Role} {sb fb : Nat} {ls : List Pl} {S : Sv}
end
open Go.RowKit
section
variable {α : Type} {T : TypeId} {k : Nat} {C : α → List Value} {M : α → World → Prop}
structure OwnR (T : TypeId) (k : Nat) (C : α → List Value) (M : α → World → Prop) (w : World) (B : Nat) (v : Value) (xs : List α) (A : Nat → Prop) : Prop where
 own : w.ownsRow B T k v xs.length (xs.flatMap C)
 mem : On A w (fun W => ∀ x ∈ xs, M x W)
 lt : ∀ k, A k → B ≤ k ∧ k < w.heap.size
 apt : ∀ g, v.ownBlock = some g → ¬ A g
variable {w w1 w2 w3 : World} {B : Nat} {v : Value} {xs : List α} {A : Nat → Prop}
theorem OwnR.below (h : OwnR T k C M w B v xs A) (hb : Below w.heap.size w w1) : OwnR T k C M w1 B v xs A :=
 ⟨jQ h.own hb, h.mem.below hb, fun k hk => ⟨(h.lt k hk).1, Nat.lt_of_lt_of_le (h.lt k hk).2 hb.size⟩, h.apt⟩
theorem OwnR.kept {G : Nat → Prop} (h : OwnR T k C M w B v xs A) (hk : Kept G w w1) (h1 : ∀ g, v.ownBlock = some g → ¬ G g) (h2 : ∀ g, A g → ¬ G g) : OwnR T k C M w1 B v xs A :=
 ⟨((own_on h.own).kept hk fun g _ hg => h1 g hg).self, h.mem.kept hk fun g _ hg => h2 g hg, fun k hk' => ⟨(h.lt k hk').1, Nat.lt_of_lt_of_le (h.lt k hk').2 hk.size⟩, h.apt⟩
theorem OwnR.nil (w : World) (B : Nat) : OwnR T k C M w B (.slice none 0 0) [] (fun _ => False) :=
 ⟨⟨by simp, .inl ⟨rfl, rfl⟩⟩, fun _ _ x hx => (by cases hx), fun _ h => h.elim, fun _ h => (by cases h)⟩
theorem OwnR.base {B' : Nat} (h : OwnR T k C M w B v xs A) (hb : B' ≤ B) : OwnR T k C M w B' v xs A := ⟨own_base h.own hb, h.mem, fun k hk => ⟨Nat.le_trans hb (h.lt k hk).1, (h.lt k hk).2⟩, h.apt⟩
theorem OwnR.fresh (hC : ∀ x, (C x).length = k) (h : OwnR T k C M w B v xs A) : Fresh B w (fun W => SlAt W k (fun x cs => cs = C x) v xs ∧ ∀ x ∈ xs, M x W) :=
 ((own_fresh h.own).imp fun _ hW => own_slat hC hW).and (h.mem.wide fun k hk _ => (h.lt k hk).1)
theorem OwnR.step (h : OwnR T k C M w B v xs A) {x : α} {v' : Value} {lo : Nat} (b01 : Below w.heap.size w w1) (hlo : w.heap.size ≤ lo) (hB : B ≤ w.heap.size) (fr : Fresh lo w1 (M x)) (b12 : Below w1.heap.size w1 w2)
  (h2 : w3.ownsRow B T k v' (xs.length + 1) (xs.flatMap C ++ C x)) (hk : Kept (fun b => v.ownBlock = some b) w2 w3) (hat : v'.ownBlock = v.ownBlock ∨ v'.ownBlock = some w2.heap.size) : OwnR T k C M w3 B v' (xs ++ [x]) (fun k => A k ∨ (lo ≤ k ∧ k < w1.heap.size)) := by
 have ol := own_lt h.own
 have s1 := b01.size
 have s2 := b12.size
 have s3 := hk.size
 refine ⟨?_, ?_, ?_, ?_⟩
 ·rw [List.length_append, List.flatMap_append]
  simpa using h2
 ·have m1 := ((h.mem.below (b01.trans (b12.mono s1))).kept hk fun k _ hA hg => h.apt k hg hA)
  refine ((m1.wide (G := fun k => A k ∨ (lo ≤ k ∧ k < w1.heap.size)) fun k hA _ => .inl hA).and (R := M x) ?_).imp fun W h y hy => ?_
  ·intro W hW
   refine fr W fun k hk' hl => ?_
   have e1 := hW k (.inr ⟨hk', hl⟩) (by omega)
   exact e1.trans ((hk.block k (by omega) (fun hg => by have := ol k hg; omega)).trans (b12.block k hl))
  ·rcases List.mem_append.1 hy with hy | hy
   ·exact h.1 y hy
   ·simp at hy; subst hy; exact h.2
 ·rintro k (hk' | hk')
  ·have := h.lt k hk'; omega
  ·omega
 ·rintro g hg (hA | hA)
  ·rcases hat with e | e
   ·rw [e] at hg; exact h.apt g hg hA
   ·rw [e] at hg; injection hg with hg; have := (h.lt g hA).2; omega
  ·rcases hat with e | e
   ·rw [e] at hg; have := ol g hg; omega
   ·rw [e] at hg; injection hg with hg; omega
end
structure BE where
 peer : Int
 p : Pf
 a : At
 v : AV
instance : Inhabited BE := ⟨⟨0, (0, 0), ⟨0, 0, [], 0, 0, 0, 0, 0, [], []⟩, av0⟩⟩
def beL (x : BE) : List Value := (rtC x.peer x.p x.v).toList
theorem beL_len (x : BE) : (beL x).length = 13 := rfl
theorem beL_one (x : BE) : ∀ u ∈ beL x, u.oneCell' = true := by
 intro u hu
 have := rt_one x.peer x.p x.v
 rw [Array.all_eq_true_iff_forall_mem] at this
 exact this u (by simpa [beL] using hu)
abbrev OwnBs := OwnR 61 13 beL (fun x W => AvU W x.a x.v)
def becmp (x y : BE) : Int := pcmp x.p y.p
theorem ltOf_be (x y : BE) : Go.Proofs.ltOf becmp x y = decide (plt x.p y.p) := ltOf_pcmp x.p y.p
theorem swo_be : Sort.SWO (Go.Proofs.ltOf becmp) where
 irrefl x := swo_pcmp.irrefl x.p
 trans x y z := swo_pcmp.trans x.p y.p z.p
 ntrans x y z := swo_pcmp.ntrans x.p y.p z.p
set_option maxHeartbeats 1600000 in
set_option maxRecDepth 100000 in
theorem be_cmp (x y : BE) (w : World) : Calls Tryz.prog 69 #[.agg (beL x).toArray, .agg (beL y).toArray] w fun e w' => e = .returned (.int .i64 (becmp x y)) ∧ Dr w w' := by
 show Calls Tryz.prog 69 #[.agg (rtC x.peer x.p x.v), .agg (rtC y.peer y.p y.v)] w fun e w' => e = .returned (.int .i64 (pcmp x.p y.p)) ∧ Dr w w'
 have CP := jh (fun W => ip_CmpD x.p.1 x.p.2 y.p.1 y.p.2 W)
 go_enter Tryz.func69, Tryz.ntmps69
 go_upto_region 1 with (fail)
 obtain ⟨W0, hW0, q0, q1, -⟩ := boxTwo w (rtC x.peer x.p x.v) 61 (rtC y.peer y.p y.v) 61
 have D : Hid (Dr w W0) := jh (by rw [hW0]; exact ((Dr.refl w).alloc _).alloc _)
 rw [← hW0]
 clear hW0
 have c0 : W0.cell? ⟨w.heap.size, 1, none⟩ = some (.int .u32 x.p.1) := jB q0 1
 have c1 : W0.cell? ⟨w.heap.size, 2, none⟩ = some (.int .i64 x.p.2) := jB q0 2
 have c2 : W0.cell? ⟨w.heap.size + 1, 1, none⟩ = some (.int .u32 y.p.1) := jB q1 1
 have c3 : W0.cell? ⟨w.heap.size + 1, 2, none⟩ = some (.int .i64 y.p.2) := jB q1 2
 clear q0 q1
 go_wp2_with fail
 refine (CP.out W0).mono ?_
 rintro e w1 ⟨rfl, hd⟩
 have D1 := jh (D.out.on hd)
 clear hd CP D
 go_wp2_with fail
 go_ret
 exact ⟨rfl, D1.out⟩
theorem cmp_laysB (blk off size : Nat) (w : World) : CmpLays Tryz.prog 69 #[] beL 13 becmp blk off size w := by
 intro m os dk _ x y
 exact (be_cmp x y _).mono fun e w' ⟨he, hd⟩ => ⟨he, hd.grow⟩
theorem flatK_be (xs : List BE) : Sort.flatK beL 13 xs.toArray = (xs.flatMap beL).toArray := by
 apply Sort.ext_get!
 ·rw [Sort.size_flatK]
  simp [jX beL_len]
 ·intro t ht
  rw [Sort.size_flatK] at ht
  have ht' : t < xs.length * 13 := by simpa using ht
  rw [Sort.get_flatK _ _ _ _ ht]
  have hi : t / 13 < xs.length := by omega
  have hf := flat_get beL_len xs (t / 13) _ (List.getElem?_eq_getElem hi) (t % 13) (by omega)
  rw [show t / 13 * 13 + t % 13 = t by omega] at hf
  have h1 : xs.toArray[t / 13]! = xs[t / 13] := by simp [hi]
  rw [h1]
  have hl : (xs.flatMap beL).length = xs.length * 13 := jX beL_len xs
  have hm : t % 13 < (beL xs[t / 13]).length := by rw [beL_len]; omega
  rw [List.getElem?_eq_getElem hm, List.getElem?_eq_getElem (by rw [hl]; exact ht')] at hf
  have hf := Option.some.inj hf
  rw [getElem!_pos (xs.flatMap beL).toArray t (by simpa [hl] using ht'), getElem!_pos (beL xs[t / 13]) (t % 13) hm]
  simpa using hf.symm
theorem isAgg_rt : ∀ w, (isAgg 61).run Tryz.prog w = .ok true w := Tryz.isAgg61
theorem sizeOf_rt : ∀ w, (Go.sizeOf 61).run Tryz.prog w = .ok 13 w := Tryz.sizeOf61
theorem own_cur {w : World} {B k n : Nat} {e : TypeId} {v : Value} {xs : List Value} (h : w.ownsRow B e k v n xs) : (v = .slice none 0 0 ∧ n = 0) ∨ ∃ g c cur, v = .slice (some ⟨g, 0, none⟩) n c ∧ w.heap[g]? = some (.cells cur e (0, 0)) ∧ cur.size = c * k ∧ cur.toList.take (n * k) = xs ∧ n ≤ c := by
 obtain ⟨_, ⟨rfl, h0⟩ | ⟨g, cap, cur, rfl, _, hg, hn, _, hs, hc⟩⟩ := h
 ·exact .inl ⟨rfl, h0⟩
 ·exact .inr ⟨g, cap, cur, rfl, hg, hs, hc, hn⟩
theorem be_Sort (lo : Nat) (v : Value) (L : List BE) (w : World) (h : w.ownsRow lo 61 13 v L.length (L.flatMap beL)) (hn : L.length ≤ 8589934592) :
  Calls Tryz.prog 68 #[v, .func (.func 69) #[] #[]] w fun e w' => ∃ L' : List BE, e = .returned (.tuple #[]) ∧ L'.Perm L ∧ L'.Pairwise (fun x y => ¬ plt y.p x.p) ∧ w'.ownsRow lo 61 13 v L'.length (L'.flatMap beL) ∧ Kept (fun b => v.ownBlock = some b) w w' := by
 rcases own_cur h with ⟨rfl, h0⟩ | ⟨g, c, cur, rfl, hg, hsz, htk, hnc⟩
 ·obtain rfl := List.length_eq_zero_iff.1 h0
  refine (AnyF.slices_SortFunc_none Tryz.sortR none 0 _ w).mono ?_
  rintro e w' ⟨rfl, rfl⟩
  exact ⟨[], rfl, List.Perm.refl _, List.Pairwise.nil, h, Kept.refl _ _⟩
 ·have eg : ∀ args w, (callFunc 69 args).run Tryz.prog w = .ok (.enter 69 args) w := enters_of Tryz.func69 (by kernel_rfl) rfl
  have hH : Sort.HoldsK beL 13 w g 0 L.toArray := by
   unfold Sort.HoldsK
   rw [flatK_be]
   intro j hj
   rw [List.size_toArray, jX beL_len] at hj
   have hl : (L.flatMap beL)[j]? = cur[j]? := by
    rw [← htk, List.getElem?_take_of_lt hj, Array.getElem?_toList]
   rw [Nat.zero_add]
   refine ⟨?_, jN hg j⟩
   rw [jB hg, ← hl, List.getElem?_eq_getElem (by rw [jX beL_len]; exact hj)]
   rw [getElem!_pos _ _ (by simpa [jX beL_len] using hj)]
   simp
  have hcon := AnyQ.slices_SortFunc Tryz.sortR 13 isAgg_rt sizeOf_rt beL beL_len beL_one becmp swo_be 69 #[] g 0 c L.toArray w eg (cmp_laysB g 0 L.toArray.size w) hH (jE hg) (by simp; omega)
  rw [List.size_toArray] at hcon
  refine hcon.mono ?_
  rintro e w' ⟨rfl, d', n, os, ⟨hp1, -, hp3⟩, hso, rfl⟩
  have hlen : d'.size = L.length := by rw [hp1]; simp
  have hperm : d'.toList.Perm L := by
   have e1 : d'.extract 0 L.length = d' := by rw [← hlen]; simp
   have e2 : L.toArray.extract 0 L.length = L.toArray := by simp
   rw [e1, e2] at hp3
   simpa using hp3
  have hsort : d'.toList.Pairwise (fun x y => ¬ plt y.p x.p) := by
   rw [List.pairwise_iff_getElem]
   intro i j hi hj hij
   have := hso i j (Nat.zero_le _) hij (by simpa [hlen] using hj)
   rw [ltOf_be] at this
   simp only [Array.length_toList] at hi hj
   rw [getElem!_pos d' j hj, getElem!_pos d' i hi] at this
   simpa using this
  have hl3 : d'.toList.length = L.length := Array.length_toList.trans hlen
  have hp := own_put h (ys := d'.toList.flatMap beL) (by rw [jX beL_len, hl3]) n os
  refine ⟨d'.toList, rfl, hperm, hsort, ?_, ?_⟩
  ·rw [hl3]
   unfold Go.Proofs.sortWorldK Sort.putRowK
   have : Sort.flatK beL 13 d' = (d'.toList.flatMap beL).toArray := by rw [← flatK_be]
   rw [this]
   exact hp.1
  ·unfold Go.Proofs.sortWorldK Sort.putRowK
   have : Sort.flatK beL 13 d' = (d'.toList.flatMap beL).toArray := by rw [← flatK_be]
   rw [this]
   exact hp.2.imp fun b hb => by rw [hb]; rfl
open Go.RowKit
theorem info_rtB : (Tryz.prog.info? 61).map (fun i => (i.zero, i.size, i.bytes)) = some (some (.agg #[.int .i64 0, .int .u32 0, .int .i64 0, .int .i64 0, .int .i64 0, .slice none 0 0, .int .u32 0, .int .i64 0, .int .i64 0, .int .i64 0, .int .u32 0, .slice none 0 0, .slice none 0 0]), 13, 152) := by kernel_rfl
theorem wpList_rt1 {ops : Array Oper} {rest : List Oper} {o : Oper} {a : Act} {w : World} {Q : Exit → Act → World → Prop} (x : Operand) (hg : o.guard = none) (ho : o.op = .buildSlice 57 1 #[(0, x)]) (peer : Int) (p : Pf) (v : AV) (hx : a.eval x = .agg (rtC peer p v))
  (h : ∀ w2 : World, (∀ (j : Nat) (u : Value), ((rtC peer p v).toList)[j]? = some u → w2.cell? ((⟨w.heap.size, 0, none⟩ : Addr).add j) = some u) → Below w.heap.size w w2 → w2.heap.size = w.heap.size + 1 → wpList Tryz.prog ops Q rest (a.put o.dst (.slice (some ⟨w.heap.size, 0, none⟩) 1 1)) w2) : wpList Tryz.prog ops Q (o :: rest) a w := by
 obtain ⟨i0, hii, hz0, hz1, hz2⟩ := info_parts info_rtB
 refine wpList_buildSlice hg 57 61 1 _ ho (rtC peer p v) i0 _ Tryz.underlying57 hii hz0 (by rw [hz1]; decide) (by rw [hz1]; decide) ?_ (h _ (new_cells w _ _) ((Below.refl _ _).alloc (Nat.le_refl _) _) (by simp))
 rw [hz1]
 simp only [List.map_toArray, List.map_cons, List.map_nil, hx]
 kernel_rfl
def BestsPost (best : Pf → Option (Int × At)) (W : World) (e : Ending) (w' : World) : Prop :=
 ∃ (s : Option Addr) (c : Nat) (L : List BE) (A : Nat → Prop), e = .returned (.slice s L.length c) ∧ OwnBs w' W.heap.size (.slice s L.length c) L A ∧ (L.map (·.p)).Pairwise plt ∧ (∀ x ∈ L, best x.p = some (x.peer, x.a) ∧ RgtP x.p ∧ GoodA x.a) ∧ (∀ p b, best p = some b → p ∈ L.map (·.p)) ∧ Below W.heap.size W w'
section
variable {W : World} {rho : Nat → Role} {sb fb : Nat} {ls : List Pl} {S : Sv}
set_option maxRecDepth 100000 in
theorem sv_Bests_no (h : SrvM W rho sb fb ls S) {n : Int} (hn : ¬ (0 ≤ n ∧ n < (S.ms.length : Int))) : Calls Tryz.prog 25 #[.pointer (some ⟨sb, 0, none⟩), .int .i64 n] W fun e w' => e = .returned (.slice none 0 0) ∧ W = w' := by
 have MB := jh (sv_member_no h hn)
 clear h hn
 go_enter Tryz.func25, Tryz.ntmps25
 go_wp2_with fail
 refine MB.out.mono ?_
 rintro e w1 ⟨rfl, rfl⟩
 go_wp2_with fail
 go_ret
 exact ⟨rfl, rfl⟩
set_option maxHeartbeats 6400000 in
set_option maxRecDepth 100000 in
theorem sv_Bests (h : SrvM W rho sb fb ls S) {i : Nat} {m : Pm} (hm : S.ms[i]? = some m) : Calls Tryz.prog 25 #[.pointer (some ⟨sb, 0, none⟩), .int .i64 i] W (BestsPost (S.best i) W) := by
 obtain ⟨l, hl, hM⟩ := h.get hm
 have MB := jh (sv_member h hl)
 have m4 : W.cell? ⟨l.mb, 4, none⟩ = some (.map (some l.bb)) := jB hM.row 4
 obtain ⟨N, hN⟩ := hM.bests
 obtain ⟨w3, hr, hR, hB, hz⟩ := hN.map.range Tryz.underlying64
 obtain ⟨rb, hrb⟩ : ∃ rb, rb = W.heap.size := ⟨_, rfl⟩
 rw [← hrb] at hr hR
 have RBW : Hid (W.heap.size ≤ rb) := jh (by omega)
 have HR := jh hR
 have HN := jh hN
 have FEW := jh (rgt_few hN.map.apart fun x hx => (hN.val x hx).2.1)
 have LBB : Hid (l.bb < W.heap.size) := jh hN.map.lt
 have B0 := jh hB
 have O0 : Hid (OwnBs w3 W.heap.size (.slice none 0 0) [] (fun _ => False)) := jh (OwnR.nil w3 W.heap.size)
 obtain ⟨i0, hii, hz0, hz1, hz2⟩ := info_parts info_rtB
 clear h hm hl hM hN hR hB hz hrb
 go_enter Tryz.func25, Tryz.ntmps25
 go_wp2_with fail
 refine MB.out.mono ?_
 rintro e w1 ⟨rfl, rfl⟩
 go_wp2_with fail
 clear hr m4
 go_loopw [6] (fun t6 wr => ∃ (left : List (Pf × BV)) (s : Option Addr) (c : Nat) (xs : List BE) (A : Nat → Prop), t6 = .slice s xs.length c ∧ Hid ((xs.map (·.p) ++ left.map (·.1)).Perm (N.map (·.1))) ∧ Hid (OwnBs wr W.heap.size (.slice s xs.length c) xs A) ∧ Hid (∀ x ∈ xs, S.best i x.p = some (x.peer, x.a) ∧ RgtP x.p ∧ GoodA x.a) ∧ Hid (Below W.heap.size W wr) ∧ Hid (RangeT pfV bvV KOk wr l.bb rb N left) ∧ Hid (∀ g, (Value.slice s xs.length c).ownBlock = some g → g ≠ rb) ∧ Hid (∀ k, A k → k ≠ rb)) (fun _ wr => wr.rangeLeft l.bb rb)
 case atStart => exact ⟨N, none, 0, [], _, rfl, jh (List.Perm.refl _), O0, jh (fun x hx => by cases hx), B0, HR, jh (fun g hg => by cases hg), jh (fun k hk => hk.elim)⟩
 case round =>
  clear B0 HR O0
  obtain ⟨left, s, c, xs, A, rfl, PM, OP, XV, BV, RT, NE, NEA⟩ := hrel
  have XL : Hid (xs.length ≤ 2 ^ 33) := jh (by
   have h1 := PM.out.length_eq
   have h2 := FEW.out
   simp at h1
   omega)
  rcases RT.out.next (P := Tryz.prog) 0 with ⟨rfl, hn⟩ | ⟨k, q, w4, hi, hq, hn, hR1, hk1, hz1, hen⟩
  ·have hn' : ∀ ty, (Instr.next (.pointer (some ⟨rb, 0, none⟩)) false ty).run Tryz.prog wr = .ok (.tuple #[.bool false]) wr := fun _ => hn
   clear hn
   have XP : Hid ((xs.map (·.p)).Perm (N.map (·.1))) := jh (by have := PM.out; simpa using this)
   have SO := jh (be_Sort W.heap.size (.slice s xs.length c) xs wr OP.out.own (by have := XL.out; omega))
   clear RT PM NE
   go_wp2_with fail
   refine SO.out.mono ?_
   rintro e w5 ⟨ys, rfl, yp, ys1, yo, yk⟩
   have yl := yp.length_eq
   have FIN : Hid (BestsPost (S.best i) W (.returned (.slice s xs.length c)) w5) := jh (by
    refine ⟨s, c, ys, A, by rw [yl], ⟨?_, ?_, ?_, ?_⟩, ?_, fun x hx => XV.out x (yp.mem_iff.1 hx), fun p b hb => ?_, ?_⟩
    ·rw [yl]; rw [yl] at yo; exact yo
    ·exact (OP.out.mem.kept yk fun g _ hA hg => OP.out.apt g hg hA).imp fun V hV x hx => hV x (yp.mem_iff.1 hx)
    ·exact fun k hk => ⟨(OP.out.lt k hk).1, Nat.lt_of_lt_of_le (OP.out.lt k hk).2 yk.size⟩
    ·rw [yl]; exact OP.out.apt
    ·refine srt_strict ?_ ?_
     ·rw [List.pairwise_map]; exact ys1
     ·exact ((yp.map (·.p)).nodup_iff).2 ((XP.out.nodup_iff).2 (keysU_nodup HN.out.map.apart))
    ·have h1 : (getL N p).isSome = true := by
      have := HN.out.get p
      rw [hb] at this
      cases hg : getL N p with
      | none => rw [hg] at this; cases this
      | some x => rfl
     have h2 := (keysU_mem HN.out.map.apart p).2 h1
     exact ((yp.map (·.p)).mem_iff).2 (XP.out.mem_iff.2 h2)
    ·exact BV.out.trans (yk.below BV.out.size fun g hg => jJ OP.out.own g hg))
   clear yp ys1 yo yk yl SO
   go_wp2_with fail
   go_ret
   exact FIN.out
  ·have hrl := jh RT.out.left_eq
   have hle : Hid ((left.eraseIdx k).length + 1 = left.length) := jh (by
    have := (List.getElem?_eq_some_iff.1 hi).1
    rw [List.length_eraseIdx_of_lt this]; omega)
   have PM2 : Hid (((xs.map (·.p) ++ [q.1]) ++ (left.eraseIdx k).map (·.1)).Perm (N.map (·.1))) := jh (by
    refine List.Perm.trans ?_ PM.out
    rw [List.append_assoc]
    exact List.Perm.append_left _ (by simpa using (erase_perm hi).map Prod.fst))
   have VL := jh (HN.out.val q hq)
   have QB : Hid (S.best i q.1 = some (q.2.peer, q.2.a)) := jh (by rw [← HN.out.get q.1, getL_of_mem HN.out.map.apart (a := q.1) (v := q.2) hq]; rfl)
   have BV4 : Hid (Below W.heap.size W w4) := jh (BV.out.trans (hk1.below BV.out.size (by rintro k rfl; exact RBW.out)))
   have O4 := jh (OP.out.kept hk1 (fun g hg e => NE.out g hg e) (fun k hA e => NEA.out k hA e))
   have RT4 := jh hR1
   have XL2 : Hid (xs.length + 1 ≤ 2 ^ 33) := jh (by
    have h1 := PM2.out.length_eq
    have h2 := FEW.out
    simp at h1
    omega)
   clear hi hq hk1 hz1 BV OP PM hR1 XL RT
   obtain ⟨⟨p1, p2⟩, ⟨bp, bn, ba, bav⟩⟩ := q
   obtain rfl : bn = (p1, p2) := VL.out.1
   have AV0 := jh ((VL.out.2.2.2.below BV4.out).self.at)
   have hn' : ∀ ty, (Instr.next (.pointer (some ⟨rb, 0, none⟩)) false ty).run Tryz.prog wr = .ok (.tuple #[.bool true, .agg #[.int .u32 p1, .int .i64 p2], .agg (rtC bp (p1, p2) bav)]) w4 := fun _ => hn
   have he' : (Instr.entry (.pointer (some ⟨rb, 0, none⟩))).run Tryz.prog w4 = .ok (.tuple #[.agg #[.int .u32 p1, .int .i64 p2], .agg (rtC bp (p1, p2) bav)]) w4 := hen
   clear hn hen
   go_upto_region 7 with (fail)
   clear hn'
   go_wp2_with ((with_reducible refine jM (X := .store 61 (.tmp 8) (.tmp 22)) ?_ ?_); (· rfl))
   unfold Halt
   refine st_fresh rfl 61 (.tmp 8) (.tmp 22) rfl rfl _ (rtC bp (p1, p2) bav) rfl sz_rt rfl (rt_one _ _ _) ?_
   obtain ⟨w5, hw5, q5, hb5, -⟩ := box1 w4 (rtC bp (p1, p2) bav) 61
   rw [← hw5]
   obtain ⟨b8, hb8⟩ : ∃ b, b = w4.heap.size := ⟨_, rfl⟩
   rw [← hb8] at q5 ⊢
   have Q5 := jh q5
   have BV5 := jh (jC BV4.out hb5)
   have O5 := jh (O4.out.below hb5)
   have RT5 := jh (RT4.out.below hb5)
   have CL := jh (sv_clone bp (p1, p2) ba bav w5 (AV0.out.below hb5) VL.out.2.2.1.sz)
   clear hw5 q5 hb5 hb8 he' O4 RT4 BV4 AV0
   simp only [Act.put]
   go_wp2_with ((with_reducible refine jM (X := .load 61 (.tmp 8)) ?_ ?_); (· rfl))
   unfold Halt
   refine ld_at (by rfl) 61 (.tmp 8) rfl b8 rfl 61 (rtC bp (p1, p2) bav) (0, 0) _ Q5.out Tryz.underlying61 rfl sz_rt ?_
   go_wp2_with fail
   refine CL.out.mono ?_
   rintro e w6 ⟨u, rfl, fr, hb6⟩
   have FR := jh fr
   have B6 := jh hb6
   have RT6 := jh (RT5.out.below hb6)
   have BV6 := jh (jC BV5.out hb6)
   clear fr hb6 CL
   go_wp2_with ((with_reducible refine wpList_rt1 (.tmp 25) rfl ?_ bp (p1, p2) u ?_ ?_); (· rfl); (· rfl))
   intro w7 hc7 hb7 hz7
   have O7 := jh ((O5.out.below B6.out).below hb7)
   have B7 := jh hb7
   have RT7 := jh (RT6.out.below hb7)
   have BV7 := jh (jC BV6.out hb7)
   have HZ7 := jh hz7
   have RBL : Hid (rb < w7.heap.size) := jh RT7.out.lt
   have RB5 : Hid (rb < w5.heap.size) := jh RT5.out.lt
   clear hb7 hz7 RT6
   refine wpList_append_own_at _ rfl (.tmp 23) (.tmp 26) 57 rfl W.heap.size 61 i0 _ 13 152 Tryz.underlying57 hii hz0 hz1 hz2 rfl (by decide) (.slice s xs.length c) xs.length (xs.flatMap beL) rfl O7.out.own ⟨w6.heap.size, 0, none⟩ 1 1 (rtC bp (p1, p2) u).toList rfl rfl (fun j y hy => by have h := hc7 j y hy; unfold Addr.add; split; (· rename_i e; subst e; exact h); (· simpa using h)) (beL_one ⟨bp, (p1, p2), ba, u⟩) (by have := XL2.out; unfold maxLen; omega) (by have := XL2.out; omega) BV7.out.size ?_
   intro v8 w8 h2 h3 _ hat
   obtain ⟨s8, c8, hv8, -⟩ := jV h2
   subst hv8
   have OX := jh (O5.out.step (x := ⟨bp, (p1, p2), ba, u⟩) B6.out (Nat.le_refl _) BV5.out.size FR.out B7.out h2 (kept_gr h3) hat)
   have ol := own_lt O5.out.own
   have RT8 := jh (RT7.out.kept (kept_gr h3) (fun e => by have h1 := jJ O7.out.own _ e; have := LBB.out; omega) (fun e => NE.out _ e rfl))
   have BV8 := jh (BV7.out.trans ((kept_gr h3).below BV7.out.size fun g hg => jJ O7.out.own g hg))
   have NE8 : Hid (∀ g, (Value.slice s8 (xs.length + 1) c8).ownBlock = some g → g ≠ rb) := jh (fun g hg e => by
    rcases hat with h | h
    ·rw [h] at hg; exact NE.out g hg e
    ·rw [h] at hg; injection hg with hg
     have := RBL.out; omega)
   have NEA8 : Hid (∀ k, (A k ∨ (w5.heap.size ≤ k ∧ k < w6.heap.size)) → k ≠ rb) := jh (fun k hk e => by
    rcases hk with hk | hk
    ·exact NEA.out k hk e
    ·have := RB5.out; omega)
   have XV8 : Hid (∀ x ∈ xs ++ [⟨bp, (p1, p2), ba, u⟩], S.best i x.p = some (x.peer, x.a) ∧ RgtP x.p ∧ GoodA x.a) := jh (fun x hx => by
    rcases List.mem_append.1 hx with hx | hx
    ·exact XV.out x hx
    ·simp at hx; subst hx; exact ⟨QB.out, VL.out.2.1, VL.out.2.2.1⟩)
   have PM8 : Hid (((xs ++ [⟨bp, (p1, p2), ba, u⟩] : List BE).map (·.p) ++ (left.eraseIdx k).map (·.1)).Perm (N.map (·.1))) := jh (by rw [List.map_append]; exact PM2.out)
   have RL : Hid (w8.rangeLeft l.bb rb < wr.rangeLeft l.bb rb) := jh (by rw [RT8.out.left_eq, hrl.out]; have := hle.out; omega)
   have EL : Hid (xs.length + 1 = (xs ++ [(⟨bp, (p1, p2), ba, u⟩ : BE)]).length) := jh (by simp)
   rw [EL.out] at OX NE8
   clear h2 h3 hat hc7 ol O7 RT7 BV7 O5 RT5 BV5 FR
   rw [EL.out]
   go_wp2_with fail
   exact ⟨⟨left.eraseIdx k, s8, c8, xs ++ [⟨bp, (p1, p2), ba, u⟩], _, by rw [EL.out], PM8, OX, XV8, BV8, RT8, NE8, NEA8⟩, RL.out⟩
end
end Go.Proofs.YtkoidahgbbabiaaGreat
