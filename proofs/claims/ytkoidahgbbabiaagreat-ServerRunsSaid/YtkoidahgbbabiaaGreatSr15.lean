/- Texts of one proof, one behind another. -/
import Derived.Test.YtkoidahgbbabiaaGreatSr11
import Derived.Test.YtkoidahgbbabiaaGreatSr14
import Derived.Test.YtkoidahgbbabiaaGreatSr1
set_option maxRecDepth 100000
set_option maxHeartbeats 100000000
namespace Go.Proofs.YtkoidahgbbabiaaGreat
open Go.RowKit Go.Lib
theorem all1_call {w:World} {rb tb:Nat} {N:Nat→Option Nat} {E:List Ent} {peer own most:Int} {F:Nat→Prop} {ab rx:Nat} (P:Nat→Prop) (L:List Itm) (W:World) (A i:Nat) (v:AV) (h:AI w rb tb N E peer own most F ab rx P L W)
  (hA:A<4294967296) (hR:rightB A i=true) (hg:getL (kvs E) (keyN A i)=some v) (hl:L.length<8589934592):
  Calls Tryz.prog 117 #[.agg #[.int .u32 A,.int .i64 i],v.V,.pointer (some ⟨ab,0,none⟩),.pointer (some ⟨rx,0,none⟩)] W fun e w'=>e=.returned (.bool true)∧AI w rb tb N E peer own most F ab rx P (L++[((A,i),v)]) w'∧Kept (fun b=>¬P b) W w':=by
 obtain⟨i0,hii,hz0,hz1,hz2⟩:=info_parts info_route;obtain⟨en,hm,hep,hev,hgt⟩:=item_ent h.rib.rgt hA hR hg;have CLN:=jh (fun W' (hb:Below W.heap.size W W')=>av_CloneU en.a v W' (by rw[←hev];exact((h.rib.ent en hm).2.below hb).self) (h.rib.szs en hm));have HH:=jh h;have GT:=jh hgt;have OKx:Hid (OkP (itP ((A,i),v))):=jh (by rw[←hep];exact(h.rib.rgt en hm).1);obtain⟨v0,vs,hab,hre,hmp,hpx,hog⟩:=h.sl;have hvl:vs.length=L.length:=by have:=congrArg List.length hmp;simpa using this
 obtain⟨s0,cp0,hv0,-⟩:=jV hre.own;subst hv0;have HAB:=jh hab;have HRE:=jh hre;have HMP:=jh hmp;have HPX:=jh hpx;have HOG:=jh hog;have VL:Hid (vs.length<8589934592):=jh (by omega);have RX:=jh h.rxc;have RP:=jh h.rib.cells.1;have WB:=jh h.bel.size;clear h hg hl hgt hep hev hm hab hre hmp hpx hog hvl;generalize hpp:itP ((A,i),v)=p at GT OKx;have P1:Hid ((A:Int)=p.1∧(i:Int)=p.2):=jh (by rw[←hpp];exact⟨rfl,rfl⟩);have HPP:=jh hpp;clear hpp;go_enter Tryz.func117,Tryz.ntmps117;go_upto_region 1 with (fail)
 obtain⟨W0,hW0,c0,c1,qv,hB⟩:=box_pa W A i v;rw[←hW0];clear hW0;rw[P1.out.1] at c0;rw[P1.out.2] at c1;have QV:=jh qv;have B0:=jh hB;have rx0:=jA RX.out hB;have rp0:=jA RP.out hB;have cv0:W0.cell? ⟨ab,0,none⟩=some (.slice s0 vs.length cp0):=(hB.cell (jE HAB.out)).trans (jB HAB.out 0);have fv:Hid (∀W',Below W0.heap.size W0 W'→W'.frozen? ⟨ab,0,none⟩=false):=jh (fun W' hb=>jN (((jC B0.out hb).block _ (jE HAB.out)).trans HAB.out) 0);clear qv hB;have hBel:Below W0.heap.size W0 W0.drew:=(Below.refl _ _).drew;have qab:W0.drew.heap[ab]? =some (.cells #[.slice s0 vs.length cp0] 57 (0,0)):=(B0.out.block _ (jE HAB.out)).trans HAB.out;have ABL:Hid (ab<W.heap.size):=jh (jE HAB.out);have OWL:Hid (∀g,Value.ownBlock (.slice s0 vs.length cp0)=some g→g<W.heap.size∧w.heap.size≤g):=jh (fun g hg=>⟨own_lt HRE.out.own g hg,jJ HRE.out.own g hg⟩);have NC:Hid (¬(W.heap.size=ab∨Value.ownBlock (.slice s0 vs.length cp0)=some W.heap.size)):=jh (fun h=>by
  rcases h with h|h
  ·have:=ABL.out;omega
  ·have:=(OWL.out _ h).1;omega)
 have ND:Hid (¬(W.heap.size+1=ab∨Value.ownBlock (.slice s0 vs.length cp0)=some (W.heap.size+1))):=jh (fun h=>by
  rcases h with h|h
  ·have:=ABL.out;omega
  ·have:=(OWL.out _ h).1;omega)
 have NX:Hid (¬(rx=ab∨Value.ownBlock (.slice s0 vs.length cp0)=some rx)):=jh (fun h=>by
  rcases h with h|h
  ·exact HH.out.lo.2 h
  ·exact(HOG.out _ h).2.2 rfl)
 have NB:Hid (¬(rb=ab∨Value.ownBlock (.slice s0 vs.length cp0)=some rb)):=jh (fun h=>by
  have hrb:=HH.out.flt _ HH.out.rib.frb;rcases h with h|h
  ·have:=HH.out.lo.1;omega
  ·have:=(OWL.out _ h).2;omega)
 have NAO:Hid (¬(Value.ownBlock (.slice s0 vs.length cp0)=some ab)):=jh (fun h=>(HOG.out _ h).2.1 rfl);refine wp_region_held_drew (S:=fun w1=>Kept (fun k=>k=ab∨Value.ownBlock (.slice s0 vs.length cp0)=some k) W0 w1) (by kernel_rfl) ?_ (fun hHeld=>?_)
 ·exact(Kept.refl _ _).drew
 generalize World.drew W0=wd at hBel qab hHeld ⊢;refine qz 1 hHeld ?_ (hy:=by intro w' hSw;have c0:=hSw.cell c0 NC.out;have c1:=hSw.cell c1 NC.out;have rx0:=hSw.cell rx0 NX.out;have rp0:=hSw.cell rp0 NB.out;(try clear hHeld);go_simp;try with_reducible rfl);refine qz 5 hHeld ?_ (hy:=by intro w' hSw;have c0:=hSw.cell c0 NC.out;have c1:=hSw.cell c1 NC.out;have rx0:=hSw.cell rx0 NX.out;have rp0:=hSw.cell rp0 NB.out;(try clear hHeld);go_simp;try with_reducible rfl);refine qz 6 hHeld ?_ (hy:=by intro w' hSw;refine exec_ld 42 (.tmp 5) ?_ (W.heap.size+1) ?_ 42 v.C (0,0) _ ((hSw.block _ (jE QV.out) ND.out).trans QV.out) Tryz.underlying42 rfl (by kernel_rfl)<;>rfl);refine rg_call3 (i:=0) (j:=2) (k:=7) (atN rfl) (atN rfl) (atN rfl) (by kernel_rfl) ?_ ?_ ?_ (fun K hK=>?_) (fun K hK=>?_) (fun K hK=>?_)
 ·rfl
 ·rfl
 ·rfl
 ·(try clear hb);have cv:_=some (Value.slice s0 vs.length cp0):=jB qab 0;go_simp;go_wp2_with fail;refine hK.out _ _ hHeld fun hHeld=>?_;clear hK K;(try simp only[jz]);refine jI (i:=2) (j:=7) (atS (atS at0)) (atS (atS (atS (atS (atS (atS (atS at0))))))) (by kernel_rfl) ?_ ?_ (fun K hK=>?_) (fun K hK=>?_)
  ·rfl
  ·rfl
  ·(try clear hb);go_simp;go_wp2_with fail;refine hK.out _ _ hHeld fun hHeld=>?_;clear hK K;(try simp only[jz]);refine qz 3 hHeld ?_;refine qz 4 hHeld ?_ (hy:=by intro w' hSw;have c0:=hSw.cell c0 NC.out;have c1:=hSw.cell c1 NC.out;have rx0:=hSw.cell rx0 NX.out;have rp0:=hSw.cell rp0 NB.out;(try clear hHeld);go_simp;try with_reducible rfl);refine jr 7 fun K hK=>?_;(try clear hb);go_simp;have hlo:=hBel.size;refine(CLN.out _ (jC B0.out hBel)).mono ?_;rintro e w1 ⟨u,rfl,fr,hb⟩;have FR:=jh fr;clear fr;have hhi:=hb.size;replace qab:=(hb.block _ (jE qab)).trans qab;replace hBel:=jC hBel hb;have hBel1:=jC B0.out hBel;go_wp2_with fail;refine hK.out _ _ ?_ (fun hHeld=>?_);(·exact hHeld.grow hb);clear hK K;(try simp only[jz]);refine qz 8 hHeld ?_;refine jr 9 fun K hK=>?_;(try clear hb);go_simp;refine rt_one_k (peer:=peer) (p:=p) (v:=u) (q:=K _) ?_;intro w2 hcs hb2;replace qab:=(hb2.block _ (jE qab)).trans qab;replace hBel:=jC hBel hb2;refine hK.out _ _ ?_ (fun hHeld=>?_);(·exact hHeld.grow hb2);clear hK K;(try simp only[jz]);refine jr 10 fun K hK=>?_;(try clear hb);refine wp_append_at _ _ 57 rfl w.heap.size 61 i0 _ 13 152 Tryz.underlying57 hii hz0 hz1 hz2 rfl (by decide) (.slice s0 vs.length cp0) vs.length (vs.flatMap (rtL peer)) rfl (jQ HRE.out.own (jC B0.out hBel)) ⟨_,0,none⟩ 1 1 (rtC peer p u).toList rfl rfl hcs (rtL_one peer ⟨p,en.a,u,0,0⟩) (by have:=VL.out;unfold maxLen;omega) (by have:=VL.out;omega) (by have:=WB.out;have:=B0.out.size;have:=hBel.size;omega) ?_;intro v3 w3 h2 h3 hat;obtain⟨s3,c3,rfl,-⟩:=jV h2;have hk3:Kept (fun k=>Value.ownBlock (.slice s0 vs.length cp0)=some k) w2 w3:=⟨h3.os,h3.tape,h3.output,h3.size,fun k hk hne=>h3.block k hk (fun e=>hne e.symm)⟩;refine hK.out _ _ ?_ (fun hHeld=>?_);(·exact hHeld.trans (hk3.imp fun k h=>.inr h));clear hK K;(try simp only[jz]);refine jr 11 fun K hK=>?_;(try clear hb);have qab3:=(hk3.block _ (jE qab) NAO.out).trans qab;have cv:_=some (Value.slice s0 vs.length cp0):=jB qab3 0;have fz:=jN qab3 0;go_simp;go_wp2_with fail;refine hK.out _ _ ?_ (fun hHeld=>?_);(·exact hHeld.put _ _ (.inl (.inl rfl)));clear hK K;(try simp only[Act.put]);refine wpAnyH_done (by kernel_rfl) ?_ _;have HS:=jh (HH.out.step (w1:=w1) (w2:=w2) (w3:=w3) HAB.out HRE.out HMP.out HPX.out HOG.out HPP.out GT.out OKx.out hBel1 (Nat.le_trans B0.out.size hlo) FR.out hb2 h2 hk3 hat);clear hHeld hBel qab hBel1 hb2 h2 h3 hk3 hat;go_wp2_with fail;go_ret;exact⟨rfl,HS.out⟩
  ·(try clear hb);go_simp;have hlo:=hBel.size;refine(CLN.out _ (jC B0.out hBel)).mono ?_;rintro e w1 ⟨u,rfl,fr,hb⟩;have FR:=jh fr;clear fr;have hhi:=hb.size;replace qab:=(hb.block _ (jE qab)).trans qab;replace hBel:=jC hBel hb;have hBel1:=jC B0.out hBel;go_wp2_with fail;refine hK.out _ _ ?_ (fun hHeld=>?_);(·exact hHeld.grow hb);clear hK K;(try simp only[jz]);refine jr 2 fun K hK=>?_;(try clear hb);go_simp;go_wp2_with fail;refine hK.out _ _ hHeld fun hHeld=>?_;clear hK K;(try simp only[jz]);refine qz 3 hHeld ?_;refine qz 4 hHeld ?_ (hy:=by intro w' hSw;have c0:=hSw.cell c0 NC.out;have c1:=hSw.cell c1 NC.out;have rx0:=hSw.cell rx0 NX.out;have rp0:=hSw.cell rp0 NB.out;(try clear hHeld);go_simp;try with_reducible rfl);refine qz 8 hHeld ?_;refine jr 9 fun K hK=>?_;(try clear hb);go_simp;refine rt_one_k (peer:=peer) (p:=p) (v:=u) (q:=K _) ?_;intro w2 hcs hb2;replace qab:=(hb2.block _ (jE qab)).trans qab;replace hBel:=jC hBel hb2;refine hK.out _ _ ?_ (fun hHeld=>?_);(·exact hHeld.grow hb2);clear hK K;(try simp only[jz]);refine jr 10 fun K hK=>?_;(try clear hb);refine wp_append_at _ _ 57 rfl w.heap.size 61 i0 _ 13 152 Tryz.underlying57 hii hz0 hz1 hz2 rfl (by decide) (.slice s0 vs.length cp0) vs.length (vs.flatMap (rtL peer)) rfl (jQ HRE.out.own (jC B0.out hBel)) ⟨_,0,none⟩ 1 1 (rtC peer p u).toList rfl rfl hcs (rtL_one peer ⟨p,en.a,u,0,0⟩) (by have:=VL.out;unfold maxLen;omega) (by have:=VL.out;omega) (by have:=WB.out;have:=B0.out.size;have:=hBel.size;omega) ?_;intro v3 w3 h2 h3 hat;obtain⟨s3,c3,rfl,-⟩:=jV h2;have hk3:Kept (fun k=>Value.ownBlock (.slice s0 vs.length cp0)=some k) w2 w3:=⟨h3.os,h3.tape,h3.output,h3.size,fun k hk hne=>h3.block k hk (fun e=>hne e.symm)⟩;refine hK.out _ _ ?_ (fun hHeld=>?_);(·exact hHeld.trans (hk3.imp fun k h=>.inr h));clear hK K;(try simp only[jz]);refine jr 11 fun K hK=>?_;(try clear hb);have qab3:=(hk3.block _ (jE qab) NAO.out).trans qab;have cv:_=some (Value.slice s0 vs.length cp0):=jB qab3 0;have fz:=jN qab3 0;go_simp;go_wp2_with fail;refine hK.out _ _ ?_ (fun hHeld=>?_);(·exact hHeld.put _ _ (.inl (.inl rfl)));clear hK K;(try simp only[Act.put]);refine wpAnyH_done (by kernel_rfl) ?_ _;have HS:=jh (HH.out.step (w1:=w1) (w2:=w2) (w3:=w3) HAB.out HRE.out HMP.out HPX.out HOG.out HPP.out GT.out OKx.out hBel1 (Nat.le_trans B0.out.size hlo) FR.out hb2 h2 hk3 hat);clear hHeld hBel qab hBel1 hb2 h2 h3 hk3 hat;go_wp2_with fail;go_ret;exact⟨rfl,HS.out⟩
 ·(try clear hb);go_simp;go_wp2_with fail;refine hK.out _ _ hHeld fun hHeld=>?_;clear hK K;(try simp only[jz]);refine qz 3 hHeld ?_;refine qz 4 hHeld ?_ (hy:=by intro w' hSw;have c0:=hSw.cell c0 NC.out;have c1:=hSw.cell c1 NC.out;have rx0:=hSw.cell rx0 NX.out;have rp0:=hSw.cell rp0 NB.out;(try clear hHeld);go_simp;try with_reducible rfl);refine jI (i:=0) (j:=7) at0 (atS (atS (atS (atS (atS (atS (atS at0))))))) (by kernel_rfl) ?_ ?_ (fun K hK=>?_) (fun K hK=>?_)
  ·rfl
  ·rfl
  ·(try clear hb);have cv:_=some (Value.slice s0 vs.length cp0):=jB qab 0;go_simp;go_wp2_with fail;refine hK.out _ _ hHeld fun hHeld=>?_;clear hK K;(try simp only[jz]);refine jr 7 fun K hK=>?_;(try clear hb);go_simp;have hlo:=hBel.size;refine(CLN.out _ (jC B0.out hBel)).mono ?_;rintro e w1 ⟨u,rfl,fr,hb⟩;have FR:=jh fr;clear fr;have hhi:=hb.size;replace qab:=(hb.block _ (jE qab)).trans qab;replace hBel:=jC hBel hb;have hBel1:=jC B0.out hBel;go_wp2_with fail;refine hK.out _ _ ?_ (fun hHeld=>?_);(·exact hHeld.grow hb);clear hK K;(try simp only[jz]);refine qz 8 hHeld ?_;refine jr 9 fun K hK=>?_;(try clear hb);go_simp;refine rt_one_k (peer:=peer) (p:=p) (v:=u) (q:=K _) ?_;intro w2 hcs hb2;replace qab:=(hb2.block _ (jE qab)).trans qab;replace hBel:=jC hBel hb2;refine hK.out _ _ ?_ (fun hHeld=>?_);(·exact hHeld.grow hb2);clear hK K;(try simp only[jz]);refine jr 10 fun K hK=>?_;(try clear hb);refine wp_append_at _ _ 57 rfl w.heap.size 61 i0 _ 13 152 Tryz.underlying57 hii hz0 hz1 hz2 rfl (by decide) (.slice s0 vs.length cp0) vs.length (vs.flatMap (rtL peer)) rfl (jQ HRE.out.own (jC B0.out hBel)) ⟨_,0,none⟩ 1 1 (rtC peer p u).toList rfl rfl hcs (rtL_one peer ⟨p,en.a,u,0,0⟩) (by have:=VL.out;unfold maxLen;omega) (by have:=VL.out;omega) (by have:=WB.out;have:=B0.out.size;have:=hBel.size;omega) ?_;intro v3 w3 h2 h3 hat;obtain⟨s3,c3,rfl,-⟩:=jV h2;have hk3:Kept (fun k=>Value.ownBlock (.slice s0 vs.length cp0)=some k) w2 w3:=⟨h3.os,h3.tape,h3.output,h3.size,fun k hk hne=>h3.block k hk (fun e=>hne e.symm)⟩;refine hK.out _ _ ?_ (fun hHeld=>?_);(·exact hHeld.trans (hk3.imp fun k h=>.inr h));clear hK K;(try simp only[jz]);refine jr 11 fun K hK=>?_;(try clear hb);have qab3:=(hk3.block _ (jE qab) NAO.out).trans qab;have cv:_=some (Value.slice s0 vs.length cp0):=jB qab3 0;have fz:=jN qab3 0;go_simp;go_wp2_with fail;refine hK.out _ _ ?_ (fun hHeld=>?_);(·exact hHeld.put _ _ (.inl (.inl rfl)));clear hK K;(try simp only[Act.put]);refine wpAnyH_done (by kernel_rfl) ?_ _;have HS:=jh (HH.out.step (w1:=w1) (w2:=w2) (w3:=w3) HAB.out HRE.out HMP.out HPX.out HOG.out HPP.out GT.out OKx.out hBel1 (Nat.le_trans B0.out.size hlo) FR.out hb2 h2 hk3 hat);clear hHeld hBel qab hBel1 hb2 h2 h3 hk3 hat;go_wp2_with fail;go_ret;exact⟨rfl,HS.out⟩
  ·(try clear hb);go_simp;have hlo:=hBel.size;refine(CLN.out _ (jC B0.out hBel)).mono ?_;rintro e w1 ⟨u,rfl,fr,hb⟩;have FR:=jh fr;clear fr;have hhi:=hb.size;replace qab:=(hb.block _ (jE qab)).trans qab;replace hBel:=jC hBel hb;have hBel1:=jC B0.out hBel;go_wp2_with fail;refine hK.out _ _ ?_ (fun hHeld=>?_);(·exact hHeld.grow hb);clear hK K;(try simp only[jz]);refine qz 8 hHeld ?_;refine jI (i:=0) (j:=9) at0 (atS (atS (atS (atS (atS (atS (atS (atS (atS at0))))))))) (by kernel_rfl) ?_ ?_ (fun K hK=>?_) (fun K hK=>?_)
   ·rfl
   ·rfl
   ·(try clear hb);have cv:_=some (Value.slice s0 vs.length cp0):=jB qab 0;go_simp;go_wp2_with fail;refine hK.out _ _ hHeld fun hHeld=>?_;clear hK K;(try simp only[jz]);refine jr 9 fun K hK=>?_;(try clear hb);go_simp;refine rt_one_k (peer:=peer) (p:=p) (v:=u) (q:=K _) ?_;intro w2 hcs hb2;replace qab:=(hb2.block _ (jE qab)).trans qab;replace hBel:=jC hBel hb2;refine hK.out _ _ ?_ (fun hHeld=>?_);(·exact hHeld.grow hb2);clear hK K;(try simp only[jz]);refine jr 10 fun K hK=>?_;(try clear hb);refine wp_append_at _ _ 57 rfl w.heap.size 61 i0 _ 13 152 Tryz.underlying57 hii hz0 hz1 hz2 rfl (by decide) (.slice s0 vs.length cp0) vs.length (vs.flatMap (rtL peer)) rfl (jQ HRE.out.own (jC B0.out hBel)) ⟨_,0,none⟩ 1 1 (rtC peer p u).toList rfl rfl hcs (rtL_one peer ⟨p,en.a,u,0,0⟩) (by have:=VL.out;unfold maxLen;omega) (by have:=VL.out;omega) (by have:=WB.out;have:=B0.out.size;have:=hBel.size;omega) ?_;intro v3 w3 h2 h3 hat;obtain⟨s3,c3,rfl,-⟩:=jV h2;have hk3:Kept (fun k=>Value.ownBlock (.slice s0 vs.length cp0)=some k) w2 w3:=⟨h3.os,h3.tape,h3.output,h3.size,fun k hk hne=>h3.block k hk (fun e=>hne e.symm)⟩;refine hK.out _ _ ?_ (fun hHeld=>?_);(·exact hHeld.trans (hk3.imp fun k h=>.inr h));clear hK K;(try simp only[jz]);refine jr 11 fun K hK=>?_;(try clear hb);have qab3:=(hk3.block _ (jE qab) NAO.out).trans qab;have cv:_=some (Value.slice s0 vs.length cp0):=jB qab3 0;have fz:=jN qab3 0;go_simp;go_wp2_with fail;refine hK.out _ _ ?_ (fun hHeld=>?_);(·exact hHeld.put _ _ (.inl (.inl rfl)));clear hK K;(try simp only[Act.put]);refine wpAnyH_done (by kernel_rfl) ?_ _;have HS:=jh (HH.out.step (w1:=w1) (w2:=w2) (w3:=w3) HAB.out HRE.out HMP.out HPX.out HOG.out HPP.out GT.out OKx.out hBel1 (Nat.le_trans B0.out.size hlo) FR.out hb2 h2 hk3 hat);clear hHeld hBel qab hBel1 hb2 h2 h3 hk3 hat;go_wp2_with fail;go_ret;exact⟨rfl,HS.out⟩
   ·(try clear hb);go_simp;refine rt_one_k (peer:=peer) (p:=p) (v:=u) (q:=K _) ?_;intro w2 hcs hb2;replace qab:=(hb2.block _ (jE qab)).trans qab;replace hBel:=jC hBel hb2;refine hK.out _ _ ?_ (fun hHeld=>?_);(·exact hHeld.grow hb2);clear hK K;(try simp only[jz]);refine jr 0 fun K hK=>?_;(try clear hb);have cv:_=some (Value.slice s0 vs.length cp0):=jB qab 0;go_simp;go_wp2_with fail;refine hK.out _ _ hHeld fun hHeld=>?_;clear hK K;(try simp only[jz]);refine jr 10 fun K hK=>?_;(try clear hb);refine wp_append_at _ _ 57 rfl w.heap.size 61 i0 _ 13 152 Tryz.underlying57 hii hz0 hz1 hz2 rfl (by decide) (.slice s0 vs.length cp0) vs.length (vs.flatMap (rtL peer)) rfl (jQ HRE.out.own (jC B0.out hBel)) ⟨_,0,none⟩ 1 1 (rtC peer p u).toList rfl rfl hcs (rtL_one peer ⟨p,en.a,u,0,0⟩) (by have:=VL.out;unfold maxLen;omega) (by have:=VL.out;omega) (by have:=WB.out;have:=B0.out.size;have:=hBel.size;omega) ?_;intro v3 w3 h2 h3 hat;obtain⟨s3,c3,rfl,-⟩:=jV h2;have hk3:Kept (fun k=>Value.ownBlock (.slice s0 vs.length cp0)=some k) w2 w3:=⟨h3.os,h3.tape,h3.output,h3.size,fun k hk hne=>h3.block k hk (fun e=>hne e.symm)⟩;refine hK.out _ _ ?_ (fun hHeld=>?_);(·exact hHeld.trans (hk3.imp fun k h=>.inr h));clear hK K;(try simp only[jz]);refine jr 11 fun K hK=>?_;(try clear hb);have qab3:=(hk3.block _ (jE qab) NAO.out).trans qab;have cv:_=some (Value.slice s0 vs.length cp0):=jB qab3 0;have fz:=jN qab3 0;go_simp;go_wp2_with fail;refine hK.out _ _ ?_ (fun hHeld=>?_);(·exact hHeld.put _ _ (.inl (.inl rfl)));clear hK K;(try simp only[Act.put]);refine wpAnyH_done (by kernel_rfl) ?_ _;have HS:=jh (HH.out.step (w1:=w1) (w2:=w2) (w3:=w3) HAB.out HRE.out HMP.out HPX.out HOG.out HPP.out GT.out OKx.out hBel1 (Nat.le_trans B0.out.size hlo) FR.out hb2 h2 hk3 hat);clear hHeld hBel qab hBel1 hb2 h2 h3 hk3 hat;go_wp2_with fail;go_ret;exact⟨rfl,HS.out⟩
 ·(try clear hb);go_simp;have hlo:=hBel.size;refine(CLN.out _ (jC B0.out hBel)).mono ?_;rintro e w1 ⟨u,rfl,fr,hb⟩;have FR:=jh fr;clear fr;have hhi:=hb.size;replace qab:=(hb.block _ (jE qab)).trans qab;replace hBel:=jC hBel hb;have hBel1:=jC B0.out hBel;go_wp2_with fail;refine hK.out _ _ ?_ (fun hHeld=>?_);(·exact hHeld.grow hb);clear hK K;(try simp only[jz]);refine jI (i:=0) (j:=2) at0 (atS (atS at0)) (by kernel_rfl) ?_ ?_ (fun K hK=>?_) (fun K hK=>?_)
  ·rfl
  ·rfl
  ·(try clear hb);have cv:_=some (Value.slice s0 vs.length cp0):=jB qab 0;go_simp;go_wp2_with fail;refine hK.out _ _ hHeld fun hHeld=>?_;clear hK K;(try simp only[jz]);refine jr 2 fun K hK=>?_;(try clear hb);go_simp;go_wp2_with fail;refine hK.out _ _ hHeld fun hHeld=>?_;clear hK K;(try simp only[jz]);refine qz 3 hHeld ?_;refine qz 4 hHeld ?_ (hy:=by intro w' hSw;have c0:=hSw.cell c0 NC.out;have c1:=hSw.cell c1 NC.out;have rx0:=hSw.cell rx0 NX.out;have rp0:=hSw.cell rp0 NB.out;(try clear hHeld);go_simp;try with_reducible rfl);refine qz 8 hHeld ?_;refine jr 9 fun K hK=>?_;(try clear hb);go_simp;refine rt_one_k (peer:=peer) (p:=p) (v:=u) (q:=K _) ?_;intro w2 hcs hb2;replace qab:=(hb2.block _ (jE qab)).trans qab;replace hBel:=jC hBel hb2;refine hK.out _ _ ?_ (fun hHeld=>?_);(·exact hHeld.grow hb2);clear hK K;(try simp only[jz]);refine jr 10 fun K hK=>?_;(try clear hb);refine wp_append_at _ _ 57 rfl w.heap.size 61 i0 _ 13 152 Tryz.underlying57 hii hz0 hz1 hz2 rfl (by decide) (.slice s0 vs.length cp0) vs.length (vs.flatMap (rtL peer)) rfl (jQ HRE.out.own (jC B0.out hBel)) ⟨_,0,none⟩ 1 1 (rtC peer p u).toList rfl rfl hcs (rtL_one peer ⟨p,en.a,u,0,0⟩) (by have:=VL.out;unfold maxLen;omega) (by have:=VL.out;omega) (by have:=WB.out;have:=B0.out.size;have:=hBel.size;omega) ?_;intro v3 w3 h2 h3 hat;obtain⟨s3,c3,rfl,-⟩:=jV h2;have hk3:Kept (fun k=>Value.ownBlock (.slice s0 vs.length cp0)=some k) w2 w3:=⟨h3.os,h3.tape,h3.output,h3.size,fun k hk hne=>h3.block k hk (fun e=>hne e.symm)⟩;refine hK.out _ _ ?_ (fun hHeld=>?_);(·exact hHeld.trans (hk3.imp fun k h=>.inr h));clear hK K;(try simp only[jz]);refine jr 11 fun K hK=>?_;(try clear hb);have qab3:=(hk3.block _ (jE qab) NAO.out).trans qab;have cv:_=some (Value.slice s0 vs.length cp0):=jB qab3 0;have fz:=jN qab3 0;go_simp;go_wp2_with fail;refine hK.out _ _ ?_ (fun hHeld=>?_);(·exact hHeld.put _ _ (.inl (.inl rfl)));clear hK K;(try simp only[Act.put]);refine wpAnyH_done (by kernel_rfl) ?_ _;have HS:=jh (HH.out.step (w1:=w1) (w2:=w2) (w3:=w3) HAB.out HRE.out HMP.out HPX.out HOG.out HPP.out GT.out OKx.out hBel1 (Nat.le_trans B0.out.size hlo) FR.out hb2 h2 hk3 hat);clear hHeld hBel qab hBel1 hb2 h2 h3 hk3 hat;go_wp2_with fail;go_ret;exact⟨rfl,HS.out⟩
  ·(try clear hb);go_simp;go_wp2_with fail;refine hK.out _ _ hHeld fun hHeld=>?_;clear hK K;(try simp only[jz]);refine qz 3 hHeld ?_;refine qz 4 hHeld ?_ (hy:=by intro w' hSw;have c0:=hSw.cell c0 NC.out;have c1:=hSw.cell c1 NC.out;have rx0:=hSw.cell rx0 NX.out;have rp0:=hSw.cell rp0 NB.out;(try clear hHeld);go_simp;try with_reducible rfl);refine qz 8 hHeld ?_;refine jI (i:=0) (j:=9) at0 (atS (atS (atS (atS (atS (atS (atS (atS (atS at0))))))))) (by kernel_rfl) ?_ ?_ (fun K hK=>?_) (fun K hK=>?_)
   ·rfl
   ·rfl
   ·(try clear hb);have cv:_=some (Value.slice s0 vs.length cp0):=jB qab 0;go_simp;go_wp2_with fail;refine hK.out _ _ hHeld fun hHeld=>?_;clear hK K;(try simp only[jz]);refine jr 9 fun K hK=>?_;(try clear hb);go_simp;refine rt_one_k (peer:=peer) (p:=p) (v:=u) (q:=K _) ?_;intro w2 hcs hb2;replace qab:=(hb2.block _ (jE qab)).trans qab;replace hBel:=jC hBel hb2;refine hK.out _ _ ?_ (fun hHeld=>?_);(·exact hHeld.grow hb2);clear hK K;(try simp only[jz]);refine jr 10 fun K hK=>?_;(try clear hb);refine wp_append_at _ _ 57 rfl w.heap.size 61 i0 _ 13 152 Tryz.underlying57 hii hz0 hz1 hz2 rfl (by decide) (.slice s0 vs.length cp0) vs.length (vs.flatMap (rtL peer)) rfl (jQ HRE.out.own (jC B0.out hBel)) ⟨_,0,none⟩ 1 1 (rtC peer p u).toList rfl rfl hcs (rtL_one peer ⟨p,en.a,u,0,0⟩) (by have:=VL.out;unfold maxLen;omega) (by have:=VL.out;omega) (by have:=WB.out;have:=B0.out.size;have:=hBel.size;omega) ?_;intro v3 w3 h2 h3 hat;obtain⟨s3,c3,rfl,-⟩:=jV h2;have hk3:Kept (fun k=>Value.ownBlock (.slice s0 vs.length cp0)=some k) w2 w3:=⟨h3.os,h3.tape,h3.output,h3.size,fun k hk hne=>h3.block k hk (fun e=>hne e.symm)⟩;refine hK.out _ _ ?_ (fun hHeld=>?_);(·exact hHeld.trans (hk3.imp fun k h=>.inr h));clear hK K;(try simp only[jz]);refine jr 11 fun K hK=>?_;(try clear hb);have qab3:=(hk3.block _ (jE qab) NAO.out).trans qab;have cv:_=some (Value.slice s0 vs.length cp0):=jB qab3 0;have fz:=jN qab3 0;go_simp;go_wp2_with fail;refine hK.out _ _ ?_ (fun hHeld=>?_);(·exact hHeld.put _ _ (.inl (.inl rfl)));clear hK K;(try simp only[Act.put]);refine wpAnyH_done (by kernel_rfl) ?_ _;have HS:=jh (HH.out.step (w1:=w1) (w2:=w2) (w3:=w3) HAB.out HRE.out HMP.out HPX.out HOG.out HPP.out GT.out OKx.out hBel1 (Nat.le_trans B0.out.size hlo) FR.out hb2 h2 hk3 hat);clear hHeld hBel qab hBel1 hb2 h2 h3 hk3 hat;go_wp2_with fail;go_ret;exact⟨rfl,HS.out⟩
   ·(try clear hb);go_simp;refine rt_one_k (peer:=peer) (p:=p) (v:=u) (q:=K _) ?_;intro w2 hcs hb2;replace qab:=(hb2.block _ (jE qab)).trans qab;replace hBel:=jC hBel hb2;refine hK.out _ _ ?_ (fun hHeld=>?_);(·exact hHeld.grow hb2);clear hK K;(try simp only[jz]);refine jr 0 fun K hK=>?_;(try clear hb);have cv:_=some (Value.slice s0 vs.length cp0):=jB qab 0;go_simp;go_wp2_with fail;refine hK.out _ _ hHeld fun hHeld=>?_;clear hK K;(try simp only[jz]);refine jr 10 fun K hK=>?_;(try clear hb);refine wp_append_at _ _ 57 rfl w.heap.size 61 i0 _ 13 152 Tryz.underlying57 hii hz0 hz1 hz2 rfl (by decide) (.slice s0 vs.length cp0) vs.length (vs.flatMap (rtL peer)) rfl (jQ HRE.out.own (jC B0.out hBel)) ⟨_,0,none⟩ 1 1 (rtC peer p u).toList rfl rfl hcs (rtL_one peer ⟨p,en.a,u,0,0⟩) (by have:=VL.out;unfold maxLen;omega) (by have:=VL.out;omega) (by have:=WB.out;have:=B0.out.size;have:=hBel.size;omega) ?_;intro v3 w3 h2 h3 hat;obtain⟨s3,c3,rfl,-⟩:=jV h2;have hk3:Kept (fun k=>Value.ownBlock (.slice s0 vs.length cp0)=some k) w2 w3:=⟨h3.os,h3.tape,h3.output,h3.size,fun k hk hne=>h3.block k hk (fun e=>hne e.symm)⟩;refine hK.out _ _ ?_ (fun hHeld=>?_);(·exact hHeld.trans (hk3.imp fun k h=>.inr h));clear hK K;(try simp only[jz]);refine jr 11 fun K hK=>?_;(try clear hb);have qab3:=(hk3.block _ (jE qab) NAO.out).trans qab;have cv:_=some (Value.slice s0 vs.length cp0):=jB qab3 0;have fz:=jN qab3 0;go_simp;go_wp2_with fail;refine hK.out _ _ ?_ (fun hHeld=>?_);(·exact hHeld.put _ _ (.inl (.inl rfl)));clear hK K;(try simp only[Act.put]);refine wpAnyH_done (by kernel_rfl) ?_ _;have HS:=jh (HH.out.step (w1:=w1) (w2:=w2) (w3:=w3) HAB.out HRE.out HMP.out HPX.out HOG.out HPP.out GT.out OKx.out hBel1 (Nat.le_trans B0.out.size hlo) FR.out hb2 h2 hk3 hat);clear hHeld hBel qab hBel1 hb2 h2 h3 hk3 hat;go_wp2_with fail;go_ret;exact⟨rfl,HS.out⟩
open Go.RowKit Go.Lib
theorem all_srt (S:List (Nat×AV)):((goP S 32 0 0).map itP).Pairwise plt:=by
 rw[List.pairwise_map];refine(goP_sorted (S:=S) 32 0 0 rfl (by decide)).imp fun {x y} h=>?_;unfold itLt at h;unfold plt itP;simp only;omega
theorem all_mem {E:List Ent} (hE:∀e∈E,RgtP e.p) (p:Pf):p∈(goP (kvs E) 32 0 0).map itP↔(getL (rts E) p).isSome=true:=by
 constructor
 ·intro h;obtain⟨x,hx,rfl⟩:=List.mem_map.1 h;have hi:=goP_in (S:=kvs E) 32 0 0 rfl (by decide) x hx;have hlt:x.1.1<4294967296:=by have:=hi.hi;simpa using this
  obtain⟨e,_,h1,_,h2⟩:=item_ent hE hlt (right_mod.2 ⟨hi.form,hi.le32⟩) hi.at_;have e1:itP ((x.1.1,x.1.2),x.2)=itP x:=rfl;rw[e1] at h2;rw[h2];rfl
 ·intro h;obtain⟨a,ha⟩:=Option.isSome_iff_exists.1 h;rw[find_rts] at ha;cases hf:findE E p with
  |none=>rw[hf] at ha;cases ha
  |some e=>
   obtain⟨h1,rfl⟩:=findE_mem hf;obtain⟨x,n,hp,hx,hn,hm,hr⟩:=(hE e h1).nat;have key:=find_kvs hE (hE e h1);rw[hf] at key;have hg:getL (kvs E) (keyN x n)=some e.v:=by
    have:pKey e.p=keyN x n:=by rw[hp];rfl
    rw[←this];exact key
   refine List.mem_map.2 ⟨((x,n),e.v),goP_mem hm hn hg 32 0 0 rfl (by decide) (Nat.zero_le _) (Nat.zero_le _) (by simpa using hx),?_⟩;rw[hp];rfl
theorem ln_0:Ln 32 ([]:List Itm):=by unfold Ln;simp
def AllPost (peer:Int) (R:Rts) (w:World) (e:Ending) (w':World):Prop:=∃v vs,e=.returned v∧REs w' w.heap.size peer R v vs∧(vs.map (·.p)).Pairwise plt∧(∀p,p∈vs.map (·.p)↔(getL R p).isSome=true)∧Below w.heap.size w w'
theorem each_all {w:World} {rb tb:Nat} {N:Nat→Option Nat} {E:List Ent} {peer own most:Int} {F:Nat→Prop} {ab rx:Nat}:
  EachOkN tb N (kvs E) most 117 #[.pointer (some ⟨ab,0,none⟩),.pointer (some ⟨rx,0,none⟩)] (fun _=>true) (AI w rb tb N E peer own most F ab rx) where
 ent:=enters_of Tryz.func117 (by kernel_rfl) rfl
 stab P P' L W W' h hb hP:=h.stab hb hP
 tri P L W h:=h.rib.tri
 call P L W A i v h hA hR hg hl:=all1_call P L W A i v h hA hR hg hl
theorem ad_All_in {rb tb:Nat} {N:Nat→Option Nat} {E:List Ent} {peer own most:Int} {F:Nat→Prop} (w:World) (h:RibIn w rb tb N E peer own most F) (hF:∀k,F k→k<w.heap.size):
  Calls Tryz.prog 66 #[.pointer (some ⟨rb,0,none⟩)] w (AllPost peer (rts E) w):=by
 have HH:=jh h;have HFL:=jh hF;clear h hF;go_enter Tryz.func66,Tryz.ntmps66;go_upto_region 4 with (fail)
 obtain⟨W0,hW0,qr,qs,hB⟩:=boxTwo w #[.pointer (some ⟨rb,0,none⟩)] 93 #[.slice none 0 0] 57;rw[←hW0];clear hW0;have rx0:W0.cell? ⟨w.heap.size,0,none⟩=some (.pointer (some ⟨rb,0,none⟩)):=jB qr 0;have r3:=jA HH.out.cells.2.2.2 hB;have I0:Hid (AI w rb tb N E peer own most F (w.heap.size+1) w.heap.size (fun _=>False) [] W0):=jh
  ⟨hB,HH.out.below hB,rx0,⟨Nat.le_succ _,by omega⟩,HFL.out,⟨_,[],qs,⟨⟨rfl,.inl ⟨rfl,rfl⟩⟩,by simp,by simp,by simp⟩,rfl,by simp,by intro g hg;cases hg⟩,fun h=>h,Nat.le_refl _,fun b hb=>hb.elim⟩
 have AT:=jh (trI_AllN each_all [] (fun _=>False) W0 I0.out ln_0);rw[runL_all _ (fun _=>rfl)] at AT;clear qr qs;go_wp2_with fail;refine AT.out.mono ?_;rintro e w1 ⟨rfl,I1,-⟩;obtain⟨v,vs,h1,h2,h3,-,-⟩:=I1.sl;obtain⟨s1,c1,hv,-⟩:=jV h2.own;subst hv;have cv:w1.cell? ⟨w.heap.size+1,0,none⟩=some (.slice s1 vs.length c1):=jB h1 0;simp only[List.nil_append] at h3;have FIN:Hid (AllPost peer (rts E) w (.returned (.slice s1 vs.length c1)) w1):=jh ⟨_,vs,rfl,h2,by rw[h3];exact all_srt _,fun p=>by rw[h3];exact all_mem HH.out.rgt p,I1.bel⟩;clear h1 h2 h3 I1 AT rx0 r3 hB;go_wp2_with fail;go_ret;exact FIN.out
theorem ad_All {rb:Nat} {peer own most:Int} {R:Rts} {F:Nat→Prop} (w:World) (h:RibAt w rb peer own most R F):Calls Tryz.prog 66 #[.pointer (some ⟨rb,0,none⟩)] w (AllPost peer R w):=by
 obtain⟨tb,N,E,hI,rfl⟩:=h;obtain⟨tb',hx⟩:∃G:Nat→Prop,RibIn w rb tb N E peer own most G∧∀k,G k→k<w.heap.size:=⟨fun k=>k=rb∨TOwn tb N k∨∃e∈E,e.lo≤k∧k<e.hi,
  ⟨hI.row,hI.tri,hI.rgt,hI.szs,hI.ent,.inl rfl,fun b hb=>.inr (.inl hb),fun e he k h1 h2=>.inr (.inr ⟨e,he,h1,h2⟩),hI.apr,hI.apn,hI.most0,hI.most1,hI.room⟩,by
   rintro k (rfl|hk|⟨e,he,h1,h2⟩)
   ·exact jE hI.row
   ·exact hI.tri.own_lt hk
   ·exact Nat.lt_of_lt_of_le h2 (hI.ent e he).1⟩
 exact ad_All_in w hx.1 hx.2
open Go.RowKit Go.Lib
structure CI (w:World) (rb tb:Nat) (N:Nat→Option Nat) (E:List Ent) (peer own most:Int) (F:Nat→Prop) (ab:Nat) (P:Nat→Prop) (L:List Itm) (W:World):Prop where
 bel:Below w.heap.size w W
 rib:RibIn W rb tb N E peer own most F
 lo:w.heap.size≤ab
 flt:∀k,F k→k<w.heap.size
 sl:∃v,W.heap[ab]? =some (.cells #[v] 23 (0,0))∧OwnPs W w.heap.size v (L.map itP)∧(∀g,v.ownBlock=some g→¬P g∧g≠ab)
 pab:¬P ab
 plt:∀b,P b→b<W.heap.size
section
variable {w W W':World} {rb tb:Nat} {N:Nat→Option Nat} {E:List Ent} {peer own most:Int} {F P:Nat→Prop} {ab:Nat} {L:List Itm}
theorem CI.stab {P':Nat→Prop} (h:CI w rb tb N E peer own most F ab P L W) (hb:Below W.heap.size W W') (hP:∀b,P' b→P b∨(W.heap.size≤b∧b<W'.heap.size)):CI w rb tb N E peer own most F ab P' L W':=by
 obtain⟨v,h1,h2,h3⟩:=h.sl;refine⟨jC h.bel hb,h.rib.below hb,h.lo,h.flt,⟨v,(hb.block _ (jE h1)).trans h1,h2.below hb,fun g hg=>⟨fun hp=>?_,(h3 g hg).2⟩⟩,fun hp=>?_,fun b hp=>?_⟩
 ·rcases hP g hp with hp|hp
  ·exact(h3 g hg).1 hp
  ·have:=own_lt h2.1 g hg;omega
 ·rcases hP ab hp with hp|hp
  ·exact h.pab hp
  ·have:=jE h1;omega
 ·rcases hP b hp with hp|hp
  ·exact Nat.lt_of_lt_of_le (h.plt b hp) hb.size
  ·exact hp.2
theorem CI.step {w2 w3:World} {v0 v3:Value} {it:Itm} (h:CI w rb tb N E peer own most F ab P L W) (hab:W.heap[ab]? =some (.cells #[v0] 23 (0,0))) (hre:OwnPs W w.heap.size v0 (L.map itP)) (hog:∀g,v0.ownBlock=some g→¬P g∧g≠ab)
  (b02:Below W.heap.size W w2) (h2:OwnPs w3 w.heap.size v3 ((L++[it]).map itP)) (hk3:Kept (fun k=>v0.ownBlock=some k) w2 w3) (hat:v3.ownBlock=v0.ownBlock∨v3.ownBlock=some w2.heap.size):
  CI w rb tb N E peer own most F ab P (L++[it]) (w3.setCell ⟨ab,0,none⟩ v3)∧Kept (fun b=>¬P b) W (w3.setCell ⟨ab,0,none⟩ v3):=by
 have hablt:=jE hab;have o0:=own_lt hre.1;have o1:=jJ hre.1;have s2:=b02.size;have ws:=h.bel.size;have Kt:Kept (fun k=>k=ab∨v0.ownBlock=some k) W (w3.setCell ⟨ab,0,none⟩ v3):=(((Kept.of_below b02).trans (hk3.imp fun k hk=>.inr hk)).put _ _ (.inl (.inl rfl)))
 have n3:∀g,v3.ownBlock=some g→(v0.ownBlock=some g)∨g=w2.heap.size:=fun g hg=>by
  rcases hat with e|e
  ·exact .inl (e▸hg)
  ·rw[e] at hg;exact .inr (Option.some.inj hg).symm
 have n3ab:∀g,v3.ownBlock=some g→g≠ab:=fun g hg e=>by
  rcases n3 g hg with h1|h1
  ·exact(hog g h1).2 e
  ·omega
 have hrow:w3.heap[ab]? =some (.cells #[v0] 23 (0,0)):=(hk3.block ab (by omega) (fun h=>(hog ab h).2 rfl)).trans ((b02.block ab hablt).trans hab);refine⟨⟨h.bel.trans (Kt.below ws fun k hk=>?_),h.rib.kept Kt fun k hl hF hG=>?_,h.lo,h.flt,⟨v3,?_,h2.kept (Kept.setCell (F:=fun k=>k=ab) _ _ rfl) (fun g hg e=>n3ab g hg e),?_⟩,h.pab,fun b hb=>Nat.lt_of_lt_of_le (h.plt b hb) Kt.size⟩,Kt.imp fun k hk hp=>?_⟩
 ·rcases hk with rfl|hk
  ·exact h.lo
  ·exact o1 k hk
 ·have:=h.flt k hF;have:=h.lo;rcases hG with rfl|hG
  ·omega
  ·have:=o1 k hG;omega
 ·rw[jO hrow];rfl
 ·intro g hg;rcases n3 g hg with h1|h1
  ·exact hog g h1
  ·subst h1;exact⟨fun hp=>by have:=h.plt _ hp;omega,by omega⟩
 ·rcases hk with rfl|hk
  ·exact h.pab hp
  ·exact(hog k hk).1 hp
end
theorem clear1_call {w:World} {rb tb:Nat} {N:Nat→Option Nat} {E:List Ent} {peer own most:Int} {F:Nat→Prop} {ab:Nat} (P:Nat→Prop) (L:List Itm) (W:World) (A i:Nat) (v:AV) (h:CI w rb tb N E peer own most F ab P L W)
  (hA:A<4294967296) (hl:L.length<8589934592):
  Calls Tryz.prog 89 #[.agg #[.int .u32 A,.int .i64 i],v.V,.pointer (some ⟨ab,0,none⟩)] W fun e w'=>e=.returned (.bool true)∧CI w rb tb N E peer own most F ab P (L++[((A,i),v)]) w'∧Kept (fun b=>¬P b) W w':=by
 obtain⟨i0,hii,hz0,hz1,hz2⟩:=info_parts info_pref;have HH:=jh h;have OKx:Hid (OkP (itP ((A,i),v))):=jh (by unfold itP OkP;simp only;omega);obtain⟨v0,hab,hre,hog⟩:=h.sl;obtain⟨s0,cp0,hv0,-⟩:=jV hre.1;rw[List.length_map] at hv0;subst hv0;have HAB:=jh hab;have HRE:=jh hre;have HOG:=jh hog;have WB:=jh h.bel.size;clear h hab hre hog;generalize hpp:itP ((A,i),v)=p at OKx;have P1:Hid ((A:Int)=p.1∧(i:Int)=p.2):=jh (by rw[←hpp];exact⟨rfl,rfl⟩);have HPP:=jh hpp;have HL:Hid ((L.map itP).length=L.length):=jh (List.length_map ..);clear hpp;go_enter Tryz.func89,Tryz.ntmps89;go_upto_region 1 with (fail)
 obtain⟨W0,hW0,c0,c1,-,hB⟩:=box_pa W A i v;rw[←hW0];clear hW0;rw[P1.out.1] at c0;rw[P1.out.2] at c1;have q0:=(hB.block _ (jE HAB.out)).trans HAB.out;have cv0:W0.cell? ⟨ab,0,none⟩=some (.slice s0 L.length cp0):=jB q0 0;have B0:=jh hB;have hal:Below W0.heap.size W0 (W0.alloc (.cells #[.int .u32 p.1,.int .i64 p.2] 53)):=(Below.refl _ _).alloc (Nat.le_refl _) _;have BA:=jh (jC hB hal);have OA:=jh (HRE.out.below BA.out);have NC:=jh (new_cells W0 #[.int .u32 p.1,.int .i64 p.2] 53);clear hB hal q0;go_wp2_with (at_builtin;refine wpList_append_own_at _ rfl _ _ 23 rfl w.heap.size 53 i0 _ 2 16 Tryz.underlying23 hii hz0 hz1 hz2 rfl (by decide) (.slice s0 L.length cp0) (L.map itP).length ((L.map itP).flatMap encP) rfl OA.out.1 ⟨W0.heap.size,0,none⟩ 1 1 [.int .u32 p.1,.int .i64 p.2] rfl rfl NC.out (encP_one p) (by have:=HL.out;unfold maxLen;omega) (by have:=HL.out;omega) (by have:=WB.out;have:=BA.out.size;omega) ?_);intro v3 w3 h2 h3 _ hat;obtain⟨s3,c3,hv3,-⟩:=jV h2;subst hv3;have hk3:Kept (fun k=>Value.ownBlock (.slice s0 L.length cp0)=some k) (W0.alloc (.cells #[.int .u32 p.1,.int .i64 p.2] 53)) w3:=⟨h3.os,h3.tape,h3.output,h3.size,fun k hk hne=>h3.block k hk (fun e=>hne e.symm)⟩
 have qab3:w3.heap[ab]? =some (.cells #[.slice s0 L.length cp0] 23 (0,0)):=(hk3.block _ (Nat.lt_of_lt_of_le (jE HAB.out) BA.out.size) (fun h=>(HOG.out _ h).2 rfl)).trans ((BA.out.block _ (jE HAB.out)).trans HAB.out);have cv:w3.cell? ⟨ab,0,none⟩=some (.slice s0 L.length cp0):=jB qab3 0;have fz:=jN qab3 0;have HS:=jh (HH.out.step (w2:=W0.alloc (.cells #[.int .u32 p.1,.int .i64 p.2] 53)) (it:=((A,i),v)) HAB.out HRE.out HOG.out BA.out (show OwnPs w3 w.heap.size _ ((L++[((A,i),v)]).map itP) by
  rw[List.map_append,List.map_cons,List.map_nil,HPP.out];refine⟨?_,?_⟩
  ·rw[List.length_append,List.flatMap_append];simpa [encP] using h2
  ·intro q hq;rcases List.mem_append.1 hq with hq|hq
   ·exact HRE.out.2 q hq
   ·simp at hq;subst hq;exact OKx.out) hk3 (by simpa using hat))
 clear h2 h3 hat hk3 qab3 cv0 c0 c1 OA NC BA B0;go_wp2_with fail;go_ret;exact⟨rfl,HS.out⟩
open Go.RowKit Go.Lib
theorem each_clear {w:World} {rb tb:Nat} {N:Nat→Option Nat} {E:List Ent} {peer own most:Int} {F:Nat→Prop} {ab:Nat}:
  EachOkN tb N (kvs E) most 89 #[.pointer (some ⟨ab,0,none⟩)] (fun _=>true) (CI w rb tb N E peer own most F ab) where
 ent:=enters_of Tryz.func89 (by kernel_rfl) rfl
 stab P P' L W W' h hb hP:=h.stab hb hP
 tri P L W h:=h.rib.tri
 call P L W A i v h hA hR hg hl:=clear1_call P L W A i v h hA hl
def ClearPost (rb:Nat) (peer own most:Int) (R:Rts) (F:Nat→Prop) (w:World) (e:Ending) (w':World):Prop:=
 ∃v L F',e=.returned v∧OwnPs w' w.heap.size v L∧L.Pairwise plt∧(∀p,p∈L↔(getL R p).isSome=true)∧RibAt w' rb peer own most [] F'∧(∀k,F' k→F k∨(w.heap.size≤k∧k<w'.heap.size))∧(∀k,v.ownBlock=some k→¬F' k)∧Kept F w w'
theorem clear_fin {w w1 w2:World} {rb tb:Nat} {N:Nat→Option Nat} {E:List Ent} {peer own most:Int} {F:Nat→Prop} {v:Value} {L:List Pf} (hs:L.Pairwise plt) (hm:∀p,p∈L↔(getL (rts E) p).isSome=true) (hb1:Below w.heap.size w w1) (hr:RibIn w1 rb tb N E peer own most F) (hF:∀k,F k→k<w.heap.size)
  (ho:OwnPs w1 w.heap.size v L) (ht:TrI w2 w1.heap.size (fun _=>none) [] (min (max most 0) 4096)) (hb2:Below w1.heap.size w1 w2):
  ClearPost rb peer own most (rts E) F w (.returned v) (w2.setCell ⟨rb,3,none⟩ (.pointer (some ⟨w1.heap.size,0,none⟩))):=by
 have hrb:=hF rb hr.frb;have hsz:=hb1.size;have e:min (max most 0) 4096=most:=by have:=hr.most0;have:=hr.most1;omega
 rw[e] at ht;have hlt:=ht.lt;have Kr:Kept (fun k=>k=rb) w2 (w2.setCell ⟨rb,3,none⟩ (.pointer (some ⟨w1.heap.size,0,none⟩))):=Kept.setCell _ _ rfl;refine⟨v,L,fun k=>k=rb∨k=w1.heap.size,rfl,(ho.below hb2).kept Kr (fun g hg e=>by have:=jJ ho.1 g hg;omega),hs,hm,⟨w1.heap.size,fun _=>none,[],⟨?_,ht.kept Kr (fun b hb=>?_),by simp,by simp,by simp,.inl rfl,fun b hb=>?_,by simp,fun hx=>?_,by simp,hr.most0,hr.most1,by have:=hr.most0;simpa using this⟩,rfl⟩,fun k hk=>?_,fun g hg hk=>?_,?_⟩
 ·rw[jO ((hb2.block rb (jE hr.row)).trans hr.row)];simp
 ·rcases hb with rfl|⟨k,hk⟩
  ·intro e;omega
  ·cases hk
 ·rcases hb with rfl|⟨k,hk⟩
  ·exact .inr rfl
  ·cases hk
 ·rcases hx with hx|⟨k,hk⟩
  ·omega
  ·cases hk
 ·have:=Kr.size;rcases hk with rfl|rfl
  ·exact .inl hr.frb
  ·exact .inr (by omega)
 ·have h1:=jJ ho.1 g hg;have h2:=own_lt ho.1 g hg;rcases hk with rfl|rfl<;>omega
 ·have hb:Below w.heap.size w w2:=hb1.trans (hb2.mono hsz);exact(Kept.of_below hb).put _ _ (.inl hr.frb)
theorem ad_Clear_in {rb tb:Nat} {N:Nat→Option Nat} {E:List Ent} {peer own most:Int} {F:Nat→Prop} (w:World) (h:RibIn w rb tb N E peer own most F) (hF:∀k,F k→k<w.heap.size):
  Calls Tryz.prog 41 #[.pointer (some ⟨rb,0,none⟩)] w (ClearPost rb peer own most (rts E) F w):=by
 have HH:=jh h;have HFL:=jh hF;clear h hF;go_enter Tryz.func41,Tryz.ntmps41;go_upto_region 4 with (fail)
 obtain⟨W0,hW0,qs,hB,-⟩:=box1 w #[.slice none 0 0] 23;rw[←hW0];clear hW0;have r3:=jA HH.out.cells.2.2.2 hB;have I0:Hid (CI w rb tb N E peer own most F w.heap.size (fun _=>False) [] W0):=jh ⟨hB,HH.out.below hB,Nat.le_refl _,HFL.out,⟨_,qs,ownPs_nil _ _,by intro g hg;cases hg⟩,fun h=>h,fun b hb=>hb.elim⟩;have AT:=jh (trI_AllN each_clear [] (fun _=>False) W0 I0.out ln_0);rw[runL_all _ (fun _=>rfl)] at AT;clear qs hB;go_wp2_with fail;refine AT.out.mono ?_;rintro e w1 ⟨rfl,I1,-⟩;obtain⟨v,h1,h2,-⟩:=I1.sl;simp only[List.nil_append] at h2;obtain⟨s1,c1,hv,-⟩:=jV h2.1;subst hv;have II:=jh I1;have H1:=jh h1;have H2:=jh h2;have r2:=I1.rib.cells.2.2.1;clear h1 h2 I1 AT r3;go_wp2_with fail;refine(trI_New most w1).mono ?_;rintro e w2 ⟨rfl,T2,hb2⟩;have r3:=jA II.out.rib.cells.2.2.2 hb2;have f3:w2.frozen? ⟨rb,3,none⟩=false:=jN ((hb2.block rb (jE II.out.rib.row)).trans II.out.rib.row) 3;have cv:w2.cell? ⟨w.heap.size,0,none⟩=some (.slice s1 ((goP (kvs E) 32 0 0).map itP).length c1):=jA (jB H1.out 0) hb2;have ne:¬rb=w.heap.size:=by have:=HFL.out rb HH.out.frb;omega
 have ne2:¬w.heap.size=rb:=fun e=>ne e.symm;have FIN:=jh (clear_fin (all_srt (kvs E)) (all_mem HH.out.rgt) II.out.bel II.out.rib HFL.out H2.out T2 hb2);rw[List.length_map] at FIN;clear T2 hb2 r2;go_wp2_with fail;go_ret;exact FIN.out
theorem ad_Clear {rb:Nat} {peer own most:Int} {R:Rts} {F:Nat→Prop} (w:World) (h:RibAt w rb peer own most R F) (hF:∀k,F k→k<w.heap.size):Calls Tryz.prog 41 #[.pointer (some ⟨rb,0,none⟩)] w (ClearPost rb peer own most R F w):=by
 obtain⟨tb,N,E,hI,rfl⟩:=h;exact ad_Clear_in w hI hF
open Go.RowKit
theorem rts_right {W:World} {rb:Nat} {peer own most:Int} {R:Rts} {F:Nat→Prop} (h:RibAt W rb peer own most R F) {p:Pf} (hp:(getL R p).isSome=true):RgtP p:=by
 obtain⟨tb,N,E,hI,rfl⟩:=h;obtain⟨a,ha⟩:=Option.isSome_iff_exists.1 hp;rw[find_rts] at ha;cases hf:findE E p with
 |none=>rw[hf] at ha;cases ha
 |some e=>
  obtain⟨h1,rfl⟩:=findE_mem hf;exact hI.rgt e h1
theorem away_is (S:Sv) (i:Nat):modS (modS S i (withThere false)) i (withNews fun _=>false)=awayS S i:=by rw[modS_mod];rfl
section
variable {W:World} {rho:Nat→Role} {sb fb:Nat} {ls:List Pl} {S:Sv}
theorem sv_Leave_no (h:SrvM W rho sb fb ls S) {n:Int} (hn:¬(0≤n∧n<(S.ms.length:Int))):Calls Tryz.prog 24 #[.pointer (some ⟨sb,0,none⟩),.int .i64 n] W fun e w'=>e=.returned (.tuple #[.slice none 0 0,.int .i64 1])∧W=w':=by
 have MB:=jh (sv_member_no h hn);clear h hn;go_enter Tryz.func24,Tryz.ntmps24;go_wp2_with fail;refine MB.out.mono ?_;rintro e w1 ⟨rfl,rfl⟩;go_wp2_with fail;refine bodyPost_ret (v:=.tuple #[.slice none 0 0,.int .i64 1]) (by simp[results,Tryz.results24,go_sem]) rfl ⟨rfl,rfl⟩
theorem sv_Leave_off (h:SrvM W rho sb fb ls S) {i:Nat} {m:Pm} (hm:S.ms[i]? =some m) (hth:m.there=false):Calls Tryz.prog 24 #[.pointer (some ⟨sb,0,none⟩),.int .i64 i] W fun e w'=>e=.returned (.tuple #[.slice none 0 0,.int .i64 4])∧W=w':=by
 obtain⟨l,hl,hM⟩:=h.get hm;have m2:W.cell? ⟨l.mb,2,none⟩=some (.bool false):=by rw[←hth];exact jB hM.row 2
 have MB:=jh (sv_member h hl);clear h hm hl hM hth;go_enter Tryz.func24,Tryz.ntmps24;go_wp2_with fail;refine MB.out.mono ?_;rintro e w1 ⟨rfl,rfl⟩;go_wp2_with fail;refine bodyPost_ret (v:=.tuple #[.slice none 0 0,.int .i64 4]) (by simp[results,Tryz.results24,go_sem]) rfl ⟨rfl,rfl⟩
def LeavePost (sb fb:Nat) (ls:List Pl) (S:Sv) (i:Nat) (m:Pm) (rho:Nat→Role) (W:World) (e:Ending) (w':World):Prop:=
 ∃(rho':Nat→Role) (s:Option Addr) (c:Nat) (L:List Pf),e=.returned (.tuple #[.slice s L.length c,.int .i64 0])∧L.Pairwise plt∧(∀p,p∈L↔(getL m.R p).isSome=true)∧SrvM w' rho' sb fb ls (leaveS S i L)∧Step rho rho' W w'∧On (fun k=>rho' k=.no) w' (fun W=>PsAt W (.slice s L.length c) L)
theorem sv_Leave (h:SrvM W rho sb fb ls S) {i:Nat} {m:Pm} (hm:S.ms[i]? =some m) (hth:m.there=true):
  Calls Tryz.prog 24 #[.pointer (some ⟨sb,0,none⟩),.int .i64 i] W (LeavePost sb fb ls S i m rho W):=by
 obtain⟨l,hl,hM⟩:=h.get hm;have m2:W.cell? ⟨l.mb,2,none⟩=some (.bool true):=by rw[←hth];exact jB hM.row 2
 have m2f:W.frozen? ⟨l.mb,2,none⟩=false:=jN hM.row 2;have MB:=jh (sv_member h hl);have HS:=jh h;have HL:=jh hl;have HM:=jh hm;have ROW:=jh hM.row;clear h hm hl hM hth;go_enter Tryz.func24,Tryz.ntmps24;go_wp2_with fail;refine MB.out.mono ?_;rintro e w1 ⟨rfl,rfl⟩;have X1:=jh (HS.out.setT HM.out HL.out false (Kept.setCell ⟨l.mb,2,none⟩ (.bool false) rfl) (jO ROW.out 2 (.bool false)));go_upto_region 7 with (fail)
 obtain⟨w2,hw2⟩:∃w2:World,w2=W.setCell ⟨l.mb,2,none⟩ (.bool false):=⟨_,rfl⟩
 rw[←hw2] at X1 ⊢;have HM2:Hid ((modS S i (withThere false)).ms[i]? =some (withThere false m)):=jh (by rw[modS_get,HM.out];simp);have hM2:=X1.out.1.bod.mem i _ l HM2.out HL.out;have b5:w2.cell? ⟨l.mb,5,none⟩=some (.map (some l.nb)):=jB hM2.row 5;obtain⟨N,hN⟩:=hM2.news;obtain⟨o2,hs2,hm2⟩:=hN.map.empty Tryz.underlying128 w2 rfl;have hk2:Kept (fun k=>k=l.nb) w2 (ChangeMaps.setBlock w2 l.nb o2):=Kept.setBlock o2 rfl;have PN:=jh (X1.out.1.setN HM2.out HL.out (fun _=>false) (N':=[]) (fun p=>rfl) (fun x hx=>by cases hx) hk2 hm2);clear hw2 hM2 hN hm2 hk2 m2 m2f;go_upto_region 8 with (fail)
 obtain⟨w3,hw3⟩:∃w3:World,w3=ChangeMaps.setBlock w2 l.nb o2:=⟨_,rfl⟩
 rw[←hw3] at PN ⊢;have D3:Hid (SrvM w3 rho sb fb ls (awayS S i)∧Step rho rho W w3):=jh ⟨by rw[←away_is];exact PN.out.1,X1.out.2.trans PN.out.2⟩;have HM3:Hid ((awayS S i).ms[i]? =some {m with there:=false,news:=fun _=>false}):=jh (by unfold awayS;rw[modS_get,HM.out];simp);have hM3:=D3.out.1.bod.mem i _ l HM3.out HL.out;have b3:w3.cell? ⟨l.mb,3,none⟩=some (.pointer (some ⟨l.rb,0,none⟩)):=jB hM3.row 3;have CL:=jh (ad_Clear w3 hM3.rib (fun k hk=>D3.out.1.dom k (by rw[hk];intro e;cases e)));have RGT:Hid (∀p,(getL m.R p).isSome=true→RgtP p):=jh (fun p hp=>rts_right hM3.rib hp);clear b5 hs2 hw3 X1 PN hM3;go_wp2_with fail;refine CL.out.mono ?_;rintro e w4 ⟨v,L,F',rfl,ow,srt,mem,hrb,hF',hv,hk⟩;obtain⟨s,c,rfl,-⟩:=jV ow.1;have SR:=jh (D3.out.1.setRib HM3.out HL.out hrb hF' hk (fun p a h=>by simp[getL] at h));have NO:Hid (On (fun k=>extP rho w3 F' (.rib i) k=.no) w4 (fun W=>PsAt W (.slice s L.length c) L)):=jh (((own_on ow.1).wide (G:=fun k=>extP rho w3 F' (.rib i) k=.no) fun k hk _=>extP_no (jJ ow.1 k hk) (hv k hk)).imp fun W h=>OwnPs.at ⟨h,ow.2⟩);have ST:=jh (D3.out.2.trans SR.out.2);generalize extP rho w3 F' (.rib i)=rho4 at SR NO ST;have MEM:Hid (∀p,p∈L↔(getL m.R p).isSome=true):=jh mem;have SRT:=jh srt;have TN:=jh (sv_turn SR.out.1 (.slice s L.length c) L NO.out (fun p hp=>RGT.out p ((MEM.out p).1 hp)));clear ow srt mem hrb hF' hv hk CL b3 D3;go_wp2_with fail;refine TN.out.mono ?_;rintro e w5 ⟨rho5,rfl,hs5,st5⟩;have FIN:Hid (LeavePost sb fb ls S i m rho W (.returned (.tuple #[.slice s L.length c,.int .i64 0])) w5):=jh ⟨rho5,s,c,L,rfl,SRT.out,MEM.out,hs5,ST.out.trans st5,st5.free NO.out⟩;clear TN hs5 st5 NO ST SR;go_wp2_with fail;refine bodyPost_ret (v:=.tuple #[.slice s L.length c,.int .i64 0]) (by simp[results,Tryz.results24,go_sem]) rfl FIN.out
end
open Go.RowKit
section
variable {W:World} {rho:Nat→Role} {sb fb:Nat} {ls:List Pl} {S:Sv}
theorem sv_Best (h:SrvM W rho sb fb ls S) {i:Nat} {m:Pm} (hm:S.ms[i]? =some m) (p:Pf) (hp:KOk p):
  Calls Tryz.prog 27 #[.pointer (some ⟨sb,0,none⟩),.int .i64 i,.agg #[.int .u32 p.1,.int .i64 p.2]] W (BestPost (S.best i p) p W):=by
 obtain⟨l,hl,hM⟩:=h.get hm;obtain⟨L,hL⟩:=hM.bests;have MB:=jh (fun w' (hb:Below W.heap.size W w')=>sv_member (h.below hb) hl);have HP:=jh hp;have BL:=jh hL;have mb4:W.cell? ⟨l.mb,4,none⟩=some (.map (some l.bb)):=jB hM.row 4;have BG:=jh (hL.get p);obtain⟨old,hold⟩:∃old,getL L p=old:=⟨_,rfl⟩
 have HOLD:=jh hold;rw[hold] at BG;clear h hm hl hM hp hL hold;go_enter Tryz.func27,Tryz.ntmps27;go_upto_region 1 with (fail)
 obtain⟨W0,hW0,p0,p1,rz,hB⟩:=box_pr W p.1 p.2;rw[←hW0];obtain⟨pb,hpb⟩:∃pb,pb=W.heap.size:=⟨_,rfl⟩
 rw[←hpb] at p0 p1 rz;have PB:=jh hpb;have B0:=jh hB;have RZ:=jh rz;have mb4:=jA mb4 hB;rw[←hpb];clear hW0 hB rz hpb;go_wp2_with fail;refine(MB.out W0 B0.out).mono ?_;rintro e w1 ⟨rfl,rfl⟩;go_upto_region 4 with (fail)
 have LK:Hid (∀w',Below W0.heap.size W0 w'→(Instr.lookup 64 (.map (some l.bb)) (pfV p) true).run Tryz.prog w'=.ok (.tuple #[((getL L p).map bvV).getD (.agg (rtC 0 (0,0) av0)),.bool (getL L p).isSome]) w'):=jh (fun w' hb=>BL.out.map.look pf_enc Tryz.underlying64 p HP.out zero_rt w' ((jC B0.out hb).block _ BL.out.map.lt) true);rw[HOLD.out] at LK;obtain⟨ov,hov⟩:∃ov:Int×Pf×AV,ovOf old=ov:=⟨_,rfl⟩
 have EV:Hid ((old.map bvV).getD (.agg (rtC 0 (0,0) av0))=.agg (rtC ov.1 ov.2.1 ov.2.2)):=jh (by rw[←hov];cases old<;>rfl);rw[EV.out] at LK;have HOV:=jh hov;clear hov;obtain⟨had,hhad⟩:∃had,old.isSome=had:=⟨_,rfl⟩
 rw[hhad] at LK;have HHAD:=jh hhad;clear hhad;go_cut [9,10] from 17 to 25 (fun s9 s10 wx=>∃b9:Nat,s9=.pointer (some ⟨b9,0,none⟩)∧s10=.bool had∧Hid (Below W0.heap.size W0 wx∧wx.heap[b9]? =some (.cells (rtC ov.1 ov.2.1 ov.2.2) 61 (0,0))∧W0.heap.size≤b9))
 case first=>
  refine wp_region_held_drew (S:=fun w'=>Below W0.heap.size W0 w') (by kernel_rfl) ?_ (fun hHeld=>?_)
  ·exact(Below.refl _ _).drew
  generalize World.drew W0=wd at hHeld ⊢;refine qz 0 hHeld ?_;refine qz 4 hHeld ?_ (hy:=by intro w' hSw;have p0:=jA p0 hSw;have p1:=jA p1 hSw;have mb4:=jA mb4 hSw;(try clear hHeld);go_simp;try with_reducible rfl);refine jI (i:=1) (j:=9) (atS at0) (atS (atS (atS (atS (atS (atS (atS (atS (atS at0))))))))) (by kernel_rfl) ?_ ?_ (fun K hK=>?_) (fun K hK=>?_)
  ·rfl
  ·rfl
  ·(try clear hb);go_simp;go_wp2_with fail;refine hK.out _ _ hHeld fun hHeld=>?_;clear hK K;(try simp only[jz]);refine qz 2 hHeld ?_;refine qz 3 hHeld ?_ (hy:=by intro w' hSw;have p0:=jA p0 hSw;have p1:=jA p1 hSw;have mb4:=jA mb4 hSw;(try clear hHeld);go_simp;try with_reducible rfl);refine qz 5 hHeld ?_ (hy:=by intro w' hSw;have lk:=LK.out w' hSw;(try clear hHeld);go_simp;try with_reducible rfl);refine qz 6 hHeld ?_;refine qz 7 hHeld ?_;refine qz 8 hHeld ?_;refine jr 9 fun K hK=>?_;(try clear hb);go_simp;refine box_zrt (p:=K _) ?_;intro w1 hz hb1;have hgs:=hHeld.size;refine hK.out _ _ ?_ (fun hHeld=>?_);(·exact jC hHeld hb1);clear hK K;(try simp only[jz]);refine jr 10 fun K hK=>?_;(try clear hb);refine jG 61 (.tmp 9) (.tmp 24) rfl _ rfl 61 (rtC 0 (0,0) av0) _ rfl hz (by kernel_rfl) rfl (rt_one _ _ _) ?_;refine jT hz (p:=K _) ?_;intro w2 hr hk2;refine hK.out _ _ ?_ (fun hHeld=>?_);(·exact hHeld.trans (hk2.below hHeld.size (by rintro k rfl;exact hgs)));clear hK K;(try simp only[Act.put]);refine qz 11 hHeld ?_;refine wpAnyH_done (by kernel_rfl) ?_ _;go_wp2_with fail;go_meet;exact⟨_,rfl,rfl,jh ⟨hHeld,hr,hgs⟩⟩
  ·(try clear hb);go_simp;refine box_zrt (p:=K _) ?_;intro w1 hz hb1;have hgs:=hHeld.size;refine hK.out _ _ ?_ (fun hHeld=>?_);(·exact jC hHeld hb1);clear hK K;(try simp only[jz]);refine jr 1 fun K hK=>?_;(try clear hb);go_simp;go_wp2_with fail;refine hK.out _ _ hHeld fun hHeld=>?_;clear hK K;(try simp only[jz]);refine qz 2 hHeld ?_;refine qz 3 hHeld ?_ (hy:=by intro w' hSw;have p0:=jA p0 hSw;have p1:=jA p1 hSw;have mb4:=jA mb4 hSw;(try clear hHeld);go_simp;try with_reducible rfl);refine qz 5 hHeld ?_ (hy:=by intro w' hSw;have lk:=LK.out w' hSw;(try clear hHeld);go_simp;try with_reducible rfl);refine qz 6 hHeld ?_;refine qz 7 hHeld ?_;refine qz 8 hHeld ?_;refine jr 10 fun K hK=>?_;(try clear hb);refine jG 61 (.tmp 9) (.tmp 24) rfl _ rfl 61 (rtC 0 (0,0) av0) _ rfl hz (by kernel_rfl) rfl (rt_one _ _ _) ?_;refine jT hz (p:=K _) ?_;intro w2 hr hk2;refine hK.out _ _ ?_ (fun hHeld=>?_);(·exact hHeld.trans (hk2.below hHeld.size (by rintro k rfl;exact hgs)));clear hK K;(try simp only[Act.put]);refine qz 11 hHeld ?_;refine wpAnyH_done (by kernel_rfl) ?_ _;go_wp2_with fail;go_meet;exact⟨_,rfl,rfl,jh ⟨hHeld,hr,hgs⟩⟩
 case rest=>
  obtain⟨b9,rfl,rfl,HH⟩:=hcut;obtain⟨w1,hw1⟩:∃w1:World,w1=wc:=⟨_,rfl⟩
  rw[←hw1] at HH ⊢;have B1:=jh (jC B0.out HH.out.1);have Q9:=jh HH.out.2.1;have RZ1:=jh ((HH.out.1.block _ (jE RZ.out)).trans RZ.out);clear hw1 HH LK p0 p1 mb4 RZ;rcases had with _|_
  ·have BN:Hid (S.best i p=none):=jh (by rw[←BG.out];have:=HHAD.out;cases old<;>simp_all);go_wp2_with ((with_reducible refine jM (X:=.store 61 (.tmp 6) (.tmp 28)) ?_ ?_);(·rfl));unfold Halt;refine st_row rfl 61 _ _ rfl (pb+1) rfl 61 (rtC 0 (0,0) av0) (rtC 0 (0,0) av0) rfl RZ1.out (by kernel_rfl) rfl (rt_one _ _ _) ?_;go_wp2_with fail;refine bodyPost_ret (results_BestOf _ _ (pb+1) (rtC 0 (0,0) av0) rfl false ?_ ?_ (setRow_heap _ _ _ _ _ _ RZ1.out)) rfl (.inl ⟨BN.out,rfl,below_setRow B1.out (by have:=PB.out;omega) _⟩)<;>rfl
  ·obtain⟨b,hb⟩:∃b,old=some b:=by
    have:=HHAD.out;cases old with
    |none=>simp at this
    |some b=>exact⟨b,rfl⟩
   have hv:=BL.out.val (p,b) (getL_mem (HOLD.out.trans hb));have BS:Hid (S.best i p=some (b.peer,b.a)):=jh (by rw[←BG.out,hb];rfl);obtain⟨op,onet,ova⟩:=ov;have ho:(b.peer,b.net,b.v)=(op,onet,ova):=by have:=HOV.out;rw[hb] at this;exact this
   injection ho with ho1 ho2;injection ho2 with ho2 ho3;obtain rfl:onet=p:=ho2.symm.trans hv.1;have GA:=jh hv.2.2.1;have AV:=jh ((hv.2.2.2.below B1.out).self.at);rw[ho3] at AV;rw[ho1] at BS;have CL:=jh (sv_clone op onet b.a ova w1 AV.out GA.out.sz);clear hb hv ho1 ho2 ho3 HOV HOLD;go_wp2_with ((with_reducible refine jM (X:=.load 61 (.tmp 9)) ?_ ?_);(·rfl));unfold Halt;refine ld_at (by rfl) 61 (.tmp 9) rfl b9 rfl 61 (rtC op onet ova) (0,0) _ Q9.out Tryz.underlying61 rfl sz_rt ?_;go_wp2_with fail;refine CL.out.mono ?_;rintro e w2 ⟨u,rfl,fr,hb2⟩;have FR:=jh fr;have B2:=jh (jC B1.out hb2);have RZ2:=jh ((hb2.block _ (jE RZ1.out)).trans RZ1.out);have LT:Hid (pb+1<w1.heap.size):=jh (jE RZ1.out);clear fr hb2 CL;go_wp2_with ((with_reducible refine jM (X:=.store 61 (.tmp 6) (.tmp 30)) ?_ ?_);(·rfl));unfold Halt;refine st_row rfl 61 _ _ rfl (pb+1) rfl 61 (rtC 0 (0,0) av0) (rtC op onet u) rfl RZ2.out (by kernel_rfl) rfl (rt_one _ _ _) ?_;have HK:=jh (kept_setRow (w:=w2) (F:=fun k=>k=pb+1) (pb+1) (rtC op onet u) rfl);have FU:Hid (Fresh W.heap.size (w2.setRow (pb+1) (rtC op onet u)) (fun W=>AvU W b.a u)):=jh ((FR.out.kept HK.out (fun k _ hl e=>by have:=LT.out;omega)).wide (fun k hk _=>by have:=LT.out;have:=PB.out;omega));go_wp2_with fail;refine bodyPost_ret (results_BestOf _ _ (pb+1) (rtC op onet u) rfl true ?_ ?_ (setRow_heap _ _ _ _ _ _ RZ2.out)) rfl (.inr ⟨op,b.a,u,BS.out,rfl,GA.out,FU.out,below_setRow B2.out (by have:=PB.out;omega) _⟩)<;>rfl
end
open Go.RowKit
section
variable {α:Type} {T:TypeId} {k:Nat} {C:α→List Value} {M:α→World→Prop}
structure OwnR (T:TypeId) (k:Nat) (C:α→List Value) (M:α→World→Prop) (w:World) (B:Nat) (v:Value) (xs:List α) (A:Nat→Prop):Prop where
 own:w.ownsRow B T k v xs.length (xs.flatMap C)
 mem:On A w (fun W=>∀x∈xs,M x W)
 lt:∀k,A k→B≤k∧k<w.heap.size
 apt:∀g,v.ownBlock=some g→¬A g
variable {w w1 w2 w3:World} {B:Nat} {v:Value} {xs:List α} {A:Nat→Prop}
theorem OwnR.below (h:OwnR T k C M w B v xs A) (hb:Below w.heap.size w w1):OwnR T k C M w1 B v xs A:=
 ⟨jQ h.own hb,h.mem.below hb,fun k hk=>⟨(h.lt k hk).1,Nat.lt_of_lt_of_le (h.lt k hk).2 hb.size⟩,h.apt⟩
theorem OwnR.kept {G:Nat→Prop} (h:OwnR T k C M w B v xs A) (hk:Kept G w w1) (h1:∀g,v.ownBlock=some g→¬G g) (h2:∀g,A g→¬G g):OwnR T k C M w1 B v xs A:=
 ⟨((own_on h.own).kept hk fun g _ hg=>h1 g hg).self,h.mem.kept hk fun g _ hg=>h2 g hg,fun k hk'=>⟨(h.lt k hk').1,Nat.lt_of_lt_of_le (h.lt k hk').2 hk.size⟩,h.apt⟩
theorem OwnR.nil (w:World) (B:Nat):OwnR T k C M w B (.slice none 0 0) [] (fun _=>False):=
 ⟨⟨by simp,.inl ⟨rfl,rfl⟩⟩,fun _ _ x hx=>(by cases hx),fun _ h=>h.elim,fun _ h=>(by cases h)⟩
theorem OwnR.base {B':Nat} (h:OwnR T k C M w B v xs A) (hb:B'≤B):OwnR T k C M w B' v xs A:=⟨own_base h.own hb,h.mem,fun k hk=>⟨Nat.le_trans hb (h.lt k hk).1,(h.lt k hk).2⟩,h.apt⟩
theorem OwnR.fresh (hC:∀x,(C x).length=k) (h:OwnR T k C M w B v xs A):Fresh B w (fun W=>SlAt W k (fun x cs=>cs=C x) v xs∧∀x∈xs,M x W):=
 ((own_fresh h.own).imp fun _ hW=>own_slat hC hW).and (h.mem.wide fun k hk _=>(h.lt k hk).1)
theorem OwnR.step (h:OwnR T k C M w B v xs A) {x:α} {v':Value} {lo:Nat} (b01:Below w.heap.size w w1) (hlo:w.heap.size≤lo) (hB:B≤w.heap.size) (fr:Fresh lo w1 (M x)) (b12:Below w1.heap.size w1 w2)
  (h2:w3.ownsRow B T k v' (xs.length+1) (xs.flatMap C++C x)) (hk:Kept (fun b=>v.ownBlock=some b) w2 w3) (hat:v'.ownBlock=v.ownBlock∨v'.ownBlock=some w2.heap.size):OwnR T k C M w3 B v' (xs++[x]) (fun k=>A k∨(lo≤k∧k<w1.heap.size)):=by
 have ol:=own_lt h.own;have s1:=b01.size;have s2:=b12.size;have s3:=hk.size;refine⟨?_,?_,?_,?_⟩
 ·rw[List.length_append,List.flatMap_append];simpa using h2
 ·have m1:=((h.mem.below (b01.trans (b12.mono s1))).kept hk fun k _ hA hg=>h.apt k hg hA)
  refine((m1.wide (G:=fun k=>A k∨(lo≤k∧k<w1.heap.size)) fun k hA _=>.inl hA).and (R:=M x) ?_).imp fun W h y hy=>?_
  ·intro W hW;refine fr W fun k hk' hl=>?_;have e1:=hW k (.inr ⟨hk',hl⟩) (by omega);exact e1.trans ((hk.block k (by omega) (fun hg=>by have:=ol k hg;omega)).trans (b12.block k hl))
  ·rcases List.mem_append.1 hy with hy|hy
   ·exact h.1 y hy
   ·simp at hy;subst hy;exact h.2
 ·rintro k (hk'|hk')
  ·have:=h.lt k hk';omega
  ·omega
 ·rintro g hg (hA|hA)
  ·rcases hat with e|e
   ·rw[e] at hg;exact h.apt g hg hA
   ·rw[e] at hg;injection hg with hg;have:=(h.lt g hA).2;omega
  ·rcases hat with e|e
   ·rw[e] at hg;have:=ol g hg;omega
   ·rw[e] at hg;injection hg with hg;omega
end
structure BE where
 peer:Int
 p:Pf
 a:At
 v:AV
instance:Inhabited BE:=⟨⟨0,(0,0),⟨0,0,[],0,0,0,0,0,[],[]⟩,av0⟩⟩
def beL (x:BE):List Value:=(rtC x.peer x.p x.v).toList
theorem beL_len (x:BE):(beL x).length=13:=rfl
theorem beL_one (x:BE):∀u∈beL x,u.oneCell'=true:=by
 intro u hu;have:=rt_one x.peer x.p x.v;rw[Array.all_eq_true_iff_forall_mem] at this;exact this u (by simpa [beL] using hu)
abbrev OwnBs:=OwnR 61 13 beL (fun x W=>AvU W x.a x.v)
def becmp (x y:BE):Int:=pcmp x.p y.p
theorem ltOf_be (x y:BE):Go.Proofs.ltOf becmp x y=decide (plt x.p y.p):=ltOf_pcmp x.p y.p
theorem swo_be:Sort.SWO (Go.Proofs.ltOf becmp) where
 irrefl x:=swo_pcmp.irrefl x.p
 trans x y z:=swo_pcmp.trans x.p y.p z.p
 ntrans x y z:=swo_pcmp.ntrans x.p y.p z.p
theorem be_cmp (x y:BE) (w:World):Calls Tryz.prog 69 #[.agg (beL x).toArray,.agg (beL y).toArray] w fun e w'=>e=.returned (.int .i64 (becmp x y))∧Dr w w':=by
 show Calls Tryz.prog 69 #[.agg (rtC x.peer x.p x.v),.agg (rtC y.peer y.p y.v)] w fun e w'=>e=.returned (.int .i64 (pcmp x.p y.p))∧Dr w w';have CP:=jh (fun W=>ip_CmpD x.p.1 x.p.2 y.p.1 y.p.2 W);go_enter Tryz.func69,Tryz.ntmps69;go_upto_region 1 with (fail)
 obtain⟨W0,hW0,q0,q1,-⟩:=boxTwo w (rtC x.peer x.p x.v) 61 (rtC y.peer y.p y.v) 61;have D:Hid (Dr w W0):=jh (by rw[hW0];exact((Dr.refl w).alloc _).alloc _);rw[←hW0];clear hW0;have c0:W0.cell? ⟨w.heap.size,1,none⟩=some (.int .u32 x.p.1):=jB q0 1;have c1:W0.cell? ⟨w.heap.size,2,none⟩=some (.int .i64 x.p.2):=jB q0 2;have c2:W0.cell? ⟨w.heap.size+1,1,none⟩=some (.int .u32 y.p.1):=jB q1 1;have c3:W0.cell? ⟨w.heap.size+1,2,none⟩=some (.int .i64 y.p.2):=jB q1 2;clear q0 q1;go_wp2_with fail;refine(CP.out W0).mono ?_;rintro e w1 ⟨rfl,hd⟩;have D1:=jh (D.out.on hd);clear hd CP D;go_wp2_with fail;go_ret;exact⟨rfl,D1.out⟩
theorem cmp_laysB (blk off size:Nat) (w:World):CmpLays Tryz.prog 69 #[] beL 13 becmp blk off size w:=by
 intro m os dk _ x y;exact(be_cmp x y _).mono fun e w' ⟨he,hd⟩=>⟨he,hd.grow⟩
theorem flatK_be (xs:List BE):Sort.flatK beL 13 xs.toArray=(xs.flatMap beL).toArray:=by
 apply Sort.ext_get!
 ·rw[Sort.size_flatK];simp[jX beL_len]
 ·intro t ht;rw[Sort.size_flatK] at ht;have ht':t<xs.length*13:=by simpa using ht
  rw[Sort.get_flatK _ _ _ _ ht];have hi:t/13<xs.length:=by omega
  have hf:=flat_get beL_len xs (t/13) _ (List.getElem?_eq_getElem hi) (t%13) (by omega);rw[show t/13*13+t%13=t by omega] at hf;have h1:xs.toArray[t/13]! =xs[t/13]:=by simp[hi]
  rw[h1];have hl:(xs.flatMap beL).length=xs.length*13:=jX beL_len xs;have hm:t%13<(beL xs[t/13]).length:=by rw[beL_len];omega
  rw[List.getElem?_eq_getElem hm,List.getElem?_eq_getElem (by rw[hl];exact ht')] at hf;have hf:=Option.some.inj hf;rw[getElem!_pos (xs.flatMap beL).toArray t (by simpa [hl] using ht'),getElem!_pos (beL xs[t/13]) (t%13) hm];simpa using hf.symm
theorem isAgg_rt:∀w,(isAgg 61).run Tryz.prog w=.ok true w:=Tryz.isAgg61
theorem sizeOf_rt:∀w,(Go.sizeOf 61).run Tryz.prog w=.ok 13 w:=Tryz.sizeOf61
theorem own_cur {w:World} {B k n:Nat} {e:TypeId} {v:Value} {xs:List Value} (h:w.ownsRow B e k v n xs):(v=.slice none 0 0∧n=0)∨∃g c cur,v=.slice (some ⟨g,0,none⟩) n c∧w.heap[g]? =some (.cells cur e (0,0))∧cur.size=c*k∧cur.toList.take (n*k)=xs∧n≤c:=by
 obtain⟨_,⟨rfl,h0⟩|⟨g,cap,cur,rfl,_,hg,hn,_,hs,hc⟩⟩:=h
 ·exact .inl ⟨rfl,h0⟩
 ·exact .inr ⟨g,cap,cur,rfl,hg,hs,hc,hn⟩
theorem be_Sort (lo:Nat) (v:Value) (L:List BE) (w:World) (h:w.ownsRow lo 61 13 v L.length (L.flatMap beL)) (hn:L.length≤8589934592):
  Calls Tryz.prog 68 #[v,.func (.func 69) #[] #[]] w fun e w'=>∃L':List BE,e=.returned (.tuple #[])∧L'.Perm L∧L'.Pairwise (fun x y=>¬plt y.p x.p)∧w'.ownsRow lo 61 13 v L'.length (L'.flatMap beL)∧Kept (fun b=>v.ownBlock=some b) w w':=by
 rcases own_cur h with⟨rfl,h0⟩|⟨g,c,cur,rfl,hg,hsz,htk,hnc⟩
 ·obtain rfl:=List.length_eq_zero_iff.1 h0;refine(AnyF.slices_SortFunc_none Tryz.sortR none 0 _ w).mono ?_;rintro e w' ⟨rfl,rfl⟩;exact⟨[],rfl,List.Perm.refl _,List.Pairwise.nil,h,Kept.refl _ _⟩
 ·have eg:∀args w,(callFunc 69 args).run Tryz.prog w=.ok (.enter 69 args) w:=enters_of Tryz.func69 (by kernel_rfl) rfl;have hH:Sort.HoldsK beL 13 w g 0 L.toArray:=by
   unfold Sort.HoldsK;rw[flatK_be];intro j hj;rw[List.size_toArray,jX beL_len] at hj;have hl:(L.flatMap beL)[j]? =cur[j]?:=by
    rw[←htk,List.getElem?_take_of_lt hj,Array.getElem?_toList]
   rw[Nat.zero_add];refine⟨?_,jN hg j⟩;rw[jB hg,←hl,List.getElem?_eq_getElem (by rw[jX beL_len];exact hj)];rw[getElem!_pos _ _ (by simpa [jX beL_len] using hj)];simp
  have hcon:=AnyQ.slices_SortFunc Tryz.sortR 13 isAgg_rt sizeOf_rt beL beL_len beL_one becmp swo_be 69 #[] g 0 c L.toArray w eg (cmp_laysB g 0 L.toArray.size w) hH (jE hg) (by simp;omega);rw[List.size_toArray] at hcon;refine hcon.mono ?_;rintro e w' ⟨rfl,d',n,os,⟨hp1,-,hp3⟩,hso,rfl⟩;have hlen:d'.size=L.length:=by rw[hp1];simp
  have hperm:d'.toList.Perm L:=by
   have e1:d'.extract 0 L.length=d':=by rw[←hlen];simp
   have e2:L.toArray.extract 0 L.length=L.toArray:=by simp
   rw[e1,e2] at hp3;simpa using hp3
  have hsort:d'.toList.Pairwise (fun x y=>¬plt y.p x.p):=by
   rw[List.pairwise_iff_getElem];intro i j hi hj hij;have:=hso i j (Nat.zero_le _) hij (by simpa [hlen] using hj);rw[ltOf_be] at this;simp only[Array.length_toList] at hi hj;rw[getElem!_pos d' j hj,getElem!_pos d' i hi] at this;simpa using this
  have hl3:d'.toList.length=L.length:=Array.length_toList.trans hlen;have hp:=own_put h (ys:=d'.toList.flatMap beL) (by rw[jX beL_len,hl3]) n os;refine⟨d'.toList,rfl,hperm,hsort,?_,?_⟩
  ·rw[hl3];unfold Go.Proofs.sortWorldK Sort.putRowK;have:Sort.flatK beL 13 d'=(d'.toList.flatMap beL).toArray:=by rw[←flatK_be]
   rw[this];exact hp.1
  ·unfold Go.Proofs.sortWorldK Sort.putRowK;have:Sort.flatK beL 13 d'=(d'.toList.flatMap beL).toArray:=by rw[←flatK_be]
   rw[this];exact hp.2.imp fun b hb=>by rw[hb];rfl
open Go.RowKit
theorem info_rtB:(Tryz.prog.info? 61).map (fun i=>(i.zero,i.size,i.bytes))=some (some (.agg #[.int .i64 0,.int .u32 0,.int .i64 0,.int .i64 0,.int .i64 0,.slice none 0 0,.int .u32 0,.int .i64 0,.int .i64 0,.int .i64 0,.int .u32 0,.slice none 0 0,.slice none 0 0]),13,152):=by kernel_rfl
theorem wpList_rt1 {ops:Array Oper} {rest:List Oper} {o:Oper} {a:Act} {w:World} {Q:Exit→Act→World→Prop} (x:Operand) (hg:o.guard=none) (ho:o.op=.buildSlice 57 1 #[(0,x)]) (peer:Int) (p:Pf) (v:AV) (hx:a.eval x=.agg (rtC peer p v))
  (h:∀w2:World,(∀(j:Nat) (u:Value),((rtC peer p v).toList)[j]? =some u→w2.cell? ((⟨w.heap.size,0,none⟩:Addr).add j)=some u)→Below w.heap.size w w2→w2.heap.size=w.heap.size+1→wpList Tryz.prog ops Q rest (a.put o.dst (.slice (some ⟨w.heap.size,0,none⟩) 1 1)) w2):wpList Tryz.prog ops Q (o::rest) a w:=by
 obtain⟨i0,hii,hz0,hz1,hz2⟩:=info_parts info_rtB;refine wpList_buildSlice hg 57 61 1 _ ho (rtC peer p v) i0 _ Tryz.underlying57 hii hz0 (by rw[hz1];decide) (by rw[hz1];decide) ?_ (h _ (new_cells w _ _) ((Below.refl _ _).alloc (Nat.le_refl _) _) (by simp));rw[hz1];simp only[List.map_toArray,List.map_cons,List.map_nil,hx];kernel_rfl
def BestsPost (best:Pf→Option (Int×At)) (W:World) (e:Ending) (w':World):Prop:=
 ∃(s:Option Addr) (c:Nat) (L:List BE) (A:Nat→Prop),e=.returned (.slice s L.length c)∧OwnBs w' W.heap.size (.slice s L.length c) L A∧(L.map (·.p)).Pairwise plt∧(∀x∈L,best x.p=some (x.peer,x.a)∧RgtP x.p∧GoodA x.a)∧(∀p b,best p=some b→p∈L.map (·.p))∧Below W.heap.size W w'
section
variable {W:World} {rho:Nat→Role} {sb fb:Nat} {ls:List Pl} {S:Sv}
theorem sv_Bests (h:SrvM W rho sb fb ls S) {i:Nat} {m:Pm} (hm:S.ms[i]? =some m):Calls Tryz.prog 25 #[.pointer (some ⟨sb,0,none⟩),.int .i64 i] W (BestsPost (S.best i) W):=by
 obtain⟨l,hl,hM⟩:=h.get hm;have MB:=jh (sv_member h hl);have m4:W.cell? ⟨l.mb,4,none⟩=some (.map (some l.bb)):=jB hM.row 4;obtain⟨N,hN⟩:=hM.bests;obtain⟨w3,hr,hR,hB,hz⟩:=hN.map.range Tryz.underlying64;obtain⟨rb,hrb⟩:∃rb,rb=W.heap.size:=⟨_,rfl⟩
 rw[←hrb] at hr hR;have RBW:Hid (W.heap.size≤rb):=jh (by omega);have HR:=jh hR;have HN:=jh hN;have FEW:=jh (rgt_few hN.map.apart fun x hx=>(hN.val x hx).2.1);have LBB:Hid (l.bb<W.heap.size):=jh hN.map.lt;have B0:=jh hB;have O0:Hid (OwnBs w3 W.heap.size (.slice none 0 0) [] (fun _=>False)):=jh (OwnR.nil w3 W.heap.size);obtain⟨i0,hii,hz0,hz1,hz2⟩:=info_parts info_rtB;clear h hm hl hM hN hR hB hz hrb;go_enter Tryz.func25,Tryz.ntmps25;go_wp2_with fail;refine MB.out.mono ?_;rintro e w1 ⟨rfl,rfl⟩;go_wp2_with fail;clear hr m4;go_loopw [6] (fun t6 wr=>∃(left:List (Pf×BV)) (s:Option Addr) (c:Nat) (xs:List BE) (A:Nat→Prop),t6=.slice s xs.length c∧Hid ((xs.map (·.p)++left.map (·.1)).Perm (N.map (·.1)))∧Hid (OwnBs wr W.heap.size (.slice s xs.length c) xs A)∧Hid (∀x∈xs,S.best i x.p=some (x.peer,x.a)∧RgtP x.p∧GoodA x.a)∧Hid (Below W.heap.size W wr)∧Hid (RangeT pfV bvV KOk wr l.bb rb N left)∧Hid (∀g,(Value.slice s xs.length c).ownBlock=some g→g≠rb)∧Hid (∀k,A k→k≠rb)) (fun _ wr=>wr.rangeLeft l.bb rb)
 case atStart=>exact⟨N,none,0,[],_,rfl,jh (List.Perm.refl _),O0,jh (fun x hx=>by cases hx),B0,HR,jh (fun g hg=>by cases hg),jh (fun k hk=>hk.elim)⟩
 case round=>
  clear B0 HR O0;obtain⟨left,s,c,xs,A,rfl,PM,OP,XV,BV,RT,NE,NEA⟩:=hrel;have XL:Hid (xs.length≤2^33):=jh (by
   have h1:=PM.out.length_eq;have h2:=FEW.out;simp at h1;omega)
  rcases RT.out.next (P:=Tryz.prog) 0 with⟨rfl,hn⟩|⟨k,q,w4,hi,hq,hn,hR1,hk1,hz1,hen⟩
  ·have hn':∀ty,(Instr.next (.pointer (some ⟨rb,0,none⟩)) false ty).run Tryz.prog wr=.ok (.tuple #[.bool false]) wr:=fun _=>hn;clear hn;have XP:Hid ((xs.map (·.p)).Perm (N.map (·.1))):=jh (by have:=PM.out;simpa using this);have SO:=jh (be_Sort W.heap.size (.slice s xs.length c) xs wr OP.out.own (by have:=XL.out;omega));clear RT PM NE;go_wp2_with fail;refine SO.out.mono ?_;rintro e w5 ⟨ys,rfl,yp,ys1,yo,yk⟩;have yl:=yp.length_eq;have FIN:Hid (BestsPost (S.best i) W (.returned (.slice s xs.length c)) w5):=jh (by
    refine⟨s,c,ys,A,by rw[yl],⟨?_,?_,?_,?_⟩,?_,fun x hx=>XV.out x (yp.mem_iff.1 hx),fun p b hb=>?_,?_⟩
    ·rw[yl];rw[yl] at yo;exact yo
    ·exact(OP.out.mem.kept yk fun g _ hA hg=>OP.out.apt g hg hA).imp fun V hV x hx=>hV x (yp.mem_iff.1 hx)
    ·exact fun k hk=>⟨(OP.out.lt k hk).1,Nat.lt_of_lt_of_le (OP.out.lt k hk).2 yk.size⟩
    ·rw[yl];exact OP.out.apt
    ·refine srt_strict ?_ ?_
     ·rw[List.pairwise_map];exact ys1
     ·exact((yp.map (·.p)).nodup_iff).2 ((XP.out.nodup_iff).2 (keysU_nodup HN.out.map.apart))
    ·have h1:(getL N p).isSome=true:=by
      have:=HN.out.get p;rw[hb] at this;cases hg:getL N p with
      |none=>rw[hg] at this;cases this
      |some x=>rfl
     have h2:=(keysU_mem HN.out.map.apart p).2 h1;exact((yp.map (·.p)).mem_iff).2 (XP.out.mem_iff.2 h2)
    ·exact BV.out.trans (yk.below BV.out.size fun g hg=>jJ OP.out.own g hg))
   clear yp ys1 yo yk yl SO;go_wp2_with fail;go_ret;exact FIN.out
  ·have hrl:=jh RT.out.left_eq;have hle:Hid ((left.eraseIdx k).length+1=left.length):=jh (by
    have:=(List.getElem?_eq_some_iff.1 hi).1;rw[List.length_eraseIdx_of_lt this];omega)
   have PM2:Hid (((xs.map (·.p)++[q.1])++(left.eraseIdx k).map (·.1)).Perm (N.map (·.1))):=jh (by
    refine List.Perm.trans ?_ PM.out;rw[List.append_assoc];exact List.Perm.append_left _ (by simpa using (erase_perm hi).map Prod.fst))
   have VL:=jh (HN.out.val q hq);have QB:Hid (S.best i q.1=some (q.2.peer,q.2.a)):=jh (by rw[←HN.out.get q.1,getL_of_mem HN.out.map.apart (a:=q.1) (v:=q.2) hq];rfl);have BV4:Hid (Below W.heap.size W w4):=jh (BV.out.trans (hk1.below BV.out.size (by rintro k rfl;exact RBW.out)));have O4:=jh (OP.out.kept hk1 (fun g hg e=>NE.out g hg e) (fun k hA e=>NEA.out k hA e));have RT4:=jh hR1;have XL2:Hid (xs.length+1≤2^33):=jh (by
    have h1:=PM2.out.length_eq;have h2:=FEW.out;simp at h1;omega)
   clear hi hq hk1 hz1 BV OP PM hR1 XL RT;obtain⟨⟨p1,p2⟩,⟨bp,bn,ba,bav⟩⟩:=q;obtain rfl:bn=(p1,p2):=VL.out.1;have AV0:=jh ((VL.out.2.2.2.below BV4.out).self.at);have hn':∀ty,(Instr.next (.pointer (some ⟨rb,0,none⟩)) false ty).run Tryz.prog wr=.ok (.tuple #[.bool true,.agg #[.int .u32 p1,.int .i64 p2],.agg (rtC bp (p1,p2) bav)]) w4:=fun _=>hn;have he':(Instr.entry (.pointer (some ⟨rb,0,none⟩))).run Tryz.prog w4=.ok (.tuple #[.agg #[.int .u32 p1,.int .i64 p2],.agg (rtC bp (p1,p2) bav)]) w4:=hen;clear hn hen;go_upto_region 7 with (fail)
   clear hn';go_wp2_with ((with_reducible refine jM (X:=.store 61 (.tmp 8) (.tmp 22)) ?_ ?_);(·rfl));unfold Halt;refine st_fresh rfl 61 (.tmp 8) (.tmp 22) rfl rfl _ (rtC bp (p1,p2) bav) rfl sz_rt rfl (rt_one _ _ _) ?_;obtain⟨w5,hw5,q5,hb5,-⟩:=box1 w4 (rtC bp (p1,p2) bav) 61;rw[←hw5];obtain⟨b8,hb8⟩:∃b,b=w4.heap.size:=⟨_,rfl⟩
   rw[←hb8] at q5 ⊢;have Q5:=jh q5;have BV5:=jh (jC BV4.out hb5);have O5:=jh (O4.out.below hb5);have RT5:=jh (RT4.out.below hb5);have CL:=jh (sv_clone bp (p1,p2) ba bav w5 (AV0.out.below hb5) VL.out.2.2.1.sz);clear hw5 q5 hb5 hb8 he' O4 RT4 BV4 AV0;simp only[Act.put];go_wp2_with ((with_reducible refine jM (X:=.load 61 (.tmp 8)) ?_ ?_);(·rfl));unfold Halt;refine ld_at (by rfl) 61 (.tmp 8) rfl b8 rfl 61 (rtC bp (p1,p2) bav) (0,0) _ Q5.out Tryz.underlying61 rfl sz_rt ?_;go_wp2_with fail;refine CL.out.mono ?_;rintro e w6 ⟨u,rfl,fr,hb6⟩;have FR:=jh fr;have B6:=jh hb6;have RT6:=jh (RT5.out.below hb6);have BV6:=jh (jC BV5.out hb6);clear fr hb6 CL;go_wp2_with ((with_reducible refine wpList_rt1 (.tmp 25) rfl ?_ bp (p1,p2) u ?_ ?_);(·rfl);(·rfl));intro w7 hc7 hb7 hz7;have O7:=jh ((O5.out.below B6.out).below hb7);have B7:=jh hb7;have RT7:=jh (RT6.out.below hb7);have BV7:=jh (jC BV6.out hb7);have HZ7:=jh hz7;have RBL:Hid (rb<w7.heap.size):=jh RT7.out.lt;have RB5:Hid (rb<w5.heap.size):=jh RT5.out.lt;clear hb7 hz7 RT6;refine wpList_append_own_at _ rfl (.tmp 23) (.tmp 26) 57 rfl W.heap.size 61 i0 _ 13 152 Tryz.underlying57 hii hz0 hz1 hz2 rfl (by decide) (.slice s xs.length c) xs.length (xs.flatMap beL) rfl O7.out.own ⟨w6.heap.size,0,none⟩ 1 1 (rtC bp (p1,p2) u).toList rfl rfl (fun j y hy=>by have h:=hc7 j y hy;unfold Addr.add;split;(·rename_i e;subst e;exact h);(·simpa using h)) (beL_one ⟨bp,(p1,p2),ba,u⟩) (by have:=XL2.out;unfold maxLen;omega) (by have:=XL2.out;omega) BV7.out.size ?_;intro v8 w8 h2 h3 _ hat;obtain⟨s8,c8,hv8,-⟩:=jV h2;subst hv8;have OX:=jh (O5.out.step (x:=⟨bp,(p1,p2),ba,u⟩) B6.out (Nat.le_refl _) BV5.out.size FR.out B7.out h2 (kept_gr h3) hat);have ol:=own_lt O5.out.own;have RT8:=jh (RT7.out.kept (kept_gr h3) (fun e=>by have h1:=jJ O7.out.own _ e;have:=LBB.out;omega) (fun e=>NE.out _ e rfl));have BV8:=jh (BV7.out.trans ((kept_gr h3).below BV7.out.size fun g hg=>jJ O7.out.own g hg));have NE8:Hid (∀g,(Value.slice s8 (xs.length+1) c8).ownBlock=some g→g≠rb):=jh (fun g hg e=>by
    rcases hat with h|h
    ·rw[h] at hg;exact NE.out g hg e
    ·rw[h] at hg;injection hg with hg;have:=RBL.out;omega)
   have NEA8:Hid (∀k,(A k∨(w5.heap.size≤k∧k<w6.heap.size))→k≠rb):=jh (fun k hk e=>by
    rcases hk with hk|hk
    ·exact NEA.out k hk e
    ·have:=RB5.out;omega)
   have XV8:Hid (∀x∈xs++[⟨bp,(p1,p2),ba,u⟩],S.best i x.p=some (x.peer,x.a)∧RgtP x.p∧GoodA x.a):=jh (fun x hx=>by
    rcases List.mem_append.1 hx with hx|hx
    ·exact XV.out x hx
    ·simp at hx;subst hx;exact⟨QB.out,VL.out.2.1,VL.out.2.2.1⟩)
   have PM8:Hid (((xs++[⟨bp,(p1,p2),ba,u⟩]:List BE).map (·.p)++(left.eraseIdx k).map (·.1)).Perm (N.map (·.1))):=jh (by rw[List.map_append];exact PM2.out);have RL:Hid (w8.rangeLeft l.bb rb<wr.rangeLeft l.bb rb):=jh (by rw[RT8.out.left_eq,hrl.out];have:=hle.out;omega);have EL:Hid (xs.length+1=(xs++[(⟨bp,(p1,p2),ba,u⟩:BE)]).length):=jh (by simp);rw[EL.out] at OX NE8;clear h2 h3 hat hc7 ol O7 RT7 BV7 O5 RT5 BV5 FR;rw[EL.out];go_wp2_with fail;exact⟨⟨left.eraseIdx k,s8,c8,xs++[⟨bp,(p1,p2),ba,u⟩],_,by rw[EL.out],PM8,OX,XV8,BV8,RT8,NE8,NEA8⟩,RL.out⟩
end
end Go.Proofs.YtkoidahgbbabiaaGreat
