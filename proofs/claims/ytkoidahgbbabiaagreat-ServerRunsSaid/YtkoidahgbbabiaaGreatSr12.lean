/- Texts of one proof, one behind another. -/
import Derived.Test.YtkoidahgbbabiaaGreatSr11
import Derived.Test.YtkoidahgbbabiaaGreatSr9
import Derived.Test.YtkoidahgbbabiaaGreatSr7
import Derived.Test.YtkoidahgbbabiaaGreatSr1
set_option maxRecDepth 100000
set_option maxHeartbeats 100000000
namespace Go.Proofs.YtkoidahgbbabiaaGreat
open Go.RowKit
theorem zero_rt (w:World):(zeroValue 61).run Tryz.prog w=.ok (.agg (rtC 0 (0,0) av0)) w:=by kernel_rfl
theorem RgtP.key {p:Pf} (h:RgtP p):KOk p:=right_key h.1 h.2
def ovOf:Option BV→Int×Pf×AV
 |none=>(0,(0,0),av0)
 |some b=>(b.peer,b.net,b.v)
structure AllC (p:Pf) (xs:List CV):Prop where
 ok:∀x∈xs,OkC x.c
 peer:∀x∈xs,∃j:Nat,j<16∧x.c.peer=(j:Int)
 net:∀x∈xs,(x.c.na:Int)=p.1∧x.c.nl=p.2
 len:xs.length≤16
theorem cd_of {W:World} {v:Value} {xs:List CV} (h:CvsAt W v xs) (ho:∀x∈xs,OkC x.c) (hl:xs.length≤16):Calls Tryz.prog 101 #[v] W fun e w'=>e=.returned (.int .i64 (bestI (xs.map (·.c))))∧Below W.heap.size W w':=
 ch_Best v (xs.map (·.c)) W (h.cds ho) (by rw[List.length_map];omega) fun c hc=>by
  obtain⟨x,hx,rfl⟩:=List.mem_map.1 hc;exact(ho x hx).2.2.2.2.hops
theorem renew_same {S:Sv} {rc:Nat} {p:Pf} {l:List Cd} (h:S.best rc p=newBest S rc l):renewP S rc p l=S:=by
 unfold renewP;have e:sameB (S.best rc p) (newBest S rc l)=true:=(sameB_iff _ _).2 h;rw[e,setBest_same S rc p _ h];exact markS_no S rc p _ fun m _=>by simp
theorem renew_new {S:Sv} {rc:Nat} {p:Pf} {l:List Cd} (h:sameB (S.best rc p) (newBest S rc l)=false):renewP S rc p l=markS (setBestS S rc p (newBest S rc l)) rc p true:=by
 unfold renewP;rw[h];rfl
theorem cv_rt {W:World} {g o:Nat} {x:CV} {p:Pf} (h:W.rangeAt g o (cvL x)) (h1:(x.c.na:Int)=p.1) (h2:x.c.nl=p.2):W.rangeAt g o (rtC x.c.peer p x.v).toList:=by
 obtain⟨p1,p2⟩:=p;simp only at h1 h2;subst h1;subst h2;intro j v hv;have hj:j<13:=(List.getElem?_eq_some_iff.1 hv).1;refine h j v ?_;rw[←hv]
 match j,hj with
 |0,_=>rfl
 |1,_=>rfl
 |2,_=>rfl
 |3,_=>rfl
 |4,_=>rfl
 |5,_=>rfl
 |6,_=>rfl
 |7,_=>rfl
 |8,_=>rfl
 |9,_=>rfl
 |10,_=>rfl
 |11,_=>rfl
 |12,_=>rfl
theorem sv_renew {W:World} {rho:Nat→Role} {sb fb:Nat} {ls:List Pl} {S:Sv} (h:SrvM W rho sb fb ls S) {rc:Nat} {m:Pm} (hm:S.ms[rc]? =some m) (p:Pf) (hp:RgtP p) (va:Value) (xs:List CV) (hx:On (fun k=>rho k=.no) W (fun W=>CvsAt W va xs)) (ha:AllC p xs):
  Calls Tryz.prog 71 #[.pointer (some ⟨sb,0,none⟩),.int .i64 rc,.agg #[.int .u32 p.1,.int .i64 p.2],va] W fun e w'=>
   ∃rho',e=.returned (.tuple #[])∧SrvM w' rho' sb fb ls (renewP S rc p (xs.map (·.c)))∧Step rho rho' W w':=by
 obtain⟨s,cap,c0,-,hcs⟩:=h.cells;obtain⟨l,hl,hM⟩:=h.get hm;obtain⟨g,o,rfl,m0⟩:=hcs rc l hl;have few:=h.bod.few;have hrc:rc<S.ms.length:=(List.getElem?_eq_some_iff.1 hm).1;have r0:(0:Int)≤(rc:Int):=by omega
 have r1:(rc:Int)<(S.ms.length:Int):=by omega
 obtain⟨L,hL⟩:=hM.bests;have HS:=jh h;have HX:=jh hx;have HA:=jh ha;have HM:=jh hm;have HL:=jh hl;have BL:=jh hL;have HP:=jh hp;have mb4:W.cell? ⟨l.mb,4,none⟩=some (.map (some l.bb)):=jB hM.row 4;have OFF:=jh (fun w' (hb:Below W.heap.size W w')=>sv_offered (h.below hb) hm va xs (hx.below hb).self ha.peer ha.len);have MB4:=jh mb4;clear h hx ha hcs hm hl hL hM mb4;go_enter Tryz.func71,Tryz.ntmps71;go_upto_region 1 with (fail)
 obtain⟨W0,hW0,p0,p1,hB⟩:=box2 W (.int .u32 p.1) (.int .i64 p.2) 53;rw[←hW0];obtain⟨pb,hpb⟩:∃pb,pb=W.heap.size:=⟨_,rfl⟩
 rw[←hpb] at p0 p1 ⊢;have PBE:=jh hpb;have c0:=jA c0 hB;have m0:=jA m0 hB;have mb4:=jA MB4.out hB;have B0:=jh hB;have P0:=jh p0;have P1:=jh p1;clear hW0 hB hpb;go_upto_region 2 with (fail)
 clear c0 m0;have LK:Hid (∀w',Below W0.heap.size W0 w'→(Instr.lookup 64 (.map (some l.bb)) (pfV p) true).run Tryz.prog w'=.ok (.tuple #[((getL L p).map bvV).getD (.agg (rtC 0 (0,0) av0)),.bool (getL L p).isSome]) w'):=jh (fun w' hb=>BL.out.map.look pf_enc Tryz.underlying64 p HP.out.key zero_rt w' ((jC B0.out hb).block _ BL.out.map.lt) true);obtain⟨old,hold⟩:∃old,getL L p=old:=⟨_,rfl⟩
 rw[hold] at LK;have HOLD:=jh hold;clear hold;obtain⟨ov,hov⟩:∃ov:Int×Pf×AV,ovOf old=ov:=⟨_,rfl⟩
 have EV:Hid ((old.map bvV).getD (.agg (rtC 0 (0,0) av0))=.agg (rtC ov.1 ov.2.1 ov.2.2)):=jh (by rw[←hov];cases old<;>rfl);rw[EV.out] at LK;have HOV:=jh hov;clear hov;obtain⟨had,hhad⟩:∃had,old.isSome=had:=⟨_,rfl⟩
 rw[hhad] at LK;have HHAD:=jh hhad;clear hhad;go_cut [9,10] from 21 to 29 (fun s9 s10 wx=>∃b9:Nat,s9=.pointer (some ⟨b9,0,none⟩)∧s10=.bool had∧Hid (Below W0.heap.size W0 wx∧wx.heap[b9]? =some (.cells (rtC ov.1 ov.2.1 ov.2.2) 61 (0,0))∧W0.heap.size≤b9))
 case first=>
  refine wp_region_held_drew (S:=fun w'=>Below W0.heap.size W0 w') (by kernel_rfl) ?_ (fun hHeld=>?_)
  ·exact(Below.refl _ _).drew
  generalize World.drew W0=wd at hHeld ⊢;refine qz 0 hHeld ?_;refine qz 4 hHeld ?_ (hy:=by intro w' hSw;have p0:=jA p0 hSw;have p1:=jA p1 hSw;have mb4:=jA mb4 hSw;(try clear hHeld);go_simp;try with_reducible rfl);refine jI (i:=1) (j:=9) (atS at0) (atS (atS (atS (atS (atS (atS (atS (atS (atS at0))))))))) (by kernel_rfl) ?_ ?_ (fun K hK=>?_) (fun K hK=>?_)
  ·rfl
  ·rfl
  ·(try clear hb);go_simp;go_wp2_with fail;refine hK.out _ _ hHeld fun hHeld=>?_;clear hK K;(try simp only[jz]);refine qz 2 hHeld ?_;refine qz 3 hHeld ?_ (hy:=by intro w' hSw;have p0:=jA p0 hSw;have p1:=jA p1 hSw;have mb4:=jA mb4 hSw;(try clear hHeld);go_simp;try with_reducible rfl);refine qz 5 hHeld ?_ (hy:=by intro w' hSw;have lk:=LK.out w' hSw;(try clear hHeld);go_simp;try with_reducible rfl);refine qz 6 hHeld ?_;refine qz 7 hHeld ?_;refine qz 8 hHeld ?_;refine jr 9 fun K hK=>?_;(try clear hb);go_simp;refine box_zrt (p:=K _) ?_;intro w1 hz hb1;have hgs:=hHeld.size;refine hK.out _ _ ?_ (fun hHeld=>?_);(·exact jC hHeld hb1);clear hK K;(try simp only[jz]);refine jr 10 fun K hK=>?_;(try clear hb);refine jG 61 (.tmp 9) (.tmp 28) rfl _ rfl 61 (rtC 0 (0,0) av0) _ rfl hz (by kernel_rfl) rfl (rt_one _ _ _) ?_;refine jT hz (p:=K _) ?_;intro w2 hr hk2;refine hK.out _ _ ?_ (fun hHeld=>?_);(·exact hHeld.trans (hk2.below hHeld.size (by rintro k rfl;exact hgs)));clear hK K;(try simp only[Act.put]);refine qz 11 hHeld ?_;refine wpAnyH_done (by kernel_rfl) ?_ _;go_wp2_with fail;go_meet;exact⟨_,rfl,rfl,jh ⟨hHeld,hr,hgs⟩⟩
  ·(try clear hb);go_simp;refine box_zrt (p:=K _) ?_;intro w1 hz hb1;have hgs:=hHeld.size;refine hK.out _ _ ?_ (fun hHeld=>?_);(·exact jC hHeld hb1);clear hK K;(try simp only[jz]);refine jr 1 fun K hK=>?_;(try clear hb);go_simp;go_wp2_with fail;refine hK.out _ _ hHeld fun hHeld=>?_;clear hK K;(try simp only[jz]);refine qz 2 hHeld ?_;refine qz 3 hHeld ?_ (hy:=by intro w' hSw;have p0:=jA p0 hSw;have p1:=jA p1 hSw;have mb4:=jA mb4 hSw;(try clear hHeld);go_simp;try with_reducible rfl);refine qz 5 hHeld ?_ (hy:=by intro w' hSw;have lk:=LK.out w' hSw;(try clear hHeld);go_simp;try with_reducible rfl);refine qz 6 hHeld ?_;refine qz 7 hHeld ?_;refine qz 8 hHeld ?_;refine jr 10 fun K hK=>?_;(try clear hb);refine jG 61 (.tmp 9) (.tmp 28) rfl _ rfl 61 (rtC 0 (0,0) av0) _ rfl hz (by kernel_rfl) rfl (rt_one _ _ _) ?_;refine jT hz (p:=K _) ?_;intro w2 hr hk2;refine hK.out _ _ ?_ (fun hHeld=>?_);(·exact hHeld.trans (hk2.below hHeld.size (by rintro k rfl;exact hgs)));clear hK K;(try simp only[Act.put]);refine qz 11 hHeld ?_;refine wpAnyH_done (by kernel_rfl) ?_ _;go_wp2_with fail;go_meet;exact⟨_,rfl,rfl,jh ⟨hHeld,hr,hgs⟩⟩
 case rest=>
  obtain⟨b9,rfl,rfl,HH⟩:=hcut;obtain⟨w1,hw1⟩:∃w1:World,w1=wc:=⟨_,rfl⟩
  rw[←hw1] at HH ⊢;have B1:=jh (jC B0.out HH.out.1);have Q9:=jh HH.out.2.1;have P01:=jh (jA P0.out HH.out.1);have P11:=jh (jA P1.out HH.out.1);have L9:Hid (W.heap.size≤b9):=jh (Nat.le_trans B0.out.size HH.out.2.2);have OF:=jh (OFF.out w1 B1.out);have AS:Hid (asOf S.ms rc=m.as_):=jh (by unfold asOf;rw[HM.out];rfl);have LPB:Hid (W.heap.size≤pb):=jh (Nat.le_of_eq PBE.out.symm);clear hw1 HH OFF LK p0 p1 mb4 B0 P0 P1;go_wp2_with fail;refine OF.out.mono ?_;rintro e w2 ⟨so,co,rfl,fo,hb2⟩;obtain⟨ys,hys⟩:∃ys,goL S.own S.bl rc m.as_ xs=ys:=⟨_,rfl⟩
  rw[hys] at fo ⊢;have YE:Hid (ys.map (·.c)=offL S.own S.bl rc m.as_ (xs.map (·.c))):=jh (by rw[←hys];exact goL_c ..);have YM:Hid (∀x∈ys,x∈xs):=jh (by rw[←hys];intro x hx;exact(List.mem_filter.1 hx).1);have YL:Hid (ys.length≤16):=jh (by rw[←hys];exact Nat.le_trans (List.length_filter_le ..) HA.out.len);have B2:=jh (jC B1.out hb2);have CY:Hid (CvsAt w2 (.slice so ys.length co) ys):=jh ⟨fo.self,fun x hx=>((HX.out.below B2.out).self.2 x (YM.out x hx))⟩;have OKY:Hid (∀x∈ys,OkC x.c):=jh fun x hx=>HA.out.ok x (YM.out x hx);have BS:=jh (cd_of CY.out OKY.out YL.out);have NB:Hid (newBest S rc (xs.map (·.c))=pickB (ys.map (·.c))):=jh (by unfold newBest;rw[AS.out,YE.out]);have Q92:=jh ((hb2.block _ (jE Q9.out)).trans Q9.out);have P02:=jh (jA P01.out hb2);have P12:=jh (jA P11.out hb2);clear fo hys hb2 OF Q9 P01 P11 B1 AS YE;go_wp2_with fail;refine BS.out.mono ?_;rintro e w3 ⟨rfl,hb3⟩;have B3:=jh (jC B2.out hb3);have CY3:=jh (CY.out.below hb3);have Q93:=jh ((hb3.block _ (jE Q92.out)).trans Q92.out);have P03:=jh (jA P02.out hb3);have P13:=jh (jA P12.out hb3);have HS3:=jh (HS.out.below B3.out);have BL3:=jh (BL.out.kept (fun _ _=>rfl) (Kept.of_below (F:=fun _=>False) B3.out) (fun h=>h) fun _ _ _ h=>h);have MB43:=jh (jA MB4.out B3.out);have OB:Hid (S.best rc p=old.map (fun b=>(b.peer,b.a))):=jh ((BL.out.get p).symm.trans (by rw[HOLD.out]));clear hb3 BS CY Q92 P02 P12 B2 OKY;obtain⟨nb,hnb⟩:∃nb,newBest S rc (xs.map (·.c))=nb:=⟨_,rfl⟩
  have HNB:=jh hnb;rw[hnb] at NB;have RS:Hid (S.best rc p=nb→renewP S rc p (xs.map (·.c))=S):=jh (by rw[←hnb];exact renew_same);have RN:Hid (sameB (S.best rc p) nb=false→renewP S rc p (xs.map (·.c))=markS (setBestS S rc p nb) rc p true):=jh (by rw[←hnb];exact renew_new);clear hnb;obtain⟨bi,hbi⟩:∃bi,bestI (ys.map (·.c))=bi:=⟨_,rfl⟩
  rw[hbi];have HBI:=jh hbi;clear hbi
  go_upto_if 37 with (fail)
  go_cut [13] from 38 to 71 (fun v13 wx=>∃rho1,Hid (SrvM wx rho1 sb fb ls (setBestS S rc p nb)∧Step rho rho1 w3 wx∧sameB (S.best rc p) nb=false))
  case first=>
   by_cases hy:ys=[]
   ·as_aux_lemma=>
     subst hy;obtain rfl:bi= -1:=HBI.out.symm;obtain rfl:nb=none:=NB.out;rcases had with _|_
     ·have on:old=none:=by have:=HHAD.out;cases old<;>simp_all
      have RR:Hid (renewP S rc p (xs.map (·.c))=S):=jh (RS.out (by rw[OB.out,on];rfl));clear on;go_wp2_with fail;refine bodyPost_ret (v:=.tuple #[]) (by simp[results,Tryz.results71,go_sem]) rfl ⟨rho,rfl,by rw[RR.out];exact HS3.out,Step.below B3.out⟩
     ·have on:sameB (S.best rc p) none=false:=by rw[OB.out];have:=HHAD.out;cases old<;>simp_all [sameB]
      have ON:=jh on;clear on;have p0:=P03.out;have p1:=P13.out;have mb4:=MB43.out;obtain⟨o1,hs1,hm1⟩:=BL3.out.map.drop pf_enc Tryz.underlying64 p HP.out.key w3.drew rfl;have hk1:Kept (fun k=>k=l.bb) w3 (ChangeMaps.setBlock w3.drew l.bb o1):=(Kept.refl _ w3).drew.trans (Kept.setBlock o1 rfl);have D:=jh (HS3.out.delB HM.out HL.out BL3.out hk1 hm1);clear hm1 hk1;go_upto_region 7 with (fail)
      refine region_tailR 5 (by kernel_rfl) (by kernel_rfl) ?_;simp only[List.take_succ_cons,List.take_zero,List.drop_succ_cons,List.drop_zero]
      repeat still_step
      refine wpStill_nil ?_;go_wp2_with fail;go_meet;exact⟨rho,jh ⟨D.out.1,D.out.2,ON.out⟩⟩
   ·as_aux_lemma=>
     obtain⟨i,c,hi,he,hpk⟩:=pickB_some (l:=ys.map (·.c)) (by simpa using hy);obtain rfl:bi=(i:Int):=HBI.out.symm.trans he;have hnbe:nb=some (c.peer,c.a):=NB.out.trans hpk;rw[List.getElem?_map] at hi;obtain⟨x,hx2,rfl⟩:∃x,ys[i]? =some x∧x.c=c:=by
      cases hh:ys[i]? with
      |none=>rw[hh] at hi;simp at hi
      |some x=>rw[hh] at hi;simp at hi;exact⟨x,rfl,hi⟩
     have hxs:=YM.out x (List.mem_of_getElem? hx2);obtain⟨gx,ox,rfl,hr,hav⟩:=cvs_at CY3.out hx2;have RR:=jh (cv_rt hr (HA.out.net x hxs).1 (HA.out.net x hxs).2);have HAV:=jh hav;have HAO:Hid (On (fun k=>rho k=.no) W (fun W=>AvAt W x.c.a x.v)):=jh (HX.out.imp fun W h=>h.2 x hxs);have GA:Hid (GoodA x.c.a):=jh (HA.out.ok x hxs).2.2.2.2;have i0:(0:Int)≤(i:Int):=by omega
     have i1:(i:Int)<(ys.length:Int):=by have:=(List.getElem?_eq_some_iff.1 hx2).1;omega
     have d0:decide ((i:Int)<0)=false:=by simp
     obtain⟨xp,hxp⟩:∃xp,x.c.peer=xp:=⟨_,rfl⟩
     rw[hxp] at RR hnbe;subst hnbe;clear hi he hpk hx2 hxs hr hav hxp hy NB HX;go_wp2_with ((with_reducible refine jM (X:=.load 61 (.tmp 48)) ?_ ?_);(·rfl));unfold Halt;refine ldm_at (by rfl) 61 (.tmp 48) rfl gx (ox+i*14) rfl (rtC xp p x.v).toList _ RR.out Tryz.underlying61 rfl sz_rt ?_;go_wp2_with ((with_reducible refine jM (X:=.store 61 (.tmp 13) (.tmp 49)) ?_ ?_);(·rfl));unfold Halt;refine st_fresh rfl 61 (.tmp 13) (.tmp 49) rfl rfl _ (rtC xp p x.v) rfl sz_rt rfl (rt_one _ _ _) ?_;obtain⟨w4,hw4,q4,hb4,-⟩:=box1 w3 (rtC xp p x.v) 61;rw[←hw4];obtain⟨b13,hb13⟩:∃b,b=w3.heap.size:=⟨_,rfl⟩
     rw[←hb13] at q4 ⊢;have B4:=jh (jC B3.out hb4);have L13:Hid (W.heap.size≤b13):=jh (by rw[hb13];exact B3.out.size);have Q4:=jh q4;have B34:=jh hb4;have HS4:=jh (HS3.out.below hb4);have BL4:=jh (BL3.out.kept (fun _ _=>rfl) (Kept.of_below (F:=fun _=>False) hb4) (fun h=>h) fun _ _ _ h=>h);have Q94:=jh ((hb4.block _ (jE Q93.out)).trans Q93.out);have p0:=jA P03.out hb4;have p1:=jA P13.out hb4;have mb4:=jA MB43.out hb4;have HAV4:=jh (HAV.out.below hb4);have HAO4:=jh (HAO.out.below B4.out);have BBL:Hid (l.bb<W.heap.size):=jh BL.out.map.lt;have NPB:Hid (¬pb=l.bb):=jh (fun e=>by have:=BBL.out;have:=LPB.out;omega);have N13:Hid (¬b13=l.bb):=jh (fun e=>by have:=BBL.out;have:=L13.out;omega);have N9:Hid (¬b9=l.bb):=jh (fun e=>by have:=BBL.out;have:=L9.out;omega);have NMB:Hid (¬l.mb=l.bb):=jh (fun e=>by
      have h:=HS.out.bod.mem rc m l HM.out HL.out;have h1:=h.rmb;have h2:=h.rbb;rw[e,h2] at h1;cases h1)
     have RBB:Hid (rho l.bb=.best rc):=jh (HS.out.bod.mem rc m l HM.out HL.out).rbb;have CLN:=jh (fun w' (hb:Below w4.heap.size w4 w')=>sv_clone xp p x.c.a x.v w' (HAV4.out.below hb) GA.out.sz);have BST:=jh (fun w' (hb:Below w4.heap.size w4 w') (u:AV)=>(BL4.out.map.below hb).store pf_enc Tryz.underlying64 p HP.out.key ⟨xp,p,x.c.a,u⟩ (rgt_short BL4.out.map.apart fun y hy=>(BL4.out.val y hy).2.1) w' rfl);have PUTB:=jh (fun (wq wz:World) (lo:Nat) (u:AV) (b01:Below w4.heap.size w4 wq) (fr:On (fun k=>lo≤k∧k<wq.heap.size) wq (fun w=>AvU w x.c.a u)) (hlo:w4.heap.size≤lo) hk hM=>HS4.out.putB (W1:=wq) (W2:=wz) HM.out HL.out BL4.out HP.out (b:=⟨xp,p,x.c.a,u⟩) rfl GA.out b01 fr hlo (Nat.le_refl _) hk hM);have BD:=Below.refl w4.heap.size w4;have B30:=jh B3.out;clear hw4 q4 hb4 hb13 B3 HAV HAO RR Q93 P03 P13 HS3 BL3 MB43 d0;go_upto_region 9 with (fail)
     replace BD:=BD.drew;simp only[Act.put];go_cut [] from 50 to 56 (fun wx=>∃rho1,Hid (SrvM wx rho1 sb fb ls (setBestS S rc p (some (xp,x.c.a)))∧Step rho rho1 w4 wx∧Kept (fun k=>k=l.bb) w4 wx))
     case first=>
      refine wp_region_held_drew (S:=fun w'=>Kept (fun k=>k=l.bb) w4 w') (by kernel_rfl) ?_ (fun hHeld=>?_)
      ·exact(Kept.refl _ _).drew
      generalize World.drew w4=wd at BD hHeld ⊢;refine qz 0 hHeld ?_;refine qz 4 hHeld ?_ (hy:=by intro w' hSw;have p0:=hSw.cell p0 NPB.out;have p1:=hSw.cell p1 NPB.out;have mb4:=hSw.cell mb4 NMB.out;(try clear hHeld);go_simp;try with_reducible rfl);refine qz 5 hHeld ?_ (hy:=by intro w' hSw;refine exec_ld 61 (.tmp 13) ?_ b13 ?_ 61 (rtC xp p x.v) (0,0) _ ((hSw.block _ (jE Q4.out) N13.out).trans Q4.out) Tryz.underlying61 rfl sz_rt<;>rfl);refine jI (i:=1) (j:=6) (atS at0) (atS (atS (atS (atS (atS (atS at0)))))) (by kernel_rfl) ?_ ?_ (fun K hK=>?_) (fun K hK=>?_)
      ·rfl
      ·rfl
      ·(try clear hb);go_simp;go_wp2_with fail;refine hK.out _ _ hHeld fun hHeld=>?_;clear hK K;(try simp only[jz]);refine qz 2 hHeld ?_;refine qz 3 hHeld ?_ (hy:=by intro w' hSw;have p0:=hSw.cell p0 NPB.out;have p1:=hSw.cell p1 NPB.out;have mb4:=hSw.cell mb4 NMB.out;(try clear hHeld);go_simp;try with_reducible rfl);refine jr 6 fun K hK=>?_;(try clear hb);go_simp;have hlo:=BD.size;refine(CLN.out _ BD).mono ?_;rintro e wq ⟨u,rfl,fr,hb⟩;have fr2:=fresh_hi fr;have BQ:=jC BD hb;obtain⟨o1,hs1,hm1⟩:=BST.out wq BQ u;go_wp2_with fail;refine hK.out _ _ ?_ (fun hHeld=>?_);(·exact hHeld.grow hb);clear hK K;(try simp only[jz]);refine jr 7 fun K hK=>?_;(try clear hb);go_simp;go_wp2_with fail;refine hK.out _ _ ?_ (fun hHeld=>?_);(·exact hHeld.trans (Kept.setBlock o1 rfl));clear hK K;(try simp only[Act.put]);refine wpAnyH_done (by kernel_rfl) ?_ _;have PB:=jh (PUTB.out wq _ _ u BQ fr2 hlo (Kept.setBlock o1 rfl) hm1);have KB:=jh hHeld;clear hs1 hm1 fr fr2 hHeld;go_wp2_with fail;go_meet;exact⟨_,jh ⟨PB.out.1,PB.out.2,KB.out⟩⟩
      ·(try clear hb);go_simp;have hlo:=BD.size;refine(CLN.out _ BD).mono ?_;rintro e wq ⟨u,rfl,fr,hb⟩;have fr2:=fresh_hi fr;have BQ:=jC BD hb;obtain⟨o1,hs1,hm1⟩:=BST.out wq BQ u;go_wp2_with fail;refine hK.out _ _ ?_ (fun hHeld=>?_);(·exact hHeld.grow hb);clear hK K;(try simp only[jz]);refine jr 1 fun K hK=>?_;(try clear hb);go_simp;go_wp2_with fail;refine hK.out _ _ hHeld fun hHeld=>?_;clear hK K;(try simp only[jz]);refine qz 2 hHeld ?_;refine qz 3 hHeld ?_ (hy:=by intro w' hSw;have p0:=hSw.cell p0 NPB.out;have p1:=hSw.cell p1 NPB.out;have mb4:=hSw.cell mb4 NMB.out;(try clear hHeld);go_simp;try with_reducible rfl);refine jr 7 fun K hK=>?_;(try clear hb);go_simp;go_wp2_with fail;refine hK.out _ _ ?_ (fun hHeld=>?_);(·exact hHeld.trans (Kept.setBlock o1 rfl));clear hK K;(try simp only[Act.put]);refine wpAnyH_done (by kernel_rfl) ?_ _;have PB:=jh (PUTB.out wq _ _ u BQ fr2 hlo (Kept.setBlock o1 rfl) hm1);have KB:=jh hHeld;clear hs1 hm1 fr fr2 hHeld;go_wp2_with fail;go_meet;exact⟨_,jh ⟨PB.out.1,PB.out.2,KB.out⟩⟩
     case rest=>
      obtain⟨rho1,D⟩:=hcut;obtain⟨w5,hw5⟩:∃w5:World,w5=wc:=⟨_,rfl⟩
      rw[←hw5] at D ⊢;have q95:=(D.out.2.2.block _ (jE Q94.out) N9.out).trans Q94.out;have q135:=(D.out.2.2.block _ (jE Q4.out) N13.out).trans Q4.out;have z9:w5.cell? ⟨b9,0,none⟩=some (.int .i64 ov.1):=jB q95 0;have z13:w5.cell? ⟨b13,0,none⟩=some (.int .i64 xp):=jB q135 0;have R9:=jh (rt_range q95);have R13:=jh (rt_range q135);have HX5:Hid (AvAt w5 x.c.a x.v):=jh ((HAO4.out.kept D.out.2.2 (fun k _ hn e=>by subst e;rw[RBB.out] at hn;cases hn)).self);have HO5:Hid (∀b,old=some b→AvAt w5 b.a b.v):=jh (fun b hb=>by
       have hv:=BL4.out.val (p,b) (getL_mem (HOLD.out.trans hb));exact(hv.2.2.2.kept D.out.2.2 (fun k _ hn e=>by subst e;rw[RBB.out] at hn;cases hn)).self.at)
      have D1:=jh D.out.1;have D2:=jh ((Step.below (rho:=rho) B34.out).trans D.out.2.1);clear hw5 q95 q135 D PUTB BST CLN p0 p1 mb4 HAO4 HAV4;rcases had with _|_
      ·have on:old=none:=by have:=HHAD.out;cases old<;>simp_all
       have SN:Hid (sameB (S.best rc p) (some (xp,x.c.a))=false):=jh (by rw[OB.out,on];rfl);clear on;go_wp2_with fail;go_meet;exact⟨rho1,jh ⟨D1.out,D2.out,SN.out⟩⟩
      ·obtain⟨b,hb⟩:∃b,old=some b:=by have:=HHAD.out;cases old with
        |none=>simp at this
        |some b=>exact⟨b,rfl⟩
       obtain⟨op,onet,ova⟩:=ov;have ho:(b.peer,b.net,b.v)=(op,onet,ova):=by have:=HOV.out;rw[hb] at this;exact this
       injection ho with ho1 ho2;injection ho2 with ho2 ho3;have SB:Hid (S.best rc p=some (op,b.a)):=jh (by rw[OB.out,hb,←ho1];rfl);have HO:Hid (AvAt w5 b.a ova):=jh (by rw[←ho3];exact HO5.out b hb);clear hb ho1 ho2 ho3 HO5 HOV HHAD OB;by_cases hpe:op=xp
       ·subst hpe;have SM:=jh (av_Same b.a x.c.a ova x.v w5 HO.out HX5.out);go_wp2_with ((with_reducible refine jM (X:=.load 42 (.tmp 66)) ?_ ?_);(·rfl));unfold Halt;refine ldm_at (by rfl) 42 (.tmp 66) rfl b9 3 rfl ova.C.toList _ R9.out Tryz.underlying42 rfl sz_avS ?_;go_wp2_with ((with_reducible refine jM (X:=.load 42 (.tmp 68)) ?_ ?_);(·rfl));unfold Halt;refine ldm_at (by rfl) 42 (.tmp 68) rfl b13 3 rfl x.v.C.toList _ R13.out Tryz.underlying42 rfl sz_avS ?_;go_wp2_with fail;refine SM.out.mono ?_;rintro e w6 ⟨rfl,hb6⟩;have D16:=jh (D1.out.below hb6);have D26:=jh (D2.out.grow hb6);clear hb6 D1 D2 SM;rcases hz:sameA b.a x.c.a with _|_
        ·have SN:Hid (sameB (S.best rc p) (some (op,x.c.a))=false):=jh (by rw[SB.out];simp[sameB,hz]);clear hz;go_wp2_with fail;go_meet;exact⟨rho1,jh ⟨D16.out,D26.out,SN.out⟩⟩
        ·have SE:Hid (S.best rc p=some (op,x.c.a)):=jh (by rw[SB.out,(sameA_iff _ _).1 hz]);clear hz;go_wp2_with fail;refine bodyPost_ret (v:=.tuple #[]) (by simp[results,Tryz.results71,go_sem]) rfl ⟨rho1,rfl,?_,(Step.below B30.out).trans D26.out⟩;rw[RS.out SE.out];have:=D16.out;rw[setBest_same S rc p _ SE.out] at this;exact this
       ·have e1:(op==xp)=false:=by simpa using hpe
        have e2:(op !=xp)=true:=by simpa using hpe
        have SN:Hid (sameB (S.best rc p) (some (xp,x.c.a))=false):=jh (by rw[SB.out];simp[sameB,hpe]);go_wp2_with fail;go_meet;exact⟨rho1,jh ⟨D1.out,D2.out,SN.out⟩⟩
  case rest=>
   obtain⟨rho1,D⟩:=hcut;obtain⟨w5,hw5⟩:∃w5:World,w5=wc:=⟨_,rfl⟩
   rw[←hw5] at D ⊢;have RN2:=jh (RN.out D.out.2.2);have D1:=jh D.out.1;have D2:=jh ((Step.below (rho:=rho) B3.out).trans D.out.2.1);have hM:=D.out.1.bod.mem rc m l HM.out HL.out;have m2:w5.cell? ⟨l.mb,2,none⟩=some (.bool m.there):=jB hM.row 2;have mb5:w5.cell? ⟨l.mb,5,none⟩=some (.map (some l.nb)):=jB hM.row 5;have NPB:Hid (rho pb=.no):=jh (by
    cases hr:rho pb with
    |no=>rfl
    |_=>exact absurd (HS.out.dom pb (by rw[hr];intro e;cases e)) (by have:=LPB.out;omega))
   have p0:=D.out.2.1.cell P03.out NPB.out;have p1:=D.out.2.1.cell P13.out NPB.out;obtain⟨N,hN⟩:=hM.news;have NN:=jh hN;clear hw5 D hM hN RS RN NB CY3 Q93 P03 P13 HS3 BL3 MB43 HX;rcases hth:m.there with _|_
   ·rw[hth] at m2;have RE:Hid (renewP S rc p (xs.map (·.c))=setBestS S rc p nb):=jh (by
     rw[RN2.out];refine markS_no _ _ _ _ fun m' hm'=>?_;have:m'=m:=by have h1:=HM.out;exact Option.some.inj (hm'.symm.trans h1)
     rw[this,hth];rfl)
    clear hth;go_wp2_with fail
    go_end0
    exact⟨rho1,rfl,by rw[RE.out];exact D1.out,D2.out⟩
   ·rw[hth] at m2;obtain⟨o2,hs2,hm2⟩:=NN.out.map.store pf_enc Tryz.underlying128 p HP.out.key () (rgt_short NN.out.map.apart NN.out.rgt) w5.drew rfl;have hk2:Kept (fun k=>k=l.nb) w5 (ChangeMaps.setBlock w5.drew l.nb o2):=(Kept.refl _ w5).drew.trans (Kept.setBlock o2 rfl);have PN:=jh (D1.out.putN HM.out HL.out NN.out HP.out (c:=true) (by rw[hth];rfl) hk2 hm2);clear hm2 hk2 hth;go_upto_region 12 with (fail)
    refine region_tailR 6 (by kernel_rfl) (by kernel_rfl) ?_;simp only[List.take_succ_cons,List.take_zero,List.drop_succ_cons,List.drop_zero]
    repeat still_step
    refine wpStill_nil ?_;go_wp2_with fail
    go_end0
    exact⟨rho1,rfl,by rw[RN2.out];exact PN.out.1,D2.out.trans PN.out.2⟩
open Go.RowKit
theorem said_all {W:World} {rho:Nat→Role} {sb fb:Nat} {ls:List Pl} {S:Sv} (h:SrvM W rho sb fb ls S) {p:Pf} {xs:List CV} (hp:RgtP p) (hx:xs.map (·.c)=saidS S.ms p):AllC p xs:=by
 have hm:∀x∈xs,x.c∈saidS S.ms p:=fun x hm=>by rw[←hx];exact List.mem_map.2 ⟨x,hm,rfl⟩
 obtain⟨a,n,rfl,ha,hn,-⟩:=hp.nat;refine⟨fun x hxm=>h.saidOk _ (hm x hxm),fun x hxm=>?_,fun x hxm=>?_,?_⟩
 ·obtain⟨k,m,b,hk,-,e⟩:=saidS_mem (hm x hxm);have:=(List.getElem?_eq_some_iff.1 hk).1;have:=h.bod.few;exact⟨k,by omega,by rw[e];rfl⟩
 ·obtain⟨k,m,b,hk,-,e⟩:=saidS_mem (hm x hxm);rw[e];exact⟨rfl,rfl⟩
 ·have h1:=congrArg List.length hx;rw[List.length_map] at h1;rw[h1];exact Nat.le_trans (saidS_len ..) h.bod.few
theorem ps_pair {w:World} {s:Option Addr} {n c:Nat} {xs:List Pf} (h:PsAt w (.slice s n c) xs) {i:Nat} {x:Pf} (hx:xs[i]? =some x):∃g o c0 c1,s=some ⟨g,o,none⟩∧PfC x [c0,c1]∧w.cell? ⟨g,o+i*2,none⟩=some c0∧w.cell? ⟨g,o+i*2+1,none⟩=some c1:=by
 obtain⟨s',c',e,h1,h2,h3⟩:=h;injection e with e _ _;subst e;have hi:=(List.getElem?_eq_some_iff.1 hx).1;obtain⟨b,off,rfl,h4⟩:=h3 (by omega);obtain⟨cs,l,hR,hc⟩:=h4 i x hx
 match cs,l with
 |[c0,c1],_=>exact⟨b,off,c0,c1,rfl,hR,hc 0 c0 rfl,hc 1 c1 rfl⟩
theorem sv_turn {W:World} {rho:Nat→Role} {sb fb:Nat} {ls:List Pl} {S:Sv} (h:SrvM W rho sb fb ls S) (v:Value) (ps:List Pf) (hps:On (fun k=>rho k=.no) W (fun W=>PsAt W v ps)) (hr:∀p∈ps,RgtP p):
  Calls Tryz.prog 61 #[.pointer (some ⟨sb,0,none⟩),v] W fun e w'=>∃rho',e=.returned (.tuple #[])∧SrvM w' rho' sb fb ls (turnS S ps)∧Step rho rho' W w':=by
 obtain⟨sp,cp,rfl,hl1,hl2,-⟩:=id hps.self;have pl:ps.length≤9223372036854775807:=Nat.le_trans hl1 hl2;have HPS:=jh hps;have HR:=jh hr;have H0:Hid (SrvM W rho sb fb ls (turnS S (ps.take 0))):=jh h;have few:=h.bod.few;clear hps hr hl1 hl2 h;go_enter Tryz.func61,Tryz.ntmps61;go_wp2_with fail;go_loopw [10] (fun t10 wr=>∃(k:Nat) (rho1:Nat→Role),k≤ps.length∧t10=.int .i64 k∧Hid (SrvM wr rho1 sb fb ls (turnS S (ps.take k)))∧Hid (Step rho rho1 W wr)) (fun t10 _=>ps.length - (intOf t10).toNat)
 case atStart=>exact⟨0,rho,by omega,rfl,H0,jh Step.refl⟩
 case round=>
  clear H0;obtain⟨k,rho1,hk,rfl,HS,ST⟩:=hrel;by_cases hkl:k<ps.length
  ·obtain⟨p,hp⟩:∃p,ps[k]? =some p:=⟨_,List.getElem?_eq_getElem hkl⟩
   have HP:=jh (HR.out p (List.mem_of_getElem? hp));have TN:Hid (turnS S (ps.take (k+1))=turnP (turnS S (ps.take k)) p):=jh (by rw[take_snoc hp,turnS_snoc]);obtain⟨T,hT⟩:∃T,turnS S (ps.take k)=T:=⟨_,rfl⟩
   rw[hT] at HS TN;have KS:Hid (SvKin S T):=jh (by rw[←hT];exact kin_turn _ _);obtain⟨g2,o2,d0',d1',rfl,⟨hpc,hok⟩,p0,p1⟩:=ps_pair (ST.out.free HPS.out).self hp;injection hpc with q1 q2;injection q2 with q2 _;subst q1;subst q2;have k0:(0:Int)≤(k:Int):=by omega
   have k1:(k:Int)<(ps.length:Int):=by omega
   clear hp hT hok;go_upto_region 3 with (fail)
   obtain⟨v1,hv1,c0,c1,hb1⟩:=box2 wr (.int .u32 p.1) (.int .i64 p.2) 53;rw[←hv1];obtain⟨pb,hpb⟩:∃pb,pb=wr.heap.size:=⟨_,rfl⟩
   have NPB:Hid (rho1 pb=.no):=jh (by
    cases hr:rho1 pb with
    |no=>rfl
    |_=>exact absurd (HS.out.dom pb (by rw[hr];intro e;cases e)) (by omega))
   rw[←hpb] at c0 c1 ⊢;have HS1:=jh (HS.out.below hb1);have ST1:=jh (ST.out.grow hb1);have C0:=jh c0;have C1:=jh c1;have SD:=jh (sv_said HS1.out p HP.out.1);clear hv1 hb1 HS ST p0 p1 hpb;go_wp2_with fail;refine SD.out.mono ?_;rintro e v2 ⟨sx,cx,xs,A,rfl,ox,xe,hb2⟩;have HS2:=jh (HS1.out.below hb2);have ST2:=jh (ST1.out.grow hb2);have C02:=jh (jA C0.out hb2);have C12:=jh (jA C1.out hb2);have AC:=jh (said_all HS2.out HP.out xe);have XE:=jh xe;have XN:Hid (On (fun k=>rho1 k=.no) v2 (fun W=>CvsAt W (.slice sx xs.length cx) xs)):=jh (ox.fresh.wide fun k hk _=>by
    cases hr:rho1 k with
    |no=>rfl
    |_=>exact absurd (HS1.out.dom k (by rw[hr];intro e;cases e)) (by omega))
   obtain⟨s,cap,y0,-,-⟩:=HS2.out.cells;have T0:Hid (SrvM v2 rho1 sb fb ls (turn1 T p (saidS T.ms p) 0)):=HS2;have tn:T.ms.length=S.ms.length:=KS.out.len;have TN2:Hid (turnP T p=turn1 T p (saidS T.ms p) T.ms.length):=jh rfl;rw[tn] at y0;have TL:=jh tn;rw[tn] at TN2;clear ox xe hb2 HS1 ST1 C0 C1 SD c0 c1 tn;go_wp2_with fail;clear y0;go_loopw [22] (fun t22 wv=>∃(j:Nat) (rho2:Nat→Role),j≤S.ms.length∧t22=.int .i64 j∧Hid (SrvM wv rho2 sb fb ls (turn1 T p (saidS T.ms p) j))∧Hid (Step rho1 rho2 v2 wv)) (fun t22 _=>S.ms.length - (intOf t22).toNat)
   case atStart=>exact⟨0,rho1,by omega,rfl,T0,jh Step.refl⟩
   case round=>
    clear T0;obtain⟨j,rho2,hj,rfl,HT,SJ⟩:=hrel;by_cases hjl:j<S.ms.length
    ·have KJ:=jh (kin_turn1 T p (saidS T.ms p) j);obtain⟨m,hm⟩:∃m,(turn1 T p (saidS T.ms p) j).ms[j]? =some m:=⟨_,List.getElem?_eq_getElem (by rw[KJ.out.len,TL.out];exact hjl)⟩
     have RV:=jh (sv_renew HT.out hm p HP.out (.slice sx xs.length cx) xs (SJ.out.free XN.out) AC.out);have NX:Hid (renewP (turn1 T p (saidS T.ms p) j) j p (xs.map (·.c))=turn1 T p (saidS T.ms p) (j+1)):=jh (by rw[XE.out,turn1_succ]);have c0:=SJ.out.cell C02.out NPB.out;have c1:=SJ.out.cell C12.out NPB.out;rw[NX.out] at RV;clear hm KJ NX;go_wp2_with fail;refine RV.out.mono ?_;rintro e v3 ⟨rho3,rfl,hs3,st3⟩;have HS3:=jh hs3;have SJ3:=jh (SJ.out.trans st3);clear hs3 st3 RV HT SJ c0 c1;go_wp2_with fail;exact⟨⟨j+1,rho3,by omega,by go_num,HS3,SJ3⟩,by simp[intOf];omega⟩
    ·obtain rfl:j=S.ms.length:=by omega
     have HE:Hid (SrvM wr rho2 sb fb ls (turnS S (ps.take (k+1)))):=jh (by rw[TN.out,TN2.out];exact HT.out);have SE:=jh (ST2.out.trans SJ.out);clear HT SJ hj hjl;go_wp2_with fail;exact⟨⟨k+1,rho2,by omega,by go_num,HE,SE⟩,by simp[intOf];omega⟩
  ·obtain rfl:k=ps.length:=by omega
   have HE:Hid (SrvM wr rho1 sb fb ls (turnS S ps)):=jh (by have:=HS.out;rw[List.take_length] at this;exact this);clear HS;go_wp2_with fail
   go_end0
   exact⟨rho1,rfl,HE.out,ST.out⟩
open Go.RowKit Go.ChangeShapes Go.WideShapes
structure Ms where
 m:MV
 gone:List Pf
 nets:List Pf
 a:At
structure MsAt (W:World) (x:Ms):Prop where
 gone:PsAt W x.m.G x.gone
 nets:PsAt W x.m.N x.nets
 a:AvAt W x.a x.m.a
theorem MsAt.below {W W':World} {x:Ms} (h:MsAt W x) (hb:Below W.heap.size W W'):MsAt W' x:=⟨PsAt.below h.gone hb,PsAt.below h.nets hb,h.a.below hb⟩
def MsC (W:World) (x:Ms) (cs:List Value):Prop:=cs=x.m.C.toList∧MsAt W x
structure MsSz (x:Ms):Prop where
 a:AtSz x.a
 rng:x.a.Rng
section
variable {H:Type} {enc:TypeId×Value→H} {w:World} {base:Nat} {spare:Nat→Bool} {held:Bool}
theorem pf_cells {f:Nat} {cs:List Value} {x:DataW H×List MemPlace} (h:DataW.trod enc Tryz.prog w base spare held f 53 cs=some x):∃p:Pf,PfC p cs:=by
 obtain⟨xs,n,_,_,hl,hxl,hf⟩:=DataW.trod_struct Tryz.underlying53 h;have hc2:Tryz.prog.cellsOf 53=2:=by kernel_rfl
 have hc1:Tryz.prog.cellsOf 3=1:=by kernel_rfl
 have hca:Tryz.prog.cellsOf 36=1:=by kernel_rfl
 rw[hc2] at hl
 match cs,hl with
 |[c0,c1],_=>
  match xs,hxl with
  |[x0,x1],_=>
   have e0:=hf 0 _ rfl;have e1:=hf 1 _ rfl;simp[hc1,hca] at e0 e1;obtain⟨a,ha,_,ia⟩:=DataW.trod_int Tryz.underlying36 e0;obtain⟨m,hm,_⟩:=DataW.trod_int Tryz.underlying3 e1;simp[Lit.wf,IntKind.min,IntKind.max,IntKind.bits,IntKind.signed] at ia;simp at ha hm;subst ha;subst hm;exact⟨(a,m),rfl,by unfold OkP;simp only;omega⟩
theorem sl_pfs {f:Nat} {c:List Value} {y:DataW H×List MemPlace} (h:DataW.trod enc Tryz.prog w base spare held f 23 c=some y):∃v xs,c=[v]∧PsAt w v xs:=
 open_sl Tryz.underlying23 (by kernel_rfl) (by decide) (fun _ _ _ h=>pf_cells h) h
theorem sl_msg_sz {f:Nat} {cs:List Value} {x:DataW H×List MemPlace} (h:DataW.trod enc Tryz.prog w base spare held f 46 cs=some x) (hz:Sz Tryz.prog 46 x.1):∃m:Ms,MsC w m cs∧MsSz m:=by
 obtain⟨xs,n,_,hxe,hl,hxl,hf⟩:=DataW.trod_struct Tryz.underlying46 h;rw[hxe] at hz;have hc:Tryz.prog.cellsOf 46=20:=by kernel_rfl
 have hc0:Tryz.prog.cellsOf 3=1:=by kernel_rfl
 have hc1:Tryz.prog.cellsOf 36=1:=by kernel_rfl
 have hc2:Tryz.prog.cellsOf 37=1:=by kernel_rfl
 have hc3:Tryz.prog.cellsOf 23=1:=by kernel_rfl
 have hc4:Tryz.prog.cellsOf 42=10:=by kernel_rfl
 have hc5:Tryz.prog.cellsOf 44=3:=by kernel_rfl
 rw[hc] at hl
 match cs,hl with
 |[c0,c1,c2,c3,c4,c5,c6,c7,c8,c9,c10,c11,c12,c13,c14,c15,c16,c17,c18,c19],_=>
  match xs,hxl with
  |[x0,x1,x2,x3,x4,x5,x6,x7,x8],_=>
   have e0:=hf 0 _ rfl;have e1:=hf 1 _ rfl;have e2:=hf 2 _ rfl;have e3:=hf 3 _ rfl;have e4:=hf 4 _ rfl;have e5:=hf 5 _ rfl;have e6:=hf 6 _ rfl;have e7:=hf 7 _ rfl;have e8:=hf 8 _ rfl;simp[hc0,hc1,hc2,hc3,hc4,hc5] at e0 e1 e2 e3 e4 e5 e6 e7 e8;obtain⟨kind,q0,i0⟩:=sl_i64 e0;obtain⟨as_,q1,i1⟩:=sl_i64 e1;obtain⟨hold,q2,i2⟩:=sl_i64 e2;obtain⟨pid,q3,i3⟩:=sl_u32 e3;obtain⟨vk,ks,q4,i4⟩:=open_sl (k:=Tryz.prog.cellsOf 288) (R:=fun (_:Unit) _=>True) Tryz.underlying37 rfl (of_decide_eq_true (by kernel_rfl)) (fun _ _ _ _=>⟨(),trivial⟩) e4;obtain⟨vg,gone,q5,i5⟩:=sl_pfs e5;obtain⟨a,⟨vp,vc,vo,q6,ir,iA⟩,zA⟩:=sl_attrs_sz e6 (sz_field Tryz.underlying46 hz (j:=6) rfl rfl);obtain⟨vn,nets,q7,i7⟩:=sl_pfs e7;obtain⟨ys,_,_,_,_,hyl,hg⟩:=DataW.trod_struct Tryz.underlying44 e8;obtain⟨sk,ck,rfl,-⟩:=i4;obtain⟨sg,cg,rfl,jg⟩:=id i5;obtain⟨sn,cn,rfl,jn⟩:=id i7;obtain⟨⟨sp,cp,rfl,jp⟩,⟨sc,cc,rfl,jc⟩,⟨so,co,rfl,jo⟩⟩:=id iA
   match ys,hyl with
   |[y0,y1,y2],_=>
    have g0:=hg 0 _ rfl;have g1:=hg 1 _ rfl;have g2:=hg 2 _ rfl;have hcs:Tryz.prog.cellsOf 9=1:=by kernel_rfl
    simp[hc0,hcs] at g0 g1 g2;obtain⟨fc,r0,_⟩:=sl_i64 g0;obtain⟨fs,r1,_⟩:=sl_i64 g1;obtain⟨fd,r2,_⟩:=DataW.trod_string Tryz.underlying9 g2;simp at q0 q1 q2 q3 q4 q5 q6 q7 r0 r1 r2;subst q0;subst q1;subst q2;subst q3;subst q4;subst q5;subst q7;subst r0;subst r1;subst r2;refine⟨⟨⟨kind,as_,hold,pid,sk,ks.length,ck,sg,gone.length,cg,avOf a sp cp sc cc so co,sn,nets.length,cn,fc,fs,fd⟩,gone,nets,a⟩,⟨?_,i5,i7,⟨sp,cp,sc,cc,so,co,rfl,iA⟩⟩,⟨zA,ir⟩⟩;simp[atV] at q6;obtain⟨h0,h1,h2,h3,h4,h5,h6,h7,h8,h9⟩:=q6;subst h0;subst h1;subst h2;subst h3;subst h4;subst h5;subst h6;subst h7;subst h8;subst h9;rfl
end
end Go.Proofs.YtkoidahgbbabiaaGreat
