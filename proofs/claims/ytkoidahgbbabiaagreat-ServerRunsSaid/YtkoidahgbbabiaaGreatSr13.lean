/- Texts of one proof, one behind another. -/
import Derived.Test.YtkoidahgbbabiaaGreatSr10
import Derived.Test.YtkoidahgbbabiaaGreatSr9
import Derived.Test.YtkoidahgbbabiaaGreatSr1
set_option maxRecDepth 100000
set_option maxHeartbeats 100000000
namespace Go.Proofs.YtkoidahgbbabiaaGreat
open Go.RowKit
def FP (rb tb:Nat) (N:Nat→Option Nat) (E:List Ent) (k:Nat):Prop:=k=rb∨TOwn tb N k∨∃e∈E,e.lo≤k∧k<e.hi
theorem RibIn.exact {w:World} {rb tb:Nat} {N:Nat→Option Nat} {E:List Ent} {peer own most:Int} {F:Nat→Prop} (h:RibIn w rb tb N E peer own most F):
  RibIn w rb tb N E peer own most (FP rb tb N E)∧(∀k,FP rb tb N E k→F k)∧∀k,FP rb tb N E k→k<w.heap.size:=by
 refine⟨⟨h.row,h.tri,h.rgt,h.szs,h.ent,.inl rfl,fun b hb=>.inr (.inl hb),fun e he k h1 h2=>.inr (.inr ⟨e,he,h1,h2⟩),h.apr,h.apn,h.most0,h.most1,h.room⟩,?_,?_⟩
 ·rintro k (rfl|hk|⟨e,he,h1,h2⟩)
  ·exact h.frb
  ·exact h.ftr k hk
  ·exact h.fen e he k h1 h2
 ·rintro k (rfl|hk|⟨e,he,h1,h2⟩)
  ·exact jE h.row
  ·exact h.tri.own_lt hk
  ·exact Nat.lt_of_lt_of_le h2 (h.ent e he).1
def UpdPost (rb:Nat) (peer own most:Int) (F:Nat→Prop) (w:World) (r:Int×List Pf×Rts) (e:Ending) (w':World):Prop:=
 ∃v F',e=.returned (.tuple #[v,.int .i64 r.1])∧OwnPs w' w.heap.size v r.2.1∧RibAt w' rb peer own most r.2.2 F'∧(∀k,F' k→F k∨(w.heap.size≤k∧k<w'.heap.size))∧(∀k,v.ownBlock=some k→¬F' k)∧Kept F w w'
theorem updPost_no {rb:Nat} {peer own most:Int} {F:Nat→Prop} {w w':World} {R:Rts} {r:Int×List Pf×Rts} {c:Int} (hr:r=(c,[],R)) (h:RibAt w rb peer own most R F) (hb:Below w.heap.size w w'):
  UpdPost rb peer own most F w r (.returned (.tuple #[.slice none 0 0,.int .i64 c])) w':=by
 subst hr;exact⟨_,F,rfl,ownPs_nil _ _,h.below hb,fun k hk=>.inl hk,(by intro k hk;cases hk),Kept.of_below hb⟩
theorem box_msg (w:World) (m:MV):∃W0,W0=w.alloc (.cells m.C 46)∧W0.heap[w.heap.size]? =some (.cells m.C 46 (0,0))∧Below w.heap.size w W0∧W0.heap.size=w.heap.size+1:=box1 w m.C 46
theorem msg_range {W:World} {b:Nat} {m:MV} (hb:W.heap[b]? =some (.cells m.C 46 (0,0))):W.rangeAt b 6 m.a.C.toList:=fun j v hv=>by
 rw[jB hb];have hj:j<10:=by have:=(List.getElem?_eq_some_iff.1 hv).1;simpa using this
 match j,hj with
 |0,_=>simpa using hv
 |1,_=>simpa using hv
 |2,_=>simpa using hv
 |3,_=>simpa using hv
 |4,_=>simpa using hv
 |5,_=>simpa using hv
 |6,_=>simpa using hv
 |7,_=>simpa using hv
 |8,_=>simpa using hv
 |9,_=>simpa using hv
theorem upd_kind {own most:Int} {R:Rts} {kind:Int} {gone nets:List Pf} {a:At} (h:¬kind=2):updP own most R kind gone nets a=(1,[],R):=if_neg h
theorem upd_bad {own most:Int} {R:Rts} {kind:Int} {gone nets:List Pf} {a:At} (h:kind=2) (hr:rights (gone++nets)=false):updP own most R kind gone nets a=(1,[],R):=by
 unfold updP;rw[if_pos h,if_neg (by rw[hr];decide)]
theorem upd_full {own most:Int} {R:Rts} {kind:Int} {gone nets:List Pf} {a:At} (h:kind=2) (hr:rights (gone++nets)=true) (hc:cntP R (saidP gone nets) (netsP own nets a)>most):updP own most R kind gone nets a=(32,[],R):=by
 unfold updP;rw[if_pos h,if_pos hr,if_pos hc]
theorem upd_ok {own most:Int} {R:Rts} {kind:Int} {gone nets:List Pf} {a:At} (h:kind=2) (hr:rights (gone++nets)=true) (hc:¬cntP R (saidP gone nets) (netsP own nets a)>most):
  updP own most R kind gone nets a=(0,(saidP gone nets).filter (turnB R (netsP own nets a) a),putAll (dropAll R (saidP gone nets)) (netsP own nets a) a):=by
 unfold updP;rw[if_pos h,if_pos hr,if_neg hc]
theorem ad_Update_in {rb tb:Nat} {N:Nat→Option Nat} {E:List Ent} {peer own most:Int} {F:Nat→Prop} (m:MV) (gone nets:List Pf) (a:At) (w:World) (h:RibIn w rb tb N E peer own most F) (FLT:∀k,F k→k<w.heap.size)
  (hg:PsAt w m.G gone) (hn:PsAt w m.N nets) (ha:∀W,Kept F w W→AvAt W a m.a) (hz:gone.length+nets.length≤656) (sz:AtSz a):
  Calls Tryz.prog 42 #[.pointer (some ⟨rb,0,none⟩),m.V] w (UpdPost rb peer own most F w (updP own most (rts E) m.kind gone nets a)):=by
 have HI:=jh h;have HG:=jh hg;have HN:=jh hn;have HA:=jh ha;have SZ:=jh sz;have HFL:=jh FLT;have OKG:=jh (ps_ok hg);have OKN:=jh (ps_ok hn);by_cases hk:m.kind=2
 ·cases hr:rights (gone++nets) with
  |false=>
   have E1:=jh (fun w' hb=>updPost_no (F:=F) (w:=w) (w':=w') (upd_bad (own:=own) (most:=most) (R:=rts E) (a:=a) hk hr) ⟨tb,N,E,h,rfl⟩ hb);have CK:=jh (fun W (hb:Below w.heap.size w W)=>ad_check m gone nets W (hg.below hb) (hn.below hb) hz);have ec:chkE (gone++nets)=1:=by unfold chkE;rw[hr];rfl
   rw[ec] at CK;have k1:(m.kind !=2)=false:=by simp[hk]
   clear hk hr ec h hg hn ha FLT;go_enter Tryz.func42,Tryz.ntmps42;go_upto_region 1 with (fail)
   obtain⟨W0,hW0,q0,hB,-⟩:=box_msg w m;rw[←hW0];clear hW0;have ck:W0.cell? ⟨w.heap.size,0,none⟩=some (.int .i64 m.kind):=jB q0 0;have Q0:=jh q0;have HB:=jh hB;clear q0 hB;go_wp2_with ((with_reducible refine jM (X:=.load 46 (.tmp 3)) ?_ ?_);(·rfl));unfold Halt;refine ld_at (by rfl) 46 (.tmp 3) rfl w.heap.size rfl 46 m.C (0,0) _ Q0.out Tryz.underlying46 rfl (by kernel_rfl) ?_;go_wp2_with fail;refine(CK.out _ HB.out).mono ?_;rintro e w1 ⟨rfl,hb⟩;go_wp2_with fail;refine bodyPost_ret (v:=.tuple #[.slice none 0 0,.int .i64 1]) (by simp[results,Tryz.results42,go_sem]) rfl (E1.out _ (jC HB.out hb))
  |true=>
   have ap:=apart_rts h.tri.ap;have CK:=jh (fun W (hb:Below w.heap.size w W)=>ad_check m gone nets W (hg.below hb) (hn.below hb) hz);have ec:chkE (gone++nets)=0:=by unfold chkE;rw[hr];rfl
   rw[ec] at CK;have k1:(m.kind !=2)=false:=by simp[hk]
   have HF:=jh (fun hc w' hb=>updPost_no (F:=F) (w:=w) (w':=w') (upd_full (own:=own) (most:=most) (R:=rts E) (a:=a) hk hr hc) ⟨tb,N,E,h,rfl⟩ hb);have HO:=jh (fun hc=>upd_ok (own:=own) (most:=most) (R:=rts E) (a:=a) hk hr hc);have SS:=jh (said_srt gone nets);have NS:=jh (nets_srt own nets a);have RM:=jh (rights_mem hr);have SL:Hid ((saidP gone nets).length≤656):=jh (by have:=setOf_len (gone++nets);rw[List.length_append] at this;unfold saidP;omega);have SOK:Hid (∀p∈saidP gone nets,RgtP p):=jh (fun p hp=>⟨by
    rcases (SS.out.2 p).1 hp with h|h
    ·exact OKG.out p h
    ·exact OKN.out p h,RM.out p (List.mem_append.2 ((SS.out.2 p).1 hp))⟩)
   have NL:Hid ((netsP own nets a).length≤656):=jh (by
    unfold netsP;split
    ·simp
    ·have:=setOf_len nets;omega)
   have NSD:Hid (∀p∈netsP own nets a,p∈saidP gone nets):=jh (fun p hp=>(SS.out.2 p).2 (.inr (NS.out.2 p hp)));have NE:Hid (netsP own nets a=if passB a.path own then [] else setOf nets):=jh rfl;have SE:Hid (saidP gone nets=setOf (gone++nets)):=jh rfl;have CL:=jh (fun ns=>cnt_len (R:=rts E) ap (said:=saidP gone nets) (ns:=ns) (srt_nodup SS.out.1));have SSR:=jh SS.out.1;have NSR:=jh NS.out.1;have AP:=jh ap;have HRL:Hid (rb<w.heap.size):=jh (jE h.row);clear SS NS RM;generalize updP own most (rts E) m.kind gone nets a=U at HF HO ⊢;generalize saidP gone nets=said at HF HO SL SOK NSD SE CL SSR;generalize netsP own nets a=ns at HF HO NL NSD NE NSR;clear hk hr ec h hg hn ha FLT ap OKG OKN;go_enter Tryz.func42,Tryz.ntmps42;go_upto_region 1 with (fail)
   obtain⟨W0,hW0,q0,hB,-⟩:=box_msg w m;rw[←hW0];clear hW0;have ck:W0.cell? ⟨w.heap.size,0,none⟩=some (.int .i64 m.kind):=jB q0 0;have Q0:=jh q0;have HB:=jh hB;clear q0 hB;go_wp2_with ((with_reducible refine jM (X:=.load 46 (.tmp 3)) ?_ ?_);(·rfl));unfold Halt;refine ld_at (by rfl) 46 (.tmp 3) rfl w.heap.size rfl 46 m.C (0,0) _ Q0.out Tryz.underlying46 rfl (by kernel_rfl) ?_;go_wp2_with fail;refine(CK.out _ HB.out).mono ?_;rintro e w1 ⟨rfl,hb⟩;have Q1:=jh ((hb.block _ (jE Q0.out)).trans Q0.out);have B1:=jh (jC HB.out hb);have cg:w1.cell? ⟨w.heap.size,5,none⟩=some m.G:=jB Q1.out 5;have cn:w1.cell? ⟨w.heap.size,16,none⟩=some m.N:=jB Q1.out 16;clear hb Q0 HB CK ck;go_wp2_with fail;obtain⟨W2,hW2,q2,hb2,hz2⟩:=box1 w1 #[m.G,m.N] 23;rw[←hW2];clear hW2;have B2:=jh (jC B1.out hb2);have Q2:=jh ((hb2.block _ (jE Q1.out)).trans Q1.out);have sl2:Hid (w.heap.size<W2.heap.size):=jh (jE Q2.out);refine(ps_Concat w1.heap.size m.G m.N gone nets W2 (jB q2 0) (jB q2 1) (HG.out.below B2.out) (HN.out.below B2.out) (by omega)).mono ?_;rintro e w3 ⟨v3,rfl,o3,hb3⟩;have O3:=jh o3;have B3:=jh (jC B2.out hb3);have Q3:=jh ((hb3.block _ (jE Q2.out)).trans Q2.out);have hs3:Hid (W2.heap.size≤w3.heap.size):=jh hb3.size;clear q2 hb2 hz2 o3 hb3 B1 Q1 cg cn;go_wp2_with fail;refine(ad_sorted W2.heap.size v3 (gone++nets) w3 O3.out (by rw[List.length_append];omega)).mono ?_;rintro e w4 ⟨v4,rfl,o4,hk4⟩;have hb4:Below W2.heap.size w3 w4:=hk4.below hs3.out (fun k hk=>jJ O3.out.1 k hk);rw[←SE.out] at o4;have O4:=jh (o4.base (Nat.le_of_lt sl2.out));have B4:Hid (Below w.heap.size w w4):=jh (B3.out.trans (hb4.mono (Nat.le_of_lt sl2.out)));have Q4:=jh ((hb4.block _ sl2.out).trans Q3.out);clear o4 hk4 hb4 O3 B3 Q3 hs3 B2 Q2 SE;obtain⟨s4,c4,hv4,-⟩:=O4.out.at;subst hv4;go_upto_region 8 with (fail)
   have r1:w4.cell? ⟨rb,1,none⟩=some (.int .i64 own):=(B4.out.cell (p:=⟨rb,1,none⟩) HRL.out).trans HI.out.cells.2.1;have PA:=jh (fun W (hb:Below w4.heap.size w4 W)=>av_Passes a m.a own W (HA.out W (Kept.of_below (jC B4.out hb))));generalize hpb:passB a.path own=pb at PA NE;clear hpb;go_cut [49] (fun s wx=>s=.bool (!pb)∧Hid (Below w4.heap.size w4 wx))
   case first=>
    refine wp_region_held_drew (S:=fun w'=>Below w4.heap.size w4 w') (by kernel_rfl) ?_ (fun hHeld=>?_)
    ·exact(Below.refl _ _).drew
    generalize World.drew w4=wd at hHeld ⊢;refine qz 0 hHeld ?_;refine qz 1 hHeld ?_ (hy:=by intro w' hSw;refine exec_ldm 42 (.tmp 42) ?_ w.heap.size 6 ?_ m.a.C.toList _ (msg_range ((hSw.block _ (jE Q4.out)).trans Q4.out)) Tryz.underlying42 rfl (by kernel_rfl)<;>rfl);refine qz 2 hHeld ?_;refine jr 3 fun K hK=>?_;(try clear hb);go_simp;go_wp2_with fail;refine hK.out _ _ hHeld fun hHeld=>?_;clear hK K;(try simp only[jz]);refine qz 4 hHeld ?_;refine qz 5 hHeld ?_ (hy:=by intro w' hSw;have r1:=jA r1 hSw;(try clear hHeld);go_simp;try with_reducible rfl);refine jr 6 fun K hK=>?_;(try clear hb);go_simp;(refine(PA.out _ hHeld).mono ?_;rintro e w1 ⟨rfl,hb⟩);go_wp2_with fail;refine hK.out _ _ ?_ (fun hHeld=>?_);(·exact hHeld.trans (hb.mono hHeld.size));clear hK K;(try simp only[jz]);refine qz 7 hHeld ?_;refine wpAnyH_done (by kernel_rfl) ?_ _;go_wp2_with fail;go_meet;exact⟨rfl,jh hHeld⟩
   case rest=>
    obtain⟨rfl,HH⟩:=hcut;obtain⟨w5,hw5⟩:∃w5:World,w5=wc:=⟨_,rfl⟩
    rw[←hw5] at HH ⊢;have B5:=jh (jC B4.out HH.out);have Q5:=jh ((HH.out.block _ (jE Q4.out)).trans Q4.out);have O5:=jh (O4.out.below HH.out);clear hw5 HH B4 Q4 O4 r1 PA
    go_upto_if 49 with (fail)
    go_cut [8] (fun v8 wx=>Hid (OwnPs wx w.heap.size v8 ns)∧Hid (Below w5.heap.size w5 wx))
    case first=>
     cases pb with
     |false=>
      have cn:w5.cell? ⟨w.heap.size,16,none⟩=some m.N:=jB Q5.out 16;go_wp2_with fail;refine(ps_Clone m.N nets w5 (HN.out.below B5.out) (by omega)).mono ?_;rintro e w6 ⟨v6,rfl,o6,hb6⟩;have O6:=jh o6;have B6:=jh hb6;clear o6 hb6 cn;go_wp2_with fail;refine(ad_sorted w5.heap.size v6 nets w6 O6.out (by omega)).mono ?_;rintro e w7 ⟨v7,rfl,o7,hk7⟩;have hb7:Below w5.heap.size w6 w7:=hk7.below B6.out.size (fun k hk=>jJ O6.out.1 k hk);have O7:Hid (OwnPs w7 w.heap.size v7 ns):=jh (by rw[NE.out];exact o7.base B5.out.size);have B7:=jh (B6.out.trans hb7);clear o7 hk7 hb7;go_wp2_with fail;go_meet;exact⟨O7,B7⟩
     |true=>
      have O7:Hid (OwnPs w5 w.heap.size (.slice none 0 0) ns):=jh (by rw[NE.out];exact ownPs_nil _ _);go_wp2_with fail;go_meet;exact⟨O7,jh (Below.refl _ _)⟩
    case rest=>
     obtain⟨ON,HH⟩:=hcut;obtain⟨w6,hw6⟩:∃w6:World,w6=wc:=⟨_,rfl⟩
     rw[←hw6] at HH ON ⊢;have B6:=jh (jC B5.out HH.out);have Q6:=jh ((HH.out.block _ (jE Q5.out)).trans Q5.out);have O6:=jh (O5.out.below HH.out);clear hw6 HH B5 Q5 O5 NE;obtain⟨s6,c6,hv6,-⟩:=ON.out.at;subst hv6;have r3:w6.cell? ⟨rb,3,none⟩=some (.pointer (some ⟨tb,0,none⟩)):=(B6.out.cell (p:=⟨rb,3,none⟩) HRL.out).trans HI.out.cells.2.2.2;have LT:=jh (trI_Len (HI.out.tri.below B6.out));simp only[List.length_map] at LT;have EL:E.length≤256:=by have:=HI.out.room;have:=HI.out.most1;omega
     have nl:=NL.out;have z1:IntKind.i64.wrap ((E.length:Int)+(ns.length:Int))=(E.length:Int)+(ns.length:Int):=IntWalk.i64_in _ (by omega);go_wp2_with fail;refine LT.out.mono ?_;rintro e w7 ⟨rfl,rfl⟩;clear LT;go_wp2_with fail;clear z1;have sl:=SL.out;obtain⟨cap6,hsc,hO⟩:∃cap,c4=cap∧(0<said.length→∃b off:Nat,s4=some ⟨b,off,none⟩∧w.heap.size≤b∧∀(k:Nat) (x:Pf),said[k]? =some x→w6.cell? ⟨b,off+k*2,none⟩=some (.int .u32 x.1)∧w6.cell? ⟨b,off+k*2+1,none⟩=some (.int .i64 x.2)):=by
      obtain⟨sa,cap,hv,-,-,hV⟩:=O6.out.at;injection hv with h1 h2 h3;refine⟨cap,h3,fun h0=>?_⟩;obtain⟨b,off,hsa,hP⟩:=hV h0;exact⟨b,off,h1.trans hsa,jJ O6.out.1 b (by rw[h1.trans hsa];rfl),fun k x hx=>ps_two hP hx⟩
     have HSD:=jh hO;clear hsc hO cap6;go_loopw [64,9] (fun k64 c9 wr=>∃(k:Nat) (c:Int),k≤said.length∧k64=.int .i64 k∧c9=.int .i64 c∧Hid (c=(E.length:Int)+(ns.length:Int) - ((said.take k).filter (hadB (rts E))).length)∧Hid (Below w6.heap.size w6 wr)) (fun k64 _ _=>said.length - (intOf k64).toNat)
     case atStart=>exact⟨0,_,by omega,rfl,rfl,jh (by simp),jh (Below.refl _ _)⟩
     case round=>
      obtain⟨k,c,hk,rfl,rfl,CC,B⟩:=hrel;by_cases hlt:k<said.length
      ·as_aux_lemma=>
       obtain⟨x,hx⟩:∃x,said[k]? =some x:=⟨_,List.getElem?_eq_getElem hlt⟩
       obtain⟨b,off,hsa,-,hP⟩:=HSD.out (by omega);subst hsa;obtain⟨x0,x1⟩:=hP k x hx;have x0:=jA x0 B.out;have x1:=jA x1 B.out;have k0:(0:Int)≤(k:Int):=by omega
       have k1:(k:Int)<(said.length:Int):=by omega
       have HX:=jh hx;have OX:=jh (SOK.out x (List.mem_of_getElem? hx)).1;have CC2:Hid (((said.take (k+1)).filter (hadB (rts E))).length=((said.take k).filter (hadB (rts E))).length+if hadB (rts E) x then 1 else 0):=jh (by
        rw[filter_take _ hx,List.length_append];split<;>simp)
       have CB: -1000≤c∧c≤1000:=by
        have h1:=CC.out;have h2:((said.take k).filter (hadB (rts E))).length≤656:=Nat.le_trans (List.length_filter_le ..) (by rw[List.length_take];omega);omega
       clear hP hx;go_upto_region 14 with (fail)
       obtain⟨w8,hw8,q0,q1,hb8⟩:=box2 wr (.int .u32 x.1) (.int .i64 x.2) 53;rw[←hw8];clear hw8 x0 x1;have B8:=jh (jC B.out hb8);have q3:=jA (jA r3 B.out) hb8;have RG:=jh (fun W (hb:Below w8.heap.size w8 W)=>rib_get x W (HI.out.below (jC B6.out (jC B8.out hb))) OX.out);have hfind:=jh (find_rts E x);clear hb8 B;go_cut [13] (fun s wx=>s=.bool (hadB (rts E) x)∧Hid (Below w8.heap.size w8 wx))
       case first=>
        have hc0:=q0;have hc1:=q1;cases hf:findE E x with
        |none=>
         have GP:=jh (fun W hb=>(RG.out W hb).1 hf);have HB:Hid (hadB (rts E) x=false):=jh (by unfold hadB;rw[hfind.out,hf];rfl);clear hf hc0 hc1;refine wp_region_held_drew (S:=fun w'=>Below w8.heap.size w8 w') (by kernel_rfl) ?_ (fun hHeld=>?_)
         ·exact(Below.refl _ _).drew
         generalize World.drew w8=wd at hHeld ⊢;refine qz 0 hHeld ?_;refine qz 4 hHeld ?_ (hy:=by intro w' hSw;have q0:=jA q0 hSw;have q1:=jA q1 hSw;have q3:=jA q3 hSw;(try clear hHeld);go_simp;try with_reducible rfl);refine jI (i:=1) (j:=9) (atS at0) (atS (atS (atS (atS (atS (atS (atS (atS (atS at0))))))))) (by kernel_rfl) ?_ ?_ (fun K hK=>?_) (fun K hK=>?_)
         ·rfl
         ·rfl
         ·(try clear hb);go_simp;go_wp2_with fail;refine hK.out _ _ hHeld fun hHeld=>?_;clear hK K;(try simp only[jz]);refine qz 2 hHeld ?_;refine qz 3 hHeld ?_ (hy:=by intro w' hSw;have q0:=jA q0 hSw;have q1:=jA q1 hSw;have q3:=jA q3 hSw;(try clear hHeld);go_simp;try with_reducible rfl);refine jI (i:=5) (j:=9) (atS (atS (atS (atS (atS at0))))) (atS (atS (atS (atS (atS (atS (atS (atS (atS at0))))))))) (by kernel_rfl) ?_ ?_ (fun K hK=>?_) (fun K hK=>?_)
          ·rfl
          ·rfl
          ·(try clear hb);go_simp;(refine(GP.out _ hHeld).mono ?_;rintro e w1 ⟨rfl,hb⟩);(try replace hz:=(hb.block _ (jE hz)).trans hz);go_wp2_with fail;refine hK.out _ _ ?_ (fun hHeld=>?_);(·exact hHeld.trans (hb.mono hHeld.size));clear hK K;(try simp only[jz]);refine qz 6 hHeld ?_;refine qz 7 hHeld ?_;refine qz 8 hHeld ?_;refine jr 9 fun K hK=>?_;(try clear hb);go_simp;refine box_zk (p:=K _) ?_;intro w1 hz hb;have hgs:=hHeld.size;refine hK.out _ _ ?_ (fun hHeld=>?_);(·exact jC hHeld hb);clear hK K;(try simp only[jz]);refine jr 10 fun K hK=>?_;(try clear hb);refine jG 42 (.tmp 12) (.tmp 75) rfl _ rfl 42 av0.C _ rfl hz (by kernel_rfl) rfl (AV.one _) ?_;refine jT hz (p:=K _) ?_;intro w2 hr hk2;refine hK.out _ _ ?_ (fun hHeld=>?_);(·exact hHeld.trans (hk2.below hHeld.size (by rintro k rfl;exact hgs)));clear hK K;(try simp only[Act.put]);refine qz 11 hHeld ?_;refine wpAnyH_done (by kernel_rfl) ?_ _;go_wp2_with fail;go_meet;exact⟨by rw[HB.out],jh hHeld⟩
          ·(try clear hb);go_simp;refine box_zk (p:=K _) ?_;intro w1 hz hb;have hgs:=hHeld.size;refine hK.out _ _ ?_ (fun hHeld=>?_);(·exact jC hHeld hb);clear hK K;(try simp only[jz]);refine jr 5 fun K hK=>?_;(try clear hb);go_simp;(refine(GP.out _ hHeld).mono ?_;rintro e w1 ⟨rfl,hb⟩);(try replace hz:=(hb.block _ (jE hz)).trans hz);go_wp2_with fail;refine hK.out _ _ ?_ (fun hHeld=>?_);(·exact hHeld.trans (hb.mono hHeld.size));clear hK K;(try simp only[jz]);refine qz 6 hHeld ?_;refine qz 7 hHeld ?_;refine qz 8 hHeld ?_;refine jr 10 fun K hK=>?_;(try clear hb);refine jG 42 (.tmp 12) (.tmp 75) rfl _ rfl 42 av0.C _ rfl hz (by kernel_rfl) rfl (AV.one _) ?_;refine jT hz (p:=K _) ?_;intro w2 hr hk2;refine hK.out _ _ ?_ (fun hHeld=>?_);(·exact hHeld.trans (hk2.below hHeld.size (by rintro k rfl;exact hgs)));clear hK K;(try simp only[Act.put]);refine qz 11 hHeld ?_;refine wpAnyH_done (by kernel_rfl) ?_ _;go_wp2_with fail;go_meet;exact⟨by rw[HB.out],jh hHeld⟩
         ·(try clear hb);go_simp;refine box_zk (p:=K _) ?_;intro w1 hz hb;have hgs:=hHeld.size;refine hK.out _ _ ?_ (fun hHeld=>?_);(·exact jC hHeld hb);clear hK K;(try simp only[jz]);refine jr 1 fun K hK=>?_;(try clear hb);go_simp;go_wp2_with fail;refine hK.out _ _ hHeld fun hHeld=>?_;clear hK K;(try simp only[jz]);refine qz 2 hHeld ?_;refine qz 3 hHeld ?_ (hy:=by intro w' hSw;have q0:=jA q0 hSw;have q1:=jA q1 hSw;have q3:=jA q3 hSw;(try clear hHeld);go_simp;try with_reducible rfl);refine jr 5 fun K hK=>?_;(try clear hb);go_simp;(refine(GP.out _ hHeld).mono ?_;rintro e w1 ⟨rfl,hb⟩);(try replace hz:=(hb.block _ (jE hz)).trans hz);go_wp2_with fail;refine hK.out _ _ ?_ (fun hHeld=>?_);(·exact hHeld.trans (hb.mono hHeld.size));clear hK K;(try simp only[jz]);refine qz 6 hHeld ?_;refine qz 7 hHeld ?_;refine qz 8 hHeld ?_;refine jr 10 fun K hK=>?_;(try clear hb);refine jG 42 (.tmp 12) (.tmp 75) rfl _ rfl 42 av0.C _ rfl hz (by kernel_rfl) rfl (AV.one _) ?_;refine jT hz (p:=K _) ?_;intro w2 hr hk2;refine hK.out _ _ ?_ (fun hHeld=>?_);(·exact hHeld.trans (hk2.below hHeld.size (by rintro k rfl;exact hgs)));clear hK K;(try simp only[Act.put]);refine qz 11 hHeld ?_;refine wpAnyH_done (by kernel_rfl) ?_ _;go_wp2_with fail;go_meet;exact⟨by rw[HB.out],jh hHeld⟩
        |some e=>
         have GP:=jh (fun W hb=>(RG.out W hb).2 e hf);have HB:Hid (hadB (rts E) x=true):=jh (by unfold hadB;rw[hfind.out,hf];rfl);clear hf hc0 hc1;refine wp_region_held_drew (S:=fun w'=>Below w8.heap.size w8 w') (by kernel_rfl) ?_ (fun hHeld=>?_)
         ·exact(Below.refl _ _).drew
         generalize World.drew w8=wd at hHeld ⊢;refine qz 0 hHeld ?_;refine qz 4 hHeld ?_ (hy:=by intro w' hSw;have q0:=jA q0 hSw;have q1:=jA q1 hSw;have q3:=jA q3 hSw;(try clear hHeld);go_simp;try with_reducible rfl);refine jI (i:=1) (j:=9) (atS at0) (atS (atS (atS (atS (atS (atS (atS (atS (atS at0))))))))) (by kernel_rfl) ?_ ?_ (fun K hK=>?_) (fun K hK=>?_)
         ·rfl
         ·rfl
         ·(try clear hb);go_simp;go_wp2_with fail;refine hK.out _ _ hHeld fun hHeld=>?_;clear hK K;(try simp only[jz]);refine qz 2 hHeld ?_;refine qz 3 hHeld ?_ (hy:=by intro w' hSw;have q0:=jA q0 hSw;have q1:=jA q1 hSw;have q3:=jA q3 hSw;(try clear hHeld);go_simp;try with_reducible rfl);refine jI (i:=5) (j:=9) (atS (atS (atS (atS (atS at0))))) (atS (atS (atS (atS (atS (atS (atS (atS (atS at0))))))))) (by kernel_rfl) ?_ ?_ (fun K hK=>?_) (fun K hK=>?_)
          ·rfl
          ·rfl
          ·(try clear hb);go_simp;(refine(GP.out _ hHeld).mono ?_;rintro e w1 ⟨rfl,hb⟩);(try replace hz:=(hb.block _ (jE hz)).trans hz);go_wp2_with fail;refine hK.out _ _ ?_ (fun hHeld=>?_);(·exact hHeld.trans (hb.mono hHeld.size));clear hK K;(try simp only[jz]);refine qz 6 hHeld ?_;refine qz 7 hHeld ?_;refine qz 8 hHeld ?_;refine jr 9 fun K hK=>?_;(try clear hb);go_simp;refine box_zk (p:=K _) ?_;intro w1 hz hb;have hgs:=hHeld.size;refine hK.out _ _ ?_ (fun hHeld=>?_);(·exact jC hHeld hb);clear hK K;(try simp only[jz]);refine jr 10 fun K hK=>?_;(try clear hb);refine jG 42 (.tmp 12) (.tmp 75) rfl _ rfl 42 av0.C _ rfl hz (by kernel_rfl) rfl (AV.one _) ?_;refine jT hz (p:=K _) ?_;intro w2 hr hk2;refine hK.out _ _ ?_ (fun hHeld=>?_);(·exact hHeld.trans (hk2.below hHeld.size (by rintro k rfl;exact hgs)));clear hK K;(try simp only[Act.put]);refine qz 11 hHeld ?_;refine wpAnyH_done (by kernel_rfl) ?_ _;go_wp2_with fail;go_meet;exact⟨by rw[HB.out],jh hHeld⟩
          ·(try clear hb);go_simp;refine box_zk (p:=K _) ?_;intro w1 hz hb;have hgs:=hHeld.size;refine hK.out _ _ ?_ (fun hHeld=>?_);(·exact jC hHeld hb);clear hK K;(try simp only[jz]);refine jr 5 fun K hK=>?_;(try clear hb);go_simp;(refine(GP.out _ hHeld).mono ?_;rintro e w1 ⟨rfl,hb⟩);(try replace hz:=(hb.block _ (jE hz)).trans hz);go_wp2_with fail;refine hK.out _ _ ?_ (fun hHeld=>?_);(·exact hHeld.trans (hb.mono hHeld.size));clear hK K;(try simp only[jz]);refine qz 6 hHeld ?_;refine qz 7 hHeld ?_;refine qz 8 hHeld ?_;refine jr 10 fun K hK=>?_;(try clear hb);refine jG 42 (.tmp 12) (.tmp 75) rfl _ rfl 42 av0.C _ rfl hz (by kernel_rfl) rfl (AV.one _) ?_;refine jT hz (p:=K _) ?_;intro w2 hr hk2;refine hK.out _ _ ?_ (fun hHeld=>?_);(·exact hHeld.trans (hk2.below hHeld.size (by rintro k rfl;exact hgs)));clear hK K;(try simp only[Act.put]);refine qz 11 hHeld ?_;refine wpAnyH_done (by kernel_rfl) ?_ _;go_wp2_with fail;go_meet;exact⟨by rw[HB.out],jh hHeld⟩
         ·(try clear hb);go_simp;refine box_zk (p:=K _) ?_;intro w1 hz hb;have hgs:=hHeld.size;refine hK.out _ _ ?_ (fun hHeld=>?_);(·exact jC hHeld hb);clear hK K;(try simp only[jz]);refine jr 1 fun K hK=>?_;(try clear hb);go_simp;go_wp2_with fail;refine hK.out _ _ hHeld fun hHeld=>?_;clear hK K;(try simp only[jz]);refine qz 2 hHeld ?_;refine qz 3 hHeld ?_ (hy:=by intro w' hSw;have q0:=jA q0 hSw;have q1:=jA q1 hSw;have q3:=jA q3 hSw;(try clear hHeld);go_simp;try with_reducible rfl);refine jr 5 fun K hK=>?_;(try clear hb);go_simp;(refine(GP.out _ hHeld).mono ?_;rintro e w1 ⟨rfl,hb⟩);(try replace hz:=(hb.block _ (jE hz)).trans hz);go_wp2_with fail;refine hK.out _ _ ?_ (fun hHeld=>?_);(·exact hHeld.trans (hb.mono hHeld.size));clear hK K;(try simp only[jz]);refine qz 6 hHeld ?_;refine qz 7 hHeld ?_;refine qz 8 hHeld ?_;refine jr 10 fun K hK=>?_;(try clear hb);refine jG 42 (.tmp 12) (.tmp 75) rfl _ rfl 42 av0.C _ rfl hz (by kernel_rfl) rfl (AV.one _) ?_;refine jT hz (p:=K _) ?_;intro w2 hr hk2;refine hK.out _ _ ?_ (fun hHeld=>?_);(·exact hHeld.trans (hk2.below hHeld.size (by rintro k rfl;exact hgs)));clear hK K;(try simp only[Act.put]);refine qz 11 hHeld ?_;refine wpAnyH_done (by kernel_rfl) ?_ _;go_wp2_with fail;go_meet;exact⟨by rw[HB.out],jh hHeld⟩
       case rest=>
        obtain⟨rfl,HH⟩:=hcut;obtain⟨w9,hw9⟩:∃w9:World,w9=wc:=⟨_,rfl⟩
        rw[←hw9] at HH ⊢;have B9:=jh (jC B8.out HH.out);clear hw9 HH B8 q0 q1 q3 RG hfind;cases hh:hadB (rts E) x with
        |true=>
         rw[hh] at CC2;clear hh;have z1:IntKind.i64.wrap (c - 1)=c - 1:=IntWalk.i64_in _ (by omega);go_wp2_with fail;exact⟨⟨k+1,c - 1,by omega,by go_num,rfl,jh (by have h1:=CC.out;have h2:=CC2.out;simp only[if_true] at h2;omega),B9⟩,by simp[intOf];omega⟩
        |false=>
         rw[hh] at CC2;clear hh;go_wp2_with fail;exact⟨⟨k+1,c,by omega,by go_num,rfl,jh (by have h1:=CC.out;have h2:=CC2.out;simp only[Bool.false_eq_true,if_false] at h2;omega),B9⟩,by simp[intOf];omega⟩
      ·obtain rfl:said.length=k:=by omega
       have CT:Hid (c=cntP (rts E) said ns):=jh (by
        have h1:=CC.out;rw[List.take_length] at h1;unfold cntP;rw[h1,List.length_map])
       clear CC;have r2:wr.cell? ⟨rb,2,none⟩=some (.int .i64 most):=(B.out.cell (jH r3)).trans ((B6.out.cell (p:=⟨rb,2,none⟩) HRL.out).trans HI.out.cells.2.2.1);by_cases hc:c>most
       ·have HFF:=jh (HF.out (by rw[←CT.out];exact hc));have B10:=jh (jC B6.out B.out);go_wp2_with fail;refine bodyPost_ret (v:=.tuple #[.slice none 0 0,.int .i64 32]) (by simp[results,Tryz.results42,go_sem]) rfl (HFF.out _ B10.out)
       ·have HU:=jh (HO.out (by rw[←CT.out];omega));have HC:Hid ((((dropAll (rts E) said).length:Int))+ns.length≤most):=jh (by rw[←CL.out ns,←CT.out];omega);clear HF HO CL;obtain⟨w10,hw10⟩:∃w10:World,w10=wr:=⟨_,rfl⟩
        rw[←hw10] at B r2 ⊢;have B10:=jh (jC B6.out B.out);have Q10:=jh ((B.out.block _ (jE Q6.out)).trans Q6.out);have ON10:=jh (ON.out.below B.out);have HS10:Hid (0<said.length→∃b off:Nat,s4=some ⟨b,off,none⟩∧w.heap.size≤b∧∀(k:Nat) (x:Pf),said[k]? =some x→w10.cell? ⟨b,off+k*2,none⟩=some (.int .u32 x.1)∧w10.cell? ⟨b,off+k*2+1,none⟩=some (.int .i64 x.2)):=jh (fun h0=>by
         obtain⟨b,off,h1,h2,h3⟩:=HSD.out h0;exact⟨b,off,h1,h2,fun k x hx=>⟨jA (h3 k x hx).1 B.out,jA (h3 k x hx).2 B.out⟩⟩)
        have RB10:=jh (HI.out.below B10.out);have FW:Hid (∀W,Kept F w10 W→Kept F w W):=jh (fun W hk=>(Kept.of_below B10.out).trans hk);have ws10:Hid (w.heap.size≤w10.heap.size):=jh B10.out.size;clear hw10 CT B Q6 ON HSD r3 O6 B6;go_wp2_with fail;clear r2;go_loopw [89,14] (fun k89 v14 wq=>∃(k:Nat) (N2:Nat→Option Nat) (E2:List Ent),k≤said.length∧k89=.int .i64 k∧Hid (RibIn wq rb tb N2 E2 peer own most F∧rts E2=dropAll (rts E) (said.take k))∧Hid (OwnPs wq w10.heap.size v14 ((said.take k).filter (turnB (rts E) ns a)))∧Hid (Kept F w10 wq)) (fun k89 _ _=>said.length - (intOf k89).toNat)
        case atStart=>exact⟨0,N,E,by omega,rfl,jh ⟨RB10.out,rfl⟩,jh (ownPs_nil _ _),jh (Kept.refl _ _)⟩
        case round=>
         obtain⟨k,N2,E2,hk2,rfl,RI,OT,K⟩:=hrel;by_cases hlt:k<said.length
         ·as_aux_lemma=>
          obtain⟨x,hx⟩:∃x,said[k]? =some x:=⟨_,List.getElem?_eq_getElem hlt⟩
          obtain⟨b,off,hsa,hbw,hP⟩:=HS10.out (by omega);subst hsa;obtain⟨x0,x1⟩:=hP k x hx;have nF:¬F b:=fun h=>by have:=HFL.out b h;omega
          have x0:=K.out.cell x0 nF;have x1:=K.out.cell x1 nF;have k0:(0:Int)≤(k:Int):=by omega
          have k1:(k:Int)<(said.length:Int):=by omega
          have RX:=jh (SOK.out x (List.mem_of_getElem? hx));have GX:Hid (getL (rts E) x=getL (rts E2) x):=jh ((get_left (rts E) SSR.out hx).symm.trans (congrArg (fun R=>getL R x) RI.out.2.symm));have FT:=jh (filter_take (turnB (rts E) ns a) hx);have DT:=jh (drop_next (rts E) hx);clear hP hx nF hbw;go_upto_region 24 with (fail)
          obtain⟨w11,hw11,q0,q1,hb11⟩:=box2 wr (.int .u32 x.1) (.int .i64 x.2) 53;rw[←hw11];clear hw11 x0 x1;have OTL:Hid (∀g,u14.ownBlock=some g→¬wr.heap.size=g):=jh (fun g hg e=>by have:=own_lt OT.out.1 g hg;omega);have NF1:Hid (¬F wr.heap.size):=jh (fun h=>by have:=HFL.out _ h;have:=ws10.out;have:=K.out.size;omega);have K11:=jh (K.out.grow hb11);have RI11:=jh (And.intro (RI.out.1.below hb11) RI.out.2);have OT11:=jh (OT.out.below hb11);have q3:=RI11.out.1.cells.2.2.2;have RG:=jh (fun W (hb:Below w11.heap.size w11 W)=>rib_get x W (RI11.out.1.below hb) RX.out.1);clear hb11 RI OT K;go_cut [17,18] (fun s17 s18 wx=>∃g,s17=.pointer (some ⟨g,0,none⟩)∧Hid (Below w11.heap.size w11 wx)∧((Hid (findE E2 x=none)∧s18=.bool false)∨∃e,Hid (findE E2 x=some e∧wx.heap[g]? =some (.cells e.v.C 42 (0,0)))∧s18=.bool true))
          case first=>
           cases hf:findE E2 x with
           |none=>
            have GP:=jh (fun W hb=>(RG.out W hb).1 hf);have HF0:=jh hf;clear hf;refine wp_region_held_drew (S:=fun w'=>Below w11.heap.size w11 w') (by kernel_rfl) ?_ (fun hHeld=>?_)
            ·exact(Below.refl _ _).drew
            generalize World.drew w11=wd at hHeld ⊢;refine qz 0 hHeld ?_;refine qz 4 hHeld ?_ (hy:=by intro w' hSw;have q0:=jA q0 hSw;have q1:=jA q1 hSw;have q3:=jA q3 hSw;(try clear hHeld);go_simp;try with_reducible rfl);refine jI (i:=1) (j:=9) (atS at0) (atS (atS (atS (atS (atS (atS (atS (atS (atS at0))))))))) (by kernel_rfl) ?_ ?_ (fun K hK=>?_) (fun K hK=>?_)
            ·rfl
            ·rfl
            ·(try clear hb);go_simp;go_wp2_with fail;refine hK.out _ _ hHeld fun hHeld=>?_;clear hK K;(try simp only[jz]);refine qz 2 hHeld ?_;refine qz 3 hHeld ?_ (hy:=by intro w' hSw;have q0:=jA q0 hSw;have q1:=jA q1 hSw;have q3:=jA q3 hSw;(try clear hHeld);go_simp;try with_reducible rfl);refine jI (i:=5) (j:=9) (atS (atS (atS (atS (atS at0))))) (atS (atS (atS (atS (atS (atS (atS (atS (atS at0))))))))) (by kernel_rfl) ?_ ?_ (fun K hK=>?_) (fun K hK=>?_)
             ·rfl
             ·rfl
             ·(try clear hb);go_simp;(refine(GP.out _ hHeld).mono ?_;rintro e w1 ⟨rfl,hb⟩);(try replace hz:=(hb.block _ (jE hz)).trans hz);go_wp2_with fail;refine hK.out _ _ ?_ (fun hHeld=>?_);(·exact hHeld.trans (hb.mono hHeld.size));clear hK K;(try simp only[jz]);refine qz 6 hHeld ?_;refine qz 7 hHeld ?_;refine qz 8 hHeld ?_;refine jr 9 fun K hK=>?_;(try clear hb);go_simp;refine box_zk (p:=K _) ?_;intro w1 hz hb;have hgs:=hHeld.size;refine hK.out _ _ ?_ (fun hHeld=>?_);(·exact jC hHeld hb);clear hK K;(try simp only[jz]);refine jr 10 fun K hK=>?_;(try clear hb);refine jG 42 (.tmp 17) (.tmp 100) rfl _ rfl 42 av0.C _ rfl hz (by kernel_rfl) rfl (AV.one _) ?_;refine jT hz (p:=K _) ?_;intro w2 hr hk3;refine hK.out _ _ ?_ (fun hHeld=>?_);(·exact hHeld.trans (hk3.below hHeld.size (by rintro k rfl;exact hgs)));clear hK K;(try simp only[Act.put]);refine qz 11 hHeld ?_;refine wpAnyH_done (by kernel_rfl) ?_ _;go_wp2_with fail;go_meet;exact⟨_,rfl,jh hHeld,.inl ⟨HF0,rfl⟩⟩
             ·(try clear hb);go_simp;refine box_zk (p:=K _) ?_;intro w1 hz hb;have hgs:=hHeld.size;refine hK.out _ _ ?_ (fun hHeld=>?_);(·exact jC hHeld hb);clear hK K;(try simp only[jz]);refine jr 5 fun K hK=>?_;(try clear hb);go_simp;(refine(GP.out _ hHeld).mono ?_;rintro e w1 ⟨rfl,hb⟩);(try replace hz:=(hb.block _ (jE hz)).trans hz);go_wp2_with fail;refine hK.out _ _ ?_ (fun hHeld=>?_);(·exact hHeld.trans (hb.mono hHeld.size));clear hK K;(try simp only[jz]);refine qz 6 hHeld ?_;refine qz 7 hHeld ?_;refine qz 8 hHeld ?_;refine jr 10 fun K hK=>?_;(try clear hb);refine jG 42 (.tmp 17) (.tmp 100) rfl _ rfl 42 av0.C _ rfl hz (by kernel_rfl) rfl (AV.one _) ?_;refine jT hz (p:=K _) ?_;intro w2 hr hk3;refine hK.out _ _ ?_ (fun hHeld=>?_);(·exact hHeld.trans (hk3.below hHeld.size (by rintro k rfl;exact hgs)));clear hK K;(try simp only[Act.put]);refine qz 11 hHeld ?_;refine wpAnyH_done (by kernel_rfl) ?_ _;go_wp2_with fail;go_meet;exact⟨_,rfl,jh hHeld,.inl ⟨HF0,rfl⟩⟩
            ·(try clear hb);go_simp;refine box_zk (p:=K _) ?_;intro w1 hz hb;have hgs:=hHeld.size;refine hK.out _ _ ?_ (fun hHeld=>?_);(·exact jC hHeld hb);clear hK K;(try simp only[jz]);refine jr 1 fun K hK=>?_;(try clear hb);go_simp;go_wp2_with fail;refine hK.out _ _ hHeld fun hHeld=>?_;clear hK K;(try simp only[jz]);refine qz 2 hHeld ?_;refine qz 3 hHeld ?_ (hy:=by intro w' hSw;have q0:=jA q0 hSw;have q1:=jA q1 hSw;have q3:=jA q3 hSw;(try clear hHeld);go_simp;try with_reducible rfl);refine jr 5 fun K hK=>?_;(try clear hb);go_simp;(refine(GP.out _ hHeld).mono ?_;rintro e w1 ⟨rfl,hb⟩);(try replace hz:=(hb.block _ (jE hz)).trans hz);go_wp2_with fail;refine hK.out _ _ ?_ (fun hHeld=>?_);(·exact hHeld.trans (hb.mono hHeld.size));clear hK K;(try simp only[jz]);refine qz 6 hHeld ?_;refine qz 7 hHeld ?_;refine qz 8 hHeld ?_;refine jr 10 fun K hK=>?_;(try clear hb);refine jG 42 (.tmp 17) (.tmp 100) rfl _ rfl 42 av0.C _ rfl hz (by kernel_rfl) rfl (AV.one _) ?_;refine jT hz (p:=K _) ?_;intro w2 hr hk3;refine hK.out _ _ ?_ (fun hHeld=>?_);(·exact hHeld.trans (hk3.below hHeld.size (by rintro k rfl;exact hgs)));clear hK K;(try simp only[Act.put]);refine qz 11 hHeld ?_;refine wpAnyH_done (by kernel_rfl) ?_ _;go_wp2_with fail;go_meet;exact⟨_,rfl,jh hHeld,.inl ⟨HF0,rfl⟩⟩
           |some e=>
            have GP:=jh (fun W hb=>(RG.out W hb).2 e hf);have HF0:=jh hf;clear hf;refine wp_region_held_drew (S:=fun w'=>Below w11.heap.size w11 w') (by kernel_rfl) ?_ (fun hHeld=>?_)
            ·exact(Below.refl _ _).drew
            generalize World.drew w11=wd at hHeld ⊢;refine qz 0 hHeld ?_;refine qz 4 hHeld ?_ (hy:=by intro w' hSw;have q0:=jA q0 hSw;have q1:=jA q1 hSw;have q3:=jA q3 hSw;(try clear hHeld);go_simp;try with_reducible rfl);refine jI (i:=1) (j:=9) (atS at0) (atS (atS (atS (atS (atS (atS (atS (atS (atS at0))))))))) (by kernel_rfl) ?_ ?_ (fun K hK=>?_) (fun K hK=>?_)
            ·rfl
            ·rfl
            ·(try clear hb);go_simp;go_wp2_with fail;refine hK.out _ _ hHeld fun hHeld=>?_;clear hK K;(try simp only[jz]);refine qz 2 hHeld ?_;refine qz 3 hHeld ?_ (hy:=by intro w' hSw;have q0:=jA q0 hSw;have q1:=jA q1 hSw;have q3:=jA q3 hSw;(try clear hHeld);go_simp;try with_reducible rfl);refine jI (i:=5) (j:=9) (atS (atS (atS (atS (atS at0))))) (atS (atS (atS (atS (atS (atS (atS (atS (atS at0))))))))) (by kernel_rfl) ?_ ?_ (fun K hK=>?_) (fun K hK=>?_)
             ·rfl
             ·rfl
             ·(try clear hb);go_simp;(refine(GP.out _ hHeld).mono ?_;rintro e w1 ⟨rfl,hb⟩);(try replace hz:=(hb.block _ (jE hz)).trans hz);go_wp2_with fail;refine hK.out _ _ ?_ (fun hHeld=>?_);(·exact hHeld.trans (hb.mono hHeld.size));clear hK K;(try simp only[jz]);refine qz 6 hHeld ?_;refine qz 7 hHeld ?_;refine qz 8 hHeld ?_;refine jr 9 fun K hK=>?_;(try clear hb);go_simp;refine box_zk (p:=K _) ?_;intro w1 hz hb;have hgs:=hHeld.size;refine hK.out _ _ ?_ (fun hHeld=>?_);(·exact jC hHeld hb);clear hK K;(try simp only[jz]);refine jr 10 fun K hK=>?_;(try clear hb);refine jG 42 (.tmp 17) (.tmp 100) rfl _ rfl 42 av0.C _ rfl hz (by kernel_rfl) rfl (AV.one _) ?_;refine jT hz (p:=K _) ?_;intro w2 hr hk3;refine hK.out _ _ ?_ (fun hHeld=>?_);(·exact hHeld.trans (hk3.below hHeld.size (by rintro k rfl;exact hgs)));clear hK K;(try simp only[Act.put]);refine qz 11 hHeld ?_;refine wpAnyH_done (by kernel_rfl) ?_ _;go_wp2_with fail;go_meet;exact⟨_,rfl,jh hHeld,.inr ⟨e,jh ⟨HF0.out,hr⟩,rfl⟩⟩
             ·(try clear hb);go_simp;refine box_zk (p:=K _) ?_;intro w1 hz hb;have hgs:=hHeld.size;refine hK.out _ _ ?_ (fun hHeld=>?_);(·exact jC hHeld hb);clear hK K;(try simp only[jz]);refine jr 5 fun K hK=>?_;(try clear hb);go_simp;(refine(GP.out _ hHeld).mono ?_;rintro e w1 ⟨rfl,hb⟩);(try replace hz:=(hb.block _ (jE hz)).trans hz);go_wp2_with fail;refine hK.out _ _ ?_ (fun hHeld=>?_);(·exact hHeld.trans (hb.mono hHeld.size));clear hK K;(try simp only[jz]);refine qz 6 hHeld ?_;refine qz 7 hHeld ?_;refine qz 8 hHeld ?_;refine jr 10 fun K hK=>?_;(try clear hb);refine jG 42 (.tmp 17) (.tmp 100) rfl _ rfl 42 av0.C _ rfl hz (by kernel_rfl) rfl (AV.one _) ?_;refine jT hz (p:=K _) ?_;intro w2 hr hk3;refine hK.out _ _ ?_ (fun hHeld=>?_);(·exact hHeld.trans (hk3.below hHeld.size (by rintro k rfl;exact hgs)));clear hK K;(try simp only[Act.put]);refine qz 11 hHeld ?_;refine wpAnyH_done (by kernel_rfl) ?_ _;go_wp2_with fail;go_meet;exact⟨_,rfl,jh hHeld,.inr ⟨e,jh ⟨HF0.out,hr⟩,rfl⟩⟩
            ·(try clear hb);go_simp;refine box_zk (p:=K _) ?_;intro w1 hz hb;have hgs:=hHeld.size;refine hK.out _ _ ?_ (fun hHeld=>?_);(·exact jC hHeld hb);clear hK K;(try simp only[jz]);refine jr 1 fun K hK=>?_;(try clear hb);go_simp;go_wp2_with fail;refine hK.out _ _ hHeld fun hHeld=>?_;clear hK K;(try simp only[jz]);refine qz 2 hHeld ?_;refine qz 3 hHeld ?_ (hy:=by intro w' hSw;have q0:=jA q0 hSw;have q1:=jA q1 hSw;have q3:=jA q3 hSw;(try clear hHeld);go_simp;try with_reducible rfl);refine jr 5 fun K hK=>?_;(try clear hb);go_simp;(refine(GP.out _ hHeld).mono ?_;rintro e w1 ⟨rfl,hb⟩);(try replace hz:=(hb.block _ (jE hz)).trans hz);go_wp2_with fail;refine hK.out _ _ ?_ (fun hHeld=>?_);(·exact hHeld.trans (hb.mono hHeld.size));clear hK K;(try simp only[jz]);refine qz 6 hHeld ?_;refine qz 7 hHeld ?_;refine qz 8 hHeld ?_;refine jr 10 fun K hK=>?_;(try clear hb);refine jG 42 (.tmp 17) (.tmp 100) rfl _ rfl 42 av0.C _ rfl hz (by kernel_rfl) rfl (AV.one _) ?_;refine jT hz (p:=K _) ?_;intro w2 hr hk3;refine hK.out _ _ ?_ (fun hHeld=>?_);(·exact hHeld.trans (hk3.below hHeld.size (by rintro k rfl;exact hgs)));clear hK K;(try simp only[Act.put]);refine qz 11 hHeld ?_;refine wpAnyH_done (by kernel_rfl) ?_ _;go_wp2_with fail;go_meet;exact⟨_,rfl,jh hHeld,.inr ⟨e,jh ⟨HF0.out,hr⟩,rfl⟩⟩
          case rest=>
           obtain⟨g,rfl,HH,HD⟩:=hcut;obtain⟨w12,hw12⟩:∃w12:World,w12=wc:=⟨_,rfl⟩
           rw[←hw12] at HH HD ⊢;have q0:=jA q0 HH.out;have q1:=jA q1 HH.out;have K12:=jh (K11.out.grow HH.out);have RI12:=jh (And.intro (RI11.out.1.below HH.out) RI11.out.2);have OT12:=jh (OT11.out.below HH.out);clear hw12 HH K11 RI11 OT11 q3 RG;have SC:=jh (ps_Search (.slice s6 ns.length c6) ns x w12 (ON10.out.kept K12.out (fun g hg hF=>by have:=HFL.out g hF;have:=jJ ON10.out.1 g hg;omega)).at NSR.out);go_wp2_with fail;refine SC.out.mono ?_;rintro e w13 ⟨i,rfl,-,-,hb13⟩;generalize hd:decide (x∈ns)=d;have HDD:=jh hd;clear hd;have q0:=jA q0 hb13;have q1:=jA q1 hb13;have K13:=jh (K12.out.grow hb13);have RI13:=jh (And.intro (RI12.out.1.below hb13) RI12.out.2);have OT13:=jh (OT12.out.below hb13);have HD13:(Hid (findE E2 x=none)∧u18=.bool false)∨∃e,Hid (findE E2 x=some e∧w13.heap[g]? =some (.cells e.v.C 42 (0,0)))∧u18=.bool true:=by
            rcases HD with h|⟨e,h1,h2⟩
            ·exact .inl h
            ·exact .inr ⟨e,jh ⟨h1.out.1,(hb13.block _ (jE h1.out.2)).trans h1.out.2⟩,h2⟩
           have NG:Hid (¬F w.heap.size):=jh (fun h=>Nat.lt_irrefl _ (HFL.out _ h));have Q13:=jh ((K13.out.block _ (jE Q10.out) NG.out).trans Q10.out);clear HD SC K12 RI12 OT12 hb13;go_upto_region 26 with (fail)
           go_cut [120] (fun s wx=>s=.bool (turnB (rts E) ns a x)∧Hid (Below w13.heap.size w13 wx))
           case first=>
            rcases HD13 with⟨HF0,rfl⟩|⟨e,HF0,rfl⟩
            ·have TB:Hid (turnB (rts E) ns a x=d):=jh ((turn_none GX.out HF0.out).trans HDD.out);clear q0 q1;cases d
             ·go_wp2_with fail;go_meet;exact⟨by rw[TB.out],jh (Below.refl _ _)⟩
             ·go_wp2_with fail;go_meet;exact⟨by rw[TB.out],jh (Below.refl _ _)⟩
            ·have TB:Hid (turnB (rts E) ns a x=(!d||!(sameA e.a a))):=jh ((turn_some GX.out HF0.out.1).trans (by rw[HDD.out]));clear q0 q1;cases d
             ·go_wp2_with fail;go_meet;exact⟨by rw[TB.out];rfl,jh (Below.refl _ _)⟩
             ·have SM:=jh (av_Same e.a a e.v m.a w13 ((RI13.out.1.ent e (findE_mem HF0.out.1).1).2.self) (HA.out _ (FW.out _ K13.out)));generalize hsm:sameA e.a a=sm at SM TB;clear hsm;go_wp2_with (with_reducible refine jM (X:=.load 42 (.tmp 17)) ?_ ?_;(·rfl));unfold Halt;refine ld_at (by rfl) 42 (.tmp 17) rfl g rfl 42 e.v.C (0,0) _ HF0.out.2 Tryz.underlying42 rfl (by kernel_rfl) ?_;go_wp2_with (with_reducible refine jM (X:=.load 42 (.tmp 115)) ?_ ?_;(·rfl));unfold Halt;refine ldm_at (by rfl) 42 (.tmp 115) rfl w.heap.size 6 rfl m.a.C.toList _ (msg_range Q13.out) Tryz.underlying42 rfl (by kernel_rfl) ?_;go_wp2_with fail;refine SM.out.mono ?_;rintro e w14 ⟨rfl,hb14⟩;have HB14:=jh hb14;clear hb14;cases sm
              ·go_wp2_with fail;go_meet;exact⟨by rw[TB.out];rfl,HB14⟩
              ·go_wp2_with fail;go_meet;exact⟨by rw[TB.out];rfl,HB14⟩
           case rest=>
            obtain⟨rfl,HH⟩:=hcut;obtain⟨w14,hw14⟩:∃w14:World,w14=wc:=⟨_,rfl⟩
            rw[←hw14] at HH ⊢;have q0:=jA q0 HH.out;have q1:=jA q1 HH.out;have K14:=jh (K13.out.grow HH.out);have RI14:=jh (And.intro (RI13.out.1.below HH.out) RI13.out.2);have OT14:=jh (OT13.out.below HH.out);clear hw14 HH K13 RI13 OT13 HD13 Q13 HDD GX;generalize htb:turnB (rts E) ns a x=tb' at FT;clear htb
            go_upto_if 120 with (fail)
            go_cut [14] (fun v14 wx=>Hid (OwnPs wx w10.heap.size v14 ((said.take (k+1)).filter (turnB (rts E) ns a)))∧Hid (wx.cell? ⟨wr.heap.size,0,none⟩=some (.int .u32 x.1)∧wx.cell? ⟨wr.heap.size,1,none⟩=some (.int .i64 x.2)∧RibIn wx rb tb N2 E2 peer own most F∧rts E2=dropAll (rts E) (said.take k)∧Kept F w10 wx))
            case first=>
             cases tb' with
             |false=>
              have OT15:Hid (OwnPs w14 w10.heap.size u14 ((said.take (k+1)).filter (turnB (rts E) ns a))):=jh (by rw[FT.out];simpa using OT14.out);have J:=jh (And.intro q0 (And.intro q1 (And.intro RI14.out.1 (And.intro RI14.out.2 K14.out))));clear q0 q1;go_wp2_with fail;go_meet;exact⟨OT15,J⟩
             |true=>
              have hal:Below w14.heap.size w14 (w14.alloc (.cells #[.int .u32 x.1,.int .i64 x.2] 53)):=(Below.refl _ _).alloc (Nat.le_refl _) _;have NA:=jh (psAt_new w14 x 53 RX.out.1);have OA:=jh (OT14.out.below hal);have SA:Hid (w10.heap.size≤(w14.alloc (.cells #[.int .u32 x.1,.int .i64 x.2] 53)).heap.size):=jh (Nat.le_trans K14.out.size hal.size);have LA:Hid (((said.take k).filter (turnB (rts E) ns a)).length+[x].length≤8796093022208):=jh (by
               have h2:((said.take k).filter (turnB (rts E) ns a)).length≤656:=Nat.le_trans (List.length_filter_le ..) (by rw[List.length_take];omega);simp only[List.length_cons,List.length_nil];omega)
              have JA:Hid (∀w15,Below w10.heap.size (w14.alloc (.cells #[.int .u32 x.1,.int .i64 x.2] 53)) w15→Kept (fun b=>u14.ownBlock=some b) (w14.alloc (.cells #[.int .u32 x.1,.int .i64 x.2] 53)) w15→w15.cell? ⟨wr.heap.size,0,none⟩=some (.int .u32 x.1)∧w15.cell? ⟨wr.heap.size,1,none⟩=some (.int .i64 x.2)∧RibIn w15 rb tb N2 E2 peer own most F∧rts E2=dropAll (rts E) (said.take k)∧Kept F w10 w15):=jh (fun w15 hb hk=>
               ⟨hk.cell (jA q0 hal) (fun h=>OTL.out _ h rfl),hk.cell (jA q1 hal) (fun h=>OTL.out _ h rfl),
                (RI14.out.1.below hal).kept hk (fun k hl hF h=>by have:=HFL.out k hF;have:=jJ OT14.out.1 k h;have:=ws10.out;omega),
                RI14.out.2,(K14.out.grow hal).belowOn hb⟩)
              clear hal;go_wp2_with (at_builtin;refine wpList_app rfl _ _ rfl w10.heap.size u14 (.slice (some ⟨w14.heap.size,0,none⟩) 1 1) ((said.take k).filter (turnB (rts E) ns a)) [x] rfl rfl SA.out OA.out NA.out LA.out ?_);intro v15 w15 ho hb hk;have OT15:Hid (OwnPs w15 w10.heap.size v15 ((said.take (k+1)).filter (turnB (rts E) ns a))):=jh (by rw[FT.out];exact ho);have J:=jh (JA.out w15 hb hk);clear ho hb hk JA NA OA SA LA q0 q1;go_wp2_with fail;go_meet;exact⟨OT15,J⟩
            case rest=>
             obtain⟨OT15,J⟩:=hcut;obtain⟨w16,hw16⟩:∃w16:World,w16=wc:=⟨_,rfl⟩
             rw[←hw16] at OT15 J ⊢;clear hw16 q0 q1;have q0:=J.out.1;have q1:=J.out.2.1;have q3:=J.out.2.2.1.cells.2.2.2;have NQ:Hid (¬TOwn tb N2 wr.heap.size):=jh (fun h=>NF1.out (J.out.2.2.1.ftr _ h));have NR:Hid (¬TOwn tb N2 rb):=jh J.out.2.2.1.apr;have DRC:=jh (rib_drop x w16.drew (J.out.2.2.1.below (Below.refl _ _).drew) RX.out);clear OT14 RI14 K14;go_upto_region 28 with (fail)
             refine wp_region_held_drew (S:=fun w'=>Kept (TOwn tb N2) w16 w') (by kernel_rfl) ?_ (fun hHeld=>?_)
             ·exact(Kept.refl _ _).drew
             generalize World.drew w16=wd at DRC hHeld ⊢;refine qz 0 hHeld ?_;refine qz 4 hHeld ?_ (hy:=by intro w' hSw;have q0:=hSw.cell q0 NQ.out;have q1:=hSw.cell q1 NQ.out;have q3:=hSw.cell q3 NR.out;(try clear hHeld);go_simp;try with_reducible rfl);refine jr 1 fun K hK=>?_;(try clear hb);go_simp;go_wp2_with fail;refine hK.out _ _ hHeld fun hHeld=>?_;clear hK K;(try simp only[jz]);refine qz 2 hHeld ?_;refine qz 3 hHeld ?_ (hy:=by intro w' hSw;have q0:=hSw.cell q0 NQ.out;have q1:=hSw.cell q1 NQ.out;have q3:=hSw.cell q3 NR.out;(try clear hHeld);go_simp;try with_reducible rfl);refine jr 5 fun K hK=>?_;(try clear hb);go_simp;refine DRC.out.mono ?_;rintro e w17 ⟨N3,cc,rfl,ri,hk⟩;have RI17:=jh ri;have K17:=jh hk;clear ri hk;go_wp2_with fail;refine hK.out _ _ ?_ (fun hHeld=>?_);(·exact hHeld.trans K17.out);clear hK K;(try simp only[jz]);refine wpAnyH_done (by kernel_rfl) ?_ _;have HH17:=jh hHeld;have RE:Hid (rts (delE E2 x)=dropAll (rts E) (said.take (k+1))):=jh ((del_rts E2 x).symm.trans ((congrArg (fun R=>delL R x) J.out.2.2.2.1).trans DT.out.symm));have OT17:=jh (OT15.out.kept HH17.out (fun g hg hT=>by have:=HFL.out g (J.out.2.2.1.ftr g hT);have:=jJ OT15.out.1 g hg;have:=ws10.out;omega));have KK17:Hid (Kept F w10 w17):=jh (J.out.2.2.2.2.trans (HH17.out.imp (fun b hb=>J.out.2.2.1.ftr b hb)));clear q0 q1 q3 hHeld;go_wp2_with fail;exact⟨⟨k+1,N3,delE E2 x,by omega,by go_num,jh ⟨RI17.out,RE.out⟩,OT17,KK17⟩,by simp[intOf];omega⟩
         ·obtain rfl:said.length=k:=by omega
          obtain⟨w20,hw20⟩:∃w20:World,w20=wr:=⟨_,rfl⟩
          rw[←hw20] at RI OT K ⊢;clear hw20;have RR:Hid (rts E2=dropAll (rts E) said):=jh (by have:=RI.out.2;rw[List.take_length] at this;exact this);have OTF:Hid (OwnPs w20 w10.heap.size u14 (said.filter (turnB (rts E) ns a))):=jh (by have:=OT.out;rw[List.take_length] at this;exact this);have RI20:=jh RI.out.1;have ON20:=jh (ON10.out.kept K.out (fun g hg hF=>by have:=HFL.out g hF;have:=jJ ON10.out.1 g hg;omega));have HSN:Hid (0<ns.length→∃b off:Nat,s6=some ⟨b,off,none⟩∧w.heap.size≤b∧∀(k:Nat) (x:Pf),ns[k]? =some x→w20.cell? ⟨b,off+k*2,none⟩=some (.int .u32 x.1)∧w20.cell? ⟨b,off+k*2+1,none⟩=some (.int .i64 x.2)):=jh (fun h0=>by
           obtain⟨sa,cap,hv,-,-,hV⟩:=ON20.out.at;injection hv with h1 h2 h3;obtain⟨b,off,hsa,hP⟩:=hV h0;exact⟨b,off,h1.trans hsa,jJ ON20.out.1 b (by rw[h1.trans hsa];rfl),fun k x hx=>ps_two hP hx⟩)
          have NG:Hid (¬F w.heap.size):=jh (fun h=>Nat.lt_irrefl _ (HFL.out _ h));have Q20:=jh ((K.out.block _ (jE Q10.out) NG.out).trans Q10.out);have K20:=jh K.out;have nl:=NL.out;clear RI OT K RB10 HS10;go_wp2_with fail;go_loopw [134] (fun k134 wq=>∃(k:Nat) (N3:Nat→Option Nat) (E3:List Ent) (F3:Nat→Prop),k≤ns.length∧k134=.int .i64 k∧Hid (RibIn wq rb tb N3 E3 peer own most F3∧rts E3=putAll (dropAll (rts E) said) (ns.take k) a∧(∀b,F3 b→F b∨(w20.heap.size≤b∧b<wq.heap.size)))∧Hid (Kept F w20 wq)) (fun k134 _=>ns.length - (intOf k134).toNat)
          case atStart=>exact⟨0,N2,E2,F,by omega,rfl,jh ⟨RI20.out,RR.out,fun b hb=>.inl hb⟩,jh (Kept.refl _ _)⟩
          case round=>
           obtain⟨k,N3,E3,F3,hk3,rfl,RI,K⟩:=hrel;by_cases hlt:k<ns.length
           ·obtain⟨x,hx⟩:∃x,ns[k]? =some x:=⟨_,List.getElem?_eq_getElem hlt⟩
            obtain⟨b,off,hsa,hbw,hP⟩:=HSN.out (by omega);subst hsa;obtain⟨x0,x1⟩:=hP k x hx;have nF:¬F b:=fun h=>by have:=HFL.out b h;omega
            have x0:=K.out.cell x0 nF;have x1:=K.out.cell x1 nF;have k0:(0:Int)≤(k:Int):=by omega
            have k1:(k:Int)<(ns.length:Int):=by omega
            have RX:=jh (SOK.out x (NSD.out x (List.mem_of_getElem? hx)));have ROOM:=jh (put_room (a:=a) NSR.out NSD.out hlt HC.out RI.out.2.1);have PN:=jh (put_next (dropAll (rts E) said) a hx);clear hP hx nF hbw;go_upto_region 33 with (fail)
            obtain⟨w21,hw21,q0,q1,hb21⟩:=box2 wr (.int .u32 x.1) (.int .i64 x.2) 53;rw[←hw21];clear hw21 x0 x1;have hwr:Hid (w20.heap.size≤wr.heap.size):=jh K.out.size;have hsz:=hb21.size;have K21:=jh (K.out.grow hb21);have RI21:=jh (RI.out.1.below hb21);have F21:Hid (∀b,F3 b→F b∨(w20.heap.size≤b∧b<w21.heap.size)):=jh (fun b hb=>(RI.out.2.2 b hb).imp_right fun h=>by omega);have q3:=RI21.out.cells.2.2.2;have NQ:Hid (¬TOwn tb N3 wr.heap.size):=jh (fun h=>by have:=RI.out.1.tri.own_lt h;omega);have NR:Hid (¬TOwn tb N3 rb):=jh RI.out.1.apr;have QM:=jh ((K21.out.block _ (jE Q20.out) NG.out).trans Q20.out);have NQM:Hid (¬TOwn tb N3 w.heap.size):=jh (fun h=>by
             rcases RI.out.2.2 _ (RI.out.1.ftr _ h) with h1|h1
             ·exact NG.out h1
             ·have:=jE Q20.out;omega)
            have CLN:=jh (fun W (hb:Below w21.heap.size w21 W)=>av_Clone a m.a W (HA.out W (FW.out W (K20.out.trans (K21.out.grow hb)))) SZ.out);have PUT:=jh (fun (u:AV) (lo:Nat) W (hb:Below w21.heap.size w21 W) hlo hon=>rib_put2 (F0:=F) (w0:=w20.heap.size) x a u lo W w21 RI21.out hb F21.out (by have:=hwr.out;omega) RX.out SZ.out hlo hon ROOM.out);have EQ3:=jh RI.out.2.1;have hBel:Below w21.heap.size w21 w21.drew:=(Below.refl _ _).drew;clear hb21 hsz RI K;go_wp2_with fail;refine wp_region_held_drew (S:=fun w'=>Kept (TOwn tb N3) w21 w') (by kernel_rfl) ?_ (fun hHeld=>?_)
            ·exact(Kept.refl _ _).drew
            generalize World.drew w21=wd at hBel hHeld ⊢;refine qz 0 hHeld ?_;refine qz 4 hHeld ?_ (hy:=by intro w' hSw;have q0:=hSw.cell q0 NQ.out;have q1:=hSw.cell q1 NQ.out;have q3:=hSw.cell q3 NR.out;(try clear hHeld);go_simp;try with_reducible rfl);refine qz 5 hHeld ?_;refine qz 6 hHeld ?_ (hy:=by intro w' hSw;refine exec_ldm 42 (.tmp 143) ?_ w.heap.size 6 ?_ m.a.C.toList _ (msg_range ((hSw.block _ (jE QM.out) NQM.out).trans QM.out)) Tryz.underlying42 rfl (by kernel_rfl)<;>rfl);refine jI (i:=1) (j:=7) (atS at0) (atS (atS (atS (atS (atS (atS (atS at0))))))) (by kernel_rfl) ?_ ?_ (fun K hK=>?_) (fun K hK=>?_)
            ·rfl
            ·rfl
            ·(try clear hb);go_simp;go_wp2_with fail;refine hK.out _ _ hHeld fun hHeld=>?_;clear hK K;(try simp only[jz]);refine qz 2 hHeld ?_;refine qz 3 hHeld ?_ (hy:=by intro w' hSw;have q0:=hSw.cell q0 NQ.out;have q1:=hSw.cell q1 NQ.out;have q3:=hSw.cell q3 NR.out;(try clear hHeld);go_simp;try with_reducible rfl);refine jr 7 fun K hK=>?_;(try clear hb);go_simp;have hlo:=hBel.size;refine(CLN.out _ hBel).mono ?_;rintro e w22 ⟨u,rfl,fr,hb⟩;have FR:=jh fr;clear fr;replace hBel:=jC hBel hb;go_wp2_with fail;refine hK.out _ _ ?_ (fun hHeld=>?_);(·exact hHeld.grow hb);clear hK K;(try simp only[jz]);refine jr 8 fun K hK=>?_;(try clear hb);go_simp;refine(PUT.out u _ _ hBel hlo FR.out).mono ?_;rintro e w23 ⟨N4,E4,F4,cc,rfl,ri,re,rf,hk⟩;have RI23:=jh ri;have RE23:=jh re;have RF23:=jh rf;have K23:=jh hk;clear ri re rf hk;go_wp2_with fail;refine hK.out _ _ ?_ (fun hHeld=>?_);(·exact hHeld.trans K23.out);clear hK K;(try simp only[jz]);refine wpAnyH_done (by kernel_rfl) ?_ _;have HH:=jh hHeld;have RE:Hid (rts E4=putAll (dropAll (rts E) said) (ns.take (k+1)) a):=jh (RE23.out.trans ((congrArg (fun R=>putP R x a) EQ3.out).trans PN.out.symm));have KK:Hid (Kept F w20 w23):=jh (by
              refine⟨HH.out.os.trans K21.out.os,HH.out.tape.trans K21.out.tape,HH.out.output.trans K21.out.output,Nat.le_trans K21.out.size HH.out.size,fun b hb hf=>?_⟩;refine(HH.out.block b (Nat.lt_of_lt_of_le hb K21.out.size) (fun ho=>?_)).trans (K21.out.block b hb hf);rcases F21.out b (RI21.out.ftr b ho) with h|h
              ·exact hf h
              ·omega)
             clear q0 q1 q3 hHeld hBel;go_wp2_with fail;exact⟨⟨k+1,N4,E4,F4,by omega,by go_num,jh ⟨RI23.out,RE.out,RF23.out⟩,KK⟩,by simp[intOf];omega⟩
            ·(try clear hb);go_simp;have hlo:=hBel.size;refine(CLN.out _ hBel).mono ?_;rintro e w22 ⟨u,rfl,fr,hb⟩;have FR:=jh fr;clear fr;replace hBel:=jC hBel hb;go_wp2_with fail;refine hK.out _ _ ?_ (fun hHeld=>?_);(·exact hHeld.grow hb);clear hK K;(try simp only[jz]);refine jr 1 fun K hK=>?_;(try clear hb);go_simp;go_wp2_with fail;refine hK.out _ _ hHeld fun hHeld=>?_;clear hK K;(try simp only[jz]);refine qz 2 hHeld ?_;refine qz 3 hHeld ?_ (hy:=by intro w' hSw;have q0:=hSw.cell q0 NQ.out;have q1:=hSw.cell q1 NQ.out;have q3:=hSw.cell q3 NR.out;(try clear hHeld);go_simp;try with_reducible rfl);refine jr 8 fun K hK=>?_;(try clear hb);go_simp;refine(PUT.out u _ _ hBel hlo FR.out).mono ?_;rintro e w23 ⟨N4,E4,F4,cc,rfl,ri,re,rf,hk⟩;have RI23:=jh ri;have RE23:=jh re;have RF23:=jh rf;have K23:=jh hk;clear ri re rf hk;go_wp2_with fail;refine hK.out _ _ ?_ (fun hHeld=>?_);(·exact hHeld.trans K23.out);clear hK K;(try simp only[jz]);refine wpAnyH_done (by kernel_rfl) ?_ _;have HH:=jh hHeld;have RE:Hid (rts E4=putAll (dropAll (rts E) said) (ns.take (k+1)) a):=jh (RE23.out.trans ((congrArg (fun R=>putP R x a) EQ3.out).trans PN.out.symm));have KK:Hid (Kept F w20 w23):=jh (by
              refine⟨HH.out.os.trans K21.out.os,HH.out.tape.trans K21.out.tape,HH.out.output.trans K21.out.output,Nat.le_trans K21.out.size HH.out.size,fun b hb hf=>?_⟩;refine(HH.out.block b (Nat.lt_of_lt_of_le hb K21.out.size) (fun ho=>?_)).trans (K21.out.block b hb hf);rcases F21.out b (RI21.out.ftr b ho) with h|h
              ·exact hf h
              ·omega)
             clear q0 q1 q3 hHeld hBel;go_wp2_with fail;exact⟨⟨k+1,N4,E4,F4,by omega,by go_num,jh ⟨RI23.out,RE.out,RF23.out⟩,KK⟩,by simp[intOf];omega⟩
           ·obtain rfl:ns.length=k:=by omega
            have RE:Hid (rts E3=putAll (dropAll (rts E) said) ns a):=jh (by have:=RI.out.2.1;rw[List.take_length] at this;exact this);have FIN:Hid (UpdPost rb peer own most F w U (.returned (.tuple #[u14,.int .i64 0])) wr):=jh (by
             rw[HU.out];have h10:=ws10.out;refine⟨u14,F3,rfl,(OTF.out.kept K.out (fun g hg hF=>by have:=HFL.out g hF;have:=jJ OTF.out.1 g hg;omega)).base h10,⟨tb,N3,E3,RI.out.1,RE.out.symm⟩,fun b hb=>(RI.out.2.2 b hb).imp_right fun h=>?_,fun g hg hF=>?_,FW.out _ (K20.out.trans K.out)⟩
             ·have:=K20.out.size;omega
             ·have h1:=jJ OTF.out.1 g hg;have h2:=own_lt OTF.out.1 g hg;rcases RI.out.2.2 g hF with h|h
              ·have:=HFL.out g h;omega
              ·omega)
            clear RI K;go_wp2_with fail;refine bodyPost_ret (v:=.tuple #[u14,.int .i64 0]) (by simp[results,Tryz.results42,go_sem]) rfl FIN.out
 ·have E1:=jh (fun w' hb=>updPost_no (F:=F) (w:=w) (w':=w') (upd_kind (own:=own) (most:=most) (R:=rts E) (gone:=gone) (nets:=nets) (a:=a) hk) ⟨tb,N,E,h,rfl⟩ hb);have k1:(m.kind !=2)=true:=by simpa using hk
  clear hk h hg hn ha FLT;go_enter Tryz.func42,Tryz.ntmps42;go_upto_region 1 with (fail)
  obtain⟨W0,hW0,q0,hB,-⟩:=box_msg w m;rw[←hW0];clear hW0;have ck:W0.cell? ⟨w.heap.size,0,none⟩=some (.int .i64 m.kind):=jB q0 0;clear q0;go_wp2_with fail;refine bodyPost_ret (v:=.tuple #[.slice none 0 0,.int .i64 1]) (by simp[results,Tryz.results42,go_sem]) rfl (E1.out _ hB)
theorem ad_Update {rb:Nat} {peer own most:Int} {R:Rts} {F:Nat→Prop} (m:MV) (gone nets:List Pf) (a:At) (w:World) (h:RibAt w rb peer own most R F)
  (hg:PsAt w m.G gone) (hn:PsAt w m.N nets) (ha:∀W,Kept F w W→AvAt W a m.a) (hz:gone.length+nets.length≤656) (sz:AtSz a):
  Calls Tryz.prog 42 #[.pointer (some ⟨rb,0,none⟩),m.V] w (UpdPost rb peer own most F w (updP own most R m.kind gone nets a)):=by
 obtain⟨tb,N,E,hI,rfl⟩:=h;obtain⟨hx,sub,lt⟩:=hI.exact;refine(ad_Update_in m gone nets a w hx lt hg hn (fun W hk=>ha W (hk.imp sub)) hz sz).mono ?_;rintro e w' ⟨v,F',rfl,o,r,f,g,k⟩;exact⟨v,F',rfl,o,r,fun k hk=>(f k hk).imp_left (sub k),g,k.imp sub⟩
end Go.Proofs.YtkoidahgbbabiaaGreat
