/- Texts of one proof, one behind another. -/
import Derived.Test.YtkoidahgbbabiaaGreatSr17
import Derived.Test.YtkoidahgbbabiaaGreatSr1
set_option maxRecDepth 100000
set_option maxHeartbeats 100000000
namespace Go.Proofs.YtkoidahgbbabiaaGreat
open Go.RowKit
theorem said_cs {W:World} {rho:Nat→Role} {sb fb:Nat} {ls:List Pl} {S:Sv} (h:SrvM W rho sb fb ls S) {p:Pf} {xs:List CV} (hx:xs.map (·.c)=saidS S.ms p):(∀x∈xs,OkC x.c)∧(∀x∈xs,∃j:Nat,j<16∧x.c.peer=(j:Int))∧xs.length≤16:=by
 have hm:∀x∈xs,x.c∈saidS S.ms p:=fun x hm=>by rw[←hx];exact List.mem_map.2 ⟨x,hm,rfl⟩
 refine⟨fun x hxm=>h.saidOk _ (hm x hxm),fun x hxm=>?_,?_⟩
 ·obtain⟨k,m,b,hk,-,e⟩:=saidS_mem (hm x hxm);have:=(List.getElem?_eq_some_iff.1 hk).1;have:=h.bod.few;exact⟨k,by omega,by rw[e];rfl⟩
 ·have h1:=congrArg List.length hx;rw[List.length_map] at h1;rw[h1];exact Nat.le_trans (saidS_len ..) h.bod.few
theorem said_net {S:Sv} {p:Pf} {xs:List CV} (hp:OkP p) (hx:xs.map (·.c)=saidS S.ms p):∀x∈xs,(x.c.na:Int)=p.1∧x.c.nl=p.2:=fun x hm=>by
 have h1:x.c∈saidS S.ms p:=by rw[←hx];exact List.mem_map.2 ⟨x,hm,rfl⟩
 obtain⟨k,m,b,hk,-,e⟩:=saidS_mem h1;rw[e];exact⟨Int.toNat_of_nonneg hp.1,rfl⟩
theorem ord_perm {l:List Cd} {ord:List Int} (h:OrdSt (rksOf l) [] ord):ord.Perm ((List.range l.length).map fun (i:Nat)=>(i:Int)):=by
 have hlen:ord.length=l.length:=by
  have:=h.len;rw[rksOf_len] at this;simpa using this
 have hin:∀(p:Nat) (k:Int),ord[p]? =some k→∃i:Nat,i<l.length∧k=(i:Int)∧k∉ord.take p:=fun p k hk=>by
  obtain⟨r,rfl,hb⟩:=h.best p k hk;have hm:=hb.mem;unfold leftOf at hm;obtain⟨h1,h2⟩:=List.mem_filter.1 hm;obtain⟨i,c,hi,rfl⟩:=rksOf_mem.1 h1;refine⟨i,(List.getElem?_eq_some_iff.1 hi).1,rfl,?_⟩;simpa using h2
 have hnd:ord.Nodup:=by
  rw[List.nodup_iff_pairwise_ne,List.pairwise_iff_getElem];intro i j hi hj hij e;obtain⟨-,-,-,h4⟩:=hin j ord[j] (List.getElem?_eq_getElem hj);apply h4;rw[←e];exact List.mem_take_iff_getElem.2 ⟨i,by omega,rfl⟩
 refine perm_len _ _ hnd (fun k hk=>?_) (by simp[hlen]);obtain⟨p,hp⟩:=List.getElem?_of_mem hk;obtain⟨i,h1,h2,-⟩:=hin p k hp;exact List.mem_map.2 ⟨i,List.mem_range.2 h1,h2.symm⟩
theorem ord_first {l:List Cd} {ord:List Int} (h:OrdSt (rksOf l) [] ord) {k:Int} (hk:ord[0]? =some k):bestI l=k:=by
 obtain⟨r,rfl,hb⟩:=h.best 0 k hk;have e:leftOf (rksOf l) (ord.take 0)=rksOf l:=by
  unfold leftOf;rw[List.filter_eq_self];intro x _;simp
 rw[e] at hb;obtain⟨i,c,hi,rfl⟩:=rksOf_mem.1 hb.mem;exact bestI_of hi hb
def pickCV (ys:List CV) (p:Pf) (k:Int):BE:=match ys[k.toNat]? with|some y=>⟨y.c.peer,p,y.c.a,y.v⟩|none=>⟨0,p,⟨0,0,[],0,0,0,0,0,[],[]⟩,av0⟩
def beC (x:BE):Int×At:=(x.peer,x.a)
theorem pick_perm {ys:List CV} {p:Pf} {ord:List Int} (h:ord.Perm ((List.range ys.length).map fun (i:Nat)=>(i:Int))):((ord.map (pickCV ys p)).map beC).Perm (ys.map fun y=>(y.c.peer,y.c.a)):=by
 have h1:=(h.map (pickCV ys p)).map beC;refine h1.trans ?_;rw[List.map_map,List.map_map];have:(List.range ys.length).map (beC ∘ pickCV ys p ∘ fun (i:Nat)=>(i:Int))=ys.map fun y=>(y.c.peer,y.c.a):=by
  apply List.ext_getElem?;intro i;rw[List.getElem?_map,List.getElem?_map];by_cases hi:i<ys.length
  ·rw[List.getElem?_range hi,List.getElem?_eq_getElem hi];simp[pickCV,beC,hi]
  ·rw[List.getElem?_eq_none (by simpa using hi),List.getElem?_eq_none (by omega)];rfl
 show (List.map (beC ∘ pickCV ys p ∘ fun (i:Nat)=>(i:Int)) (List.range ys.length)).Perm _;rw[this]
abbrev OwnOf:=OwnR 61 13 beL (fun x W=>AvAt W x.a x.v)
def OffersPost (l:List Cd) (p:Pf) (W:World) (e:Ending) (w':World):Prop:=
 ∃(s:Option Addr) (c:Nat) (L:List BE) (A:Nat→Prop),e=.returned (.slice s L.length c)∧OwnOf w' W.heap.size (.slice s L.length c) L A∧(L.map beC).Perm (l.map fun c=>(c.peer,c.a))∧(∀x∈L,x.p=p)∧(∀x,L[0]? =some x→pickB l=some (x.peer,x.a))∧Below W.heap.size W w'
section
variable {W:World} {rho:Nat→Role} {sb fb:Nat} {ls:List Pl} {S:Sv}
theorem iL_at {w:World} {s:Option Addr} {n c:Nat} {xs:List Int} (h:SlAt w 1 (fun x cs=>cs=intL x) (.slice s n c) xs) {i:Nat} {x:Int} (hx:xs[i]? =some x):∃g o,s=some ⟨g,o,none⟩∧w.cell? ⟨g,o+i,none⟩=some (.int .i64 x):=by
 obtain⟨s',c',e,h1,h2,h3⟩:=h;injection e with e _ _;subst e;have hi:=(List.getElem?_eq_some_iff.1 hx).1;obtain⟨b,off,rfl,h4⟩:=h3 (by omega);obtain⟨cs,-,rfl,hc⟩:=h4 i x hx;have:=hc 0 _ rfl;rw[Nat.mul_one] at this;exact⟨b,off,rfl,this⟩
theorem sv_Offers (h:SrvM W rho sb fb ls S) {i:Nat} {m:Pm} (hm:S.ms[i]? =some m) (p:Pf) (hp:KOk p):
  Calls Tryz.prog 30 #[.pointer (some ⟨sb,0,none⟩),.int .i64 i,.agg #[.int .u32 p.1,.int .i64 p.2]] W (OffersPost (offS S.own S.bl S.ms i p) p W):=by
 obtain⟨l,hl,hM⟩:=h.get hm;have HS:=jh h;have HM:=jh hm;have HP:=jh hp;have MB:=jh (fun w' (hb:Below W.heap.size W w')=>sv_member (h.below hb) hl);have AS:Hid (asOf S.ms i=m.as_):=jh (by unfold asOf;rw[hm];rfl);obtain⟨i0,hii,hz0,hz1,hz2⟩:=info_parts info_rtB;clear h hm hl hM hp;go_enter Tryz.func30,Tryz.ntmps30;go_upto_region 1 with (fail)
 obtain⟨W0,hW0,c0,c1,hB⟩:=box2 W (.int .u32 p.1) (.int .i64 p.2) 53;rw[←hW0];obtain⟨pb,hpb⟩:∃pb,pb=W.heap.size:=⟨_,rfl⟩
 rw[←hpb] at c0 c1 ⊢;have B0:=jh hB;have HS0:=jh (HS.out.below hB);have SD:=jh (sv_said HS0.out p HP.out.1);clear hW0 hB hpb;go_wp2_with fail;refine(MB.out _ B0.out).mono ?_;rintro e w1 ⟨rfl,rfl⟩;go_wp2_with fail;refine SD.out.mono ?_;rintro e w2 ⟨sx,cx,xs,A,rfl,ox,xe,hb2⟩;have HS2:=jh (HS0.out.below hb2);have AC:=jh (said_cs HS2.out xe);have XE:=jh xe;have XO:=jh ox;have B2:=jh (jC B0.out hb2);have OF:=jh (sv_offered HS2.out HM.out (.slice sx xs.length cx) xs ox.at AC.out.2.1 AC.out.2.2);clear ox xe hb2 SD c0 c1 HS0 MB;go_wp2_with fail;refine OF.out.mono ?_;rintro e w3 ⟨so,co,rfl,fo,hb3⟩;obtain⟨ys,hys⟩:∃ys,goL S.own S.bl i m.as_ xs=ys:=⟨_,rfl⟩
 rw[hys] at fo ⊢;have YE:Hid (ys.map (·.c)=offS S.own S.bl S.ms i p):=jh (by
  rw[←hys,goL_c];unfold offS;rw[AS.out,←XE.out])
 have YM:Hid (∀y∈ys,y∈xs):=jh (by rw[←hys];intro y hy;exact(List.mem_filter.1 hy).1);have YL:Hid (ys.length≤16):=jh (by rw[←hys];exact Nat.le_trans (List.length_filter_le ..) AC.out.2.2);have X3:=jh (XO.out.below hb3);have CY:Hid (CvsAt w3 (.slice so ys.length co) ys):=jh ⟨fo.self,fun y hy=>X3.out.mem.self y (YM.out y hy)⟩;have OKY:Hid (∀y∈ys,OkC y.c):=jh fun y hy=>AC.out.1 y (YM.out y hy);have B3:=jh (jC B2.out hb3);have OD:=jh (ch_Order (.slice so ys.length co) (ys.map (·.c)) w3 (CY.out.cds OKY.out) (by rw[List.length_map];have:=YL.out;omega) (fun c hc=>by
  obtain⟨y,hy,rfl⟩:=List.mem_map.1 hc;exact(OKY.out y hy).2.2.2.2.hops))
 clear fo hys hb3 OF XO HS2;go_wp2_with fail;refine OD.out.mono ?_;rintro e w4 ⟨vo,ord,rfl,os,oi,hb4⟩;obtain⟨si,ci,rfl,oil,-⟩:=id oi;have OP:=jh (ord_perm os);have OS1:=jh os;have OI:=jh oi;have B4:=jh (jC B3.out hb4);have X4:=jh (X3.out.below hb4);have CY4:=jh (CY.out.below hb4);have OL:Hid (ord.length=ys.length):=jh (by have:=OP.out.length_eq;simpa using this);have ol:ord.length≤16:=by rw[OL.out];exact YL.out
 have A4:Hid (∀k,A k→k<w4.heap.size):=jh (fun k hk=>(X4.out.lt k hk).2);clear os oi oil hb4 OD X3 CY B3;have O0:Hid (w4.ownsRow w4.heap.size 61 13 (.slice none 0 0) 0 (((ord.take 0).map (pickCV ys p)).flatMap beL)):=jh ⟨by simp,.inl ⟨rfl,rfl⟩⟩;go_wp2_with fail;go_loopw [24,8] (fun t24 t8 wr=>∃(j:Nat) (s:Option Addr) (c:Nat),j≤ord.length∧t24=.int .i64 j∧t8=.slice s j c∧Hid (wr.ownsRow w4.heap.size 61 13 (.slice s j c) j (((ord.take j).map (pickCV ys p)).flatMap beL))∧Hid (Below w4.heap.size w4 wr)) (fun t24 _ _=>ord.length - (intOf t24).toNat)
 case atStart=>exact⟨0,none,0,by omega,rfl,rfl,O0,jh (Below.refl _ _)⟩
 case round=>
  clear O0;obtain⟨j,s,c,hj,rfl,rfl,OW,BV⟩:=hrel;by_cases hjl:j<ord.length
  ·obtain⟨k,hk⟩:∃k,ord[j]? =some k:=⟨_,List.getElem?_eq_getElem hjl⟩
   obtain⟨q,hq,rfl⟩:∃q:Nat,q<ys.length∧k=(q:Int):=by
    have:=OP.out.mem_iff.1 (List.mem_of_getElem? hk);obtain⟨q,hq,rfl⟩:=List.mem_map.1 this;exact⟨q,by simpa using hq,rfl⟩
   obtain⟨y,hy⟩:∃y,ys[q]? =some y:=⟨_,List.getElem?_eq_getElem hq⟩
   obtain⟨gi,oi,rfl,ci0⟩:=iL_at (SlAt.below OI.out BV.out fun _ _ h=>h) hk;obtain⟨gy,oy,rfl,hr,-⟩:=cvs_at (CY4.out.below BV.out) hy;have RR:=jh (cv_rt hr (said_net HP.out.1 XE.out y (YM.out y (List.mem_of_getElem? hy))).1 (said_net HP.out.1 XE.out y (YM.out y (List.mem_of_getElem? hy))).2);have PK:Hid (pickCV ys p (q:Int)=⟨y.c.peer,p,y.c.a,y.v⟩):=jh (by unfold pickCV;rw[Int.toNat_natCast,hy]);have TK:Hid (ord.take (j+1)=ord.take j++[(q:Int)]):=jh (take_snoc hk);have j0:(0:Int)≤(j:Int):=by omega
   have j1:(j:Int)<(ord.length:Int):=by omega
   have q0:(0:Int)≤(q:Int):=by omega
   have q1:(q:Int)<(ys.length:Int):=by omega
   clear hk hy hr hq;go_wp2_with ((with_reducible refine jM (X:=.load 61 (.tmp 32)) ?_ ?_);(·rfl));unfold Halt;refine ldm_at (by rfl) 61 (.tmp 32) rfl gy (oy+q*14) rfl (rtC y.c.peer p y.v).toList _ RR.out Tryz.underlying61 rfl sz_rt ?_;go_wp2_with ((with_reducible refine wpList_rt1 (.tmp 33) rfl ?_ y.c.peer p y.v ?_ ?_);(·rfl);(·rfl));intro w7 hc7 hb7 hz7;have O7:=jh (jQ OW.out hb7);have BV7:=jh (jC BV.out hb7);clear hb7 hz7 BV OW RR;refine wpList_append_own_at _ rfl (.tmp 28) (.tmp 34) 57 rfl w4.heap.size 61 i0 _ 13 152 Tryz.underlying57 hii hz0 hz1 hz2 rfl (by decide) (.slice s j c) j (((ord.take j).map (pickCV ys p)).flatMap beL) rfl O7.out ⟨wr.heap.size,0,none⟩ 1 1 (rtC y.c.peer p y.v).toList rfl rfl (fun j y hy=>by have h:=hc7 j y hy;unfold Addr.add;split;(·rename_i e;subst e;exact h);(·simpa using h)) (beL_one ⟨y.c.peer,p,y.c.a,y.v⟩) (by unfold maxLen;omega) (by omega) BV7.out.size ?_;intro v8 w8 h2 h3 _ hat;obtain⟨s8,c8,hv8,-⟩:=jV h2;subst hv8;have O8:Hid (w8.ownsRow w4.heap.size 61 13 (.slice s8 (j+1) c8) (j+1) (((ord.take (j+1)).map (pickCV ys p)).flatMap beL)):=jh (by
    rw[TK.out,List.map_append,List.flatMap_append];have e:([(q:Int)].map (pickCV ys p)).flatMap beL=(rtC y.c.peer p y.v).toList:=by
     rw[List.map_cons,List.map_nil,PK.out];rfl
    rw[e];exact h2)
   have BV8:=jh (BV7.out.trans ((kept_gr h3).below BV7.out.size fun g hg=>jJ O7.out g hg));clear h2 h3 hat hc7 O7 BV7;go_wp2_with fail;exact⟨⟨j+1,s8,c8,by omega,by go_num,rfl,O8,BV8⟩,by simp[intOf];omega⟩
  ·obtain rfl:j=ord.length:=by omega
   have FIN:Hid (OffersPost (offS S.own S.bl S.ms i p) p W (.returned (.slice s ord.length c)) wr):=jh (by
    have hw:=OW.out;rw[List.take_length] at hw;have el:(ord.map (pickCV ys p)).length=ord.length:=List.length_map ..;have hmm:∀x∈ord.map (pickCV ys p),∃y∈ys,x=⟨y.c.peer,p,y.c.a,y.v⟩:=fun x hx=>by
     obtain⟨k,hk,rfl⟩:=List.mem_map.1 hx;obtain⟨q,hq,rfl⟩:=List.mem_map.1 (OP.out.mem_iff.1 hk);have hq:q<ys.length:=by simpa using hq
     exact⟨ys[q],List.getElem_mem hq,by unfold pickCV;rw[Int.toNat_natCast,List.getElem?_eq_getElem hq]⟩
    refine⟨s,c,ord.map (pickCV ys p),A,by rw[el],⟨?_,?_,fun k hk=>⟨Nat.le_trans B0.out.size (X4.out.lt k hk).1,Nat.lt_of_lt_of_le (A4.out k hk) BV.out.size⟩,fun g hg hA=>?_⟩,?_,fun x hx=>?_,fun x hx=>?_,jC B4.out BV.out⟩
    ·rw[el];exact own_base hw B4.out.size
    ·refine(X4.out.mem.below BV.out).imp fun V hV x hx=>?_;obtain⟨y,hy,rfl⟩:=hmm x hx;exact hV y (YM.out y hy)
    ·rw[el] at hg;have h1:=jJ hw g hg;have h2:=A4.out g hA;omega
    ·have:=pick_perm (p:=p) (by have h1:=OP.out;simpa only[List.length_map] using h1);rw[←YE.out,List.map_map (l:=ys)];exact this
    ·obtain⟨y,-,rfl⟩:=hmm x hx;rfl
    ·rw[List.getElem?_map] at hx;cases hk:ord[0]? with
     |none=>rw[hk] at hx;simp at hx
     |some k=>
      rw[hk] at hx;simp at hx;have hb:=ord_first OS1.out hk;obtain⟨q,hq,rfl⟩:=List.mem_map.1 (OP.out.mem_iff.1 (List.mem_of_getElem? hk));have hq:q<ys.length:=by simpa using hq
      have hy:ys[q]? =some ys[q]:=List.getElem?_eq_getElem hq;rw[←YE.out];unfold pickB;rw[hb,if_neg (by omega),Int.toNat_natCast,List.getElem?_map,hy];rw[←hx];unfold pickCV;rw[Int.toNat_natCast,hy];rfl)
   clear OW BV;go_wp2_with fail;go_ret;exact FIN.out
end
open Go.RowKit
def sameBE (x y:BE):Bool:=x.peer==y.peer&&(decide (x.p=y.p)&&sameA x.a y.a)
theorem sameBE_iff {x y:BE}:sameBE x y=true↔x.peer=y.peer∧x.p=y.p∧x.a=y.a:=by
 unfold sameBE;simp[sameA_iff]
theorem l_same14 (x y:BE) (w:World) (hx:AvAt w x.a x.v) (hy:AvAt w y.a y.v):Calls Tryz.prog 29 #[.agg (rtC x.peer x.p x.v),.agg (rtC y.peer y.p y.v)] w fun e w'=>e=.returned (.bool (sameBE x y))∧Below w.heap.size w w':=by
 have SM:=jh (fun W (hb:Below w.heap.size w W)=>av_Same x.a y.a x.v y.v W (hx.below hb) (hy.below hb));clear hx hy;go_enter Tryz.func29,Tryz.ntmps29;go_upto_region 1 with (fail)
 obtain⟨W0,hW0,q0,q1,hB⟩:=boxTwo w (rtC x.peer x.p x.v) 61 (rtC y.peer y.p y.v) 61;rw[←hW0];have x0:W0.cell? ⟨w.heap.size,0,none⟩=some (.int .i64 x.peer):=jB q0 0;have x1:W0.cell? ⟨w.heap.size,1,none⟩=some (.int .u32 x.p.1):=jB q0 1;have x2:W0.cell? ⟨w.heap.size,2,none⟩=some (.int .i64 x.p.2):=jB q0 2;have y0:W0.cell? ⟨w.heap.size+1,0,none⟩=some (.int .i64 y.peer):=jB q1 0;have y1:W0.cell? ⟨w.heap.size+1,1,none⟩=some (.int .u32 y.p.1):=jB q1 1;have y2:W0.cell? ⟨w.heap.size+1,2,none⟩=some (.int .i64 y.p.2):=jB q1 2;have RX:=jh (rt_range q0);have RY:=jh (rt_range q1);have B0:=jh hB;obtain⟨b0,hb0⟩:∃b,b=w.heap.size:=⟨_,rfl⟩
 obtain⟨b1,hb1⟩:∃b,b=w.heap.size+1:=⟨_,rfl⟩
 rw[←hb1,←hb0];rw[←hb1] at y0 y1 y2 RY;rw[←hb0] at x0 x1 x2 RX;clear hW0 q0 q1 hB hb0 hb1;by_cases h1:x.peer=y.peer
 ·have e1:(x.peer==y.peer)=true:=by simpa using h1
  have e2:(x.peer=y.peer)=True:=eq_true h1;by_cases h2:x.p=y.p
  ·have e3:(x.p.1==y.p.1&&x.p.2==y.p.2)=true:=by rw[h2];simp
   have e4:x.p.1==y.p.1:=by rw[h2];simp
   have e5:x.p.2==y.p.2:=by rw[h2];simp
   have SV:Hid (sameBE x y=sameA x.a y.a):=jh (by unfold sameBE;rw[e1,decide_eq_true h2];rfl);clear h1 h2;go_wp2_with ((with_reducible refine jM (X:=.load 42 (.tmp 18)) ?_ ?_);(·rfl));unfold Halt;refine ldm_at (by rfl) 42 (.tmp 18) rfl b0 3 rfl x.v.C.toList _ RX.out Tryz.underlying42 rfl sz_avS ?_;go_wp2_with ((with_reducible refine jM (X:=.load 42 (.tmp 20)) ?_ ?_);(·rfl));unfold Halt;refine ldm_at (by rfl) 42 (.tmp 20) rfl b1 3 rfl y.v.C.toList _ RY.out Tryz.underlying42 rfl sz_avS ?_;go_wp2_with fail;refine(SM.out W0 B0.out).mono ?_;rintro e w1 ⟨rfl,hb⟩;have B1:=jh (jC B0.out hb);clear hb SM x0 x1 x2 y0 y1 y2 e3;go_wp2_with fail;go_ret;exact⟨by rw[SV.out];rfl,B1.out⟩
  ·have e3:(x.p.1==y.p.1&&x.p.2==y.p.2)=false:=by
    rw[Bool.eq_false_iff];intro h;simp at h;exact h2 (Prod.ext h.1 h.2)
   have SV:Hid (sameBE x y=false):=jh (by unfold sameBE;rw[decide_eq_false h2];simp);clear h1 h2;go_wp2_with fail;go_ret;exact⟨by rw[SV.out];rfl,B0.out⟩
 ·have e1:(x.peer==y.peer)=false:=by simpa using h1
  have e2:(x.peer=y.peer)=False:=eq_false h1;have SV:Hid (sameBE x y=false):=jh (by unfold sameBE;rw[e1];rfl);clear h1;go_wp2_with fail;go_ret;exact⟨by rw[SV.out];rfl,B0.out⟩
def goesS (own:Int) (bl:Nat→Bool) (R:Rts) (i j:Nat) (t:Int) (p:Pf):Bool:=match getL R p with|none=>false|some a=>goesB own bl a i j t
section
variable {W:World} {rho:Nat→Role} {sb fb:Nat} {ls:List Pl} {S:Sv}
theorem sv_Goes (h:SrvM W rho sb fb ls S) {i j:Nat} {m n:Pm} (hm:S.ms[i]? =some m) (hn:S.ms[j]? =some n) (p:Pf) (hp:OkP p):
  Calls Tryz.prog 31 #[.pointer (some ⟨sb,0,none⟩),.int .i64 i,.int .i64 j,.agg #[.int .u32 p.1,.int .i64 p.2]] W fun e w'=>e=.returned (.bool (goesS S.own S.bl m.R i j n.as_ p))∧Below W.heap.size W w':=by
 obtain⟨l,hl,hM⟩:=h.get hm;obtain⟨l2,hl2,hM2⟩:=h.get hn;obtain⟨s,cap,-,cf,-⟩:=h.cells;have few:=h.bod.few;have hi:i<16:=by have:=(List.getElem?_eq_some_iff.1 hm).1;omega
 have hj:j<16:=by have:=(List.getElem?_eq_some_iff.1 hn).1;omega
 have HIJ:=jh (And.intro hi hj);have m3:W.cell? ⟨l.mb,3,none⟩=some (.pointer (some ⟨l.rb,0,none⟩)):=jB hM.row 3;have mas:W.cell? ⟨l2.mb,0,none⟩=some (.int .i64 n.as_):=jB hM2.row 0;have MB:=jh (fun w' (hb:Below W.heap.size W w')=>sv_member (h.below hb) hl);have MB2:=jh (fun w' (hb:Below W.heap.size W w')=>sv_member (h.below hb) hl2);have GT:=jh (fun w' (hb:Below W.heap.size W w')=>ad_Get p w' (hM.rib.below hb) hp);have FL:=jh (fun w' (hb:Below W.heap.size W w')=>(h.below hb).bod.fil);have M3:=jh m3;have MAS:=jh mas;have CF:=jh cf;clear h hm hn hl hl2 hM hM2 hp m3 mas cf hi hj few;obtain⟨t,ht⟩:∃t,n.as_=t:=⟨_,rfl⟩
 rw[ht] at MAS ⊢;clear ht;go_enter Tryz.func31,Tryz.ntmps31;go_upto_region 1 with (fail)
 obtain⟨W0,hW0,p0,p1,hB⟩:=box2 W (.int .u32 p.1) (.int .i64 p.2) 53;rw[←hW0];obtain⟨pb,hpb⟩:∃pb,pb=W.heap.size:=⟨_,rfl⟩
 rw[←hpb] at p0 p1 ⊢;have B0:=jh hB;have m3:=jA M3.out hB;have mas:=jA MAS.out hB;have f1:=jA CF.out hB;have GT0:=jh (fun w' (hb:Below W0.heap.size W0 w')=>GT.out w' (jC B0.out hb));clear hW0 hB hpb GT M3;go_wp2_with fail;refine(MB.out _ B0.out).mono ?_;rintro e w1 ⟨rfl,rfl⟩;go_wp2_with fail;refine(MB2.out _ B0.out).mono ?_;rintro e w1 ⟨rfl,rfl⟩;go_upto_region 4 with (fail)
 cases hg:getL m.R p with
 |none=>
  have GN:Hid (∀w',Below W0.heap.size W0 w'→Calls Tryz.prog 75 #[.pointer (some ⟨l.rb,0,none⟩),.agg #[.int .u32 p.1,.int .i64 p.2]] w' fun e w2=>e=.returned (.tuple #[.agg (rtC 0 (0,0) av0),.bool false])∧Below w'.heap.size w' w2):=jh (fun w' hb=>(GT0.out w' hb).mono fun e w2 h=>by
   rcases h with⟨-,h1,h2⟩|⟨a,v,h1,-⟩
   ·exact⟨h1,h2⟩
   ·rw[hg] at h1;cases h1)
  have SV:Hid (goesS S.own S.bl m.R i j t p=false):=jh (by unfold goesS;rw[hg]);clear hg GT0;go_cut [11,12] from 25 to 33 (fun s11 s12 wx=>s12=.bool false∧Hid (Below W0.heap.size W0 wx))
  case first=>
   refine wp_region_held_drew (S:=fun w'=>Below W0.heap.size W0 w') (by kernel_rfl) ?_ (fun hHeld=>?_)
   ·exact(Below.refl _ _).drew
   generalize World.drew W0=wd at hHeld ⊢;refine qz 0 hHeld ?_;refine qz 4 hHeld ?_ (hy:=by intro w' hSw;have p0:=jA p0 hSw;have p1:=jA p1 hSw;have m3:=jA m3 hSw;(try clear hHeld);go_simp;try with_reducible rfl);refine jI (i:=1) (j:=9) (atS at0) (atS (atS (atS (atS (atS (atS (atS (atS (atS at0))))))))) (by kernel_rfl) ?_ ?_ (fun K hK=>?_) (fun K hK=>?_)
   ·rfl
   ·rfl
   ·(try clear hb);go_simp;go_wp2_with fail;refine hK.out _ _ hHeld fun hHeld=>?_;clear hK K;(try simp only[jz]);refine qz 2 hHeld ?_;refine qz 3 hHeld ?_ (hy:=by intro w' hSw;have p0:=jA p0 hSw;have p1:=jA p1 hSw;have m3:=jA m3 hSw;(try clear hHeld);go_simp;try with_reducible rfl);refine jI (i:=5) (j:=9) (atS (atS (atS (atS (atS at0))))) (atS (atS (atS (atS (atS (atS (atS (atS (atS at0))))))))) (by kernel_rfl) ?_ ?_ (fun K hK=>?_) (fun K hK=>?_)
    ·rfl
    ·rfl
    ·(try clear hb);go_simp;(refine(GN.out _ hHeld).mono ?_;rintro e w1 ⟨rfl,hb⟩);(try replace hz:=(hb.block _ (jE hz)).trans hz);go_wp2_with fail;refine hK.out _ _ ?_ (fun hHeld=>?_);(·exact hHeld.trans (hb.mono hHeld.size));clear hK K;(try simp only[jz]);refine qz 6 hHeld ?_;refine qz 7 hHeld ?_;refine qz 8 hHeld ?_;refine jr 9 fun K hK=>?_;(try clear hb);go_simp;refine box_zrt (p:=K _) ?_;intro w1 hz hb;have hgs:=hHeld.size;refine hK.out _ _ ?_ (fun hHeld=>?_);(·exact jC hHeld hb);clear hK K;(try simp only[jz]);refine jr 10 fun K hK=>?_;(try clear hb);refine jG 61 (.tmp 11) (.tmp 32) rfl _ rfl 61 (rtC 0 (0,0) av0) _ rfl hz (by kernel_rfl) rfl (rt_one _ _ _) ?_;refine jT hz (p:=K _) ?_;intro w2 hr hk2;refine hK.out _ _ ?_ (fun hHeld=>?_);(·exact hHeld.trans (hk2.below hHeld.size (by rintro k rfl;exact hgs)));clear hK K;(try simp only[Act.put]);refine qz 11 hHeld ?_;refine wpAnyH_done (by kernel_rfl) ?_ _;go_wp2_with fail;go_meet;exact⟨rfl,jh hHeld⟩
    ·(try clear hb);go_simp;refine box_zrt (p:=K _) ?_;intro w1 hz hb;have hgs:=hHeld.size;refine hK.out _ _ ?_ (fun hHeld=>?_);(·exact jC hHeld hb);clear hK K;(try simp only[jz]);refine jr 5 fun K hK=>?_;(try clear hb);go_simp;(refine(GN.out _ hHeld).mono ?_;rintro e w1 ⟨rfl,hb⟩);(try replace hz:=(hb.block _ (jE hz)).trans hz);go_wp2_with fail;refine hK.out _ _ ?_ (fun hHeld=>?_);(·exact hHeld.trans (hb.mono hHeld.size));clear hK K;(try simp only[jz]);refine qz 6 hHeld ?_;refine qz 7 hHeld ?_;refine qz 8 hHeld ?_;refine jr 10 fun K hK=>?_;(try clear hb);refine jG 61 (.tmp 11) (.tmp 32) rfl _ rfl 61 (rtC 0 (0,0) av0) _ rfl hz (by kernel_rfl) rfl (rt_one _ _ _) ?_;refine jT hz (p:=K _) ?_;intro w2 hr hk2;refine hK.out _ _ ?_ (fun hHeld=>?_);(·exact hHeld.trans (hk2.below hHeld.size (by rintro k rfl;exact hgs)));clear hK K;(try simp only[Act.put]);refine qz 11 hHeld ?_;refine wpAnyH_done (by kernel_rfl) ?_ _;go_wp2_with fail;go_meet;exact⟨rfl,jh hHeld⟩
   ·(try clear hb);go_simp;refine box_zrt (p:=K _) ?_;intro w1 hz hb;have hgs:=hHeld.size;refine hK.out _ _ ?_ (fun hHeld=>?_);(·exact jC hHeld hb);clear hK K;(try simp only[jz]);refine jr 1 fun K hK=>?_;(try clear hb);go_simp;go_wp2_with fail;refine hK.out _ _ hHeld fun hHeld=>?_;clear hK K;(try simp only[jz]);refine qz 2 hHeld ?_;refine qz 3 hHeld ?_ (hy:=by intro w' hSw;have p0:=jA p0 hSw;have p1:=jA p1 hSw;have m3:=jA m3 hSw;(try clear hHeld);go_simp;try with_reducible rfl);refine jr 5 fun K hK=>?_;(try clear hb);go_simp;(refine(GN.out _ hHeld).mono ?_;rintro e w1 ⟨rfl,hb⟩);(try replace hz:=(hb.block _ (jE hz)).trans hz);go_wp2_with fail;refine hK.out _ _ ?_ (fun hHeld=>?_);(·exact hHeld.trans (hb.mono hHeld.size));clear hK K;(try simp only[jz]);refine qz 6 hHeld ?_;refine qz 7 hHeld ?_;refine qz 8 hHeld ?_;refine jr 10 fun K hK=>?_;(try clear hb);refine jG 61 (.tmp 11) (.tmp 32) rfl _ rfl 61 (rtC 0 (0,0) av0) _ rfl hz (by kernel_rfl) rfl (rt_one _ _ _) ?_;refine jT hz (p:=K _) ?_;intro w2 hr hk2;refine hK.out _ _ ?_ (fun hHeld=>?_);(·exact hHeld.trans (hk2.below hHeld.size (by rintro k rfl;exact hgs)));clear hK K;(try simp only[Act.put]);refine qz 11 hHeld ?_;refine wpAnyH_done (by kernel_rfl) ?_ _;go_wp2_with fail;go_meet;exact⟨rfl,jh hHeld⟩
  case rest=>
   obtain⟨rfl,HH⟩:=hcut;obtain⟨wd,hwd⟩:∃wd:World,wd=wc:=⟨_,rfl⟩
   rw[←hwd] at HH ⊢;have BV:=jh (jC B0.out HH.out);clear hwd HH p0 p1 m3 mas f1;go_upto_region 5 with (fail)
   refine wp_region_held_drew (S:=fun w'=>Below wd.heap.size wd w') (by kernel_rfl) ?_ (fun hHeld=>?_)
   ·exact(Below.refl _ _).drew
   generalize World.drew wd=wz at hHeld ⊢;refine qz 0 hHeld ?_;refine qz 1 hHeld ?_;refine rgn (i:=2) (atN rfl) (by kernel_rfl) (fun _ _ _ h=>h) ?_ hHeld ?_;(·rfl);(try simp only[jz]);refine rgn (i:=3) (atN rfl) (by kernel_rfl) (fun _ _ _ h=>h) ?_ hHeld ?_;(·rfl);(try simp only[jz]);refine rgn (i:=4) (atN rfl) (by kernel_rfl) (fun _ _ _ h=>h) ?_ hHeld ?_;(·rfl);(try simp only[jz]);refine rgn (i:=5) (atN rfl) (by kernel_rfl) (fun _ _ _ h=>h) ?_ hHeld ?_;(·rfl);(try simp only[jz]);refine rgn (i:=6) (atN rfl) (by kernel_rfl) (fun _ _ _ h=>h) ?_ hHeld ?_;(·rfl);(try simp only[jz]);refine rgn (i:=7) (atN rfl) (by kernel_rfl) (fun _ _ _ h=>h) ?_ hHeld ?_;(·rfl);(try simp only[jz]);refine rgn (i:=8) (atN rfl) (by kernel_rfl) (fun _ _ _ h=>h) ?_ hHeld ?_;(·rfl);(try simp only[jz]);refine rgn (i:=9) (atN rfl) (by kernel_rfl) (fun _ _ _ h=>h) ?_ hHeld ?_;(·rfl);(try simp only[jz]);refine rgn (i:=10) (atN rfl) (by kernel_rfl) (fun _ _ _ h=>h) ?_ hHeld ?_;(·rfl);(try simp only[jz]);refine rgn (i:=11) (atN rfl) (by kernel_rfl) (fun _ _ _ h=>h) ?_ hHeld ?_;(·rfl);(try simp only[jz]);refine rgn (i:=12) (atN rfl) (by kernel_rfl) (fun _ _ _ h=>h) ?_ hHeld ?_;(·rfl);(try simp only[jz]);refine rgn (i:=13) (atN rfl) (by kernel_rfl) (fun _ _ _ h=>h) ?_ hHeld ?_;(·rfl);(try simp only[jz]);refine rgn (i:=14) (atN rfl) (by kernel_rfl) (fun _ _ _ h=>h) ?_ hHeld ?_;(·rfl);(try simp only[jz]);refine rgn (i:=15) (atN rfl) (by kernel_rfl) (fun _ _ _ h=>h) ?_ hHeld ?_;(·rfl);(try simp only[jz]);refine qz 16 hHeld ?_;refine qz 17 hHeld ?_;refine wpAnyH_done (by kernel_rfl) ?_ _;have BV2:=jh (jC BV.out hHeld);clear hHeld;go_wp2_with fail;go_ret;exact⟨by rw[SV.out];rfl,BV2.out⟩
 |some a=>
  have GN:Hid (∀w',Below W0.heap.size W0 w'→Calls Tryz.prog 75 #[.pointer (some ⟨l.rb,0,none⟩),.agg #[.int .u32 p.1,.int .i64 p.2]] w' fun e w2=>∃v:AV,e=.returned (.tuple #[.agg (rtC i p v),.bool true])∧Fresh w'.heap.size w2 (fun W=>AvAt W a v)∧Below w'.heap.size w' w2):=jh (fun w' hb=>(GT0.out w' hb).mono fun e w2 h=>by
   rcases h with⟨h1,-⟩|⟨b,v,h1,h2,-,h4,h5⟩
   ·rw[hg] at h1;cases h1
   ·rw[hg] at h1;injection h1 with h1;subst h1;exact⟨v,h2,h4.imp fun _ h=>h.at,h5⟩)
  have SV:Hid (goesS S.own S.bl m.R i j t p=goesB S.own S.bl a i j t):=jh (by unfold goesS;rw[hg]);clear hg GT0;go_cut [11,12] from 25 to 33 (fun s8 s9 wx=>∃(g8:Nat) (v:AV) (lo:Nat),s8=.pointer (some ⟨g8,0,none⟩)∧s9=.bool true∧Hid (Below W0.heap.size W0 wx∧wx.heap[g8]? =some (.cells (rtC i p v) 61 (0,0))∧W0.heap.size≤lo∧Fresh lo wx (fun W=>AvAt W a v)∧W0.heap.size≤g8))
  case first=>
   refine wp_region_held_drew (S:=fun w'=>Below W0.heap.size W0 w') (by kernel_rfl) ?_ (fun hHeld=>?_)
   ·exact(Below.refl _ _).drew
   generalize World.drew W0=wd at hHeld ⊢;refine qz 0 hHeld ?_;refine qz 4 hHeld ?_ (hy:=by intro w' hSw;have p0:=jA p0 hSw;have p1:=jA p1 hSw;have m3:=jA m3 hSw;(try clear hHeld);go_simp;try with_reducible rfl);refine jI (i:=1) (j:=9) (atS at0) (atS (atS (atS (atS (atS (atS (atS (atS (atS at0))))))))) (by kernel_rfl) ?_ ?_ (fun K hK=>?_) (fun K hK=>?_)
   ·rfl
   ·rfl
   ·(try clear hb);go_simp;go_wp2_with fail;refine hK.out _ _ hHeld fun hHeld=>?_;clear hK K;(try simp only[jz]);refine qz 2 hHeld ?_;refine qz 3 hHeld ?_ (hy:=by intro w' hSw;have p0:=jA p0 hSw;have p1:=jA p1 hSw;have m3:=jA m3 hSw;(try clear hHeld);go_simp;try with_reducible rfl);refine jI (i:=5) (j:=9) (atS (atS (atS (atS (atS at0))))) (atS (atS (atS (atS (atS (atS (atS (atS (atS at0))))))))) (by kernel_rfl) ?_ ?_ (fun K hK=>?_) (fun K hK=>?_)
    ·rfl
    ·rfl
    ·(try clear hb);go_simp;have hlo:=hHeld.size;(try have hzl:=jE hz);refine(GN.out _ hHeld).mono ?_;rintro e wg ⟨v,rfl,fr0,hb⟩;have fr:=fresh_hi fr0;clear fr0;(try replace hz:=(hb.block _ (jE hz)).trans hz);go_wp2_with fail;refine hK.out _ _ ?_ (fun hHeld=>?_);(·exact jC hHeld hb);clear hK K;(try simp only[jz]);refine qz 6 hHeld ?_;refine qz 7 hHeld ?_;refine qz 8 hHeld ?_;refine jr 9 fun K hK=>?_;(try clear hb);go_simp;refine box_zrt (p:=K _) ?_;intro w1 hz hb1;have hgs:=hHeld.size;(try replace fr:=fr.below hb1);refine hK.out _ _ ?_ (fun hHeld=>?_);(·exact jC hHeld hb1);clear hK K;(try simp only[jz]);refine jr 10 fun K hK=>?_;(try clear hb);refine jG 61 (.tmp 11) (.tmp 32) rfl _ rfl 61 (rtC 0 (0,0) av0) _ rfl hz (by kernel_rfl) rfl (rt_one _ _ _) ?_;have hfx:=hgs;refine jT hz (p:=K _) ?_;intro w2 hr hk2;refine hK.out _ _ ?_ (fun hHeld=>?_);(·exact hHeld.trans (hk2.below hHeld.size (by rintro k rfl;exact hgs)));clear hK K;(try simp only[Act.put]);refine qz 11 hHeld ?_;refine wpAnyH_done (by kernel_rfl) ?_ _;go_wp2_with fail;go_meet;exact⟨_,v,_,rfl,rfl,jh ⟨hHeld,hr,hlo,(fr.kept hk2 (fun k' _ hl e=>by omega)).wide (fun _ hk _=>hk.1),hgs⟩⟩
    ·(try clear hb);go_simp;refine box_zrt (p:=K _) ?_;intro w1 hz hb1;have hgs:=hHeld.size;(try replace fr:=fr.below hb1);refine hK.out _ _ ?_ (fun hHeld=>?_);(·exact jC hHeld hb1);clear hK K;(try simp only[jz]);refine jr 5 fun K hK=>?_;(try clear hb);go_simp;have hlo:=hHeld.size;(try have hzl:=jE hz);refine(GN.out _ hHeld).mono ?_;rintro e wg ⟨v,rfl,fr0,hb⟩;have fr:=fresh_hi fr0;clear fr0;(try replace hz:=(hb.block _ (jE hz)).trans hz);go_wp2_with fail;refine hK.out _ _ ?_ (fun hHeld=>?_);(·exact jC hHeld hb);clear hK K;(try simp only[jz]);refine qz 6 hHeld ?_;refine qz 7 hHeld ?_;refine qz 8 hHeld ?_;refine jr 10 fun K hK=>?_;(try clear hb);refine jG 61 (.tmp 11) (.tmp 32) rfl _ rfl 61 (rtC 0 (0,0) av0) _ rfl hz (by kernel_rfl) rfl (rt_one _ _ _) ?_;have hfx:=hgs;refine jT hz (p:=K _) ?_;intro w2 hr hk2;refine hK.out _ _ ?_ (fun hHeld=>?_);(·exact hHeld.trans (hk2.below hHeld.size (by rintro k rfl;exact hgs)));clear hK K;(try simp only[Act.put]);refine qz 11 hHeld ?_;refine wpAnyH_done (by kernel_rfl) ?_ _;go_wp2_with fail;go_meet;exact⟨_,v,_,rfl,rfl,jh ⟨hHeld,hr,hlo,(fr.kept hk2 (fun k' _ hl e=>by omega)).wide (fun _ hk _=>hk.1),hgs⟩⟩
   ·(try clear hb);go_simp;refine box_zrt (p:=K _) ?_;intro w1 hz hb1;have hgs:=hHeld.size;(try replace fr:=fr.below hb1);refine hK.out _ _ ?_ (fun hHeld=>?_);(·exact jC hHeld hb1);clear hK K;(try simp only[jz]);refine jr 1 fun K hK=>?_;(try clear hb);go_simp;go_wp2_with fail;refine hK.out _ _ hHeld fun hHeld=>?_;clear hK K;(try simp only[jz]);refine qz 2 hHeld ?_;refine qz 3 hHeld ?_ (hy:=by intro w' hSw;have p0:=jA p0 hSw;have p1:=jA p1 hSw;have m3:=jA m3 hSw;(try clear hHeld);go_simp;try with_reducible rfl);refine jr 5 fun K hK=>?_;(try clear hb);go_simp;have hlo:=hHeld.size;(try have hzl:=jE hz);refine(GN.out _ hHeld).mono ?_;rintro e wg ⟨v,rfl,fr0,hb⟩;have fr:=fresh_hi fr0;clear fr0;(try replace hz:=(hb.block _ (jE hz)).trans hz);go_wp2_with fail;refine hK.out _ _ ?_ (fun hHeld=>?_);(·exact jC hHeld hb);clear hK K;(try simp only[jz]);refine qz 6 hHeld ?_;refine qz 7 hHeld ?_;refine qz 8 hHeld ?_;refine jr 10 fun K hK=>?_;(try clear hb);refine jG 61 (.tmp 11) (.tmp 32) rfl _ rfl 61 (rtC 0 (0,0) av0) _ rfl hz (by kernel_rfl) rfl (rt_one _ _ _) ?_;have hfx:=hgs;refine jT hz (p:=K _) ?_;intro w2 hr hk2;refine hK.out _ _ ?_ (fun hHeld=>?_);(·exact hHeld.trans (hk2.below hHeld.size (by rintro k rfl;exact hgs)));clear hK K;(try simp only[Act.put]);refine qz 11 hHeld ?_;refine wpAnyH_done (by kernel_rfl) ?_ _;go_wp2_with fail;go_meet;exact⟨_,v,_,rfl,rfl,jh ⟨hHeld,hr,hlo,(fr.kept hk2 (fun k' _ hl e=>by omega)).wide (fun _ hk _=>hk.1),hgs⟩⟩
  case rest=>
   obtain⟨g8,v,lo,rfl,rfl,HH⟩:=hcut;obtain⟨wd,hwd⟩:∃wd:World,wd=wc:=⟨_,rfl⟩
   rw[←hwd] at HH ⊢;have RQ:=jh (rt_range HH.out.2.1);have AV:=jh HH.out.2.2.2.1.self;have BV:=jh (jC B0.out HH.out.1);replace mas:=jA mas HH.out.1;replace f1:=jA f1 HH.out.1;have GB:=jh (fun w' (hb:Below wd.heap.size wd w')=>av_Goes fb S.own S.bl a v i j t HIJ.out.1 HIJ.out.2 w' (FL.out w' (jC BV.out hb)) (AV.out.below hb));obtain⟨z,hz⟩:∃z,goesB S.own S.bl a i j t=z:=⟨_,rfl⟩
   rw[hz] at GB SV;clear hwd HH p0 p1 m3 hz;go_upto_region 5 with (fail)
   refine wp_region_held_drew (S:=fun w'=>Below wd.heap.size wd w') (by kernel_rfl) ?_ (fun hHeld=>?_)
   ·exact(Below.refl _ _).drew
   generalize World.drew wd=wz at hHeld ⊢;refine qz 0 hHeld ?_;refine qz 1 hHeld ?_;first|(refine rgn (i:=2) (atN rfl) (by kernel_rfl) (fun _ _ _ h=>h) ?_ hHeld ?_;(·rfl))|(refine qy 2 ?_ ?_ ?_ hHeld ?_;rotate_left 1;(·rfl);(·intro w' hSw;(try clear hHeld);go_simp;try with_reducible rfl))
   (try simp only[jz]);first|(refine rgn (i:=3) (atN rfl) (by kernel_rfl) (fun _ _ _ h=>h) ?_ hHeld ?_;(·rfl))|(refine qy 3 ?_ ?_ ?_ hHeld ?_;rotate_left 1;(·rfl);(·intro w' hSw;(try clear hHeld);go_simp;try with_reducible rfl))
   (try simp only[jz]);first|(refine rgn (i:=4) (atN rfl) (by kernel_rfl) (fun _ _ _ h=>h) ?_ hHeld ?_;(·rfl))|(refine qy 4 ?_ ?_ ?_ hHeld ?_;rotate_left 1;(·rfl);(·intro w' hSw;(try clear hHeld);go_simp;try with_reducible rfl))
   (try simp only[jz]);first|(refine rgn (i:=5) (atN rfl) (by kernel_rfl) (fun _ _ _ h=>h) ?_ hHeld ?_;(·rfl))|(refine qy 5 ?_ ?_ ?_ hHeld ?_;rotate_left 1;(·rfl);(·intro w' hSw;have f1:=jA f1 hSw;have mas:=jA mas hSw;(try clear hHeld);go_simp;try with_reducible rfl))
   (try simp only[jz]);first|(refine rgn (i:=6) (atN rfl) (by kernel_rfl) (fun _ _ _ h=>h) ?_ hHeld ?_;(·rfl))|(refine qy 6 ?_ ?_ ?_ hHeld ?_;rotate_left 1;(·rfl);(·intro w' hSw;(try clear hHeld);go_simp;try with_reducible rfl))
   (try simp only[jz]);first|(refine rgn (i:=7) (atN rfl) (by kernel_rfl) (fun _ _ _ h=>h) ?_ hHeld ?_;(·rfl))|(refine qy 7 ?_ ?_ ?_ hHeld ?_;rotate_left 1;(·rfl);(·intro w' hSw;refine exec_ldm 42 (.tmp 40) ?_ g8 3 ?_ v.C.toList _ (fun q u hq=>jA (RQ.out q u hq) hSw) Tryz.underlying42 rfl sz_avS<;>rfl))
   (try simp only[jz]);first|(refine rgn (i:=8) (atN rfl) (by kernel_rfl) (fun _ _ _ h=>h) ?_ hHeld ?_;(·rfl))|(refine qy 8 ?_ ?_ ?_ hHeld ?_;rotate_left 1;(·rfl);(·intro w' hSw;(try clear hHeld);go_simp;try with_reducible rfl))
   (try simp only[jz]);first|(refine rgn (i:=9) (atN rfl) (by kernel_rfl) (fun _ _ _ h=>h) ?_ hHeld ?_;(·rfl))|(refine qy 9 ?_ ?_ ?_ hHeld ?_;rotate_left 1;(·rfl);(·intro w' hSw;(try clear hHeld);go_simp;try with_reducible rfl))
   (try simp only[jz]);first|(refine rgn (i:=10) (atN rfl) (by kernel_rfl) (fun _ _ _ h=>h) ?_ hHeld ?_;(·rfl))|(refine qy 10 ?_ ?_ ?_ hHeld ?_;rotate_left 1;(·rfl);(·intro w' hSw;(try clear hHeld);go_simp;try with_reducible rfl))
   (try simp only[jz]);first|(refine rgn (i:=11) (atN rfl) (by kernel_rfl) (fun _ _ _ h=>h) ?_ hHeld ?_;(·rfl))|(refine qy 11 ?_ ?_ ?_ hHeld ?_;rotate_left 1;(·rfl);(·intro w' hSw;(try clear hHeld);go_simp;try with_reducible rfl))
   (try simp only[jz]);first|(refine rgn (i:=12) (atN rfl) (by kernel_rfl) (fun _ _ _ h=>h) ?_ hHeld ?_;(·rfl))|(refine qy 12 ?_ ?_ ?_ hHeld ?_;rotate_left 1;(·rfl);(·intro w' hSw;(try clear hHeld);go_simp;try with_reducible rfl))
   (try simp only[jz]);first|(refine rgn (i:=13) (atN rfl) (by kernel_rfl) (fun _ _ _ h=>h) ?_ hHeld ?_;(·rfl))|(refine qy 13 ?_ ?_ ?_ hHeld ?_;rotate_left 1;(·rfl);(·intro w' hSw;(try clear hHeld);go_simp;try with_reducible rfl))
   (try simp only[jz]);first|(refine rgn (i:=14) (atN rfl) (by kernel_rfl) (fun _ _ _ h=>h) ?_ hHeld ?_;(·rfl))|(refine qy 14 ?_ ?_ ?_ hHeld ?_;rotate_left 1;(·rfl);(·intro w' hSw;have f1:=jA f1 hSw;have mas:=jA mas hSw;(try clear hHeld);go_simp;try with_reducible rfl))
   (try simp only[jz]);first|(refine rgn (i:=15) (atN rfl) (by kernel_rfl) (fun _ _ _ h=>h) ?_ hHeld ?_;(·rfl))|(refine jr 15 fun K hK=>?_;(try clear hb);go_simp;(refine(GB.out _ hHeld).mono ?_;rintro e w1 ⟨rfl,hb⟩);go_wp2_with fail;refine hK.out _ _ ?_ (fun hHeld=>?_);(·exact hHeld.trans (hb.mono hHeld.size));clear hK K)
   (try simp only[jz]);refine qz 16 hHeld ?_;refine qz 17 hHeld ?_;refine wpAnyH_done (by kernel_rfl) ?_ _;have BV2:=jh (jC BV.out hHeld);clear hHeld;go_wp2_with fail;go_ret;exact⟨by rw[SV.out];rfl,BV2.out⟩
end
open Go.RowKit
def setBl (S:Sv) (i j:Nat) (b:Bool):Sv:={S with bl:=setWay S.bl (i*16+j) b}
def renew1 (j:Nat) (S:Sv) (p:Pf):Sv:=renewP S j p (saidS S.ms p)
def blockL (S:Sv) (j:Nat) (ps:List Pf):Sv:=ps.foldl (renew1 j) S
theorem blockL_snoc (S:Sv) (j:Nat) (ps:List Pf) (p:Pf):blockL S j (ps++[p])=renew1 j (blockL S j ps) p:=by unfold blockL;rw[List.foldl_append];rfl
theorem kin_block (j:Nat):∀(ps:List Pf) (S:Sv),SvKin S (blockL S j ps)
 |[],S=>SvKin.refl S
 |p::ps,S=>(kin_renew S j p _).trans (kin_block j ps (renew1 j S p))
theorem renewP_best (S:Sv) (j:Nat) (p:Pf) (l:List Cd) (k:Nat) (q:Pf):(renewP S j p l).best k q=if k=j∧q=p then newBest S j l else S.best k q:=rfl
theorem blockL_best (j:Nat):∀(ps:List Pf) (S:Sv) (k:Nat) (q:Pf),(blockL S j ps).best k q=if k=j∧q∈ps then bestIn S j q else S.best k q
 |[],S,k,q=>by rw[if_neg (by simp)];rfl
 |p::ps,S,k,q=>by
  show (blockL (renew1 j S p) j ps).best k q=_;rw[blockL_best j ps];have hk:SvKin S (renew1 j S p):=kin_renew S j p _;rw[hk.bestIn];unfold renew1;rw[renewP_best,newBest_said];by_cases e1:k=j
  ·by_cases e2:q∈ps
   ·rw[if_pos ⟨e1,e2⟩,if_pos ⟨e1,List.mem_cons_of_mem _ e2⟩]
   ·rw[if_neg (fun h=>e2 h.2)];by_cases e3:q=p
    ·subst e3;rw[if_pos ⟨e1,rfl⟩,if_pos ⟨e1,List.mem_cons_self ..⟩]
    ·rw[if_neg (fun h=>e3 h.2),if_neg (by simp[e2,e3])]
  ·rw[if_neg (fun h=>e1 h.1),if_neg (fun h=>e1 h.1),if_neg (fun h=>e1 h.1)]
theorem renewP_ms (S:Sv) (j:Nat) (p:Pf) (l:List Cd) (k:Nat):(renewP S j p l).ms[k]? =(S.ms[k]?).map fun m=>if k=j then m.mark p (m.there&&!sameB (S.best j p) (newBest S j l)) else m:=by
 unfold renewP;rw[markS_get];rfl
theorem blockL_news (j:Nat):∀(ps:List Pf) (S:Sv) (k:Nat) (m:Pm),S.ms[k]? =some m→∃n,(blockL S j ps).ms[k]? =some n∧n.there=m.there∧∀q,n.news q=(m.news q||(decide (k=j)&&(m.there&&(decide (q∈ps)&&!sameB (S.best j q) (bestIn S j q)))))
 |[],S,k,m,hm=>⟨m,hm,rfl,fun q=>by simp⟩
 |p::ps,S,k,m,hm=>by
  have h1:=renewP_ms S j p (saidS S.ms p) k;rw[hm] at h1;simp only[Option.map_some] at h1;obtain⟨n,n1,n2,n3⟩:=blockL_news j ps (renew1 j S p) k _ h1;refine⟨n,n1,?_,fun q=>?_⟩
  ·rw[n2];split<;>rfl
  ·rw[n3 q];have hk:SvKin S (renew1 j S p):=kin_renew S j p _;rw[hk.bestIn];have hb:(renew1 j S p).best j q=if q=p then bestIn S j q else S.best j q:=by
    unfold renew1;rw[renewP_best,newBest_said];by_cases e:q=p
    ·subst e;rw[if_pos ⟨rfl,rfl⟩,if_pos rfl]
    ·rw[if_neg (fun h=>e h.2),if_neg e]
   rw[hb];by_cases e:k=j
   ·simp only[e,if_true,decide_true,Bool.true_and];rw[mark_news,newBest_said];have hth:(m.mark p (m.there&&!sameB (S.best j p) (bestIn S j p))).there=m.there:=rfl;rw[hth];by_cases e2:q=p
    ·subst e2;have:sameB (bestIn S j q) (bestIn S j q)=true:=(sameB_iff _ _).2 rfl;simp[this]
    ·have h3:decide (q∈p::ps)=decide (q∈ps):=by simp[e2]
     rw[if_neg e2,h3];simp[e2]
   ·simp[e]
theorem rt_at {w:World} {s:Option Addr} {n c i:Nat} {xs:List RE} (h:SlAt w 13 (fun x cs=>cs=rtL i x) (.slice s n c) xs) {k:Nat} {x:RE} (hx:xs[k]? =some x):∃g o,s=some ⟨g,o,none⟩∧w.rangeAt g (o+k*13) (rtL i x):=by
 obtain⟨s',c',e,h1,h2,h3⟩:=h;injection e with e _ _;subst e;have hi:=(List.getElem?_eq_some_iff.1 hx).1;obtain⟨b,off,rfl,h4⟩:=h3 (by omega);obtain⟨cs,-,rfl,hc⟩:=h4 k x hx;exact⟨b,off,rfl,fun j v hv=>hc j v hv⟩
section
variable {w W W2:World} {rho:Nat→Role} {sb fb:Nat} {ls:List Pl} {S:Sv} {A:Ab}
theorem IsAb.block (h:IsAb S A) (few:A.V.length≤16) {i j:Nat} (hi:i<A.V.length) (hj:j<A.V.length) (b:Bool) (ps:List Pf) (hps:∀p,p∈ps↔(getL (A.R i) p).isSome=true):IsAb (blockL (setBl S i j b) j ps) (A.block i j b):=by
 have hk:=kin_block j ps (setBl S i j b);have hV:RV (blockL (setBl S i j b) j ps)=A.V:=by rw[hk.RV];exact h.V
 have hin:∀k q,bestIn (setBl S i j b) k q=bestV A.own (setWay A.bl (i*16+j) b) A.V k q:=fun k q=>by
  rw[bestIn_V];show bestV S.own (setWay S.bl (i*16+j) b) (RV S) k q=_;rw[h.own,h.bl,h.V]
 have hold:∀k q,k<A.V.length→¬(k=j∧q∈ps)→A.best k q=bestV A.own (setWay A.bl (i*16+j) b) A.V k q:=fun k q hkl hq=>by
  refine bestV_congr rfl (fun n v v' hv hv'=>?_) fun n v a hv hg=>?_
  ·rw[hv] at hv';injection hv' with hv';subst hv';exact⟨rfl,rfl,rfl⟩
  ·unfold setWay;rw[if_neg];intro e;have hn:=(List.getElem?_eq_some_iff.1 hv).1;have e1:n=i:=by omega
   have e2:k=j:=by omega
   subst e1;refine hq ⟨e2,(hps q).2 ?_⟩;unfold Ab.R;rw[hv];show (getL v.2.2 q).isSome=true;rw[hg];rfl
 have hbl:(blockL (setBl S i j b) j ps).bl=setWay A.bl (i*16+j) b:=by
  rw[hk.bl];show setWay S.bl (i*16+j) b=_;rw[h.bl]
 refine⟨hk.own.trans h.own,hk.most.trans h.most,hbl,hV,?_,?_⟩
 ·intro k n hn;obtain⟨m,hm,-⟩:=hk.back hn;obtain⟨n',g1,g2,g3⟩:=blockL_news j ps _ k m hm;rw[hn] at g1;injection g1 with g1;subst g1;have hm:S.ms[k]? =some m:=hm;obtain⟨h1,h2⟩:=h.mem k m hm;refine⟨g2.trans h1,fun q=>?_⟩;rw[g3 q,h2 q,h1];unfold Ab.block Ab.turn;simp only;have hkl:k<A.V.length:=by rw[←h.len];exact(List.getElem?_eq_some_iff.1 hm).1
  by_cases e:k=j∧q∈ps
  ·obtain⟨rfl,hq⟩:=e;have hb:(setBl S i k b).best k q=A.best k q:=h.best k q (by rw[h.len];exact hkl);rw[hb,hin];simp[hq]
  ·have e2:sameB (A.best k q) (bestV A.own (setWay A.bl (i*16+j) b) A.V k q)=true:=(sameB_iff _ _).2 (hold k q hkl e);rw[e2];by_cases e3:k=j
   ·have:¬q∈ps:=fun h=>e ⟨e3,h⟩;simp[this]
   ·simp[e3]
 ·intro k q hkl;rw[hk.len] at hkl;have hkl:k<S.ms.length:=hkl;rw[blockL_best];show _=bestV A.own (setWay A.bl (i*16+j) b) A.V k q;by_cases e:k=j∧q∈ps
  ·rw[if_pos e,hin,e.1]
  ·rw[if_neg e];exact(h.best k q hkl).trans (hold k q (by rw[←h.len];exact hkl) e)
theorem SrvM.setFil (h:SrvM W rho sb fb ls S) {bl':Nat→Bool} (hk:Kept (fun k=>k=fb) W W2) (hf:FilAt W2 fb S.own bl'):SrvM W2 rho sb fb ls {S with bl:=bl'}∧Step rho rho W W2:=by
 have rf:=h.bod.rfb;refine⟨⟨(h.top.kept hk fun k _ hF e=>by
  have e:k=fb:=e;rw[e,rf] at hF;cases hF),⟨hf,rf,h.bod.len,h.bod.few,?_,fun k hk'=>Nat.lt_of_lt_of_le (h.dom k hk') hk.size,h.bod.own1⟩,h.rsb⟩,⟨fun _ _=>rfl,hk.imp fun k e=>by
  have e:k=fb:=e;rw[e,rf];intro e;cases e⟩⟩
 intro i m l hm hl;exact(h.bod.mem i m l hm hl).kept (fun _ _=>rfl) hk fun k _ ho e=>by
  have e:k=fb:=e;rw[e,rf] at ho;rcases ho with e|e|e|e|e<;>cases e
theorem sv_Block_no (h:SrvM W rho sb fb ls S) {n k:Int} (hn:¬((0≤n∧n<(S.ms.length:Int))∧(0≤k∧k<(S.ms.length:Int)))) (b:Bool):Calls Tryz.prog 26 #[.pointer (some ⟨sb,0,none⟩),.int .i64 n,.int .i64 k,.bool b] W fun e w'=>e=.returned (.int .i64 1)∧W=w':=by
 by_cases h1:0≤n∧n<(S.ms.length:Int)
 ·obtain⟨i,rfl⟩:=Int.eq_ofNat_of_zero_le h1.1;obtain⟨m,hm⟩:∃m,S.ms[i]? =some m:=⟨_,List.getElem?_eq_getElem (by omega)⟩
  obtain⟨l,hl,-⟩:=h.get hm;have MB:=jh (sv_member h hl);have MB2:=jh (sv_member_no h (n:=k) (fun h2=>hn ⟨h1,h2⟩));clear h hn h1 hm hl;go_enter Tryz.func26,Tryz.ntmps26;go_wp2_with fail;refine MB.out.mono ?_;rintro e w1 ⟨rfl,rfl⟩;go_wp2_with fail;refine MB2.out.mono ?_;rintro e w1 ⟨rfl,rfl⟩;go_wp2_with fail;go_ret;exact⟨rfl,rfl⟩
 ·have MB:=jh (sv_member_no h h1);clear h hn h1;go_enter Tryz.func26,Tryz.ntmps26;go_wp2_with fail;refine MB.out.mono ?_;rintro e w1 ⟨rfl,rfl⟩;go_wp2_with fail;go_ret;exact⟨rfl,rfl⟩
def BlockPost (sb fb:Nat) (ls:List Pl) (S:Sv) (i j:Nat) (m:Pm) (b:Bool) (rho:Nat→Role) (W:World) (e:Ending) (w':World):Prop:=
 ∃(rho':Nat→Role) (ps:List Pf),e=.returned (.int .i64 0)∧(∀p,p∈ps↔(getL m.R p).isSome=true)∧SrvM w' rho' sb fb ls (blockL (setBl S i j b) j ps)∧Step rho rho' W w'
theorem sv_Block (h:SrvM W rho sb fb ls S) {i j:Nat} {m n:Pm} (hm:S.ms[i]? =some m) (hn:S.ms[j]? =some n) (b:Bool):
  Calls Tryz.prog 26 #[.pointer (some ⟨sb,0,none⟩),.int .i64 i,.int .i64 j,.bool b] W (BlockPost sb fb ls S i j m b rho W):=by
 obtain⟨l,hl,hM⟩:=h.get hm;obtain⟨l2,hl2,-⟩:=h.get hn;obtain⟨s,cap,-,cf,-⟩:=h.cells;have few:=h.bod.few;have hi:i<16:=by have:=(List.getElem?_eq_some_iff.1 hm).1;omega
 have hj:j<16:=by have:=(List.getElem?_eq_some_iff.1 hn).1;omega
 have HS:=jh h;have HM:=jh hm;have HN:=jh hn;have HL:=jh hl;have MB:=jh (sv_member h hl);have MB2:=jh (sv_member h hl2);have Fss:=jh (ex_Set fb S.own S.bl i j b hi hj W h.bod.fil);clear h hm hn hl hl2 hM hi hj few;go_enter Tryz.func26,Tryz.ntmps26;go_wp2_with fail;refine MB.out.mono ?_;rintro e w1 ⟨rfl,rfl⟩;go_wp2_with fail;refine MB2.out.mono ?_;rintro e w1 ⟨rfl,rfl⟩;go_wp2_with fail;refine Fss.out.mono ?_;rintro e w2 ⟨rfl,hf,hk⟩;have D:=jh (HS.out.setFil hk hf);clear hf hk Fss cf MB MB2;obtain⟨S1,hS1⟩:∃S1,setBl S i j b=S1:=⟨_,rfl⟩
 have D1:Hid (SrvM w2 rho sb fb ls S1∧Step rho rho W w2):=jh (by rw[←hS1];exact D.out);have HM1:Hid (S1.ms[i]? =some m):=jh (by rw[←hS1];exact HM.out);have HN1:Hid (S1.ms[j]? =some n):=jh (by rw[←hS1];exact HN.out);have E1:=jh hS1;clear D hS1;have hM1:=D1.out.1.bod.mem i m l HM1.out HL.out;have m3:w2.cell? ⟨l.mb,3,none⟩=some (.pointer (some ⟨l.rb,0,none⟩)):=jB hM1.row 3;have AL:=jh (ad_All w2 hM1.rib);have RGT:Hid (∀p,(getL m.R p).isSome=true→RgtP p):=jh (fun p hp=>rts_right hM1.rib hp);clear hM1;go_wp2_with fail;refine AL.out.mono ?_;rintro e w3 ⟨v,vs,rfl,re,-,rm,hb3⟩;obtain⟨sv,cv,rfl,-⟩:=jV re.own;have D3:=jh (And.intro (D1.out.1.below hb3) (D1.out.2.grow hb3));have RW:Hid (On (fun k=>rho k=.no) w3 (fun W=>SlAt W 13 (fun x cs=>cs=rtL i x) (.slice sv vs.length cv) vs)):=jh (((own_fresh re.own).wide (G:=fun k=>rho k=.no) fun k hk _=>D1.out.1.newNo hk).imp fun V hV=>own_slat (rtL_len i) hV);have RM:=jh rm;have vl:vs.length≤9223372036854775807:=by
  obtain⟨sa,cap,-,g1,g2,-⟩:=RW.out.self;exact Nat.le_trans g1 g2
 have S0:Hid (SrvM w3 rho sb fb ls (blockL S1 j ((vs.map (·.p)).take 0))):=jh D3.out.1;have T0:=jh D3.out.2;clear re rm hb3 AL m3 D3;go_wp2_with fail;go_loopw [41] (fun t41 wr=>∃(k:Nat) (rho1:Nat→Role),k≤vs.length∧t41=.int .i64 k∧Hid (SrvM wr rho1 sb fb ls (blockL S1 j ((vs.map (·.p)).take k)))∧Hid (Step rho rho1 W wr)∧Hid (Step rho rho1 w3 wr)) (fun t41 _=>vs.length - (intOf t41).toNat)
 case atStart=>exact⟨0,rho,by omega,rfl,S0,T0,jh Step.refl⟩
 case round=>
  clear S0 T0;obtain⟨k,rho1,hk,rfl,SK,TK,T3⟩:=hrel;by_cases hkl:k<vs.length
  ·obtain⟨x,hx⟩:∃x,vs[k]? =some x:=⟨_,List.getElem?_eq_getElem hkl⟩
   obtain⟨g,o,rfl,hrg⟩:=rt_at (T3.out.free RW.out).self hx;have RG:=jh hrg;have HP:=jh (RGT.out x.p ((RM.out x.p).1 (List.mem_map.2 ⟨x,List.mem_of_getElem? hx,rfl⟩)));have NX:Hid (blockL S1 j ((vs.map (·.p)).take (k+1))=renew1 j (blockL S1 j ((vs.map (·.p)).take k)) x.p):=jh (by
    rw[take_snoc (x:=x.p) (by rw[List.getElem?_map,hx];rfl),blockL_snoc])
   obtain⟨T,hT⟩:∃T,blockL S1 j ((vs.map (·.p)).take k)=T:=⟨_,rfl⟩
   rw[hT] at SK NX;obtain⟨n',hn'⟩:∃n',T.ms[j]? =some n':=by
    obtain⟨n',h1,-⟩:=(kin_block j ((vs.map (·.p)).take k) S1).mem j n HN1.out;rw[hT] at h1;exact⟨n',h1⟩
   have HN2:=jh hn';have k0:(0:Int)≤(k:Int):=by omega
   have k1:(k:Int)<(vs.length:Int):=by omega
   clear hx hrg hT hn';go_wp2_with ((with_reducible refine jM (X:=.load 61 (.tmp 43)) ?_ ?_);(·rfl));unfold Halt;refine ldm_at (by rfl) 61 (.tmp 43) rfl g (o+k*13) rfl (rtL i x) _ RG.out Tryz.underlying61 rfl sz_rt ?_;go_wp2_with ((with_reducible refine jM (X:=.store 61 (.tmp 12) (.tmp 44)) ?_ ?_);(·rfl));unfold Halt;refine st_fresh rfl 61 (.tmp 12) (.tmp 44) rfl rfl _ (rtC i x.p x.v) rfl sz_rt rfl (rt_one _ _ _) ?_;obtain⟨w4,hw4,q4,hb4,-⟩:=box1 wr (rtC i x.p x.v) 61;rw[←hw4];obtain⟨pb,hpb⟩:∃pb,pb=wr.heap.size:=⟨_,rfl⟩
   rw[←hpb] at q4 ⊢;have c0:w4.cell? ⟨pb,1,none⟩=some (.int .u32 x.p.1):=jB q4 1;have c1:w4.cell? ⟨pb,2,none⟩=some (.int .i64 x.p.2):=jB q4 2;have SK4:=jh (SK.out.below hb4);have TK4:=jh (TK.out.grow hb4);have T34:=jh (T3.out.grow hb4);have NPB:Hid (¬(rho1 pb≠.no)):=jh (fun h=>h (SK.out.newNo (Nat.le_of_eq hpb.symm)));have SKD:=jh (SK4.out.below (Below.refl w4.heap.size w4).drew);clear hw4 q4 hb4 SK TK T3 RG hpb;simp only[Act.put];go_upto_region 10 with (fail)
   refine wp_region_held_drew (S:=fun w'=>Kept (fun k=>rho1 k≠.no) w4 w') (by kernel_rfl) ?_ (fun hHeld=>?_)
   ·exact(Kept.refl _ _).drew
   generalize World.drew w4=wd at SKD hHeld ⊢;refine qz 0 hHeld ?_;refine qz 1 hHeld ?_;refine qz 2 hHeld ?_;refine qz 3 hHeld ?_ (hy:=by intro w' hSw;have c0:=hSw.cell c0 NPB.out;have c1:=hSw.cell c1 NPB.out;(try clear hHeld);go_simp;try with_reducible rfl);refine qz 4 hHeld ?_;refine qz 5 hHeld ?_;refine qz 6 hHeld ?_ (hy:=by intro w' hSw;have c0:=hSw.cell c0 NPB.out;have c1:=hSw.cell c1 NPB.out;(try clear hHeld);go_simp;try with_reducible rfl);refine jr 7 fun K hK=>?_;(try clear hb);go_simp;refine(sv_said SKD.out x.p HP.out.1).mono ?_;rintro e wq ⟨sx,cx,xs,A,rfl,ox,xe,hbq⟩;have SKQ:=jh (SKD.out.below hbq);have AC:=jh (said_all SKQ.out HP.out xe);have XE:=jh xe;have XN:=jh (ox.fresh.wide (G:=fun k=>rho1 k=.no) fun k hk _=>SKD.out.newNo hk);have STD:=jh (hHeld.grow hbq);go_wp2_with fail;refine hK.out _ _ ?_ (fun hHeld=>?_);(·exact hHeld.grow hbq);clear hK K;(try simp only[jz]);refine jr 8 fun K hK=>?_;(try clear hb);go_simp;refine(sv_renew SKQ.out HN2.out x.p HP.out (.slice sx xs.length cx) xs XN.out AC.out).mono ?_;rintro e wz ⟨rho3,rfl,hs3,st3⟩;go_wp2_with fail;refine hK.out _ _ ?_ (fun hHeld=>?_);(·exact hHeld.trans st3.kept);clear hK K;(try simp only[jz]);refine wpAnyH_done (by kernel_rfl) ?_ _;have SF:Hid (SrvM wz rho3 sb fb ls (blockL S1 j ((vs.map (·.p)).take (k+1)))):=jh (by
    rw[NX.out];unfold renew1;rw[←XE.out];exact hs3)
   have SD:Hid (Step rho1 rho3 w4 wz):=jh ⟨fun k hk=>st3.same k (Nat.lt_of_lt_of_le hk STD.out.size),STD.out.trans st3.kept⟩;have TF:=jh (TK4.out.trans SD.out);have TF3:=jh (T34.out.trans SD.out);clear hHeld hs3 st3 SD STD XN SKQ SKD c0 c1;go_wp2_with fail;exact⟨⟨k+1,rho3,by omega,by go_num,SF,TF,TF3⟩,by simp[intOf];omega⟩
  ·obtain rfl:k=vs.length:=by omega
   have e:(vs.map (·.p)).take vs.length=vs.map (·.p):=List.take_of_length_le (by rw[List.length_map];exact Nat.le_refl _);rw[e] at SK;have SF:=jh SK.out;clear SK hk hkl;go_wp2_with fail;refine bodyPost_ret (v:=.int .i64 0) (by simp[results,Tryz.results26,go_sem]) rfl ⟨rho1,_,rfl,fun p=>RM.out p,by rw[E1.out];exact SF.out,TK.out⟩
end
open Go.RowKit
def Ab.as_ (A:Ab) (j:Nat):Int:=((A.V[j]?).map (·.1)).getD 0
def Ab.goes (A:Ab) (i j:Nat) (p:Pf):Bool:=goesS A.own A.bl (A.R i) i j (A.as_ j) p
section
variable {w W:World} {rho:Nat→Role} {sb fb:Nat} {ls:List Pl} {S:Sv} {A:Ab}
theorem IsAb.asO (h:IsAb S A) {j:Nat} {m:Pm} (hm:S.ms[j]? =some m):A.as_ j=m.as_:=by
 unfold Ab.as_;rw[(h.get hm).1];rfl
theorem ls_Offers (h:LSv w W rho sb fb ls A) {i:Nat} (hi:i<A.V.length) (p:Pf) (hp:KOk p):Calls Tryz.prog 30 #[.pointer (some ⟨sb,0,none⟩),.int .i64 i,.agg #[.int .u32 p.1,.int .i64 p.2]] W (OffersPost (A.offs i p) p W):=by
 obtain⟨S,h1,h2⟩:=h.srv;obtain⟨m,hm⟩:=h2.at hi;have:=sv_Offers h1 hm p hp;rw[off_V,h2.own,h2.bl,h2.V] at this;exact this
theorem ls_Goes (h:LSv w W rho sb fb ls A) {i j:Nat} (hi:i<A.V.length) (hj:j<A.V.length) (p:Pf) (hp:OkP p):
  Calls Tryz.prog 31 #[.pointer (some ⟨sb,0,none⟩),.int .i64 i,.int .i64 j,.agg #[.int .u32 p.1,.int .i64 p.2]] W fun e w'=>e=.returned (.bool (A.goes i j p))∧Below W.heap.size W w':=by
 obtain⟨S,h1,h2⟩:=h.srv;obtain⟨m,hm⟩:=h2.at hi;obtain⟨n,hn⟩:=h2.at hj;have:=sv_Goes h1 hm hn p hp;rw[h2.own,h2.bl,←(h2.get hm).2,←h2.asO hn] at this;exact this
theorem ls_Block (h:LSv w W rho sb fb ls A) {i j:Nat} (hi:i<A.V.length) (hj:j<A.V.length) (b:Bool):
  Calls Tryz.prog 26 #[.pointer (some ⟨sb,0,none⟩),.int .i64 i,.int .i64 j,.bool b] W fun e w'=>∃rho':Nat→Role,e=.returned (.int .i64 0)∧LSv w w' rho' sb fb ls (A.block i j b)∧Step rho rho' W w':=by
 obtain⟨S,h1,h2⟩:=h.srv;obtain⟨m,hm⟩:=h2.at hi;obtain⟨n,hn⟩:=h2.at hj;refine(sv_Block h1 hm hn b).mono ?_;rintro e w' ⟨rho',ps,rfl,hps,hs,st⟩;exact⟨rho',rfl,h.step hs (h2.block h.few hi hj b ps (fun p=>by rw[(h2.get hm).2];exact hps p)) st,st⟩
theorem ls_Block_no (h:LSv w W rho sb fb ls A) {n k:Int} (hn:¬((0≤n∧n<(A.V.length:Int))∧(0≤k∧k<(A.V.length:Int)))) (b:Bool):Calls Tryz.prog 26 #[.pointer (some ⟨sb,0,none⟩),.int .i64 n,.int .i64 k,.bool b] W fun e w'=>e=.returned (.int .i64 1)∧W=w':=by
 obtain⟨S,h1,h2⟩:=h.srv;exact sv_Block_no h1 (by rw[h2.len];exact hn) b
end
theorem asV (A:Ab) (j:Nat):asOf (A.V.map pmV) j=A.as_ j:=by
 unfold asOf Ab.as_;rw[List.getElem?_map];cases A.V[j]?<;>rfl
theorem best_offs (A:Ab) (r:Nat) (p:Pf):A.best r p=pickB (A.offs r p):=rfl
structure ToldOf (A:Ab) (r:Nat) (p:Pf) (L:List BE):Prop where
 perm:(L.map beC).Perm ((A.offs r p).map fun c=>(c.peer,c.a))
 net:∀x∈L,x.p=p
theorem ToldOf.of {A:Ab} {r:Nat} {p:Pf} {L:List BE} (h:ToldOf A r p L) {x:BE} (hx:x∈L):∃c∈A.offs r p,c.peer=x.peer∧c.a=x.a:=by
 have:=h.perm.mem_iff.1 (List.mem_map.2 ⟨x,hx,rfl⟩);obtain⟨c,hc,e⟩:=List.mem_map.1 this;injection e with e1 e2;exact⟨c,hc,e1,e2⟩
theorem ToldOf.all {A:Ab} {r:Nat} {p:Pf} {L:List BE} (h:ToldOf A r p L) {c:Cd} (hc:c∈A.offs r p):∃x∈L,x.peer=c.peer∧x.a=c.a:=by
 have:=h.perm.mem_iff.2 (List.mem_map.2 ⟨c,hc,rfl⟩);obtain⟨x,hx,e⟩:=List.mem_map.1 this;injection e with e1 e2;exact⟨x,hx,e1,e2⟩
theorem ToldOf.none {A:Ab} {r:Nat} {p:Pf} {L:List BE} (h:ToldOf A r p L):A.best r p=.none↔L=[]:=by
 rw[best_offs,pickB_none];have:=h.perm.length_eq;rw[List.length_map,List.length_map] at this;constructor
 ·intro e;rw[e] at this;exact List.length_eq_zero_iff.1 this
 ·intro e;rw[e] at this;exact List.length_eq_zero_iff.1 this.symm
def blocks (A:Ab) (r:Nat) (L:List BE):Ab:=L.foldl (fun A x=>A.block x.peer.toNat r true) A
open Go.RowKit
def knV (l:List (Pf×BE)) (p:Pf):Option (Int×At):=(getL l p).map fun x=>(x.peer,x.a)
structure KnT (l:List (Pf×BE)):Prop where
 apart:KeysApart l
 net:∀x∈l,x.2.p=x.1
 rgt:∀x∈l,RgtP x.1
def KnOk (A:Ab) (i:Nat) (l:List (Pf×BE)):Prop:=A.th i=true→∀p,A.nw i p=false→knV l p=A.best i p
theorem KnOk.turn {A:Ab} {i:Nat} {l:List (Pf×BE)} (h:KnOk A i l) (bl:Nat→Bool) (V:List VM):KnOk (A.turn bl V) i l:=by
 intro ht p hn;have ht':A.th i=true:=ht;have hn':(A.nw i p||(A.th i&&!sameB (A.best i p) (bestV A.own bl V i p)))=false:=hn;rw[ht',Bool.or_eq_false_iff] at hn';have h2:sameB (A.best i p) (bestV A.own bl V i p)=true:=by simpa using hn'.2
 exact(h ht' p hn'.1).trans ((sameB_iff _ _).1 h2)
theorem KnOk.join_self (A:Ab) (i:Nat):KnOk (A.join i) i []:=by
 intro _ p hn;have hn':setF A.nw i (fun p=>A.nw i p||(A.best i p).isSome) i p=false:=hn;rw[setF_same,Bool.or_eq_false_iff] at hn';have:A.best i p=none:=by cases hb:A.best i p with
  |none=>rfl
  |some x=>rw[hb] at hn';cases hn'.2
 show none=A.best i p;rw[this]
theorem KnOk.join {A:Ab} {k:Nat} {l:List (Pf×BE)} (h:KnOk A k l) {i:Nat} (hk:k≠i):KnOk (A.join i) k l:=by
 intro ht p hn;have ht':setF A.th i true k=true:=ht;have hn':setF A.nw i (fun p=>A.nw i p||(A.best i p).isSome) k p=false:=hn;rw[setF_other _ hk] at ht' hn';exact h ht' p hn'
theorem KnOk.away {A:Ab} {k:Nat} {l:List (Pf×BE)} (h:KnOk A k l) (i:Nat):KnOk (A.away i) k l:=by
 intro ht p hn;have ht':setF A.th i false k=true:=ht;have hn':setF A.nw i (fun _=>false) k p=false:=hn;by_cases e:k=i
 ·subst e;rw[setF_same] at ht';cases ht'
 ·rw[setF_other _ e] at ht' hn';exact h ht' p hn'
theorem KnOk.leave {A:Ab} {k:Nat} {l:List (Pf×BE)} (h:KnOk A k l) (i:Nat):KnOk (A.leave i) k l:=(h.away i).turn _ _
theorem KnOk.upd {A:Ab} {k:Nat} {l:List (Pf×BE)} (h:KnOk A k l) (i:Nat) (kind:Int) (gone nets:List Pf) (a:At):KnOk (A.upd i kind gone nets a) k l:=by
 unfold Ab.upd;split
 ·exact h.turn _ _
 ·exact h
theorem KnOk.updI {A:Ab} {k:Nat} {l:List (Pf×BE)} (h:KnOk A k l) (n:Int) (kind:Int) (gone nets:List Pf) (a:At):KnOk (A.updI n kind gone nets a) k l:=by
 unfold Ab.updI;split
 ·exact h.upd _ kind gone nets a
 ·exact h
theorem KnOk.block {A:Ab} {k:Nat} {l:List (Pf×BE)} (h:KnOk A k l) (i j:Nat) (b:Bool):KnOk (A.block i j b) k l:=h.turn _ _
theorem KnOk.hush {A:Ab} {k:Nat} {l:List (Pf×BE)} (h:KnOk A k l) {i:Nat} (hk:k≠i):KnOk (A.hush i) k l:=by
 intro ht p hn;have hn':setF A.nw i (fun _=>false) k p=false:=hn;rw[setF_other _ hk] at hn';exact h ht p hn'
theorem KnOk.new (own most:Int) (xs:List Sd) (i:Nat):KnOk (newA own most xs) i []:=fun ht=>by cases ht
def tell1 (l:List (Pf×BE)) (p:Pf) (b:Option BE):List (Pf×BE):=match b with
 |some x=>putL l p x
 |none=>delL l p
theorem KnT.nil:KnT []:=⟨List.Pairwise.nil,fun x hx=>(by cases hx),fun x hx=>by cases hx⟩
theorem KnT.tell1 {l:List (Pf×BE)} (h:KnT l) (p:Pf) (hp:RgtP p) (b:Option BE) (hb:∀x,b=some x→x.p=p):KnT (tell1 l p b):=by
 cases b with
 |none=>exact⟨apart_del h.apart p,fun x hx=>h.net x (mem_del.1 hx).1,fun x hx=>h.rgt x (mem_del.1 hx).1⟩
 |some y=>
  refine⟨apart_put h.apart p y,fun x hx=>?_,fun x hx=>?_⟩
  ·rcases mem_put hx with⟨h1,-⟩|rfl
   ·exact h.net x h1
   ·exact hb y rfl
  ·rcases mem_put hx with⟨h1,-⟩|rfl
   ·exact h.rgt x h1
   ·exact hp
theorem knV_tell1 (l:List (Pf×BE)) (p q:Pf) (b:Option BE):knV (tell1 l p b) q=if q=p then b.map (fun x=>(x.peer,x.a)) else knV l q:=by
 unfold knV;cases b with
 |none=>
  show (getL (delL l p) q).map _=_;rw[getL_del];split<;>rfl
 |some y=>
  show (getL (putL l p y) q).map _=_;rw[getL_put];split<;>rfl
theorem KnOk.told {A:Ab} {i:Nat} {l l':List (Pf×BE)} (h:KnOk A i l) {L:List Pf} (hL:∀p,p∈L↔A.nw i p=true) (hk:∀p,knV l' p=if p∈L then A.best i p else knV l p):KnOk (A.hush i) i l':=by
 intro ht p _;show knV l' p=A.best i p;rw[hk p];by_cases hp:p∈L
 ·rw[if_pos hp]
 ·rw[if_neg hp];refine h ht p ?_;cases hn:A.nw i p with
  |false=>rfl
  |true=>exact absurd ((hL p).2 hn) hp
theorem KnOk.all {A:Ab} {i:Nat} {l:List (Pf×BE)} (h:KnOk A i l) (ht:A.th i=true) (hn:∀p,A.nw i p=false) (p:Pf):knV l p=A.best i p:=h ht p (hn p)
open Go.RowKit
abbrev beV (x:BE):Value:=.agg (rtC x.peer x.p x.v)
def mpV (b:Nat):Value:=.map (some b)
structure KnM (W:World) (rho:Nat→Role) (B g c:Nat) (T:TypeId) (bs:List Nat) (ls:List (List (Pf×BE))) (D:Nat→Prop):Prop where
 own:W.ownsRow B T 1 (.slice (some ⟨g,0,none⟩) bs.length c) bs.length (bs.map mpV)
 len:ls.length=bs.length
 map:∀(i b:Nat) l,bs[i]? =some b→ls[i]? =some l→MapT pfV beV KOk W b l∧KnT l
 val:On D W (fun W=>∀l∈ls,∀x∈l,AvAt W x.2.a x.2.v)
 apt:(g::bs).Nodup
 hi:∀k∈g::bs,B≤k
 no:∀k,(k∈g::bs∨D k)→rho k=.no∧k<W.heap.size
 dis:∀k,D k→k∉g::bs
section
variable {W W1 W2:World} {rho rho':Nat→Role} {B g c:Nat} {T:TypeId} {bs:List Nat} {ls:List (List (Pf×BE))} {D:Nat→Prop}
theorem KnM.step (h:KnM W rho B g c T bs ls D) (st:Step rho rho' W W1):KnM W1 rho' B g c T bs ls D:=by
 have hno:∀k,(k∈g::bs∨D k)→W1.heap[k]? =W.heap[k]?:=fun k hk=>st.block (h.no k hk).2 (h.no k hk).1;refine⟨own_on h.own W1 (fun k hk _=>by injection hk with hk;subst hk;exact hno _ (.inl (List.mem_cons_self ..))),h.len,fun i b l h1 h2=>?_,?_,h.apt,h.hi,fun k hk=>?_,h.dis⟩
 ·obtain⟨m1,m2⟩:=h.map i b l h1 h2;exact⟨m1.of_block (hno b (.inl (List.mem_cons_of_mem _ (List.mem_of_getElem? h1)))),m2⟩
 ·exact h.val.kept st.kept fun k _ hD hn=>hn (h.no k (.inr hD)).1
 ·exact⟨(st.same k (h.no k hk).2).trans (h.no k hk).1,Nat.lt_of_lt_of_le (h.no k hk).2 st.kept.size⟩
theorem KnM.below (h:KnM W rho B g c T bs ls D) (hb:Below W.heap.size W W1):KnM W1 rho B g c T bs ls D:=h.step (Step.below hb)
theorem KnM.out {G:Nat→Prop} (h:KnM W rho B g c T bs ls D) (hk:Kept G W W1) (hG:∀k,(k∈g::bs∨D k)→¬G k):KnM W1 rho B g c T bs ls D:=by
 have hno:∀k,(k∈g::bs∨D k)→W1.heap[k]? =W.heap[k]?:=fun k hk'=>hk.block k (h.no k hk').2 (hG k hk');refine⟨own_on h.own W1 (fun k hk _=>by injection hk with hk;subst hk;exact hno _ (.inl (List.mem_cons_self ..))),h.len,fun i b l h1 h2=>?_,?_,h.apt,h.hi,fun k hk'=>?_,h.dis⟩
 ·obtain⟨m1,m2⟩:=h.map i b l h1 h2;exact⟨m1.of_block (hno b (.inl (List.mem_cons_of_mem _ (List.mem_of_getElem? h1)))),m2⟩
 ·exact h.val.kept hk fun k _ hD=>hG k (.inr hD)
 ·exact⟨(h.no k hk').1,Nat.lt_of_lt_of_le (h.no k hk').2 hk.size⟩
theorem KnM.at (h:KnM W rho B g c T bs ls D) {i:Nat} (hi:i<bs.length):∃(b:Nat) (l:List (Pf×BE)),bs[i]? =some b∧ls[i]? =some l∧(W.cell? ⟨g,i,none⟩=some (.map (some b))∧W.frozen? ⟨g,i,none⟩=false)∧MapT pfV beV KOk W b l∧KnT l∧b≠g:=by
 have h1:bs[i]? =some bs[i]:=List.getElem?_eq_getElem hi;have h2:ls[i]? =some (ls[i]'(by rw[h.len];exact hi)):=List.getElem?_eq_getElem _;have hc:=own_row_cell h.own rfl (j:=i) (u:=mpV bs[i]) (by rw[List.getElem?_map,h1];rfl);refine⟨_,_,h1,h2,⟨hc.1,hc.2.1⟩,(h.map i _ _ h1 h2).1,(h.map i _ _ h1 h2).2,fun e=>?_⟩;have:=(List.nodup_cons.1 h.apt).1;exact this (e▸List.getElem_mem hi)
theorem KnM.anew (h:KnM W rho B g c T bs ls D) {i b':Nat} (hi:i<bs.length) (hb:Below W.heap.size W W1) (hm:MapT pfV beV KOk W1 b' []) (hn:W.heap.size≤b') (hno:rho b'=.no) (hB:B≤W.heap.size)
  (hW2:W2=W1.setCell ⟨g,i,none⟩ (.map (some b'))):KnM W2 rho B g c T (bs.set i b') (ls.set i []) D:=by
 have hlt:∀k,(k∈g::bs∨D k)→k<W.heap.size:=fun k hk=>(h.no k hk).2;have hsub:∀k,k∈g::bs.set i b'→k∈g::bs∨k=b':=fun k hk=>by
  rcases List.mem_cons.1 hk with rfl|hk
  ·exact .inl (List.mem_cons_self ..)
  ·rcases List.mem_or_eq_of_mem_set hk with hk|rfl
   ·exact .inl (List.mem_cons_of_mem _ hk)
   ·exact .inr rfl
 have hb1:=h.below hb;have hk:Kept (fun k=>k=g) W1 W2:=by rw[hW2];exact Kept.setCell _ _ rfl
 have gne:b'≠g:=by have:=hlt g (.inl (List.mem_cons_self ..));omega
 refine⟨?_,by simp[h.len],fun j b l hj hl=>?_,?_,?_,fun k hk'=>?_,fun k hk'=>?_,fun k hD hk'=>?_⟩
 ·have h1:=own_set hb1.own rfl i (mpV b');rw[hW2,List.map_set,List.length_set];exact h1
 ·rw[List.getElem?_set] at hj hl;by_cases e:i=j
  ·subst e;rw[if_pos rfl,if_pos hi] at hj;rw[if_pos rfl,if_pos (by rw[h.len];exact hi)] at hl;injection hj with hj;subst hj;injection hl with hl;subst hl;exact⟨hm.kept hk gne,KnT.nil⟩
  ·rw[if_neg e] at hj hl;obtain⟨m1,m2⟩:=hb1.map j b l hj hl;exact⟨m1.kept hk fun e2=>(List.nodup_cons.1 h.apt).1 (e2▸List.mem_of_getElem? hj),m2⟩
 ·refine(hb1.val.kept hk fun k _ hD e=>h.dis k hD (e▸List.mem_cons_self ..)).imp fun W hW l hl x hx=>?_;rcases List.mem_or_eq_of_mem_set hl with hl|rfl
  ·exact hW l hl x hx
  ·cases hx
 ·rw[List.nodup_cons];constructor
  ·intro hg;rcases List.mem_or_eq_of_mem_set hg with hg|hg
   ·exact(List.nodup_cons.1 h.apt).1 hg
   ·exact gne hg.symm
  ·have hnd:=(List.nodup_cons.1 h.apt).2;rw[List.nodup_iff_pairwise_ne,List.pairwise_iff_getElem] at hnd ⊢;intro j k hj hk' hjk;rw[List.length_set] at hj hk';rw[List.getElem_set,List.getElem_set];have lt1:∀(m:Nat) (hm:m<bs.length),bs[m]<W.heap.size:=fun m hm=>hlt _ (.inl (List.mem_cons_of_mem _ (List.getElem_mem hm)));by_cases e1:i=j
   ·have e2:¬i=k:=by omega
    rw[if_pos e1,if_neg e2];have:=lt1 k hk';omega
   ·rw[if_neg e1];by_cases e2:i=k
    ·rw[if_pos e2];have:=lt1 j hj;omega
    ·rw[if_neg e2];exact hnd j k hj hk' hjk
 ·rcases hsub k hk' with hk'|rfl
  ·exact h.hi k hk'
  ·omega
 ·have:k∈g::bs∨D k→rho k=.no∧k<W2.heap.size:=fun hx=>⟨(h.no k hx).1,Nat.lt_of_lt_of_le (h.no k hx).2 (Nat.le_trans hb.size hk.size)⟩
  rcases hk' with hk'|hk'
  ·rcases hsub k hk' with hk'|rfl
   ·exact this (.inl hk')
   ·exact⟨hno,Nat.lt_of_lt_of_le hm.lt hk.size⟩
  ·exact this (.inr hk')
 ·rcases hsub k hk' with hk'|rfl
  ·exact h.dis k hD hk'
  ·have:=hlt k (.inr hD);omega
theorem KnM.change (h:KnM W rho B g c T bs ls D) {i b:Nat} {l':List (Pf×BE)} {D':Nat→Prop} (hb:bs[i]? =some b) (hk:Kept (fun k=>k=b) W W2) (hm:MapT pfV beV KOk W2 b l') (ht:KnT l')
  (hv:On D' W2 (fun W=>∀x∈l',AvAt W x.2.a x.2.v)) (hD:∀k,D' k→rho k=.no∧k<W2.heap.size∧k∉g::bs):KnM W2 rho B g c T bs (ls.set i l') (fun k=>D k∨D' k):=by
 have hmem:b∈bs:=List.mem_of_getElem? hb;have hi:i<bs.length:=(List.getElem?_eq_some_iff.1 hb).1;have gne:g≠b:=fun e=>(List.nodup_cons.1 h.apt).1 (e▸hmem);refine⟨((own_on h.own).kept hk fun k _ e e2=>by injection e with e;exact gne (e.trans e2)).self,by simp[h.len],fun j c l hj hl=>?_,?_,h.apt,h.hi,fun k hk'=>?_,fun k hk'=>?_⟩
 ·rw[List.getElem?_set] at hl;by_cases e:i=j
  ·subst e;rw[if_pos rfl,if_pos (by rw[h.len];exact hi)] at hl;rw[hb] at hj;injection hj with hj;subst hj;injection hl with hl;subst hl;exact⟨hm,ht⟩
  ·rw[if_neg e] at hl;obtain⟨m1,m2⟩:=h.map j c l hj hl;refine⟨m1.kept hk fun e2=>?_,m2⟩;subst e2;have hnd:=(List.nodup_cons.1 h.apt).2;exact e ((List.getElem?_inj hi hnd).1 (hb.trans hj.symm))
 ·have h1:=h.val.kept hk fun k _ hDk e=>h.dis k hDk (e▸List.mem_cons_of_mem _ hmem);refine((h1.wide (G:=fun k=>D k∨D' k) fun _ h _=>.inl h).and (hv.wide fun _ h _=>.inr h)).imp fun W hW l hl x hx=>?_;rcases List.mem_or_eq_of_mem_set hl with hl|rfl
  ·exact hW.1 l hl x hx
  ·exact hW.2 x hx
 ·rcases hk' with hk'|hk'|hk'
  ·exact⟨(h.no k (.inl hk')).1,Nat.lt_of_lt_of_le (h.no k (.inl hk')).2 hk.size⟩
  ·exact⟨(h.no k (.inr hk')).1,Nat.lt_of_lt_of_le (h.no k (.inr hk')).2 hk.size⟩
  ·exact⟨(hD k hk').1,(hD k hk').2.1⟩
 ·rcases hk' with hk'|hk'
  ·exact h.dis k hk'
  ·exact(hD k hk').2.2
end
end Go.Proofs.YtkoidahgbbabiaaGreat
