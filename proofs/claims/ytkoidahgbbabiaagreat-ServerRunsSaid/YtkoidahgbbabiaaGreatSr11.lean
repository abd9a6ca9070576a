/- Texts of one proof, one behind another. -/
import Derived.Test.YtkoidahgbbabiaaGreatSr10
import Derived.Test.YtkoidahgbbabiaaGreatSr4
import Derived.Great.BuildSlice
import Derived.Test.YtkoidahgbbabiaaGreatSr1
import Derived.StillTailTactics
import Derived.LoopTactic
import Derived.LoopN
set_option maxRecDepth 100000
set_option maxHeartbeats 100000000
namespace Go.Proofs.YtkoidahgbbabiaaGreat
open Go.RowKit Go.Lib
structure RE where
 p:Pf
 a:At
 v:AV
 lo:Nat
 hi:Nat
def rtL (peer:Int) (x:RE):List Value:=(rtC peer x.p x.v).toList
theorem rtL_len (peer:Int) (x:RE):(rtL peer x).length=13:=rfl
theorem rtL_one (peer:Int) (x:RE):∀u∈rtL peer x,u.oneCell'=true:=by
 intro u hu;have:=rt_one peer x.p x.v;rw[Array.all_eq_true_iff_forall_mem] at this;exact this u (by simpa [rtL] using hu)
def itP (x:Itm):Pf:=((x.1.1:Int),(x.1.2:Int))
structure REs (W:World) (lo:Nat) (peer:Int) (R:List (Pf×At)) (v:Value) (vs:List RE):Prop where
 own:W.ownsRow lo 61 13 v vs.length (vs.flatMap (rtL peer))
 has:∀x∈vs,getL R x.p=some x.a∧OkP x.p
 ent:∀x∈vs,lo≤x.lo∧x.hi≤W.heap.size∧On (fun k=>x.lo≤k∧k<x.hi) W (fun W=>AvU W x.a x.v)
 apt:∀x∈vs,∀g,v.ownBlock=some g→¬(x.lo≤g∧g<x.hi)
theorem REs.kept {W W':World} {lo:Nat} {peer:Int} {R:List (Pf×At)} {v:Value} {vs:List RE} {G:Nat→Prop} (h:REs W lo peer R v vs) (hk:Kept G W W') (hG:∀k,G k→(∀g,v.ownBlock=some g→k≠g)∧∀x∈vs,¬(x.lo≤k∧k<x.hi)):REs W' lo peer R v vs:=
 ⟨((own_on h.own).kept hk fun k _ ho hg=>(hG k hg).1 k ho rfl).self,h.has,fun x hx=>⟨(h.ent x hx).1,Nat.le_trans (h.ent x hx).2.1 hk.size,(h.ent x hx).2.2.kept hk fun k _ hF hg=>(hG k hg).2 x hx hF⟩,h.apt⟩
theorem REs.below {W W':World} {lo:Nat} {peer:Int} {R:List (Pf×At)} {v:Value} {vs:List RE} (h:REs W lo peer R v vs) (hb:Below W.heap.size W W'):REs W' lo peer R v vs:=h.kept (G:=fun _=>False) (Kept.of_below hb) fun _ h=>h.elim
structure AI (w:World) (rb tb:Nat) (N:Nat→Option Nat) (E:List Ent) (peer own most:Int) (F:Nat→Prop) (ab rx:Nat) (P:Nat→Prop) (L:List Itm) (W:World):Prop where
 bel:Below w.heap.size w W
 rib:RibIn W rb tb N E peer own most F
 rxc:W.cell? ⟨rx,0,none⟩=some (.pointer (some ⟨rb,0,none⟩))
 lo:w.heap.size≤ab∧rx≠ab
 flt:∀k,F k→k<w.heap.size
 sl:∃v vs,W.heap[ab]? =some (.cells #[v] 57 (0,0))∧REs W w.heap.size peer (rts E) v vs∧vs.map (·.p)=L.map itP∧(∀x∈vs,¬(x.lo≤ab∧ab<x.hi))∧(∀g,v.ownBlock=some g→¬P g∧g≠ab∧g≠rx)
 pab:¬P ab
 prx:w.heap.size≤rx
 plt:∀b,P b→b<W.heap.size
section
variable {w W W':World} {rb tb:Nat} {N:Nat→Option Nat} {E:List Ent} {peer own most:Int} {F P:Nat→Prop} {ab rx:Nat} {L:List Itm}
theorem AI.stab {P':Nat→Prop} (h:AI w rb tb N E peer own most F ab rx P L W) (hb:Below W.heap.size W W') (hP:∀b,P' b→P b∨(W.heap.size≤b∧b<W'.heap.size)):AI w rb tb N E peer own most F ab rx P' L W':=by
 obtain⟨v,vs,h1,h2,h3,h4,h5⟩:=h.sl;refine⟨jC h.bel hb,h.rib.below hb,jA h.rxc hb,h.lo,h.flt,⟨v,vs,(hb.block _ (jE h1)).trans h1,h2.below hb,h3,h4,fun g hg=>⟨fun hp=>?_,(h5 g hg).2⟩⟩,fun hp=>?_,h.prx,fun b hp=>?_⟩
 ·rcases hP g hp with hp|hp
  ·exact(h5 g hg).1 hp
  ·have:=own_lt h2.own g hg;omega
 ·rcases hP ab hp with hp|hp
  ·exact h.pab hp
  ·have:=jE h1;omega
 ·rcases hP b hp with hp|hp
  ·exact Nat.lt_of_lt_of_le (h.plt b hp) hb.size
  ·exact hp.2
theorem AI.step {w1 w2 w3:World} {v0 v3:Value} {vs:List RE} {p:Pf} {a:At} {u:AV} {lo:Nat} {it:Itm} (h:AI w rb tb N E peer own most F ab rx P L W) (hab:W.heap[ab]? =some (.cells #[v0] 57 (0,0))) (hre:REs W w.heap.size peer (rts E) v0 vs) (hmp:vs.map (·.p)=L.map itP)
  (hpx:∀x∈vs,¬(x.lo≤ab∧ab<x.hi)) (hog:∀g,v0.ownBlock=some g→¬P g∧g≠ab∧g≠rx) (hp:itP it=p) (hgt:getL (rts E) p=some a) (hok:OkP p) (b01:Below W.heap.size W w1) (hlo:W.heap.size≤lo) (fr:Fresh lo w1 (fun W=>AvU W a u)) (b12:Below w1.heap.size w1 w2)
  (h2:w3.ownsRow w.heap.size 61 13 v3 (vs.length+1) (vs.flatMap (rtL peer)++(rtC peer p u).toList)) (hk3:Kept (fun k=>v0.ownBlock=some k) w2 w3) (hat:v3.ownBlock=v0.ownBlock∨v3.ownBlock=some w2.heap.size):
  AI w rb tb N E peer own most F ab rx P (L++[it]) (w3.setCell ⟨ab,0,none⟩ v3)∧Kept (fun b=>¬P b) W (w3.setCell ⟨ab,0,none⟩ v3):=by
 have hablt:=jE hab;have o0:=own_lt hre.own;have o1:=jJ hre.own;have s1:=b01.size;have s2:=b12.size;have ws:=h.bel.size;have b02:=jC b01 b12;have Kt:Kept (fun k=>k=ab∨v0.ownBlock=some k) W (w3.setCell ⟨ab,0,none⟩ v3):=(((Kept.of_below b02).trans (hk3.imp fun k hk=>.inr hk)).put _ _ (.inl (.inl rfl)))
 have K1:Kept (fun k=>k=ab∨v0.ownBlock=some k) w1 (w3.setCell ⟨ab,0,none⟩ v3):=(((Kept.of_below b12).trans (hk3.imp fun k hk=>.inr hk)).put _ _ (.inl (.inl rfl)))
 have n3:∀g,v3.ownBlock=some g→(v0.ownBlock=some g)∨g=w2.heap.size:=fun g hg=>by
  rcases hat with e|e
  ·exact .inl (e▸hg)
  ·rw[e] at hg;exact .inr (Option.some.inj hg).symm
 have n3ab:∀g,v3.ownBlock=some g→g≠ab:=fun g hg e=>by
  rcases n3 g hg with h1|h1
  ·exact(hog g h1).2.1 e
  ·omega
 have hrow:w3.heap[ab]? =some (.cells #[v0] 57 (0,0)):=(hk3.block ab (by omega) (fun h=>(hog ab h).2.1 rfl)).trans ((b02.block ab hablt).trans hab);refine⟨⟨h.bel.trans (Kt.below ws fun k hk=>?_),h.rib.kept Kt fun k hl hF hG=>?_,Kt.cell h.rxc fun hG=>?_,h.lo,h.flt,⟨v3,vs++[⟨p,a,u,lo,w1.heap.size⟩],?_,⟨?_,?_,?_,?_⟩,?_,?_,?_⟩,h.pab,h.prx,fun b hb=>Nat.lt_of_lt_of_le (h.plt b hb) Kt.size⟩,Kt.imp fun k hk hp=>?_⟩
 ·rcases hk with rfl|hk
  ·exact h.lo.1
  ·exact o1 k hk
 ·have:=h.flt k hF;have:=h.lo.1;rcases hG with rfl|hG
  ·omega
  ·have:=o1 k hG;omega
 ·rcases hG with hG|hG
  ·exact h.lo.2 hG
  ·exact(hog _ hG).2.2 rfl
 ·rw[jO hrow];rfl
 ·have e1:(vs++[⟨p,a,u,lo,w1.heap.size⟩]:List RE).flatMap (rtL peer)=vs.flatMap (rtL peer)++(rtC peer p u).toList:=by rw[List.flatMap_append];simp[rtL]
  have e2:(vs++[⟨p,a,u,lo,w1.heap.size⟩]:List RE).length=vs.length+1:=by simp
  rw[e1,e2];exact((own_on h2).kept (Kept.setCell (F:=fun k=>k=ab) _ _ rfl) fun k _ ho e=>n3ab k ho e).self
 ·intro x hx;rcases List.mem_append.1 hx with hx|hx
  ·exact hre.has x hx
  ·simp at hx;subst hx;exact⟨hgt,hok⟩
 ·intro x hx;rcases List.mem_append.1 hx with hx|hx
  ·obtain⟨e1,e2,e3⟩:=hre.ent x hx;exact⟨e1,Nat.le_trans e2 Kt.size,e3.kept Kt fun k _ hF hG=>by
    rcases hG with rfl|hG
    ·exact hpx x hx hF
    ·exact hre.apt x hx k hG hF⟩
  ·simp at hx;subst hx;refine⟨by simp only;omega,K1.size,(fr.wide fun k hk hl=>⟨hk,hl⟩).kept K1 fun k _ hF hG=>?_⟩;simp only at hF;rcases hG with rfl|hG
   ·omega
   ·have:=o0 k hG;omega
 ·intro x hx g hg hF;rcases List.mem_append.1 hx with hx|hx
  ·rcases n3 g hg with h1|h1
   ·exact hre.apt x hx g h1 hF
   ·have:=(hre.ent x hx).2.1;omega
  ·simp at hx;subst hx;simp only at hF;rcases n3 g hg with h1|h1
   ·have:=o0 g h1;omega
   ·omega
 ·rw[List.map_append,List.map_append,hmp];simp[hp]
 ·intro x hx hF;rcases List.mem_append.1 hx with hx|hx
  ·exact hpx x hx hF
  ·simp at hx;subst hx;simp only at hF;omega
 ·intro g hg;rcases n3 g hg with h1|h1
  ·exact hog g h1
  ·subst h1;refine⟨fun hp=>?_,by omega,fun e=>?_⟩
   ·have:=h.plt _ hp;omega
   ·have:=jH h.rxc;omega
 ·rcases hk with rfl|hk
  ·exact h.pab hp
  ·exact(hog k hk).1 hp
end
section
variable {P:Program} {w:World}
theorem wp_append_at {o:Oper} {a:Act} {K:Act→World→Prop} {Q:Exit→Act→World→Prop} (s x:Operand) (t:TypeId)
  (ho:o.op=.call {callee:=.builtin .append,args:=#[s,x],argTypes:=#[t,t]})
  (base:Nat) (e:TypeId) (i:TypeInfo) (z:Value) (size bytes:Nat) (ht:P.underlying t=some (.slice e)) (hi:P.info? e=some i) (hz:i.zero=some z)
  (hsize:i.size=size) (hby:i.bytes=bytes) (hzs:z.cells.size=size) (hsz:0<size)
  (v:Value) (n:Nat) (xs:List Value) (hs:a.eval s=v) (hown:w.ownsRow base e size v n xs)
  (ad:Addr) (m c:Nat) (news:List Value) (hx:a.eval x=.slice (some ad) m c) (hl:news.length=m*size) (hnews:∀j u,news[j]? =some u→w.cell? (ad.add j)=some u) (h1:∀u∈news,u.oneCell'=true)
  (h63:n+m≤maxLen) (hbytes:(n+m)*bytes≤140737488355328) (hbase:base≤w.heap.size)
  (h:∀v' w',w'.ownsRow base e size v' (n+m) (xs++news)→w.grownBy w' v.ownBlock→(v'.ownBlock=v.ownBlock∨v'.ownBlock=some w.heap.size)→K (a.put o.dst v') w'):o.wp P a w K Q:=by
 obtain⟨v',w',hr,h2,h3,_,h5⟩:=run_append_own_at (P:=P) w base t o.type e i z size bytes ht hi hz hsize hby hzs hsz v n xs hown ad m c news hl hnews h1 h63 hbytes hbase;unfold Oper.wp execOp;simp only[ho,resolve,invoke,builtin,Sem.run_bind,Sem.run_pure,Result.andThen_ok,List.map_toArray,List.map_cons,List.map_nil,hs,hx,hr];exact h v' w' h2 h3 h5
end
theorem info_route:(Tryz.prog.info? 61).map (fun i=>(i.zero,i.size,i.bytes))=some (some (.agg #[.int .i64 0,.int .u32 0,.int .i64 0,.int .i64 0,.int .i64 0,.slice none 0 0,.int .u32 0,.int .i64 0,.int .i64 0,.int .i64 0,.int .u32 0,.slice none 0 0,.slice none 0 0]),13,152):=by kernel_rfl
theorem rt_one_k {W:World} {q:World→Prop} {peer:Int} {p:Pf} {v:AV} (h:∀w1:World,(∀(j:Nat) (c:Value),((rtC peer p v).toList)[j]? =some c→w1.cell? ((⟨W.heap.size,0,none⟩:Addr).add j)=some c)→Below W.heap.size W w1→q w1):q (W.alloc (.cells (rtC peer p v) 61)):=
 h _ (new_cells W _ _) ((Below.refl _ _).alloc (Nat.le_refl _) _)
theorem item_ent {E:List Ent} (hE:∀e∈E,RgtP e.p) {A i:Nat} {v:AV} (hA:A<4294967296) (hR:rightB A i=true) (hg:getL (kvs E) (keyN A i)=some v):∃e∈E,e.p=itP ((A,i),v)∧e.v=v∧getL (rts E) (itP ((A,i),v))=some e.a:=by
 have hp:RgtP ((A:Int),(i:Int)):=⟨⟨by simp only;omega,by simp only;omega⟩,hR⟩
 have key:=find_kvs hE hp;have e1:pKey ((A:Int),(i:Int))=keyN A i:=rfl;rw[e1,hg] at key;cases hf:findE E ((A:Int),(i:Int)) with
 |none=>rw[hf] at key;cases key
 |some e=>
  rw[hf] at key;obtain⟨h1,h2⟩:=findE_mem hf;refine⟨e,h1,h2,(Option.some.inj key).symm,?_⟩;show getL (rts E) ((A:Int),(i:Int))=_;rw[find_rts,hf];rfl
open Go.RowKit
structure CV where
 c:Cd
 v:AV
abbrev cvA (x:CV):Array Value:=#[.int .i64 x.c.peer,.int .u32 x.c.na,.int .i64 x.c.nl,.int .i64 x.v.has,.int .i64 x.v.origin,.slice x.v.ps x.v.pn x.v.pc,.int .u32 x.v.hop,.int .i64 x.v.med,.int .i64 x.v.loc,.int .i64 x.v.aggrAs,.int .u32 x.v.aggrId,.slice x.v.cs x.v.cn x.v.cc,.slice x.v.os x.v.on x.v.oc,.int .u32 x.c.id]
def cvL (x:CV):List Value:=(cvA x).toList
theorem cvL_len (x:CV):(cvL x).length=14:=rfl
theorem cv_one (x:CV):(cvA x).all (·.oneCell')=true:=by simp[Value.oneCell']
theorem cvL_one (x:CV):∀u∈cvL x,u.oneCell'=true:=by
 intro u hu;have:=cv_one x;rw[Array.all_eq_true_iff_forall_mem] at this;exact this u (by simpa [cvL] using hu)
def CvsAt (W:World) (v:Value) (xs:List CV):Prop:=SlAt W 14 (fun x cs=>cs=cvL x) v xs∧∀x∈xs,AvAt W x.c.a x.v
def OkC (c:Cd):Prop:=I64r c.peer∧c.na<4294967296∧I64r c.nl∧c.id<4294967296∧GoodA c.a
theorem CvsAt.below {W W':World} {v:Value} {xs:List CV} (h:CvsAt W v xs) (hb:Below W.heap.size W W'):CvsAt W' v xs:=⟨SlAt.below h.1 hb fun _ _ h=>h,fun x hx=>(h.2 x hx).below hb⟩
theorem cv_c {W:World} {x:CV} (h:AvAt W x.c.a x.v) (ho:OkC x.c):CdC W x.c (cvL x):=by
 obtain⟨ps,pc,cs,cc,os,oc,e,hl⟩:=h;refine⟨.slice ps x.c.a.path.length pc,.slice cs x.c.a.comms.length cc,.slice os x.c.a.others.length oc,?_,⟨ho.1,ho.2.1,ho.2.2.1,ho.2.2.2.2.rng,ho.2.2.2.1⟩,hl⟩;obtain⟨c,v⟩:=x;simp only at e;subst e;rfl
theorem CvsAt.cds {W:World} {v:Value} {xs:List CV} (h:CvsAt W v xs) (ho:∀x∈xs,OkC x.c):CdsAt W v (xs.map (·.c)):=by
 obtain⟨⟨sa,cap,h1,h2,h3,h4⟩,hm⟩:=h;refine⟨sa,cap,by rw[List.length_map];exact h1,by rw[List.length_map];exact h2,h3,fun h0=>?_⟩;obtain⟨b,off,h5,h6⟩:=h4 (by rwa [List.length_map] at h0);refine⟨b,off,h5,fun i c hc=>?_⟩;rw[List.getElem?_map] at hc;cases hx:xs[i]? with
 |none=>rw[hx] at hc;simp at hc
 |some x=>
  rw[hx] at hc;simp at hc;subst hc;obtain⟨cs,g1,rfl,g3⟩:=h6 i x hx;have hxm:=List.mem_of_getElem? hx;exact⟨cvL x,g1,cv_c (hm x hxm) (ho x hxm),g3⟩
theorem cvs_at {W:World} {s:Option Addr} {n c:Nat} {xs:List CV} (h:CvsAt W (.slice s n c) xs) {i:Nat} {x:CV} (hx:xs[i]? =some x):∃g o,s=some ⟨g,o,none⟩∧W.rangeAt g (o+i*14) (cvL x)∧AvAt W x.c.a x.v:=by
 obtain⟨⟨s',c',e,h1,h2,h3⟩,hm⟩:=h;injection e with e _ _;subst e;have hi:=(List.getElem?_eq_some_iff.1 hx).1;obtain⟨b,off,rfl,h4⟩:=h3 (by omega);obtain⟨cs,-,rfl,hc⟩:=h4 i x hx;exact⟨b,off,rfl,fun j v hv=>hc j v hv,hm x (List.mem_of_getElem? hx)⟩
structure OwnCv (w:World) (B:Nat) (v:Value) (xs:List CV) (A:Nat→Prop):Prop where
 own:w.ownsRow B 99 14 v xs.length (xs.flatMap cvL)
 mem:On A w (fun W=>∀x∈xs,AvAt W x.c.a x.v)
 lt:∀k,A k→B≤k∧k<w.heap.size
 apt:∀g,v.ownBlock=some g→¬A g
section
variable {w w1 w2 w3:World} {B:Nat} {v:Value} {xs:List CV} {A:Nat→Prop}
theorem OwnCv.below (h:OwnCv w B v xs A) (hb:Below w.heap.size w w1):OwnCv w1 B v xs A:=
 ⟨jQ h.own hb,h.mem.below hb,fun k hk=>⟨(h.lt k hk).1,Nat.lt_of_lt_of_le (h.lt k hk).2 hb.size⟩,h.apt⟩
theorem OwnCv.nil (w:World) (B:Nat):OwnCv w B (.slice none 0 0) [] (fun _=>False):=
 ⟨⟨by simp,.inl ⟨rfl,rfl⟩⟩,fun _ _ x hx=>(by cases hx),fun _ h=>h.elim,fun _ h=>(by cases h)⟩
theorem OwnCv.at (h:OwnCv w B v xs A):CvsAt w v xs:=⟨own_slat cvL_len h.own,h.mem.self⟩
theorem OwnCv.fresh (h:OwnCv w B v xs A):Fresh B w (fun W=>CvsAt W v xs):=by
 have h1:=own_fresh h.own;have h2:Fresh B w (fun W=>∀x∈xs,AvAt W x.c.a x.v):=h.mem.wide fun k hk _=>(h.lt k hk).1;exact(h1.and h2).imp fun W h=>⟨own_slat cvL_len h.1,h.2⟩
theorem OwnCv.step (h:OwnCv w B v xs A) {x:CV} {v':Value} {lo:Nat} (b01:Below w.heap.size w w1) (hlo:w.heap.size≤lo) (hB:B≤w.heap.size) (fr:Fresh lo w1 (fun W=>AvAt W x.c.a x.v)) (b12:Below w1.heap.size w1 w2)
  (h2:w3.ownsRow B 99 14 v' (xs.length+1) (xs.flatMap cvL++cvL x)) (hg:w2.grownBy w3 v.ownBlock) (hat:v'.ownBlock=v.ownBlock∨v'.ownBlock=some w2.heap.size):OwnCv w3 B v' (xs++[x]) (fun k=>A k∨(lo≤k∧k<w1.heap.size)):=by
 have hk:Kept (fun b=>v.ownBlock=some b) w2 w3:=⟨hg.os,hg.tape,hg.output,hg.size,fun k hk hF=>hg.block k hk (fun e=>hF e.symm)⟩
 have ol:=own_lt h.own;have s1:=b01.size;have s2:=b12.size;have s3:=hk.size;refine⟨?_,?_,?_,?_⟩
 ·rw[List.length_append,List.flatMap_append];simpa using h2
 ·have m1:=((h.mem.below (b01.trans (b12.mono s1))).kept hk fun k _ hA hg=>h.apt k hg hA)
  have m2:=((fr.below b12).kept hk fun k _ hl hg=>by have:=ol k hg;omega)
  refine((m1.wide (G:=fun k=>A k∨(lo≤k∧k<w1.heap.size)) fun k hA _=>.inl hA).and (R:=fun W=>AvAt W x.c.a x.v) ?_).imp fun W h y hy=>?_
  ·intro W hW;refine fr W fun k hk' hl=>?_;have e1:=hW k (.inr ⟨hk',hl⟩) (by omega);exact e1.trans ((hk.block k (by omega) (fun hg=>by have:=ol k hg;omega)).trans (b12.block k hl))
  ·rcases List.mem_append.1 hy with hy|hy
   ·exact h.1 y hy
   ·simp at hy;subst hy;exact h.2
 ·rintro k (hk'|hk')
  ·have:=h.lt k hk';omega
  ·omega
 ·rintro g hg (hA|hA)
  ·rcases hat with e|e
   ·rw[e] at hg;exact h.apt g hg hA
   ·rw[e] at hg;injection hg with hg;have:=(h.lt g hA).2;omega
  ·rcases hat with e|e
   ·rw[e] at hg;have:=ol g hg;omega
   ·rw[e] at hg;injection hg with hg;omega
end
open Go.RowKit
def cvZ:CV:=⟨⟨0,0,0,⟨0,0,[],0,0,0,0,0,[],[]⟩,0⟩,av0⟩
theorem info_cand:(Tryz.prog.info? 99).map (fun i=>(i.zero,i.size,i.bytes))=some (some (.agg (cvA cvZ)),14,160):=by kernel_rfl
theorem cv_built (peer:Int) (p:Pf) (v:AV) (n:Nat) (id:Nat) (a:At) (hp:p.1=(n:Int)):Tryz.prog.built 99 [(0,.agg (rtC peer p v)),(1,.int .u32 id)]=some (cvA ⟨⟨peer,n,p.2,a,id⟩,v⟩):=by
 obtain⟨q,l⟩:=p;simp only at hp;subst hp;kernel_rfl
theorem wp_cv1 {o:Oper} {a:Act} {w:World} {K:Act→World→Prop} {Q:Exit→Act→World→Prop} (x:Operand) (ho:o.op=.buildSlice 96 1 #[(0,x)]) (y:CV) (hx:a.eval x=.agg (cvA y))
  (h:∀w2:World,(∀(j:Nat) (u:Value),(cvL y)[j]? =some u→w2.cell? ((⟨w.heap.size,0,none⟩:Addr).add j)=some u)→Below w.heap.size w w2→K (a.put o.dst (.slice (some ⟨w.heap.size,0,none⟩) 1 1)) w2):o.wp Tryz.prog a w K Q:=by
 obtain⟨i0,hii,hz0,hz1,hz2⟩:=info_parts info_cand;refine wp_buildSlice 96 99 1 _ ho (cvA y) i0 _ Tryz.underlying96 hii hz0 (by rw[hz1];decide) (by rw[hz1];decide) ?_ (h _ (new_cells w _ _) ((Below.refl _ _).alloc (Nat.le_refl _) _));rw[hz1];simp only[List.map_toArray,List.map_cons,List.map_nil,hx];kernel_rfl
theorem box_zrt {W:World} {p:World→Prop} (h:∀w1:World,w1.heap[W.heap.size]? =some (.cells (rtC 0 (0,0) av0) 61 (0,0))→Below W.heap.size W w1→p w1):p (W.alloc (.cells #[.int .i64 0,.int .u32 0,.int .i64 0,.int .i64 0,.int .i64 0,.slice none 0 0,.int .u32 0,.int .i64 0,.int .i64 0,.int .i64 0,.int .u32 0,.slice none 0 0,.slice none 0 0] 61)):=
 h _ (heap_alloc_new W _) ((Below.refl _ _).alloc (Nat.le_refl _) _)
section
variable {W:World} {rho:Nat→Role} {sb fb:Nat} {ls:List Pl} {S:Sv}
theorem SrvM.pf (h:SrvM W rho sb fb ls S) {i:Nat} {m:Pm} (hm:S.ms[i]? =some m) {p:Pf} {a:At} (hp:getL m.R p=some a):RgtP p∧GoodA a:=by
 obtain⟨l,-,hM⟩:=h.get hm;refine⟨?_,hM.good p a hp⟩;obtain⟨tb,N,E,hI,he⟩:=hM.rib;rw[he,find_rts] at hp;cases hf:findE E p with
 |none=>rw[hf] at hp;cases hp
 |some e=>
  obtain⟨h1,rfl⟩:=findE_mem hf;exact hI.rgt e h1
theorem SrvM.saidOk (h:SrvM W rho sb fb ls S) {p:Pf}:∀c∈saidS S.ms p,OkC c:=by
 intro c hc;obtain⟨k,m,a,hm,hg,rfl⟩:=saidS_mem hc;obtain⟨hr,hga⟩:=h.pf hm hg;obtain⟨l,-,hM⟩:=h.get hm;have hk:=(List.getElem?_eq_some_iff.1 hm).1;have few:=h.bod.few;obtain⟨x,n,rfl,hx,hn,-⟩:=hr.nat;refine⟨?_,?_,?_,hM.ids.2,hga⟩
 ·unfold cdOf I64r;simp only;omega
 ·unfold cdOf;simp only;omega
 ·unfold cdOf I64r;simp only;omega
end
open Go.RowKit
theorem exec_built2S {P:Program} {oi:Oper} {ev:Operand→Value} {w:World} (t:TypeId) (x0 x1:Operand) (ho:oi.op=.build t #[(0,x0),(1,x1)]) (v0 v1:Value) (h0:ev x0=v0) (h1:ev x1=v1) (cells:Array Value) (hc:P.built t [(0,v0),(1,v1)]=some cells):(execOp ev oi).run P w=.ok (.value (.agg cells)) w:=by
 have hr:=run_build (P:=P) w t ((#[(0,x0),(1,x1)]:Array (Nat×Operand)).map fun (i,x)=>(i,ev x)) cells (by simp[h0,h1,hc]);unfold execOp;simp only[ho,Sem.run_bind,hr,Sem.run_pure,Result.andThen_ok]
theorem fresh_hi {lo:Nat} {w:World} {Q:World→Prop} (h:Fresh lo w Q):On (fun k=>lo≤k∧k<w.heap.size) w Q:=h.wide fun _ h hl=>⟨h,hl⟩
theorem kept_gr {w w':World} {r:Option Nat} (h:w.grownBy w' r):Kept (fun b=>r=some b) w w':=⟨h.os,h.tape,h.output,h.size,fun k hk hF=>h.block k hk (fun e=>hF e.symm)⟩
theorem OwnCv.base {w:World} {B B':Nat} {v:Value} {xs:List CV} {A:Nat→Prop} (h:OwnCv w B v xs A) (hb:B'≤B):OwnCv w B' v xs A:=⟨own_base h.own hb,h.mem,fun k hk=>⟨Nat.le_trans hb (h.lt k hk).1,(h.lt k hk).2⟩,h.apt⟩
theorem saidS_none {ms:List Pm} {k:Nat} {m:Pm} {p:Pf} (hm:ms[k]? =some m) (h:getL m.R p=none):saidS (ms.take (k+1)) p=saidS (ms.take k) p:=by
 rw[saidS_take p hm];unfold saidOne;rw[h,List.append_nil]
theorem saidS_some {ms:List Pm} {k:Nat} {m:Pm} {p:Pf} {a:At} (hm:ms[k]? =some m) (h:getL m.R p=some a):saidS (ms.take (k+1)) p=saidS (ms.take k) p++[cdOf k p m.id a]:=by
 rw[saidS_take p hm];unfold saidOne;rw[h]
theorem sv_said {W:World} {rho:Nat→Role} {sb fb:Nat} {ls:List Pl} {S:Sv} (h:SrvM W rho sb fb ls S) (p:Pf) (hp:OkP p):
  Calls Tryz.prog 72 #[.pointer (some ⟨sb,0,none⟩),.agg #[.int .u32 p.1,.int .i64 p.2]] W fun e w'=>
   ∃(s:Option Addr) (c:Nat) (xs:List CV) (A:Nat→Prop),e=.returned (.slice s xs.length c)∧OwnCv w' W.heap.size (.slice s xs.length c) xs A∧xs.map (·.c)=saidS S.ms p∧Below W.heap.size W w':=by
 obtain⟨s,cap,c0,-,hcs⟩:=h.cells;have HS:=jh h;have HCS:=jh hcs;have HP:=jh hp;have few:=h.bod.few;obtain⟨pn,hpn⟩:∃n:Nat,p.1=(n:Int):=Int.eq_ofNat_of_zero_le hp.1;have HPN:=jh hpn;clear h hcs hp hpn;go_enter Tryz.func72,Tryz.ntmps72;go_upto_region 1 with (fail)
 obtain⟨W0,hW0,p0,p1,hB⟩:=box2 W (.int .u32 p.1) (.int .i64 p.2) 53;rw[←hW0];obtain⟨pb,hpb⟩:∃pb,pb=W.heap.size:=⟨_,rfl⟩
 rw[←hpb] at p0 p1 ⊢;have c0:=jA c0 hB;have B0:=jh hB;have P0:=jh p0;have P1:=jh p1;have ON:=jh (OwnCv.nil W0 W0.heap.size);clear hW0 hB p0 p1 hpb;go_wp2_with fail;clear c0;go_loopw [15,5] (fun t15 t5 wr=>∃(k:Nat) (s':Option Addr) (c':Nat) (xs:List CV) (A:Nat→Prop),k≤S.ms.length∧t15=.int .i64 k∧t5=.slice s' xs.length c'∧xs.length≤k∧Hid (OwnCv wr W0.heap.size (.slice s' xs.length c') xs A)∧Hid (xs.map (·.c)=saidS (S.ms.take k) p)∧Hid (Below W0.heap.size W0 wr)) (fun t15 _ _=>S.ms.length - (intOf t15).toNat)
 case atStart=>exact⟨0,none,0,[],_,by omega,rfl,rfl,by simp,ON,jh rfl,jh (Below.refl _ _)⟩
 case round=>
  clear ON;obtain⟨k,s1,c1,xs,A,hk,rfl,rfl,xl,OC,XE,BV⟩:=hrel;by_cases hkl:k<S.ms.length
  ·obtain⟨m,hm⟩:∃m,S.ms[k]? =some m:=⟨_,List.getElem?_eq_getElem hkl⟩
   have HR:=jh (HS.out.below (jC B0.out BV.out));obtain⟨l,hl,hM⟩:=HR.out.get hm;obtain⟨g,o,rfl,m0⟩:=HCS.out k l hl;have m0:=jA m0 (jC B0.out BV.out);have k0:(0:Int)≤(k:Int):=by omega
   have k1:(k:Int)<(S.ms.length:Int):=by omega
   have m3:wr.cell? ⟨l.mb,3,none⟩=some (.pointer (some ⟨l.rb,0,none⟩)):=jB hM.row 3;have m1:wr.cell? ⟨l.mb,1,none⟩=some (.int .u32 m.id):=jB hM.row 1;have p0:=jA P0.out BV.out;have p1:=jA P1.out BV.out;have M1:=jh m1;have HM:=jh hm;have GT:=jh (fun w' (hb:Below wr.heap.size wr w')=>ad_Get p w' (hM.rib.below hb) HP.out);have WB:Hid (W0.heap.size≤wr.heap.size):=jh BV.out.size;have MBL:Hid (l.mb<W.heap.size):=jh (by
    obtain⟨l2,hl2,hM2⟩:=HS.out.get hm;rw[hl] at hl2;injection hl2 with hl2;subst hl2;exact jE hM2.row)
   clear hM hm hl m1;cases hg:getL m.R p with
   |none=>
    have GN:Hid (∀w',Below wr.heap.size wr w'→Calls Tryz.prog 75 #[.pointer (some ⟨l.rb,0,none⟩),.agg #[.int .u32 p.1,.int .i64 p.2]] w' fun e w2=>e=.returned (.tuple #[.agg (rtC 0 (0,0) av0),.bool false])∧Below w'.heap.size w' w2):=jh (fun w' hb=>(GT.out w' hb).mono fun e w2 h=>by
     rcases h with⟨-,h1,h2⟩|⟨a,v,h1,-⟩
     ·exact⟨h1,h2⟩
     ·rw[hg] at h1;cases h1)
    have XN:Hid (xs.map (·.c)=saidS (S.ms.take (k+1)) p):=jh (by rw[saidS_none HM.out hg];exact XE.out);clear hg GT;go_upto_region 5 with (fail)
    go_cut [9] from 19 to 27 (fun s9 wx=>s9=.bool false∧Hid (Below wr.heap.size wr wx))
    case first=>
     refine wp_region_held_drew (S:=fun w'=>Below wr.heap.size wr w') (by kernel_rfl) ?_ (fun hHeld=>?_)
     ·exact(Below.refl _ _).drew
     generalize World.drew wr=wd at hHeld ⊢;refine qz 0 hHeld ?_;refine qz 4 hHeld ?_ (hy:=by intro w' hSw;have p0:=jA p0 hSw;have p1:=jA p1 hSw;have m3:=jA m3 hSw;(try clear hHeld);go_simp;try with_reducible rfl);refine jI (i:=1) (j:=9) (atS at0) (atS (atS (atS (atS (atS (atS (atS (atS (atS at0))))))))) (by kernel_rfl) ?_ ?_ (fun K hK=>?_) (fun K hK=>?_)
     ·rfl
     ·rfl
     ·(try clear hb);go_simp;go_wp2_with fail;refine hK.out _ _ hHeld fun hHeld=>?_;clear hK K;(try simp only[jz]);refine qz 2 hHeld ?_;refine qz 3 hHeld ?_ (hy:=by intro w' hSw;have p0:=jA p0 hSw;have p1:=jA p1 hSw;have m3:=jA m3 hSw;(try clear hHeld);go_simp;try with_reducible rfl);refine jI (i:=5) (j:=9) (atS (atS (atS (atS (atS at0))))) (atS (atS (atS (atS (atS (atS (atS (atS (atS at0))))))))) (by kernel_rfl) ?_ ?_ (fun K hK=>?_) (fun K hK=>?_)
      ·rfl
      ·rfl
      ·(try clear hb);go_simp;(refine(GN.out _ hHeld).mono ?_;rintro e w1 ⟨rfl,hb⟩);(try replace hz:=(hb.block _ (jE hz)).trans hz);go_wp2_with fail;refine hK.out _ _ ?_ (fun hHeld=>?_);(·exact hHeld.trans (hb.mono hHeld.size));clear hK K;(try simp only[jz]);refine qz 6 hHeld ?_;refine qz 7 hHeld ?_;refine qz 8 hHeld ?_;refine jr 9 fun K hK=>?_;(try clear hb);go_simp;refine box_zrt (p:=K _) ?_;intro w1 hz hb;have hgs:=hHeld.size;refine hK.out _ _ ?_ (fun hHeld=>?_);(·exact jC hHeld hb);clear hK K;(try simp only[jz]);refine jr 10 fun K hK=>?_;(try clear hb);refine jG 61 (.tmp 8) (.tmp 26) rfl _ rfl 61 (rtC 0 (0,0) av0) _ rfl hz (by kernel_rfl) rfl (rt_one _ _ _) ?_;refine jT hz (p:=K _) ?_;intro w2 hr hk2;refine hK.out _ _ ?_ (fun hHeld=>?_);(·exact hHeld.trans (hk2.below hHeld.size (by rintro k rfl;exact hgs)));clear hK K;(try simp only[Act.put]);refine qz 11 hHeld ?_;refine wpAnyH_done (by kernel_rfl) ?_ _;go_wp2_with fail;go_meet;exact⟨rfl,jh hHeld⟩
      ·(try clear hb);go_simp;refine box_zrt (p:=K _) ?_;intro w1 hz hb;have hgs:=hHeld.size;refine hK.out _ _ ?_ (fun hHeld=>?_);(·exact jC hHeld hb);clear hK K;(try simp only[jz]);refine jr 5 fun K hK=>?_;(try clear hb);go_simp;(refine(GN.out _ hHeld).mono ?_;rintro e w1 ⟨rfl,hb⟩);(try replace hz:=(hb.block _ (jE hz)).trans hz);go_wp2_with fail;refine hK.out _ _ ?_ (fun hHeld=>?_);(·exact hHeld.trans (hb.mono hHeld.size));clear hK K;(try simp only[jz]);refine qz 6 hHeld ?_;refine qz 7 hHeld ?_;refine qz 8 hHeld ?_;refine jr 10 fun K hK=>?_;(try clear hb);refine jG 61 (.tmp 8) (.tmp 26) rfl _ rfl 61 (rtC 0 (0,0) av0) _ rfl hz (by kernel_rfl) rfl (rt_one _ _ _) ?_;refine jT hz (p:=K _) ?_;intro w2 hr hk2;refine hK.out _ _ ?_ (fun hHeld=>?_);(·exact hHeld.trans (hk2.below hHeld.size (by rintro k rfl;exact hgs)));clear hK K;(try simp only[Act.put]);refine qz 11 hHeld ?_;refine wpAnyH_done (by kernel_rfl) ?_ _;go_wp2_with fail;go_meet;exact⟨rfl,jh hHeld⟩
     ·(try clear hb);go_simp;refine box_zrt (p:=K _) ?_;intro w1 hz hb;have hgs:=hHeld.size;refine hK.out _ _ ?_ (fun hHeld=>?_);(·exact jC hHeld hb);clear hK K;(try simp only[jz]);refine jr 1 fun K hK=>?_;(try clear hb);go_simp;go_wp2_with fail;refine hK.out _ _ hHeld fun hHeld=>?_;clear hK K;(try simp only[jz]);refine qz 2 hHeld ?_;refine qz 3 hHeld ?_ (hy:=by intro w' hSw;have p0:=jA p0 hSw;have p1:=jA p1 hSw;have m3:=jA m3 hSw;(try clear hHeld);go_simp;try with_reducible rfl);refine jr 5 fun K hK=>?_;(try clear hb);go_simp;(refine(GN.out _ hHeld).mono ?_;rintro e w1 ⟨rfl,hb⟩);(try replace hz:=(hb.block _ (jE hz)).trans hz);go_wp2_with fail;refine hK.out _ _ ?_ (fun hHeld=>?_);(·exact hHeld.trans (hb.mono hHeld.size));clear hK K;(try simp only[jz]);refine qz 6 hHeld ?_;refine qz 7 hHeld ?_;refine qz 8 hHeld ?_;refine jr 10 fun K hK=>?_;(try clear hb);refine jG 61 (.tmp 8) (.tmp 26) rfl _ rfl 61 (rtC 0 (0,0) av0) _ rfl hz (by kernel_rfl) rfl (rt_one _ _ _) ?_;refine jT hz (p:=K _) ?_;intro w2 hr hk2;refine hK.out _ _ ?_ (fun hHeld=>?_);(·exact hHeld.trans (hk2.below hHeld.size (by rintro k rfl;exact hgs)));clear hK K;(try simp only[Act.put]);refine qz 11 hHeld ?_;refine wpAnyH_done (by kernel_rfl) ?_ _;go_wp2_with fail;go_meet;exact⟨rfl,jh hHeld⟩
    case rest=>
     obtain⟨rfl,HH⟩:=hcut;obtain⟨wd,hwd⟩:∃wd:World,wd=wc:=⟨_,rfl⟩
     rw[←hwd] at HH ⊢;have OC2:=jh (OC.out.below HH.out);have BV2:=jh (jC BV.out HH.out);clear hwd HH OC BV p0 p1 m3 m0;go_wp2_with fail;exact⟨⟨k+1,s1,c1,xs,A,by omega,by go_num,rfl,by omega,OC2,XN,BV2⟩,by simp[intOf];omega⟩
   |some a=>
    have GN:Hid (∀w',Below wr.heap.size wr w'→Calls Tryz.prog 75 #[.pointer (some ⟨l.rb,0,none⟩),.agg #[.int .u32 p.1,.int .i64 p.2]] w' fun e w2=>∃v:AV,e=.returned (.tuple #[.agg (rtC k p v),.bool true])∧Fresh w'.heap.size w2 (fun W=>AvAt W a v)∧Below w'.heap.size w' w2):=jh (fun w' hb=>(GT.out w' hb).mono fun e w2 h=>by
     rcases h with⟨h1,-⟩|⟨b,v,h1,h2,-,h4,h5⟩
     ·rw[hg] at h1;cases h1
     ·rw[hg] at h1;injection h1 with h1;subst h1;exact⟨v,h2,h4.imp fun _ h=>h.at,h5⟩)
    have XN:Hid (saidS (S.ms.take (k+1)) p=saidS (S.ms.take k) p++[cdOf k p m.id a]):=jh (saidS_some HM.out hg);clear hg GT;go_upto_region 5 with (fail)
    go_cut [8,9] from 19 to 27 (fun s8 s9 wx=>∃(g8:Nat) (v:AV) (lo:Nat),s8=.pointer (some ⟨g8,0,none⟩)∧s9=.bool true∧Hid (Below wr.heap.size wr wx∧wx.heap[g8]? =some (.cells (rtC k p v) 61 (0,0))∧wr.heap.size≤lo∧Fresh lo wx (fun W=>AvAt W a v)∧wr.heap.size≤g8))
    case first=>
     refine wp_region_held_drew (S:=fun w'=>Below wr.heap.size wr w') (by kernel_rfl) ?_ (fun hHeld=>?_)
     ·exact(Below.refl _ _).drew
     generalize World.drew wr=wd at hHeld ⊢;refine qz 0 hHeld ?_;refine qz 4 hHeld ?_ (hy:=by intro w' hSw;have p0:=jA p0 hSw;have p1:=jA p1 hSw;have m3:=jA m3 hSw;(try clear hHeld);go_simp;try with_reducible rfl);refine jI (i:=1) (j:=9) (atS at0) (atS (atS (atS (atS (atS (atS (atS (atS (atS at0))))))))) (by kernel_rfl) ?_ ?_ (fun K hK=>?_) (fun K hK=>?_)
     ·rfl
     ·rfl
     ·(try clear hb);go_simp;go_wp2_with fail;refine hK.out _ _ hHeld fun hHeld=>?_;clear hK K;(try simp only[jz]);refine qz 2 hHeld ?_;refine qz 3 hHeld ?_ (hy:=by intro w' hSw;have p0:=jA p0 hSw;have p1:=jA p1 hSw;have m3:=jA m3 hSw;(try clear hHeld);go_simp;try with_reducible rfl);refine jI (i:=5) (j:=9) (atS (atS (atS (atS (atS at0))))) (atS (atS (atS (atS (atS (atS (atS (atS (atS at0))))))))) (by kernel_rfl) ?_ ?_ (fun K hK=>?_) (fun K hK=>?_)
      ·rfl
      ·rfl
      ·(try clear hb);go_simp;have hlo:=hHeld.size;(try have hzl:=jE hz);refine(GN.out _ hHeld).mono ?_;rintro e wg ⟨v,rfl,fr0,hb⟩;have fr:=fresh_hi fr0;clear fr0;(try replace hz:=(hb.block _ (jE hz)).trans hz);go_wp2_with fail;refine hK.out _ _ ?_ (fun hHeld=>?_);(·exact jC hHeld hb);clear hK K;(try simp only[jz]);refine qz 6 hHeld ?_;refine qz 7 hHeld ?_;refine qz 8 hHeld ?_;refine jr 9 fun K hK=>?_;(try clear hb);go_simp;refine box_zrt (p:=K _) ?_;intro w1 hz hb1;have hgs:=hHeld.size;(try replace fr:=fr.below hb1);refine hK.out _ _ ?_ (fun hHeld=>?_);(·exact jC hHeld hb1);clear hK K;(try simp only[jz]);refine jr 10 fun K hK=>?_;(try clear hb);refine jG 61 (.tmp 8) (.tmp 26) rfl _ rfl 61 (rtC 0 (0,0) av0) _ rfl hz (by kernel_rfl) rfl (rt_one _ _ _) ?_;have hfx:=hgs;refine jT hz (p:=K _) ?_;intro w2 hr hk2;refine hK.out _ _ ?_ (fun hHeld=>?_);(·exact hHeld.trans (hk2.below hHeld.size (by rintro k rfl;exact hgs)));clear hK K;(try simp only[Act.put]);refine qz 11 hHeld ?_;refine wpAnyH_done (by kernel_rfl) ?_ _;go_wp2_with fail;go_meet;exact⟨_,v,_,rfl,rfl,jh ⟨hHeld,hr,hlo,(fr.kept hk2 (fun k' _ hl e=>by omega)).wide (fun _ hk _=>hk.1),hgs⟩⟩
      ·(try clear hb);go_simp;refine box_zrt (p:=K _) ?_;intro w1 hz hb1;have hgs:=hHeld.size;(try replace fr:=fr.below hb1);refine hK.out _ _ ?_ (fun hHeld=>?_);(·exact jC hHeld hb1);clear hK K;(try simp only[jz]);refine jr 5 fun K hK=>?_;(try clear hb);go_simp;have hlo:=hHeld.size;(try have hzl:=jE hz);refine(GN.out _ hHeld).mono ?_;rintro e wg ⟨v,rfl,fr0,hb⟩;have fr:=fresh_hi fr0;clear fr0;(try replace hz:=(hb.block _ (jE hz)).trans hz);go_wp2_with fail;refine hK.out _ _ ?_ (fun hHeld=>?_);(·exact jC hHeld hb);clear hK K;(try simp only[jz]);refine qz 6 hHeld ?_;refine qz 7 hHeld ?_;refine qz 8 hHeld ?_;refine jr 10 fun K hK=>?_;(try clear hb);refine jG 61 (.tmp 8) (.tmp 26) rfl _ rfl 61 (rtC 0 (0,0) av0) _ rfl hz (by kernel_rfl) rfl (rt_one _ _ _) ?_;have hfx:=hgs;refine jT hz (p:=K _) ?_;intro w2 hr hk2;refine hK.out _ _ ?_ (fun hHeld=>?_);(·exact hHeld.trans (hk2.below hHeld.size (by rintro k rfl;exact hgs)));clear hK K;(try simp only[Act.put]);refine qz 11 hHeld ?_;refine wpAnyH_done (by kernel_rfl) ?_ _;go_wp2_with fail;go_meet;exact⟨_,v,_,rfl,rfl,jh ⟨hHeld,hr,hlo,(fr.kept hk2 (fun k' _ hl e=>by omega)).wide (fun _ hk _=>hk.1),hgs⟩⟩
     ·(try clear hb);go_simp;refine box_zrt (p:=K _) ?_;intro w1 hz hb1;have hgs:=hHeld.size;(try replace fr:=fr.below hb1);refine hK.out _ _ ?_ (fun hHeld=>?_);(·exact jC hHeld hb1);clear hK K;(try simp only[jz]);refine jr 1 fun K hK=>?_;(try clear hb);go_simp;go_wp2_with fail;refine hK.out _ _ hHeld fun hHeld=>?_;clear hK K;(try simp only[jz]);refine qz 2 hHeld ?_;refine qz 3 hHeld ?_ (hy:=by intro w' hSw;have p0:=jA p0 hSw;have p1:=jA p1 hSw;have m3:=jA m3 hSw;(try clear hHeld);go_simp;try with_reducible rfl);refine jr 5 fun K hK=>?_;(try clear hb);go_simp;have hlo:=hHeld.size;(try have hzl:=jE hz);refine(GN.out _ hHeld).mono ?_;rintro e wg ⟨v,rfl,fr0,hb⟩;have fr:=fresh_hi fr0;clear fr0;(try replace hz:=(hb.block _ (jE hz)).trans hz);go_wp2_with fail;refine hK.out _ _ ?_ (fun hHeld=>?_);(·exact jC hHeld hb);clear hK K;(try simp only[jz]);refine qz 6 hHeld ?_;refine qz 7 hHeld ?_;refine qz 8 hHeld ?_;refine jr 10 fun K hK=>?_;(try clear hb);refine jG 61 (.tmp 8) (.tmp 26) rfl _ rfl 61 (rtC 0 (0,0) av0) _ rfl hz (by kernel_rfl) rfl (rt_one _ _ _) ?_;have hfx:=hgs;refine jT hz (p:=K _) ?_;intro w2 hr hk2;refine hK.out _ _ ?_ (fun hHeld=>?_);(·exact hHeld.trans (hk2.below hHeld.size (by rintro k rfl;exact hgs)));clear hK K;(try simp only[Act.put]);refine qz 11 hHeld ?_;refine wpAnyH_done (by kernel_rfl) ?_ _;go_wp2_with fail;go_meet;exact⟨_,v,_,rfl,rfl,jh ⟨hHeld,hr,hlo,(fr.kept hk2 (fun k' _ hl e=>by omega)).wide (fun _ hk _=>hk.1),hgs⟩⟩
    case rest=>
     obtain⟨g8,v,lo,rfl,rfl,HH⟩:=hcut;obtain⟨wd,hwd⟩:∃wd:World,wd=wc:=⟨_,rfl⟩
     rw[←hwd] at HH ⊢;have RQ:=jh HH.out.2.1;have m1:=jA M1.out HH.out.1;have OC2:=jh (OC.out.below HH.out.1);have BV2:=jh (jC BV.out HH.out.1);have SG:=jh (fun (w2 w3:World) (v':Value) (b12:Below wd.heap.size wd w2) (h2:w3.ownsRow W0.heap.size 99 14 v' (xs.length+1) (xs.flatMap cvL++cvL ⟨cdOf k p m.id a,v⟩)) hg hat=>OC.out.step (x:=⟨cdOf k p m.id a,v⟩) HH.out.1 HH.out.2.2.1 WB.out HH.out.2.2.2.1 b12 h2 hg hat);have OWD:=OC2.out.own;have WBD:Hid (W0.heap.size≤wd.heap.size):=jh (Nat.le_trans WB.out HH.out.1.size);have HB:=jh (cv_built k p v pn m.id a HPN.out);have EC:Hid ((⟨⟨(k:Int),pn,p.2,a,m.id⟩,v⟩:CV)=⟨cdOf k p m.id a,v⟩):=jh (by unfold cdOf;rw[HPN.out];rfl);rw[EC.out] at HB;have L1:Hid (xs.length+1≤maxLen):=jh (by unfold maxLen;omega);have L2:Hid ((xs.length+1)*160≤140737488355328):=jh (by omega);obtain⟨i0,hii,hz0,hz1,hz2⟩:=info_parts info_cand;have BD:=Below.refl wd.heap.size wd;have NG:Hid (¬(Value.slice s1 xs.length c1).ownBlock=some g8):=jh (fun e=>by have:=own_lt OC.out.own g8 e;have:=HH.out.2.2.2.2;omega);have NM:Hid (¬(Value.slice s1 xs.length c1).ownBlock=some l.mb):=jh (fun e=>by have:=jJ OC.out.own l.mb e;have:=MBL.out;have:=B0.out.size;omega);generalize hcv:(⟨cdOf k p m.id a,v⟩:CV)=cv at SG HB;have HCV:=jh hcv;clear hwd HH OC BV p0 p1 m3 m0 M1 EC hcv;go_wp2_with fail;go_upto_region 7 with (fail)
     replace BD:=BD.drew;replace OWD:=jQ OWD BD;refine wp_region_held_drew (S:=fun w'=>Kept (fun q=>(Value.slice s1 xs.length c1).ownBlock=some q) wd w') (by kernel_rfl) ?_ (fun hHeld=>?_)
     ·exact(Kept.refl _ _).drew
     generalize World.drew wd=wz at BD OWD hHeld ⊢;refine qz 0 hHeld ?_;refine qz 1 hHeld ?_ (hy:=by intro w' hSw;refine exec_ld 61 (.tmp 8) ?_ g8 ?_ 61 (rtC k p v) (0,0) _ ((hSw.block _ (jE RQ.out) NG.out).trans RQ.out) Tryz.underlying61 rfl sz_rt<;>rfl);refine qz 2 hHeld ?_;refine jr 3 fun K hK=>?_;(try clear hb);go_simp;go_wp2_with fail;refine hK.out _ _ hHeld fun hHeld=>?_;clear hK K;(try simp only[jz]);refine qz 4 hHeld ?_;refine qz 5 hHeld ?_;refine qz 6 hHeld ?_ (hy:=by intro w' hSw;have m1:=hSw.cell m1 NM.out;(try clear hHeld);go_simp;try with_reducible rfl);refine qz 7 hHeld ?_ (hy:=by intro w' hSw;refine exec_built2S 99 (.tmp 30) (.tmp 35) ?_ (.agg (rtC k p v)) (.int .u32 m.id) ?_ ?_ (cvA cv) HB.out<;>rfl);refine jr 8 fun K hK=>?_;(try clear hb);refine wp_cv1 (.tmp 36) ?_ cv ?_ ?_;(·rfl);(·rfl);intro wx hcs2 hb2;have BX:=jC BD hb2;have OX:=jQ OWD hb2;refine hK.out _ _ ?_ (fun hHeld=>?_);(·exact hHeld.grow hb2);clear hK K;(try simp only[jz]);refine jr 9 fun K hK=>?_;(try clear hb);refine wp_append_at (.tmp 29) (.tmp 37) 96 ?_ W0.heap.size 99 i0 _ 14 160 Tryz.underlying96 hii hz0 hz1 hz2 rfl (by decide) (.slice s1 xs.length c1) xs.length (xs.flatMap cvL) ?_ OX ⟨wz.heap.size,0,none⟩ 1 1 (cvL cv) ?_ (cvL_len _) hcs2 (cvL_one _) L1.out L2.out (Nat.le_trans WBD.out BX.size) ?_;(·rfl);(·rfl);(·rfl);intro v' w' hown hgrow hat;obtain⟨s6,c6,hv6,-⟩:=jV hown;subst hv6;refine hK.out _ _ ?_ (fun hHeld=>?_);(·exact hHeld.trans (kept_gr hgrow));clear hK K;(try simp only[jz]);refine qz 10 hHeld ?_;refine wpAnyH_done (by kernel_rfl) ?_ _;have OS:=jh (SG.out _ _ _ BX hown hgrow hat);have XN2:Hid ((xs++[cv]).map (·.c)=saidS (S.ms.take (k+1)) p):=jh (by rw[List.map_append,XE.out,XN.out,←HCV.out];rfl);have EL:Hid (xs.length+1=(xs++[cv]).length):=jh (by rw[List.length_append];rfl);have BV3:Hid (Below W0.heap.size W0 w'):=jh (BV2.out.trans (hHeld.below BV2.out.size (fun q hq=>jJ OWD q hq)));clear hHeld hown hgrow hat hcs2 hb2 BX OX BD OWD SG;rw[EL.out] at OS ⊢;go_wp2_with fail;exact⟨⟨k+1,s6,c6,xs++[cv],_,by omega,by go_num,rfl,by rw[←EL.out];omega,OS,XN2,BV3⟩,by simp[intOf];omega⟩
  ·obtain rfl:k=S.ms.length:=by omega
   rw[List.take_length] at XE;have OW:=jh OC.out;have BW:=jh (jC B0.out BV.out);clear OC BV hk hkl;go_wp2_with fail;go_ret;exact⟨s1,c1,xs,A,rfl,OW.out.base B0.out.size,XE.out,BW.out⟩
open Go.RowKit
theorem av_Goes (fb:Nat) (own:Int) (bl:Nat→Bool) (a:At) (v:AV) (i j:Nat) (t:Int) (hi:i<16) (hj:j<16) (w:World) (h:FilAt w fb own bl) (hA:AvAt w a v):
  Calls Tryz.prog 76 #[.pointer (some ⟨fb,0,none⟩),v.V,.int .i64 i,.int .i64 j,.int .i64 t] w fun e w'=>e=.returned (.bool (goesB own bl a i j t))∧Below w.heap.size w w':=by
 obtain⟨vp,vc,vo,e,h2⟩:=hA.form;rw[e];exact ex_Goes fb own bl a vp vc vo i j t hi hj w h h2
def goL (own:Int) (bl:Nat→Bool) (rc:Nat) (t:Int) (xs:List CV):List CV:=xs.filter fun x=>goesC own bl rc t x.c
theorem goL_c (own:Int) (bl:Nat→Bool) (rc:Nat) (t:Int) (xs:List CV):(goL own bl rc t xs).map (·.c)=offL own bl rc t (xs.map (·.c)):=by
 unfold goL offL;rw[List.filter_map];rfl
theorem goL_step {own:Int} {bl:Nat→Bool} {rc:Nat} {t:Int} {xs:List CV} {k:Nat} {x:CV} (hx:xs[k]? =some x):goL own bl rc t (xs.take (k+1))=goL own bl rc t (xs.take k)++if goesC own bl rc t x.c then [x] else []:=by
 unfold goL;rw[take_snoc hx,List.filter_append];cases h:goesC own bl rc t x.c<;>simp[h]
theorem goL_len (own:Int) (bl:Nat→Bool) (rc:Nat) (t:Int) (xs:List CV) (k:Nat):(goL own bl rc t (xs.take k)).length≤k:=Nat.le_trans (List.length_filter_le ..) (List.length_take_le ..)
theorem own_nil14 (w:World) (B:Nat):w.ownsRow B 99 14 (.slice none 0 0) 0 []:=⟨by simp,.inl ⟨rfl,rfl⟩⟩
theorem wpList_cv1 {ops:Array Oper} {rest:List Oper} {o:Oper} {a:Act} {w:World} {Q:Exit→Act→World→Prop} (x:Operand) (hg:o.guard=none) (ho:o.op=.buildSlice 96 1 #[(0,x)]) (y:CV) (hx:a.eval x=.agg (cvA y))
  (h:∀w2:World,(∀(j:Nat) (u:Value),(cvL y)[j]? =some u→w2.cell? ((⟨w.heap.size,0,none⟩:Addr).add j)=some u)→Below w.heap.size w w2→wpList Tryz.prog ops Q rest (a.put o.dst (.slice (some ⟨w.heap.size,0,none⟩) 1 1)) w2):wpList Tryz.prog ops Q (o::rest) a w:=by
 obtain⟨i0,hii,hz0,hz1,hz2⟩:=info_parts info_cand;refine wpList_buildSlice hg 96 99 1 _ ho (cvA y) i0 _ Tryz.underlying96 hii hz0 (by rw[hz1];decide) (by rw[hz1];decide) ?_ (h _ (new_cells w _ _) ((Below.refl _ _).alloc (Nat.le_refl _) _));rw[hz1];simp only[List.map_toArray,List.map_cons,List.map_nil,hx];kernel_rfl
theorem sz_cand:(Tryz.prog.info? 99).map (·.size)=some 14:=by kernel_rfl
theorem cand_range {W:World} {b:Nat} {x:CV} (h:W.heap[b]? =some (.cells (cvA x) 99 (0,0))):W.rangeAt b 3 x.v.C.toList:=by
 intro j u hv;have hj:j<10:=(List.getElem?_eq_some_iff.1 hv).1;have:=jB h (3+j);rw[this,←hv]
 match j,hj with
 |0,_=>rfl
 |1,_=>rfl
 |2,_=>rfl
 |3,_=>rfl
 |4,_=>rfl
 |5,_=>rfl
 |6,_=>rfl
 |7,_=>rfl
 |8,_=>rfl
 |9,_=>rfl
theorem sv_offered {W:World} {rho:Nat→Role} {sb fb:Nat} {ls:List Pl} {S:Sv} (h:SrvM W rho sb fb ls S) {rc:Nat} {m:Pm} (hm:S.ms[rc]? =some m) (va:Value) (xs:List CV) (hx:CvsAt W va xs) (hp:∀x∈xs,∃j:Nat,j<16∧x.c.peer=(j:Int)) (hl:xs.length≤16):
  Calls Tryz.prog 73 #[.pointer (some ⟨sb,0,none⟩),.int .i64 rc,va] W fun e w'=>
   ∃(s:Option Addr) (c:Nat),e=.returned (.slice s (goL S.own S.bl rc m.as_ xs).length c)∧Fresh W.heap.size w' (fun W=>SlAt W 14 (fun x cs=>cs=cvL x) (.slice s (goL S.own S.bl rc m.as_ xs).length c) (goL S.own S.bl rc m.as_ xs))∧Below W.heap.size W w':=by
 obtain⟨s,cap,c0,cf,hcs⟩:=h.cells;obtain⟨l,hl2,hM⟩:=h.get hm;obtain⟨g,o,rfl,m0⟩:=hcs rc l hl2;have HS:=jh h;have HX:=jh hx;have HP:=jh hp;have few:=h.bod.few;have hrc:rc<S.ms.length:=(List.getElem?_eq_some_iff.1 hm).1;have r0:(0:Int)≤(rc:Int):=by omega
 have r1:(rc:Int)<(S.ms.length:Int):=by omega
 have mas:W.cell? ⟨l.mb,0,none⟩=some (.int .i64 m.as_):=jB hM.row 0;obtain⟨sx,cx,rfl,-⟩:=id hx.1;have CF:=jh cf;clear h hx hp hcs hM hl2 hm cf;obtain⟨t,ht⟩:∃t,m.as_=t:=⟨_,rfl⟩
 rw[ht] at mas ⊢;clear ht;go_enter Tryz.func73,Tryz.ntmps73;go_wp2_with fail;clear c0 m0 mas;go_loopw [24,8] (fun t24 t8 wr=>∃(k:Nat) (s':Option Addr) (c':Nat),k≤xs.length∧t24=.int .i64 k∧t8=.slice s' (goL S.own S.bl rc t (xs.take k)).length c'∧Hid (wr.ownsRow W.heap.size 99 14 (.slice s' (goL S.own S.bl rc t (xs.take k)).length c') (goL S.own S.bl rc t (xs.take k)).length ((goL S.own S.bl rc t (xs.take k)).flatMap cvL))∧Hid (Below W.heap.size W wr)) (fun t24 _ _=>xs.length - (intOf t24).toNat)
 case atStart=>exact⟨0,none,0,by omega,rfl,rfl,jh (own_nil14 W _),jh (Below.refl _ _)⟩
 case round=>
  obtain⟨k,s1,c1,hk,rfl,rfl,OW,BV⟩:=hrel;by_cases hkl:k<xs.length
  ·obtain⟨x,hxk⟩:∃x,xs[k]? =some x:=⟨_,List.getElem?_eq_getElem hkl⟩
   obtain⟨gx,ox,rfl,hr,hav⟩:=cvs_at (HX.out.below BV.out) hxk;obtain⟨pj,hpj,epj⟩:=HP.out x (List.mem_of_getElem? hxk);have RR:=jh hr;have HAV:=jh hav;have ST:=jh (goL_step (own:=S.own) (bl:=S.bl) (rc:=rc) (t:=t) hxk);have LL:=jh (goL_len S.own S.bl rc t xs k);have k0:(0:Int)≤(k:Int):=by omega
   have k1:(k:Int)<(xs.length:Int):=by omega
   have EP:=jh epj;clear hxk hr hav epj;obtain⟨ys,hys⟩:∃ys,goL S.own S.bl rc t (xs.take k)=ys:=⟨_,rfl⟩
   rw[hys] at OW ST LL ⊢;clear hys;go_wp2_with ((with_reducible refine jM (X:=.load 99 (.tmp 26)) ?_ ?_);(·rfl));unfold Halt;refine ldm_at (by rfl) 99 (.tmp 26) rfl gx (ox+k*14) rfl (cvL x) _ RR.out Tryz.underlying99 rfl sz_cand ?_;go_wp2_with ((with_reducible refine jM (X:=.store 99 (.tmp 10) (.tmp 27)) ?_ ?_);(·rfl));unfold Halt;refine st_fresh rfl 99 (.tmp 10) (.tmp 27) rfl rfl _ (cvA x) rfl sz_cand rfl (cv_one x) ?_;obtain⟨v1,hv1,q1,hb1,-⟩:=box1 wr (cvA x) 99;rw[←hv1];obtain⟨pb,hpb⟩:∃pb,pb=wr.heap.size:=⟨_,rfl⟩
   rw[←hpb] at q1 ⊢;have BV1:=jh (jC BV.out hb1);have OW1:=jh (jQ OW.out hb1);have Q1:=jh q1;have f1:=jA CF.out BV1.out;have y0:v1.cell? ⟨pb,0,none⟩=some (.int .i64 (pj:Int)):=by rw[←EP.out];exact jB q1 0
   have GB:=jh (fun w' (hb:Below v1.heap.size v1 w')=>av_Goes fb S.own S.bl x.c.a x.v pj rc t hpj (by omega) w' ((HS.out.below (jC BV1.out hb)).bod.fil) ((HAV.out.below hb1).below hb));have GE:Hid (goesB S.own S.bl x.c.a pj rc t=goesC S.own S.bl rc t x.c):=jh (by unfold goesC;rw[EP.out];rfl);rw[GE.out] at GB;have RX:=jh (cand_range q1);obtain⟨z,hz⟩:∃z,goesC S.own S.bl rc t x.c=z:=⟨_,rfl⟩
   rw[hz] at GB ST;clear hv1 q1 hb1 BV OW HAV RR hpb GE hz;go_upto_region 6 with (fail)
   simp only[Act.put];go_cut [40] from 28 to 40 (fun s40 wx=>s40=.bool z∧Hid (Below v1.heap.size v1 wx))
   case first=>
    refine wp_region_held_drew (S:=fun w'=>Below v1.heap.size v1 w') (by kernel_rfl) ?_ (fun hHeld=>?_)
    ·exact(Below.refl _ _).drew
    generalize World.drew v1=wd at hHeld ⊢;refine qz 0 hHeld ?_;refine qz 4 hHeld ?_;refine qz 5 hHeld ?_;refine qz 6 hHeld ?_ (hy:=by intro w' hSw;refine exec_ldm 42 (.tmp 33) ?_ pb 3 ?_ x.v.C.toList _ (fun j u hj=>jA (RX.out j u hj) hSw) Tryz.underlying42 rfl sz_avS<;>rfl);refine qz 7 hHeld ?_;refine qz 8 hHeld ?_;refine qz 9 hHeld ?_ (hy:=by intro w' hSw;have f1:=jA f1 hSw;have y0:=jA y0 hSw;(try clear hHeld);go_simp;try with_reducible rfl);refine qz 10 hHeld ?_;refine qz 11 hHeld ?_;refine jr 1 fun K hK=>?_;(try clear hb);go_simp;go_wp2_with fail;refine hK.out _ _ hHeld fun hHeld=>?_;clear hK K;(try simp only[jz]);refine qz 2 hHeld ?_;refine qz 3 hHeld ?_ (hy:=by intro w' hSw;have f1:=jA f1 hSw;have y0:=jA y0 hSw;(try clear hHeld);go_simp;try with_reducible rfl);refine jr 12 fun K hK=>?_;(try clear hb);go_simp;(refine(GB.out _ hHeld).mono ?_;rintro e w1 ⟨rfl,hb⟩);go_wp2_with fail;refine hK.out _ _ ?_ (fun hHeld=>?_);(·exact hHeld.trans (hb.mono hHeld.size));clear hK K;(try simp only[jz]);refine wpAnyH_done (by kernel_rfl) ?_ _;go_wp2_with fail;go_meet;exact⟨rfl,jh hHeld⟩
   case rest=>
    obtain⟨rfl,HH⟩:=hcut;obtain⟨wd,hwd⟩:∃wd:World,wd=wc:=⟨_,rfl⟩
    rw[←hwd] at HH ⊢;have BV2:=jh (jC BV1.out HH.out);have OW2:=jh (jQ OW1.out HH.out);have Q2:=jh ((HH.out.block _ (jE Q1.out)).trans Q1.out);have PBL:Hid (W.heap.size≤wd.heap.size):=jh BV2.out.size;clear hwd HH BV1 OW1 Q1 f1 y0 GB RX;rcases z with _|_
    ·have ST2:Hid (goL S.own S.bl rc t (xs.take (k+1))=ys):=jh (by rw[ST.out];simp);go_wp2_with fail;exact⟨⟨k+1,s1,c1,by omega,by go_num,by rw[ST2.out],jh (by rw[ST2.out];exact OW2.out),BV2⟩,by simp[intOf];omega⟩
    ·have ST2:Hid (goL S.own S.bl rc t (xs.take (k+1))=ys++[x]):=jh (by rw[ST.out];simp);have L1:Hid (ys.length+1≤maxLen):=jh (by have:=LL.out;unfold maxLen;omega);have L2:Hid ((ys.length+1)*160≤140737488355328):=jh (by have:=LL.out;omega);obtain⟨i0,hii,hz0,hz1,hz2⟩:=info_parts info_cand;go_wp2_with ((with_reducible refine jM (X:=.load 99 (.tmp 10)) ?_ ?_);(·rfl));unfold Halt;refine ld_at (by rfl) 99 (.tmp 10) rfl pb rfl 99 (cvA x) (0,0) _ Q2.out Tryz.underlying99 rfl sz_cand ?_;go_wp2_with ((with_reducible refine jM (X:=.buildSlice 96 1 #[(0,.tmp 42)]) ?_ ?_);(·rfl));unfold Halt;refine wpList_cv1 (.tmp 42) rfl rfl x rfl ?_;intro wx hcs2 hb2;have BX:=jh (jC BV2.out hb2);have OX:=jQ OW2.out hb2;have SX:Hid (W.heap.size≤wx.heap.size):=jh BX.out.size;go_wp2_with (at_builtin;refine wpList_append_own _ rfl _ _ 96 rfl W.heap.size 99 i0 _ 14 160 Tryz.underlying96 hii hz0 hz1 hz2 rfl (by decide) (.slice s1 ys.length c1) ys.length (ys.flatMap cvL) rfl OX ⟨wd.heap.size,0,none⟩ 1 1 (cvL x) rfl (cvL_len _) hcs2 (cvL_one _) L1.out L2.out SX.out ?_);intro v' w' hown hgrow _;obtain⟨s6,c6,hv6,-⟩:=jV hown;subst hv6;have EL:Hid (ys.length+1=(ys++[x]).length):=jh (by rw[List.length_append];rfl);have ON:Hid (w'.ownsRow W.heap.size 99 14 (.slice s6 (ys++[x]).length c6) (ys++[x]).length ((ys++[x]).flatMap cvL)):=jh (by rw[←EL.out,List.flatMap_append];simpa using hown);have BN:Hid (Below W.heap.size W w'):=jh (BX.out.grown hgrow SX.out (jJ OX));clear hown hgrow hcs2 hb2 OX;rw[EL.out];go_wp2_with fail;exact⟨⟨k+1,s6,c6,by omega,by go_num,by rw[ST2.out],jh (by rw[ST2.out];exact ON.out),BN⟩,by simp[intOf];omega⟩
  ·obtain rfl:k=xs.length:=by omega
   rw[List.take_length] at OW ⊢;have OO:=jh OW.out;have BW:=jh BV.out;clear OW BV hk hkl;go_wp2_with fail;go_ret;exact⟨s1,c1,rfl,(own_fresh OO.out).imp fun W h=>own_slat cvL_len h,BW.out⟩
open Go.RowKit
section
variable {W W1 W2:World} {rho:Nat→Role} {sb fb:Nat} {ls:List Pl} {S:Sv} {i:Nat} {m:Pm} {l:Pl}
theorem markS_no (S:Sv) (i:Nat) (p:Pf) (c:Bool) (h:∀m,S.ms[i]? =some m→(m.there&&c)=false):markS S i p c=S:=by
 have e:(markS S i p c).ms=S.ms:=by
  apply List.ext_getElem?;intro j;rw[markS_get];cases hj:S.ms[j]? with
  |none=>rfl
  |some m=>
   rw[Option.map_some];by_cases e:j=i
   ·subst e;rw[if_pos rfl,h m hj];unfold Pm.mark;simp
   ·rw[if_neg e]
 unfold markS at e ⊢;simp only at e;rw[e]
theorem setBest_same (S:Sv) (i:Nat) (p:Pf) (b:Option (Int×At)) (h:S.best i p=b):setBestS S i p b=S:=by
 have e:updB S.best i p b=S.best:=by
  funext j q;unfold updB;split
  ·rename_i hh;rw[hh.1,hh.2,h]
  ·rfl
 unfold setBestS;rw[e]
theorem updB_row (f:Nat→Pf→Option (Int×At)) (i:Nat) (p:Pf) (b:Option (Int×At)) (q:Pf):updB f i p b i q=if q=p then b else f i q:=by
 unfold updB;by_cases h:q=p
 ·rw[if_pos ⟨rfl,h⟩,if_pos h]
 ·rw[if_neg (fun e=>h e.2),if_neg h]
theorem updB_oth (f:Nat→Pf→Option (Int×At)) (i:Nat) (p:Pf) (b:Option (Int×At)) {j:Nat} (h:j≠i):updB f i p b j=f j:=by
 funext q;unfold updB;rw[if_neg (fun e=>h e.1)]
theorem SrvM.putB (h:SrvM W rho sb fb ls S) (hm:S.ms[i]? =some m) (hl:ls[i]? =some l) {L:List (Pf×BV)} (hL:BestAt W rho l.bb (S.best i) L) {p:Pf} (hp:RgtP p) {b:BV} (hb:b.net=p) (hg:GoodA b.a) {lo hi:Nat}
  (b01:Below W.heap.size W W1) (fr:On (fun k=>lo≤k∧k<hi) W1 (fun w=>AvU w b.a b.v)) (hlo:W.heap.size≤lo) (hhi:hi≤W1.heap.size) (hk:Kept (fun k=>k=l.bb) W1 W2) (hM:BestT W2 l.bb (putL L p b)):
  SrvM W2 (extP rho W (fun k=>lo≤k∧k<hi) .att) sb fb ls (setBestS S i p (some (b.peer,b.a)))∧Step rho (extP rho W (fun k=>lo≤k∧k<hi) .att) W W2:=by
 have hM0:=h.bod.mem i m l hm hl;have s1:=b01.size;have s2:=hk.size;have bl:=hL.map.lt;have hr:=extP_old (rho:=rho) (W:=W) (F:=fun k=>lo≤k∧k<hi) (r:=.att) h.dom;have hd:=extP_dom (rho:=rho) (W:=W) (W':=W2) (F:=fun k=>lo≤k∧k<hi) (r:=.att) (by omega) fun k _ hk=>by omega
 have hk0:Kept (fun k=>k=l.bb) W W2:=(Kept.of_below b01).trans hk;refine⟨h.one (m':=m) hl hr hd hk0 (fun k _ e=>by subst e;exact .inr (.inl hM0.rbb)) rfl rfl rfl rfl hm (fun _ _=>rfl) (fun j hj=>updB_oth _ _ _ _ hj) ?_,⟨fun k hk=>extP_low hk,hk0.imp fun k e=>by subst e;rw[hM0.rbb];intro e;cases e⟩⟩;have ne:∀k,rho k=.mem i∨rho k=.news i∨rho k=.rib i∨rho k=.att→¬k=l.bb:=fun k hr e=>by
  subst e;rw[hM0.rbb] at hr;simp at hr
 refine⟨(hk0.block _ (jE hM0.row) (ne _ (.inl hM0.rmb))).trans hM0.row,(hr _ (by rw[hM0.rmb];intro e;cases e)).trans hM0.rmb,
  (hM0.rib.kept hk0 fun k _ hF=>ne k (.inr (.inr (.inl hF)))).wide fun k hF=>(hr k (by rw[hF];intro e;cases e)).trans hF,
  (hr _ (by rw[hM0.rbb];intro e;cases e)).trans hM0.rbb,(hr _ (by rw[hM0.rnb];intro e;cases e)).trans hM0.rnb,⟨_,hM,fun q=>?_,fun x hx=>?_⟩,?_,hM0.good,hM0.ids,hM0.ass⟩
 ·show _=updB S.best i p (some (b.peer,b.a)) i q;rw[updB_row,getL_put];split
  ·rfl
  ·exact hL.get q
 ·rcases mem_put hx with⟨hx,-⟩|rfl
  ·obtain⟨v1,v2,v3,v4⟩:=hL.val x hx;exact⟨v1,v2,v3,(v4.kept hk0 fun k _ hF=>ne k (.inr (.inr (.inr hF)))).wide fun k hF _=>(hr k (by rw[hF];intro e;cases e)).trans hF⟩
  ·refine⟨hb,hp,hg,?_⟩;exact(fr.kept hk fun k _ hF e=>by omega).wide fun k hF _=>extP_new (by omega) hF
 ·obtain⟨N,hN⟩:=hM0.news;exact⟨N,hN.kept hk0 (ne _ (.inr (.inl hM0.rnb)))⟩
theorem SrvM.delB (h:SrvM W rho sb fb ls S) (hm:S.ms[i]? =some m) (hl:ls[i]? =some l) {L:List (Pf×BV)} (hL:BestAt W rho l.bb (S.best i) L) {p:Pf}
  (hk0:Kept (fun k=>k=l.bb) W W2) (hM:BestT W2 l.bb (delL L p)):SrvM W2 rho sb fb ls (setBestS S i p none)∧Step rho rho W W2:=by
 have hM0:=h.bod.mem i m l hm hl;have s2:=hk0.size;have bl:=hL.map.lt;refine⟨h.one (m':=m) hl (fun _ _=>rfl) (fun k hk=>Nat.lt_of_lt_of_le (h.dom k hk) s2) hk0 (fun k _ e=>by subst e;exact .inr (.inl hM0.rbb)) rfl rfl rfl rfl hm (fun _ _=>rfl) (fun j hj=>updB_oth _ _ _ _ hj) ?_,⟨fun _ _=>rfl,hk0.imp fun k e=>by subst e;rw[hM0.rbb];intro e;cases e⟩⟩;have ne:∀k,rho k=.mem i∨rho k=.news i∨rho k=.rib i∨rho k=.att→¬k=l.bb:=fun k hr e=>by
  subst e;rw[hM0.rbb] at hr;simp at hr
 refine⟨(hk0.block _ (jE hM0.row) (ne _ (.inl hM0.rmb))).trans hM0.row,hM0.rmb,hM0.rib.kept hk0 fun k _ hF=>ne k (.inr (.inr (.inl hF))),hM0.rbb,hM0.rnb,⟨_,hM,fun q=>?_,fun x hx=>?_⟩,?_,hM0.good,hM0.ids,hM0.ass⟩
 ·show _=updB S.best i p none i q;rw[updB_row,getL_del];split
  ·rfl
  ·exact hL.get q
 ·obtain⟨v1,v2,v3,v4⟩:=hL.val x (mem_del.1 hx).1;exact⟨v1,v2,v3,v4.kept hk0 fun k _ hF=>ne k (.inr (.inr (.inr hF)))⟩
 ·obtain⟨N,hN⟩:=hM0.news;exact⟨N,hN.kept hk0 (ne _ (.inr (.inl hM0.rnb)))⟩
theorem SrvM.putN (h:SrvM W rho sb fb ls S) (hm:S.ms[i]? =some m) (hl:ls[i]? =some l) {N:List (Pf×Unit)} (hN:NewsAt W l.nb m.news N) {p:Pf} (hp:RgtP p) {c:Bool} (hc:(m.there&&c)=true)
  (hk0:Kept (fun k=>k=l.nb) W W2) (hM:NewsT W2 l.nb (putL N p ())):SrvM W2 rho sb fb ls (markS S i p c)∧Step rho rho W W2:=by
 have hM0:=h.bod.mem i m l hm hl;have s2:=hk0.size;refine⟨h.one (m':=m.mark p (m.there&&c)) hl (fun _ _=>rfl) (fun k hk=>Nat.lt_of_lt_of_le (h.dom k hk) s2) hk0 (fun k _ e=>by subst e;exact .inr (.inr (.inl hM0.rnb))) rfl rfl rfl (markS_len ..) (by rw[markS_get,hm];simp) (fun j hj=>by rw[markS_get];simp[hj]) (fun _ _=>rfl) ?_,⟨fun _ _=>rfl,hk0.imp fun k e=>by subst e;rw[hM0.rnb];intro e;cases e⟩⟩;have ne:∀k,rho k=.mem i∨rho k=.best i∨rho k=.rib i∨rho k=.att→¬k=l.nb:=fun k hr e=>by
  subst e;rw[hM0.rnb] at hr;simp at hr
 refine⟨(hk0.block _ (jE hM0.row) (ne _ (.inl hM0.rmb))).trans hM0.row,hM0.rmb,hM0.rib.kept hk0 fun k _ hF=>ne k (.inr (.inr (.inl hF))),hM0.rbb,hM0.rnb,?_,⟨_,hM,fun q=>?_,fun x hx=>?_⟩,hM0.good,hM0.ids,hM0.ass⟩
 ·obtain⟨L,hL⟩:=hM0.bests;exact⟨L,hL.kept (fun _ _=>rfl) hk0 (ne _ (.inr (.inl hM0.rbb))) fun k _ hF=>ne k (.inr (.inr (.inr hF)))⟩
 ·rw[mark_news,hc,getL_put,←hN.get q];by_cases e:q=p
  ·simp[e]
  ·simp[e]
 ·rcases mem_put hx with⟨hx,-⟩|rfl
  ·exact hN.rgt x hx
  ·exact hp
end
open Go.RowKit
theorem region_tailR {P:Program} {id:Nat} {Q:Exit→Act→World→Prop} {a:Act} {w:World} {l:List Oper} (n:Nat) (hm:P.follows .mixedOrders=true) (hB:Region.lexTailB .any l.toArray n=true)
  (h:wpStill P l.toArray w.drew (fun a'=>wpList P l.toArray Q (l.drop n) a' w.drew) (l.take n) a):(Code.region id l.toArray true).wp P Q a w:=wp_region_still_tail n hm hB h
end Go.Proofs.YtkoidahgbbabiaaGreat
