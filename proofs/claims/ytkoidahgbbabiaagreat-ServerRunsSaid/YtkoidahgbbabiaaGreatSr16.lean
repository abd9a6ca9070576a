/- Texts of one proof, one behind another. -/
import Derived.Test.YtkoidahgbbabiaaGreatSr15
import Derived.Test.YtkoidahgbbabiaaGreatSr10
import Derived.Test.YtkoidahgbbabiaaGreatSr1
set_option maxRecDepth 100000
set_option maxHeartbeats 100000000
namespace Go.Proofs.YtkoidahgbbabiaaGreat
open Go.RowKit
abbrev Sd:=Int×Nat
def sdL (x:Sd):List Value:=[.int .i64 x.1,.int .u32 x.2]
def SdC (x:Sd) (cs:List Value):Prop:=cs=sdL x∧x.2<4294967296∧I64r x.1
abbrev SdsAt (W:World) (v:Value) (xs:List Sd):Prop:=SlAt W 2 SdC v xs
def sysB (n:Int):Bool:=decide (1≤n∧n≤65535)
def sdB (x:Sd):Bool:=sysB x.1&&!(x.2==0)
def newCd (own:Int) (xs:List Sd):Int:=if sysB own=false∨xs.length=0 then 1 else if 16<xs.length then 3 else if xs.all sdB then 0 else 1
def pmOf (x:Sd):Pm:=⟨x.1,x.2,false,[],fun _=>false⟩
def newSv (own most:Int) (xs:List Sd):Sv:=⟨own,min (max most 0) 256,fun _=>false,xs.map pmOf,fun _ _=>none⟩
theorem sv_system (n:Int) (w:World):Calls Tryz.prog 56 #[.int .i64 n] w fun e w'=>e=.returned (.bool (sysB n))∧w=w':=by
 by_cases h1:1≤n
 ·by_cases h2:n≤65535
  ·have e:sysB n=true:=by unfold sysB;simp[h1,h2]
   have d1:decide (n≥1)=true:=by simpa using h1
   have d2:decide (n≤65535)=true:=by simpa using h2
   rw[e];clear e h1 h2;go_enter Tryz.func56,Tryz.ntmps56;go_wp2_with fail;go_ret;exact⟨rfl,rfl⟩
  ·have e:sysB n=false:=by unfold sysB;simp[h2]
   have d1:decide (n≥1)=true:=by simpa using h1
   have d2:decide (n≤65535)=false:=by simpa using h2
   rw[e];clear e h1 h2;go_enter Tryz.func56,Tryz.ntmps56;go_wp2_with fail;go_ret;exact⟨rfl,rfl⟩
 ·have e:sysB n=false:=by unfold sysB;simp[h1]
  have d1:decide (n≥1)=false:=by simpa using h1
  rw[e];clear e h1;go_enter Tryz.func56,Tryz.ntmps56;go_wp2_with fail;go_ret;exact⟨rfl,rfl⟩
def plC (l:Pl):List Value:=[.pointer (some ⟨l.mb,0,none⟩)]
structure NewAt (w0 W:World) (sb fb:Nat) (own most:Int) (xs:List Sd) (k:Nat) (s:Option Addr) (c:Nat) (ls:List Pl) (rho:Nat→Role):Prop where
 top:W.heap[sb]? =some (.cells #[.slice s k c,.pointer (some ⟨fb,0,none⟩)] 125 (0,0))
 row:W.ownsRow w0.heap.size 126 1 (.slice s k c) k (ls.flatMap plC)
 fil:FilAt W fb own (fun _=>false)
 mem:∀(i:Nat) l x,ls[i]? =some l→xs[i]? =some x→PmAt W rho own most i (pmOf x) (fun _=>none) l
 len:ls.length=k
 low:∀j,rho j≠.no→w0.heap.size≤j∧j<W.heap.size
 nfb:rho fb=.no
 nsb:rho sb=.no
 fs:fb≠sb
 srow:∀g,(Value.slice s k c).ownBlock=some g→rho g=.no∧g≠sb∧g≠fb
 gsb:w0.heap.size≤sb
 gfb:w0.heap.size≤fb
 bel:Below w0.heap.size w0 W
noncomputable def newRho (rho:Nat→Role) (W:World) (i lo hi bb nb mb:Nat) (k:Nat):Role:=by
 classical exact if k<W.heap.size then rho k else if lo≤k∧k<hi then .rib i else if k=bb then .best i else if k=nb then .news i else if k=mb then .mem i else .no
theorem NewAt.below {w0 W W':World} {sb fb:Nat} {own most:Int} {xs:List Sd} {k:Nat} {s:Option Addr} {c:Nat} {ls:List Pl} {rho:Nat→Role} (h:NewAt w0 W sb fb own most xs k s c ls rho) (hb:Below W.heap.size W W'):NewAt w0 W' sb fb own most xs k s c ls rho:=
 ⟨(hb.block _ (jE h.top)).trans h.top,jQ h.row hb,h.fil.below hb,fun i l x hl hx=>(h.mem i l x hl hx).kept (fun _ _=>rfl) (Kept.of_below (F:=fun _=>False) hb) fun _ _ _ h=>h,h.len,fun j hj=>⟨(h.low j hj).1,Nat.lt_of_lt_of_le (h.low j hj).2 hb.size⟩,h.nfb,h.nsb,h.fs,h.srow,h.gsb,h.gfb,jC h.bel hb⟩
section
variable {w0 W W4 W5 W6:World} {sb fb:Nat} {own most:Int} {xs:List Sd} {k:Nat} {s:Option Addr} {c:Nat} {ls:List Pl} {rho:Nat→Role}
theorem NewAt.step (h:NewAt w0 W sb fb own most xs k s c ls rho) {x:Sd} (hx:xs[k]? =some x) (hx1:1≤x.1∧x.1≤65535) (hx2:0<x.2∧x.2<4294967296) {rb lo hi bb nb mb:Nat}
  (hrib:RibAt W4 rb k own most [] (fun j=>lo≤j∧j<hi)) (hb:BestT W4 bb []) (hn:NewsT W4 nb []) (hm:W4.heap[mb]? =some (.cells (mbC (pmOf x) ⟨mb,rb,bb,nb⟩) 130 (0,0)))
  (b04:Below W.heap.size W W4) (hlo:W.heap.size≤lo) (hhi:hi≤W4.heap.size) (gbb:W.heap.size≤bb) (gnb:W.heap.size≤nb) (gmb:W.heap.size≤mb)
  (n1:¬(lo≤bb∧bb<hi)) (n2:¬(lo≤nb∧nb<hi)) (n3:¬(lo≤mb∧mb<hi)) (n4:nb≠bb) (n5:mb≠bb) (n6:mb≠nb)
  (b45:Below W4.heap.size W4 W5) {v':Value} (hown:W6.ownsRow w0.heap.size 126 1 v' (k+1) (ls.flatMap plC++[.pointer (some ⟨mb,0,none⟩)]))
  (hg:Kept (fun b=>(Value.slice s k c).ownBlock=some b) W5 W6) (hat:v'.ownBlock=(Value.slice s k c).ownBlock∨v'.ownBlock=some W5.heap.size):
  ∃(s':Option Addr) (c':Nat) (rho':Nat→Role),v'=.slice s' (k+1) c'∧NewAt w0 (W6.setCell ⟨sb,0,none⟩ v') sb fb own most xs (k+1) s' c' (ls++[⟨mb,rb,bb,nb⟩]) rho':=by
 obtain⟨s',c',rfl,-⟩:=jV hown;have hn7:=hn.lt;have hb7:=hb.lt;have hm7:=jE hm;have s4:=b04.size;have s5:=b45.size;have s6:=hg.size;have fbl:=h.fil.lt;have sbl:=jE h.top;have ol:=own_lt h.row;have K:Kept (fun b=>b=sb∨(Value.slice s k c).ownBlock=some b) W4 (W6.setCell ⟨sb,0,none⟩ (.slice s' (k+1) c')):=
  ((Kept.of_below b45).trans (hg.imp fun b hb=>.inr hb)).trans (Kept.setCell _ _ (.inl rfl))
 have K0:Kept (fun b=>b=sb∨(Value.slice s k c).ownBlock=some b) W (W6.setCell ⟨sb,0,none⟩ (.slice s' (k+1) c')):=(Kept.of_below b04).trans K;have hr:∀j,rho j≠.no→newRho rho W k lo hi bb nb mb j=rho j:=fun j hj=>by
  unfold newRho;rw[if_pos (h.low j hj).2]
 have r1:∀j,lo≤j→j<hi→newRho rho W k lo hi bb nb mb j=.rib k:=fun j h1 h2=>by
  unfold newRho;rw[if_neg (by omega),if_pos ⟨h1,h2⟩]
 have r2:newRho rho W k lo hi bb nb mb bb=.best k:=by unfold newRho;rw[if_neg (by omega),if_neg n1,if_pos rfl]
 have r3:newRho rho W k lo hi bb nb mb nb=.news k:=by unfold newRho;rw[if_neg (by omega),if_neg n2,if_neg n4,if_pos rfl]
 have r4:newRho rho W k lo hi bb nb mb mb=.mem k:=by unfold newRho;rw[if_neg (by omega),if_neg n3,if_neg n5,if_neg n6,if_pos rfl]
 have hrow6:W6.heap[sb]? =some (.cells #[.slice s k c,.pointer (some ⟨fb,0,none⟩)] 125 (0,0)):=by
  rw[hg.block _ (by omega) (fun e=>(h.srow _ e).2.1 rfl),b45.block _ (by omega),b04.block _ sbl];exact h.top
 have notg:∀j,W.heap.size≤j→¬(j=sb∨(Value.slice s k c).ownBlock=some j):=fun j hj e=>by
  rcases e with e|e
  ·omega
  ·have:=ol j e;omega
 have hnew:∀g,(Value.slice s' (k+1) c').ownBlock=some g→(Value.slice s k c).ownBlock=some g∨g=W5.heap.size:=fun g hgg=>by
  rcases hat with e|e
  ·rw[e] at hgg;exact .inl hgg
  ·rw[e] at hgg;injection hgg with hgg;exact .inr hgg.symm
 refine⟨s',c',newRho rho W k lo hi bb nb mb,rfl,?_,?_,?_,?_,?_,?_,?_,?_,h.fs,?_,h.gsb,h.gfb,?_⟩
 ·rw[jO hrow6];simp
 ·have:=((own_on hown).kept (Kept.setCell (F:=fun b=>b=sb) ⟨sb,0,none⟩ (.slice s' (k+1) c') rfl) fun g _ hg' e=>by
   have e:g=sb:=e;subst e;rcases hnew g hg' with h1|h1
   ·exact(h.srow _ h1).2.1 rfl
   ·omega).self
  rw[List.flatMap_append];exact this
 ·exact h.fil.kept K0 (fun e=>by
   rcases e with e|e
   ·exact h.fs e
   ·exact(h.srow _ e).2.2 rfl)
 ·intro i l y hl hy;by_cases hi':i<ls.length
  ·rw[List.getElem?_append_left hi'] at hl;exact(h.mem i l y hl hy).kept hr K0 fun j hj ho e=>by
    have no:rho j≠.no:=by rcases ho with q|q|q|q|q<;>rw[q]<;>intro e<;>cases e
    rcases e with e|e
    ·exact no (e▸h.nsb)
    ·exact no (h.srow _ e).1
  ·have:i=k:=by
    have:=(List.getElem?_eq_some_iff.1 hl).1;rw[List.length_append] at this;simp at this;have:=h.len;omega
   subst this;rw[hx] at hy;injection hy with hy;subst hy;rw[List.getElem?_append_right (by rw[h.len];omega),h.len] at hl;simp at hl;subst hl;refine⟨?_,r4,?_,r2,r3,⟨[],?_,fun p=>rfl,fun y hy=>by cases hy⟩,⟨[],?_,fun p=>rfl,fun y hy=>by cases hy⟩,fun p a hg=>by simp[pmOf,getL] at hg,hx2,hx1⟩
   ·exact(K.block _ hm7 (notg _ gmb)).trans hm
   ·exact(hrib.kept K fun j _ hF=>notg j (by omega)).wide fun j hF=>r1 j hF.1 hF.2
   ·exact hb.kept K (notg _ gbb)
   ·exact hn.kept K (notg _ gnb)
 ·rw[List.length_append,h.len];rfl
 ·intro j hj;by_cases h1:j<W.heap.size
  ·have:rho j≠.no:=by intro e;apply hj;unfold newRho;rw[if_pos h1];exact e
   have:=h.low j this;have:=K0.size;omega
  ·have h0:=h.bel.size;have e:j<W4.heap.size:=by
    by_cases e1:lo≤j∧j<hi
    ·omega
    ·by_cases e2:j=bb
     ·omega
     ·by_cases e3:j=nb
      ·omega
      ·by_cases e4:j=mb
       ·omega
       ·exact absurd (by unfold newRho;rw[if_neg h1,if_neg e1,if_neg e2,if_neg e3,if_neg e4]) hj
   have:=K.size;omega
 ·unfold newRho;rw[if_pos fbl];exact h.nfb
 ·unfold newRho;rw[if_pos sbl];exact h.nsb
 ·intro g hgg;rcases hnew g hgg with h1|h1
  ·have:=ol g h1;refine⟨?_,(h.srow g h1).2⟩;unfold newRho;rw[if_pos (by omega)];exact(h.srow g h1).1
  ·refine⟨?_,by omega,by omega⟩;unfold newRho;rw[if_neg (by omega),if_neg (by omega),if_neg (by omega),if_neg (by omega),if_neg (by omega)]
 ·exact h.bel.trans (K0.below h.bel.size (by
   rintro j (rfl|e)
   ·exact h.gsb
   ·exact jJ h.row j e))
theorem NewAt.done (h:NewAt w0 W sb fb own most xs xs.length s c ls rho) (ho:1≤own∧own≤65535) (hf:xs.length≤16) {most0:Int} (hm:most=min (max most0 0) 256):
  ∃rho',SrvM W rho' sb fb ls (newSv own most0 xs)∧(∀k,rho' k≠.no→w0.heap.size≤k):=by
 classical
 have sbl:=jE h.top;have ol:=own_lt h.row;obtain⟨R,hR⟩:∃R:Nat→Role,R=fun k=>if k=sb∨(Value.slice s xs.length c).ownBlock=some k then .top else if k=fb then .fil else rho k:=⟨_,rfl⟩
 have e0:∀k,rho k≠.no→R k=rho k:=fun k hk=>by
  rw[hR];have:¬(k=sb∨(Value.slice s xs.length c).ownBlock=some k):=by
   rintro (rfl|e)
   ·exact hk h.nsb
   ·exact hk (h.srow k e).1
  simp only[this,if_false];exact if_neg (fun e:k=fb=>hk (by rw[e];exact h.nfb))
 have e1:R sb=.top:=by rw[hR];simp
 have e2:R fb=.fil:=by
  rw[hR];have:¬(fb=sb∨(Value.slice s xs.length c).ownBlock=some fb):=by
   rintro (e|e)
   ·exact h.fs e
   ·exact(h.srow fb e).2.2 rfl
  simp[this]
 have e3:∀g,(Value.slice s xs.length c).ownBlock=some g→R g=.top:=fun g hg=>by rw[hR];simp[hg]
 have dom:∀k,R k≠.no→w0.heap.size≤k∧k<W.heap.size:=fun k hk=>by
  rw[hR] at hk;by_cases h1:k=sb∨(Value.slice s xs.length c).ownBlock=some k
  ·rcases h1 with rfl|h1
   ·exact⟨h.gsb,sbl⟩
   ·exact⟨jJ h.row k h1,ol k h1⟩
  ·simp only[h1,if_false] at hk;by_cases h2:k=fb
   ·subst h2;exact⟨h.gfb,h.fil.lt⟩
   ·rw[if_neg h2] at hk;exact h.low k hk
 refine⟨R,⟨?_,⟨h.fil,e2,by rw[h.len];simp[newSv],by simpa [newSv] using hf,?_,fun k hk=>(dom k hk).2,ho⟩,e1⟩,fun k hk=>(dom k hk).1⟩
 ·intro V hV;refine⟨s,c,?_,?_⟩
  ·rw[hV sb e1 sbl,h.len];exact h.top
  ·have ho:=(own_on h.row) V fun g hg hl=>hV g (e3 g hg) hl;rw[←h.len] at ho;exact own_slat (fun _=>rfl) ho
 ·intro i m l hm' hl;simp only[newSv,List.getElem?_map] at hm';cases hx:xs[i]? with
  |none=>rw[hx] at hm';simp at hm'
  |some x=>
   rw[hx] at hm';simp at hm';subst hm';have:=(h.mem i l x hl hx).kept (G:=fun _=>False) e0 (Kept.refl _ W) fun _ _ _ h=>h;rw[hm] at this;exact this
end
open Go.RowKit
section
variable {P:Program} {ops:Array Oper} {Q:Exit→Act→World→Prop} {md:Region.Mode} {S:World→Prop}
theorem rg_call4 {i j k l:Nat} {oi oj ok ol:Oper} {fuel:Nat} {listed:Array Bool} {a:Act} {w:World} (hi:ops[i]? =some oi) (hj:ops[j]? =some oj) (hk:ops[k]? =some ok) (hl:ops[l]? =some ol)
  (hr:Region.ready md ops listed=[i,j,k,l]) (hw:Region.wanted oi (yielded ops a.tmps)=true) (hv:Region.wanted oj (yielded ops a.tmps)=true) (hu:Region.wanted ok (yielded ops a.tmps)=true) (ht:Region.wanted ol (yielded ops a.tmps)=true)
  (h:∀K':Act→World→Prop,Shut (∀a w,S w→(S w→wpAnyH P md ops Q S fuel (listed.setIfInBounds i true) a w)→K' a w)→Oper.wp P oi a w K' Q)
  (h2:∀K':Act→World→Prop,Shut (∀a w,S w→(S w→wpAnyH P md ops Q S fuel (listed.setIfInBounds j true) a w)→K' a w)→Oper.wp P oj a w K' Q)
  (h3:∀K':Act→World→Prop,Shut (∀a w,S w→(S w→wpAnyH P md ops Q S fuel (listed.setIfInBounds k true) a w)→K' a w)→Oper.wp P ok a w K' Q)
  (h4:∀K':Act→World→Prop,Shut (∀a w,S w→(S w→wpAnyH P md ops Q S fuel (listed.setIfInBounds l true) a w)→K' a w)→Oper.wp P ol a w K' Q):wpAnyH P md ops Q S (fuel+1) listed a w:=
 wpAnyH_ready (rs:=[i,j,k,l]) hr (by simp) (AllReadyH.cons hi (fun K hK=>by rw[if_pos hw];exact h K hK) (AllReadyH.cons hj (fun K hK=>by rw[if_pos hv];exact h2 K hK) (AllReadyH.cons hk (fun K hK=>by rw[if_pos hu];exact h3 K hK) (AllReadyH.cons hl (fun K hK=>by rw[if_pos ht];exact h4 K hK) AllReadyH.nil))))
end
open Go.RowKit
theorem sd_pair {w:World} {s:Option Addr} {n c:Nat} {xs:List Sd} (h:SdsAt w (.slice s n c) xs) {i:Nat} {x:Sd} (hx:xs[i]? =some x):∃g o,s=some ⟨g,o,none⟩∧(x.2<4294967296∧I64r x.1)∧w.cell? ⟨g,o+i*2,none⟩=some (.int .i64 x.1)∧w.cell? ⟨g,o+i*2+1,none⟩=some (.int .u32 x.2):=by
 obtain⟨s',c',e,h1,h2,h3⟩:=h;injection e with e _ _;subst e;have hi:=(List.getElem?_eq_some_iff.1 hx).1;obtain⟨b,off,rfl,h4⟩:=h3 (by omega);obtain⟨cs,l,⟨rfl,hR⟩,hc⟩:=h4 i x hx;exact⟨b,off,rfl,hR,hc 0 _ rfl,hc 1 _ rfl⟩
theorem SdsAt.below {W W':World} {v:Value} {xs:List Sd} (h:SdsAt W v xs) (hb:Below W.heap.size W W'):SdsAt W' v xs:=SlAt.below h hb fun _ _ h=>h
theorem mb_built (a:Int) (id rb bb nb:Nat):Tryz.prog.built 130 [(0,.agg #[.int .i64 a,.int .u32 id]),(2,.pointer (some ⟨rb,0,none⟩)),(3,.map (some bb)),(4,.map (some nb))]=some #[.int .i64 a,.int .u32 id,.bool false,.pointer (some ⟨rb,0,none⟩),.map (some bb),.map (some nb)]:=by kernel_rfl
theorem jR {P:Program} {oi:Oper} {ev:Operand→Value} {w:World} (t:TypeId) (i0 i1 i2 i3:Nat) (x0 x1 x2 x3:Operand) (ho:oi.op=.build t #[(i0,x0),(i1,x1),(i2,x2),(i3,x3)]) (v0 v1 v2 v3:Value) (h0:ev x0=v0) (h1:ev x1=v1) (h2:ev x2=v2) (h3:ev x3=v3) (cells:Array Value) (hc:P.built t [(i0,v0),(i1,v1),(i2,v2),(i3,v3)]=some cells):(execOp ev oi).run P w=.ok (.value (.agg cells)) w:=by
 have hr:=run_build (P:=P) w t ((#[(i0,x0),(i1,x1),(i2,x2),(i3,x3)]:Array (Nat×Operand)).map fun (i,x)=>(i,ev x)) cells (by simp[h0,h1,h2,h3,hc]);unfold execOp;simp only[ho,Sem.run_bind,hr,Sem.run_pure,Result.andThen_ok]
section
variable {W:World} {p:World→Prop}
theorem map_kB (h:∀w1:World,BestT w1 W.heap.size []→Below W.heap.size W w1→w1.heap.size=W.heap.size+1→p w1):p (W.alloc (.map #[] 0)):=h _ (MapT.made W) ((Below.refl _ _).alloc (Nat.le_refl _) _) (by simp)
theorem map_kN (h:∀w1:World,NewsT w1 W.heap.size []→Below W.heap.size W w1→w1.heap.size=W.heap.size+1→p w1):p (W.alloc (.map #[] 0)):=h _ (MapT.made W) ((Below.refl _ _).alloc (Nat.le_refl _) _) (by simp)
theorem row_k {C:Array Value} {T:TypeId} (h:∀w1:World,w1.heap[W.heap.size]? =some (.cells C T (0,0))→Below W.heap.size W w1→w1.heap.size=W.heap.size+1→p w1):p (W.alloc (.cells C T)):=h _ (heap_alloc_new W _) ((Below.refl _ _).alloc (Nat.le_refl _) _) (by simp)
end
theorem cell_k {W:World} {p:World→Prop} {C:Array Value} {T:TypeId} (h:∀w1:World,(∀(j:Nat) (u:Value),C.toList[j]? =some u→w1.cell? ((⟨W.heap.size,0,none⟩:Addr).add j)=some u)→Below W.heap.size W w1→w1.heap.size=W.heap.size+1→p w1):p (W.alloc (.cells C T)):=h _ (new_cells W C T) ((Below.refl _ _).alloc (Nat.le_refl _) _) (by simp)
theorem info_mp:(Tryz.prog.info? 126).map (fun i=>(i.zero,i.size,i.bytes))=some (some (.pointer none),1,8):=by kernel_rfl
def NewPost (own most:Int) (xs:List Sd) (W:World) (e:Ending) (w':World):Prop:=
 (newCd own xs≠0∧e=.returned (.tuple #[.pointer none,.int .i64 (newCd own xs)])∧Below W.heap.size W w')∨
 (newCd own xs=0∧∃(rho:Nat→Role) (sb fb:Nat) (ls:List Pl),e=.returned (.tuple #[.pointer (some ⟨sb,0,none⟩),.int .i64 0])∧SrvM w' rho sb fb ls (newSv own most xs)∧(∀k,rho k≠.no→W.heap.size≤k)∧Below W.heap.size W w')
theorem newCd_arg {own:Int} {xs:List Sd} (h:sysB own=false∨xs.length=0):newCd own xs=1:=by unfold newCd;rw[if_pos h]
theorem newCd_many {own:Int} {xs:List Sd} (h:¬(sysB own=false∨xs.length=0)) (h2:16<xs.length):newCd own xs=3:=by unfold newCd;rw[if_neg h,if_pos h2]
theorem newCd_bad {own:Int} {xs:List Sd} (h:¬(sysB own=false∨xs.length=0)) (h2:¬16<xs.length) (h3:xs.all sdB=false):newCd own xs=1:=by unfold newCd;rw[if_neg h,if_neg h2,if_neg (by rw[h3];simp)]
theorem newCd_ok {own:Int} {xs:List Sd} (h:¬(sysB own=false∨xs.length=0)) (h2:¬16<xs.length) (h3:xs.all sdB=true):newCd own xs=0:=by unfold newCd;rw[if_neg h,if_neg h2,if_pos h3]
theorem all_bad {xs:List Sd} {k:Nat} {x:Sd} (hx:xs[k]? =some x) (h:sdB x=false):xs.all sdB=false:=by
 rw[List.all_eq_false];exact⟨x,List.mem_of_getElem? hx,by rw[h];simp⟩
theorem all_ok {xs:List Sd} (h:∀(i:Nat) (x:Sd),i<xs.length→xs[i]? =some x→sdB x=true):xs.all sdB=true:=by
 rw[List.all_eq_true];intro x hx;obtain⟨i,hi⟩:=List.getElem?_of_mem hx;exact h i x (List.getElem?_eq_some_iff.1 hi).1 hi
theorem sv_New (own most:Int) (v:Value) (xs:List Sd) (W:World) (hxs:SdsAt W v xs):Calls Tryz.prog 14 #[.int .i64 own,v,.int .i64 most] W (NewPost own most xs W):=by
 obtain⟨s0,cap0,rfl,hl1,hl2,-⟩:=id hxs;have pl:xs.length≤9223372036854775807:=Nat.le_trans hl1 hl2;have HX:=jh hxs;have SY:=jh (sv_system own);clear hxs hl1 hl2;go_enter Tryz.func14,Tryz.ntmps14;go_wp2_with fail;refine(SY.out _).mono ?_;rintro e w1 ⟨rfl,rfl⟩;rcases hso:sysB own with _|_
 ·have C1:=jh (newCd_arg (xs:=xs) (.inl hso));clear hso;go_wp2_with fail;refine bodyPost_ret (v:=.tuple #[.pointer none,.int .i64 1]) (by simp[results,Tryz.results14,go_sem]) rfl (.inl ⟨by rw[C1.out];decide,by rw[C1.out],Below.refl _ _⟩)
 ·by_cases h0:xs.length=0
  ·have C1:=jh (newCd_arg (own:=own) (xs:=xs) (.inr h0));have d0:((xs.length:Int)==0)=true:=by simp[h0]
   clear hso h0;go_wp2_with fail;refine bodyPost_ret (v:=.tuple #[.pointer none,.int .i64 1]) (by simp[results,Tryz.results14,go_sem]) rfl (.inl ⟨by rw[C1.out];decide,by rw[C1.out],Below.refl _ _⟩)
  ·have NC:Hid (¬(sysB own=false∨xs.length=0)):=jh (by rw[hso];simp[h0]);have OWN:Hid (1≤own∧own≤65535):=jh (by unfold sysB at hso;simpa using hso);have d0:((xs.length:Int)==0)=false:=by simpa using h0
   clear hso h0;by_cases h16:16<xs.length
   ·have C3:=jh (newCd_many NC.out h16);have d1:decide ((xs.length:Int)>16)=true:=by simp;omega
    go_wp2_with fail;refine bodyPost_ret (v:=.tuple #[.pointer none,.int .i64 3]) (by simp[results,Tryz.results14,go_sem]) rfl (.inl ⟨by rw[C3.out];decide,by rw[C3.out],Below.refl _ _⟩)
   ·have d1:decide ((xs.length:Int)>16)=false:=by simp;omega
    have NM:=jh h16;have XF:=jh (ex_New own W);have om:Hid (own%65536=own):=jh (by have:=OWN.out;omega);rw[om.out] at XF;clear h16;go_upto_region 5 with (fail)
    go_wp2_with fail;refine XF.out.mono ?_;rintro e w2 ⟨rfl,hf,hb2⟩;have N0:Hid (NewAt W (w2.alloc (.cells #[.slice none 0 0,.pointer (some ⟨W.heap.size,0,none⟩)] 125)) w2.heap.size W.heap.size own (min (max most 0) 256) xs 0 none 0 [] (fun _=>.no)):=jh (by
     have s2:=hb2.size;have fl:=hf.lt;have ha:Below w2.heap.size w2 (w2.alloc (.cells #[.slice none 0 0,.pointer (some ⟨W.heap.size,0,none⟩)] 125)):=(Below.refl _ _).alloc (Nat.le_refl _) _;exact⟨heap_alloc_new w2 _,⟨rfl,.inl ⟨rfl,rfl⟩⟩,hf.below ha,(fun i l x hl=>by simp at hl),rfl,fun j hj=>absurd rfl hj,rfl,rfl,by omega,(fun g hg=>by cases hg),s2,Nat.le_refl _,jC hb2 ha⟩)
    clear hf XF hb2 om d1 d0;obtain⟨sb,hsb⟩:∃sb,sb=w2.heap.size:=⟨_,rfl⟩
    obtain⟨fb,hfb⟩:∃fb,fb=W.heap.size:=⟨_,rfl⟩
    rw[←hsb,←hfb] at N0;go_wp2_with fail;rw[←hsb,←hfb];clear hsb hfb;go_loopw [28] (fun t28 wr=>∃(k:Nat) (s:Option Addr) (c:Nat) (ls:List Pl) (rho:Nat→Role),k≤xs.length∧t28=.int .i64 k∧Hid (NewAt W wr sb fb own (min (max most 0) 256) xs k s c ls rho)∧Hid (∀(i:Nat) x,i<k→xs[i]? =some x→sdB x=true)) (fun t28 _=>xs.length - (intOf t28).toNat)
    case atStart=>exact⟨0,none,0,[],_,by omega,rfl,N0,jh (fun i x hi=>absurd hi (by omega))⟩
    case round=>
     clear N0;obtain⟨k,s,c,ls,rho,hk,rfl,NA,OKS⟩:=hrel;by_cases hkl:k<xs.length
     ·obtain⟨x,hx⟩:∃x,xs[k]? =some x:=⟨_,List.getElem?_eq_getElem hkl⟩
      obtain⟨g2,o2,rfl,⟨hx2,hx1⟩,x0,x1⟩:=sd_pair (HX.out.below NA.out.bel) hx;have HXK:=jh hx;have HX2:=jh hx2;have k0:(0:Int)≤(k:Int):=by omega
      have k1:(k:Int)<(xs.length:Int):=by omega
      have SX:=jh (sv_system x.1);clear hx hx2 hx1;go_upto_region 9 with (fail)
      obtain⟨v1,hv1,c0,c1,hb1⟩:=box2 wr (.int .i64 x.1) (.int .u32 x.2) 75;rw[←hv1];obtain⟨pb,hpb⟩:∃pb,pb=wr.heap.size:=⟨_,rfl⟩
      rw[←hpb] at c0 c1 ⊢;have NA1:=jh (NA.out.below hb1);have NA0:=jh NA.out;have PBW:Hid (pb=wr.heap.size):=jh hpb;clear hv1 hb1 NA x0 x1 hpb;go_wp2_with fail;refine(SX.out _).mono ?_;rintro e w4 ⟨rfl,rfl⟩;rcases hs1:sysB x.1 with _|_
      ·have CB:=jh (newCd_bad NC.out NM.out (all_bad HXK.out (by unfold sdB;rw[hs1];rfl)));clear hs1;go_wp2_with fail;refine bodyPost_ret (v:=.tuple #[.pointer none,.int .i64 1]) (by simp[results,Tryz.results14,go_sem]) rfl (.inl ⟨by rw[CB.out];decide,by rw[CB.out],NA1.out.bel⟩)
      ·rcases hs2:(x.2==0) with _|_
       ·have d2:((x.2:Int)==0)=false:=by simp at hs2 ⊢;omega
        have X1:Hid (1≤x.1∧x.1≤65535):=jh (by unfold sysB at hs1;simpa using hs1);have X2:Hid (0<x.2∧x.2<4294967296):=jh ⟨by simp at hs2;omega,HX2.out⟩;have OKS2:Hid (∀(i:Nat) y,i<k+1→xs[i]? =some y→sdB y=true):=jh (fun i y hi hy=>by
         by_cases e:i=k
         ·subst e;rw[HXK.out] at hy;injection hy with hy;subst hy;unfold sdB;rw[hs1,hs2];rfl
         ·exact OKS.out i y (by omega) hy)
        clear hs1 hs2 OKS;go_upto_region 11 with (fail)
        have t0:v1.cell? ⟨sb,0,none⟩=some (.slice s k c):=jB NA1.out.top 0;have NAD:=jh (NA1.out.below (Below.refl v1.heap.size v1).drew);have BD:=jh (Below.refl v1.drew.heap.size v1.drew);have NSB:Hid (¬(Value.slice s k c).ownBlock=some sb):=jh (fun e=>(NA1.out.srow _ e).2.1 rfl);have NPB:Hid (¬(pb=sb∨(Value.slice s k c).ownBlock=some pb)):=jh (fun e=>by
         have h1:=jE NA0.out.top;have h2:=own_lt NA0.out.row;rcases e with e|e
         ·have:=PBW.out;omega
         ·have:=h2 _ e;have:=PBW.out;omega)
        have BW:=jh NA1.out.bel.size;obtain⟨i0,hii,hz0,hz1,hz2⟩:=info_parts info_mp;have L1:Hid (k+1≤maxLen):=jh (by have:=NM.out;unfold maxLen;omega);have L2:Hid ((k+1)*8≤140737488355328):=jh (by have:=NM.out;omega);clear NA0 PBW;refine wp_region_held_drew (S:=fun w'=>Kept (fun q=>q=sb∨(Value.slice s k c).ownBlock=some q) v1 w') (by kernel_rfl) ?_ (fun hHeld=>?_)
        ·exact(Kept.refl _ _).drew
        generalize World.drew v1=wd at NAD BD hHeld ⊢;(refine qy 0 ?_ ?_ ?_ hHeld ?_;rotate_left 1;(·rfl);(·intro w' hSw;(try clear hHeld);go_simp;try with_reducible rfl));try simp only[jz]
        (refine qy 1 ?_ ?_ ?_ hHeld ?_;rotate_left 1;(·rfl);(·intro w' hSw;(try clear hHeld);go_simp;try with_reducible rfl));try simp only[jz]
        (refine qy 2 ?_ ?_ ?_ hHeld ?_;rotate_left 1;(·rfl);(·intro w' hSw;(try clear hHeld);go_simp;try with_reducible rfl));try simp only[jz]
        (refine qy 3 ?_ ?_ ?_ hHeld ?_;rotate_left 1;(·rfl);(·intro w' hSw;(try clear hHeld);go_simp;try with_reducible rfl));try simp only[jz]
        (refine qy 5 ?_ ?_ ?_ hHeld ?_;rotate_left 1;(·rfl);(·intro w' hSw;have c0:=hSw.cell c0 NPB.out;have c1:=hSw.cell c1 NPB.out;(try clear hHeld);go_simp;try with_reducible rfl));try simp only[jz]
        (refine qy 6 ?_ ?_ ?_ hHeld ?_;rotate_left 1;(·rfl);(·intro w' hSw;(try clear hHeld);go_simp;try with_reducible rfl));try simp only[jz]
        (refine qy 7 ?_ ?_ ?_ hHeld ?_;rotate_left 1;(·rfl);(·intro w' hSw;(try clear hHeld);go_simp;try with_reducible rfl));try simp only[jz]
        (refine qy 8 ?_ ?_ ?_ hHeld ?_;rotate_left 1;(·rfl);(·intro w' hSw;(try clear hHeld);go_simp;try with_reducible rfl));try simp only[jz]
        refine rg_call4 (i:=4) (j:=9) (k:=10) (l:=11) (atN rfl) (atN rfl) (atN rfl) (atN rfl) (by kernel_rfl) ?_ ?_ ?_ ?_ (fun K hK=>?_) (fun K hK=>?_) (fun K hK=>?_) (fun K hK=>?_);(·rfl);(·rfl);(·rfl);(·rfl);all_goals
         first
         |((show Oper.wp _ {dst:=some 46,op:=_,type:=_,pos:=_,after:=_,guard:=_} _ _ _ _);(try clear hb);have t1:_=some (Value.slice s k c):=jB (NAD.out.below BD.out).top 0;go_simp;go_wp2_with fail;refine hK.out _ _ hHeld fun hHeld=>?_;clear hK K;try simp only[jz])
         |((show Oper.wp _ {dst:=some 51,op:=_,type:=_,pos:=_,after:=_,guard:=_} _ _ _ _);(try clear hb);go_simp;refine(ad_New k own most _).mono ?_;rintro e w9 ⟨rb,rfl,hrib,hb9⟩;have Z9:=jh hb9.size;replace BD:=jh (jC BD.out hb9);(try replace hbm:=hbm.below hb9);(try replace hnm:=hnm.below hb9);go_wp2_with fail;refine hK.out _ _ ?_ (fun hHeld=>?_);(·exact hHeld.grow hb9);clear hK K;try simp only[jz])
         |((show Oper.wp _ {dst:=some 52,op:=_,type:=_,pos:=_,after:=_,guard:=_} _ _ _ _);(try clear hb);go_simp;refine map_kB (p:=K _) ?_;intro w10 hbm hb10 z10;have Z10:=jh z10;clear z10;obtain⟨bb,hbb,hbm⟩:∃bb,bb=_∧BestT w10 bb []:=⟨_,rfl,hbm⟩;rw[←hbb];have Hbb:=jh hbb;clear hbb;replace BD:=jh (jC BD.out hb10);(try replace hrib:=hrib.below hb10);(try replace hnm:=hnm.below hb10);refine hK.out _ _ ?_ (fun hHeld=>?_);(·exact hHeld.grow hb10);clear hK K;try simp only[jz])
         |((show Oper.wp _ {dst:=some 53,op:=_,type:=_,pos:=_,after:=_,guard:=_} _ _ _ _);(try clear hb);go_simp;refine map_kN (p:=K _) ?_;intro w11 hnm hb11 z11;have Z11:=jh z11;clear z11;obtain⟨nb,hnb,hnm⟩:∃nb,nb=_∧NewsT w11 nb []:=⟨_,rfl,hnm⟩;rw[←hnb];have Hnb:=jh hnb;clear hnb;replace BD:=jh (jC BD.out hb11);(try replace hrib:=hrib.below hb11);(try replace hbm:=hbm.below hb11);refine hK.out _ _ ?_ (fun hHeld=>?_);(·exact hHeld.grow hb11);clear hK K;try simp only[jz])
        (focus (refine rg_call3 (i:=9) (j:=10) (k:=11) (atN rfl) (atN rfl) (atN rfl) (by kernel_rfl) ?_ ?_ ?_ (fun K hK=>?_) (fun K hK=>?_) (fun K hK=>?_);(·rfl);(·rfl);(·rfl)));rotate_left 3;(focus (refine rg_call3 (i:=4) (j:=10) (k:=11) (atN rfl) (atN rfl) (atN rfl) (by kernel_rfl) ?_ ?_ ?_ (fun K hK=>?_) (fun K hK=>?_) (fun K hK=>?_);(·rfl);(·rfl);(·rfl)));rotate_left 3;(focus (refine rg_call3 (i:=4) (j:=9) (k:=11) (atN rfl) (atN rfl) (atN rfl) (by kernel_rfl) ?_ ?_ ?_ (fun K hK=>?_) (fun K hK=>?_) (fun K hK=>?_);(·rfl);(·rfl);(·rfl)));rotate_left 3;(focus (refine rg_call3 (i:=4) (j:=9) (k:=10) (atN rfl) (atN rfl) (atN rfl) (by kernel_rfl) ?_ ?_ ?_ (fun K hK=>?_) (fun K hK=>?_) (fun K hK=>?_);(·rfl);(·rfl);(·rfl)));rotate_left 3;all_goals
         first
         |((show Oper.wp _ {dst:=some 46,op:=_,type:=_,pos:=_,after:=_,guard:=_} _ _ _ _);(try clear hb);have t1:_=some (Value.slice s k c):=jB (NAD.out.below BD.out).top 0;go_simp;go_wp2_with fail;refine hK.out _ _ hHeld fun hHeld=>?_;clear hK K;try simp only[jz])
         |((show Oper.wp _ {dst:=some 51,op:=_,type:=_,pos:=_,after:=_,guard:=_} _ _ _ _);(try clear hb);go_simp;refine(ad_New k own most _).mono ?_;rintro e w9 ⟨rb,rfl,hrib,hb9⟩;have Z9:=jh hb9.size;replace BD:=jh (jC BD.out hb9);(try replace hbm:=hbm.below hb9);(try replace hnm:=hnm.below hb9);go_wp2_with fail;refine hK.out _ _ ?_ (fun hHeld=>?_);(·exact hHeld.grow hb9);clear hK K;try simp only[jz])
         |((show Oper.wp _ {dst:=some 52,op:=_,type:=_,pos:=_,after:=_,guard:=_} _ _ _ _);(try clear hb);go_simp;refine map_kB (p:=K _) ?_;intro w10 hbm hb10 z10;have Z10:=jh z10;clear z10;obtain⟨bb,hbb,hbm⟩:∃bb,bb=_∧BestT w10 bb []:=⟨_,rfl,hbm⟩;rw[←hbb];have Hbb:=jh hbb;clear hbb;replace BD:=jh (jC BD.out hb10);(try replace hrib:=hrib.below hb10);(try replace hnm:=hnm.below hb10);refine hK.out _ _ ?_ (fun hHeld=>?_);(·exact hHeld.grow hb10);clear hK K;try simp only[jz])
         |((show Oper.wp _ {dst:=some 53,op:=_,type:=_,pos:=_,after:=_,guard:=_} _ _ _ _);(try clear hb);go_simp;refine map_kN (p:=K _) ?_;intro w11 hnm hb11 z11;have Z11:=jh z11;clear z11;obtain⟨nb,hnb,hnm⟩:∃nb,nb=_∧NewsT w11 nb []:=⟨_,rfl,hnm⟩;rw[←hnb];have Hnb:=jh hnb;clear hnb;replace BD:=jh (jC BD.out hb11);(try replace hrib:=hrib.below hb11);(try replace hbm:=hbm.below hb11);refine hK.out _ _ ?_ (fun hHeld=>?_);(·exact hHeld.grow hb11);clear hK K;try simp only[jz])
        (focus (refine jI (i:=10) (j:=11) (atN rfl) (atN rfl) (by kernel_rfl) ?_ ?_ (fun K hK=>?_) (fun K hK=>?_);(·rfl);(·rfl)));rotate_left 2;(focus (refine jI (i:=9) (j:=11) (atN rfl) (atN rfl) (by kernel_rfl) ?_ ?_ (fun K hK=>?_) (fun K hK=>?_);(·rfl);(·rfl)));rotate_left 2;(focus (refine jI (i:=9) (j:=10) (atN rfl) (atN rfl) (by kernel_rfl) ?_ ?_ (fun K hK=>?_) (fun K hK=>?_);(·rfl);(·rfl)));rotate_left 2;(focus (refine jI (i:=10) (j:=11) (atN rfl) (atN rfl) (by kernel_rfl) ?_ ?_ (fun K hK=>?_) (fun K hK=>?_);(·rfl);(·rfl)));rotate_left 2;(focus (refine jI (i:=4) (j:=11) (atN rfl) (atN rfl) (by kernel_rfl) ?_ ?_ (fun K hK=>?_) (fun K hK=>?_);(·rfl);(·rfl)));rotate_left 2;(focus (refine jI (i:=4) (j:=10) (atN rfl) (atN rfl) (by kernel_rfl) ?_ ?_ (fun K hK=>?_) (fun K hK=>?_);(·rfl);(·rfl)));rotate_left 2;(focus (refine jI (i:=9) (j:=11) (atN rfl) (atN rfl) (by kernel_rfl) ?_ ?_ (fun K hK=>?_) (fun K hK=>?_);(·rfl);(·rfl)));rotate_left 2;(focus (refine jI (i:=4) (j:=11) (atN rfl) (atN rfl) (by kernel_rfl) ?_ ?_ (fun K hK=>?_) (fun K hK=>?_);(·rfl);(·rfl)));rotate_left 2;(focus (refine jI (i:=4) (j:=9) (atN rfl) (atN rfl) (by kernel_rfl) ?_ ?_ (fun K hK=>?_) (fun K hK=>?_);(·rfl);(·rfl)));rotate_left 2;(focus (refine jI (i:=9) (j:=10) (atN rfl) (atN rfl) (by kernel_rfl) ?_ ?_ (fun K hK=>?_) (fun K hK=>?_);(·rfl);(·rfl)));rotate_left 2;(focus (refine jI (i:=4) (j:=10) (atN rfl) (atN rfl) (by kernel_rfl) ?_ ?_ (fun K hK=>?_) (fun K hK=>?_);(·rfl);(·rfl)));rotate_left 2;(focus (refine jI (i:=4) (j:=9) (atN rfl) (atN rfl) (by kernel_rfl) ?_ ?_ (fun K hK=>?_) (fun K hK=>?_);(·rfl);(·rfl)));rotate_left 2;all_goals
         first
         |((show Oper.wp _ {dst:=some 46,op:=_,type:=_,pos:=_,after:=_,guard:=_} _ _ _ _);(try clear hb);have t1:_=some (Value.slice s k c):=jB (NAD.out.below BD.out).top 0;go_simp;go_wp2_with fail;refine hK.out _ _ hHeld fun hHeld=>?_;clear hK K;try simp only[jz])
         |((show Oper.wp _ {dst:=some 51,op:=_,type:=_,pos:=_,after:=_,guard:=_} _ _ _ _);(try clear hb);go_simp;refine(ad_New k own most _).mono ?_;rintro e w9 ⟨rb,rfl,hrib,hb9⟩;have Z9:=jh hb9.size;replace BD:=jh (jC BD.out hb9);(try replace hbm:=hbm.below hb9);(try replace hnm:=hnm.below hb9);go_wp2_with fail;refine hK.out _ _ ?_ (fun hHeld=>?_);(·exact hHeld.grow hb9);clear hK K;try simp only[jz])
         |((show Oper.wp _ {dst:=some 52,op:=_,type:=_,pos:=_,after:=_,guard:=_} _ _ _ _);(try clear hb);go_simp;refine map_kB (p:=K _) ?_;intro w10 hbm hb10 z10;have Z10:=jh z10;clear z10;obtain⟨bb,hbb,hbm⟩:∃bb,bb=_∧BestT w10 bb []:=⟨_,rfl,hbm⟩;rw[←hbb];have Hbb:=jh hbb;clear hbb;replace BD:=jh (jC BD.out hb10);(try replace hrib:=hrib.below hb10);(try replace hnm:=hnm.below hb10);refine hK.out _ _ ?_ (fun hHeld=>?_);(·exact hHeld.grow hb10);clear hK K;try simp only[jz])
         |((show Oper.wp _ {dst:=some 53,op:=_,type:=_,pos:=_,after:=_,guard:=_} _ _ _ _);(try clear hb);go_simp;refine map_kN (p:=K _) ?_;intro w11 hnm hb11 z11;have Z11:=jh z11;clear z11;obtain⟨nb,hnb,hnm⟩:∃nb,nb=_∧NewsT w11 nb []:=⟨_,rfl,hnm⟩;rw[←hnb];have Hnb:=jh hnb;clear hnb;replace BD:=jh (jC BD.out hb11);(try replace hrib:=hrib.below hb11);(try replace hbm:=hbm.below hb11);refine hK.out _ _ ?_ (fun hHeld=>?_);(·exact hHeld.grow hb11);clear hK K;try simp only[jz])
        (focus (refine jr 11 fun K hK=>?_));rotate_left 1;(focus (refine jr 10 fun K hK=>?_));rotate_left 1;(focus (refine jr 11 fun K hK=>?_));rotate_left 1;(focus (refine jr 9 fun K hK=>?_));rotate_left 1;(focus (refine jr 10 fun K hK=>?_));rotate_left 1;(focus (refine jr 9 fun K hK=>?_));rotate_left 1;(focus (refine jr 11 fun K hK=>?_));rotate_left 1;(focus (refine jr 10 fun K hK=>?_));rotate_left 1;(focus (refine jr 11 fun K hK=>?_));rotate_left 1;(focus ((refine qy 12 ?_ ?_ ?_ hHeld ?_;rotate_left 1;(·rfl);(·intro w' hSw;refine jR 130 0 2 3 4 (.tmp 47) (.tmp 51) (.tmp 52) (.tmp 53) ?_ (.agg #[.int .i64 x.1,.int .u32 x.2]) (.pointer (some ⟨rb,0,none⟩)) (.map (some bb)) (.map (some nb)) ?_ ?_ ?_ ?_ _ (mb_built x.1 x.2 rb bb nb)<;>rfl));try simp only[jz];refine jI (i:=4) (j:=13) (atN rfl) (atN rfl) (by kernel_rfl) ?_ ?_ (fun K hK=>?_) (fun K hK=>?_);(·rfl);(·rfl)));rotate_left 2;(focus (refine jr 10 fun K hK=>?_));rotate_left 1;(focus ((refine qy 12 ?_ ?_ ?_ hHeld ?_;rotate_left 1;(·rfl);(·intro w' hSw;refine jR 130 0 2 3 4 (.tmp 47) (.tmp 51) (.tmp 52) (.tmp 53) ?_ (.agg #[.int .i64 x.1,.int .u32 x.2]) (.pointer (some ⟨rb,0,none⟩)) (.map (some bb)) (.map (some nb)) ?_ ?_ ?_ ?_ _ (mb_built x.1 x.2 rb bb nb)<;>rfl));try simp only[jz];refine jI (i:=4) (j:=13) (atN rfl) (atN rfl) (by kernel_rfl) ?_ ?_ (fun K hK=>?_) (fun K hK=>?_);(·rfl);(·rfl)));rotate_left 2;(focus (refine jr 11 fun K hK=>?_));rotate_left 1;(focus (refine jr 9 fun K hK=>?_));rotate_left 1;(focus (refine jr 11 fun K hK=>?_));rotate_left 1;(focus ((refine qy 12 ?_ ?_ ?_ hHeld ?_;rotate_left 1;(·rfl);(·intro w' hSw;refine jR 130 0 2 3 4 (.tmp 47) (.tmp 51) (.tmp 52) (.tmp 53) ?_ (.agg #[.int .i64 x.1,.int .u32 x.2]) (.pointer (some ⟨rb,0,none⟩)) (.map (some bb)) (.map (some nb)) ?_ ?_ ?_ ?_ _ (mb_built x.1 x.2 rb bb nb)<;>rfl));try simp only[jz];refine jI (i:=4) (j:=13) (atN rfl) (atN rfl) (by kernel_rfl) ?_ ?_ (fun K hK=>?_) (fun K hK=>?_);(·rfl);(·rfl)));rotate_left 2;(focus (refine jr 9 fun K hK=>?_));rotate_left 1;(focus ((refine qy 12 ?_ ?_ ?_ hHeld ?_;rotate_left 1;(·rfl);(·intro w' hSw;refine jR 130 0 2 3 4 (.tmp 47) (.tmp 51) (.tmp 52) (.tmp 53) ?_ (.agg #[.int .i64 x.1,.int .u32 x.2]) (.pointer (some ⟨rb,0,none⟩)) (.map (some bb)) (.map (some nb)) ?_ ?_ ?_ ?_ _ (mb_built x.1 x.2 rb bb nb)<;>rfl));try simp only[jz];refine jI (i:=4) (j:=13) (atN rfl) (atN rfl) (by kernel_rfl) ?_ ?_ (fun K hK=>?_) (fun K hK=>?_);(·rfl);(·rfl)));rotate_left 2;(focus (refine jr 10 fun K hK=>?_));rotate_left 1;(focus (refine jr 9 fun K hK=>?_));rotate_left 1;(focus (refine jr 10 fun K hK=>?_));rotate_left 1;(focus ((refine qy 12 ?_ ?_ ?_ hHeld ?_;rotate_left 1;(·rfl);(·intro w' hSw;refine jR 130 0 2 3 4 (.tmp 47) (.tmp 51) (.tmp 52) (.tmp 53) ?_ (.agg #[.int .i64 x.1,.int .u32 x.2]) (.pointer (some ⟨rb,0,none⟩)) (.map (some bb)) (.map (some nb)) ?_ ?_ ?_ ?_ _ (mb_built x.1 x.2 rb bb nb)<;>rfl));try simp only[jz];refine jI (i:=4) (j:=13) (atN rfl) (atN rfl) (by kernel_rfl) ?_ ?_ (fun K hK=>?_) (fun K hK=>?_);(·rfl);(·rfl)));rotate_left 2;(focus (refine jr 9 fun K hK=>?_));rotate_left 1;(focus ((refine qy 12 ?_ ?_ ?_ hHeld ?_;rotate_left 1;(·rfl);(·intro w' hSw;refine jR 130 0 2 3 4 (.tmp 47) (.tmp 51) (.tmp 52) (.tmp 53) ?_ (.agg #[.int .i64 x.1,.int .u32 x.2]) (.pointer (some ⟨rb,0,none⟩)) (.map (some bb)) (.map (some nb)) ?_ ?_ ?_ ?_ _ (mb_built x.1 x.2 rb bb nb)<;>rfl));try simp only[jz];refine jI (i:=4) (j:=13) (atN rfl) (atN rfl) (by kernel_rfl) ?_ ?_ (fun K hK=>?_) (fun K hK=>?_);(·rfl);(·rfl)));rotate_left 2;all_goals
         first
         |((show Oper.wp _ {dst:=some 46,op:=_,type:=_,pos:=_,after:=_,guard:=_} _ _ _ _);(try clear hb);have t1:_=some (Value.slice s k c):=jB (NAD.out.below BD.out).top 0;go_simp;go_wp2_with fail;refine hK.out _ _ hHeld fun hHeld=>?_;clear hK K;try simp only[jz])
         |((show Oper.wp _ {dst:=some 51,op:=_,type:=_,pos:=_,after:=_,guard:=_} _ _ _ _);(try clear hb);go_simp;refine(ad_New k own most _).mono ?_;rintro e w9 ⟨rb,rfl,hrib,hb9⟩;have Z9:=jh hb9.size;replace BD:=jh (jC BD.out hb9);(try replace hbm:=hbm.below hb9);(try replace hnm:=hnm.below hb9);go_wp2_with fail;refine hK.out _ _ ?_ (fun hHeld=>?_);(·exact hHeld.grow hb9);clear hK K;try simp only[jz])
         |((show Oper.wp _ {dst:=some 52,op:=_,type:=_,pos:=_,after:=_,guard:=_} _ _ _ _);(try clear hb);go_simp;refine map_kB (p:=K _) ?_;intro w10 hbm hb10 z10;have Z10:=jh z10;clear z10;obtain⟨bb,hbb,hbm⟩:∃bb,bb=_∧BestT w10 bb []:=⟨_,rfl,hbm⟩;rw[←hbb];have Hbb:=jh hbb;clear hbb;replace BD:=jh (jC BD.out hb10);(try replace hrib:=hrib.below hb10);(try replace hnm:=hnm.below hb10);refine hK.out _ _ ?_ (fun hHeld=>?_);(·exact hHeld.grow hb10);clear hK K;try simp only[jz])
         |((show Oper.wp _ {dst:=some 53,op:=_,type:=_,pos:=_,after:=_,guard:=_} _ _ _ _);(try clear hb);go_simp;refine map_kN (p:=K _) ?_;intro w11 hnm hb11 z11;have Z11:=jh z11;clear z11;obtain⟨nb,hnb,hnm⟩:∃nb,nb=_∧NewsT w11 nb []:=⟨_,rfl,hnm⟩;rw[←hnb];have Hnb:=jh hnb;clear hnb;replace BD:=jh (jC BD.out hb11);(try replace hrib:=hrib.below hb11);(try replace hbm:=hbm.below hb11);refine hK.out _ _ ?_ (fun hHeld=>?_);(·exact hHeld.grow hb11);clear hK K;try simp only[jz])
         |((show Oper.wp _ {dst:=some 55,op:=_,type:=_,pos:=_,after:=_,guard:=_} _ _ _ _);(try clear hb);go_simp;refine row_k (p:=K _) ?_;intro w13 hmb hb13 z13;have Z13:=jh z13;clear z13;obtain⟨mb,hmbb,hmb⟩:∃mb,mb=_∧w13.heap[mb]? =_:=⟨_,rfl,hmb⟩;rw[←hmbb];have Hmb:=jh hmbb;clear hmbb;replace BD:=jh (jC BD.out hb13);replace hrib:=hrib.below hb13;replace hbm:=hbm.below hb13;replace hnm:=hnm.below hb13;refine hK.out _ _ ?_ (fun hHeld=>?_);(·exact hHeld.grow hb13);clear hK K;try simp only[jz])
        (focus ((refine qy 12 ?_ ?_ ?_ hHeld ?_;rotate_left 1;(·rfl);(·intro w' hSw;refine jR 130 0 2 3 4 (.tmp 47) (.tmp 51) (.tmp 52) (.tmp 53) ?_ (.agg #[.int .i64 x.1,.int .u32 x.2]) (.pointer (some ⟨rb,0,none⟩)) (.map (some bb)) (.map (some nb)) ?_ ?_ ?_ ?_ _ (mb_built x.1 x.2 rb bb nb)<;>rfl));try simp only[jz];refine jr 13 fun K hK=>?_));rotate_left 1;(focus ((refine qy 12 ?_ ?_ ?_ hHeld ?_;rotate_left 1;(·rfl);(·intro w' hSw;refine jR 130 0 2 3 4 (.tmp 47) (.tmp 51) (.tmp 52) (.tmp 53) ?_ (.agg #[.int .i64 x.1,.int .u32 x.2]) (.pointer (some ⟨rb,0,none⟩)) (.map (some bb)) (.map (some nb)) ?_ ?_ ?_ ?_ _ (mb_built x.1 x.2 rb bb nb)<;>rfl));try simp only[jz];refine jr 13 fun K hK=>?_));rotate_left 1;(focus ((refine qy 12 ?_ ?_ ?_ hHeld ?_;rotate_left 1;(·rfl);(·intro w' hSw;refine jR 130 0 2 3 4 (.tmp 47) (.tmp 51) (.tmp 52) (.tmp 53) ?_ (.agg #[.int .i64 x.1,.int .u32 x.2]) (.pointer (some ⟨rb,0,none⟩)) (.map (some bb)) (.map (some nb)) ?_ ?_ ?_ ?_ _ (mb_built x.1 x.2 rb bb nb)<;>rfl));try simp only[jz];refine jr 13 fun K hK=>?_));rotate_left 1;(focus ((refine qy 12 ?_ ?_ ?_ hHeld ?_;rotate_left 1;(·rfl);(·intro w' hSw;refine jR 130 0 2 3 4 (.tmp 47) (.tmp 51) (.tmp 52) (.tmp 53) ?_ (.agg #[.int .i64 x.1,.int .u32 x.2]) (.pointer (some ⟨rb,0,none⟩)) (.map (some bb)) (.map (some nb)) ?_ ?_ ?_ ?_ _ (mb_built x.1 x.2 rb bb nb)<;>rfl));try simp only[jz];refine jr 13 fun K hK=>?_));rotate_left 1;(focus ((refine qy 12 ?_ ?_ ?_ hHeld ?_;rotate_left 1;(·rfl);(·intro w' hSw;refine jR 130 0 2 3 4 (.tmp 47) (.tmp 51) (.tmp 52) (.tmp 53) ?_ (.agg #[.int .i64 x.1,.int .u32 x.2]) (.pointer (some ⟨rb,0,none⟩)) (.map (some bb)) (.map (some nb)) ?_ ?_ ?_ ?_ _ (mb_built x.1 x.2 rb bb nb)<;>rfl));try simp only[jz];refine jr 13 fun K hK=>?_));rotate_left 1;(focus ((refine qy 12 ?_ ?_ ?_ hHeld ?_;rotate_left 1;(·rfl);(·intro w' hSw;refine jR 130 0 2 3 4 (.tmp 47) (.tmp 51) (.tmp 52) (.tmp 53) ?_ (.agg #[.int .i64 x.1,.int .u32 x.2]) (.pointer (some ⟨rb,0,none⟩)) (.map (some bb)) (.map (some nb)) ?_ ?_ ?_ ?_ _ (mb_built x.1 x.2 rb bb nb)<;>rfl));try simp only[jz];refine jr 13 fun K hK=>?_));rotate_left 1;(focus ((refine qy 12 ?_ ?_ ?_ hHeld ?_;rotate_left 1;(·rfl);(·intro w' hSw;refine jR 130 0 2 3 4 (.tmp 47) (.tmp 51) (.tmp 52) (.tmp 53) ?_ (.agg #[.int .i64 x.1,.int .u32 x.2]) (.pointer (some ⟨rb,0,none⟩)) (.map (some bb)) (.map (some nb)) ?_ ?_ ?_ ?_ _ (mb_built x.1 x.2 rb bb nb)<;>rfl));try simp only[jz];refine jr 13 fun K hK=>?_));rotate_left 1;(focus ((refine qy 12 ?_ ?_ ?_ hHeld ?_;rotate_left 1;(·rfl);(·intro w' hSw;refine jR 130 0 2 3 4 (.tmp 47) (.tmp 51) (.tmp 52) (.tmp 53) ?_ (.agg #[.int .i64 x.1,.int .u32 x.2]) (.pointer (some ⟨rb,0,none⟩)) (.map (some bb)) (.map (some nb)) ?_ ?_ ?_ ?_ _ (mb_built x.1 x.2 rb bb nb)<;>rfl));try simp only[jz];refine jr 13 fun K hK=>?_));rotate_left 1;(focus ((refine qy 12 ?_ ?_ ?_ hHeld ?_;rotate_left 1;(·rfl);(·intro w' hSw;refine jR 130 0 2 3 4 (.tmp 47) (.tmp 51) (.tmp 52) (.tmp 53) ?_ (.agg #[.int .i64 x.1,.int .u32 x.2]) (.pointer (some ⟨rb,0,none⟩)) (.map (some bb)) (.map (some nb)) ?_ ?_ ?_ ?_ _ (mb_built x.1 x.2 rb bb nb)<;>rfl));try simp only[jz];refine jr 13 fun K hK=>?_));rotate_left 1;(focus (refine jr 13 fun K hK=>?_));rotate_left 1;(focus (refine jI (i:=4) (j:=14) (atN rfl) (atN rfl) (by kernel_rfl) ?_ ?_ (fun K hK=>?_) (fun K hK=>?_);(·rfl);(·rfl)));rotate_left 2;(focus ((refine qy 12 ?_ ?_ ?_ hHeld ?_;rotate_left 1;(·rfl);(·intro w' hSw;refine jR 130 0 2 3 4 (.tmp 47) (.tmp 51) (.tmp 52) (.tmp 53) ?_ (.agg #[.int .i64 x.1,.int .u32 x.2]) (.pointer (some ⟨rb,0,none⟩)) (.map (some bb)) (.map (some nb)) ?_ ?_ ?_ ?_ _ (mb_built x.1 x.2 rb bb nb)<;>rfl));try simp only[jz];refine jr 13 fun K hK=>?_));rotate_left 1;(focus (refine jr 13 fun K hK=>?_));rotate_left 1;(focus (refine jI (i:=4) (j:=14) (atN rfl) (atN rfl) (by kernel_rfl) ?_ ?_ (fun K hK=>?_) (fun K hK=>?_);(·rfl);(·rfl)));rotate_left 2;(focus ((refine qy 12 ?_ ?_ ?_ hHeld ?_;rotate_left 1;(·rfl);(·intro w' hSw;refine jR 130 0 2 3 4 (.tmp 47) (.tmp 51) (.tmp 52) (.tmp 53) ?_ (.agg #[.int .i64 x.1,.int .u32 x.2]) (.pointer (some ⟨rb,0,none⟩)) (.map (some bb)) (.map (some nb)) ?_ ?_ ?_ ?_ _ (mb_built x.1 x.2 rb bb nb)<;>rfl));try simp only[jz];refine jr 13 fun K hK=>?_));rotate_left 1;(focus ((refine qy 12 ?_ ?_ ?_ hHeld ?_;rotate_left 1;(·rfl);(·intro w' hSw;refine jR 130 0 2 3 4 (.tmp 47) (.tmp 51) (.tmp 52) (.tmp 53) ?_ (.agg #[.int .i64 x.1,.int .u32 x.2]) (.pointer (some ⟨rb,0,none⟩)) (.map (some bb)) (.map (some nb)) ?_ ?_ ?_ ?_ _ (mb_built x.1 x.2 rb bb nb)<;>rfl));try simp only[jz];refine jr 13 fun K hK=>?_));rotate_left 1;(focus ((refine qy 12 ?_ ?_ ?_ hHeld ?_;rotate_left 1;(·rfl);(·intro w' hSw;refine jR 130 0 2 3 4 (.tmp 47) (.tmp 51) (.tmp 52) (.tmp 53) ?_ (.agg #[.int .i64 x.1,.int .u32 x.2]) (.pointer (some ⟨rb,0,none⟩)) (.map (some bb)) (.map (some nb)) ?_ ?_ ?_ ?_ _ (mb_built x.1 x.2 rb bb nb)<;>rfl));try simp only[jz];refine jr 13 fun K hK=>?_));rotate_left 1;(focus (refine jr 13 fun K hK=>?_));rotate_left 1;(focus (refine jI (i:=4) (j:=14) (atN rfl) (atN rfl) (by kernel_rfl) ?_ ?_ (fun K hK=>?_) (fun K hK=>?_);(·rfl);(·rfl)));rotate_left 2;(focus ((refine qy 12 ?_ ?_ ?_ hHeld ?_;rotate_left 1;(·rfl);(·intro w' hSw;refine jR 130 0 2 3 4 (.tmp 47) (.tmp 51) (.tmp 52) (.tmp 53) ?_ (.agg #[.int .i64 x.1,.int .u32 x.2]) (.pointer (some ⟨rb,0,none⟩)) (.map (some bb)) (.map (some nb)) ?_ ?_ ?_ ?_ _ (mb_built x.1 x.2 rb bb nb)<;>rfl));try simp only[jz];refine jr 13 fun K hK=>?_));rotate_left 1;(focus (refine jr 13 fun K hK=>?_));rotate_left 1;(focus (refine jI (i:=4) (j:=14) (atN rfl) (atN rfl) (by kernel_rfl) ?_ ?_ (fun K hK=>?_) (fun K hK=>?_);(·rfl);(·rfl)));rotate_left 2;(focus ((refine qy 12 ?_ ?_ ?_ hHeld ?_;rotate_left 1;(·rfl);(·intro w' hSw;refine jR 130 0 2 3 4 (.tmp 47) (.tmp 51) (.tmp 52) (.tmp 53) ?_ (.agg #[.int .i64 x.1,.int .u32 x.2]) (.pointer (some ⟨rb,0,none⟩)) (.map (some bb)) (.map (some nb)) ?_ ?_ ?_ ?_ _ (mb_built x.1 x.2 rb bb nb)<;>rfl));try simp only[jz];refine jr 13 fun K hK=>?_));rotate_left 1;(focus ((refine qy 12 ?_ ?_ ?_ hHeld ?_;rotate_left 1;(·rfl);(·intro w' hSw;refine jR 130 0 2 3 4 (.tmp 47) (.tmp 51) (.tmp 52) (.tmp 53) ?_ (.agg #[.int .i64 x.1,.int .u32 x.2]) (.pointer (some ⟨rb,0,none⟩)) (.map (some bb)) (.map (some nb)) ?_ ?_ ?_ ?_ _ (mb_built x.1 x.2 rb bb nb)<;>rfl));try simp only[jz];refine jr 13 fun K hK=>?_));rotate_left 1;(focus ((refine qy 12 ?_ ?_ ?_ hHeld ?_;rotate_left 1;(·rfl);(·intro w' hSw;refine jR 130 0 2 3 4 (.tmp 47) (.tmp 51) (.tmp 52) (.tmp 53) ?_ (.agg #[.int .i64 x.1,.int .u32 x.2]) (.pointer (some ⟨rb,0,none⟩)) (.map (some bb)) (.map (some nb)) ?_ ?_ ?_ ?_ _ (mb_built x.1 x.2 rb bb nb)<;>rfl));try simp only[jz];refine jr 13 fun K hK=>?_));rotate_left 1;(focus (refine jr 13 fun K hK=>?_));rotate_left 1;(focus (refine jI (i:=4) (j:=14) (atN rfl) (atN rfl) (by kernel_rfl) ?_ ?_ (fun K hK=>?_) (fun K hK=>?_);(·rfl);(·rfl)));rotate_left 2;(focus ((refine qy 12 ?_ ?_ ?_ hHeld ?_;rotate_left 1;(·rfl);(·intro w' hSw;refine jR 130 0 2 3 4 (.tmp 47) (.tmp 51) (.tmp 52) (.tmp 53) ?_ (.agg #[.int .i64 x.1,.int .u32 x.2]) (.pointer (some ⟨rb,0,none⟩)) (.map (some bb)) (.map (some nb)) ?_ ?_ ?_ ?_ _ (mb_built x.1 x.2 rb bb nb)<;>rfl));try simp only[jz];refine jr 13 fun K hK=>?_));rotate_left 1;(focus (refine jr 13 fun K hK=>?_));rotate_left 1;(focus (refine jI (i:=4) (j:=14) (atN rfl) (atN rfl) (by kernel_rfl) ?_ ?_ (fun K hK=>?_) (fun K hK=>?_);(·rfl);(·rfl)));rotate_left 2;all_goals
         first
         |((show Oper.wp _ {dst:=some 46,op:=_,type:=_,pos:=_,after:=_,guard:=_} _ _ _ _);(try clear hb);have t1:_=some (Value.slice s k c):=jB (NAD.out.below BD.out).top 0;go_simp;go_wp2_with fail;refine hK.out _ _ hHeld fun hHeld=>?_;clear hK K;try simp only[jz])
         |((show Oper.wp _ {dst:=some 55,op:=_,type:=_,pos:=_,after:=_,guard:=_} _ _ _ _);(try clear hb);go_simp;refine row_k (p:=K _) ?_;intro w13 hmb hb13 z13;have Z13:=jh z13;clear z13;obtain⟨mb,hmbb,hmb⟩:∃mb,mb=_∧w13.heap[mb]? =_:=⟨_,rfl,hmb⟩;rw[←hmbb];have Hmb:=jh hmbb;clear hmbb;replace BD:=jh (jC BD.out hb13);replace hrib:=hrib.below hb13;replace hbm:=hbm.below hb13;replace hnm:=hnm.below hb13;refine hK.out _ _ ?_ (fun hHeld=>?_);(·exact hHeld.grow hb13);clear hK K;try simp only[jz])
         |((show Oper.wp _ {dst:=some 56,op:=_,type:=_,pos:=_,after:=_,guard:=_} _ _ _ _);(try clear hb);go_simp;refine cell_k (p:=K _) ?_;intro w14 hn14 hb14 z14;have Z14:=jh z14;clear z14;have B13:=jh BD.out;have B14:=jh hb14;replace BD:=jh (jC BD.out hb14);refine hK.out _ _ ?_ (fun hHeld=>?_);(·exact hHeld.grow hb14);clear hK K;try simp only[jz])
        (focus (refine jr 14 fun K hK=>?_));rotate_left 1;(focus (refine jr 14 fun K hK=>?_));rotate_left 1;(focus (refine jr 14 fun K hK=>?_));rotate_left 1;(focus (refine jr 14 fun K hK=>?_));rotate_left 1;(focus (refine jr 14 fun K hK=>?_));rotate_left 1;(focus (refine jr 14 fun K hK=>?_));rotate_left 1;(focus (refine jr 14 fun K hK=>?_));rotate_left 1;(focus (refine jr 14 fun K hK=>?_));rotate_left 1;(focus (refine jr 14 fun K hK=>?_));rotate_left 1;(focus (refine jr 14 fun K hK=>?_));rotate_left 1;(focus (refine jr 14 fun K hK=>?_));rotate_left 1;(focus (refine jr 4 fun K hK=>?_));rotate_left 1;(focus (refine jr 14 fun K hK=>?_));rotate_left 1;(focus (refine jr 14 fun K hK=>?_));rotate_left 1;(focus (refine jr 14 fun K hK=>?_));rotate_left 1;(focus (refine jr 4 fun K hK=>?_));rotate_left 1;(focus (refine jr 14 fun K hK=>?_));rotate_left 1;(focus (refine jr 14 fun K hK=>?_));rotate_left 1;(focus (refine jr 14 fun K hK=>?_));rotate_left 1;(focus (refine jr 14 fun K hK=>?_));rotate_left 1;(focus (refine jr 14 fun K hK=>?_));rotate_left 1;(focus (refine jr 4 fun K hK=>?_));rotate_left 1;(focus (refine jr 14 fun K hK=>?_));rotate_left 1;(focus (refine jr 14 fun K hK=>?_));rotate_left 1;(focus (refine jr 14 fun K hK=>?_));rotate_left 1;(focus (refine jr 4 fun K hK=>?_));rotate_left 1;(focus (refine jr 14 fun K hK=>?_));rotate_left 1;(focus (refine jr 14 fun K hK=>?_));rotate_left 1;(focus (refine jr 14 fun K hK=>?_));rotate_left 1;(focus (refine jr 14 fun K hK=>?_));rotate_left 1;(focus (refine jr 14 fun K hK=>?_));rotate_left 1;(focus (refine jr 4 fun K hK=>?_));rotate_left 1;(focus (refine jr 14 fun K hK=>?_));rotate_left 1;(focus (refine jr 14 fun K hK=>?_));rotate_left 1;(focus (refine jr 14 fun K hK=>?_));rotate_left 1;(focus (refine jr 4 fun K hK=>?_));rotate_left 1;all_goals
         first
         |((show Oper.wp _ {dst:=some 46,op:=_,type:=_,pos:=_,after:=_,guard:=_} _ _ _ _);(try clear hb);have t1:_=some (Value.slice s k c):=jB (NAD.out.below BD.out).top 0;go_simp;go_wp2_with fail;refine hK.out _ _ hHeld fun hHeld=>?_;clear hK K;try simp only[jz])
         |((show Oper.wp _ {dst:=some 56,op:=_,type:=_,pos:=_,after:=_,guard:=_} _ _ _ _);(try clear hb);go_simp;refine cell_k (p:=K _) ?_;intro w14 hn14 hb14 z14;have Z14:=jh z14;clear z14;have B13:=jh BD.out;have B14:=jh hb14;replace BD:=jh (jC BD.out hb14);refine hK.out _ _ ?_ (fun hHeld=>?_);(·exact hHeld.grow hb14);clear hK K;try simp only[jz])
         |skip
        all_goals
         (refine jr 15 fun K hK=>?_;(try clear hb);have OX:=jQ NAD.out.row BD.out;refine wp_append_at (.tmp 46) (.tmp 56) 123 ?_ W.heap.size 126 i0 _ 1 8 Tryz.underlying123 hii hz0 hz1 hz2 rfl (by decide) (.slice s k c) k (ls.flatMap plC) ?_ OX ⟨w13.heap.size,0,none⟩ 1 1 [.pointer (some ⟨mb,0,none⟩)] ?_ rfl hn14 ?_ L1.out L2.out ?_ ?_;(·rfl);(·rfl);(·rfl);(·intro u hu;simp at hu;subst hu;rfl);(·have h1:=BW.out;have h2:=hHeld.size;omega);intro v' w' hown hgrow hat;obtain⟨s6,c6,hv6,-⟩:=jV hown;subst hv6;refine hK.out _ _ ?_ (fun hHeld=>?_);(·exact hHeld.trans ((kept_gr hgrow).imp fun q hq=>.inr hq));clear hK K);try simp only[jz]
         (refine qy 16 ?_ ?_ ?_ hHeld ?_;rotate_left 1;(·rfl);(·intro w' hSw;(try clear hHeld);go_simp;try with_reducible rfl));try simp only[jz]
         (refine qy 17 ?_ ?_ ?_ hHeld ?_;rotate_left 1;(·rfl);(·intro w' hSw;(try clear hHeld);go_simp;try with_reducible rfl));try simp only[jz]
         (refine jr 18 fun K hK=>?_;(try clear hb);have tp:=((kept_gr hgrow).block _ (jE (NAD.out.below BD.out).top) NSB.out).trans (NAD.out.below BD.out).top;have tw:_=some (Value.slice s k c):=jB tp 0;have fz:=jN tp 0;go_simp;go_wp2_with fail;refine hK.out _ _ ?_ (fun hHeld=>?_);(·exact hHeld.trans (Kept.setCell _ _ (.inl rfl)));clear hK K);try simp only[Act.put]
         refine wpAnyH_done (by kernel_rfl) ?_ _;obtain⟨s7,c7,rho7,hv7,NX⟩:=NAD.out.step HXK.out X1.out X2.out hrib hbm hnm hmb B13.out (by have:=Z9.out;have:=Z10.out;have:=Z11.out;have:=Z13.out;have:=Hbb.out;have:=Hnb.out;have:=Hmb.out;omega) (by have:=Z9.out;have:=Z10.out;have:=Z11.out;have:=Z13.out;have:=Hbb.out;have:=Hnb.out;have:=Hmb.out;omega) (by have:=Z9.out;have:=Z10.out;have:=Z11.out;have:=Z13.out;have:=Hbb.out;have:=Hnb.out;have:=Hmb.out;omega) (by have:=Z9.out;have:=Z10.out;have:=Z11.out;have:=Z13.out;have:=Hbb.out;have:=Hnb.out;have:=Hmb.out;omega) (by have:=Z9.out;have:=Z10.out;have:=Z11.out;have:=Z13.out;have:=Hbb.out;have:=Hnb.out;have:=Hmb.out;omega) (by have:=Z9.out;have:=Z10.out;have:=Z11.out;have:=Z13.out;have:=Hbb.out;have:=Hnb.out;have:=Hmb.out;omega) (by have:=Z9.out;have:=Z10.out;have:=Z11.out;have:=Z13.out;have:=Hbb.out;have:=Hnb.out;have:=Hmb.out;omega) (by have:=Z9.out;have:=Z10.out;have:=Z11.out;have:=Z13.out;have:=Hbb.out;have:=Hnb.out;have:=Hmb.out;omega) (by have:=Z9.out;have:=Z10.out;have:=Z11.out;have:=Z13.out;have:=Hbb.out;have:=Hnb.out;have:=Hmb.out;omega) (by have:=Z9.out;have:=Z10.out;have:=Z11.out;have:=Z13.out;have:=Hbb.out;have:=Hnb.out;have:=Hmb.out;omega) (by have:=Z9.out;have:=Z10.out;have:=Z11.out;have:=Z13.out;have:=Hbb.out;have:=Hnb.out;have:=Hmb.out;omega) B14.out hown (kept_gr hgrow) hat;injection hv7 with e1 _ e2;subst e1;subst e2;have NX2:=jh NX;clear hHeld hown hgrow hat hrib hbm hnm hmb NX tw tp fz;go_wp2_with fail;exact⟨⟨k+1,s6,c6,_,rho7,by omega,by go_num,NX2,OKS2⟩,by simp[intOf];omega⟩
       ·have d2:((x.2:Int)==0)=true:=by simp at hs2 ⊢;omega
        have CB:=jh (newCd_bad NC.out NM.out (all_bad HXK.out (by unfold sdB;rw[hs1,hs2];rfl)));clear hs1 hs2;go_wp2_with fail;refine bodyPost_ret (v:=.tuple #[.pointer none,.int .i64 1]) (by simp[results,Tryz.results14,go_sem]) rfl (.inl ⟨by rw[CB.out];decide,by rw[CB.out],NA1.out.bel⟩)
     ·obtain rfl:k=xs.length:=by omega
      obtain⟨rho',hS,hlo⟩:=NA.out.done OWN.out (by have:=NM.out;omega) (most0:=most) rfl;have C0:=jh (newCd_ok NC.out NM.out (all_ok OKS.out));have FIN:Hid (NewPost own most xs W (.returned (.tuple #[.pointer (some ⟨sb,0,none⟩),.int .i64 0])) wr):=jh (.inr ⟨C0.out,rho',sb,fb,ls,rfl,hS,hlo,NA.out.bel⟩);clear hS hlo NA OKS;go_wp2_with fail;refine bodyPost_ret (v:=.tuple #[.pointer (some ⟨sb,0,none⟩),.int .i64 0]) (by simp[results,Tryz.results14,go_sem]) rfl FIN.out
open Go.RowKit
abbrev VM:=Int×Nat×Rts
def pmV (v:VM):Pm:=⟨v.1,v.2.1,false,v.2.2,fun _=>false⟩
def bestV (own:Int) (bl:Nat→Bool) (V:List VM) (rc:Nat) (p:Pf):Option (Int×At):=bestS own bl (V.map pmV) rc p
def offV (own:Int) (bl:Nat→Bool) (V:List VM) (rc:Nat) (p:Pf):List Cd:=offS own bl (V.map pmV) rc p
def RV (S:Sv):List VM:=S.ms.map fun m=>(m.as_,m.id,m.R)
theorem RV_len (S:Sv):(RV S).length=S.ms.length:=by simp[RV]
theorem RV_get (S:Sv) (i:Nat):(RV S)[i]? =(S.ms[i]?).map fun m=>(m.as_,m.id,m.R):=by simp[RV]
theorem asOf_V (S:Sv) (rc:Nat):asOf ((RV S).map pmV) rc=asOf S.ms rc:=by
 unfold asOf;rw[List.getElem?_map,RV_get];cases S.ms[rc]?<;>rfl
theorem said_V (S:Sv) (p:Pf):saidS ((RV S).map pmV) p=saidS S.ms p:=saidF_congr (by simp[RV]) fun k m n hm hn=>by
 rw[List.getElem?_map,RV_get,hn] at hm;simp at hm;subst hm;exact⟨rfl,rfl⟩
theorem off_V (S:Sv) (rc:Nat) (p:Pf):offS S.own S.bl S.ms rc p=offV S.own S.bl (RV S) rc p:=by
 unfold offV offS;rw[asOf_V,said_V]
theorem bestIn_V (S:Sv) (rc:Nat) (p:Pf):bestIn S rc p=bestV S.own S.bl (RV S) rc p:=by
 unfold bestIn bestV bestS;have:=off_V S rc p;unfold offV at this;rw[this]
theorem offV_congr {own:Int} {bl bl':Nat→Bool} {V V':List VM} {rc:Nat} {p:Pf} (hl:V.length=V'.length) (h:∀(k:Nat) v v',V[k]? =some v→V'[k]? =some v'→v.1=v'.1∧v.2.1=v'.2.1∧getL v.2.2 p=getL v'.2.2 p)
  (hb:∀(k:Nat) v a,V[k]? =some v→getL v.2.2 p=some a→bl (k*16+rc)=bl' (k*16+rc)):offV own bl V rc p=offV own bl' V' rc p:=by
 unfold offV offS;have e1:saidS (V.map pmV) p=saidS (V'.map pmV) p:=saidF_congr (by simp[hl]) fun k m n hm hn=>by
  rw[List.getElem?_map] at hm hn;cases hv:V[k]? with
  |none=>rw[hv] at hm;simp at hm
  |some v=>
   cases hv':V'[k]? with
   |none=>rw[hv'] at hn;simp at hn
   |some v'=>
    rw[hv] at hm;rw[hv'] at hn;simp at hm hn;subst hm;subst hn;exact⟨(h k v v' hv hv').2.1,(h k v v' hv hv').2.2⟩
 have e2:asOf (V.map pmV) rc=asOf (V'.map pmV) rc:=by
  unfold asOf;rw[List.getElem?_map,List.getElem?_map];cases hv:V[rc]? with
  |none=>
   have:V'[rc]? =none:=by rw[List.getElem?_eq_none_iff] at hv ⊢;omega
   rw[this]
  |some v=>
   obtain⟨v',hv'⟩:∃v',V'[rc]? =some v':=⟨_,List.getElem?_eq_getElem (by rw[←hl];exact(List.getElem?_eq_some_iff.1 hv).1)⟩
   rw[hv'];simp[pmV,(h rc v v' hv hv').1]
 rw[←e1,←e2];unfold offL;refine List.filter_congr fun c hc=>?_;obtain⟨k,m,a,hm,hg,rfl⟩:=saidS_mem hc;rw[List.getElem?_map] at hm;cases hv:V[k]? with
 |none=>rw[hv] at hm;simp at hm
 |some v=>
  rw[hv] at hm;simp at hm;subst hm;unfold goesC goesB cdOf;simp only[Int.toNat_natCast];rw[hb k v a hv hg]
theorem bestV_congr {own:Int} {bl bl':Nat→Bool} {V V':List VM} {rc:Nat} {p:Pf} (hl:V.length=V'.length) (h:∀(k:Nat) v v',V[k]? =some v→V'[k]? =some v'→v.1=v'.1∧v.2.1=v'.2.1∧getL v.2.2 p=getL v'.2.2 p)
  (hb:∀(k:Nat) v a,V[k]? =some v→getL v.2.2 p=some a→bl (k*16+rc)=bl' (k*16+rc)):bestV own bl V rc p=bestV own bl' V' rc p:=by
 have:=offV_congr (own:=own) (rc:=rc) hl h hb;unfold offV at this;unfold bestV bestS;rw[this]
structure Ab where
 own:Int
 most:Int
 bl:Nat→Bool
 V:List VM
 th:Nat→Bool
 nw:Nat→Pf→Bool
def Ab.best (A:Ab) (i:Nat) (p:Pf):Option (Int×At):=bestV A.own A.bl A.V i p
def Ab.offs (A:Ab) (i:Nat) (p:Pf):List Cd:=offV A.own A.bl A.V i p
def Ab.R (A:Ab) (i:Nat):Rts:=((A.V[i]?).map (·.2.2)).getD []
structure IsAb (S:Sv) (A:Ab):Prop where
 own:S.own=A.own
 most:S.most=A.most
 bl:S.bl=A.bl
 V:RV S=A.V
 mem:∀(i:Nat) m,S.ms[i]? =some m→m.there=A.th i∧∀p,m.news p=A.nw i p
 best:∀i p,i<S.ms.length→S.best i p=A.best i p
def Ab.turn (A:Ab) (bl:Nat→Bool) (V:List VM):Ab:={A with bl:=bl,V:=V,nw:=fun k p=>A.nw k p||(A.th k&&!sameB (A.best k p) (bestV A.own bl V k p))}
def setV (V:List VM) (i:Nat) (R:Rts):List VM:=V.modify i fun v=>(v.1,v.2.1,R)
def setF {α:Type} (f:Nat→α) (i:Nat) (x:α) (k:Nat):α:=if k=i then x else f k
def Ab.join (A:Ab) (i:Nat):Ab:={A with th:=setF A.th i true,nw:=setF A.nw i fun p=>A.nw i p||(A.best i p).isSome}
def Ab.hush (A:Ab) (i:Nat):Ab:={A with nw:=setF A.nw i fun _=>false}
def Ab.away (A:Ab) (i:Nat):Ab:={A with th:=setF A.th i false,nw:=setF A.nw i fun _=>false}
def Ab.leave (A:Ab) (i:Nat):Ab:=(A.away i).turn A.bl (setV A.V i [])
def Ab.updR (A:Ab) (i:Nat) (kind:Int) (gone nets:List Pf) (a:At):Int×List Pf×Rts:=updP A.own A.most (A.R i) kind gone nets a
def Ab.upd (A:Ab) (i:Nat) (kind:Int) (gone nets:List Pf) (a:At):Ab:=if (A.updR i kind gone nets a).1=0 then A.turn A.bl (setV A.V i (A.updR i kind gone nets a).2.2) else A
def Ab.mark (A:Ab) (i:Nat) (ps:List Pf):Ab:={A with nw:=setF A.nw i fun p=>A.nw i p||(decide (p∈ps)&&rightB p.1 p.2)}
def Ab.block (A:Ab) (i j:Nat) (b:Bool):Ab:=A.turn (setWay A.bl (i*16+j) b) A.V
def newA (own most:Int) (xs:List Sd):Ab:=⟨own,min (max most 0) 256,fun _=>false,xs.map fun x=>(x.1,x.2,[]),fun _=>false,fun _ _=>false⟩
theorem setF_same {α:Type} (f:Nat→α) (i:Nat) (x:α):setF f i x i=x:=if_pos rfl
theorem setF_other {α:Type} (f:Nat→α) {i k:Nat} (h:k≠i) (x:α):setF f i x k=f k:=if_neg h
theorem setV_get (V:List VM) (i:Nat) (R:Rts) (j:Nat):(setV V i R)[j]? =(V[j]?).map fun v=>if j=i then (v.1,v.2.1,R) else v:=by
 unfold setV;simp only[List.getElem?_modify];cases V[j]? with
 |none=>rfl
 |some m=>simp only[Option.map_some,Option.map_eq_map,eq_comm (a:=i)]
theorem setV_len (V:List VM) (i:Nat) (R:Rts):(setV V i R).length=V.length:=by unfold setV;simp
theorem RV_setR (S:Sv) (i:Nat) (R:Rts):RV (setR S i R)=setV (RV S) i R:=by
 apply List.ext_getElem?;intro j;rw[RV_get,setR_get,setV_get,RV_get];cases S.ms[j]? with
 |none=>rfl
 |some m=>simp only[Option.map_some];split<;>rfl
theorem RV_modS (S:Sv) (i:Nat) (f:Pm→Pm) (h:∀m,(f m).as_=m.as_∧(f m).id=m.id∧(f m).R=m.R):RV (modS S i f)=RV S:=by
 apply List.ext_getElem?;intro j;rw[RV_get,modS_get,RV_get];cases S.ms[j]? with
 |none=>rfl
 |some m=>
  simp only[Option.map_some];split
  ·rw[(h m).1,(h m).2.1,(h m).2.2]
  ·rfl
theorem SvKin.RV {S T:Sv} (h:SvKin S T):RV T=RV S:=by
 apply List.ext_getElem?;intro j;rw[RV_get,RV_get];cases hm:S.ms[j]? with
 |none=>
  have:T.ms[j]? =none:=by rw[List.getElem?_eq_none_iff] at hm ⊢;rw[h.len];exact hm
  rw[this]
 |some m=>
  obtain⟨n,h1,h2,h3,h4,h5⟩:=h.mem j m hm;rw[h1];simp[h2,h3,h5]
section
variable {S:Sv} {A:Ab}
theorem IsAb.len (h:IsAb S A):S.ms.length=A.V.length:=by rw[←h.V,RV_len]
theorem IsAb.get (h:IsAb S A) {i:Nat} {m:Pm} (hm:S.ms[i]? =some m):A.V[i]? =some (m.as_,m.id,m.R)∧A.R i=m.R:=by
 have:A.V[i]? =some (m.as_,m.id,m.R):=by rw[←h.V,RV_get,hm];rfl
 exact⟨this,by unfold Ab.R;rw[this];rfl⟩
theorem IsAb.at (h:IsAb S A) {i:Nat} (hi:i<A.V.length):∃m,S.ms[i]? =some m:=⟨_,List.getElem?_eq_getElem (by rw[h.len];exact hi)⟩
theorem IsAb.modS (h:IsAb S A) (i:Nat) (f:Pm→Pm) {A':Ab} (hf:∀m,(f m).as_=m.as_∧(f m).id=m.id∧(f m).R=m.R) (e1:A'.own=A.own) (e2:A'.most=A.most) (e3:A'.bl=A.bl) (e4:A'.V=A.V)
  (e5:∀(k:Nat) m,S.ms[k]? =some m→k≠i→A'.th k=A.th k∧∀p,A'.nw k p=A.nw k p) (e6:∀m,S.ms[i]? =some m→(f m).there=A'.th i∧∀p,(f m).news p=A'.nw i p):IsAb (modS S i f) A':=by
 refine⟨h.own.trans e1.symm,h.most.trans e2.symm,h.bl.trans e3.symm,?_,?_,?_⟩
 ·rw[RV_modS S i f hf,h.V,e4]
 ·intro k m hm;rw[modS_get] at hm;cases hk:S.ms[k]? with
  |none=>rw[hk] at hm;simp at hm
  |some n=>
   rw[hk] at hm;simp at hm;subst hm;by_cases e:k=i
   ·subst e;rw[if_pos rfl];exact e6 n hk
   ·rw[if_neg e];obtain⟨h1,h2⟩:=h.mem k n hk;exact⟨h1.trans (e5 k n hk e).1.symm,fun p=>(h2 p).trans ((e5 k n hk e).2 p).symm⟩
 ·intro k p hk;rw[modS_len] at hk;have:A'.best k p=A.best k p:=by unfold Ab.best;rw[e1,e3,e4]
  rw[this];exact h.best k p hk
theorem IsAb.join (h:IsAb S A) {i:Nat} (hi:i<A.V.length):IsAb (joinS S i) (A.join i):=
 h.modS i _ (fun _=>⟨rfl,rfl,rfl⟩) rfl rfl rfl rfl (fun k m _ hk=>⟨setF_other _ hk _,fun p=>by unfold Ab.join;simp only;rw[setF_other _ hk]⟩) (fun m hm=>⟨(setF_same _ _ _).symm,fun p=>by
  unfold Ab.join;simp only;rw[setF_same,(h.mem i m hm).2 p,h.best i p (by rw[h.len];exact hi)]⟩)
theorem IsAb.hush (h:IsAb S A) (i:Nat):IsAb (hushS S i) (A.hush i):=
 h.modS i _ (fun _=>⟨rfl,rfl,rfl⟩) rfl rfl rfl rfl (fun k m _ hk=>⟨rfl,fun p=>by unfold Ab.hush;simp only;rw[setF_other _ hk]⟩) (fun m hm=>⟨(h.mem i m hm).1,fun p=>by
  unfold Ab.hush withNews;simp only;rw[setF_same]⟩)
theorem IsAb.away (h:IsAb S A) (i:Nat):IsAb (awayS S i) (A.away i):=
 h.modS i _ (fun _=>⟨rfl,rfl,rfl⟩) rfl rfl rfl rfl (fun k m _ hk=>⟨setF_other _ hk _,fun p=>by unfold Ab.away;simp only;rw[setF_other _ hk]⟩) (fun m hm=>⟨(setF_same _ _ _).symm,fun p=>by
  unfold Ab.away;simp only;rw[setF_same]⟩)
theorem IsAb.turnS (h:IsAb S A) (i:Nat) (R:Rts) (ps:List Pf) (hR:∀p,p∉ps→getL R p=getL (A.R i) p):IsAb (turnS (setR S i R) ps) (A.turn A.bl (setV A.V i R)):=by
 have hk:=kin_turn ps (setR S i R);have hV:RV (Proofs.YtkoidahgbbabiaaGreat.turnS (setR S i R) ps)=setV A.V i R:=by rw[hk.RV,RV_setR,h.V]
 have hin:∀k q,bestIn (setR S i R) k q=bestV A.own A.bl (setV A.V i R) k q:=fun k q=>by
  rw[bestIn_V,RV_setR,h.V];show bestV S.own S.bl _ k q=_;rw[h.own,h.bl]
 have hold:∀k q,k<S.ms.length→q∉ps→A.best k q=bestV A.own A.bl (setV A.V i R) k q:=fun k q hkl hq=>by
  refine bestV_congr (setV_len ..).symm (fun j v v' hv hv'=>?_) fun _ _ _ _ _=>rfl;rw[setV_get,hv] at hv';simp at hv';subst hv';by_cases e:j=i
  ·subst e;rw[if_pos rfl];refine⟨rfl,rfl,?_⟩;have:A.R j=v.2.2:=by unfold Ab.R;rw[hv];rfl
   rw[←this];exact(hR q hq).symm
  ·rw[if_neg e];exact⟨rfl,rfl,rfl⟩
 refine⟨hk.own.trans h.own,hk.most.trans h.most,hk.bl.trans h.bl,hV,?_,?_⟩
 ·intro k n hn;obtain⟨m',hm',-⟩:=hk.back hn;obtain⟨n',g1,g2,g3,g4,g5,g6⟩:=turnS_news ps _ k m' hm';rw[hn] at g1;injection g1 with g1;subst g1;rw[setR_get] at hm';cases hm:S.ms[k]? with
  |none=>rw[hm] at hm';simp at hm'
  |some m=>
   rw[hm] at hm';simp at hm';have e1:m'.there=m.there:=by rw[←hm'];split<;>rfl
   have e2:m'.news=m.news:=by rw[←hm'];split<;>rfl
   obtain⟨h1,h2⟩:=h.mem k m hm;refine⟨g4.trans (e1.trans h1),fun p=>?_⟩;rw[g6 p,e1,e2,h1,h2 p];unfold Ab.turn;simp only;have hkl:k<S.ms.length:=(List.getElem?_eq_some_iff.1 hm).1;have hb:(setR S i R).best k p=A.best k p:=h.best k p hkl;rw[hb,hin];by_cases hp:p∈ps
   ·simp[hp]
   ·have:sameB (A.best k p) (bestV A.own A.bl (setV A.V i R) k p)=true:=(sameB_iff _ _).2 (hold k p hkl hp);simp[hp,this]
 ·intro k q hkl;rw[hk.len,setR_len] at hkl;rw[turnS_best ps _ k q (by rw[setR_len];exact hkl),hin];show _=bestV A.own A.bl (setV A.V i R) k q;by_cases hq:q∈ps
  ·rw[if_pos hq]
  ·rw[if_neg hq];exact(h.best k q hkl).trans (hold k q hkl hq)
theorem IsAb.leave (h:IsAb S A) (i:Nat) (had:List Pf) (hh:∀p,p∈had↔(getL (A.R i) p).isSome=true):IsAb (leaveS S i had) (A.leave i):=by
 refine(h.away i).turnS i [] had fun p hp=>?_;have:¬(getL (A.R i) p).isSome=true:=fun h2=>hp ((hh p).2 h2);show none=getL (A.R i) p;cases hg:getL (A.R i) p with
 |none=>rfl
 |some x=>rw[hg] at this;exact absurd rfl this
theorem setOf_mem {ps:List Pf} {p:Pf}:p∈setOf ps↔p∈ps:=(setOf_srt ps).2 p
theorem saidP_mem {gone nets:List Pf} {p:Pf}:p∈saidP gone nets↔p∈gone∨p∈nets:=by
 unfold saidP;rw[setOf_mem,List.mem_append]
theorem netsP_sub {own:Int} {nets:List Pf} {a:At} {p:Pf} (h:p∈netsP own nets a):p∈nets:=by
 unfold netsP at h;split at h
 ·cases h
 ·exact setOf_mem.1 h
theorem updP_keeps {own most:Int} {R:Rts} {kind:Int} {gone nets:List Pf} {a:At} {p:Pf} (hp:p∉gone++nets):getL (updP own most R kind gone nets a).2.2 p=getL R p:=by
 have h1:p∉saidP gone nets:=fun h=>hp (List.mem_append.2 (saidP_mem.1 h));have h2:p∉netsP own nets a:=fun h=>hp (List.mem_append_right _ (netsP_sub h));unfold updP;split
 ·split
  ·split
   ·rfl
   ·simp only;rw[getL_putAll,getL_dropAll,if_neg h2,if_neg h1]
  ·rfl
 ·rfl
theorem IsAb.upd (h:IsAb S A) {i:Nat} {m:Pm} (hm:S.ms[i]? =some m) (kind:Int) (gone nets:List Pf) (a:At):IsAb (updS S i m kind gone nets a) (A.upd i kind gone nets a):=by
 have e:updP S.own S.most m.R kind gone nets a=A.updR i kind gone nets a:=by
  unfold Ab.updR;rw[h.own,h.most,(h.get hm).2]
 unfold updS Ab.upd;rw[e];split
 ·rw[←turnS_app];exact h.turnS i _ _ fun p hp=>by
   unfold Ab.updR;exact updP_keeps hp
 ·exact h
theorem mark1_is (i:Nat) (S:Sv) (p:Pf) (k:Nat):(mark1 i S p).ms[k]? =(S.ms[k]?).map fun m=>if k=i then m.mark p (m.there&&rightB p.1 p.2) else m:=by
 unfold mark1;cases hr:rightB p.1 p.2 with
 |true=>rw[if_pos rfl,markS_get]
 |false=>
  rw[if_neg (by simp)];cases S.ms[k]? with
  |none=>rfl
  |some m=>
   simp only[Option.map_some,Bool.and_false];split
   ·unfold Pm.mark;simp
   ·rfl
theorem marks_get (i:Nat):∀(ps:List Pf) (S:Sv) (k:Nat) (m:Pm),S.ms[k]? =some m→∃n,(marksS S i ps).ms[k]? =some n∧n.there=m.there∧∀q,n.news q=if k=i then (m.news q||(m.there&&(decide (q∈ps)&&rightB q.1 q.2))) else m.news q
 |[],S,k,m,hm=>⟨m,hm,rfl,fun q=>by simp⟩
 |p::ps,S,k,m,hm=>by
  have h1:=mark1_is i S p k;rw[hm] at h1;simp only[Option.map_some] at h1;obtain⟨n,n1,n2,n3⟩:=marks_get i ps (mark1 i S p) k _ h1;refine⟨n,n1,?_,fun q=>?_⟩
  ·rw[n2];split<;>rfl
  ·rw[n3 q];by_cases e:k=i
   ·simp only[e,if_true];rw[mark_news];show _=_;have:(m.mark p (m.there&&rightB p.1 p.2)).there=m.there:=rfl;rw[this];by_cases eq:q=p
    ·subst eq;simp only[List.mem_cons,true_or,decide_true,Bool.true_and];cases m.news q<;>cases m.there<;>cases rightB q.1 q.2<;>simp
    ·have:decide (q∈p::ps)=decide (q∈ps):=by simp[eq]
     rw[this];simp[eq]
   ·simp only[e,if_false]
theorem marks_best (i:Nat):∀(ps:List Pf) (S:Sv),(marksS S i ps).best=S.best
 |[],_=>rfl
 |p::ps,S=>by
  show (marksS (mark1 i S p) i ps).best=S.best;rw[marks_best i ps];unfold mark1;split<;>rfl
theorem IsAb.mark (h:IsAb S A) {i:Nat} (ht:A.th i=true) (ps:List Pf):IsAb (marksS S i ps) (A.mark i ps):=by
 have hk:=kin_marks i ps S;refine⟨hk.own.trans h.own,hk.most.trans h.most,hk.bl.trans h.bl,hk.RV.trans h.V,?_,?_⟩
 ·intro k n hn;obtain⟨m,hm,-⟩:=hk.back hn;obtain⟨n',g1,g2,g3⟩:=marks_get i ps S k m hm;rw[hn] at g1;injection g1 with g1;subst g1;obtain⟨h1,h2⟩:=h.mem k m hm;refine⟨g2.trans h1,fun p=>?_⟩;rw[g3 p];unfold Ab.mark;simp only;by_cases e:k=i
  ·subst e;rw[if_pos rfl,setF_same,h2 p,h1,ht,Bool.true_and]
  ·rw[if_neg e,setF_other _ e];exact h2 p
 ·intro k p hkl;rw[marks_best];rw[hk.len] at hkl;exact h.best k p hkl
theorem saidF_none (p:Pf):∀(ms:List Pm) (i:Nat),(∀m∈ms,m.R=[])→saidF p i ms=[]
 |[],_,_=>rfl
 |m::ms,i,h=>by
  rw[saidF,saidF_none p ms (i+1) fun x hx=>h x (List.mem_cons_of_mem _ hx)];unfold saidOne;rw[h m (List.mem_cons_self ..)];rfl
theorem newA_best (own most:Int) (xs:List Sd) (i:Nat) (p:Pf):(newA own most xs).best i p=none:=by
 unfold Ab.best bestV bestS offS saidS newA;simp only;rw[saidF_none p _ 0 fun m hm=>by
  obtain⟨v,hv,rfl⟩:=List.mem_map.1 hm;obtain⟨x,hx,rfl⟩:=List.mem_map.1 hv;rfl]
 rfl
theorem newA_is (own most:Int) (xs:List Sd):IsAb (newSv own most xs) (newA own most xs):=by
 refine⟨rfl,rfl,rfl,?_,?_,fun i p _=>(newA_best own most xs i p).symm⟩
 ·unfold RV newSv newA;simp only[List.map_map];rfl
 ·intro i m hm;unfold newSv at hm;simp only[List.getElem?_map] at hm;cases hx:xs[i]? with
  |none=>rw[hx] at hm;simp at hm
  |some x=>
   rw[hx] at hm;simp at hm;subst hm;exact⟨rfl,fun _=>rfl⟩
end
end Go.Proofs.YtkoidahgbbabiaaGreat
