/- Texts of one proof, one behind another. -/
import Derived.Test.YtkoidahgbbabiaaGreatSr18
import Derived.Test.YtkoidahgbbabiaaGreatSr4
import Derived.Test.YtkoidahgbbabiaaGreatSr15
import Derived.Test.YtkoidahgbbabiaaGreatSr1
import Derived.Test.YtkoidahgbbabiaaGreatSr7
import Derived.Test.YtkoidahgbbabiaaGreatSr14
import Derived.Test.YtkoidahgbbabiaaGreatSr17
import Derived.Test.YtkoidahgbbabiaaGreatSr6
set_option maxRecDepth 100000
set_option maxHeartbeats 100000000
namespace Go.Proofs.YtkoidahgbbabiaaGreat
open Go.RowKit
theorem info_mapPR:(Tryz.prog.info? 64).map (fun i=>(i.zero,i.size,i.bytes))=some (some (.map none),1,8):=by kernel_rfl
theorem mp_one (b:Nat):∀u∈[mpV b],u.oneCell'=true:=by
 intro u hu;rw[List.mem_singleton.1 hu];rfl
structure MadeM (W:World) (B:Nat) (v:Value) (bs:List Nat):Prop where
 own:W.ownsRow B 64 1 v bs.length (bs.map mpV)
 map:∀b∈bs,MapT pfV beV KOk W b ([]:List (Pf×BE))∧B≤b∧v.ownBlock≠some b
 nd:bs.Nodup
theorem MadeM.below {W W':World} {B:Nat} {v:Value} {bs:List Nat} (h:MadeM W B v bs) (hb:Below W.heap.size W W'):MadeM W' B v bs:=
 ⟨jQ h.own hb,fun b hm=>⟨(h.map b hm).1.below hb,(h.map b hm).2⟩,h.nd⟩
theorem MadeM.more {W W1 W2:World} {B:Nat} {v v':Value} {bs:List Nat} (h:MadeM W B v bs) (hB:B≤W.heap.size) (hb:Below W.heap.size W W1) (hm:MapT pfV beV KOk W1 W.heap.size ([]:List (Pf×BE)))
  (ho:W2.ownsRow B 64 1 v' (bs.length+1) (bs.map mpV++[mpV W.heap.size])) (hk:Kept (fun b=>v.ownBlock=some b) W1 W2) (hat:v'.ownBlock=v.ownBlock∨v'.ownBlock=some W1.heap.size):MadeM W2 B v' (bs++[W.heap.size]):=by
 have ol:=own_lt h.own;have hm1:=hm.lt;refine⟨by simpa using ho,fun b hmem=>?_,?_⟩
 ·rcases List.mem_append.1 hmem with hmem|hmem
  ·obtain⟨m1,m2,m3⟩:=h.map b hmem;have:=m1.lt;refine⟨(m1.below hb).kept hk m3,m2,fun e=>?_⟩;rcases hat with e2|e2
   ·exact m3 (e2.symm.trans e)
   ·rw[e2] at e;injection e with e;have:=hb.size;omega
  ·rw[List.mem_singleton] at hmem;subst hmem;refine⟨hm.kept hk fun e=>?_,hB,fun e=>?_⟩
   ·have:=ol _ e;omega
   ·rcases hat with e2|e2
    ·rw[e2] at e;have:=ol _ e;omega
    ·rw[e2] at e;injection e with e;omega
 ·rw[List.nodup_append];refine⟨h.nd,by simp,fun a ha b hb' e=>?_⟩;rw[List.mem_singleton] at hb';have:=(h.map a ha).1.lt;omega
theorem MadeM.kn {W:World} {B c:Nat} {s:Option Addr} {bs:List Nat} (h:MadeM W B (.slice s bs.length c) bs) (hn:0<bs.length) {rho:Nat→Role} (hr:∀k,B≤k→rho k=.no):
  ∃g,s=some ⟨g,0,none⟩∧KnM W rho B g c 64 bs (List.replicate bs.length []) (fun _=>False):=by
 obtain⟨j,hj⟩:∃j,bs.length=j+1:=⟨bs.length - 1,by omega⟩
 obtain⟨g,c',e⟩:∃g c',Value.slice s bs.length c=.slice (some ⟨g,0,none⟩) bs.length c':=by
  have ho:=h.own;obtain⟨_,⟨e,_⟩|⟨g,cap,cur,e,_⟩⟩:=ho
  ·injection e with _ e _;omega
  ·exact⟨g,cap,e⟩
 injection e with e1 _ e3;subst e1;have hrow:=own_row_cell h.own rfl (j:=0) (u:=mpV (bs[0]'hn)) (by rw[List.getElem?_map,List.getElem?_eq_getElem hn];rfl);refine⟨g,rfl,h.own,by simp,fun i b l hb hl=>?_,fun W' _ l hl x hx=>?_,?_,fun k hk=>?_,fun k hk=>?_,fun k hk=>hk.elim⟩
 ·rw[List.getElem?_replicate] at hl;split at hl
  ·injection hl with hl;subst hl;exact⟨(h.map b (List.mem_of_getElem? hb)).1,KnT.nil⟩
  ·cases hl
 ·rw[List.mem_replicate] at hl;rw[hl.2] at hx;cases hx
 ·rw[List.nodup_cons];exact⟨fun hg=>(h.map g hg).2.2 rfl,h.nd⟩
 ·rcases List.mem_cons.1 hk with rfl|hk
  ·exact hrow.2.2.1
  ·exact(h.map k hk).2.1
 ·rcases hk with hk|hk
  ·rcases List.mem_cons.1 hk with rfl|hk
   ·exact⟨hr _ hrow.2.2.1,hrow.2.2.2⟩
   ·exact⟨hr _ (h.map k hk).2.1,(h.map k hk).1.lt⟩
  ·exact hk.elim
open Go.RowKit
theorem kn_next {best:Pf→Option (Int×At)} {l' lr:List (Pf×BE)} {L:List Pf} {z:Nat} {p:Pf} {b:Option BE} (h:∀q,knV l' q=if q∈L.take z then best q else knV lr q) (hp:L[z]? =some p) (hb:b.map (fun x=>(x.peer,x.a))=best p):
  ∀q,knV (tell1 l' p b) q=if q∈L.take (z+1) then best q else knV lr q:=by
 intro q;rw[knV_tell1,take_snoc hp];by_cases e:q=p
 ·subst e;rw[if_pos rfl,if_pos (List.mem_append_right _ (List.mem_singleton.2 rfl)),hb]
 ·rw[if_neg e,h q];by_cases hq:q∈L.take z
  ·rw[if_pos hq,if_pos (List.mem_append_left _ hq)]
  ·rw[if_neg hq,if_neg (fun h2=>by
    rcases List.mem_append.1 h2 with h2|h2
    ·exact hq h2
    ·exact e (List.mem_singleton.1 h2))]
section
variable {W W1 W2:World} {rho:Nat→Role} {B g c:Nat} {T:TypeId} {bs:List Nat} {ls:List (List (Pf×BE))} {D:Nat→Prop} {i b:Nat} {l:List (Pf×BE)} {p:Pf}
theorem KnM.bno (h:KnM W rho B g c T bs ls D) (hb:bs[i]? =some b):rho b=.no∧b<W.heap.size∧B≤b:=
 ⟨(h.no b (.inl (List.mem_cons_of_mem _ (List.mem_of_getElem? hb)))).1,(h.no b (.inl (List.mem_cons_of_mem _ (List.mem_of_getElem? hb)))).2,h.hi b (List.mem_cons_of_mem _ (List.mem_of_getElem? hb))⟩
theorem KnM.valK (h:KnM W rho B g c T bs ls D) (hb:bs[i]? =some b) (hl:ls[i]? =some l) (hk:Kept (fun k=>k=b) W W2):On D W2 (fun W=>∀x∈l,AvAt W x.2.a x.2.v):=
 (h.val.kept hk fun k _ hD e=>h.dis k hD (e▸List.mem_cons_of_mem _ (List.mem_of_getElem? hb))).imp fun _ hW x hx=>hW l (List.mem_of_getElem? hl) x hx
theorem KnM.del (h:KnM W rho B g c T bs ls D) (hb:bs[i]? =some b) (hl:ls[i]? =some l) (hp:RgtP p) (hk:Kept (fun k=>k=b) W W2) (hm:MapT pfV beV KOk W2 b (delL l p)):
  KnM W2 rho B g c T bs (ls.set i (tell1 l p none)) (fun k=>D k∨D k):=by
 have hm':MapT pfV beV KOk W2 b (tell1 l p none):=hm;refine h.change hb hk hm' ((h.map i b l hb hl).2.tell1 p hp none fun x hx=>by cases hx) ((h.valK hb hl hk).imp fun _ hW x hx=>hW x (mem_del.1 hx).1) fun k hk'=>?_;exact⟨(h.no k (.inr hk')).1,Nat.lt_of_lt_of_le (h.no k (.inr hk')).2 hk.size,h.dis k hk'⟩
theorem KnM.put (h:KnM W rho B g c T bs ls D) (hb:bs[i]? =some b) (hl:ls[i]? =some l) (hp:RgtP p) {y:BE} (hy:y.p=p) (b01:Below W.heap.size W W1) (fr:Fresh W.heap.size W1 (fun W=>AvAt W y.a y.v)) (hr:∀k,W.heap.size≤k→rho k=.no)
  (hk:Kept (fun k=>k=b) W1 W2) (hm:MapT pfV beV KOk W2 b (putL l p y)):
  KnM W2 rho B g c T bs (ls.set i (tell1 l p (some y))) (fun k=>D k∨(D k∨(W.heap.size≤k∧k<W1.heap.size))):=by
 have hm':MapT pfV beV KOk W2 b (tell1 l p (some y)):=hm;have h1:=h.below b01;have bl:=(h.bno hb).2.1;refine h1.change (D':=fun k=>D k∨(W.heap.size≤k∧k<W1.heap.size)) hb hk hm' ((h.map i b l hb hl).2.tell1 p hp (some y) fun x hx=>by injection hx with hx;rw[←hx];exact hy) ?_ fun k hk'=>?_
 ·have v1:=(h1.valK hb hl hk).wide (G:=fun k=>D k∨(W.heap.size≤k∧k<W1.heap.size)) fun _ h _=>.inl h;have v2:=((fresh_hi fr).kept hk fun k _ hF e=>by omega).wide (G:=fun k=>D k∨(W.heap.size≤k∧k<W1.heap.size)) fun _ h _=>.inr h;refine(v1.and v2).imp fun _ hW x hx=>?_;rcases mem_put hx with⟨h2,-⟩|rfl
  ·exact hW.1 x h2
  ·exact hW.2
 ·rcases hk' with hk'|hk'
  ·exact⟨(h1.no k (.inr hk')).1,Nat.lt_of_lt_of_le (h1.no k (.inr hk')).2 hk.size,h.dis k hk'⟩
  ·refine⟨hr k hk'.1,Nat.lt_of_lt_of_le hk'.2 hk.size,fun hm=>?_⟩;have:=(h.no k (.inl hm)).2;omega
theorem kn_set {P:Nat→List (Pf×BE)→Prop} {ls:List (List (Pf×BE))} {i:Nat} {l:List (Pf×BE)} (h1:P i l) (h2:∀(j:Nat) m,j≠i→ls[j]? =some m→P j m):∀(j:Nat) m,(ls.set i l)[j]? =some m→P j m:=by
 intro j m hm;rw[List.getElem?_set] at hm;by_cases e:i=j
 ·subst e;rw[if_pos rfl] at hm;split at hm
  ·injection hm with hm;subst hm;exact h1
  ·cases hm
 ·rw[if_neg e] at hm;exact h2 j m (fun e2=>e e2.symm) hm
theorem kn_at {ls:List (List (Pf×BE))} {i:Nat} {l m:List (Pf×BE)} (h:(ls.set i l)[i]? =some m):m=l:=by
 rw[List.getElem?_set,if_pos rfl] at h;split at h
 ·injection h with h;exact h.symm
 ·cases h
theorem set_set' {ls:List (List (Pf×BE))} {i:Nat} {l m:List (Pf×BE)}:(ls.set i l).set i m=ls.set i m:=by simp
theorem set_self {ls:List (List (Pf×BE))} {i:Nat} {l:List (Pf×BE)} (h:ls[i]? =some l):ls.set i l=ls:=by
 apply List.ext_getElem?;intro j;rw[List.getElem?_set];by_cases e:i=j
 ·subst e;have hi:=(List.getElem?_eq_some_iff.1 h).1;rw[if_pos rfl,if_pos hi,h]
 ·rw[if_neg e]
end
section
variable {w W:World} {rho:Nat→Role} {sb fb:Nat} {ls:List Pl} {A:Ab}
theorem ls_NewsO (h:LSv w W rho sb fb ls A) {i:Nat} (hi:i<A.V.length):Calls Tryz.prog 17 #[.pointer (some ⟨sb,0,none⟩),.int .i64 i] W fun e w'=>
  ∃(s:Option Addr) (c:Nat) (L:List Pf),e=.returned (.slice s L.length c)∧OwnPs w' W.heap.size (.slice s L.length c) L∧L.Pairwise plt∧(∀p,p∈L↔A.nw i p=true)∧(∀p∈L,RgtP p)∧LSv w w' rho sb fb ls (A.hush i)∧Step rho rho W w':=by
 obtain⟨S,h1,h2⟩:=h.srv;obtain⟨m,hm⟩:=h2.at hi;refine(sv_News h1 hm).mono ?_;rintro e w' ⟨s,c,L,rfl,ho,hp,hL,hr,hs,st⟩;exact⟨s,c,L,rfl,ho,hp,fun p=>by rw[hL p,(h2.mem i m hm).2 p],hr,h.step hs (h2.hush i) st,st⟩
theorem be_at {w:World} {s:Option Addr} {n c:Nat} {xs:List BE} (h:SlAt w 13 (fun x cs=>cs=beL x) (.slice s n c) xs) {i:Nat} {x:BE} (hx:xs[i]? =some x):∃g o,s=some ⟨g,o,none⟩∧w.rangeAt g (o+i*13) (beL x):=by
 obtain⟨s',c',e,h1,h2,h3⟩:=h;injection e with e _ _;subst e;have hi:=(List.getElem?_eq_some_iff.1 hx).1;obtain⟨b,off,rfl,h4⟩:=h3 (by omega);obtain⟨cs,-,rfl,hc⟩:=h4 i x hx;exact⟨b,off,rfl,fun j v hv=>hc j v hv⟩
end
open Go.RowKit
def AgOk (A:Ab) (i:Nat) (l:List (Pf×Bool)):Prop:=A.th i=true→∀p,(getL l p).isSome=true→A.nw i p=true
theorem AgOk.nil (A:Ab) (i:Nat):AgOk A i []:=fun _ p h=>by cases h
theorem AgOk.turn {A:Ab} {i:Nat} {l:List (Pf×Bool)} (h:AgOk A i l) (bl:Nat→Bool) (V:List VM):AgOk (A.turn bl V) i l:=by
 intro ht p hp;show (A.nw i p||_)=true;rw[h ht p hp,Bool.true_or]
theorem AgOk.join {A:Ab} {k:Nat} {l:List (Pf×Bool)} (h:AgOk A k l) {i:Nat} (hk:k≠i):AgOk (A.join i) k l:=by
 intro ht p hp;have ht':setF A.th i true k=true:=ht;show setF A.nw i _ k p=true;rw[setF_other _ hk] at ht' ⊢;exact h ht' p hp
theorem AgOk.away {A:Ab} {k:Nat} {l:List (Pf×Bool)} (h:AgOk A k l) (i:Nat):AgOk (A.away i) k l:=by
 intro ht p hp;have ht':setF A.th i false k=true:=ht;show setF A.nw i _ k p=true;by_cases e:k=i
 ·subst e;rw[setF_same] at ht';cases ht'
 ·rw[setF_other _ e] at ht' ⊢;exact h ht' p hp
theorem AgOk.leave {A:Ab} {k:Nat} {l:List (Pf×Bool)} (h:AgOk A k l) (i:Nat):AgOk (A.leave i) k l:=(h.away i).turn _ _
theorem AgOk.upd {A:Ab} {k:Nat} {l:List (Pf×Bool)} (h:AgOk A k l) (i:Nat) (kind:Int) (gone nets:List Pf) (a:At):AgOk (A.upd i kind gone nets a) k l:=by
 unfold Ab.upd;split
 ·exact h.turn _ _
 ·exact h
theorem AgOk.updI {A:Ab} {k:Nat} {l:List (Pf×Bool)} (h:AgOk A k l) (n:Int) (kind:Int) (gone nets:List Pf) (a:At):AgOk (A.updI n kind gone nets a) k l:=by
 unfold Ab.updI;split
 ·exact h.upd _ kind gone nets a
 ·exact h
theorem AgOk.block {A:Ab} {k:Nat} {l:List (Pf×Bool)} (h:AgOk A k l) (i j:Nat) (b:Bool):AgOk (A.block i j b) k l:=h.turn _ _
theorem AgOk.hush {A:Ab} {k:Nat} {l:List (Pf×Bool)} (h:AgOk A k l) {i:Nat} (hk:k≠i):AgOk (A.hush i) k l:=by
 intro ht p hp;show setF A.nw i _ k p=true;rw[setF_other _ hk];exact h ht p hp
theorem AgOk.mark_other {A:Ab} {k:Nat} {l:List (Pf×Bool)} (h:AgOk A k l) {i:Nat} (hk:k≠i) (ps:List Pf):AgOk (A.mark i ps) k l:=by
 intro ht p hp;show setF A.nw i _ k p=true;rw[setF_other _ hk];exact h ht p hp
def agPut:List (Pf×Bool)→List Pf→List (Pf×Bool)
 |l,[]=>l
 |l,p::ps=>agPut (if rightB p.1 p.2 then putL l p true else l) ps
theorem agPut_has:∀(ps:List Pf) (l:List (Pf×Bool)) (p:Pf),(getL (agPut l ps) p).isSome=true→(getL l p).isSome=true∨(p∈ps∧rightB p.1 p.2=true)
 |[],_,_,h=>.inl h
 |q::ps,l,p,h=>by
  rcases agPut_has ps _ p h with h|⟨h1,h2⟩
  ·cases hr:rightB q.1 q.2 with
   |false=>rw[hr] at h;exact .inl h
   |true=>
    rw[hr] at h;by_cases e:p=q
    ·subst e;exact .inr ⟨List.mem_cons_self ..,hr⟩
    ·left;rw[if_pos rfl,getL_put,if_neg e] at h;exact h
  ·exact .inr ⟨List.mem_cons_of_mem _ h1,h2⟩
theorem AgOk.mark_self {A:Ab} {i:Nat} {l:List (Pf×Bool)} (h:AgOk A i l) (ps:List Pf):AgOk (A.mark i ps) i (agPut l ps):=by
 intro ht p hp;show setF A.nw i _ i p=true;rw[setF_same];rcases agPut_has ps l p hp with h1|⟨h1,h2⟩
 ·show (A.nw i p||_)=true;rw[h ht p h1,Bool.true_or]
 ·show (A.nw i p||(decide (p∈ps)&&rightB p.1 p.2))=true;rw[h2,decide_eq_true h1];simp
open Go.RowKit
inductive Lc where
 |no
 |top
 |row
 |rib (i:Nat)
 |blk
 |told
 |again
deriving DecidableEq
abbrev marV (b:Bool):Value:=.bool b
structure AgM (W:World) (rho:Nat→Role) (B g c:Nat) (bs:List Nat) (ls:List (List (Pf×Bool))):Prop where
 own:W.ownsRow B 51 1 (.slice (some ⟨g,0,none⟩) bs.length c) bs.length (bs.map mpV)
 len:ls.length=bs.length
 map:∀(i b:Nat) l,bs[i]? =some b→ls[i]? =some l→MapT pfV marV KOk W b l∧∀x∈l,RgtP x.1
 apt:(g::bs).Nodup
 hi:∀k∈g::bs,B≤k
 no:∀k∈g::bs,rho k=.no∧k<W.heap.size
section
variable {W W1 W2:World} {rho rho':Nat→Role} {B g c:Nat} {bs:List Nat} {ls:List (List (Pf×Bool))}
theorem AgM.step (h:AgM W rho B g c bs ls) (st:Step rho rho' W W1):AgM W1 rho' B g c bs ls:=by
 have hno:∀k,k∈g::bs→W1.heap[k]? =W.heap[k]?:=fun k hk=>st.block (h.no k hk).2 (h.no k hk).1;refine⟨own_on h.own W1 (fun k hk _=>by injection hk with hk;subst hk;exact hno _ (List.mem_cons_self ..)),h.len,fun i b l h1 h2=>?_,h.apt,h.hi,fun k hk=>?_⟩
 ·obtain⟨m1,m2⟩:=h.map i b l h1 h2;exact⟨m1.of_block (hno b (List.mem_cons_of_mem _ (List.mem_of_getElem? h1))),m2⟩
 ·exact⟨(st.same k (h.no k hk).2).trans (h.no k hk).1,Nat.lt_of_lt_of_le (h.no k hk).2 st.kept.size⟩
theorem AgM.below (h:AgM W rho B g c bs ls) (hb:Below W.heap.size W W1):AgM W1 rho B g c bs ls:=h.step (Step.below hb)
theorem AgM.out {G:Nat→Prop} (h:AgM W rho B g c bs ls) (hk:Kept G W W1) (hG:∀k,k∈g::bs→¬G k):AgM W1 rho B g c bs ls:=by
 have hno:∀k,k∈g::bs→W1.heap[k]? =W.heap[k]?:=fun k hk'=>hk.block k (h.no k hk').2 (hG k hk');refine⟨own_on h.own W1 (fun k hk _=>by injection hk with hk;subst hk;exact hno _ (List.mem_cons_self ..)),h.len,fun i b l h1 h2=>?_,h.apt,h.hi,fun k hk'=>?_⟩
 ·obtain⟨m1,m2⟩:=h.map i b l h1 h2;exact⟨m1.of_block (hno b (List.mem_cons_of_mem _ (List.mem_of_getElem? h1))),m2⟩
 ·exact⟨(h.no k hk').1,Nat.lt_of_lt_of_le (h.no k hk').2 hk.size⟩
theorem AgM.at (h:AgM W rho B g c bs ls) {i:Nat} (hi:i<bs.length):∃(b:Nat) (l:List (Pf×Bool)),bs[i]? =some b∧ls[i]? =some l∧(W.cell? ⟨g,i,none⟩=some (.map (some b))∧W.frozen? ⟨g,i,none⟩=false)∧MapT pfV marV KOk W b l∧(∀x∈l,RgtP x.1)∧b≠g:=by
 have h1:bs[i]? =some bs[i]:=List.getElem?_eq_getElem hi;have h2:ls[i]? =some (ls[i]'(by rw[h.len];exact hi)):=List.getElem?_eq_getElem _;have hc:=own_row_cell h.own rfl (j:=i) (u:=mpV bs[i]) (by rw[List.getElem?_map,h1];rfl);refine⟨_,_,h1,h2,⟨hc.1,hc.2.1⟩,(h.map i _ _ h1 h2).1,(h.map i _ _ h1 h2).2,fun e=>?_⟩;have:=(List.nodup_cons.1 h.apt).1;exact this (e▸List.getElem_mem hi)
theorem AgM.anew (h:AgM W rho B g c bs ls) {i b':Nat} (hi:i<bs.length) (hb:Below W.heap.size W W1) (hm:MapT pfV marV KOk W1 b' []) (hn:W.heap.size≤b') (hno:rho b'=.no) (hB:B≤W.heap.size)
  (hW2:W2=W1.setCell ⟨g,i,none⟩ (.map (some b'))):AgM W2 rho B g c (bs.set i b') (ls.set i []):=by
 have hlt:∀k,k∈g::bs→k<W.heap.size:=fun k hk=>(h.no k hk).2;have hsub:∀k,k∈g::bs.set i b'→k∈g::bs∨k=b':=fun k hk=>by
  rcases List.mem_cons.1 hk with rfl|hk
  ·exact .inl (List.mem_cons_self ..)
  ·rcases List.mem_or_eq_of_mem_set hk with hk|rfl
   ·exact .inl (List.mem_cons_of_mem _ hk)
   ·exact .inr rfl
 have hb1:=h.below hb;have hk:Kept (fun k=>k=g) W1 W2:=by rw[hW2];exact Kept.setCell _ _ rfl
 have gne:b'≠g:=by have:=hlt g (List.mem_cons_self ..);omega
 refine⟨?_,by simp[h.len],fun j b l hj hl=>?_,?_,fun k hk'=>?_,fun k hk'=>?_⟩
 ·have h1:=own_set hb1.own rfl i (mpV b');rw[hW2,List.map_set,List.length_set];exact h1
 ·rw[List.getElem?_set] at hj hl;by_cases e:i=j
  ·subst e;rw[if_pos rfl,if_pos hi] at hj;rw[if_pos rfl,if_pos (by rw[h.len];exact hi)] at hl;injection hj with hj;subst hj;injection hl with hl;subst hl;exact⟨hm.kept hk gne,fun x hx=>by cases hx⟩
  ·rw[if_neg e] at hj hl;obtain⟨m1,m2⟩:=hb1.map j b l hj hl;exact⟨m1.kept hk fun e2=>(List.nodup_cons.1 h.apt).1 (e2▸List.mem_of_getElem? hj),m2⟩
 ·rw[List.nodup_cons];constructor
  ·intro hg;rcases List.mem_or_eq_of_mem_set hg with hg|hg
   ·exact(List.nodup_cons.1 h.apt).1 hg
   ·exact gne hg.symm
  ·have hnd:=(List.nodup_cons.1 h.apt).2;rw[List.nodup_iff_pairwise_ne,List.pairwise_iff_getElem] at hnd ⊢;intro j k hj hk' hjk;rw[List.length_set] at hj hk';rw[List.getElem_set,List.getElem_set];have lt1:∀(m:Nat) (hm:m<bs.length),bs[m]<W.heap.size:=fun m hm=>hlt _ (List.mem_cons_of_mem _ (List.getElem_mem hm));by_cases e1:i=j
   ·have e2:¬i=k:=by omega
    rw[if_pos e1,if_neg e2];have:=lt1 k hk';omega
   ·rw[if_neg e1];by_cases e2:i=k
    ·rw[if_pos e2];have:=lt1 j hj;omega
    ·rw[if_neg e2];exact hnd j k hj hk' hjk
 ·rcases hsub k hk' with hk'|rfl
  ·exact h.hi k hk'
  ·omega
 ·rcases hsub k hk' with hk'|rfl
  ·exact⟨(h.no k hk').1,Nat.lt_of_lt_of_le (h.no k hk').2 (Nat.le_trans hb.size hk.size)⟩
  ·exact⟨hno,Nat.lt_of_lt_of_le hm.lt hk.size⟩
theorem AgM.change (h:AgM W rho B g c bs ls) {i b:Nat} {l':List (Pf×Bool)} (hb:bs[i]? =some b) (hk:Kept (fun k=>k=b) W W2) (hm:MapT pfV marV KOk W2 b l') (ht:∀x∈l',RgtP x.1):AgM W2 rho B g c bs (ls.set i l'):=by
 have hmem:b∈bs:=List.mem_of_getElem? hb;have hi:i<bs.length:=(List.getElem?_eq_some_iff.1 hb).1;have gne:g≠b:=fun e=>(List.nodup_cons.1 h.apt).1 (e▸hmem);refine⟨((own_on h.own).kept hk fun k _ e e2=>by injection e with e;exact gne (e.trans e2)).self,by simp[h.len],fun j c l hj hl=>?_,h.apt,h.hi,fun k hk'=>⟨(h.no k hk').1,Nat.lt_of_lt_of_le (h.no k hk').2 hk.size⟩⟩;rw[List.getElem?_set] at hl;by_cases e:i=j
 ·subst e;rw[if_pos rfl,if_pos (by rw[h.len];exact hi)] at hl;rw[hb] at hj;injection hj with hj;subst hj;injection hl with hl;subst hl;exact⟨hm,ht⟩
 ·rw[if_neg e] at hl;obtain⟨m1,m2⟩:=h.map j c l hj hl;refine⟨m1.kept hk fun e2=>?_,m2⟩;subst e2;have hnd:=(List.nodup_cons.1 h.apt).2;exact e ((List.getElem?_inj hi hnd).1 (hb.trans hj.symm))
theorem AgM.bno (h:AgM W rho B g c bs ls) {i b:Nat} (hb:bs[i]? =some b):rho b=.no∧b<W.heap.size∧B≤b:=
 ⟨(h.no b (List.mem_cons_of_mem _ (List.mem_of_getElem? hb))).1,(h.no b (List.mem_cons_of_mem _ (List.mem_of_getElem? hb))).2,h.hi b (List.mem_cons_of_mem _ (List.mem_of_getElem? hb))⟩
end
abbrev k2V (k:Int×Int):Value:=.agg #[.int .i64 k.1,.int .i64 k.2]
def K2Ok (k:Int×Int):Prop:=I64r k.1∧I64r k.2
theorem k2_lit (k:Int×Int) (h:K2Ok k):∃l,keyOf Tryz.prog 95 (k2V k)=some l:=by
 refine⟨.string (keyBytes [.int .i64 k.1,.int .i64 k.2]),?_⟩;obtain⟨m,hsz⟩:∃m,Tryz.prog.types.size=m+1:=⟨Tryz.prog.types.size - 1,by kernel_rfl⟩
 have hkt:Tryz.prog.keyType 95=true:=by kernel_rfl
 have hc:Tryz.prog.cellsOf 95=2:=by kernel_rfl
 have h1:Tryz.prog.cellsOf 3=1:=by kernel_rfl
 have hn:∀n:Int,I64r n→Tryz.prog.keyLits (m+1) 3 [.int .i64 n]=some [.int .i64 n]:=fun n hn=>by
  unfold I64r at hn;unfold Program.keyLits;simp[Tryz.underlying3,WalkArith.wf_i64 (show _ by omega)]
 unfold keyOf;simp only[Tryz.underlying95];rw[if_pos (by simp[hkt,Value.formed,Tryz.underlying95,hc]),hsz];unfold Program.keyLits;simp only[Tryz.underlying95,Value.cells];rw[if_pos (by rw[hc];rfl)];have hr:List.range 2=[0,1]:=rfl;simp only[h1,hr,Nat.zero_mul,Nat.one_mul,List.mapM_cons,List.mapM_nil,List.drop_zero,List.drop_succ_cons,List.take_succ_cons,List.take_zero,hn _ h.1,hn _ h.2];rfl
theorem k2_enc:KeyEnc Tryz.prog 95 k2V K2Ok where
 K:=Maps.Keyed.of_law (deep_law_laid (by kernel_rfl) (m:=2) (by decide) (of_decide_eq_true (by kernel_rfl)) (by kernel_rfl) (by kernel_rfl))
 lit:=k2_lit
 inj a b h:=by
  obtain⟨a1,a2⟩:=a;obtain⟨b1,b2⟩:=b;simp at h;obtain⟨h1,h2⟩:=h;rw[h1,h2]
abbrev BlkT (W:World) (b:Nat) (l:List ((Int×Int)×Bool)):Prop:=MapT k2V marV K2Ok W b l
def SmallK (l:List ((Int×Int)×Bool)):Prop:=∀x∈l,∃i j:Nat,i<16∧j<16∧x.1=((i:Int),(j:Int))
theorem SmallK.short {l:List ((Int×Int)×Bool)} (h:SmallK l) (ha:KeysApart l):l.length≤256:=by
 have h1:(l.map fun x=>(x.1.1*16+x.1.2).toNat).Nodup:=by
  rw[List.nodup_iff_pairwise_ne,List.pairwise_map];refine ha.imp_of_mem fun {x y} hx hy hne e=>hne ?_;obtain⟨i,j,hi,hj,e1⟩:=h x hx;obtain⟨i',j',hi',hj',e2⟩:=h y hy;rw[e1,e2] at e ⊢;simp only at e;have e3:i*16+j=i'*16+j':=by omega
  have e4:i=i':=by omega
  have e5:j=j':=by omega
  rw[e4,e5]
 have h2:=nodup_lt 256 _ h1 (by
  intro k hk;obtain⟨x,hx,rfl⟩:=List.mem_map.1 hk;obtain⟨i,j,hi,hj,e1⟩:=h x hx;rw[e1];simp only;omega)
 rwa [List.length_map] at h2
theorem SmallK.put {l:List ((Int×Int)×Bool)} (h:SmallK l) {i j:Nat} (hi:i<16) (hj:j<16) (b:Bool):SmallK (putL l ((i:Int),(j:Int)) b):=by
 intro x hx;rcases mem_put hx with⟨h1,-⟩|rfl
 ·exact h x h1
 ·exact⟨i,j,hi,hj,rfl⟩
structure Lw where
 wb:Nat
 rg:Nat
 rc:Nat
 rbs:List Nat
 kb:Nat
 tg:Nat
 tc:Nat
 tbs:List Nat
 ag:Nat
 ac:Nat
 abs:List Nat
def rbV (b:Nat):Value:=.pointer (some ⟨b,0,none⟩)
abbrev wdC (N:Nat) (th:Nat→Bool) (L:Lw):Array Value:=#[.int .i64 N,.bool (th 0),.bool (th 1),.bool (th 2),.bool (th 3),.bool (th 4),.bool (th 5),.bool (th 6),.bool (th 7),.bool (th 8),.bool (th 9),.bool (th 10),.bool (th 11),.bool (th 12),.bool (th 13),.bool (th 14),.bool (th 15),
 .slice (some ⟨L.rg,0,none⟩) N L.rc,.map (some L.kb),.slice (some ⟨L.tg,0,none⟩) N L.tc,.slice (some ⟨L.ag,0,none⟩) N L.ac]
abbrev wdV (N:Nat) (th:Nat→Bool) (L:Lw):Value:=.agg (wdC N th L)
structure LwM (W:World) (rho:Nat→Role) (sg:Nat→Lc) (BB:Nat) (N:Nat) (most:Int) (R:Nat→Rts) (bl:Nat→Bool) (th:Nat→Bool) (L:Lw) (kl:List (List (Pf×BE))) (al:List (List (Pf×Bool))):Prop where
 dom:∀k,sg k≠.no→rho k=.no∧k<W.heap.size∧BB≤k
 top:W.heap[L.wb]? =some (.cells (wdC N th L) 91 (0,0))
 rwb:sg L.wb=.top
 row:W.ownsRow BB 93 1 (.slice (some ⟨L.rg,0,none⟩) N L.rc) N (L.rbs.map rbV)
 rrg:sg L.rg=.row
 rln:L.rbs.length=N
 rib:∀(i r:Nat),L.rbs[i]? =some r→RibAt W r i 65000 most (R i) (fun k=>sg k=.rib i)
 blk:∃l,BlkT W L.kb l∧SmallK l∧∀i j,i<N→j<N→(getL l ((i:Int),(j:Int))).getD false=bl (i*16+j)
 rkb:sg L.kb=.blk
 told:∃D,KnM W rho BB L.tg L.tc 64 L.tbs kl D∧∀k,(k∈L.tg::L.tbs∨D k)→sg k=.told
 tln:L.tbs.length=N
 again:AgM W rho BB L.ag L.ac L.abs al
 rag:∀k∈L.ag::L.abs,sg k=.again
 aln:L.abs.length=N
section
variable {W W1:World} {rho rho':Nat→Role} {sg sg':Nat→Lc} {BB N:Nat} {most:Int} {R:Nat→Rts} {bl th:Nat→Bool} {L:Lw} {kl:List (List (Pf×BE))} {al:List (List (Pf×Bool))}
theorem LwM.step (h:LwM W rho sg BB N most R bl th L kl al) (st:Step rho rho' W W1):LwM W1 rho' sg BB N most R bl th L kl al:=by
 have hno:∀k,sg k≠.no→W1.heap[k]? =W.heap[k]?:=fun k hk=>st.block (h.dom k hk).2.1 (h.dom k hk).1;refine⟨fun k hk=>?_,(hno _ (by rw[h.rwb];decide)).trans h.top,h.rwb,own_on h.row W1 (fun k hk _=>by injection hk with hk;subst hk;exact hno _ (by rw[h.rrg];decide)),h.rrg,h.rln,fun i r hr=>?_,?_,h.rkb,?_,h.tln,h.again.step st,h.rag,h.aln⟩
 ·obtain⟨h1,h2,h3⟩:=h.dom k hk;exact⟨(st.same k h2).trans h1,Nat.lt_of_lt_of_le h2 st.kept.size,h3⟩
 ·exact(h.rib i r hr).kept st.kept fun k _ hF hn=>hn (h.dom k (by rw[hF];intro e;cases e)).1
 ·obtain⟨l,h1,h2⟩:=h.blk;exact⟨l,h1.of_block (hno _ (by rw[h.rkb];decide)),h2⟩
 ·obtain⟨D,h1,h2⟩:=h.told;exact⟨D,h1.step st,h2⟩
theorem LwM.below (h:LwM W rho sg BB N most R bl th L kl al) (hb:Below W.heap.size W W1):LwM W1 rho sg BB N most R bl th L kl al:=h.step (Step.below hb)
theorem LwM.keep (h:LwM W rho sg BB N most R bl th L kl al) (c:Lc) {G:Nat→Prop} (hk:Kept G W W1) (hG:∀k,k<W.heap.size→G k→sg k=c∨sg k=.no) (hs:∀k,k<W.heap.size→sg' k=sg k):
  (c≠.top→W1.heap[L.wb]? =some (.cells (wdC N th L) 91 (0,0)))∧(c≠.row→W1.ownsRow BB 93 1 (.slice (some ⟨L.rg,0,none⟩) N L.rc) N (L.rbs.map rbV))∧
  (∀(i r:Nat),c≠.rib i→L.rbs[i]? =some r→RibAt W1 r i 65000 most (R i) (fun k=>sg' k=.rib i))∧
  (c≠.blk→∃l,BlkT W1 L.kb l∧SmallK l∧∀i j,i<N→j<N→(getL l ((i:Int),(j:Int))).getD false=bl (i*16+j))∧
  (c≠.told→∃D,KnM W1 rho BB L.tg L.tc 64 L.tbs kl D∧∀k,(k∈L.tg::L.tbs∨D k)→sg' k=.told)∧
  (c≠.again→AgM W1 rho BB L.ag L.ac L.abs al∧∀k∈L.ag::L.abs,sg' k=.again):=by
 have hno:∀k c',sg k=c'→c'≠.no→c≠c'→¬G k:=fun k c' e hn hc hg=>by
  rcases hG k (h.dom k (by rw[e];exact hn)).2.1 hg with e2|e2
  ·exact hc (e2.symm.trans e)
  ·exact hn (e.symm.trans e2)
 have hl:∀k c',sg k=c'→c'≠.no→k<W.heap.size:=fun k c' e hn=>(h.dom k (by rw[e];exact hn)).2.1;refine⟨fun hc=>(hk.block _ (hl _ _ h.rwb (by decide)) (hno _ _ h.rwb (by decide) hc)).trans h.top,fun hc=>((own_on h.row).kept hk fun k _ e=>by injection e with e;subst e;exact hno _ _ h.rrg (by decide) hc).self,fun i r hc hr=>?_,fun hc=>?_,fun hc=>?_,fun hc=>?_⟩
 ·refine RibAt.wide (F:=fun k=>sg k=.rib i∧k<W.heap.size) ?_ fun k hk'=>(hs k hk'.2).trans hk'.1;obtain⟨tb,M,E,h1,h2⟩:=(h.rib i r hr).kept hk fun k _ hF=>hno k _ hF (by intro e;cases e) hc;refine⟨tb,M,E,?_,h2⟩;exact⟨h1.row,h1.tri,h1.rgt,h1.szs,h1.ent,⟨h1.frb,hl _ _ h1.frb (by intro e;cases e)⟩,fun b hb=>⟨h1.ftr b hb,hl _ _ (h1.ftr b hb) (by intro e;cases e)⟩,fun e he k h3 h4=>⟨h1.fen e he k h3 h4,hl _ _ (h1.fen e he k h3 h4) (by intro e;cases e)⟩,h1.apr,h1.apn,h1.most0,h1.most1,h1.room⟩
 ·obtain⟨l,h1,h2⟩:=h.blk;exact⟨l,h1.kept hk (hno _ _ h.rkb (by decide) hc),h2⟩
 ·obtain⟨D,h1,h2⟩:=h.told;exact⟨D,h1.out hk fun k hk'=>hno k _ (h2 k hk') (by decide) hc,fun k hk'=>(hs k (hl _ _ (h2 k hk') (by decide))).trans (h2 k hk')⟩
 ·exact⟨h.again.out hk fun k hk'=>hno k _ (h.rag k hk') (by decide) hc,fun k hk'=>(hs k (hl _ _ (h.rag k hk') (by decide))).trans (h.rag k hk')⟩
theorem LwM.domE (h:LwM W rho sg BB N most R bl th L kl al) (hs:∀k,k<W.heap.size→sg' k=sg k) (hz:W.heap.size≤W1.heap.size) (hn:∀k,W.heap.size≤k→sg' k≠.no→rho k=.no∧k<W1.heap.size∧BB≤k):∀k,sg' k≠.no→rho k=.no∧k<W1.heap.size∧BB≤k:=fun k hk=>by
 by_cases hl:k<W.heap.size
 ·rw[hs k hl] at hk;obtain⟨h1,h2,h3⟩:=h.dom k hk;exact⟨h1,by omega,h3⟩
 ·exact hn k (by omega) hk
theorem LwM.out {G:Nat→Prop} (h:LwM W rho sg BB N most R bl th L kl al) (hk:Kept G W W1) (hG:∀k,k<W.heap.size→G k→sg k=.no):LwM W1 rho sg BB N most R bl th L kl al:=by
 obtain⟨k1,k2,k3,k4,k5,k6⟩:=h.keep (sg':=sg) .no hk (fun k hl hg=>.inr (hG k hl hg)) fun _ _=>rfl;exact⟨fun k hk'=>⟨(h.dom k hk').1,Nat.lt_of_lt_of_le (h.dom k hk').2.1 hk.size,(h.dom k hk').2.2⟩,k1 (by decide),h.rwb,k2 (by decide),h.rrg,h.rln,fun i r=>k3 i r (by intro e;cases e),k4 (by decide),h.rkb,k5 (by decide),h.tln,(k6 (by decide)).1,h.rag,h.aln⟩
theorem LwM.up (h:LwM W rho sg BB N most R bl th L kl al) {i:Nat} (hi:i<16) (b:Bool):LwM (W.setCell ⟨L.wb,1+i,none⟩ (.bool b)) rho sg BB N most R bl (setF th i b) L kl al:=by
 have hk:Kept (fun k=>k=L.wb) W (W.setCell ⟨L.wb,1+i,none⟩ (.bool b)):=Kept.setCell _ _ rfl;obtain⟨-,k2,k3,k4,k5,k6⟩:=h.keep (sg':=sg) .top hk (fun k _ e=>.inl (by rw[e];exact h.rwb)) fun _ _=>rfl;refine⟨fun k hk'=>⟨(h.dom k hk').1,Nat.lt_of_lt_of_le (h.dom k hk').2.1 hk.size,(h.dom k hk').2.2⟩,?_,h.rwb,k2 (by decide),h.rrg,h.rln,fun i r=>k3 i r (by intro e;cases e),k4 (by decide),h.rkb,k5 (by decide),h.tln,(k6 (by decide)).1,h.rag,h.aln⟩;rw[jO h.top];congr 2
 match i,hi with
 |0,_=>rfl
 |1,_=>rfl
 |2,_=>rfl
 |3,_=>rfl
 |4,_=>rfl
 |5,_=>rfl
 |6,_=>rfl
 |7,_=>rfl
 |8,_=>rfl
 |9,_=>rfl
 |10,_=>rfl
 |11,_=>rfl
 |12,_=>rfl
 |13,_=>rfl
 |14,_=>rfl
 |15,_=>rfl
 |n+16,h=>exact absurd h (by omega)
theorem LwM.block (h:LwM W rho sg BB N most R bl th L kl al) {l':List ((Int×Int)×Bool)} {bl':Nat→Bool} (hk:Kept (fun k=>k=L.kb) W W1) (hm:BlkT W1 L.kb l') (hl:SmallK l') (hb:∀i j,i<N→j<N→(getL l' ((i:Int),(j:Int))).getD false=bl' (i*16+j)):
  LwM W1 rho sg BB N most R bl' th L kl al:=by
 obtain⟨k1,k2,k3,-,k5,k6⟩:=h.keep (sg':=sg) .blk hk (fun k _ e=>.inl (by rw[e];exact h.rkb)) fun _ _=>rfl;exact⟨fun k hk'=>⟨(h.dom k hk').1,Nat.lt_of_lt_of_le (h.dom k hk').2.1 hk.size,(h.dom k hk').2.2⟩,k1 (by decide),h.rwb,k2 (by decide),h.rrg,h.rln,fun i r=>k3 i r (by intro e;cases e),⟨l',hm,hl,hb⟩,h.rkb,k5 (by decide),h.tln,(k6 (by decide)).1,h.rag,h.aln⟩
theorem LwM.setRib (h:LwM W rho sg BB N most R bl th L kl al) {i r:Nat} {R':Rts} {F':Nat→Prop} (hr:L.rbs[i]? =some r) (hk:Kept (fun k=>sg k=.rib i) W W1) (hm:RibAt W1 r i 65000 most R' F') (hF:∀k,F' k→sg k=.rib i∨(W.heap.size≤k∧k<W1.heap.size))
  (hn:∀k,W.heap.size≤k→rho k=.no) (hB:BB≤W.heap.size):∃sg',LwM W1 rho sg' BB N most (setF R i R') bl th L kl al∧(∀k,k<W.heap.size→sg' k=sg k)∧∀k,W.heap.size≤k→sg' k≠.no→F' k:=by
 classical
 obtain⟨sg',hsg⟩:∃sg':Nat→Lc,sg'=fun k=>if k<W.heap.size then sg k else if F' k then .rib i else .no:=⟨_,rfl⟩
 have hs:∀k,k<W.heap.size→sg' k=sg k:=fun k hl=>by rw[hsg];simp only;rw[if_pos hl]
 have hnew:∀k,W.heap.size≤k→sg' k≠.no→F' k:=fun k hl hne=>by
  rw[hsg] at hne;simp only at hne;rw[if_neg (by omega)] at hne;by_cases hf:F' k
  ·exact hf
  ·rw[if_neg hf] at hne;exact absurd rfl hne
 have hF2:∀k,F' k→sg' k=.rib i:=fun k hf=>by
  rcases hF k hf with h1|⟨h1,-⟩
  ·rw[hs k (h.dom k (by rw[h1];intro e;cases e)).2.1];exact h1
  ·rw[hsg];simp only;rw[if_neg (by omega),if_pos hf]
 obtain⟨k1,k2,k3,k4,k5,k6⟩:=h.keep (sg':=sg') (.rib i) hk (fun k _ e=>.inl e) hs;have ol:∀k c,sg k=c→c≠.no→sg' k=c:=fun k c e hc=>(hs k (h.dom k (by rw[e];exact hc)).2.1).trans e;refine⟨sg',⟨h.domE hs hk.size fun k hl hne=>⟨hn k hl,?_,by omega⟩,k1 (by intro e;cases e),ol _ _ h.rwb (by decide),k2 (by intro e;cases e),ol _ _ h.rrg (by decide),h.rln,fun j q hj=>?_,k4 (by intro e;cases e),ol _ _ h.rkb (by decide),k5 (by intro e;cases e),h.tln,(k6 (by intro e;cases e)).1,fun k hk'=>ol _ _ (h.rag k hk') (by decide),h.aln⟩,hs,hnew⟩
 ·rcases hF k (hnew k hl hne) with h1|h1
  ·have:=(h.dom k (by rw[h1];intro e;cases e)).2.1;omega
  ·exact h1.2
 ·by_cases e:j=i
  ·subst e;rw[hr] at hj;injection hj with hj;subst hj;rw[setF_same];exact hm.wide hF2
  ·rw[setF_other _ e];exact k3 j q (by intro e2;injection e2 with e2;exact e e2.symm) hj
theorem LwM.setTold (h:LwM W rho sg BB N most R bl th L kl al) {G D':Nat→Prop} {tbs':List Nat} {kl':List (List (Pf×BE))} (hk:Kept G W W1) (hG:∀k,k<W.heap.size→G k→sg k=.told) (hm:KnM W1 rho BB L.tg L.tc 64 tbs' kl' D')
  (hD:∀k,k<W.heap.size→(k∈L.tg::tbs'∨D' k)→sg k=.told) (hl:tbs'.length=N) (hB:BB≤W.heap.size):∃sg',LwM W1 rho sg' BB N most R bl th {L with tbs:=tbs'} kl' al∧(∀k,k<W.heap.size→sg' k=sg k)∧∀k,W.heap.size≤k→sg' k≠.no→(k∈L.tg::tbs'∨D' k):=by
 classical
 obtain⟨sg',hsg⟩:∃sg':Nat→Lc,sg'=fun k=>if k<W.heap.size then sg k else if (k∈L.tg::tbs'∨D' k) then .told else .no:=⟨_,rfl⟩
 have hs:∀k,k<W.heap.size→sg' k=sg k:=fun k hl=>by rw[hsg];simp only;rw[if_pos hl]
 have hnew:∀k,W.heap.size≤k→sg' k≠.no→(k∈L.tg::tbs'∨D' k):=fun k hl hne=>by
  rw[hsg] at hne;simp only at hne;rw[if_neg (by omega)] at hne;by_cases hf:k∈L.tg::tbs'∨D' k
  ·exact hf
  ·rw[if_neg hf] at hne;exact absurd rfl hne
 obtain⟨k1,k2,k3,k4,k5,k6⟩:=h.keep (sg':=sg') .told hk (fun k hl e=>.inl (hG k hl e)) hs;have ol:∀k c,sg k=c→c≠.no→sg' k=c:=fun k c e hc=>(hs k (h.dom k (by rw[e];exact hc)).2.1).trans e;refine⟨sg',⟨h.domE hs hk.size fun k hl' hne=>⟨(hm.no k (hnew k hl' hne)).1,(hm.no k (hnew k hl' hne)).2,by omega⟩,k1 (by decide),ol _ _ h.rwb (by decide),k2 (by decide),ol _ _ h.rrg (by decide),h.rln,fun j q hj=>k3 j q (by intro e;cases e) hj,k4 (by decide),ol _ _ h.rkb (by decide),⟨D',hm,fun k hk'=>?_⟩,hl,(k6 (by decide)).1,fun k hk'=>ol _ _ (h.rag k hk') (by decide),h.aln⟩,hs,hnew⟩;by_cases hl':k<W.heap.size
 ·rw[hs k hl'];exact hD k hl' hk'
 ·rw[hsg];simp only;rw[if_neg hl',if_pos hk']
theorem LwM.setAgain (h:LwM W rho sg BB N most R bl th L kl al) {G:Nat→Prop} {abs':List Nat} {al':List (List (Pf×Bool))} (hk:Kept G W W1) (hG:∀k,k<W.heap.size→G k→sg k=.again) (hm:AgM W1 rho BB L.ag L.ac abs' al')
  (hD:∀k,k<W.heap.size→k∈L.ag::abs'→sg k=.again) (hl:abs'.length=N) (hB:BB≤W.heap.size):∃sg',LwM W1 rho sg' BB N most R bl th {L with abs:=abs'} kl al'∧(∀k,k<W.heap.size→sg' k=sg k)∧∀k,W.heap.size≤k→sg' k≠.no→k∈L.ag::abs':=by
 classical
 obtain⟨sg',hsg⟩:∃sg':Nat→Lc,sg'=fun k=>if k<W.heap.size then sg k else if k∈L.ag::abs' then .again else .no:=⟨_,rfl⟩
 have hs:∀k,k<W.heap.size→sg' k=sg k:=fun k hl=>by rw[hsg];simp only;rw[if_pos hl]
 have hnew:∀k,W.heap.size≤k→sg' k≠.no→k∈L.ag::abs':=fun k hl hne=>by
  rw[hsg] at hne;simp only at hne;rw[if_neg (by omega)] at hne;by_cases hf:k∈L.ag::abs'
  ·exact hf
  ·rw[if_neg hf] at hne;exact absurd rfl hne
 obtain⟨k1,k2,k3,k4,k5,k6⟩:=h.keep (sg':=sg') .again hk (fun k hl e=>.inl (hG k hl e)) hs;have ol:∀k c,sg k=c→c≠.no→sg' k=c:=fun k c e hc=>(hs k (h.dom k (by rw[e];exact hc)).2.1).trans e;refine⟨sg',⟨h.domE hs hk.size fun k hl' hne=>⟨(hm.no k (hnew k hl' hne)).1,(hm.no k (hnew k hl' hne)).2,by omega⟩,k1 (by decide),ol _ _ h.rwb (by decide),k2 (by decide),ol _ _ h.rrg (by decide),h.rln,fun j q hj=>k3 j q (by intro e;cases e) hj,k4 (by decide),ol _ _ h.rkb (by decide),k5 (by decide),h.tln,hm,fun k hk'=>?_,hl⟩,hs,hnew⟩;by_cases hl':k<W.heap.size
 ·rw[hs k hl'];exact hD k hl' hk'
 ·rw[hsg];simp only;rw[if_neg hl',if_pos hk']
end
open Go.RowKit
def wgo (th bl:Nat→Bool) (k rc:Nat) (a:At):Bool:=th k&&(!bl (k*16+rc)&&goesB 65000 (fun _=>false) a k rc (65001+rc))
def wone (R:Nat→Rts) (th bl:Nat→Bool) (rc:Nat) (p:Pf) (k:Nat):List Cd:=match getL (R k) p with|none=>[]|some a=>if wgo th bl k rc a then [cdOf k p (k+1) a] else []
def wof (R:Nat→Rts) (th bl:Nat→Bool) (rc:Nat) (p:Pf):Nat→List Cd
 |0=>[]
 |k+1=>wof R th bl rc p k++wone R th bl rc p k
theorem wof_len (R:Nat→Rts) (th bl:Nat→Bool) (rc:Nat) (p:Pf):∀k,(wof R th bl rc p k).length≤k
 |0=>by simp[wof]
 |k+1=>by
  have:=wof_len R th bl rc p k;have:(wone R th bl rc p k).length≤1:=by unfold wone;split<;>(try split)<;>simp
  rw[wof,List.length_append];omega
theorem wof_mem {R:Nat→Rts} {th bl:Nat→Bool} {rc:Nat} {p:Pf} {c:Cd}:∀{k:Nat},c∈wof R th bl rc p k→∃(i:Nat) (a:At),i<k∧getL (R i) p=some a∧wgo th bl i rc a=true∧c=cdOf i p (i+1) a
 |0,h=>by simp[wof] at h
 |k+1,h=>by
  rw[wof,List.mem_append] at h;rcases h with h|h
  ·obtain⟨i,a,h1,h2⟩:=wof_mem h;exact⟨i,a,by omega,h2⟩
  ·unfold wone at h;cases hg:getL (R k) p with
   |none=>rw[hg] at h;simp at h
   |some a=>
    rw[hg] at h;simp only at h;split at h
    ·rename_i hw;exact⟨k,a,by omega,hg,hw,List.mem_singleton.1 h⟩
    ·simp at h
theorem wof_no {R:Nat→Rts} {th bl:Nat→Bool} {rc:Nat} {p:Pf} {k:Nat} (h:wone R th bl rc p k=[]):wof R th bl rc p (k+1)=wof R th bl rc p k:=by rw[wof,h,List.append_nil]
theorem wone_none {R:Nat→Rts} {th bl:Nat→Bool} {rc:Nat} {p:Pf} {k:Nat} (h:getL (R k) p=none):wone R th bl rc p k=[]:=by unfold wone;rw[h]
theorem wone_some {R:Nat→Rts} {th bl:Nat→Bool} {rc:Nat} {p:Pf} {k:Nat} {a:At} (h:getL (R k) p=some a):wone R th bl rc p k=if wgo th bl k rc a then [cdOf k p (k+1) a] else []:=by unfold wone;rw[h]
theorem wd_up (N:Nat) (th:Nat→Bool) (L:Lw):∀i,i<16→(wdC N th L)[1+i]? =some (.bool (th i))
 |0,_=>rfl
 |1,_=>rfl
 |2,_=>rfl
 |3,_=>rfl
 |4,_=>rfl
 |5,_=>rfl
 |6,_=>rfl
 |7,_=>rfl
 |8,_=>rfl
 |9,_=>rfl
 |10,_=>rfl
 |11,_=>rfl
 |12,_=>rfl
 |13,_=>rfl
 |14,_=>rfl
 |15,_=>rfl
 |n+16,h=>by omega
theorem OwnCv.made (w:World):OwnCv (w.alloc (.cells #[] 99)) w.heap.size (.slice (some ⟨w.heap.size,0,none⟩) 0 0) [] (fun _=>False):=
 ⟨own_empty (Nat.le_refl _),fun _ _ x hx=>(by cases hx),fun _ h=>h.elim,fun _ _ h=>h⟩
theorem zero_boB:∀w,(zeroValue 4).run Tryz.prog w=.ok (.bool false) w:=by intro w;kernel_rfl
section
variable {W:World} {rho:Nat→Role} {sg:Nat→Lc} {BB N:Nat} {most:Int} {R:Nat→Rts} {bl th:Nat→Bool} {L:Lw} {kl:List (List (Pf×BE))} {al:List (List (Pf×Bool))}
theorem LwM.ribs (h:LwM W rho sg BB N most R bl th L kl al) {k:Nat} (hk:k<N):∃r,L.rbs[k]? =some r∧W.cell? ⟨L.rg,k,none⟩=some (rbV r)∧RibAt W r k 65000 most (R k) (fun q=>sg q=.rib k):=by
 have hr:L.rbs[k]? =some (L.rbs[k]'(by rw[h.rln];exact hk)):=List.getElem?_eq_getElem _;exact⟨_,hr,(own_row_cell h.row rfl (j:=k) (by rw[List.getElem?_map,hr];rfl)).1,h.rib k _ hr⟩
theorem LwM.pf (h:LwM W rho sg BB N most R bl th L kl al) {k:Nat} (hk:k<N) {p:Pf} {a:At} (hp:getL (R k) p=some a):RgtP p:=by
 obtain⟨r,-,-,tb,M,E,hI,he⟩:=h.ribs hk;rw[he,find_rts] at hp;cases hf:findE E p with
 |none=>rw[hf] at hp;cases hp
 |some e=>
  obtain⟨h1,rfl⟩:=findE_mem hf;exact hI.rgt e h1
theorem LwM.wofOk (h:LwM W rho sg BB N most R bl th L kl al) (hN:N≤16) (hG:∀(i:Nat) (p:Pf) (a:At),i<N→getL (R i) p=some a→GoodA a) {rc:Nat} {p:Pf} {k:Nat} (hk:k≤N):∀c∈wof R th bl rc p k,OkC c:=by
 intro c hc;obtain⟨i,a,h1,h2,-,rfl⟩:=wof_mem hc;obtain⟨x,n,rfl,hx,hn,-⟩:=(h.pf (by omega) h2).nat;refine⟨?_,?_,?_,?_,hG i _ a (by omega) h2⟩
 ·unfold cdOf I64r;simp only;omega
 ·unfold cdOf;simp only;omega
 ·unfold cdOf I64r;simp only;omega
 ·unfold cdOf;simp only;omega
theorem l_offers (h:LwM W rho sg BB N most R bl th L kl al) (hN:N≤16) {rc:Nat} (hrc:rc<N) (p:Pf) (hp:OkP p):
  Calls Tryz.prog 45 #[wdV N th L,.int .i64 rc,.agg #[.int .u32 p.1,.int .i64 p.2]] W fun e w'=>
   ∃(s:Option Addr) (c:Nat) (xs:List CV) (A:Nat→Prop),e=.returned (.slice s xs.length c)∧OwnCv w' W.heap.size (.slice s xs.length c) xs A∧xs.map (·.c)=wof R th bl rc p N∧Below W.heap.size W w':=by
 obtain⟨pn,hpn⟩:∃n:Nat,p.1=(n:Int):=Int.eq_ofNat_of_zero_le hp.1;have HPN:=jh hpn;have HS:=jh h;have HP:=jh hp;obtain⟨bls,hbk,-,hbg⟩:=h.blk;have LK0:Hid (∀(i:Nat),i<N→∀w',Below W.heap.size W w'→(Instr.lookup 88 (.map (some L.kb)) (k2V ((i:Int),(rc:Int))) false).run Tryz.prog w'=.ok (.bool (bl (i*16+rc))) w'):=jh (fun i hi w' hb=>by
  have:=hbk.look k2_enc Tryz.underlying88 ((i:Int),(rc:Int)) ⟨by unfold I64r;simp only;omega,by unfold I64r;simp only;omega⟩ zero_boB w' (hb.block _ hbk.lt) false;rw[←hbg i rc hi hrc];rw[this];cases getL bls ((i:Int),(rc:Int))<;>rfl)
 clear h hp hpn hbk hbg;go_enter Tryz.func45,Tryz.ntmps45;go_upto_region 1 with (fail)
 obtain⟨W0,hW0,q0,q1,hB⟩:=boxTwo W (wdC N th L) 91 #[.int .u32 p.1,.int .i64 p.2] 53;rw[←hW0];obtain⟨pb,hpb⟩:∃b,b=W.heap.size+1:=⟨_,rfl⟩
 obtain⟨wb,hwb⟩:∃b,b=W.heap.size:=⟨_,rfl⟩
 rw[←hpb] at q1 ⊢;rw[←hwb] at q0 ⊢;have x17:W0.cell? ⟨wb,17,none⟩=some (.slice (some ⟨L.rg,0,none⟩) N L.rc):=jB q0 17;have X18:Hid (W0.cell? ⟨wb,18,none⟩=some (.map (some L.kb))):=jh (jB q0 18);have XU:Hid (∀i,i<16→W0.cell? ⟨wb,1+i,none⟩=some (.bool (th i))):=jh (fun i hi=>(jB q0 (1+i)).trans (wd_up N th L i hi));have P0:Hid (W0.cell? ⟨pb,0,none⟩=some (.int .u32 p.1)):=jh (jB q1 0);have P1:Hid (W0.cell? ⟨pb,1,none⟩=some (.int .i64 p.2)):=jh (jB q1 1);have B0:=jh hB;clear hW0 q0 q1 hB hpb hwb;go_wp2_with fail;refine(ex_New 65000 W0).mono ?_;rintro e w1 ⟨rfl,hf,hb1⟩;have FL:Hid (FilAt w1 W0.heap.size 65000 (fun _=>false)):=jh (by simpa using hf);have B1:=jh hb1;obtain⟨fb,hfb⟩:∃b,b=W0.heap.size:=⟨_,rfl⟩
 rw[←hfb] at FL ⊢;have FBL:Hid (fb<w1.heap.size):=jh FL.out.lt;replace x17:=jA x17 hb1;clear hf hb1 hfb;go_upto_region 3 with (fail)
 obtain⟨w2,hw2⟩:∃w2,w2=w1.alloc (.cells #[] 99):=⟨_,rfl⟩
 have ON:Hid (OwnCv w2 w1.heap.size (.slice (some ⟨w1.heap.size,0,none⟩) 0 0) [] (fun _=>False)):=jh (by rw[hw2];exact OwnCv.made w1);have hb2:Below w1.heap.size w1 w2:=by rw[hw2];exact(Below.refl _ _).alloc (Nat.le_refl _) _
 rw[←hw2];replace x17:=jA x17 hb2;have FL2:=jh (FL.out.below hb2);have B02:=jh (jC B1.out hb2);have S12:Hid (w1.heap.size≤w2.heap.size):=jh hb2.size;have S01:Hid (W0.heap.size≤w1.heap.size):=jh B1.out.size;clear hw2 hb2 FL B1;go_wp2_with fail;clear x17;go_loopw [18,8] (fun t18 t8 wr=>∃(k:Nat) (s':Option Addr) (c':Nat) (xs:List CV) (A:Nat→Prop),k≤N∧t18=.int .i64 k∧t8=.slice s' xs.length c'∧xs.length≤k∧Hid (OwnCv wr w1.heap.size (.slice s' xs.length c') xs A)∧Hid (xs.map (·.c)=wof R th bl rc p k)∧Hid (Below w1.heap.size w2 wr)) (fun t18 _ _=>N - (intOf t18).toNat)
 case atStart=>exact⟨0,_,0,[],_,by omega,rfl,rfl,by simp,ON,jh rfl,jh ((Below.refl _ _).mono S12.out)⟩
 case round=>
  clear ON;obtain⟨k,s1,c1,xs,A,hk,rfl,rfl,xl,OC,XE,BV⟩:=hrel;have BX:Hid (Below W0.heap.size W0 wr):=jh (B02.out.trans (BV.out.mono S01.out));have BW:Hid (Below W.heap.size W wr):=jh (jC B0.out BX.out);by_cases hkl:k<N
  ·obtain⟨r,-,hcell,hrib⟩:=HS.out.ribs hkl;have r0:wr.cell? ⟨L.rg,k,none⟩=some (.pointer (some ⟨r,0,none⟩)):=jA hcell BW.out;have p0:=jA P0.out BX.out;have p1:=jA P1.out BX.out;have k0:(0:Int)≤(k:Int):=by omega
   have k1:(k:Int)<(N:Int):=by omega
   have GT:=jh (ad_Get p wr (hrib.below BW.out) HP.out);have WB:Hid (w1.heap.size≤wr.heap.size):=jh (Nat.le_trans S12.out BV.out.size);clear hcell hrib;cases hg:getL (R k) p with
   |none=>
    have GN:Hid (Calls Tryz.prog 75 #[.pointer (some ⟨r,0,none⟩),.agg #[.int .u32 p.1,.int .i64 p.2]] wr fun e w2=>e=.returned (.tuple #[.agg (rtC 0 (0,0) av0),.bool false])∧Below wr.heap.size wr w2):=jh (GT.out.mono fun e w2 h=>by
     rcases h with⟨-,h1,h2⟩|⟨a,v,h1,-⟩
     ·exact⟨h1,h2⟩
     ·rw[hg] at h1;cases h1)
    have XN:Hid (xs.map (·.c)=wof R th bl rc p (k+1)):=jh (by rw[wof_no (wone_none hg)];exact XE.out);clear hg GT;go_wp2_with fail;refine GN.out.mono ?_;rintro e w3 ⟨rfl,hb3⟩;have BV3:=jh (BV.out.trans (hb3.mono WB.out));have OC3:=jh (OC.out.below hb3);clear hb3 GN BV OC BX BW;go_wp2_with ((with_reducible refine jM (X:=.store 61 (.tmp 11) (.tmp 27)) ?_ ?_);(·rfl));unfold Halt;refine st_fresh rfl 61 (.tmp 11) (.tmp 27) rfl rfl _ (rtC 0 (0,0) av0) rfl sz_rt rfl (rt_one _ _ _) ?_;obtain⟨w4,hw4,-,hb4,-⟩:=box1 w3 (rtC 0 (0,0) av0) 61;rw[←hw4];simp only[Act.put];have BV4:Hid (Below w1.heap.size w2 w4):=jh (BV3.out.trans (hb4.mono (Nat.le_trans S12.out BV3.out.size)));have OC4:=jh (OC3.out.below hb4);clear hw4 hb4 BV3 OC3 r0 p0 p1;go_wp2_with fail;exact⟨⟨k+1,s1,c1,xs,A,by omega,by go_num,rfl,by omega,OC4,XN,BV4⟩,by simp[intOf];omega⟩
   |some a=>
    have GN:Hid (Calls Tryz.prog 75 #[.pointer (some ⟨r,0,none⟩),.agg #[.int .u32 p.1,.int .i64 p.2]] wr fun e w2=>∃v:AV,e=.returned (.tuple #[.agg (rtC k p v),.bool true])∧Fresh wr.heap.size w2 (fun W=>AvAt W a v)∧Below wr.heap.size wr w2):=jh (GT.out.mono fun e w2 h=>by
     rcases h with⟨h1,-⟩|⟨b,v,h1,h2,-,h4,h5⟩
     ·rw[hg] at h1;cases h1
     ·rw[hg] at h1;injection h1 with h1;subst h1;exact⟨v,h2,h4.imp fun _ h=>h.at,h5⟩)
    have XN:Hid (wof R th bl rc p (k+1)=wof R th bl rc p k++if wgo th bl k rc a then [cdOf k p (k+1) a] else []):=jh (by rw[wof,wone_some hg]);clear hg GT;go_wp2_with fail;refine GN.out.mono ?_;rintro e w3 ⟨v,rfl,fr,hb3⟩;have BV3:=jh (BV.out.trans (hb3.mono WB.out));have B03:=jh (jC BX.out hb3);have BW3:=jh (jC BW.out hb3);have HB3:=jh hb3;have FR:=jh fr;clear hb3 fr GN BV BX BW;go_wp2_with ((with_reducible refine jM (X:=.store 61 (.tmp 11) (.tmp 27)) ?_ ?_);(·rfl));unfold Halt;refine st_fresh rfl 61 (.tmp 11) (.tmp 27) rfl rfl _ (rtC k p v) rfl sz_rt rfl (rt_one _ _ _) ?_;obtain⟨w4,hw4,q4,hb4,-⟩:=box1 w3 (rtC k p v) 61;rw[←hw4];obtain⟨qb,hqb⟩:∃qb,qb=w3.heap.size:=⟨_,rfl⟩
    rw[←hqb] at q4 ⊢;simp only[Act.put];have BV4:Hid (Below w1.heap.size w2 w4):=jh (BV3.out.trans (hb4.mono (Nat.le_trans S12.out BV3.out.size)));have B04:=jh (jC B03.out hb4);have BW4:=jh (jC BW3.out hb4);have HB4:=jh (jC HB3.out hb4);have FR4:=jh (FR.out.below hb4);have Q4:=jh q4;have RX:=jh (rt_range q4);have FIL:Hid (FilAt w4 fb 65000 (fun _=>false)):=jh (FL2.out.kept (F:=fun q=>w1.heap.size≤q) ⟨BV4.out.os,BV4.out.tape,BV4.out.output,BV4.out.size,fun q _ hF=>BV4.out.block q (by omega)⟩ (by have:=FBL.out;omega));have QB:Hid (wr.heap.size≤qb):=jh (by rw[hqb];exact HB3.out.size);clear hw4 q4 hb4 BV3 B03 BW3 HB3 FR hqb r0 p0 p1;go_upto_region 7 with (fail)
    obtain⟨z,hz⟩:∃z,wgo th bl k rc a=z:=⟨_,rfl⟩
    have HZ:=jh hz;clear hz;go_cut [54] from 29 to 54 (fun s54 wx=>s54=.bool z∧Hid (Below w4.heap.size w4 wx))
    case first=>
     have u1:=jA (XU.out k (by omega)) B04.out;have k16:(k:Int)<16:=by omega
     cases ht:th k with
     |false=>
      have EZ:Hid (z=false):=jh (by rw[←HZ.out];unfold wgo;rw[ht];rfl);rw[ht] at u1;clear ht;go_wp2_with fail;go_meet;exact⟨by rw[EZ.out],jh (Below.refl _ _)⟩
     |true=>
      have x18:=jA X18.out B04.out;have lk:=LK0.out k hkl w4 BW4.out;rw[ht] at u1;have HT:=jh ht;clear ht;cases hbl:bl (k*16+rc) with
      |true=>
       have EZ:Hid (z=false):=jh (by rw[←HZ.out];unfold wgo;rw[HT.out,hbl];rfl);rw[hbl] at lk;clear hbl;go_wp2_with fail;go_meet;exact⟨by rw[EZ.out],jh (Below.refl _ _)⟩
      |false=>
       have EZ:Hid (z=goesB 65000 (fun _=>false) a k rc (65001+rc)):=jh (by rw[←HZ.out];unfold wgo;rw[HT.out,hbl];simp);rw[hbl] at lk;have GB:=jh (av_Goes fb 65000 (fun _=>false) a v k rc (65001+rc) (by omega) (by omega) w4 FIL.out FR4.out.self);have wr2:IntKind.i64.wrap ((65001:Int)+(rc:Int))=65001+(rc:Int):=IntWalk.i64_in _ (by omega);clear hbl;go_wp2_with ((with_reducible refine jM (X:=.load 42 (.tmp 47)) ?_ ?_);(·rfl));unfold Halt;refine ldm_at (by rfl) 42 (.tmp 47) rfl qb 3 rfl v.C.toList _ RX.out Tryz.underlying42 rfl sz_avS ?_;go_wp2_with fail;refine GB.out.mono ?_;rintro e w5 ⟨rfl,hb5⟩;have HB5:=jh hb5;clear hb5 u1 x18 lk wr2;go_wp2_with fail;go_meet;exact⟨by rw[EZ.out],HB5⟩
    case rest=>
     obtain⟨rfl,HH⟩:=hcut;obtain⟨wd,hwd⟩:∃wd:World,wd=wc:=⟨_,rfl⟩
     rw[←hwd] at HH ⊢;have BV5:Hid (Below w1.heap.size w2 wd):=jh (BV4.out.trans (HH.out.mono (Nat.le_trans S12.out BV4.out.size)));have H5:Hid (Below wr.heap.size wr wd):=jh (jC HB4.out HH.out);have FR5:=jh (FR4.out.below HH.out);have Q5:=jh ((HH.out.block _ (jE Q4.out)).trans Q4.out);clear hwd HH BV4 B04 BW4 HB4 FR4 Q4 RX FIL;rcases z with _|_
     ·have XN2:Hid (xs.map (·.c)=wof R th bl rc p (k+1)):=jh (by rw[XE.out,XN.out,HZ.out];simp);have OC5:=jh (OC.out.below H5.out);clear OC;go_wp2_with fail;exact⟨⟨k+1,s1,c1,xs,A,by omega,by go_num,rfl,by omega,OC5,XN2,BV5⟩,by simp[intOf];omega⟩
     ·obtain⟨cv,hcv⟩:∃cv:CV,cv=⟨cdOf k p (k+1) a,v⟩:=⟨_,rfl⟩
      have SG:=jh (fun (w2 w3:World) (v':Value) (b12:Below wd.heap.size wd w2) (h2:w3.ownsRow w1.heap.size 99 14 v' (xs.length+1) (xs.flatMap cvL++cvL cv)) hg hat=>OC.out.step (x:=cv) H5.out (Nat.le_refl _) WB.out (by rw[hcv];exact FR5.out) b12 h2 hg hat);have HBT:Hid (Tryz.prog.built 99 [(0,.agg (rtC k p v)),(1,.int .u32 ((k:Int)+1))]=some (cvA cv)):=jh (by
       have:=cv_built k p v pn (k+1) a HPN.out;rw[hcv];unfold cdOf;rw[HPN.out];exact this)
      have XN2:Hid ((xs++[cv]).map (·.c)=wof R th bl rc p (k+1)):=jh (by rw[List.map_append,XE.out,XN.out,HZ.out,hcv];rfl);have EL:Hid (xs.length+1=(xs++[cv]).length):=jh (by rw[List.length_append];rfl);have L1:Hid (xs.length+1≤maxLen):=jh (by unfold maxLen;omega);have L2:Hid ((xs.length+1)*160≤140737488355328):=jh (by omega);obtain⟨i0,hii,hz0,hz1,hz2⟩:=info_parts info_cand;have OWD:=jh (jQ OC.out.own H5.out);have WD:Hid (w1.heap.size≤wd.heap.size):=jh (Nat.le_trans S12.out BV5.out.size);have a1:IntKind.i64.wrap ((k:Int)+1)=(k:Int)+1:=IntWalk.i64_in _ (by omega);have a2:IntKind.u32.wrap ((k:Int)+1)=(k:Int)+1:=IntWalk.u32_in _ (by omega);clear hcv OC;go_wp2_with ((with_reducible refine jM (X:=.load 61 (.tmp 11)) ?_ ?_);(·rfl));unfold Halt;refine ld_at (by rfl) 61 (.tmp 11) rfl qb rfl 61 (rtC k p v) (0,0) _ Q5.out Tryz.underlying61 rfl sz_rt ?_;go_wp2_with ((with_reducible refine jM (X:=.build 99 #[(0,.tmp 56),(1,.tmp 59)]) ?_ ?_);(·rfl));unfold Halt;refine wpList_built rfl 99 #[(0,.tmp 56),(1,.tmp 59)] rfl [(0,.agg (rtC k p v)),(1,.int .u32 ((k:Int)+1))] ?hl1 (cvA cv) HBT.out ?_
      case hl1=>simp[Act.eval]
      go_wp2_with ((with_reducible refine jM (X:=.buildSlice 96 1 #[(0,.tmp 60)]) ?_ ?_);(·rfl));unfold Halt;refine wpList_cv1 (.tmp 60) rfl rfl cv rfl ?_;intro wx hcs2 hb2;have OX:=jQ OWD.out hb2;have SX:Hid (w1.heap.size≤wx.heap.size):=jh (Nat.le_trans WD.out hb2.size);have HB2:=jh hb2;go_wp2_with (at_builtin;refine wpList_append_own_at _ rfl _ _ 96 rfl w1.heap.size 99 i0 _ 14 160 Tryz.underlying96 hii hz0 hz1 hz2 rfl (by decide) (.slice s1 xs.length c1) xs.length (xs.flatMap cvL) rfl OX ⟨wd.heap.size,0,none⟩ 1 1 (cvL cv) rfl (cvL_len _) hcs2 (cvL_one _) L1.out L2.out SX.out ?_);intro v' w' hown hgrow _ hat;obtain⟨s6,c6,hv6,-⟩:=jV hown;subst hv6;have OS:=jh (SG.out _ _ _ HB2.out hown hgrow hat);have BV6:Hid (Below w1.heap.size w2 w'):=jh ((BV5.out.trans (HB2.out.mono WD.out)).trans ((kept_gr hgrow).below SX.out (fun q hq=>jJ OX q hq)));clear hown hgrow hat hcs2 hb2 OX SG;rw[EL.out] at OS ⊢;go_wp2_with fail;exact⟨⟨k+1,s6,c6,xs++[cv],_,by omega,by go_num,rfl,by rw[←EL.out];omega,OS,XN2,BV6⟩,by simp[intOf];omega⟩
  ·obtain rfl:k=N:=by omega
   have OW:=jh OC.out;clear OC BV hk hkl;go_wp2_with fail;go_ret;exact⟨s1,c1,xs,A,rfl,OW.out.base (Nat.le_trans B0.out.size S01.out),XE.out,BW.out⟩
end
open Go.RowKit
section
variable {w W:World} {rho:Nat→Role} {sb fb:Nat} {ls:List Pl} {A:Ab} {S:Sv}
theorem sv_Sides (h:SrvM W rho sb fb ls S):Calls Tryz.prog 33 #[.pointer (some ⟨sb,0,none⟩)] W fun e w'=>e=.returned (.int .i64 S.ms.length)∧W=w':=by
 obtain⟨s,cap,c0,-,-⟩:=h.cells;clear h;go_enter Tryz.func33,Tryz.ntmps33;go_wp2_with fail;go_ret;exact⟨rfl,rfl⟩
end
open Go.RowKit
def mayN (L:List Nat):Nat:=L.foldl (fun m n=>m ||| 2^n) 0
structure Ky where
 from_:Int
 best:Int
 may:Int
deriving DecidableEq,Inhabited
def ky0:Ky:=⟨0,0,0⟩
def Ab.may (A:Ab) (i:Nat) (p:Pf):Nat:=mayN ((A.offs i p).map (·.peer.toNat))
def Ab.key (A:Ab) (i:Nat) (p:Pf):Option Ky:=(A.best i p).map fun b=>⟨i,b.1,A.may i p⟩
def Ab.keyI (A:Ab) (n:Int) (p:Pf):Option Ky:=if 0≤n∧n<(A.V.length:Int) then A.key n.toNat p else none
open Go.RowKit
section
variable {w W:World} {rho:Nat→Role} {sb fb:Nat} {ls:List Pl} {A:Ab}
end
open Go.RowKit
def klt (k l:Ky):Prop:=k.from_<l.from_∨k.from_=l.from_∧(k.best<l.best∨k.best=l.best∧k.may<l.may)
open Go.RowKit
open Go.RowKit Go.Maps Go.ChangeMaps Go.MapKept
section
variable {κ υ:Type} [DecidableEq κ] {P:Program} {kt et t:TypeId} {ek:κ→Value} {ev:υ→Value} {ok:κ→Prop} {W W':World} {b:Nat} {l:List (κ×υ)}
def StampAt (ek:κ→Value) (W:World) (b:Nat) (a:κ) (s:Nat):Prop:=∃es clock,W.heap[b]? =some (.map es clock)∧∃e∈es.toList,e.born=s∧e.key=ek a
theorem putL_same {l:List (κ×υ)} {a:κ} {v:υ} (hd:KeysApart l) (h:getL l a=some v):putL l a v=l:=by
 unfold putL;have e:∀p∈l,(fun p:κ×υ=>if p.1=a then (a,v) else p) p=id p:=by
  intro p hp;by_cases e:p.1=a
  ·have:=getL_of_mem hd (a:=p.1) (v:=p.2) hp;rw[e,h] at this;injection this with this;show (if p.1=a then (a,v) else p)=p;rw[if_pos e,this,←e]
  ·exact if_neg e
 rw[h,if_pos (by rfl:(some v).isSome=true),List.map_congr_left e,List.map_id]
theorem MapT.entry (E:KeyEnc P kt ek ok) (h:MapT ek ev ok W b l) (ht:P.underlying t=some (.map kt et)) (a:κ) (ha:ok a) (z:υ) (hz:∀w,(zeroValue et).run P w=.ok (ev z) w) (hroom:l.length<maxLen) (w:World) (hw:w.heap[b]? =W.heap[b]?):
  ∃(o:Obj) (s:Nat),(Instr.mapEntry t (.map (some b)) (ek a)).run P w=.ok (.tuple #[ev ((getL l a).getD z),goInt (s:Int)]) (setBlock w b o)∧MapT ek ev ok (setBlock w b o) b (putL l a ((getL l a).getD z))∧StampAt ek (setBlock w b o) b a s:=by
 have hd:=h.apart;obtain⟨es,ck,hb,hst,hsz,hl,hok⟩:=h;rw[←hw] at hb;obtain⟨x,hx⟩:=E.lit a ha;have hlen:=congrArg List.length hl;simp at hlen;rcases find_at E hl hok hd a ha w with⟨h1,h2,h3⟩|⟨v0,j,e,h1,h2,h3,h4,h5,h6⟩
 ·rw[h1];have hpok:∀p∈putL l a z,ok p.1:=by
   intro p hp;rcases mem_put hp with⟨hp,_⟩|rfl
   ·exact hok p hp
   ·exact ha
  refine⟨.map (es.push ⟨ek a,ev z,ck⟩) (ck+1),ck,?_,⟨_,_,heap_setBlock_same hb _,stamped_push hst h3,by simp;omega,?_,hpok⟩,⟨_,_,heap_setBlock_same hb _,⟨ek a,ev z,ck⟩,by simp,rfl,rfl⟩⟩
  ·unfold Instr.mapEntry;simp[run_underlying ht,MapKept.run_getObj_map hb,E.K.check w _ hx,h2,hz,MapKept.run_setObj_map _ hb,Result.andThen,setBlock]
  ·unfold putL;rw[h1];simp[hl]
 ·rw[h1];have hj:es[j]? =some e:=by simpa using h3
  have hsame:es.modify j (fun e'=>{e' with key:=ek a})=es:=by
   apply Array.toList_inj.1;rw[Array.toList_modify,modify_eq_set _ _ _ _ h3];apply List.ext_getElem?;intro i;rw[List.getElem?_set];by_cases hij:j=i
   ·subst hij;have hlt:=(List.getElem?_eq_some_iff.1 h3).1;rw[if_pos rfl,if_pos hlt,h3];congr 1;cases e
    simp at h4;simp[h4]
   ·rw[if_neg hij]
  refine⟨.map es ck,e.born,?_,⟨_,_,heap_setBlock_same hb _,hst,hsz,?_,?_⟩,⟨_,_,heap_setBlock_same hb _,e,List.mem_of_getElem? h3,rfl,h4⟩⟩
  ·unfold Instr.mapEntry;have hcl:∀q:Value,(Instr.keyThatStays q q).run P w=.ok q w→True:=fun _ _=>trivial;simp[run_underlying ht,MapKept.run_getObj_map hb,E.K.check w _ hx,h2,hj,h4,E.K.stays w hx,MapKept.run_setObj_map _ hb,Result.andThen,setBlock,hsame,h5]
  ·show _=(putL l a v0).map _;rw[putL_same hd h1];exact hl
  ·intro p hp;have:p∈putL l a v0:=hp;rw[putL_same hd h1] at this;exact hok p this
end
section
variable {P:Program} {o:Oper} {a:Act} {w w':World} {K:Act→World→Prop} {Q:Exit→Act→World→Prop}
end
open Go.RowKit
def psOf (kf:Pf→Ky) (k:Ky) (l:List Pf):List Pf:=l.filter fun p=>decide (kf p=k)
theorem psOf_snoc_same {kf:Pf→Ky} (l:List Pf) (p:Pf):psOf kf (kf p) (l++[p])=psOf kf (kf p) l++[p]:=by unfold psOf;rw[List.filter_append];simp
theorem psOf_snoc_other {kf:Pf→Ky} {k:Ky} (l:List Pf) {p:Pf} (h:kf p≠k):psOf kf k (l++[p])=psOf kf k l:=by unfold psOf;rw[List.filter_append];simp[h]
theorem psOf_mem {kf:Pf→Ky} {k:Ky} {l:List Pf} {p:Pf}:p∈psOf kf k l↔p∈l∧kf p=k:=by unfold psOf;simp
def KyOk (k:Ky):Prop:=I64r k.from_∧I64r k.best∧I64r k.may
abbrev nilS:Value:=.slice none 0 0
structure GrK (kf:Pf→Ky) (done:List Pf) (M:List (Ky×Value)) (w:World) (B:Nat):Prop where
 own:∀x∈M,w.ownsRow B 53 2 x.2 (psOf kf x.1 done).length ((psOf kf x.1 done).flatMap encP)
 sep:∀x∈M,∀y∈M,x.1≠y.1→∀b,x.2.ownBlock=some b→y.2.ownBlock≠some b
 cov:∀p∈done,kf p∈M.map (·.1)
 non:∀x∈M,psOf kf x.1 done≠[]
 short:M.length≤done.length
 oks:∀x∈M,KyOk x.1
theorem own_kindsK {w:World} {B B' k k' n n':Nat} {e e':TypeId} {v v':Value} {xs xs':List Value} (h:w.ownsRow B e k v n xs) (h':w.ownsRow B' e' k' v' n' xs') (hne:e≠e'):∀b,v.ownBlock=some b→v'.ownBlock≠some b:=by
 obtain⟨_,⟨rfl,_⟩|⟨g,cap,cur,rfl,hB,hg,_⟩⟩:=h
 ·intro b hb;cases hb
 ·obtain⟨_,⟨rfl,_⟩|⟨g',cap',cur',rfl,hB',hg',_⟩⟩:=h'
  ·intro b _ hb;cases hb
  ·intro b h1 h2;injection h1 with h1;injection h2 with h2;simp only at h1 h2;rw[h1] at hg;rw[h2] at hg';rw[hg] at hg';injection hg' with hg';injection hg' with _ hg' _;exact hne hg'
section
variable {kf:Pf→Ky} {done:List Pf} {M:List (Ky×Value)} {w w1 w2:World} {B mb:Nat}
theorem GrK.nil (w:World) (B:Nat):GrK kf [] [] w B:=⟨fun x h=>(by cases h),fun x h=>(by cases h),fun x h=>(by cases h),fun x h=>(by cases h),Nat.le_refl _,fun x h=>by cases h⟩
theorem GrK.below (h:GrK kf done M w B) (hb:Below w.heap.size w w1):GrK kf done M w1 B:=⟨fun x hx=>jQ (h.own x hx) hb,h.sep,h.cov,h.non,h.short,h.oks⟩
theorem GrK.kept {F:Nat→Prop} (h:GrK kf done M w B) (hk:Kept F w w1) (hF:∀x∈M,∀b,x.2.ownBlock=some b→¬F b):GrK kf done M w1 B:=
 ⟨fun x hx=>((own_on (h.own x hx)).kept hk fun b _ hb=>hF x hx b hb).self,h.sep,h.cov,h.non,h.short,h.oks⟩
theorem GrK.at (h:GrK kf done M w B) (k:Ky):w.ownsRow B 53 2 ((getL M k).getD nilS) (psOf kf k done).length ((psOf kf k done).flatMap encP):=by
 cases hg:getL M k with
 |some v=>exact h.own (k,v) (getL_mem hg)
 |none=>
  have e:psOf kf k done=[]:=by
   rw[List.eq_nil_iff_forall_not_mem];intro p hp;obtain⟨h1,h2⟩:=psOf_mem.1 hp;obtain⟨x,hx,e⟩:=List.mem_map.1 (h.cov p h1);exact getL_none.1 hg x hx (e.trans h2)
  rw[e];exact⟨rfl,.inl ⟨rfl,rfl⟩⟩
theorem GrK.put (h:GrK kf done M w B) (hap:KeysApart M) {p:Pf} {v':Value} (ho:w1.ownsRow B 53 2 v' ((psOf kf (kf p) done).length+1) ((psOf kf (kf p) done).flatMap encP++encP p)) (hk:Kept (fun b=>((getL M (kf p)).getD nilS).ownBlock=some b) w w1)
  (hat:v'.ownBlock=((getL M (kf p)).getD nilS).ownBlock∨∃b,v'.ownBlock=some b∧w.heap.size≤b) (hok:KyOk (kf p)):GrK kf (done++[p]) (putL M (kf p) v') w1 B:=by
 have hv0:∀x∈M,x.1≠kf p→∀b,x.2.ownBlock=some b→((getL M (kf p)).getD nilS).ownBlock≠some b:=by
  intro x hx hne b hb;cases hg:getL M (kf p) with
  |none=>intro e;cases e
  |some v=>exact h.sep x hx (kf p,v) (getL_mem hg) hne b hb
 have olt:∀x∈M,∀b,x.2.ownBlock=some b→b<w.heap.size:=fun x hx b hb=>by
  obtain⟨_,⟨e,_⟩|⟨g,cap,cur,e,_,hg,_⟩⟩:=h.own x hx
  ·rw[e] at hb;cases hb
  ·rw[e] at hb;injection hb with hb;simp only at hb;rw[←hb];exact jE hg
 have hne':∀x∈M,x.1≠kf p→∀b,x.2.ownBlock=some b→v'.ownBlock≠some b:=by
  intro x hx hne b hb e;rcases hat with h1|⟨c,h1,h2⟩
  ·exact hv0 x hx hne b hb (h1.symm.trans e)
  ·rw[h1] at e;injection e with e;have:=olt x hx b hb;omega
 refine⟨fun x hx=>?_,fun x hx y hy hne b hb=>?_,fun q hq=>?_,fun x hx=>?_,?_,fun x hx=>?_⟩
 ·rcases mem_put hx with⟨h1,h2⟩|rfl
  ·rw[psOf_snoc_other done (fun e=>h2 e.symm)];exact((own_on (h.own x h1)).kept hk fun b _ hb e=>hv0 x h1 h2 b hb e).self
  ·show w1.ownsRow B 53 2 v' (psOf kf (kf p) (done++[p])).length _;rw[psOf_snoc_same,List.length_append,List.flatMap_append];simpa using ho
 ·rcases mem_put hx with⟨h1,h2⟩|rfl
  ·rcases mem_put hy with⟨h3,h4⟩|rfl
   ·exact h.sep x h1 y h3 hne b hb
   ·exact hne' x h1 h2 b hb
  ·rcases mem_put hy with⟨h3,h4⟩|rfl
   ·exact fun e=>hne' y h3 h4 b e hb
   ·exact absurd rfl hne
 ·have hk':∀k,k∈M.map (·.1)→k∈(putL M (kf p) v').map (·.1):=by
   intro k hk';obtain⟨x,hx,rfl⟩:=List.mem_map.1 hk';have:getL (putL M (kf p) v') x.1≠none:=by
    rw[getL_put];split
    ·simp
    ·rw[getL_of_mem hap (a:=x.1) (v:=x.2) hx];simp
   cases hg:getL (putL M (kf p) v') x.1 with
   |none=>exact absurd hg this
   |some u=>exact List.mem_map.2 ⟨_,getL_mem hg,rfl⟩
  rcases List.mem_append.1 hq with hq|hq
  ·exact hk' _ (h.cov q hq)
  ·rw[List.mem_singleton] at hq;subst hq;have:getL (putL M (kf q) v') (kf q)=some v':=by rw[getL_put,if_pos rfl]
   exact List.mem_map.2 ⟨_,getL_mem this,rfl⟩
 ·rcases mem_put hx with⟨h1,h2⟩|rfl
  ·rw[psOf_snoc_other done (fun e=>h2 e.symm)];exact h.non x h1
  ·show psOf kf (kf p) (done++[p])≠[];rw[psOf_snoc_same];simp
 ·rw[len_put,List.length_append];have:=h.short;split
  ·simp;omega
  ·simp;omega
 ·rcases mem_put hx with⟨h1,-⟩|rfl
  ·exact h.oks x h1
  ·exact hok
end
open Go.RowKit
instance (x y:Ky):Decidable (klt x y):=by unfold klt;infer_instance
open Go.RowKit
theorem info_prefK:(Tryz.prog.info? 53).map (fun i=>(i.zero,i.size,i.bytes))=some (some (.agg #[.int .u32 0,.int .i64 0]),2,16):=by kernel_rfl
theorem StampAt.of_block {κ:Type} {ek:κ→Value} {W W':World} {b:Nat} {a:κ} {s:Nat} (h:StampAt ek W b a s) (hb:W'.heap[b]? =W.heap[b]?):StampAt ek W' b a s:=by
 obtain⟨es,ck,h1,h2⟩:=h;exact⟨es,ck,hb.trans h1,h2⟩
theorem Kept.up {F G:Nat→Prop} {a b c:World} (h:Kept F a b) (k:Kept G b c) (hG:∀i,G i→a.heap.size≤i∨F i):Kept F a c:=
 ⟨k.os.trans h.os,k.tape.trans h.tape,k.output.trans h.output,Nat.le_trans h.size k.size,fun i hi hf=>(k.block i (Nat.lt_of_lt_of_le hi h.size) (fun g=>(hG i g).elim (fun h2=>by omega) hf)).trans (h.block i hi hf)⟩
open Go.RowKit
theorem nodup_sub {α:Type} [DecidableEq α]:∀(l m:List α),l.Nodup→(∀x∈l,x∈m)→l.length≤m.length
 |[],_,_,_=>Nat.zero_le _
 |x::l,m,hn,hs=>by
  have hx:=hs x (List.mem_cons_self ..);obtain⟨h1,h2⟩:=List.nodup_cons.1 hn;have:=nodup_sub l (m.erase x) h2 fun y hy=>by
   have hne:y≠x:=fun e=>h1 (e▸hy);exact(List.mem_erase_of_ne hne).2 (hs y (List.mem_cons_of_mem _ hy))
  rw[List.length_erase_of_mem hx] at this;have hp:0<m.length:=List.length_pos_of_mem hx;rw[List.length_cons];omega
def Ab.bestI (A:Ab) (n:Int) (p:Pf):Option (Int×At):=if 0≤n∧n<(A.V.length:Int) then A.best n.toNat p else none
def Ab.kf (A:Ab) (n:Int) (p:Pf):Ky:=(A.keyI n p).getD ky0
section
variable {w W:World} {rho:Nat→Role} {sb fb:Nat} {ls:List Pl} {A:Ab}
theorem LSv.short (h:LSv w W rho sb fb ls A) {n:Nat} {v:VM} (hv:A.V[n]? =some v):v.2.2.length≤256:=by
 obtain⟨S,h1,h2⟩:=h.srv;have hn:n<S.ms.length:=by rw[h2.len];exact(List.getElem?_eq_some_iff.1 hv).1
 obtain⟨m,hm⟩:∃m,S.ms[n]? =some m:=⟨_,List.getElem?_eq_getElem hn⟩
 obtain⟨l,-,hM⟩:=h1.get hm;have e:=(h2.get hm).1;rw[hv] at e;injection e with e;subst e;obtain⟨tb,N,E,hI,he⟩:=hM.rib;have r1:=hI.room;have r2:=hI.most1;have:m.R.length=E.length:=by rw[he];simp[rts]
 show m.R.length≤256;omega
end
open Go.RowKit
def saysK (ms:List Pm) (k:Nat) (p:Pf):Prop:=∃(i:Nat) (m:Pm),i<k∧ms[i]? =some m∧(getL m.R p).isSome=true
theorem saysK_succ {ms:List Pm} {k:Nat} {m:Pm} (hm:ms[k]? =some m) (p:Pf):saysK ms (k+1) p↔saysK ms k p∨(getL m.R p).isSome=true:=by
 constructor
 ·rintro⟨i,n,h1,h2,h3⟩;rcases Nat.lt_or_ge i k with h|h
  ·exact .inl ⟨i,n,h,h2,h3⟩
  ·obtain rfl:i=k:=by omega
   rw[hm] at h2;injection h2 with h2;subst h2;exact .inr h3
 ·rintro (⟨i,n,h1,h2,h3⟩|h)
  ·exact⟨i,n,by omega,h2,h3⟩
  ·exact⟨k,m,by omega,hm,h⟩
def NetsPost (ms:List Pm) (W:World) (e:Ending) (w':World):Prop:=
 ∃(v:Value) (ps:List Pf),e=.returned v∧OwnPs w' W.heap.size v ps∧Srt ps∧(∀p,p∈ps↔saysK ms ms.length p)∧(∀p∈ps,RgtP p)∧ps.length≤4096∧Below W.heap.size W w'
section
variable {W:World} {rho:Nat→Role} {sb fb:Nat} {ls:List Pl} {S:Sv}
theorem SrvM.room (h:SrvM W rho sb fb ls S) {k:Nat} {m:Pm} (hm:S.ms[k]? =some m):m.R.length≤256:=by
 obtain⟨l,-,hM⟩:=h.get hm;obtain⟨tb,N,E,hI,he⟩:=hM.rib;have r1:=hI.room;have r2:=hI.most1;have:m.R.length=E.length:=by rw[he];simp[rts]
 omega
theorem sv_Nets (h:SrvM W rho sb fb ls S):Calls Tryz.prog 34 #[.pointer (some ⟨sb,0,none⟩)] W (NetsPost S.ms W):=by
 obtain⟨s,cap,c0,-,cm⟩:=h.cells;obtain⟨i0,hii,hz0,hz1,hz2⟩:=info_parts info_prefK;have few:=h.bod.few;have len:=h.bod.len;have HS:=jh h;have CM:=jh cm;have LEN:=jh len;have O0:Hid (OwnPs W W.heap.size (.slice none 0 0) []):=jh ⟨World.ownsRow_nil _ _ _ _,fun p hp=>by cases hp⟩;have N0:Hid (∀p,p∈([]:List Pf)↔saysK S.ms 0 p):=jh (fun p=>by
  constructor
  ·intro hp;cases hp
  ·rintro⟨i,m,hi,-⟩;omega)
 clear h cm len;go_enter Tryz.func34,Tryz.ntmps34;go_wp2_with fail;go_loopw [3,15] (fun t3 t15 wr=>∃(k:Nat) (s3:Option Addr) (c3:Nat) (xs:List Pf),k≤S.ms.length∧t15=.int .i64 k∧t3=.slice s3 xs.length c3∧Hid (OwnPs wr W.heap.size (.slice s3 xs.length c3) xs)∧Hid (∀p,p∈xs↔saysK S.ms k p)∧Hid (∀p∈xs,RgtP p)∧Hid (xs.length≤k*256)∧Hid (Below W.heap.size W wr)) (fun _ t15 _=>S.ms.length - (intOf t15).toNat)
 case atStart=>exact⟨0,none,0,[],by omega,rfl,rfl,O0,N0,jh (fun p hp=>by cases hp),jh (by simp),jh (Below.refl _ _)⟩
 case round=>
  clear O0 N0;obtain⟨k,s3,c3,xs,hk,rfl,rfl,OX,MX,RX,LX,BX⟩:=hrel;by_cases hkl:k<S.ms.length
  ·obtain⟨m,hm⟩:∃m,S.ms[k]? =some m:=⟨_,List.getElem?_eq_getElem hkl⟩
   obtain⟨l,hl,hM⟩:=HS.out.get hm;obtain⟨g,o,rfl,cl⟩:=CM.out k l hl;have SW:=HS.out.below BX.out;obtain⟨l',hl',hM'⟩:=SW.get hm;rw[hl] at hl';injection hl' with hl';subst hl';have c1:=jA c0 BX.out;have c2:=jA cl BX.out;have m3:wr.cell? ⟨l.mb,3,none⟩=some (.pointer (some ⟨l.rb,0,none⟩)):=jB hM'.row 3;have AL:=jh (ad_All wr hM'.rib);have RGT:Hid (∀p,(getL m.R p).isSome=true→RgtP p):=jh (fun p hp=>rts_right hM'.rib hp);have R256:=jh (HS.out.room hm);have SK:=jh (saysK_succ hm);have k0:(0:Int)≤(k:Int):=by omega
   have k1:(k:Int)<(S.ms.length:Int):=by omega
   have KL:=jh hkl;clear hm hl hM hM' SW cl hk hkl;go_wp2_with fail;refine AL.out.mono ?_;rintro e w3 ⟨v,vs,rfl,re,up,rm,hb3⟩;have VR:vs.length≤256:=by
    have h1:=nodup_sub (vs.map (·.p)) (m.R.map (·.1)) (srt_nodup up) (fun p hp=>by
     obtain⟨a,ha⟩:=Option.isSome_iff_exists.1 ((rm p).1 hp);exact List.mem_map.2 ⟨_,getL_mem ha,rfl⟩)
    rw[List.length_map,List.length_map] at h1;have:=R256.out;omega
   have HAS:=jh re.has;have OR:=jh (own_base re.own BX.out.size);obtain⟨sv,cv,rfl,-⟩:=jV re.own;have RM:Hid (∀p,p∈vs.map (·.p)↔(getL m.R p).isSome=true):=jh rm;have OX3:=jh (OX.out.below hb3);have B3:=jh (jC BX.out hb3);clear re up rm hb3 AL OX BX c1 c2 m3;go_wp2_with fail;go_loopw [3,25] (fun t3 t25 wz=>∃(z:Nat) (s4:Option Addr) (c4:Nat) (ys:List Pf),z≤vs.length∧t25=.int .i64 z∧t3=.slice s4 ys.length c4∧Hid (ys=xs++(vs.take z).map (·.p))∧Hid (OwnPs wz W.heap.size (.slice s4 ys.length c4) ys)∧Hid (wz.ownsRow W.heap.size 61 13 (.slice sv vs.length cv) vs.length (vs.flatMap (rtL k)))∧Hid (Below W.heap.size W wz)) (fun _ t25 _=>vs.length - (intOf t25).toNat)
   case atStart=>exact⟨0,s3,c3,xs,by omega,rfl,rfl,jh (by simp),OX3,OR,B3⟩
   case round=>
    clear OX3 OR B3;obtain⟨z,s4,c4,ys,hz,rfl,rfl,EY,OY,OR,BZ⟩:=hrel;by_cases hzl:z<vs.length
    ·obtain⟨x,hx⟩:∃x,vs[z]? =some x:=⟨_,List.getElem?_eq_getElem hzl⟩
     obtain⟨g',o',hsv,hrg⟩:=rt_at (own_slat (rtL_len k) OR.out) hx;subst hsv;have RG:=jh hrg;have XM:=List.mem_of_getElem? hx;have OKX:=jh (HAS.out x XM).2;have TZ:Hid (vs.take (z+1)=vs.take z++[x]):=jh (take_snoc hx);have YL:ys.length≤16*256:=by
      have h1:=congrArg List.length EY.out;have h2:=LX.out;have h3:=KL.out;have h4:=Nat.mul_le_mul_right 256 (show k+1≤16 by omega);rw[List.length_append,List.length_map,List.length_take] at h1;omega
     have z0:(0:Int)≤(z:Int):=by omega
     have z1:(z:Int)<(vs.length:Int):=by omega
     have ZL:=jh hzl;clear hx hrg XM hz hzl;go_wp2_with ((with_reducible refine jM (X:=.load 61 (.tmp 27)) ?_ ?_);(·rfl));unfold Halt;refine ldm_at (by rfl) 61 (.tmp 27) rfl g' (o'+z*13) rfl (rtL k x) _ RG.out Tryz.underlying61 rfl sz_rt ?_;go_wp2_with ((with_reducible refine jM (X:=.store 61 (.tmp 7) (.tmp 28)) ?_ ?_);(·rfl));unfold Halt;refine st_fresh rfl 61 (.tmp 7) (.tmp 28) rfl rfl _ (rtC k x.p x.v) rfl sz_rt rfl (rt_one _ _ _) ?_;obtain⟨w4,hw4,q4,hb4,-⟩:=box1 wr (rtC k x.p x.v) 61;rw[←hw4];obtain⟨pb,hpb⟩:∃pb,pb=wr.heap.size:=⟨_,rfl⟩
     rw[←hpb] at q4 ⊢;have e0:w4.cell? ⟨pb,1,none⟩=some (.int .u32 x.p.1):=jB q4 1;have e1:w4.cell? ⟨pb,2,none⟩=some (.int .i64 x.p.2):=jB q4 2;have OY4:=jh (OY.out.below hb4);have OR4:=jh (jQ OR.out hb4);have B4:=jh (jC BZ.out hb4);clear hw4 q4 hb4 hpb OY OR BZ;simp only[Act.put];have BA4:Hid (W.heap.size≤w4.heap.size):=jh B4.out.size;have PA:=jh (new_cells w4 #[.int .u32 x.p.1,.int .i64 x.p.2] 53);have BA5:Below w4.heap.size w4 (w4.alloc (.cells #[.int .u32 x.p.1,.int .i64 x.p.2] 53)):=(Below.refl _ _).alloc (Nat.le_refl _) _;have OY5:=jh (OY4.out.below BA5);have OR5:=jh (jQ OR4.out BA5);have B5:=jh (jC B4.out BA5);clear BA5 OY4 OR4 B4;go_wp2_with (at_builtin;refine wpList_append_own_at _ rfl _ _ 23 rfl W.heap.size 53 i0 _ 2 16 Tryz.underlying23 hii hz0 hz1 hz2 rfl (by decide) (.slice s4 ys.length c4) ys.length (ys.flatMap encP) rfl OY5.out.1 ⟨w4.heap.size,0,none⟩ 1 1 [.int .u32 x.p.1,.int .i64 x.p.2] rfl rfl PA.out (encP_one x.p) (by unfold maxLen;omega) (by omega) B5.out.size ?_);intro v3 w10 h2 h3 _ hat;obtain⟨s5,c5,hv3,-⟩:=jV h2;subst hv3;have K10:=kept_gr h3;have OYN:Hid (OwnPs w10 W.heap.size (.slice s5 (ys++[x.p]).length c5) (ys++[x.p])):=jh (by
      refine⟨?_,fun p hp=>?_⟩
      ·rw[List.length_append,List.flatMap_append];exact h2
      ·rcases List.mem_append.1 hp with hp|hp
       ·exact OY5.out.2 p hp
       ·rw[List.mem_singleton] at hp;subst hp;exact OKX.out)
     have ORN:Hid (w10.ownsRow W.heap.size 61 13 (.slice (some ⟨g',o',none⟩) vs.length cv) vs.length (vs.flatMap (rtL k))):=jh ((own_on OR5.out).kept K10 (fun b _ hb e=>own_kindsK OR5.out OY5.out.1 (by decide) b hb e)).self;have BN:Hid (Below W.heap.size W w10):=jh (B5.out.trans (K10.below B5.out.size fun g hg=>jJ OY5.out.1 g hg));have EN:Hid (ys++[x.p]=xs++(vs.take (z+1)).map (·.p)):=jh (by rw[TZ.out,EY.out];simp);have LN:Hid ((ys++[x.p]).length=ys.length+1):=jh (by simp);have V256:=jh VR;clear h2 h3 hat K10 OY5 OR5 B5 PA BA4 EY e0 e1 TZ;have zw:IntKind.i64.wrap ((z:Int)+1)=((z+1:Nat):Int):=by
      have:=ZL.out;have:=V256.out;rw[IntWalk.i64_in _ (by omega)];omega
     go_wp2_with fail;exact⟨⟨z+1,s5,c5,_,by have:=ZL.out;omega,rfl,by rw[LN.out],EN,OYN,ORN,BN⟩,by have:=ZL.out;simp only[intOf];omega⟩
    ·obtain rfl:z=vs.length:=by omega
     have TL:(vs.take vs.length).map (·.p)=vs.map (·.p):=by rw[List.take_length]
     have EY2:ys=xs++vs.map (·.p):=by rw[EY.out,TL]
     have MN:Hid (∀p,p∈ys↔saysK S.ms (k+1) p):=jh (fun p=>by
      rw[EY2,List.mem_append,MX.out p,RM.out p,SK.out p])
     have RN:Hid (∀p∈ys,RgtP p):=jh (fun p hp=>by
      rw[EY2] at hp;rcases List.mem_append.1 hp with hp|hp
      ·exact RX.out p hp
      ·exact RGT.out p ((RM.out p).1 hp))
     have LN:Hid (ys.length≤(k+1)*256):=jh (by
      have:=LX.out;rw[EY2,List.length_append,List.length_map];omega)
     have kw:IntKind.i64.wrap ((k:Int)+1)=((k+1:Nat):Int):=by
      have:=KL.out;rw[IntWalk.i64_in _ (by omega)];omega
     clear TL EY2 EY OR hz hzl;go_wp2_with fail;exact⟨⟨k+1,s4,c4,ys,by have:=KL.out;omega,rfl,rfl,OY,MN,RN,LN,BZ⟩,by have:=KL.out;simp only[intOf];omega⟩
  ·obtain rfl:k=S.ms.length:=by omega
   have X4:Hid (xs.length≤4096):=jh (by have h1:=LX.out;have h2:=Nat.mul_le_mul_right 256 few;omega);have SO:=jh (ps_Sort W.heap.size (.slice s3 xs.length c3) xs wr OX.out (by have:=X4.out;omega));clear hk hkl OX LX;go_wp2_with fail;refine SO.out.mono ?_;rintro e w2 ⟨ys,rfl,yl,ym,yp,yo,yk⟩;have B2:Hid (Below W.heap.size W w2):=jh (BX.out.trans (yk.below BX.out.size fun g hg=>jJ yo.1 g hg));have CO:=jh (ps_Compact W.heap.size _ ys w2 yo (by have:=X4.out;omega));have CS:=jh (comp_srt yp);have YM:=jh ym;have YL:=jh yl;have YO:=jh yo;clear yl ym yp yo yk SO BX;go_wp2_with fail;refine CO.out.mono ?_;rintro e w5 ⟨v',rfl,vo,vk⟩;obtain⟨s6,c6,rfl,-⟩:=jV vo.1;have FIN:Hid (NetsPost S.ms W (.returned (.slice s6 (comp ys).length c6)) w5):=jh (by
    refine⟨_,comp ys,rfl,vo,CS.out.1,fun p=>?_,fun p hp=>?_,?_,B2.out.trans (vk.below B2.out.size fun g hg=>jJ YO.out.1 g hg)⟩
    ·rw[CS.out.2,YM.out,MX.out]
    ·exact RX.out p ((YM.out p).1 ((CS.out.2 p).1 hp))
    ·have:=comp_len ys;have:=YL.out;have:=X4.out;omega)
   clear vo vk CO;go_wp2_with fail;go_ret;exact FIN.out
end
open Go.RowKit
theorem ins_srt {ys:List Pf} {p:Pf} {i:Nat} (h:Srt ys) (hb:∀(j:Nat) q,j<i→ys[j]? =some q→plt q p) (ha:∀q,ys[i]? =some q→plt p q):Srt (ys.take i++[p]++ys.drop i):=by
 have hd:∀q∈ys.drop i,plt p q:=by
  intro q hq;obtain⟨j,hj⟩:=List.mem_iff_getElem?.1 hq;rw[List.getElem?_drop] at hj;have hlt:i+j<ys.length:=(List.getElem?_eq_some_iff.1 hj).1;have h0:ys[i]? =some ys[i]:=List.getElem?_eq_getElem (by omega);by_cases e:j=0
  ·subst e;rw[Nat.add_zero,h0] at hj;injection hj with hj;rw[←hj];exact ha _ h0
  ·exact plt_trans (ha _ h0) (srt_lt h h0 hj (by omega))
 have ht:∀q∈ys.take i,plt q p:=by
  intro q hq;obtain⟨j,hj⟩:=List.mem_iff_getElem?.1 hq;have hlt:=(List.getElem?_eq_some_iff.1 hj).1;rw[List.length_take] at hlt;rw[List.getElem?_take_of_lt (by omega)] at hj;exact hb j q (by omega) hj
 refine List.pairwise_append.2 ⟨List.pairwise_append.2 ⟨h.sublist (List.take_sublist ..),List.pairwise_singleton ..,fun q hq r hr=>?_⟩,h.sublist (List.drop_sublist ..),fun q hq r hr=>?_⟩
 ·rw[List.mem_singleton] at hr;subst hr;exact ht q hq
 ·rcases List.mem_append.1 hq with hq|hq
  ·exact plt_trans (ht q hq) (hd r hr)
  ·rw[List.mem_singleton] at hq;subst hq;exact hd r hr
theorem ins_mem {ys:List Pf} {p:Pf} {i:Nat} (q:Pf):q∈ys.take i++[p]++ys.drop i↔q∈ys∨q=p:=by
 conv=>rhs;rw[←List.take_append_drop i ys]
 simp only[List.mem_append,List.mem_singleton];constructor
 ·rintro ((h|h)|h)
  ·exact .inl (.inl h)
  ·exact .inr h
  ·exact .inl (.inr h)
 ·rintro ((h|h)|h)
  ·exact .inl (.inl h)
  ·exact .inr h
  ·exact .inl (.inr h)
theorem ins_len (ys:List Pf) (p:Pf) (i:Nat):(ys.take i++[p]++ys.drop i).length=ys.length+1:=by
 have:=congrArg List.length (List.take_append_drop i ys);simp only[List.length_append,List.length_singleton] at*;omega
def subK (q:Nat) (sa:Option Addr) (l cap:Nat):Option Addr:=if cap=l then sa else sa.map (·.add (l*q))
theorem slat_partK {α:Type} {w:World} {q:Nat} {R:α→List Value→Prop} {sa:Option Addr} {cap:Nat} {xs:List α} (h:SlAt w q R (.slice sa xs.length cap) xs) {l k:Nat} (hlk:l≤k) (hk:k≤xs.length):
  SlAt w q R (.slice (subK q sa l cap) (k - l) (cap - l)) ((xs.take k).drop l):=by
 have hl:((xs.take k).drop l).length=k - l:=by rw[List.length_drop,List.length_take];omega
 obtain⟨sa',c',h1,h2,h3,h4⟩:=h;injection h1 with h1 _ h1c;subst h1;subst h1c;refine⟨subK q sa l cap,cap - l,by rw[hl],by omega,by omega,fun h0=>?_⟩;obtain⟨b,off,rfl,hP⟩:=h4 (by omega);have hne:cap≠l:=by omega
 refine⟨b,off+l*q,?_,fun i x hx=>?_⟩
 ·unfold subK;rw[if_neg hne];unfold Addr.add;by_cases h0:l*q=0
  ·simp[h0]
  ·simp[h0]
 ·have hi:=(List.getElem?_eq_some_iff.1 hx).1;rw[hl] at hi;rw[List.getElem?_drop,List.getElem?_take_of_lt (by omega)] at hx;obtain⟨cs,c1,c2,c3⟩:=hP _ x hx;refine⟨cs,c1,c2,fun j c hc=>?_⟩;have:=c3 j c hc;rw[show off+l*q+i*q+j=off+(l+i)*q+j by rw[Nat.add_mul];omega];exact this
theorem run_subhK {P:Program} {ty e:TypeId} {q:Nat} (ht:P.underlying ty=some (.slice e)) (hz:∀w,(sizeOf e).run P w=.ok q w) (sa:Option Addr) (n cap:Nat) (k:Nat) (hk:k≤cap) (kh:IntKind) (w:World):
  (Instr.sliceAt ty (.slice sa n cap) none (some (.int kh k)) none).run P w=.ok (.slice (subK q sa 0 cap) (k - 0) (cap - 0)) w:=by
 have he:P.elem ty=e:=by unfold Program.elem;rw[ht]
 have ht':P.underlying ty=some (.slice (P.elem ty)):=by rw[he];exact ht
 rw[run_sliceAt_slice _ _ _ _ _ _ ht',run_slice_h _ _ _ _ _ ht' _ _ (by omega) (by omega),he,hz];rfl
theorem run_sublK {P:Program} {ty e:TypeId} {q:Nat} (ht:P.underlying ty=some (.slice e)) (hz:∀w,(sizeOf e).run P w=.ok q w) (sa:Option Addr) (n cap:Nat) (l:Nat) (hl:l≤n) (kl:IntKind) (w:World):
  (Instr.sliceAt ty (.slice sa n cap) (some (.int kl l)) none none).run P w=.ok (.slice (subK q sa l cap) (n - l) (cap - l)) w:=by
 have he:P.elem ty=e:=by unfold Program.elem;rw[ht]
 have ht':P.underlying ty=some (.slice (P.elem ty)):=by rw[he];exact ht
 rw[run_sliceAt_slice _ _ _ _ _ _ ht',run_slice_l _ _ _ _ _ ht' _ _ (by omega) (by omega),he,hz];rfl
section
variable {P:Program} {ops:Array Oper} {rest:List Oper} {o:Oper} {a:Act} {w:World} {Q:Exit→Act→World→Prop}
theorem slcK_at (hgd:o.guard=none) (ty:TypeId) (x:Operand) (lo hi:Option Operand) (ho:o.op=.slice ty x lo hi none) {V X:Value} {l' h':Option Value} (hr:(Instr.sliceAt ty X l' h' none).run P w=.ok V w)
  (hx:a.eval x=X) (hl:lo.map a.eval=l') (hh:hi.map a.eval=h') (h:wpList P ops Q rest (a.put o.dst V) w):wpList P ops Q (o::rest) a w:=
 wpList_plain hgd fun K hK=>by
  subst hx;subst hl;subst hh;unfold Oper.wp execOp;simp only[ho,Option.map_none,Sem.run_bind,hr,Result.andThen_ok,Sem.run_pure];exact hK _ _ h
end
theorem sz_prefK:∀w,(sizeOf 53).run Tryz.prog w=.ok 2 w:=by intro w;kernel_rfl
theorem cut_to {w:World} {s:Option Addr} {M c:Nat} {ys:List Pf} (h:PsAt w (.slice s M c) ys) (hl:ys.length=M) {j:Nat} (hj:j≤M):
  ∃s' c',(∀W,(Instr.sliceAt 23 (.slice s M c) none (some (.int .i64 (j:Int))) none).run Tryz.prog W=.ok (.slice s' j c') W)∧PsAt w (.slice s' j c') (ys.take j):=by
 subst hl;obtain⟨sa,cap,e,h1,h2,h3⟩:=id h;injection e with e1 _ e2;subst e1;subst e2;refine⟨_,_,fun W=>run_subhK Tryz.underlying23 sz_prefK s ys.length c j (by omega) .i64 W,?_⟩;have:=slat_partK h (l:=0) (k:=j) (Nat.zero_le _) hj;simpa using this
theorem cut_from {w:World} {s:Option Addr} {M c:Nat} {ys:List Pf} (h:PsAt w (.slice s M c) ys) (hl:ys.length=M) {j:Nat} (hj:j≤M):
  ∃s' c',(∀W,(Instr.sliceAt 23 (.slice s M c) (some (.int .i64 (j:Int))) none none).run Tryz.prog W=.ok (.slice s' (M - j) c') W)∧PsAt w (.slice s' (M - j) c') (ys.drop j):=by
 subst hl;refine⟨_,_,fun W=>run_sublK Tryz.underlying23 sz_prefK s ys.length c j hj .i64 W,?_⟩;have:=slat_partK h (l:=j) (k:=ys.length) hj (Nat.le_refl _);rwa [List.take_length] at this
theorem own_made (w:World):OwnPs (w.alloc (.cells #[] 53)) w.heap.size (.slice (some ⟨w.heap.size,0,none⟩) 0 0) []:=⟨own_empty (Nat.le_refl _),fun p hp=>by cases hp⟩
end Go.Proofs.YtkoidahgbbabiaaGreat
