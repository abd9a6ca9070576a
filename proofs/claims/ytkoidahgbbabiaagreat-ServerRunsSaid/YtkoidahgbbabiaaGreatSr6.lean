/- Texts of one proof, one behind another. -/
import Derived.Test.YtkoidahgbbabiaaGreatSr5
import Derived.Test.YtkoidahgbbabiaaGreatSr3
import Derived.LoopTactic
import Derived.OwnWalk
import Derived.Deep.DeepCutAuto
import Derived.LoopN
import Derived.Lib.SliceRun
import Derived.Sort.Grow
import Derived.Test.YtkoidahgbbabiaaGreatSr4
import Derived.Test.YtkoidahgbbabiaaGreatSr1
import Derived.Deep.QuietTactic
import Derived.BigQuiet
import Derived.Deep.CutBlock
import Derived.Shelf.GgSortFunc.RowK
set_option maxRecDepth 100000
set_option maxHeartbeats 100000000
namespace Go.Proofs.YtkoidahgbbabiaaGreat
open Go.RowKit
theorem here_mem {S:List (Nat×AV)} {A i:Nat} {x:Itm}:x∈hereP S A i↔x.1=(A,i)∧getL S (keyN A i)=some x.2:=by
 unfold hereP;cases hg:getL S (keyN A i) with
 |none=>simp
 |some v=>
  obtain⟨y,u⟩:=x;simp only[List.mem_singleton,Prod.mk.injEq,Option.some.injEq];constructor
  ·rintro⟨rfl,rfl⟩;exact⟨rfl,rfl⟩
  ·rintro⟨rfl,rfl⟩;exact⟨rfl,rfl⟩
theorem pow_half {i:Nat} (hi:i<32):2^(32 - i)=2^(31 - i)*2∧2^(32 - (i+1))=2^(31 - i):=by
 refine⟨by rw[show 32 - i=(31 - i)+1 by omega,Nat.pow_succ],by rw[show 32 - (i+1)=31 - i by omega]⟩
structure ItemIn (S:List (Nat×AV)) (A i:Nat) (x:Itm):Prop where
 form:x.1.1%2^(32 - x.1.2)=0
 le32:x.1.2≤32
 deep:i≤x.1.2
 lo:A≤x.1.1
 hi:x.1.1<A+2^(32 - i)
 at_:getL S (keyN x.1.1 x.1.2)=some x.2
theorem goP_in {S:List (Nat×AV)}:∀(d A i:Nat),i+d=32→A%2^(32 - i)=0→∀x∈goP S d A i,ItemIn S A i x
 |0,A,i,hi,hr,x,hx=>by
  obtain⟨h1,h2⟩:=here_mem.1 hx;obtain⟨⟨B,j⟩,v⟩:=x;cases h1
  exact⟨hr,by simp only;omega,Nat.le_refl _,Nat.le_refl _,Nat.lt_add_of_pos_right (Nat.pow_pos (by decide)),h2⟩
 |d+1,A,i,hi,hr,x,hx=>by
  obtain⟨q1,q2⟩:=pow_half (show i<32 by omega);have q3:=Nat.pow_pos (n:=31 - i) (show 0<2 by decide);unfold goP at hx;rw[List.mem_append,List.mem_append] at hx;rcases hx with hx|hx|hx
  ·obtain⟨h1,h2⟩:=here_mem.1 hx;obtain⟨⟨B,j⟩,v⟩:=x;cases h1
   exact⟨hr,by simp only;omega,Nat.le_refl _,Nat.le_refl _,Nat.lt_add_of_pos_right (Nat.pow_pos (by decide)),h2⟩
  ·obtain⟨a1,a2,a3,a4,a5,a6⟩:=goP_in d A (i+1) (by omega) (mod_left (by omega) hr) x hx;exact⟨a1,a2,by omega,a4,by rw[q2] at a5;omega,a6⟩
  ·obtain⟨a1,a2,a3,a4,a5,a6⟩:=goP_in d (A+2^(31 - i)) (i+1) (by omega) (mod_right (by omega) hr) x hx;exact⟨a1,a2,by omega,by omega,by rw[q2] at a5;omega,a6⟩
theorem same_block {A B M:Nat} (ha:A%M=0) (hb:B%M=0) (h1:A≤B) (h2:B<A+M):B=A:=by
 obtain⟨p,rfl⟩:=Nat.dvd_of_mod_eq_zero ha;obtain⟨q,rfl⟩:=Nat.dvd_of_mod_eq_zero hb;have hM:0<M:=by
  rcases Nat.eq_zero_or_pos M with h|h
  ·subst h;simp at h2
  ·exact h
 have:q<p+1:=by
  have:M*q<M*(p+1):=by rw[Nat.mul_add,Nat.mul_one];exact h2
  exact Nat.lt_of_mul_lt_mul_left this
 have:p≤q:=Nat.le_of_mul_le_mul_left h1 hM;have e:q=p:=by omega
 rw[e]
theorem goP_mem {S:List (Nat×AV)} {B j:Nat} {v:AV} (hb:B%2^(32 - j)=0) (hj:j≤32) (hg:getL S (keyN B j)=some v):∀(d A i:Nat),i+d=32→A%2^(32 - i)=0→i≤j→A≤B→B<A+2^(32 - i)→((B,j),v)∈goP S d A i
 |0,A,i,hi,hr,h1,h2,h3=>by
  obtain rfl:j=i:=by omega
  obtain rfl:=same_block hr hb h2 h3;exact here_mem.2 ⟨rfl,hg⟩
 |d+1,A,i,hi,hr,h1,h2,h3=>by
  obtain⟨q1,q2⟩:=pow_half (show i<32 by omega);unfold goP;rw[List.mem_append,List.mem_append];by_cases e:j=i
  ·subst e;obtain rfl:=same_block hr hb h2 h3;exact .inl (here_mem.2 ⟨rfl,hg⟩)
  ·by_cases hh:B<A+2^(31 - i)
   ·exact .inr (.inl (goP_mem hb hj hg d A (i+1) (by omega) (mod_left (by omega) hr) (by omega) h2 (by rw[q2];exact hh)))
   ·exact .inr (.inr (goP_mem hb hj hg d (A+2^(31 - i)) (i+1) (by omega) (mod_right (by omega) hr) (by omega) (by omega) (by rw[q2];omega)))
def itLt (x y:Itm):Prop:=x.1.1<y.1.1∨(x.1.1=y.1.1∧x.1.2<y.1.2)
theorem goP_sorted {S:List (Nat×AV)}:∀(d A i:Nat),i+d=32→A%2^(32 - i)=0→(goP S d A i).Pairwise itLt
 |0,A,i,hi,hr=>by
  unfold goP hereP;split<;>simp
 |d+1,A,i,hi,hr=>by
  obtain⟨q1,q2⟩:=pow_half (show i<32 by omega);have q3:=Nat.pow_pos (n:=31 - i) (show 0<2 by decide);have hl:=mod_left (show i<32 by omega) hr;have hrr:=mod_right (show i<32 by omega) hr;unfold goP;rw[List.pairwise_append,List.pairwise_append];refine⟨?_,⟨goP_sorted d A (i+1) (by omega) hl,goP_sorted d _ (i+1) (by omega) hrr,?_⟩,?_⟩
  ·unfold hereP;split<;>simp
  ·intro x hx y hy;have hx:=goP_in d A (i+1) (by omega) hl x hx;have hy:=goP_in d _ (i+1) (by omega) hrr y hy;have:=hx.hi;rw[q2] at this;have:=hy.lo;exact .inl (by omega)
  ·intro x hx y hy;obtain⟨h1,h2⟩:=here_mem.1 hx;rcases List.mem_append.1 hy with hy|hy
   ·have hy:=goP_in d A (i+1) (by omega) hl y hy;have a1:=hy.lo;have a2:=hy.deep;unfold itLt;rw[h1];simp only;omega
   ·have hy:=goP_in d _ (i+1) (by omega) hrr y hy;have a1:=hy.lo;unfold itLt;rw[h1];simp only;omega
theorem key_block {A B i:Nat} (ha:A%2^(32 - i)=0) (hb:B%2^(32 - i)=0) (h:A/2^(32 - i)=B/2^(32 - i)):A=B:=by
 have h1:=Nat.div_add_mod A (2^(32 - i));have h2:=Nat.div_add_mod B (2^(32 - i));rw[ha] at h1;rw[hb,←h] at h2;omega
open Go.RowKit
abbrev Pf:=Int×Int
def pcmp (p q:Pf):Int:=prefCmp p.1 p.2 q.1 q.2
def plt (p q:Pf):Prop:=p.1<q.1∨(p.1=q.1∧p.2<q.2)
instance (p q:Pf):Decidable (plt p q):=by unfold plt;infer_instance
theorem pcmp_val (p q:Pf):pcmp p q=if plt p q then -1 else if plt q p then 1 else 0:=by
 unfold pcmp prefCmp orI cmpI plt
 repeat' split
 all_goals first|rfl|omega
theorem pcmp_lt {p q:Pf}:pcmp p q<0↔plt p q:=by
 rw[pcmp_val];split
 ·rename_i h;simp[h]
 ·rename_i h;split<;>simp[h]
theorem plt_irrefl (p:Pf):¬plt p p:=by unfold plt;omega
theorem plt_trans {p q r:Pf} (h:plt p q) (k:plt q r):plt p r:=by unfold plt at*;omega
theorem plt_asymm {p q:Pf} (h:plt p q):¬plt q p:=fun k=>plt_irrefl p (plt_trans h k)
theorem plt_total {p q:Pf} (h:¬plt p q) (k:¬plt q p):p=q:=by
 unfold plt at*;obtain⟨a,b⟩:=p;obtain⟨c,d⟩:=q;simp only[Prod.mk.injEq] at*;omega
theorem pcmp_eq {p q:Pf}:pcmp p q=0↔p=q:=by
 rw[pcmp_val];split
 ·rename_i h;exact⟨fun k=>absurd k (by decide),fun k=>by subst k;exact absurd h (plt_irrefl p)⟩
 ·rename_i h;split
  ·rename_i h2;exact⟨fun k=>absurd k (by decide),fun k=>by subst k;exact absurd h2 (plt_irrefl p)⟩
  ·rename_i h2;exact⟨fun _=>plt_total h h2,fun _=>rfl⟩
abbrev Srt (l:List Pf):Prop:=l.Pairwise plt
theorem srt_ext:∀{l m:List Pf},Srt l→Srt m→(∀p,p∈l↔p∈m)→l=m
 |[],[],_,_,_=>rfl
 |[],q::m,_,_,h=>by have:=(h q).2 (List.mem_cons_self ..);simp at this
 |p::l,[],_,_,h=>by have:=(h p).1 (List.mem_cons_self ..);simp at this
 |p::l,q::m,hl,hm,h=>by
  rw[Srt,List.pairwise_cons] at hl hm;have e:p=q:=by
   have h1:=(h p).1 (List.mem_cons_self ..);have h2:=(h q).2 (List.mem_cons_self ..);rcases List.mem_cons.1 h1 with h1|h1
   ·exact h1
   ·rcases List.mem_cons.1 h2 with h2|h2
    ·exact h2.symm
    ·exact absurd (hl.1 q h2) (plt_asymm (hm.1 p h1))
  subst e;have:=srt_ext hl.2 hm.2 fun x=>by
   have hx:=h x;rw[List.mem_cons,List.mem_cons] at hx;constructor
   ·intro k;rcases hx.1 (.inr k) with e|e
    ·subst e;exact absurd (hl.1 _ k) (plt_irrefl _)
    ·exact e
   ·intro k;rcases hx.2 (.inr k) with e|e
    ·subst e;exact absurd (hm.1 _ k) (plt_irrefl _)
    ·exact e
  rw[this]
theorem srt_nodup {l:List Pf} (h:Srt l):l.Nodup:=h.imp fun k e=>by subst e;exact plt_irrefl _ k
theorem srt_lt {l:List Pf} (h:Srt l) {i j:Nat} {p q:Pf} (hi:l[i]? =some p) (hj:l[j]? =some q) (hij:i<j):plt p q:=by
 obtain⟨h1,rfl⟩:=List.getElem?_eq_some_iff.1 hi;obtain⟨h2,rfl⟩:=List.getElem?_eq_some_iff.1 hj;exact List.pairwise_iff_getElem.1 h i j h1 h2 hij
def cstep (acc:List Pf) (x:Pf):List Pf:=if acc.getLast? =some x then acc else acc++[x]
def comp (l:List Pf):List Pf:=l.foldl cstep []
theorem comp_snoc (l:List Pf) (x:Pf):comp (l++[x])=cstep (comp l) x:=by unfold comp;rw[List.foldl_append];rfl
theorem cstep_last (acc:List Pf) (x:Pf):(cstep acc x).getLast? =some x:=by
 unfold cstep;split
 ·assumption
 ·simp
theorem comp_last_from:∀(l acc:List Pf),(l.foldl cstep acc).getLast? =l.getLast?.or acc.getLast?
 |[],acc=>by simp
 |x::l,acc=>by
  rw[List.foldl_cons,comp_last_from l,cstep_last,List.getLast?_cons];cases l.getLast?<;>simp
theorem comp_last (l:List Pf):(comp l).getLast? =l.getLast?:=by
 unfold comp;rw[comp_last_from];simp
theorem comp_next {l:List Pf} {k:Nat} {x y:Pf} (hx:l[k]? =some x) (hy:l[k+1]? =some y):comp (l.take (k+2))=if x=y then comp (l.take (k+1)) else comp (l.take (k+1))++[y]:=by
 have h1:l.take (k+2)=l.take (k+1)++[y]:=by rw[List.take_add_one,hy];rfl
 have h2:(l.take (k+1)).getLast? =some x:=by rw[List.take_add_one,hx];simp
 rw[h1,comp_snoc];unfold cstep;rw[comp_last,h2];simp only[Option.some.injEq]
theorem comp_one {l:List Pf} {x:Pf} (hx:l[0]? =some x):comp (l.take 1)=[x]:=by
 rw[List.take_add_one,hx];rfl
theorem comp_len_from:∀(l acc:List Pf),acc.length≤(l.foldl cstep acc).length∧(l.foldl cstep acc).length≤acc.length+l.length
 |[],acc=>by simp
 |x::l,acc=>by
  have h:=comp_len_from l (cstep acc x);have h2:acc.length≤(cstep acc x).length∧(cstep acc x).length≤acc.length+1:=by unfold cstep;split<;>simp
  rw[List.foldl_cons,List.length_cons];omega
theorem comp_len (l:List Pf):(comp l).length≤l.length:=by have:=(comp_len_from l []).2;unfold comp;simpa using this
theorem comp_whole {l:List Pf} (k:Nat) (h:∀(i:Nat) (x y:Pf),i+1<k→l[i]? =some x→l[i+1]? =some y→x≠y) (hk:k≤l.length):comp (l.take k)=l.take k:=by
 induction k with
 |zero=>rfl
 |succ k ih=>
  cases k with
  |zero=>
   obtain⟨x,hx⟩:∃x,l[0]? =some x:=⟨_,List.getElem?_eq_getElem (by omega)⟩
   rw[comp_one hx,List.take_add_one,hx];rfl
  |succ k=>
   obtain⟨x,hx⟩:∃x,l[k]? =some x:=⟨_,List.getElem?_eq_getElem (by omega)⟩
   obtain⟨y,hy⟩:∃y,l[k+1]? =some y:=⟨_,List.getElem?_eq_getElem (by omega)⟩
   rw[comp_next hx hy,if_neg (h k x y (by omega) hx hy),ih (fun i x y hi=>h i x y (by omega)) (by omega),List.take_add_one (i:=k+1),hy];rfl
theorem comp_sub_from:∀(l acc:List Pf) (p:Pf),p∈l.foldl cstep acc→p∈acc∨p∈l
 |[],acc,p,h=>.inl h
 |x::l,acc,p,h=>by
  rcases comp_sub_from l (cstep acc x) p h with h|h
  ·unfold cstep at h;split at h
   ·exact .inl h
   ·rcases List.mem_append.1 h with h|h
    ·exact .inl h
    ·exact .inr (by rw[List.mem_singleton.1 h];exact List.mem_cons_self ..)
  ·exact .inr (List.mem_cons_of_mem _ h)
theorem comp_sub {l:List Pf} {p:Pf} (h:p∈comp l):p∈l:=(comp_sub_from l [] p h).resolve_left (by simp)
theorem comp_srt_from:∀(l acc:List Pf),Srt acc→(∀a∈acc,∀x∈l,¬plt x a)→l.Pairwise (fun x y=>¬plt y x)→Srt (l.foldl cstep acc)∧∀p,p∈l.foldl cstep acc↔p∈acc∨p∈l
 |[],acc,h,_,_=>⟨h,fun p=>by simp⟩
 |x::l,acc,h,ha,hl=>by
  rw[List.pairwise_cons] at hl;rw[List.foldl_cons];by_cases e:acc.getLast? =some x
  ·rw[show cstep acc x=acc by unfold cstep;rw[if_pos e]];have ih:=comp_srt_from l acc h (fun a h1 y h2=>ha a h1 y (List.mem_cons_of_mem _ h2)) hl.2;refine⟨ih.1,fun p=>?_⟩;rw[ih.2,List.mem_cons];constructor
   ·rintro (k|k)
    ·exact .inl k
    ·exact .inr (.inr k)
   ·rintro (k|rfl|k)
    ·exact .inl k
    ·exact .inl (List.mem_of_getLast? e)
    ·exact .inr k
  ·rw[show cstep acc x=acc++[x] by unfold cstep;rw[if_neg e]];have hs:Srt (acc++[x]):=by
    rw[Srt,List.pairwise_append];refine⟨h,List.pairwise_singleton _ _,fun a h1 y h2=>?_⟩;obtain rfl:=List.mem_singleton.1 h2;have h3:=ha a h1 y (List.mem_cons_self ..);by_cases h4:plt a y
    ·exact h4
    ·exfalso;obtain rfl:=plt_total h4 h3;obtain⟨i,hi⟩:=List.mem_iff_getElem?.1 h1;have hlast:acc[acc.length - 1]? =acc.getLast?:=(List.getLast?_eq_getElem? ..).symm;obtain⟨hil,-⟩:=List.getElem?_eq_some_iff.1 hi;obtain⟨z,hz⟩:∃z,acc[acc.length - 1]? =some z:=⟨_,List.getElem?_eq_getElem (by omega)⟩
     by_cases hi2:i=acc.length - 1
     ·subst hi2;rw[←hlast,hi] at e;exact e rfl
     ·have h5:=srt_lt h hi hz (by omega);exact ha z (List.mem_of_getElem? hz) a (List.mem_cons_self ..) h5
   have ih:=comp_srt_from l (acc++[x]) hs (fun a h1 y h2=>by
    rcases List.mem_append.1 h1 with h1|h1
    ·exact ha a h1 y (List.mem_cons_of_mem _ h2)
    ·obtain rfl:=List.mem_singleton.1 h1;exact hl.1 y h2) hl.2
   refine⟨ih.1,fun p=>?_⟩;rw[ih.2,List.mem_append,List.mem_singleton,List.mem_cons,or_assoc]
theorem comp_srt {l:List Pf} (hl:l.Pairwise (fun x y=>¬plt y x)):Srt (comp l)∧∀p,p∈comp l↔p∈l:=by
 have h:=comp_srt_from l [] List.Pairwise.nil (fun a h=>by simp at h) hl;exact⟨h.1,fun p=>by have:=h.2 p;simpa [comp] using this⟩
open Go.RowKit
def On (F:Nat→Prop) (w:World) (Q:World→Prop):Prop:=∀W:World,(∀k,F k→k<w.heap.size→W.heap[k]? =w.heap[k]?)→Q W
theorem On.self {F:Nat→Prop} {w:World} {Q:World→Prop} (h:On F w Q):Q w:=h w fun _ _ _=>rfl
theorem On.wide {F G:Nat→Prop} {w:World} {Q:World→Prop} (h:On F w Q) (hFG:∀k,F k→k<w.heap.size→G k):On G w Q:=fun W hW=>h W fun k hk hl=>hW k (hFG k hk hl) hl
theorem On.imp {F:Nat→Prop} {w:World} {Q R:World→Prop} (h:On F w Q) (hQ:∀W,Q W→R W):On F w R:=fun W hW=>hQ W (h W hW)
theorem On.and {F:Nat→Prop} {w:World} {Q R:World→Prop} (h:On F w Q) (k:On F w R):On F w fun W=>Q W∧R W:=fun W hW=>⟨h W hW,k W hW⟩
theorem On.kept {F G:Nat→Prop} {w w':World} {Q:World→Prop} (h:On F w Q) (hk:Kept G w w') (hne:∀k,k<w.heap.size→F k→¬G k):On F w' Q:=fun W hW=>
 h W fun k hF hl=>(hW k hF (Nat.lt_of_lt_of_le hl hk.size)).trans (hk.block k hl (hne k hl hF))
theorem On.below {F:Nat→Prop} {w w':World} {Q:World→Prop} (h:On F w Q) (hb:Below w.heap.size w w'):On F w' Q:=h.kept (G:=fun _=>False) (Kept.of_below hb) (fun _ _ _ h=>h)
theorem own_on {w:World} {B k n:Nat} {e:TypeId} {v:Value} {xs:List Value} (h:w.ownsRow B e k v n xs):On (fun b=>v.ownBlock=some b) w fun W=>W.ownsRow B e k v n xs:=by
 intro W hW;obtain⟨h1,h2⟩:=h;refine⟨h1,h2.imp_right ?_⟩;rintro⟨g,cap,cur,rfl,h4,h5,h6⟩;exact⟨g,cap,cur,rfl,h4,(hW g rfl (jE h5)).trans h5,h6⟩
abbrev Fresh (lo:Nat) (w:World) (Q:World→Prop):Prop:=On (fun k=>lo≤k) w Q
theorem own_fresh {w:World} {B k n:Nat} {e:TypeId} {v:Value} {xs:List Value} (h:w.ownsRow B e k v n xs):Fresh B w fun W=>W.ownsRow B e k v n xs:=(own_on h).wide fun b hb _=>jJ h b hb
section
variable {α:Type} {k:Nat}
theorem rows_len {rows:List (List Value)} (h:∀r∈rows,r.length=k):rows.flatten.length=rows.length*k:=by
 induction rows with
 |nil=>simp
 |cons x xs ih=>rw[List.flatten_cons,List.length_append,ih (fun r hr=>h r (List.mem_cons_of_mem _ hr)),h x (List.mem_cons_self ..),List.length_cons,Nat.succ_mul];omega
theorem rows_get:∀{rows:List (List Value)},(∀r∈rows,r.length=k)→∀(i:Nat) (r:List Value),rows[i]? =some r→∀j,j<k→rows.flatten[i*k+j]? =r[j]?
 |[],_,i,x,h,_,_=>by simp at h
 |y::xs,hk,0,x,h,j,hj=>by
  simp at h;subst h;rw[List.flatten_cons,Nat.zero_mul,Nat.zero_add,List.getElem?_append_left (by rw[hk y (List.mem_cons_self ..)];exact hj)]
 |y::xs,hk,i+1,x,h,j,hj=>by
  have ih:=rows_get (rows:=xs) (fun r hr=>hk r (List.mem_cons_of_mem _ hr)) i x (by simpa using h) j hj;have hy:=hk y (List.mem_cons_self ..);rw[List.flatten_cons,List.getElem?_append_right (by rw[hy,Nat.succ_mul];omega),hy,←ih];congr 1;rw[Nat.succ_mul];omega
theorem rows_set {rows:List (List Value)} (h:∀r∈rows,r.length=k) {i:Nat} {r:List Value} (hr:rows[i]? =some r) {j:Nat} (hj:j<k) (u:Value):(rows.set i (r.set j u)).flatten=rows.flatten.set (i*k+j) u:=by
 induction rows generalizing i with
 |nil=>simp at hr
 |cons x xs ih=>
  cases i with
  |zero=>
   simp at hr;subst hr;have hx:=h x (List.mem_cons_self ..);rw[List.set_cons_zero,List.flatten_cons,List.flatten_cons,Nat.zero_mul,Nat.zero_add,List.set_append_left _ _ (by omega)]
  |succ i=>
   have hx:=h x (List.mem_cons_self ..);rw[List.set_cons_succ,List.flatten_cons,List.flatten_cons,ih (fun r hr=>h r (List.mem_cons_of_mem _ hr)) (by simpa using hr),List.set_append_right _ _ (by rw[hx,Nat.succ_mul];omega)];congr 2;rw[hx,Nat.succ_mul];omega
theorem slat_rows {w:World} {R:α→List Value→Prop} {v:Value} {xs:List α} (h:SlAt w k R v xs):∃(sa:Option Addr) (cap:Nat) (rows:List (List Value)),v=.slice sa xs.length cap∧xs.length≤cap∧cap≤maxLen∧rows.length=xs.length∧(∀r∈rows,r.length=k)∧
  (∀(i:Nat) (x:α),xs[i]? =some x→∃cs,rows[i]? =some cs∧R x cs)∧(0<xs.length→∃b off,sa=some ⟨b,off,none⟩∧∀q u,rows.flatten[q]? =some u→w.cell? ⟨b,off+q,none⟩=some u):=by
 obtain⟨sa,cap,h1,h2,h3,h4⟩:=h;by_cases h0:0<xs.length
 ·obtain⟨b,off,h5,h6⟩:=h4 h0;have hone:∀i:Fin xs.length,∃cs:List Value,cs.length=k∧R xs[i] cs∧∀(j:Nat) (c:Value),cs[j]? =some c→w.cell? ⟨b,off+i*k+j,none⟩=some c:=fun i=>h6 i.val _ (List.getElem?_eq_getElem i.isLt);obtain⟨g,hg⟩:=Classical.axiomOfChoice hone;have hk:∀r∈List.ofFn g,r.length=k:=fun r hr=>by
   obtain⟨i,rfl⟩:=List.mem_ofFn.1 hr;exact(hg i).1
  refine⟨sa,cap,List.ofFn g,h1,h2,h3,by simp,hk,fun i x hx=>?_,fun _=>⟨b,off,h5,fun q u hq=>?_⟩⟩
  ·obtain⟨hi,rfl⟩:=List.getElem?_eq_some_iff.1 hx;exact⟨g ⟨i,hi⟩,by rw[List.getElem?_ofFn];simp[hi],(hg ⟨i,hi⟩).2.1⟩
  ·by_cases hk0:0<k
   ·have hql:=(List.getElem?_eq_some_iff.1 hq).1;rw[rows_len hk,List.length_ofFn] at hql;have hi:q/k<xs.length:=Nat.div_lt_of_lt_mul (by rw[Nat.mul_comm];exact hql);have hj:=Nat.mod_lt q hk0;have e:q=q/k*k+q%k:=by rw[Nat.mul_comm];exact(Nat.div_add_mod q k).symm
    have hget:(List.ofFn g)[q/k]? =some (g ⟨q/k,hi⟩):=by rw[List.getElem?_ofFn];simp[hi]
    have:=rows_get hk (q/k) _ hget (q%k) hj;rw[←e,hq] at this;have:=(hg ⟨q/k,hi⟩).2.2 (q%k) u this.symm;simp only at this;rw[Nat.add_assoc,←e] at this;exact this
   ·have hql:=(List.getElem?_eq_some_iff.1 hq).1;rw[rows_len hk] at hql;have:k=0:=by omega
    subst this;simp at hql
 ·have:xs=[]:=List.length_eq_zero_iff.1 (by omega);subst this;exact⟨sa,cap,[],h1,h2,h3,rfl,fun r hr=>by simp at hr,fun i x hx=>by simp at hx,fun h=>absurd h h0⟩
theorem own_rows {w:World} {B:Nat} {e:TypeId} {v:Value} {xs:List α} {rows:List (List Value)} {R:α→List Value→Prop} (h:w.ownsRow B e k v xs.length rows.flatten) (hk:∀r∈rows,r.length=k)
  (hR:∀(i:Nat) (x:α),xs[i]? =some x→∃cs,rows[i]? =some cs∧R x cs):SlAt w k R v xs:=by
 obtain⟨_,⟨rfl,h0⟩|⟨g,cap,cur,rfl,_,hg,hn,hm,_,hcur⟩⟩:=h
 ·obtain rfl:=List.length_eq_zero_iff.1 h0;exact SlAt.nil
 ·refine⟨some ⟨g,0,none⟩,cap,rfl,hn,hm,fun _=>⟨g,0,rfl,fun i x hx=>?_⟩⟩;obtain⟨cs,hcs,hr⟩:=hR i x hx;have hl:=hk cs (List.mem_of_getElem? hcs);refine⟨cs,hl,hr,fun j c hc=>?_⟩;have hj:j<k:=by rw[←hl];exact(List.getElem?_eq_some_iff.1 hc).1
  have hi:i<xs.length:=(List.getElem?_eq_some_iff.1 hx).1;have hf:=rows_get hk i cs hcs j hj;rw[←hcur,hc,List.getElem?_take_of_lt (by
   have:(i+1)*k≤xs.length*k:=Nat.mul_le_mul_right _ hi;rw[Nat.succ_mul] at this;omega)] at hf
  rw[jB hg,Nat.zero_add];simpa using hf
theorem own_set {w:World} {B n:Nat} {e:TypeId} {v:Value} {xs:List Value} {g c:Nat} (h:w.ownsRow B e k v n xs) (hv:v=.slice (some ⟨g,0,none⟩) n c) (j:Nat) (u:Value):
  (w.setCell ⟨g,j,none⟩ u).ownsRow B e k v n (xs.set j u):=by
 obtain⟨h1,⟨rfl,_⟩|⟨g',cap,cur,rfl,hB,hg,hn,hm,hsz,hcur⟩⟩:=h
 ·cases hv
 ·injection hv with hv _ _;injection hv with hv;injection hv with hv;subst hv;refine⟨by simp[h1],.inr ⟨_,cap,cur.setIfInBounds j u,rfl,hB,jO hg j u,hn,hm,by simp[hsz],?_⟩⟩;rw[←hcur,Array.toList_setIfInBounds,List.take_set]
theorem own_row_cell {w:World} {B n:Nat} {e:TypeId} {v:Value} {xs:List Value} {g c:Nat} (h:w.ownsRow B e k v n xs) (hv:v=.slice (some ⟨g,0,none⟩) n c) {j:Nat} {u:Value} (hj:xs[j]? =some u):
  w.cell? ⟨g,j,none⟩=some u∧w.frozen? ⟨g,j,none⟩=false∧B≤g∧g<w.heap.size:=by
 obtain⟨h1,⟨rfl,_⟩|⟨g',cap,cur,rfl,hB,hg,hn,hm,hsz,hcur⟩⟩:=h
 ·cases hv
 ·injection hv with hv _ _;injection hv with hv;injection hv with hv;subst hv;refine⟨?_,jN hg j,hB,jE hg⟩;have hl:=(List.getElem?_eq_some_iff.1 hj).1;rw[h1] at hl;rw[←hcur,List.getElem?_take_of_lt hl] at hj;rw[jB hg];simpa using hj
theorem own_slice {w:World} {B n:Nat} {e:TypeId} {v:Value} {xs:List Value} (h:w.ownsRow B e k v n xs):(v=.slice none 0 0∧n=0)∨∃g c,v=.slice (some ⟨g,0,none⟩) n c:=by
 obtain⟨_,h|⟨g,cap,cur,rfl,_⟩⟩:=h
 ·exact .inl h
 ·exact .inr ⟨g,cap,rfl⟩
end
open Go.RowKit
def encP (p:Pf):List Value:=[.int .u32 p.1,.int .i64 p.2]
theorem encP_len (p:Pf):(encP p).length=2:=rfl
theorem encP_one (p:Pf):∀u∈encP p,u.oneCell'=true:=by
 intro u hu;unfold encP at hu;rcases List.mem_cons.1 hu with rfl|hu
 ·rfl
 ·rcases List.mem_cons.1 hu with rfl|hu
  ·rfl
  ·simp at hu
def OkP (p:Pf):Prop:=0≤p.1∧p.1<4294967296
def PfC (p:Pf) (cs:List Value):Prop:=cs=encP p∧OkP p
abbrev PsAt (w:World) (v:Value) (xs:List Pf):Prop:=SlAt w 2 PfC v xs
theorem PsAt.below {w w':World} {v:Value} {xs:List Pf} (h:PsAt w v xs) (hb:Below w.heap.size w w'):PsAt w' v xs:=SlAt.below h hb fun _ _ h=>h
theorem ps_ok {w:World} {v:Value} {xs:List Pf} (h:PsAt w v xs):∀p∈xs,OkP p:=by
 intro p hp;obtain⟨sa,cap,-,-,-,h4⟩:=h;obtain⟨i,hi⟩:=List.mem_iff_getElem?.1 hp;obtain⟨b,off,-,h6⟩:=h4 (by have:=(List.getElem?_eq_some_iff.1 hi).1;omega);obtain⟨cs,-,⟨-,h⟩,-⟩:=h6 i p hi;exact h
theorem ps_two {w:World} {xs:List Pf} {b off:Nat} (h:∀(i:Nat) (x:Pf),xs[i]? =some x→∃cs:List Value,cs.length=2∧PfC x cs∧∀(j:Nat) (c:Value),cs[j]? =some c→w.cell? ⟨b,off+i*2+j,none⟩=some c)
  {i:Nat} {x:Pf} (hx:xs[i]? =some x):w.cell? ⟨b,off+i*2,none⟩=some (.int .u32 x.1)∧w.cell? ⟨b,off+i*2+1,none⟩=some (.int .i64 x.2):=by
 obtain⟨cs,-,⟨rfl,-⟩,hc⟩:=h i x hx;exact⟨hc 0 _ rfl,hc 1 _ rfl⟩
theorem ps_len {w:World} {v:Value} {xs:List Pf} (h:PsAt w v xs):xs.length≤maxLen:=by
 obtain⟨sa,cap,-,h2,h3,-⟩:=h;omega
structure Dr (w w':World):Prop where
 below:Below w.heap.size w w'
 drawn:w.drawn≤w'.drawn
theorem Dr.refl (w:World):Dr w w:=⟨Below.refl _ _,Nat.le_refl _⟩
theorem Dr.on {w w1 w2:World} (h:Dr w w1) (k:Dr w1 w2):Dr w w2:=⟨jC h.below k.below,Nat.le_trans h.drawn k.drawn⟩
theorem Dr.drew (w:World):Dr w w.drew:=⟨(Below.refl _ _).drew,Nat.le_succ _⟩
theorem Dr.alloc {w w1:World} (h:Dr w w1) (o:Obj):Dr w (w1.alloc o):=⟨h.below.alloc h.below.size o,h.drawn⟩
theorem Dr.grow {w w':World} (h:Dr w w'):∃q os,w'=Sort.grow (w.drewN q) os:=by
 obtain⟨⟨h1,h2,h3,h4,h5⟩,h6⟩:=h;refine⟨w'.drawn - w.drawn,w'.heap.extract w.heap.size w'.heap.size,?_⟩;have e:w'.heap=w.heap++w'.heap.extract w.heap.size w'.heap.size:=by
  apply Array.ext_getElem?;intro i;by_cases hi:i<w.heap.size
  ·rw[h5 i hi,Array.getElem?_append_left hi]
  ·rw[Array.getElem?_append_right (by omega),Array.getElem?_extract];split
   ·congr 1;omega
   ·rw[Array.getElem?_eq_none (by omega)]
 cases w'
 cases w
 simp only at h1 h2 h3 h4 h6 e;subst h1;subst h2;subst h3;unfold Sort.grow;rw[World.drewN];simp only[World.mk.injEq,true_and,and_true];exact⟨e,by omega⟩
theorem calls_dr {P:Program} {f:FuncId} {args:Array Value} {w:World} {E:Ending→Prop} (h:Calls P f args w fun e w'=>E e∧w=w'):Calls P f args w fun e w'=>E e∧Dr w w':=h.mono fun _ _ ⟨a,b⟩=>⟨a,b▸Dr.refl _⟩
theorem ip_CmpD (a n b m:Int) (w:World):
  Calls Tryz.prog 22 #[.agg #[.int .u32 a,.int .i64 n],.agg #[.int .u32 b,.int .i64 m]] w fun e w'=>e=.returned (.int .i64 (prefCmp a n b m))∧Dr w w':=by
 go_enter Tryz.func22,Tryz.ntmps22;go_wp2_with fail;obtain⟨W0,hW0,c0,c1,d0,d1,-⟩:=box22 w (.int .u32 a) (.int .i64 n) (.int .u32 b) (.int .i64 m) 53 53;have hB:Dr w W0:=by rw[hW0];exact((Dr.refl _).alloc _).alloc _
 rw[←hW0];clear hW0;refine wp_region_held_drew (S:=fun w'=>Dr W0 w') (by kernel_rfl) ?_ (fun hHeld=>?_)
 ·exact Dr.drew _
 refine qz 0 hHeld ?_;refine qz 1 hHeld ?_ (hy:=by intro w' hSw;(try dsimp only at hSw);have c0:=jA c0 hSw.below;have c1:=jA c1 hSw.below;have d0:=jA d0 hSw.below;have d1:=jA d1 hSw.below;(try clear hHeld);go_simp;try with_reducible rfl);refine qz 2 hHeld ?_;refine qz 3 hHeld ?_ (hy:=by intro w' hSw;(try dsimp only at hSw);have c0:=jA c0 hSw.below;have c1:=jA c1 hSw.below;have d0:=jA d0 hSw.below;have d1:=jA d1 hSw.below;(try clear hHeld);go_simp;try with_reducible rfl);refine qz 5 hHeld ?_;refine qz 6 hHeld ?_ (hy:=by intro w' hSw;(try dsimp only at hSw);have c0:=jA c0 hSw.below;have c1:=jA c1 hSw.below;have d0:=jA d0 hSw.below;have d1:=jA d1 hSw.below;(try clear hHeld);go_simp;try with_reducible rfl);refine qz 7 hHeld ?_;refine qz 8 hHeld ?_ (hy:=by intro w' hSw;(try dsimp only at hSw);have c0:=jA c0 hSw.below;have c1:=jA c1 hSw.below;have d0:=jA d0 hSw.below;have d1:=jA d1 hSw.below;(try clear hHeld);go_simp;try with_reducible rfl);refine jr 4 fun K hK=>?_;(try clear hb);go_simp;(refine(calls_dr (cmp_CompareAddr a b _)).mono ?_;rintro e w1 ⟨rfl,hb⟩);go_wp2_with fail;refine hK.out _ _ ?_ (fun hHeld=>?_);(· first|exact hHeld.on hb|exact hHeld.alloc _);clear hK K;(try simp only[jz]);refine jr 9 fun K hK=>?_;(try clear hb);go_simp;(refine(calls_dr (cmp_CompareInt n m _)).mono ?_;rintro e w1 ⟨rfl,hb⟩);go_wp2_with fail;refine hK.out _ _ ?_ (fun hHeld=>?_);(· first|exact hHeld.on hb|exact hHeld.alloc _);clear hK K;(try simp only[jz]);refine jr 10 fun K hK=>?_;(try clear hb);go_simp;go_wp2_with fail;refine hK.out _ _ ?_ (fun hHeld=>?_);(· first|exact hHeld.on hb|exact hHeld.alloc _);clear hK K;(try simp only[jz]);refine jr 11 fun K hK=>?_;(try clear hb);go_simp;(refine(calls_dr (cmp_OrInt2 _ 2 (cmpI a b) (cmpI n m) _ (by simp) (by simp))).mono ?_;rintro e w1 ⟨rfl,hb⟩);go_wp2_with fail;refine hK.out _ _ ?_ (fun hHeld=>?_);(· first|exact hHeld.on hb|exact hHeld.alloc _);clear hK K;(try simp only[jz]);refine qz 12 hHeld ?_;refine wpAnyH_done (by kernel_rfl) ?_ _;have hB':=hB.on hHeld;clear hHeld hb;go_wp2;go_ret;exact⟨jU rfl,hB'⟩
theorem ps_Cmp (p q:Pf) (w:World):Calls Tryz.prog 22 #[.agg #[.int .u32 p.1,.int .i64 p.2],.agg #[.int .u32 q.1,.int .i64 q.2]] w fun e w'=>e=.returned (.int .i64 (pcmp p q))∧Below w.heap.size w w':=ip_Cmp _ _ _ _ _
open Go.RowKit
theorem info_pref:(Tryz.prog.info? 53).map (fun i=>(i.zero,i.size,i.bytes))=some (some (.agg #[.int .u32 0,.int .i64 0]),2,16):=by kernel_rfl
theorem sl_ClonePf (sa:Option Addr) (n cap:Nat) (cs:List Value) (w:World) (hl:cs.length=n*2) (hn:n≤maxLen) (hc:0<n→∃b off,sa=some ⟨b,off,none⟩∧∀q u,cs[q]? =some u→w.cell? ⟨b,off+q,none⟩=some u)
  (h1:∀u∈cs,u.oneCell'=true) (hb:n*16≤140737488351232):Calls Tryz.prog 95 #[.slice sa n cap] w fun e w'=>∃v',e=.returned v'∧w'.ownsRow w.heap.size 53 2 v' n cs∧Below w.heap.size w w':=by
 obtain⟨i0,hii,hz0,hz1,hz2⟩:=info_parts info_pref;have HC:=jh hc;have HL:=jh hl;have H1:=jh h1;unfold maxLen at hn;clear hc hl h1;go_enter Tryz.func95,Tryz.ntmps95;cases sa with
 |none=>
  obtain rfl:n=0:=by
   by_cases h0:0<n
   ·obtain⟨b,off,h,_⟩:=HC.out h0;cases h
   ·omega
  obtain rfl:cs=[]:=List.length_eq_zero_iff.1 (by have:=HL.out;omega);have EQ:=Lib.run_eql_slice_nil (P:=Tryz.prog) w 23 53 none 0 cap 0 0 Tryz.underlying23;simp only[Option.isNone_none] at EQ;go_wp2_with fail;go_ret;exact⟨_,rfl,⟨by simp,.inl ⟨rfl,rfl⟩⟩,Below.refl _ _⟩
 |some a=>
  have CC:Hid (∀q u,cs[q]? =some u→w.cell? (a.add q)=some u):=jh (by
   intro q u hq;by_cases h0:0<n
   ·obtain⟨b,off,h,h2⟩:=HC.out h0;injection h with h;subst h;have e:(⟨b,off,none⟩:Addr).add q=⟨b,off+q,none⟩:=by
     unfold Addr.add;split
     ·next h=>rw[h];simp
     ·rfl
    rw[e];exact h2 q u hq
   ·have:=(List.getElem?_eq_some_iff.1 hq).1;rw[HL.out] at this;have:n=0:=by omega
    subst this;omega)
  clear HC;have OE:=jh (own_empty (w:=w) (B:=w.heap.size) (e:=53) (k:=2) (Nat.le_refl _));have EQ:=Lib.run_eql_slice_nil (P:=Tryz.prog) w 23 53 (some a) n cap 0 0 Tryz.underlying23;simp only[Option.isNone_some] at EQ;go_wp2_with (at_builtin;refine wpList_append_own _ rfl _ _ 23 rfl w.heap.size 53 i0 _ 2 16 Tryz.underlying23 hii hz0 hz1 hz2 rfl (by decide) _ 0 [] rfl OE.out a n cap cs rfl HL.out (fun q u hq=>jA (CC.out q u hq) ((Below.refl _ _).alloc (Nat.le_refl _) _)) H1.out (by unfold maxLen;omega) (by omega) (by simp) ?_);intro v' w' hown hgrow _;have OW:Hid (w'.ownsRow w.heap.size 53 2 v' n cs):=jh (by simpa using hown);have BW:Hid (Below w.heap.size w w'):=jh (((Below.refl _ _).alloc (Nat.le_refl _) _).grown hgrow (by simp) (fun g hg=>by cases hg;exact Nat.le_refl _));clear hown hgrow;go_wp2_with fail;go_ret;exact⟨_,rfl,OW.out,BW.out⟩
def OwnPs (w:World) (B:Nat) (v:Value) (xs:List Pf):Prop:=w.ownsRow B 53 2 v xs.length (xs.flatMap encP)∧∀p∈xs,OkP p
theorem OwnPs.at {w:World} {B:Nat} {v:Value} {xs:List Pf} (h:OwnPs w B v xs):PsAt w v xs:=(own_slat encP_len h.1).imp fun _ _ hx hc=>⟨hc,h.2 _ hx⟩
theorem OwnPs.below {w w':World} {B:Nat} {v:Value} {xs:List Pf} (h:OwnPs w B v xs) (hb:Below w.heap.size w w'):OwnPs w' B v xs:=⟨jQ h.1 hb,h.2⟩
theorem ps_Clone (v:Value) (xs:List Pf) (w:World) (h:PsAt w v xs) (hb:xs.length*16≤140737488351232):
  Calls Tryz.prog 95 #[v] w fun e w'=>∃v',e=.returned v'∧OwnPs w' w.heap.size v' xs∧Below w.heap.size w w':=by
 have hok:=ps_ok h;obtain⟨sa,cap,rfl,h2,h3,h4⟩:=h;refine(sl_ClonePf sa xs.length cap (xs.flatMap encP) w (jX encP_len xs) (by omega) (fun h0=>?_) (flat_one encP_one xs) hb).mono ?_
 ·obtain⟨b,off,h5,h6⟩:=h4 h0;refine⟨b,off,h5,fun q u hq=>?_⟩;have hql:=(List.getElem?_eq_some_iff.1 hq).1;rw[jX encP_len] at hql;have hi:q/2<xs.length:=by omega
  have hf:=flat_get encP_len xs (q/2) _ (List.getElem?_eq_getElem hi) (q%2) (by omega);have e:q/2*2+q%2=q:=by omega
  rw[e,hq] at hf;obtain⟨cs,-,⟨rfl,-⟩,hc⟩:=h6 (q/2) _ (List.getElem?_eq_getElem hi);have:=hc (q%2) u hf.symm;rw[Nat.add_assoc,e] at this;exact this
 ·rintro e w' ⟨v',rfl,ho,hb⟩;exact⟨v',rfl,⟨ho,hok⟩,hb⟩
def BsPost (xs:List Pf) (p:Pf) (w:World) (e:Ending) (w':World):Prop:=∃i:Nat,e=.returned (.tuple #[.int .i64 i,.bool (decide (p∈xs))])∧i≤xs.length∧(p∈xs→xs[i]? =some p)∧Below w.heap.size w w'
def Lows (xs:List Pf) (p:Pf) (i j:Nat):Prop:=(∀(k:Nat) (x:Pf),k<i→xs[k]? =some x→plt x p)∧∀(k:Nat) (x:Pf),j≤k→xs[k]? =some x→¬plt x p
theorem lows_start (xs:List Pf) (p:Pf):Lows xs p 0 xs.length:=⟨fun k x h=>by omega,fun k x h hx=>by have:=(List.getElem?_eq_some_iff.1 hx).1;omega⟩
theorem lows_up {xs:List Pf} {p x:Pf} {i j h:Nat} (hs:Srt xs) (hL:Lows xs p i j) (hx:xs[h]? =some x) (hlt:plt x p):Lows xs p (h+1) j:=by
 refine⟨fun k y hk hy=>?_,hL.2⟩;by_cases e:k=h
 ·subst e;rw[hx] at hy;obtain rfl:=Option.some.inj hy;exact hlt
 ·exact plt_trans (srt_lt hs hy hx (by omega)) hlt
theorem lows_down {xs:List Pf} {p x:Pf} {i j h:Nat} (hs:Srt xs) (hL:Lows xs p i j) (hx:xs[h]? =some x) (hlt:¬plt x p):Lows xs p i h:=by
 refine⟨hL.1,fun k y hk hy=>?_⟩;by_cases e:k=h
 ·subst e;rw[hx] at hy;obtain rfl:=Option.some.inj hy;exact hlt
 ·exact fun h2=>hlt (plt_trans (srt_lt hs hx hy (by omega)) h2)
theorem lows_not {xs:List Pf} {p x:Pf} {i:Nat} (hs:Srt xs) (hL:Lows xs p i i) (hx:xs[i]? =some x) (hne:x≠p):p∉xs:=by
 intro hp;obtain⟨k,hk⟩:=List.mem_iff_getElem?.1 hp;by_cases h1:k<i
 ·exact plt_irrefl _ (hL.1 k p h1 hk)
 ·by_cases e:k=i
  ·subst e;rw[hx] at hk;exact hne (Option.some.inj hk)
  ·exact hL.2 i x (Nat.le_refl _) hx (srt_lt hs hx hk (by omega))
theorem lows_over {xs:List Pf} {p:Pf} (hL:Lows xs p xs.length xs.length):p∉xs:=by
 intro hp;obtain⟨k,hk⟩:=List.mem_iff_getElem?.1 hp;exact plt_irrefl _ (hL.1 k p (List.getElem?_eq_some_iff.1 hk).1 hk)
theorem ps_Search (v:Value) (xs:List Pf) (p:Pf) (w:World) (h:PsAt w v xs) (hs:Srt xs):
  Calls Tryz.prog 98 #[v,.agg #[.int .u32 p.1,.int .i64 p.2],.func (.func 22) #[] #[]] w (BsPost xs p w):=by
 obtain⟨sa,cap,rfl,hlc,hcm,hV⟩:=h;have HV:=jh hV;have HS:=jh hs;unfold maxLen at hcm;clear hV hs;go_enter Tryz.func98,Tryz.ntmps98;go_wp2_with fail;obtain⟨W0,hW0,c0,c1,hB⟩:=box2 w (.int .u32 p.1) (.int .i64 p.2) 53;rw[←hW0];clear hW0;have C0:=jh c0;have C1:=jh c1;have L0:=jh (lows_start xs p);clear c0 c1;go_loopw [9,10] (fun i j wr=>∃a b:Nat,a≤b∧b≤xs.length∧i=.int .i64 a∧j=.int .i64 b∧Hid (Lows xs p a b)∧Hid (Below W0.heap.size W0 wr)) (fun i j _=>(intOf j).toNat - (intOf i).toNat)
 case atStart=>exact⟨0,xs.length,by omega,by omega,rfl,rfl,L0,jh (Below.refl _ _)⟩
 case round=>
  obtain⟨a,b,hab,hbl,rfl,rfl,L,B⟩:=hrel;by_cases hlt:a<b
  ·have j0:decide ((a:Int)<(b:Int))=true:=by simpa using hlt
   have eh:wrap64 (IntKind.u64.wrap (wrap64 ((a:Int)+(b:Int)))/2)=((((a+b)/2:Nat)):Int):=by
    have e2:IntKind.u64.wrap (wrap64 ((a:Int)+(b:Int)))=(a:Int)+b:=by
     simp[IntKind.wrap,IntKind.bits,IntKind.signed,wrap64];omega
    rw[e2];unfold wrap64;omega
   have EH:=jh eh;clear eh;go_wp2_with fail;rw[EH.out];obtain⟨m,hm⟩:∃m,(a+b)/2=m:=⟨_,rfl⟩
   rw[hm];have m0:a≤m:=by omega
   have m1:m<b:=by omega
   clear hm EH;obtain⟨x,hx⟩:∃x,xs[m]? =some x:=⟨_,List.getElem?_eq_getElem (by omega)⟩
   obtain⟨bb,off,hsa,hP⟩:=HV.out (by omega);subst hsa;obtain⟨x0,x1⟩:=ps_two hP hx;have x0:=(B.out.cell (jH (jA x0 hB))).trans (jA x0 hB);have x1:=(B.out.cell (jH (jA x1 hB))).trans (jA x1 hB);have c0:=(B.out.cell (jH C0.out)).trans C0.out;have c1:=(B.out.cell (jH C1.out)).trans C1.out;have n0:(0:Int)≤(m:Int):=by omega
   have n1:(m:Int)<(xs.length:Int):=by omega
   have HX:=jh hx;clear hP hx;have PC:=jh (fun (W:World)=>ps_Cmp x p W);by_cases hp:plt x p
   ·have PB:Hid (decide (pcmp x p<0)=true):=jh (by simpa using pcmp_lt.2 hp);have L2:=jh (lows_up HS.out L.out HX.out hp);generalize pcmp x p=c at PC PB;have hpb:=PB.out;clear PB hp;refine wp_region_held_drew (S:=fun w'=>Below wr.heap.size wr w') (by kernel_rfl) ?_ (fun hHeld=>?_)
    ·exact(Below.refl _ _).drew
    refine qz 0 hHeld ?_;refine qz 1 hHeld ?_;refine qz 2 hHeld ?_;refine qz 3 hHeld ?_ (hy:=by intro w' hSw;(try dsimp only at hSw);have x0:=jA x0 hSw;have x1:=jA x1 hSw;have c0:=jA c0 hSw;have c1:=jA c1 hSw;(try clear hHeld);go_simp;try with_reducible rfl);refine qz 4 hHeld ?_ (hy:=by intro w' hSw;(try dsimp only at hSw);have x0:=jA x0 hSw;have x1:=jA x1 hSw;have c0:=jA c0 hSw;have c1:=jA c1 hSw;(try clear hHeld);go_simp;try with_reducible rfl);refine qz 5 hHeld ?_ (hy:=by intro w' hSw;(try dsimp only at hSw);have x0:=jA x0 hSw;have x1:=jA x1 hSw;have c0:=jA c0 hSw;have c1:=jA c1 hSw;(try clear hHeld);go_simp;try with_reducible rfl);refine jr 6 fun K hK=>?_;(try clear hb);go_simp;(refine(PC.out _).mono ?_;rintro e w1 ⟨rfl,hb⟩);go_wp2_with fail;refine hK.out _ _ ?_ (fun hHeld=>?_);(·exact hHeld.trans (hb.mono hHeld.size));clear hK K;(try simp only[jz]);refine qz 7 hHeld ?_;refine wpAnyH_done (by kernel_rfl) ?_ _;have B2:=jh (jC B.out hHeld);clear hHeld hb;go_wp2_with fail;exact⟨⟨m+1,b,by omega,by omega,by go_num,rfl,L2,B2⟩,by simp[intOf];omega⟩
   ·have PB:Hid (decide (pcmp x p<0)=false):=jh (by simpa using fun h=>hp (pcmp_lt.1 h));have L2:=jh (lows_down HS.out L.out HX.out hp);generalize pcmp x p=c at PC PB;have hpb:=PB.out;clear PB hp;refine wp_region_held_drew (S:=fun w'=>Below wr.heap.size wr w') (by kernel_rfl) ?_ (fun hHeld=>?_)
    ·exact(Below.refl _ _).drew
    refine qz 0 hHeld ?_;refine qz 1 hHeld ?_;refine qz 2 hHeld ?_;refine qz 3 hHeld ?_ (hy:=by intro w' hSw;(try dsimp only at hSw);have x0:=jA x0 hSw;have x1:=jA x1 hSw;have c0:=jA c0 hSw;have c1:=jA c1 hSw;(try clear hHeld);go_simp;try with_reducible rfl);refine qz 4 hHeld ?_ (hy:=by intro w' hSw;(try dsimp only at hSw);have x0:=jA x0 hSw;have x1:=jA x1 hSw;have c0:=jA c0 hSw;have c1:=jA c1 hSw;(try clear hHeld);go_simp;try with_reducible rfl);refine qz 5 hHeld ?_ (hy:=by intro w' hSw;(try dsimp only at hSw);have x0:=jA x0 hSw;have x1:=jA x1 hSw;have c0:=jA c0 hSw;have c1:=jA c1 hSw;(try clear hHeld);go_simp;try with_reducible rfl);refine jr 6 fun K hK=>?_;(try clear hb);go_simp;(refine(PC.out _).mono ?_;rintro e w1 ⟨rfl,hb⟩);go_wp2_with fail;refine hK.out _ _ ?_ (fun hHeld=>?_);(·exact hHeld.trans (hb.mono hHeld.size));clear hK K;(try simp only[jz]);refine qz 7 hHeld ?_;refine wpAnyH_done (by kernel_rfl) ?_ _;have B2:=jh (jC B.out hHeld);clear hHeld hb;go_wp2_with fail;exact⟨⟨a,m,by omega,by omega,rfl,rfl,L2,B2⟩,by simp[intOf];omega⟩
  ·obtain rfl:a=b:=by omega
   have j0:decide ((a:Int)<(a:Int))=false:=by simp
   by_cases hin:a<xs.length
   ·obtain⟨x,hx⟩:∃x,xs[a]? =some x:=⟨_,List.getElem?_eq_getElem hin⟩
    obtain⟨bb,off,hsa,hP⟩:=HV.out (by omega);subst hsa;obtain⟨x0,x1⟩:=ps_two hP hx;have x0:=(B.out.cell (jH (jA x0 hB))).trans (jA x0 hB);have x1:=(B.out.cell (jH (jA x1 hB))).trans (jA x1 hB);have c0:=(B.out.cell (jH C0.out)).trans C0.out;have c1:=(B.out.cell (jH C1.out)).trans C1.out;have n0:(0:Int)≤(a:Int):=by omega
    have n1:(a:Int)<(xs.length:Int):=by omega
    have j1:decide ((a:Int)<(xs.length:Int))=true:=by simpa using hin
    have HX:=jh hx;clear hP hx;have PC:=jh (fun (W:World)=>ps_Cmp x p W);have PB:Hid ((pcmp x p==0)=decide (p∈xs)):=jh (by
     by_cases e:x=p
     ·have h1:pcmp x p=0:=pcmp_eq.2 e;rw[h1];have:p∈xs:=e▸List.mem_of_getElem? HX.out;simp[this]
     ·have h1:pcmp x p≠0:=fun h=>e (pcmp_eq.1 h);have:=lows_not HS.out L.out HX.out e;simp[this,h1])
    have PX:Hid (p∈xs→xs[a]? =some p):=jh (fun hmem=>by
     by_cases e:x=p
     ·rw[←e];exact HX.out
     ·exact absurd hmem (lows_not HS.out L.out HX.out e))
    clear HX L;generalize pcmp x p=c at PC PB;generalize hd:decide (p∈xs)=d at PB;have HD:=jh hd;have hpb:=PB.out;clear PB hd;go_wp2_with fail;refine wp_region_held_drew (S:=fun w'=>Below wr.heap.size wr w') (by kernel_rfl) ?_ (fun hHeld=>?_)
    ·exact(Below.refl _ _).drew
    refine qz 0 hHeld ?_;refine qz 1 hHeld ?_;refine qz 2 hHeld ?_;refine qz 3 hHeld ?_;refine qz 4 hHeld ?_;first|(refine rg_no (i:=5) (atS (atS (atS (atS (atS at0))))) (by kernel_rfl) (by kernel_rfl) (by kernel_rfl) (fun _ _ _ h=>h) ?_ hHeld ?_;(·rfl))|(refine qy 5 ?_ ?_ ?_ hHeld ?_;rotate_left 1;(·rfl);(·intro w' hSw;(try dsimp only at hSw);(try clear hHeld);go_simp;try with_reducible rfl))
    (try simp only[jz]);first|(refine rg_no (i:=6) (atS (atS (atS (atS (atS (atS at0)))))) (by kernel_rfl) (by kernel_rfl) (by kernel_rfl) (fun _ _ _ h=>h) ?_ hHeld ?_;(·rfl))|(refine qy 6 ?_ ?_ ?_ hHeld ?_;rotate_left 1;(·rfl);(·intro w' hSw;(try dsimp only at hSw);(try clear hHeld);go_simp;try with_reducible rfl))
    (try simp only[jz]);first|(refine rg_no (i:=7) (atS (atS (atS (atS (atS (atS (atS at0))))))) (by kernel_rfl) (by kernel_rfl) (by kernel_rfl) (fun _ _ _ h=>h) ?_ hHeld ?_;(·rfl))|(refine qy 7 ?_ ?_ ?_ hHeld ?_;rotate_left 1;(·rfl);(·intro w' hSw;(try dsimp only at hSw);(try clear hHeld);go_simp;try with_reducible rfl))
    (try simp only[jz]);first|(refine rg_no (i:=8) (atS (atS (atS (atS (atS (atS (atS (atS at0)))))))) (by kernel_rfl) (by kernel_rfl) (by kernel_rfl) (fun _ _ _ h=>h) ?_ hHeld ?_;(·rfl))|(refine qy 8 ?_ ?_ ?_ hHeld ?_;rotate_left 1;(·rfl);(·intro w' hSw;(try dsimp only at hSw);have x0:=jA x0 hSw;have x1:=jA x1 hSw;have c0:=jA c0 hSw;have c1:=jA c1 hSw;(try clear hHeld);go_simp;try with_reducible rfl))
    (try simp only[jz]);first|(refine rg_no (i:=9) (atS (atS (atS (atS (atS (atS (atS (atS (atS at0))))))))) (by kernel_rfl) (by kernel_rfl) (by kernel_rfl) (fun _ _ _ h=>h) ?_ hHeld ?_;(·rfl))|(refine qy 9 ?_ ?_ ?_ hHeld ?_;rotate_left 1;(·rfl);(·intro w' hSw;(try dsimp only at hSw);have x0:=jA x0 hSw;have x1:=jA x1 hSw;have c0:=jA c0 hSw;have c1:=jA c1 hSw;(try clear hHeld);go_simp;try with_reducible rfl))
    (try simp only[jz]);first|(refine rg_no (i:=10) (atS (atS (atS (atS (atS (atS (atS (atS (atS (atS at0)))))))))) (by kernel_rfl) (by kernel_rfl) (by kernel_rfl) (fun _ _ _ h=>h) ?_ hHeld ?_;(·rfl))|(refine qy 10 ?_ ?_ ?_ hHeld ?_;rotate_left 1;(·rfl);(·intro w' hSw;(try dsimp only at hSw);have x0:=jA x0 hSw;have x1:=jA x1 hSw;have c0:=jA c0 hSw;have c1:=jA c1 hSw;(try clear hHeld);go_simp;try with_reducible rfl))
    (try simp only[jz]);first|(refine rg_no (i:=11) (atS (atS (atS (atS (atS (atS (atS (atS (atS (atS (atS at0))))))))))) (by kernel_rfl) (by kernel_rfl) (by kernel_rfl) (fun _ _ _ h=>h) ?_ hHeld ?_;(·rfl))|(refine jr 11 fun K hK=>?_;(try clear hb);go_simp;(refine(PC.out _).mono ?_;rintro e w1 ⟨rfl,hb⟩);go_wp2_with fail;refine hK.out _ _ ?_ (fun hHeld=>?_);(·exact hHeld.trans (hb.mono hHeld.size));clear hK K)
    (try simp only[jz]);first|(refine rg_no (i:=12) (atS (atS (atS (atS (atS (atS (atS (atS (atS (atS (atS (atS at0)))))))))))) (by kernel_rfl) (by kernel_rfl) (by kernel_rfl) (fun _ _ _ h=>h) ?_ hHeld ?_;(·rfl))|(refine qy 12 ?_ ?_ ?_ hHeld ?_;rotate_left 1;(·rfl);(·intro w' hSw;(try dsimp only at hSw);(try clear hHeld);go_simp;try with_reducible rfl))
    (try simp only[jz]);refine qz 13 hHeld ?_;refine qz 14 hHeld ?_;refine qz 15 hHeld ?_;refine wpAnyH_done (by kernel_rfl) ?_ _;have B2:=jh (jC B.out hHeld);clear hHeld hb;go_wp2_with fail
    go_ret2
    exact⟨a,by rw[HD.out];rfl,by omega,PX.out,jC hB B2.out⟩
   ·obtain rfl:a=xs.length:=by omega
    have PX:Hid (p∉xs):=jh (lows_over L.out);have j1:decide ((xs.length:Int)<(xs.length:Int))=false:=by simp
    have c0:=(B.out.cell (jH C0.out)).trans C0.out;have c1:=(B.out.cell (jH C1.out)).trans C1.out;clear L;go_wp2_with fail;refine wp_region_held_drew (S:=fun w'=>Below wr.heap.size wr w') (by kernel_rfl) ?_ (fun hHeld=>?_)
    ·exact(Below.refl _ _).drew
    refine qz 0 hHeld ?_;refine qz 1 hHeld ?_;refine qz 2 hHeld ?_;refine qz 3 hHeld ?_;refine qz 4 hHeld ?_;first|(refine rg_no (i:=5) (atS (atS (atS (atS (atS at0))))) (by kernel_rfl) (by kernel_rfl) (by kernel_rfl) (fun _ _ _ h=>h) ?_ hHeld ?_;(·rfl))|(refine qy 5 ?_ ?_ ?_ hHeld ?_;rotate_left 1;(·rfl);(·intro w' hSw;(try dsimp only at hSw);(try clear hHeld);go_simp;try with_reducible rfl))
    (try simp only[jz]);first|(refine rg_no (i:=6) (atS (atS (atS (atS (atS (atS at0)))))) (by kernel_rfl) (by kernel_rfl) (by kernel_rfl) (fun _ _ _ h=>h) ?_ hHeld ?_;(·rfl))|(refine qy 6 ?_ ?_ ?_ hHeld ?_;rotate_left 1;(·rfl);(·intro w' hSw;(try dsimp only at hSw);(try clear hHeld);go_simp;try with_reducible rfl))
    (try simp only[jz]);first|(refine rg_no (i:=7) (atS (atS (atS (atS (atS (atS (atS at0))))))) (by kernel_rfl) (by kernel_rfl) (by kernel_rfl) (fun _ _ _ h=>h) ?_ hHeld ?_;(·rfl))|(refine qy 7 ?_ ?_ ?_ hHeld ?_;rotate_left 1;(·rfl);(·intro w' hSw;(try dsimp only at hSw);(try clear hHeld);go_simp;try with_reducible rfl))
    (try simp only[jz]);first|(refine rg_no (i:=8) (atS (atS (atS (atS (atS (atS (atS (atS at0)))))))) (by kernel_rfl) (by kernel_rfl) (by kernel_rfl) (fun _ _ _ h=>h) ?_ hHeld ?_;(·rfl))|(refine qy 8 ?_ ?_ ?_ hHeld ?_;rotate_left 1;(·rfl);(·intro w' hSw;(try dsimp only at hSw);have c0:=jA c0 hSw;have c1:=jA c1 hSw;(try clear hHeld);go_simp;try with_reducible rfl))
    (try simp only[jz]);first|(refine rg_no (i:=9) (atS (atS (atS (atS (atS (atS (atS (atS (atS at0))))))))) (by kernel_rfl) (by kernel_rfl) (by kernel_rfl) (fun _ _ _ h=>h) ?_ hHeld ?_;(·rfl))|(refine qy 9 ?_ ?_ ?_ hHeld ?_;rotate_left 1;(·rfl);(·intro w' hSw;(try dsimp only at hSw);have c0:=jA c0 hSw;have c1:=jA c1 hSw;(try clear hHeld);go_simp;try with_reducible rfl))
    (try simp only[jz]);first|(refine rg_no (i:=10) (atS (atS (atS (atS (atS (atS (atS (atS (atS (atS at0)))))))))) (by kernel_rfl) (by kernel_rfl) (by kernel_rfl) (fun _ _ _ h=>h) ?_ hHeld ?_;(·rfl))|(refine qy 10 ?_ ?_ ?_ hHeld ?_;rotate_left 1;(·rfl);(·intro w' hSw;(try dsimp only at hSw);have c0:=jA c0 hSw;have c1:=jA c1 hSw;(try clear hHeld);go_simp;try with_reducible rfl))
    (try simp only[jz]);first|(refine rg_no (i:=11) (atS (atS (atS (atS (atS (atS (atS (atS (atS (atS (atS at0))))))))))) (by kernel_rfl) (by kernel_rfl) (by kernel_rfl) (fun _ _ _ h=>h) ?_ hHeld ?_;(·rfl))|(refine jr 11 fun K hK=>?_;(try clear hb);go_simp;(refine(ps_Cmp p p _).mono ?_;rintro e w1 ⟨rfl,hb⟩);go_wp2_with fail;refine hK.out _ _ ?_ (fun hHeld=>?_);(·exact hHeld.trans (hb.mono hHeld.size));clear hK K)
    (try simp only[jz]);first|(refine rg_no (i:=12) (atS (atS (atS (atS (atS (atS (atS (atS (atS (atS (atS (atS at0)))))))))))) (by kernel_rfl) (by kernel_rfl) (by kernel_rfl) (fun _ _ _ h=>h) ?_ hHeld ?_;(·rfl))|(refine qy 12 ?_ ?_ ?_ hHeld ?_;rotate_left 1;(·rfl);(·intro w' hSw;(try dsimp only at hSw);(try clear hHeld);go_simp;try with_reducible rfl))
    (try simp only[jz]);refine qz 13 hHeld ?_;refine qz 14 hHeld ?_;refine qz 15 hHeld ?_;refine wpAnyH_done (by kernel_rfl) ?_ _;have B2:=jh (jC B.out hHeld);clear hHeld;go_wp2_with fail
    go_ret2
    exact⟨xs.length,by rw[show decide (p∈xs)=false by simpa using PX.out];rfl,by omega,fun h=>absurd h PX.out,jC hB B2.out⟩
open Go.RowKit
theorem blk_setCells {g:Nat} {T:TypeId}:∀(vs:List Value) (o:Nat) (w:World) (cur:Array Value),w.heap[g]? =some (.cells cur T (0,0))→(w.setCells g o vs).heap[g]? =some (.cells (Sort.setMany cur o vs) T (0,0))
 |[],_,_,_,h=>h
 |v::r,o,_,_,h=>blk_setCells r (o+1) _ _ (jO h o v)
theorem kept_setCells {F:Nat→Prop} {g:Nat} (hF:F g):∀(vs:List Value) (o:Nat) (w:World),Kept F w (w.setCells g o vs)
 |[],_,_=>Kept.refl _ _
 |v::r,o,_=>(Kept.setCell ⟨g,o,none⟩ v hF).trans (kept_setCells hF r (o+1) _)
theorem own_front {w:World} {B n g c k m:Nat} {e:TypeId} {xs:List Value} (h:w.ownsRow B e k (.slice (some ⟨g,0,none⟩) n c) n xs) (hm:m≤n) (vs:List Value):
  (w.setCells g (m*k) vs).ownsRow B e k (.slice (some ⟨g,0,none⟩) m c) m (xs.take (m*k)):=by
 obtain⟨h1,⟨h2,_⟩|⟨g',cap,cur,h2,hB,hg,hn,hm2,hs,hc⟩⟩:=h
 ·cases h2
 ·injection h2 with e1 e2 e3;injection e1 with e1;injection e1 with e1;subst e1;subst e3;have hmk:m*k≤n*k:=Nat.mul_le_mul_right _ hm;have hnk:n*k≤c*k:=Nat.mul_le_mul_right _ hn;refine⟨by rw[List.length_take,h1];omega,.inr ⟨g,c,_,rfl,hB,blk_setCells vs (m*k) w cur hg,by omega,hm2,by rw[Sort.size_setMany,hs],?_⟩⟩;rw[←hc,List.take_take,Nat.min_eq_left hmk];apply List.ext_getElem?;intro i;by_cases hi:i<m*k
  ·rw[List.getElem?_take_of_lt hi,List.getElem?_take_of_lt hi];have hil:i<cur.size:=by omega
   have hg2:=Sort.get_setMany vs (m*k) cur i hil;rw[if_neg (by omega),getElem!_pos (Sort.setMany cur (m*k) vs) i (by rw[Sort.size_setMany];exact hil),getElem!_pos cur i hil] at hg2;simp[hil,hg2]
  ·rw[List.getElem?_eq_none (by simp;omega),List.getElem?_eq_none (by simp;omega)]
theorem own_setP {w:World} {B n g c:Nat} {L:List Pf} {i:Nat} (h:w.ownsRow B 53 2 (.slice (some ⟨g,0,none⟩) n c) n (L.flatMap encP)) (hi:i<L.length) (y:Pf):
  (w.setCells g (i*2) (encP y)).ownsRow B 53 2 (.slice (some ⟨g,0,none⟩) n c) n ((L.set i y).flatMap encP):=by
 have h1:=own_set h rfl (i*2) (.int .u32 y.1);have h2:=own_set h1 rfl (i*2+1) (.int .i64 y.2);have hk:∀r∈L.map encP,r.length=2:=fun r hr=>by
  obtain⟨p,-,rfl⟩:=List.mem_map.1 hr;rfl
 have hr:(L.map encP)[i]? =some (encP L[i]):=by rw[List.getElem?_map,List.getElem?_eq_getElem hi];rfl
 have e1:=rows_set hk hr (j:=0) (by decide) (.int .u32 y.1);have hk2:∀r∈(L.map encP).set i ((encP L[i]).set 0 (.int .u32 y.1)),r.length=2:=fun r hr=>by
  rcases List.mem_or_eq_of_mem_set hr with h|rfl
  ·exact hk r h
  ·rfl
 have hr2:((L.map encP).set i ((encP L[i]).set 0 (.int .u32 y.1)))[i]? =some ((encP L[i]).set 0 (.int .u32 y.1)):=List.getElem?_set_self (by simpa using hi);have e2:=rows_set hk2 hr2 (j:=1) (by decide) (.int .i64 y.2);rw[List.flatMap_def] at h2;rw[show i*2=i*2+0 from rfl,←e1] at h2;rw[show i*2+0+1=i*2+1 from rfl,←e2,List.set_set] at h2;rw[List.flatMap_def,List.map_set];exact h2
theorem own_two {w:World} {B n g c:Nat} {L:List Pf} {i:Nat} {x:Pf} (h:w.ownsRow B 53 2 (.slice (some ⟨g,0,none⟩) n c) n (L.flatMap encP)) (hx:L[i]? =some x):
  w.cell? ⟨g,i*2,none⟩=some (.int .u32 x.1)∧w.cell? ⟨g,i*2+1,none⟩=some (.int .i64 x.2)∧w.frozen? ⟨g,i*2,none⟩=false∧w.frozen? ⟨g,i*2+1,none⟩=false:=by
 have h0:=flat_get encP_len L i x hx 0 (by decide);have h1:=flat_get encP_len L i x hx 1 (by decide);obtain⟨a1,a2,-⟩:=own_row_cell h rfl h0;obtain⟨b1,b2,-⟩:=own_row_cell h rfl h1;exact⟨a1,b1,a2,b2⟩
abbrev pfZ:Array Value:=#[.int .u32 0,.int .i64 0]
theorem zeroCells_one (z:Array Value) (hz:∀v∈z,v.oneCell'=true) (h0:0<z.size) (n:Nat):∀v∈(Builtin.zeroCells z n).toList,v.oneCell'=true:=by
 intro v hv;unfold Builtin.zeroCells at hv;simp only[Array.toList_map,List.mem_map] at hv;obtain⟨i,_,rfl⟩:=hv;have hlt:i%z.size<z.size:=Nat.mod_lt _ h0;rw[getElem!_pos z _ hlt];exact hz _ (Array.getElem_mem hlt)
theorem run_clear_pf (w:World) (g o n c:Nat) (hn:0<n) (ht:w.there g o (n*2)):
  ∃L:List Value,∀ty,(Builtin.clear_ #[23] ty #[.slice (some ⟨g,o,none⟩) n c]).run Tryz.prog w=.ok (.tuple #[]) (w.setCells g o L):=by
 have hlen:(Builtin.zeroCells pfZ n).toList.length=n*2:=by simp[Builtin.zeroCells,pfZ]
 refine⟨(Builtin.zeroCells pfZ n).toList,fun ty=>?_⟩;have hst:=run_storeCells_cells (P:=Tryz.prog) g o (Builtin.zeroCells pfZ n).toList 0 w (fun j hj=>by rw[Nat.add_zero];exact(ht j (by rw[hlen] at hj;exact hj)).1) (fun j hj=>by rw[Nat.add_zero];exact(ht j (by rw[hlen] at hj;exact hj)).2) (zeroCells_one pfZ (by intro v hv;simp at hv;rcases hv with rfl|rfl<;>rfl) (by decide) n);simp only[Nat.add_zero] at hst;obtain⟨m,rfl⟩:∃m,n=m+1:=⟨n - 1,by omega⟩
 simp[Builtin.clear_,run_underlying Tryz.underlying23,Value.cells,hst]
theorem own_there {w:World} {B n g c:Nat} {L:List Pf} (h:w.ownsRow B 53 2 (.slice (some ⟨g,0,none⟩) n c) n (L.flatMap encP)) (hl:L.length=n) {k:Nat} (hk:k≤n):w.there g (k*2) ((n - k)*2):=by
 intro j hj;have hi:(k*2+j)/2<L.length:=by omega
 obtain⟨a,b,c,d⟩:=own_two h (List.getElem?_eq_getElem hi);rcases (by omega:k*2+j=(k*2+j)/2*2∨k*2+j=(k*2+j)/2*2+1) with e|e
 ·rw[e];exact⟨by rw[a];rfl,c⟩
 ·rw[e];exact⟨by rw[b];rfl,d⟩
def CompAt (xs L:List Pf) (k r:Nat):Prop:=L.length=xs.length∧k+1≤r∧r≤xs.length∧L.take k=comp (xs.take r)∧(comp (xs.take r)).length=k∧∀i,r≤i+1→L[i]? =xs[i]?
theorem compAt_start {xs:List Pf} {k:Nat} {x:Pf} (h0:∀(i:Nat) (x y:Pf),i+1<k+1→xs[i]? =some x→xs[i+1]? =some y→x≠y) (hx:xs[k]? =some x) (hy:xs[k+1]? =some x):CompAt xs xs (k+1) (k+2):=by
 have hl:=(List.getElem?_eq_some_iff.1 hy).1;have hw:=comp_whole (l:=xs) (k+1) h0 (by omega);have e:comp (xs.take (k+2))=xs.take (k+1):=by rw[comp_next hx hy,if_pos rfl,hw]
 exact⟨rfl,by omega,by omega,e.symm,by rw[e,List.length_take];omega,fun i _=>rfl⟩
theorem compAt_skip {xs L:List Pf} {k r:Nat} {x:Pf} (h:CompAt xs L k (r+1)) (hx:xs[r]? =some x) (hy:xs[r+1]? =some x):CompAt xs L k (r+2):=by
 obtain⟨h1,h2,h3,h4,h5,h6⟩:=h;have hl:=(List.getElem?_eq_some_iff.1 hy).1;have e:=comp_next hx hy;rw[if_pos rfl] at e;exact⟨h1,by omega,by omega,by rw[e,h4],by rw[e,h5],fun i hi=>h6 i (by omega)⟩
theorem compAt_keep {xs L:List Pf} {k r:Nat} {x y:Pf} (h:CompAt xs L k (r+1)) (hx:xs[r]? =some x) (hy:xs[r+1]? =some y) (hne:x≠y):CompAt xs (L.set k y) (k+1) (r+2):=by
 obtain⟨h1,h2,h3,h4,h5,h6⟩:=h;have hl:=(List.getElem?_eq_some_iff.1 hy).1;have e:=comp_next hx hy;rw[if_neg hne] at e;refine⟨by rw[List.length_set,h1],by omega,by omega,?_,by rw[e,List.length_append,h5];rfl,fun i hi=>?_⟩
 ·rw[e,←h4,List.take_add_one,List.getElem?_set_self (by omega),List.take_set,List.set_eq_of_length_le (by rw[List.length_take];omega)];rfl
 ·rw[List.getElem?_set_ne (by omega)];exact h6 i (by omega)
def CompPost (B:Nat) (v:Value) (xs:List Pf) (w:World) (e:Ending) (w':World):Prop:=∃v',e=.returned v'∧OwnPs w' B v' (comp xs)∧Kept (fun b=>v.ownBlock=some b) w w'
theorem pair_eq (x y:Pf):(x.1==y.1&&x.2==y.2)=decide (x=y):=by
 obtain⟨a,b⟩:=x;obtain⟨c,d⟩:=y;by_cases h1:a=c<;>by_cases h2:b=d<;>simp[h1,h2]
theorem ps_Compact (B:Nat) (v:Value) (xs:List Pf) (w:World) (h:OwnPs w B v xs) (hn:xs.length≤4611686018427387904):
  Calls Tryz.prog 77 #[v] w (CompPost B v xs w):=by
 obtain⟨ho,hok⟩:=h;by_cases hlen:xs.length<2
 ·have H:Hid (CompPost B v xs w (.returned v) w):=jh (by
   refine⟨v,rfl,⟨?_,?_⟩,Kept.refl _ _⟩
   ·have e:comp xs=xs:=by
     match xs,hlen with
     |[],_=>rfl
     |[x],_=>rfl
    rw[e];exact ho
   ·have e:comp xs=xs:=by
     match xs,hlen with
     |[],_=>rfl
     |[x],_=>rfl
    rw[e];exact hok)
  have hl:decide ((xs.length:Int)<2)=true:=by simp;omega
  rcases own_slice ho with⟨rfl,h0⟩|⟨g,c,rfl⟩
  ·obtain rfl:=List.length_eq_zero_iff.1 h0;clear ho hok;go_enter Tryz.func77,Tryz.ntmps77;go_wp2_with fail;go_ret;exact H.out
  ·clear ho hok;go_enter Tryz.func77,Tryz.ntmps77;go_wp2_with fail;go_ret;exact H.out
 ·obtain⟨g,c,rfl⟩:∃g c,v=.slice (some ⟨g,0,none⟩) xs.length c:=by
   rcases own_slice ho with⟨rfl,h0⟩|⟨g,c,rfl⟩
   ·omega
   ·exact⟨g,c,rfl⟩
  have hcap:xs.length≤c∧c≤9223372036854775807:=by
   obtain⟨-,⟨h2,_⟩|⟨g',cap,cur,h2,-,hg,hcn,hm,hs,hc⟩⟩:=ho
   ·cases h2
   ·injection h2 with e1 e2 e3;subst e3;unfold maxLen at hm;exact⟨hcn,hm⟩
  obtain⟨hc1,hc2⟩:=hcap;have hl:decide ((xs.length:Int)<2)=false:=by simp;omega
  have O:=jh ho;have OK:=jh hok;have HL:=jh hlen;clear ho hok hlen;go_enter Tryz.func77,Tryz.ntmps77;go_wp2_with fail;clear hl;go_loopw [3] (fun k3 wr=>∃k:Nat,k+1≤xs.length∧k3=.int .i64 ((k:Int)+1)∧Hid (∀(i:Nat) (x y:Pf),i+1<k+1→xs[i]? =some x→xs[i+1]? =some y→x≠y)∧Hid (wr.ownsRow B 53 2 (.slice (some ⟨g,0,none⟩) xs.length c) xs.length (xs.flatMap encP))∧Hid (Below w.heap.size w wr)) (fun k3 _=>xs.length - (intOf k3).toNat)
  case atStart=>exact⟨0,by have:=HL.out;omega,rfl,jh (fun i x y hi=>by omega),O,jh (Below.refl _ _)⟩
  case round=>
   obtain⟨k,hk,rfl,N,O1,B1⟩:=hrel;by_cases hlt:k+1<xs.length
   ·obtain⟨x,hx⟩:∃x,xs[k]? =some x:=⟨_,List.getElem?_eq_getElem (by omega)⟩
    obtain⟨y,hy⟩:∃y,xs[k+1]? =some y:=⟨_,List.getElem?_eq_getElem hlt⟩
    obtain⟨x0,x1,-,-⟩:=own_two O1.out hx;obtain⟨y0,y1,-,-⟩:=own_two O1.out hy;have HX:=jh hx;have HY:=jh hy;have i0:(0:Int)≤(k:Int):=by omega
    have i1:(k:Int)<(xs.length:Int):=by omega
    have i2:(k:Int)+1<(xs.length:Int):=by omega
    have j0:decide ((k:Int)+1<(xs.length:Int))=true:=by simpa using i2
    have j1:(k:Int)+1≤(c:Int):=by omega
    have j2:k+1≤c:=by omega
    have j3:¬c=k+1:=by omega
    clear hx hy;go_wp2_with fail;by_cases he:x=y
    ·have EQ:(y.1==x.1&&y.2==x.2)=true:=by rw[pair_eq];simp[he]
     have CA:Hid (CompAt xs xs (k+1) (k+1+1)):=jh (compAt_start N.out HX.out (by rw[he];exact HY.out));clear he;go_quiet (fail)
     rename_i nq;obtain⟨wq,hwq⟩:∃W,W=wr.drewN nq:=⟨_,rfl⟩
     have O2:Hid (wq.ownsRow B 53 2 (.slice (some ⟨g,0,none⟩) xs.length c) xs.length (xs.flatMap encP)):=jh (by rw[hwq];exact O1.out);have K2:Hid (Kept (fun b=>b=g) w wq):=jh (by rw[hwq];exact Kept.of_below B1.out |>.trans ⟨rfl,rfl,rfl,Nat.le_refl _,fun _ _ _=>rfl⟩);rw[←hwq];clear hwq x0 x1 y0 y1 EQ O1 B1;go_wp2_with fail;obtain⟨n2,hn2⟩:∃n2,xs.length - (k+1)=n2:=⟨_,rfl⟩
     rw[hn2];have N2:=jh hn2;clear hn2;go_loopw [3,5] (fun k3 q3 wr=>∃(kk q:Nat) (L:List Pf),k3=.int .i64 kk∧q3=.int .i64 ((q:Int)+1)∧q+1≤n2∧Hid (CompAt xs L kk (k+1+q+1))∧Hid (wr.ownsRow B 53 2 (.slice (some ⟨g,0,none⟩) xs.length c) xs.length (L.flatMap encP))∧Hid (Kept (fun b=>b=g) w wr)) (fun _ q3 _=>n2 - (intOf q3).toNat)
     case atStart=>exact⟨k+1,0,xs,by go_num,rfl,by have:=N2.out;omega,CA,O2,K2⟩
     case round=>
      clear CA O2 K2 N i0 i1 i2 j0 j1 j2 j3 HX HY;obtain⟨kk,q,L,rfl,rfl,hq,CA,O2,K2⟩:=hrel;by_cases hlt2:q+1<n2
      ·obtain⟨x,hx⟩:∃x,xs[k+1+q]? =some x:=⟨_,List.getElem?_eq_getElem (by have:=N2.out;omega)⟩
       obtain⟨y,hy⟩:∃y,xs[k+1+q+1]? =some y:=⟨_,List.getElem?_eq_getElem (by have:=N2.out;omega)⟩
       have CL:=CA.out.2.2.2.2.2;obtain⟨x0,x1,-,-⟩:=own_two O2.out ((CL (k+1+q) (by omega)).trans hx);obtain⟨y0,y1,-,-⟩:=own_two O2.out ((CL (k+1+q+1) (by omega)).trans hy);rw[show (k+1+q)*2=(k+1)*2+q*2 by omega] at x0 x1;rw[show (k+1+q+1)*2=(k+1)*2+(q+1)*2 by omega] at y0 y1;have HX:=jh hx;have HY:=jh hy;have i0:(0:Int)≤(q:Int):=by omega
       have i1:(q:Int)<(n2:Int):=by omega
       have i2:(q:Int)+1<(n2:Int):=by omega
       have j0:decide ((q:Int)+1<(n2:Int))=true:=by simpa using i2
       have kl:kk<xs.length:=by have:=CA.out.2.1;have:=CA.out.2.2.1;omega
       have k0:(0:Int)≤(kk:Int):=by omega
       have k1:(kk:Int)<(xs.length:Int):=by omega
       have nb:(n2:Int)≤9223372036854775806:=by have:=N2.out;omega
       clear hx hy CL;go_wp2_with fail;by_cases he:x=y
       ·have EQ:(!(y.1==x.1&&y.2==x.2))=false:=by rw[pair_eq];simp[he]
        have CA2:=jh (compAt_skip CA.out HX.out (by rw[he];exact HY.out));clear he;go_quiet (fail)
        rename_i nq;obtain⟨wq,hwq⟩:∃W,W=wr.drewN nq:=⟨_,rfl⟩
        have O3:Hid (wq.ownsRow B 53 2 (.slice (some ⟨g,0,none⟩) xs.length c) xs.length (L.flatMap encP)):=jh (by rw[hwq];exact O2.out);have K3:Hid (Kept (fun b=>b=g) w wq):=jh (by rw[hwq];exact K2.out.trans ⟨rfl,rfl,rfl,Nat.le_refl _,fun _ _ _=>rfl⟩);rw[←hwq];clear hwq x0 x1 y0 y1 EQ O2 K2 CA;go_wp2_with fail;exact⟨⟨kk,q+1,L,rfl,by go_num,by omega,CA2,O3,K3⟩,by simp[intOf];omega⟩
       ·have EQ:(!(y.1==x.1&&y.2==x.2))=true:=by rw[pair_eq];simpa using fun h=>he h.symm
        have CA2:=jh (compAt_keep CA.out HX.out HY.out he);clear he;go_quiet (fail)
        rename_i nq;obtain⟨wq,hwq⟩:∃W,W=wr.drewN nq:=⟨_,rfl⟩
        have O3:Hid (wq.ownsRow B 53 2 (.slice (some ⟨g,0,none⟩) xs.length c) xs.length (L.flatMap encP)):=jh (by rw[hwq];exact O2.out);have K3:Hid (Kept (fun b=>b=g) w wq):=jh (by rw[hwq];exact K2.out.trans ⟨rfl,rfl,rfl,Nat.le_refl _,fun _ _ _=>rfl⟩);have y0:wq.cell? ⟨g,(k+1)*2+(q+1)*2,none⟩=some (.int .u32 y.1):=by rw[hwq];exact y0
        have y1:wq.cell? ⟨g,(k+1)*2+(q+1)*2+1,none⟩=some (.int .i64 y.2):=by rw[hwq];exact y1
        rw[←hwq];clear hwq EQ O2 K2 x0 x1;have LL:=jh CA.out.1;have TH:=jh (own_there O3.out LL.out (k:=kk) (by omega));have O4:=jh (own_setP O3.out (i:=kk) (by rw[LL.out];exact kl) y);have K4:=jh (K3.out.trans (kept_setCells (F:=fun b=>b=g) rfl (encP y) (kk*2) wq));clear O3 K3 CA;go_wp2_with (with_reducible refine jM (X:=.store 53 (.tmp 51) (.tmp 50)) ?_ ?_;(·rfl));unfold Halt;refine wpList_store_mid rfl 53 (.tmp 51) (.tmp 50) rfl g (kk*2) #[.int .u32 y.1,.int .i64 y.2] rfl rfl (fun j hj=>TH.out j (by have:j<2:=hj;omega)) (by kernel_rfl) (all_oneCell_toArray (cs:=encP y) (encP_one y)) ?_;obtain⟨W6,hW6⟩:∃W6,W6=wq.setCells g (kk*2) (encP y):=⟨_,rfl⟩
        have hW7:wq.setCells g (kk*2) (#[Value.int .u32 y.1,Value.int .i64 y.2]:Array Value).toList=W6:=hW6.symm;rw[hW7];rw[←hW6] at O4 K4;clear hW6 hW7 TH y0 y1 LL;go_wp2_with fail;exact⟨⟨kk+1,q+1,L.set kk y,by go_num,by go_num,by omega,CA2,O4,K4⟩,by simp[intOf];omega⟩
      ·obtain rfl:n2=q+1:=by omega
       have e:k+1+q+1=xs.length:=by have:=N2.out;omega
       have CL:Hid (CompAt xs L kk xs.length):=jh (by rw[←e];exact CA.out);have kl:kk<xs.length:=by have:=CL.out.2.1;omega
       have k0:(0:Int)≤(kk:Int):=by omega
       have k1:(kk:Int)≤(xs.length:Int):=by omega
       have k2:(kk:Int)≤(c:Int):=by omega
       have k3:kk≤c:=by omega
       have k4:¬c=kk:=by omega
       have j0:decide ((q:Int)+1<((q+1:Nat):Int))=false:=by simp
       obtain⟨Z,hcl⟩:=run_clear_pf wr g (kk*2) (xs.length - kk) (c - kk) (by omega) (own_there O2.out CL.out.1 (by omega));have O3:=jh (own_front O2.out (m:=kk) (by omega) Z);have K3:=jh (K2.out.trans (kept_setCells (F:=fun b=>b=g) rfl Z (kk*2) wr));have FE:Hid ((L.flatMap encP).take (kk*2)=(comp xs).flatMap encP∧(comp xs).length=kk):=jh (by
        obtain⟨h1,h2,h3,h4,h5,h6⟩:=CL.out;rw[List.take_length] at h4 h5;refine⟨?_,h5⟩;rw[←h4,←List.take_append_drop kk L,List.flatMap_append,List.take_append_of_le_length (by rw[jX encP_len,List.length_take];omega),List.take_of_length_le (by rw[jX encP_len,List.length_take];omega)];rw[List.take_append_drop])
       clear e CL CA O2 K2 N2;go_wp2_with (simp only[hcl]);go_ret;exact⟨_,rfl,⟨by rw[FE.out.2,←FE.out.1];exact O3.out,fun p hp=>OK.out p (comp_sub hp)⟩,K3.out.imp fun b hb=>by rw[hb];rfl⟩
    ·have EQ:(y.1==x.1&&y.2==x.2)=false:=by rw[pair_eq];simpa using fun h=>he h.symm
     have N2:Hid (∀(i:Nat) (x y:Pf),i+1<k+1+1→xs[i]? =some x→xs[i+1]? =some y→x≠y):=jh (fun i a b hi ha hb=>by
      by_cases e:i=k
      ·subst e;rw[HX.out] at ha;rw[HY.out] at hb;obtain rfl:=Option.some.inj ha;obtain rfl:=Option.some.inj hb;exact he
      ·exact N.out i a b (by omega) ha hb)
     clear he;go_quiet (fail)
     rename_i nq;obtain⟨wq,hwq⟩:∃W,W=wr.drewN nq:=⟨_,rfl⟩
     have O2:Hid (wq.ownsRow B 53 2 (.slice (some ⟨g,0,none⟩) xs.length c) xs.length (xs.flatMap encP)):=jh (by rw[hwq];exact O1.out);have B2:Hid (Below w.heap.size w wq):=jh (by rw[hwq];exact jC B1.out ⟨rfl,rfl,rfl,Nat.le_refl _,fun _ _=>rfl⟩);rw[←hwq];clear hwq x0 x1 y0 y1 EQ O1 B1;go_wp2_with fail;exact⟨⟨k+1,by omega,by go_num,N2,O2,B2⟩,by simp[intOf];omega⟩
   ·have e:k+1=xs.length:=by omega
    have CW:Hid (comp xs=xs):=jh (by
     have:=comp_whole (l:=xs) (k+1) N.out (by omega);rw[e,List.take_length] at this;exact this)
    have j0:decide ((k:Int)+1<(xs.length:Int))=false:=by simp;omega
    clear e;go_wp2_with fail;go_ret;exact⟨_,rfl,⟨by rw[CW.out];exact O1.out,by rw[CW.out];exact OK.out⟩,Kept.of_below B1.out⟩
end Go.Proofs.YtkoidahgbbabiaaGreat
