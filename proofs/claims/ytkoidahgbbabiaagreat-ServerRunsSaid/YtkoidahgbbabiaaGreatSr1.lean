/- Texts of one proof, one behind another. -/
import Derived.WalkKit
import Derived.WalkSpells
import Derived.WalkLawsBesides
import Derived.OrdersHeld
import Derived.Deep.RegionHeld
import Derived.Lib.Hide
import Derived.Outline
import Derived.Deep.DeepFit
import Derived.KernelRfl
import Derived.Test.YtkoidahgbbabiaaGreatRows
import Derived.ProofKit
import Derived.OpenShut
import Derived.Deep.Heap
import Derived.Laws.Tables
import Derived.Laws.CopyOwn
import Derived.Laws.Rows
import Derived.Deep.WholeRow
import Derived.Deep.Slices
import Derived.LoopTactic
import Derived.OwnWalk
import Derived.Deep.DeepCutAuto
import Derived.LoopN
set_option maxRecDepth 100000
set_option maxHeartbeats 100000000
namespace Go.Proofs.YtkoidahgbbabiaaGreat
open Go.RowKit
theorem zp1 (a:Act) (v:Value) (d:Option Tmp):a.put d v=(match d with|some d=>{tmps:=a.tmps.setIfInBounds d v,defers:=a.defers}|none=>a):=by cases d<;>rfl
theorem zp3 {α:Type} (l:List α) (i:Nat) (a:α):l.toArray.setIfInBounds i a=(l.set i a).toArray:=List.setIfInBounds_toArray ..
theorem zp4 {α:Type} {a b:α} {l:List α}:(a::l).set 0 b=b::l:=List.set_cons_zero
theorem zp5 {α:Type} {a b:α} {l:List α} {n:Nat}:(a::l).set (n+1) b=a::l.set n b:=List.set_cons_succ
theorem jh {p:Prop} (h:p):Hid p:=Lib.hid h
theorem jz:(∀(a:Act) (v:Value) (d:Option Tmp),a.put d v=(match d with|some d=>{tmps:=a.tmps.setIfInBounds d v,defers:=a.defers}|none=>a))∧(∀(α:Type) (l:List α) (i:Nat) (a:α),l.toArray.setIfInBounds i a=(l.set i a).toArray)∧(∀(α:Type) (a b:α) (l:List α),(a::l).set 0 b=b::l)∧(∀(α:Type) (a b:α) (l:List α) (n:Nat),(a::l).set (n+1) b=a::l.set n b):=⟨zp1,fun _=>zp3,fun _ _ _ _=>zp4,fun _ _ _ _ _=>zp5⟩
theorem jU {k:IntKind} {a b:Int} (h:a=b):Ending.returned (.int k a)=.returned (.int k b):=by rw[h]
theorem jL {a b:Bool} (h:a=b):Ending.returned (.bool a)=.returned (.bool b):=by rw[h]
theorem at0 {α:Type} {x:α} {l:List α}:(List.toArray (x::l))[0]? =some x:=by simp
theorem atS {α:Type} {x y:α} {l:List α} {n:Nat} (h:(List.toArray l)[n]? =some x):(List.toArray (y::l))[n+1]? =some x:=by simpa using h
section
variable {P:Program} {ops:Array Oper} {Q:Exit→Act→World→Prop} {md:Region.Mode} {S:World→Prop}
theorem rg_no {i:Nat} {oi:Oper} {fuel:Nat} {listed:Array Bool} {a:Act} {w:World} (hi:ops[i]? =some oi)
  (hs:Region.noSelect ops=true) (hf:Region.free md ops listed i=true) (hr:(Region.ready md ops listed).contains i=true)
  (hQ:∀c a w,Q (.panic c) (a.put oi.dst undef) w→Q (.panic c) a w) (hw:Region.wanted oi (yielded ops a.tmps)=false) (hS:S w)
  (h:wpAnyH P md ops Q S fuel (listed.setIfInBounds i true) (a.put oi.dst undef) w):wpAnyH P md ops Q S (fuel+1) listed a w:=
 wpAnyH_take hi hs hf hr hQ (.inr ⟨hw,rfl⟩) hS h
theorem jF {i:Nat} {oi:Oper} {v:Value} {fuel:Nat} {listed:Array Bool} {a:Act} {w:World} (hi:ops[i]? =some oi)
  (hs:Region.noSelect ops=true) (hf:Region.free md ops listed i=true) (hr:(Region.ready md ops listed).contains i=true)
  (hQ:∀c a w,Q (.panic c) (a.put oi.dst v) w→Q (.panic c) a w) (hw:Region.wanted oi (yielded ops a.tmps)=true) (hy:∀w,S w→(execOp a.eval oi).run P w=.ok (.value v) w) (hS:S w)
  (h:wpAnyH P md ops Q S fuel (listed.setIfInBounds i true) (a.put oi.dst v) w):wpAnyH P md ops Q S (fuel+1) listed a w:=
 wpAnyH_take hi hs hf hr hQ (.inl ⟨hw,hy⟩) hS h
theorem jD {i:Nat} {oi:Oper} {fuel:Nat} {listed:Array Bool} {a:Act} {w:World} (hi:ops[i]? =some oi)
  (hr:Region.ready md ops listed=[i]) (hw:Region.wanted oi (yielded ops a.tmps)=true)
  (h:∀K':Act→World→Prop,Shut (∀a w,S w→(S w→wpAnyH P md ops Q S fuel (listed.setIfInBounds i true) a w)→K' a w)→Oper.wp P oi a w K' Q):wpAnyH P md ops Q S (fuel+1) listed a w:=
 wpAnyH_ready (rs:=[i]) hr (by simp) (AllReadyH.cons hi (fun K hK=>by rw[if_pos hw];exact h K hK) AllReadyH.nil)
theorem jn {α:Type} {l:List α} {n:Nat} {x:α} (h:l[n]? =some x):(List.toArray l)[n]? =some x:=by simpa using h
theorem qy (i:Nat) {oi:Oper} (v:Value) {fuel:Nat} {listed:Array Bool} {a:Act} {w:World}
  (hw:Region.wanted oi (yielded ops a.tmps)=true) (hy:∀w,S w→(execOp a.eval oi).run P w=.ok (.value v) w) (hS:S w)
  (h:wpAnyH P md ops Q S fuel (listed.setIfInBounds i true) (a.put oi.dst v) w) (hi:ops[i]? =some oi:=by exact jn rfl)
  (hk:(Region.noSelect ops&&(Region.free md ops listed i&&(Region.ready md ops listed).contains i))=true:=by kernel_rfl)
  (hQ:∀c a w,Q (.panic c) (a.put oi.dst v) w→Q (.panic c) a w:=by exact fun _ _ _ h=>h):wpAnyH P md ops Q S (fuel+1) listed a w:=by
 simp only[Bool.and_eq_true] at hk;exact jF hi hk.1 hk.2.1 hk.2.2 hQ hw hy hS h
theorem qz (i:Nat) {oi:Oper} {v:Value} {fuel:Nat} {listed l':Array Bool} {a a':Act} {w:World} (hS:S w) (h:wpAnyH P md ops Q S fuel l' a' w)
  (hi:ops[i]? =some oi:=by exact jn rfl)
  (hk:(Region.noSelect ops&&(Region.free md ops listed i&&(Region.ready md ops listed).contains i))=true:=by kernel_rfl)
  (hw:Region.wanted oi (yielded ops a.tmps)=true:=by rfl)
  (hy:∀w,S w→(execOp a.eval oi).run P w=.ok (.value v) w:=by intro w' hSw;(try dsimp only at hSw);(try clear hHeld);go_simp;try with_reducible rfl)
  (ha:a.put oi.dst v=a':=by (try simp only[jz])<;>exact rfl) (hl:listed.setIfInBounds i true=l':=by (try simp only[jz])<;>exact rfl)
  (hQ:∀c a w,Q (.panic c) (a.put oi.dst v) w→Q (.panic c) a w:=by exact fun _ _ _ h=>h):wpAnyH P md ops Q S (fuel+1) listed a w:=by
 subst ha hl;exact qy i v hw hy hS h hi hk hQ
theorem jr (i:Nat) {oi:Oper} {fuel:Nat} {listed:Array Bool} {a:Act} {w:World}
  (h:∀K':Act→World→Prop,Shut (∀a w,S w→(S w→wpAnyH P md ops Q S fuel (listed.setIfInBounds i true) a w)→K' a w)→Oper.wp P oi a w K' Q)
  (hi:ops[i]? =some oi:=by exact jn rfl) (hr:Region.ready md ops listed=[i]:=by kernel_rfl) (hw:Region.wanted oi (yielded ops a.tmps)=true:=by rfl):wpAnyH P md ops Q S (fuel+1) listed a w:=
 jD hi hr hw h
end
theorem jA {W W':World} {a:Addr} {v:Value} (h:W.cell? a=some v) (hb:Below W.heap.size W W'):W'.cell? a=some v:=
 (hb.cell (World.block_lt_of_cell? W a h)).trans h
theorem below_step {B:Nat} {w W W':World} (h:Below B w W) (hB:B≤w.heap.size) (hb:Below W.heap.size W W'):Below B w W':=
 h.trans (hb.mono (Nat.le_trans hB h.size))
theorem jC {w W W':World} (h:Below w.heap.size w W) (hb:Below W.heap.size W W'):Below w.heap.size w W':=below_step h (Nat.le_refl _) hb
theorem below_same (w:World):Below w.heap.size w w:=Below.refl _ _
theorem jH {W:World} {b o:Nat} {v:Value} (h:W.cell? ⟨b,o,none⟩=some v):b<W.heap.size:=World.block_lt_of_cell? W _ h
theorem box2 (w:World) (v0 v1:Value) (T:TypeId):∃W0,W0=w.alloc (.cells #[v0,v1] T)∧W0.cell? ⟨w.heap.size,0,none⟩=some v0∧W0.cell? ⟨w.heap.size,1,none⟩=some v1∧Below w.heap.size w W0:=by
 refine⟨_,rfl,?_,?_,(Below.refl _ _).alloc (Nat.le_refl _) _⟩<;>simp
theorem box22 (w:World) (v0 v1 u0 u1:Value) (T U:TypeId):∃W0,W0=(w.alloc (.cells #[v0,v1] T)).alloc (.cells #[u0,u1] U)∧W0.cell? ⟨w.heap.size,0,none⟩=some v0∧W0.cell? ⟨w.heap.size,1,none⟩=some v1∧
  W0.cell? ⟨w.heap.size+1,0,none⟩=some u0∧W0.cell? ⟨w.heap.size+1,1,none⟩=some u1∧Below w.heap.size w W0:=by
 refine⟨_,rfl,?_,?_,?_,?_,((Below.refl _ _).alloc (Nat.le_refl _) _).alloc (by simp) _⟩<;>simp
theorem calls_below {P:Program} {f:FuncId} {args:Array Value} {w:World} {E:Ending→Prop} (h:Calls P f args w fun e w'=>E e∧w=w'):Calls P f args w fun e w'=>E e∧Below w.heap.size w w':=
 h.mono fun _ _ ⟨a,b⟩=>⟨a,b▸below_same _⟩
open Go.RowKit Go.ChangeShapes Go.WideShapes Go.ChangeAt
theorem fr_own:ownKnob Tryz.prog.godebug=none:=by kernel_rfl
theorem fr_laidOut:laidOutB Tryz.prog=true:=by kernel_rfl
section
variable {w:World} {r:Reach} {b:Nat}
theorem cell_int {t:TypeId} {k:IntKind} {v:Value} (ht:Tryz.prog.underlying t=some (.int k)) (h:Cell.okWide Tryz.prog w r b t v):∃n,v=.int k n∧k.has n:=by
 simp only[Cell.okWide,ht] at h;cases v<;>simp_all [Cell.ok]
theorem has_i64 {n:Int} (h:IntKind.i64.has n): -9223372036854775808≤n∧n≤9223372036854775807:=by
 simp[IntKind.has,IntKind.min,IntKind.max,IntKind.bits,IntKind.signed] at h;omega
theorem open_i64 {v:Value} (h:Value.okWide Tryz.prog w r b 3 v):∃n,v=.int .i64 n∧ -9223372036854775808≤n∧n≤9223372036854775807:=by
 simp only[Value.okWide,Tryz.underlying3] at h;obtain⟨n,rfl,hn⟩:=cell_int Tryz.underlying3 h;exact⟨n,rfl,has_i64 hn⟩
end
open Go.RowKit
section
variable {W W':World}
theorem jE {b:Nat} {o:Obj} (h:W.heap[b]? =some o):b<W.heap.size:=(Array.getElem?_eq_some_iff.1 h).1
theorem jB {b:Nat} {cs:Array Value} {t:TypeId} (h:W.heap[b]? =some (.cells cs t (0,0))) (i:Nat):W.cell? ⟨b,i,none⟩=cs[i]?:=by simp[World.cell?,h]
theorem jN {b:Nat} {cs:Array Value} {t:TypeId} (h:W.heap[b]? =some (.cells cs t (0,0))) (i:Nat):W.frozen? ⟨b,i,none⟩=false:=by simp[World.frozen?,h]
theorem jO {b:Nat} {cs:Array Value} {t:TypeId} (h:W.heap[b]? =some (.cells cs t (0,0))) (i:Nat) (v:Value):(W.setCell ⟨b,i,none⟩ v).heap[b]? =some (.cells (cs.setIfInBounds i v) t (0,0)):=by
 rw[setCell_eq_setRow W b i _ _ _ _ h];exact setRow_heap W b _ _ _ _ h
theorem jK {b:Nat} (g i:Nat) (v:Value) (hne:b≠g):(W.setCell ⟨g,i,none⟩ v).heap[b]? =W.heap[b]?:=Deep.blk_setCell_other W ⟨g,i,none⟩ v b hne
end
theorem exec_ld {P:Program} {oi:Oper} {ev:Operand→Value} {w:World} (ty:TypeId) (x:Operand) (ho:oi.op=.load ty x)
  (g:Nat) (hx:ev x=.pointer (some ⟨g,0,none⟩)) (t:TypeId) (cs:Array Value) (fr:Nat×Nat) (d:TypeDesc) (hg:w.heap[g]? =some (.cells cs t fr))
  (hu:P.underlying ty=some d) (hd:(match d with|.struct _|.array _ _=>true|_=>false)=true) (hi:(P.info? ty).map (·.size)=some cs.size):
  (execOp ev oi).run P w=.ok (.value (.agg cs)) w:=by
 unfold execOp;simp only[ho,hx,Instr.loadAt,Instr.sureAddr,Sem.run_bind,Sem.run_pure,Result.andThen_ok,run_loadVar_row w g t ty cs fr d hg hu hd hi]
section
variable {P:Program} {ops:Array Oper} {rest:List Oper} {o:Oper} {a:Act} {w:World} {Q:Exit→Act→World→Prop}
theorem ld_at (hgd:Region.wanted o (yielded ops a.tmps)=true) (ty:TypeId) (x:Operand) (ho:o.op=.load ty x)
  (g:Nat) (hx:a.eval x=.pointer (some ⟨g,0,none⟩)) (t:TypeId) (cs:Array Value) (fr:Nat×Nat) (d:TypeDesc) (hg:w.heap[g]? =some (.cells cs t fr))
  (hu:P.underlying ty=some d) (hd:(match d with|.struct _|.array _ _=>true|_=>false)=true) (hi:(P.info? ty).map (·.size)=some cs.size)
  (h:wpList P ops Q rest (a.put o.dst (.agg cs)) w):wpList P ops Q (o::rest) a w:=by
 unfold wpList;rw[if_pos hgd];exact .inl (wp_load_row ty x ho g hx t cs fr d hg hu hd hi h)
theorem st_row (hgd:o.guard=none) (ty:TypeId) (x y:Operand) (ho:o.op=.store ty x y)
  (g:Nat) (hx:a.eval x=.pointer (some ⟨g,0,none⟩)) (t:TypeId) (old cs:Array Value) (hy:a.eval y=.agg cs) (hg:w.heap[g]? =some (.cells old t (0,0))) (hi:(P.info? ty).map (·.size)=some cs.size) (hs:old.size=cs.size) (h1:cs.all (·.oneCell')=true)
  (h:wpList P ops Q rest (a.put o.dst undef) (w.setRow g cs)):wpList P ops Q (o::rest) a w:=
 wpList_plain hgd fun _ hK=>by
  unfold Oper.wp execOp;simp only[ho,hx,hy,Instr.storeAt,Instr.sureAddr,Sem.run_bind,Sem.run_pure,Result.andThen_ok,run_storeVar_row w g t ty old cs hg hi hs h1];exact hK _ _ h
theorem st_fresh (hgd:o.guard=none) (ty:TypeId) (x y:Operand) (ho:o.op=.store ty x y)
  (hx:a.eval x=.pointer (some ⟨w.heap.size,0,none⟩)) (c c':Array Value) (hy:a.eval y=.agg c') (hi:(P.info? ty).map (·.size)=some c'.size) (hs:c.size=c'.size) (h1:c'.all (·.oneCell')=true)
  (h:wpList P ops Q rest (a.put o.dst undef) (w.alloc (.cells c' ty))):wpList P ops Q (o::rest) a (w.alloc (.cells c ty)):=
 wpList_plain hgd fun _ hK=>by
  unfold Oper.wp execOp;simp only[ho,hx,hy,Instr.storeAt,Instr.sureAddr,Sem.run_bind,Sem.run_pure,Result.andThen_ok,run_storeVar_new w ty c c' hi hs h1];exact hK _ _ h
def Halt (p:Prop):Prop:=p
theorem jM {X:Op} (_ho:o.op=X) (h:Halt (wpList P ops Q (o::rest) a w)):wpList P ops Q (o::rest) a w:=h
end
open Go.RowKit Go.ChangeShapes Go.WideShapes
def SlAt {α:Type} (w:World) (k:Nat) (R:α→List Value→Prop) (v:Value) (xs:List α):Prop:=
 ∃(sa:Option Addr) (cap:Nat),v=.slice sa xs.length cap∧xs.length≤cap∧cap≤maxLen∧(0<xs.length→∃b off:Nat,sa=some ⟨b,off,none⟩∧
  ∀(i:Nat) (x:α),xs[i]? =some x→∃cs:List Value,cs.length=k∧R x cs∧∀(j:Nat) (c:Value),cs[j]? =some c→w.cell? ⟨b,off+i*k+j,none⟩=some c)
theorem SlAt.below {α:Type} {w w':World} {k:Nat} {R R':α→List Value→Prop} {v:Value} {xs:List α} (h:SlAt w k R v xs) (hb:Below w.heap.size w w') (hR:∀x cs,R x cs→R' x cs):SlAt w' k R' v xs:=by
 obtain⟨sa,cap,h1,h2,h3,h4⟩:=h;refine⟨sa,cap,h1,h2,h3,fun h0=>?_⟩;obtain⟨b,off,h5,h6⟩:=h4 h0;refine⟨b,off,h5,fun i x hx=>?_⟩;obtain⟨cs,c1,c2,c3⟩:=h6 i x hx;exact⟨cs,c1,hR _ _ c2,fun j c hc=>jA (c3 j c hc) hb⟩
theorem SlAt.nil {α:Type} {w:World} {k:Nat} {R:α→List Value→Prop}:SlAt w k R (.slice none 0 0) ([]:List α):=⟨none,0,rfl,Nat.le_refl _,by simp[maxLen],fun h=>absurd h (by simp)⟩
theorem SlAt.imp {α:Type} {w:World} {k:Nat} {R R':α→List Value→Prop} {v:Value} {xs:List α} (h:SlAt w k R v xs) (hR:∀x cs,x∈xs→R x cs→R' x cs):SlAt w k R' v xs:=by
 obtain⟨sa,cap,h1,h2,h3,h4⟩:=h;refine⟨sa,cap,h1,h2,h3,fun h0=>?_⟩;obtain⟨b,off,h5,h6⟩:=h4 h0;refine⟨b,off,h5,fun i x hx=>?_⟩;obtain⟨cs,c1,c2,c3⟩:=h6 i x hx;exact⟨cs,c1,hR _ _ (List.mem_of_getElem? hx) c2,c3⟩
section
variable {H:Type} {enc:TypeId×Value→H} {w:World} {base:Nat} {spare:Nat→Bool} {held:Bool}
theorem open_sl {α:Type} {t e:TypeId} {k f:Nat} {R:α→List Value→Prop} {cs:List Value} {x:DataW H×List MemPlace} (ht:Tryz.prog.underlying t=some (.slice e)) (hk:Tryz.prog.cellsOf e=k) (hk0:0<k)
  (hR:∀f cs y,DataW.trod enc Tryz.prog w base spare held f e cs=some y→∃a:α,R a cs) (h:DataW.trod enc Tryz.prog w base spare held f t cs=some x):∃v xs,cs=[v]∧SlAt w k R v xs:=by
 rcases Deep.open_slice ht h with⟨h1,_⟩|⟨a,len,cap,m,n,D,Pl,h1,_,hlc,hcap,hm,_,hx⟩
 ·exact⟨_,[],h1,SlAt.nil⟩
 ·rw[hk] at hx;have hlm:len≤m:=by rw[hm];split<;>omega
  have hone:∀i:Fin len,∃z:α×List Value,z.2.length=k∧R z.1 z.2∧∀j c,z.2[j]? =some c→w.cell? (a.add (i.val*k+j))=some c:=by
   intro i;obtain⟨cs',hcs,ht⟩:=hx i.val (by omega);obtain⟨y,hy⟩:=hR _ _ _ ht;obtain⟨_,hl,hat⟩:=World.cells?_some hcs;refine⟨(y,cs'),hl,hy,fun j c hc=>?_⟩;have hj:j<k:=by rw[←hl];exact(List.getElem?_eq_some_iff.1 hc).1
   have:=hat j hj;rw[Deep.add_add] at this;rw[this];exact hc
  have hch:=Classical.axiomOfChoice hone;obtain⟨g,hg⟩:=hch;refine⟨_,List.ofFn fun i=>(g i).1,h1,some a,cap,by simp,by simp;omega,hcap,fun h0=>?_⟩;have h0':0<len:=by simpa using h0
  have hsp:a.spot=none:=by
   obtain⟨e1,_,e3⟩:=hg ⟨0,h0'⟩;have hlt:0<(g ⟨0,h0'⟩).2.length:=by rw[e1];exact hk0
   have hc:=e3 0 _ (List.getElem?_eq_getElem hlt);have e:a.add (0*k+0)=a:=by unfold Addr.add;simp
   simp only at hc;rw[e] at hc;unfold World.cell? at hc;cases hq:a.spot with
   |none=>rfl
   |some q=>rw[hq] at hc;simp at hc;split at hc<;>simp at hc
  have had:∀k,a.add k=⟨a.block,a.off+k,none⟩:=fun k=>by
   unfold Addr.add;split
   ·rename_i hk;subst hk;cases a;simp at hsp;simp[hsp]
   ·rfl
  refine⟨a.block,a.off,by cases a;simp at hsp;simp[hsp],fun i s hi=>?_⟩;have hil:i<len:=by
   have:=(List.getElem?_eq_some_iff.1 hi).1;simpa using this
  rw[List.getElem?_ofFn] at hi;simp[hil] at hi;subst hi;obtain⟨e1,e2,e3⟩:=hg ⟨i,hil⟩;refine⟨_,e1,e2,fun j c hc=>?_⟩;have:=e3 j c hc;rw[had,←Nat.add_assoc] at this;exact this
def I64r (n:Int):Prop:=-9223372036854775808≤n∧n≤9223372036854775807
def IntC (n:Int) (cs:List Value):Prop:=cs=[.int .i64 n]∧I64r n
theorem sl_i64 {f:Nat} {c:List Value} {y:DataW H×List MemPlace} (h:DataW.trod enc Tryz.prog w base spare held f 3 c=some y):∃n:Int,IntC n c:=by
 obtain⟨n,h1,_,h2⟩:=DataW.trod_int Tryz.underlying3 h;refine⟨n,h1,?_⟩;simp[Lit.wf,IntKind.min,IntKind.max,IntKind.bits,IntKind.signed] at h2;unfold I64r;omega
end
abbrev IntsAt (w:World) (v:Value) (xs:List Int):Prop:=SlAt w 1 IntC v xs
theorem IntsAt.below {w w':World} {v:Value} {xs:List Int} (h:IntsAt w v xs) (hb:Below w.heap.size w w'):IntsAt w' v xs:=SlAt.below h hb fun _ _ h=>h
open Go.RowKit
section
variable {P:Program} {ops:Array Oper} {Q:Exit→Act→World→Prop} {md:Region.Mode} {S:World→Prop}
theorem jI {i j:Nat} {oi oj:Oper} {fuel:Nat} {listed:Array Bool} {a:Act} {w:World} (hi:ops[i]? =some oi) (hj:ops[j]? =some oj)
  (hr:Region.ready md ops listed=[i,j]) (hw:Region.wanted oi (yielded ops a.tmps)=true) (hv:Region.wanted oj (yielded ops a.tmps)=true)
  (h:∀K':Act→World→Prop,Shut (∀a w,S w→(S w→wpAnyH P md ops Q S fuel (listed.setIfInBounds i true) a w)→K' a w)→Oper.wp P oi a w K' Q)
  (h2:∀K':Act→World→Prop,Shut (∀a w,S w→(S w→wpAnyH P md ops Q S fuel (listed.setIfInBounds j true) a w)→K' a w)→Oper.wp P oj a w K' Q):wpAnyH P md ops Q S (fuel+1) listed a w:=
 wpAnyH_ready (rs:=[i,j]) hr (by simp) (AllReadyH.cons hi (fun K hK=>by rw[if_pos hw];exact h K hK) (AllReadyH.cons hj (fun K hK=>by rw[if_pos hv];exact h2 K hK) AllReadyH.nil))
end
theorem jG {P:Program} {o:Oper} {a:Act} {w:World} {K:Act→World→Prop} {Q:Exit→Act→World→Prop} (ty:TypeId) (x y:Operand) (ho:o.op=.store ty x y)
  (g:Nat) (hx:a.eval x=.pointer (some ⟨g,0,none⟩)) (t:TypeId) (old cs:Array Value) (hy:a.eval y=.agg cs) (hg:w.heap[g]? =some (.cells old t (0,0))) (hi:(P.info? ty).map (·.size)=some cs.size) (hs:old.size=cs.size) (h1:cs.all (·.oneCell')=true)
  (h:K (a.put o.dst undef) (w.setRow g cs)):o.wp P a w K Q:=by
 unfold Oper.wp execOp;simp only[ho,hx,hy,Instr.storeAt,Instr.sureAddr,Sem.run_bind,Sem.run_pure,Result.andThen_ok,run_storeVar_row w g t ty old cs hg hi hs h1];exact h
open Go.RowKit
def cmpIc (a b:Int):Int:=if a<b then -1 else if b<a then 1 else 0
theorem cmpc_CompareAddr (a b:Int) (w:World):
  Calls Tryz.prog 64 #[.int .u32 a,.int .u32 b] w fun e w'=>e=.returned (.int .i64 (cmpIc a b))∧w=w':=by
 go_enter Tryz.func64,Tryz.ntmps64;go_wp2;all_goals
  go_ret;exact⟨jU (by unfold cmpIc;repeat (first|rw[if_pos (by omega)]|rw[if_neg (by omega)])),rfl⟩
theorem cmpc_CompareInt (a b:Int) (w:World):
  Calls Tryz.prog 65 #[.int .i64 a,.int .i64 b] w fun e w'=>e=.returned (.int .i64 (cmpIc a b))∧w=w':=by
 go_enter Tryz.func65,Tryz.ntmps65;go_wp2;all_goals
  go_ret;exact⟨jU (by unfold cmpIc;repeat (first|rw[if_pos (by omega)]|rw[if_neg (by omega)])),rfl⟩
def or3 (x y z:Int):Int:=if x=0 then (if y=0 then z else y) else x
theorem cmp_OrInt3 (g c:Nat) (x y z:Int) (w:World) (hx:w.cell? ⟨g,0,none⟩=some (.int .i64 x)) (hy:w.cell? ⟨g,1,none⟩=some (.int .i64 y)) (hz:w.cell? ⟨g,2,none⟩=some (.int .i64 z)):
  Calls Tryz.prog 63 #[.slice (some ⟨g,0,none⟩) 3 c] w fun e w'=>e=.returned (.int .i64 (or3 x y z))∧w=w':=by
 by_cases e1:x=0
 ·by_cases e2:y=0
  ·subst e1;subst e2;by_cases e3:z=0
   ·subst e3;go_enter Tryz.func63,Tryz.ntmps63;go_wp2;refine wp_loop_rounds 4 ?_
    iterate 4 (rw[rounds_succ];go_wp2)
    go_ret;exact⟨rfl,rfl⟩
   ·have n3:(z !=0)=true:=by simpa using e3
    go_enter Tryz.func63,Tryz.ntmps63;go_wp2;refine wp_loop_rounds 4 ?_
    iterate 3 (rw[rounds_succ];go_wp2)
    go_ret;exact⟨jU (by unfold or3;simp),rfl⟩
  ·subst e1;have n3:(y !=0)=true:=by simpa using e2
   go_enter Tryz.func63,Tryz.ntmps63;go_wp2;refine wp_loop_rounds 4 ?_
   iterate 2 (rw[rounds_succ];go_wp2)
   go_ret;exact⟨jU (by unfold or3;simp[e2]),rfl⟩
 ·have n3:(x !=0)=true:=by simpa using e1
  go_enter Tryz.func63,Tryz.ntmps63;go_wp2;refine wp_loop_rounds 4 ?_;rw[rounds_succ];go_wp2;go_ret;exact⟨jU (by unfold or3;simp[e1]),rfl⟩
structure Rk where
 place:Int
 loc:Int
 hops:Int
 origin:Int
 first:Int
 med:Int
 id:Nat
 peer:Int
def rkL (r:Rk):List Value:=[.int .i64 r.place,.int .i64 r.loc,.int .i64 r.hops,.int .i64 r.origin,.int .i64 r.first,.int .i64 r.med,.int .u32 r.id,.int .i64 r.peer]
abbrev rkA (r:Rk):Array Value:=#[.int .i64 r.place,.int .i64 r.loc,.int .i64 r.hops,.int .i64 r.origin,.int .i64 r.first,.int .i64 r.med,.int .u32 r.id,.int .i64 r.peer]
def aheadI (a b:Rk):Int:=or3 (cmpIc b.loc a.loc) (cmpIc a.hops b.hops) (cmpIc a.origin b.origin)
def behindI (a b:Rk):Int:=or3 (cmpIc a.id b.id) (cmpIc a.peer b.peer) (cmpIc a.place b.place)
theorem boxR (w:World) (a b:Rk):∃W0,W0=(w.alloc (.cells (rkA a) 200)).alloc (.cells (rkA b) 200)∧W0.heap[w.heap.size]? =some (.cells (rkA a) 200 (0,0))∧W0.heap[w.heap.size+1]? =some (.cells (rkA b) 200 (0,0))∧Below w.heap.size w W0:=by
 refine⟨_,rfl,?_,?_,((Below.refl _ _).alloc (Nat.le_refl _) _).alloc (by simp) _⟩
 ·have h1:=heap_alloc_new w (.cells (rkA a) 200);have h2:Below (w.alloc (.cells (rkA a) 200)).heap.size (w.alloc (.cells (rkA a) 200)) ((w.alloc (.cells (rkA a) 200)).alloc (.cells (rkA b) 200)):=(Below.refl _ _).alloc (Nat.le_refl _) _;exact(h2.block _ (jE h1)).trans h1
 ·have h1:=heap_alloc_new (w.alloc (.cells (rkA a) 200)) (.cells (rkA b) 200);simpa using h1
theorem ch_ahead (a b:Rk) (w:World):
  Calls Tryz.prog 165 #[.agg (rkA a),.agg (rkA b)] w fun e w'=>e=.returned (.int .i64 (aheadI a b))∧Below w.heap.size w w':=by
 go_enter Tryz.func165,Tryz.ntmps165;go_wp2_with fail;obtain⟨W0,hW0,ra,rb,hB⟩:=boxR w a b;rw[←hW0];clear hW0;have c0:W0.cell? ⟨w.heap.size,0,none⟩=some (.int .i64 a.place):=jB ra 0;have c1:W0.cell? ⟨w.heap.size,1,none⟩=some (.int .i64 a.loc):=jB ra 1;have c2:W0.cell? ⟨w.heap.size,2,none⟩=some (.int .i64 a.hops):=jB ra 2;have c3:W0.cell? ⟨w.heap.size,3,none⟩=some (.int .i64 a.origin):=jB ra 3;have c6:W0.cell? ⟨w.heap.size,6,none⟩=some (.int .u32 a.id):=jB ra 6;have c7:W0.cell? ⟨w.heap.size,7,none⟩=some (.int .i64 a.peer):=jB ra 7;have d0:W0.cell? ⟨w.heap.size+1,0,none⟩=some (.int .i64 b.place):=jB rb 0;have d1:W0.cell? ⟨w.heap.size+1,1,none⟩=some (.int .i64 b.loc):=jB rb 1;have d2:W0.cell? ⟨w.heap.size+1,2,none⟩=some (.int .i64 b.hops):=jB rb 2;have d3:W0.cell? ⟨w.heap.size+1,3,none⟩=some (.int .i64 b.origin):=jB rb 3;have d6:W0.cell? ⟨w.heap.size+1,6,none⟩=some (.int .u32 b.id):=jB rb 6;have d7:W0.cell? ⟨w.heap.size+1,7,none⟩=some (.int .i64 b.peer):=jB rb 7;clear ra rb;refine wp_region_held_drew (S:=fun w'=>Below W0.heap.size W0 w') (by kernel_rfl) ?_ (fun hHeld=>?_)
 ·exact(Below.refl _ _).drew
 refine qz 0 hHeld ?_;refine qz 1 hHeld ?_ (hy:=by intro w' hSw;(try dsimp only at hSw);have c1:=jA c1 hSw;have c2:=jA c2 hSw;have c3:=jA c3 hSw;have d1:=jA d1 hSw;have d2:=jA d2 hSw;have d3:=jA d3 hSw;(try clear hHeld);go_simp;try with_reducible rfl);refine qz 2 hHeld ?_;refine qz 3 hHeld ?_ (hy:=by intro w' hSw;(try dsimp only at hSw);have c1:=jA c1 hSw;have c2:=jA c2 hSw;have c3:=jA c3 hSw;have d1:=jA d1 hSw;have d2:=jA d2 hSw;have d3:=jA d3 hSw;(try clear hHeld);go_simp;try with_reducible rfl);refine qz 5 hHeld ?_;refine qz 6 hHeld ?_ (hy:=by intro w' hSw;(try dsimp only at hSw);have c1:=jA c1 hSw;have c2:=jA c2 hSw;have c3:=jA c3 hSw;have d1:=jA d1 hSw;have d2:=jA d2 hSw;have d3:=jA d3 hSw;(try clear hHeld);go_simp;try with_reducible rfl);refine qz 7 hHeld ?_;refine qz 8 hHeld ?_ (hy:=by intro w' hSw;(try dsimp only at hSw);have c1:=jA c1 hSw;have c2:=jA c2 hSw;have c3:=jA c3 hSw;have d1:=jA d1 hSw;have d2:=jA d2 hSw;have d3:=jA d3 hSw;(try clear hHeld);go_simp;try with_reducible rfl);refine qz 10 hHeld ?_;refine qz 11 hHeld ?_ (hy:=by intro w' hSw;(try dsimp only at hSw);have c1:=jA c1 hSw;have c2:=jA c2 hSw;have c3:=jA c3 hSw;have d1:=jA d1 hSw;have d2:=jA d2 hSw;have d3:=jA d3 hSw;(try clear hHeld);go_simp;try with_reducible rfl);refine qz 12 hHeld ?_;refine qz 13 hHeld ?_ (hy:=by intro w' hSw;(try dsimp only at hSw);have c1:=jA c1 hSw;have c2:=jA c2 hSw;have c3:=jA c3 hSw;have d1:=jA d1 hSw;have d2:=jA d2 hSw;have d3:=jA d3 hSw;(try clear hHeld);go_simp;try with_reducible rfl);refine jr 4 fun K hK=>?_;(try clear hb);go_simp;(refine(calls_below (cmpc_CompareInt _ _ _)).mono ?_;rintro e w1 ⟨rfl,hb⟩);go_wp2_with fail;refine hK.out _ _ ?_ (fun hHeld=>?_);(· first|exact hHeld.trans (hb.mono hHeld.size)|exact hHeld.alloc hHeld.size _);clear hK K;(try simp only[jz]);refine jr 9 fun K hK=>?_;(try clear hb);go_simp;(refine(calls_below (cmpc_CompareInt _ _ _)).mono ?_;rintro e w1 ⟨rfl,hb⟩);go_wp2_with fail;refine hK.out _ _ ?_ (fun hHeld=>?_);(· first|exact hHeld.trans (hb.mono hHeld.size)|exact hHeld.alloc hHeld.size _);clear hK K;(try simp only[jz]);refine jr 14 fun K hK=>?_;(try clear hb);go_simp;(refine(calls_below (cmpc_CompareInt _ _ _)).mono ?_;rintro e w1 ⟨rfl,hb⟩);go_wp2_with fail;refine hK.out _ _ ?_ (fun hHeld=>?_);(· first|exact hHeld.trans (hb.mono hHeld.size)|exact hHeld.alloc hHeld.size _);clear hK K;(try simp only[jz]);refine jr 15 fun K hK=>?_;(try clear hb);go_simp;go_wp2_with fail;refine hK.out _ _ ?_ (fun hHeld=>?_);(· first|exact hHeld.trans (hb.mono hHeld.size)|exact hHeld.alloc hHeld.size _);clear hK K;(try simp only[jz]);refine jr 16 fun K hK=>?_;(try clear hb);go_simp;(refine(calls_below (cmp_OrInt3 _ 3 (cmpIc b.loc a.loc) (cmpIc a.hops b.hops) (cmpIc a.origin b.origin) _ (by simp) (by simp) (by simp))).mono ?_;rintro e w1 ⟨rfl,hb⟩);go_wp2_with fail;refine hK.out _ _ ?_ (fun hHeld=>?_);(· first|exact hHeld.trans (hb.mono hHeld.size)|exact hHeld.alloc hHeld.size _);clear hK K;(try simp only[jz]);refine qz 17 hHeld ?_;refine wpAnyH_done (by kernel_rfl) ?_ _;have hB':=jC hB hHeld;clear hHeld hb;go_wp2;go_ret;exact⟨jU rfl,hB'⟩
theorem ch_behind (a b:Rk) (w:World):
  Calls Tryz.prog 166 #[.agg (rkA a),.agg (rkA b)] w fun e w'=>e=.returned (.int .i64 (behindI a b))∧Below w.heap.size w w':=by
 go_enter Tryz.func166,Tryz.ntmps166;go_wp2_with fail;obtain⟨W0,hW0,ra,rb,hB⟩:=boxR w a b;rw[←hW0];clear hW0;have c0:W0.cell? ⟨w.heap.size,0,none⟩=some (.int .i64 a.place):=jB ra 0;have c1:W0.cell? ⟨w.heap.size,1,none⟩=some (.int .i64 a.loc):=jB ra 1;have c2:W0.cell? ⟨w.heap.size,2,none⟩=some (.int .i64 a.hops):=jB ra 2;have c3:W0.cell? ⟨w.heap.size,3,none⟩=some (.int .i64 a.origin):=jB ra 3;have c6:W0.cell? ⟨w.heap.size,6,none⟩=some (.int .u32 a.id):=jB ra 6;have c7:W0.cell? ⟨w.heap.size,7,none⟩=some (.int .i64 a.peer):=jB ra 7;have d0:W0.cell? ⟨w.heap.size+1,0,none⟩=some (.int .i64 b.place):=jB rb 0;have d1:W0.cell? ⟨w.heap.size+1,1,none⟩=some (.int .i64 b.loc):=jB rb 1;have d2:W0.cell? ⟨w.heap.size+1,2,none⟩=some (.int .i64 b.hops):=jB rb 2;have d3:W0.cell? ⟨w.heap.size+1,3,none⟩=some (.int .i64 b.origin):=jB rb 3;have d6:W0.cell? ⟨w.heap.size+1,6,none⟩=some (.int .u32 b.id):=jB rb 6;have d7:W0.cell? ⟨w.heap.size+1,7,none⟩=some (.int .i64 b.peer):=jB rb 7;clear ra rb;refine wp_region_held_drew (S:=fun w'=>Below W0.heap.size W0 w') (by kernel_rfl) ?_ (fun hHeld=>?_)
 ·exact(Below.refl _ _).drew
 refine qz 0 hHeld ?_;refine qz 1 hHeld ?_ (hy:=by intro w' hSw;(try dsimp only at hSw);have c0:=jA c0 hSw;have c6:=jA c6 hSw;have c7:=jA c7 hSw;have d0:=jA d0 hSw;have d6:=jA d6 hSw;have d7:=jA d7 hSw;(try clear hHeld);go_simp;try with_reducible rfl);refine qz 2 hHeld ?_;refine qz 3 hHeld ?_ (hy:=by intro w' hSw;(try dsimp only at hSw);have c0:=jA c0 hSw;have c6:=jA c6 hSw;have c7:=jA c7 hSw;have d0:=jA d0 hSw;have d6:=jA d6 hSw;have d7:=jA d7 hSw;(try clear hHeld);go_simp;try with_reducible rfl);refine qz 5 hHeld ?_;refine qz 6 hHeld ?_ (hy:=by intro w' hSw;(try dsimp only at hSw);have c0:=jA c0 hSw;have c6:=jA c6 hSw;have c7:=jA c7 hSw;have d0:=jA d0 hSw;have d6:=jA d6 hSw;have d7:=jA d7 hSw;(try clear hHeld);go_simp;try with_reducible rfl);refine qz 7 hHeld ?_;refine qz 8 hHeld ?_ (hy:=by intro w' hSw;(try dsimp only at hSw);have c0:=jA c0 hSw;have c6:=jA c6 hSw;have c7:=jA c7 hSw;have d0:=jA d0 hSw;have d6:=jA d6 hSw;have d7:=jA d7 hSw;(try clear hHeld);go_simp;try with_reducible rfl);refine qz 10 hHeld ?_;refine qz 11 hHeld ?_ (hy:=by intro w' hSw;(try dsimp only at hSw);have c0:=jA c0 hSw;have c6:=jA c6 hSw;have c7:=jA c7 hSw;have d0:=jA d0 hSw;have d6:=jA d6 hSw;have d7:=jA d7 hSw;(try clear hHeld);go_simp;try with_reducible rfl);refine qz 12 hHeld ?_;refine qz 13 hHeld ?_ (hy:=by intro w' hSw;(try dsimp only at hSw);have c0:=jA c0 hSw;have c6:=jA c6 hSw;have c7:=jA c7 hSw;have d0:=jA d0 hSw;have d6:=jA d6 hSw;have d7:=jA d7 hSw;(try clear hHeld);go_simp;try with_reducible rfl);refine jr 4 fun K hK=>?_;(try clear hb);go_simp;(refine(calls_below (cmpc_CompareAddr a.id b.id _)).mono ?_;rintro e w1 ⟨rfl,hb⟩);go_wp2_with fail;refine hK.out _ _ ?_ (fun hHeld=>?_);(· first|exact hHeld.trans (hb.mono hHeld.size)|exact hHeld.alloc hHeld.size _);clear hK K;(try simp only[jz]);refine jr 9 fun K hK=>?_;(try clear hb);go_simp;(refine(calls_below (cmpc_CompareInt _ _ _)).mono ?_;rintro e w1 ⟨rfl,hb⟩);go_wp2_with fail;refine hK.out _ _ ?_ (fun hHeld=>?_);(· first|exact hHeld.trans (hb.mono hHeld.size)|exact hHeld.alloc hHeld.size _);clear hK K;(try simp only[jz]);refine jr 14 fun K hK=>?_;(try clear hb);go_simp;(refine(calls_below (cmpc_CompareInt _ _ _)).mono ?_;rintro e w1 ⟨rfl,hb⟩);go_wp2_with fail;refine hK.out _ _ ?_ (fun hHeld=>?_);(· first|exact hHeld.trans (hb.mono hHeld.size)|exact hHeld.alloc hHeld.size _);clear hK K;(try simp only[jz]);refine jr 15 fun K hK=>?_;(try clear hb);go_simp;go_wp2_with fail;refine hK.out _ _ ?_ (fun hHeld=>?_);(· first|exact hHeld.trans (hb.mono hHeld.size)|exact hHeld.alloc hHeld.size _);clear hK K;(try simp only[jz]);refine jr 16 fun K hK=>?_;(try clear hb);go_simp;(refine(calls_below (cmp_OrInt3 _ 3 (cmpIc a.id b.id) (cmpIc a.peer b.peer) (cmpIc a.place b.place) _ (by simp) (by simp) (by simp))).mono ?_;rintro e w1 ⟨rfl,hb⟩);go_wp2_with fail;refine hK.out _ _ ?_ (fun hHeld=>?_);(· first|exact hHeld.trans (hb.mono hHeld.size)|exact hHeld.alloc hHeld.size _);clear hK K;(try simp only[jz]);refine qz 17 hHeld ?_;refine wpAnyH_done (by kernel_rfl) ?_ _;have hB':=jC hB hHeld;clear hHeld hb;go_wp2;go_ret;exact⟨jU rfl,hB'⟩
open Go.RowKit
def RkC (r:Rk) (cs:List Value):Prop:=cs=rkL r
abbrev RksAt (w:World) (v:Value) (rs:List Rk):Prop:=SlAt w 8 RkC v rs
theorem RksAt.below {w w':World} {v:Value} {rs:List Rk} (h:RksAt w v rs) (hb:Below w.heap.size w w'):RksAt w' v rs:=SlAt.below h hb fun _ _ h=>h
def minBy (f:Rk→Rk→Int) (r:Rk) (l:List Rk):Rk:=l.foldl (fun m x=>if f x m<0 then x else m) r
theorem minBy_step (f:Rk→Rk→Int) (r:Rk) {l:List Rk} {k:Nat} {x:Rk} (h:l[k]? =some x):minBy f r (l.take (k+1))=if f x (minBy f r (l.take k))<0 then x else minBy f r (l.take k):=by
 obtain⟨h1,h2⟩:=List.getElem?_eq_some_iff.1 h;unfold minBy;rw[List.take_succ_eq_append_getElem h1,List.foldl_append,h2];rfl
theorem boxK (w:World) (a:Rk):∃W0,W0=w.alloc (.cells (rkA a) 200)∧W0.heap[w.heap.size]? =some (.cells (rkA a) 200 (0,0))∧Below w.heap.size w W0∧W0.heap.size=w.heap.size+1:=
 ⟨_,rfl,heap_alloc_new w _,(Below.refl _ _).alloc (Nat.le_refl _) _,by simp⟩
abbrev rkZA:Array Value:=#[.int .i64 0,.int .i64 0,.int .i64 0,.int .i64 0,.int .i64 0,.int .i64 0,.int .u32 0,.int .i64 0]
theorem boxKz (w:World):∃W0,W0=w.alloc (.cells rkZA 200)∧W0.heap[w.heap.size]? =some (.cells rkZA 200 (0,0))∧Below w.heap.size w W0∧W0.heap.size=w.heap.size+1:=
 ⟨_,rfl,heap_alloc_new w _,(Below.refl _ _).alloc (Nat.le_refl _) _,by simp⟩
theorem rk_one (r:Rk):(rkA r).all (·.oneCell')=true:=by simp[Value.oneCell']
theorem rk_cells {w:World} {b off i:Nat} {r:Rk} {cs:List Value} (hR:RkC r cs) (hc:∀(j:Nat) (c:Value),cs[j]? =some c→w.cell? ⟨b,off+i*8+j,none⟩=some c):
  w.cell? ⟨b,off+i*8,none⟩=some (.int .i64 r.place)∧w.cell? ⟨b,off+i*8+1,none⟩=some (.int .i64 r.loc)∧w.cell? ⟨b,off+i*8+2,none⟩=some (.int .i64 r.hops)∧w.cell? ⟨b,off+i*8+3,none⟩=some (.int .i64 r.origin)∧
  w.cell? ⟨b,off+i*8+4,none⟩=some (.int .i64 r.first)∧w.cell? ⟨b,off+i*8+5,none⟩=some (.int .i64 r.med)∧w.cell? ⟨b,off+i*8+6,none⟩=some (.int .u32 r.id)∧w.cell? ⟨b,off+i*8+7,none⟩=some (.int .i64 r.peer):=by
 unfold RkC at hR;subst hR;exact⟨hc 0 _ rfl,hc 1 _ rfl,hc 2 _ rfl,hc 3 _ rfl,hc 4 _ rfl,hc 5 _ rfl,hc 6 _ rfl,hc 7 _ rfl⟩
theorem results_Min (tmps:Array Value) (W:World) (b:Nat) (r:Rk) (h4:tmps.getD 4 undef=.pointer (some ⟨b,0,none⟩)) (hb:W.heap[b]? =some (.cells (rkA r) 200 (0,0))):
  (results Tryz.f164 tmps).run Tryz.prog W=.ok (.agg (rkA r)) W:=results_cell_row Tryz.results164 tmps W b 200 (rkA r) (0,0) _ h4 hb Tryz.underlying200 rfl (by kernel_rfl)
theorem min_ahead (v:Value) (r0:Rk) (rs:List Rk) (w:World) (h:RksAt w v (r0::rs)):
  Calls Tryz.prog 164 #[v,.func (.func 165) #[] #[]] w fun e w'=>e=.returned (.agg (rkA (minBy aheadI r0 rs)))∧Below w.heap.size w w':=by
 obtain⟨sa,cap,rfl,hlc,hcm,hV⟩:=h;unfold maxLen at hcm;obtain⟨b,off,hsa,hP⟩:=hV (by simp);subst hsa;have HP:=jh hP;obtain⟨cs,_,hR,hc⟩:=hP 0 r0 rfl;obtain⟨d0,d1,d2,d3,d4,d5,d6,d7⟩:=rk_cells hR hc;simp only[Nat.zero_mul,Nat.add_zero] at d0 d1 d2 d3 d4 d5 d6 d7;have CA:=jh ch_ahead;clear hV hP hR hc;simp only[List.length_cons] at hlc ⊢;have n1:¬((rs.length:Int)+1<1):=by omega
 have n2:(0:Int)<(rs.length:Int)+1:=by omega
 go_enter Tryz.func164,Tryz.ntmps164;go_upto_region 1 with (fail)
 obtain⟨W0,hW0,q0,hb0,hz0⟩:=boxKz w;rw[←hW0];clear hW0;have d0:=jA d0 hb0;have d1:=jA d1 hb0;have d2:=jA d2 hb0;have d3:=jA d3 hb0;have d4:=jA d4 hb0;have d5:=jA d5 hb0;have d6:=jA d6 hb0;have d7:=jA d7 hb0;have Q0:=jh q0;have HZ0:=jh hz0;clear q0 hz0;go_upto_region 4 with (fail)
 obtain⟨W1,hW1,q1,hb1,_⟩:=boxK W0 r0;rw[←hW1];clear hW1;have Q0:=jh ((hb1.block _ (jE Q0.out)).trans Q0.out);have Q1:=jh q1;have B1:=jh (jC hb0 hb1);have B0:=jh hb1;clear d0 d1 d2 d3 d4 d5 d6 d7 hb0 hb1 q1;go_wp2_with fail;go_loopw [6] (fun i wr=>∃(k:Nat) (m:Rk),1≤k∧k≤rs.length+1∧i=.int .i64 k∧Hid (m=minBy aheadI r0 (rs.take (k - 1)))∧Hid (wr.heap[w.heap.size]? =some (.cells rkZA 200 (0,0)))∧Hid (wr.heap[W0.heap.size]? =some (.cells (rkA m) 200 (0,0)))∧Hid (Below w.heap.size w wr)) (fun i _=>rs.length+1 - (intOf i).toNat)
 case atStart=>exact⟨1,r0,by omega,by omega,rfl,jh rfl,Q0,Q1,B1⟩
 case round=>
  clear Q0 Q1 B1 B0;obtain⟨k,m,hk1,hk2,rfl,E,Q0,Q1,B1⟩:=hrel;have m0:wr.cell? ⟨W0.heap.size,0,none⟩=some (.int .i64 m.place):=jB Q1.out 0;have m1:wr.cell? ⟨W0.heap.size,1,none⟩=some (.int .i64 m.loc):=jB Q1.out 1;have m2:wr.cell? ⟨W0.heap.size,2,none⟩=some (.int .i64 m.hops):=jB Q1.out 2;have m3:wr.cell? ⟨W0.heap.size,3,none⟩=some (.int .i64 m.origin):=jB Q1.out 3;have m4:wr.cell? ⟨W0.heap.size,4,none⟩=some (.int .i64 m.first):=jB Q1.out 4;have m5:wr.cell? ⟨W0.heap.size,5,none⟩=some (.int .i64 m.med):=jB Q1.out 5;have m6:wr.cell? ⟨W0.heap.size,6,none⟩=some (.int .u32 m.id):=jB Q1.out 6;have m7:wr.cell? ⟨W0.heap.size,7,none⟩=some (.int .i64 m.peer):=jB Q1.out 7;by_cases hlt:k<rs.length+1
  ·obtain⟨x,hx⟩:∃x,rs[k - 1]? =some x:=⟨_,List.getElem?_eq_getElem (by omega)⟩
   obtain⟨cs,_,hR,hc⟩:=HP.out k x (by rw[show k=(k - 1)+1 by omega];simpa using hx);obtain⟨x0,x1,x2,x3,x4,x5,x6,x7⟩:=rk_cells hR hc;have x0:=(B1.out.cell (jH x0)).trans x0;have x1:=(B1.out.cell (jH x1)).trans x1;have x2:=(B1.out.cell (jH x2)).trans x2;have x3:=(B1.out.cell (jH x3)).trans x3;have x4:=(B1.out.cell (jH x4)).trans x4;have x5:=(B1.out.cell (jH x5)).trans x5;have x6:=(B1.out.cell (jH x6)).trans x6;have x7:=(B1.out.cell (jH x7)).trans x7;have ST:=jh (minBy_step aheadI r0 hx);rw[←E.out,show k - 1+1=k+1 - 1 by omega] at ST;have i0:(0:Int)≤(k:Int):=by omega
   have i1:(k:Int)<(rs.length:Int)+1:=by omega
   have BZ:Hid (w.heap.size<W0.heap.size):=jh (by have:=HZ0.out;omega);clear hR hc hx E;by_cases hn:aheadI x m<0
   ·have ST2:Hid (x=minBy aheadI r0 (rs.take (k+1 - 1))):=jh (by rw[ST.out,if_pos hn]);clear ST;go_wp2_with fail;refine wp_region_held_drew (S:=fun w'=>Below wr.heap.size wr w') (by kernel_rfl) ?_ (fun hHeld=>?_)
    ·exact(Below.refl _ _).drew
    refine qz 0 hHeld ?_;refine qz 1 hHeld ?_;refine qz 2 hHeld ?_;refine qz 3 hHeld ?_ (hy:=by intro w' hSw;(try dsimp only at hSw);have x0:=jA x0 hSw;have x1:=jA x1 hSw;have x2:=jA x2 hSw;have x3:=jA x3 hSw;have x4:=jA x4 hSw;have x5:=jA x5 hSw;have x6:=jA x6 hSw;have x7:=jA x7 hSw;have m0:=jA m0 hSw;have m1:=jA m1 hSw;have m2:=jA m2 hSw;have m3:=jA m3 hSw;have m4:=jA m4 hSw;have m5:=jA m5 hSw;have m6:=jA m6 hSw;have m7:=jA m7 hSw;(try clear hHeld);go_simp;try with_reducible rfl);refine qz 4 hHeld ?_ (hy:=by intro w' hSw;(try dsimp only at hSw);have x0:=jA x0 hSw;have x1:=jA x1 hSw;have x2:=jA x2 hSw;have x3:=jA x3 hSw;have x4:=jA x4 hSw;have x5:=jA x5 hSw;have x6:=jA x6 hSw;have x7:=jA x7 hSw;have m0:=jA m0 hSw;have m1:=jA m1 hSw;have m2:=jA m2 hSw;have m3:=jA m3 hSw;have m4:=jA m4 hSw;have m5:=jA m5 hSw;have m6:=jA m6 hSw;have m7:=jA m7 hSw;(try clear hHeld);go_simp;try with_reducible rfl);refine qz 5 hHeld ?_ (hy:=by intro w' hSw;(try dsimp only at hSw);have x0:=jA x0 hSw;have x1:=jA x1 hSw;have x2:=jA x2 hSw;have x3:=jA x3 hSw;have x4:=jA x4 hSw;have x5:=jA x5 hSw;have x6:=jA x6 hSw;have x7:=jA x7 hSw;have m0:=jA m0 hSw;have m1:=jA m1 hSw;have m2:=jA m2 hSw;have m3:=jA m3 hSw;have m4:=jA m4 hSw;have m5:=jA m5 hSw;have m6:=jA m6 hSw;have m7:=jA m7 hSw;(try clear hHeld);go_simp;try with_reducible rfl);refine jr 6 fun K hK=>?_;(try clear hb);go_simp;(refine(CA.out x m _).mono ?_;rintro e w1 ⟨rfl,hb⟩);go_wp2_with fail;refine hK.out _ _ ?_ (fun hHeld=>?_);(·exact hHeld.trans (hb.mono hHeld.size));clear hK K;(try simp only[jz]);refine qz 7 hHeld ?_;refine wpAnyH_done (by kernel_rfl) ?_ _;have Q0:=jh ((hHeld.block _ (jE Q0.out)).trans Q0.out);have Q1:=jh ((hHeld.block _ (jE Q1.out)).trans Q1.out);have B1:=jh (jC B1.out hHeld);have x0:=jA x0 hHeld;have x1:=jA x1 hHeld;have x2:=jA x2 hHeld;have x3:=jA x3 hHeld;have x4:=jA x4 hHeld;have x5:=jA x5 hHeld;have x6:=jA x6 hHeld;have x7:=jA x7 hHeld;clear m0 m1 m2 m3 m4 m5 m6 m7 hHeld hb;go_wp2_with (refine st_row rfl 200 (.tmp 5) (.tmp 31) rfl W0.heap.size rfl 200 (rkA m) (rkA x) rfl Q1.out (by kernel_rfl) rfl (rk_one _) ?_);exact⟨⟨k+1,x,by omega,by omega,by go_num,ST2,jh (by rw[setRow_other _ _ _ _ (Nat.ne_of_lt BZ.out)];exact Q0.out),jh (setRow_heap _ _ _ _ _ _ Q1.out),jh (below_setRow B1.out (Nat.le_of_lt BZ.out) _)⟩,by simp[intOf];omega⟩
   ·have ST2:Hid (m=minBy aheadI r0 (rs.take (k+1 - 1))):=jh (by rw[ST.out,if_neg hn]);clear ST;go_wp2_with fail;refine wp_region_held_drew (S:=fun w'=>Below wr.heap.size wr w') (by kernel_rfl) ?_ (fun hHeld=>?_)
    ·exact(Below.refl _ _).drew
    refine qz 0 hHeld ?_;refine qz 1 hHeld ?_;refine qz 2 hHeld ?_;refine qz 3 hHeld ?_ (hy:=by intro w' hSw;(try dsimp only at hSw);have x0:=jA x0 hSw;have x1:=jA x1 hSw;have x2:=jA x2 hSw;have x3:=jA x3 hSw;have x4:=jA x4 hSw;have x5:=jA x5 hSw;have x6:=jA x6 hSw;have x7:=jA x7 hSw;have m0:=jA m0 hSw;have m1:=jA m1 hSw;have m2:=jA m2 hSw;have m3:=jA m3 hSw;have m4:=jA m4 hSw;have m5:=jA m5 hSw;have m6:=jA m6 hSw;have m7:=jA m7 hSw;(try clear hHeld);go_simp;try with_reducible rfl);refine qz 4 hHeld ?_ (hy:=by intro w' hSw;(try dsimp only at hSw);have x0:=jA x0 hSw;have x1:=jA x1 hSw;have x2:=jA x2 hSw;have x3:=jA x3 hSw;have x4:=jA x4 hSw;have x5:=jA x5 hSw;have x6:=jA x6 hSw;have x7:=jA x7 hSw;have m0:=jA m0 hSw;have m1:=jA m1 hSw;have m2:=jA m2 hSw;have m3:=jA m3 hSw;have m4:=jA m4 hSw;have m5:=jA m5 hSw;have m6:=jA m6 hSw;have m7:=jA m7 hSw;(try clear hHeld);go_simp;try with_reducible rfl);refine qz 5 hHeld ?_ (hy:=by intro w' hSw;(try dsimp only at hSw);have x0:=jA x0 hSw;have x1:=jA x1 hSw;have x2:=jA x2 hSw;have x3:=jA x3 hSw;have x4:=jA x4 hSw;have x5:=jA x5 hSw;have x6:=jA x6 hSw;have x7:=jA x7 hSw;have m0:=jA m0 hSw;have m1:=jA m1 hSw;have m2:=jA m2 hSw;have m3:=jA m3 hSw;have m4:=jA m4 hSw;have m5:=jA m5 hSw;have m6:=jA m6 hSw;have m7:=jA m7 hSw;(try clear hHeld);go_simp;try with_reducible rfl);refine jr 6 fun K hK=>?_;(try clear hb);go_simp;(refine(CA.out x m _).mono ?_;rintro e w1 ⟨rfl,hb⟩);go_wp2_with fail;refine hK.out _ _ ?_ (fun hHeld=>?_);(·exact hHeld.trans (hb.mono hHeld.size));clear hK K;(try simp only[jz]);refine qz 7 hHeld ?_;refine wpAnyH_done (by kernel_rfl) ?_ _;have Q0:=jh ((hHeld.block _ (jE Q0.out)).trans Q0.out);have Q1:=jh ((hHeld.block _ (jE Q1.out)).trans Q1.out);have B1:=jh (jC B1.out hHeld);clear m0 m1 m2 m3 m4 m5 m6 m7 x0 x1 x2 x3 x4 x5 x6 x7 hHeld hb;go_wp2_with fail;exact⟨⟨k+1,m,by omega,by omega,by go_num,ST2,Q0,Q1,B1⟩,by simp[intOf];omega⟩
  ·obtain rfl:k=rs.length+1:=by omega
   have E2:Hid (m=minBy aheadI r0 rs):=jh (by rw[E.out];simp);have hge:¬((rs.length:Int)+1<(rs.length:Int)+1):=by omega
   clear E;go_wp2_with (refine st_row rfl 200 (.tmp 4) (.tmp 32) rfl w.heap.size rfl 200 rkZA (rkA m) rfl Q0.out (by kernel_rfl) rfl (rk_one _) ?_);refine bodyPost_ret (results_Min _ _ w.heap.size m ?_ (setRow_heap _ _ _ _ _ _ Q0.out)) rfl ⟨by rw[E2.out],below_setRow B1.out (Nat.le_refl _) _⟩;rfl
theorem min_behind (v:Value) (r0:Rk) (rs:List Rk) (w:World) (h:RksAt w v (r0::rs)):
  Calls Tryz.prog 164 #[v,.func (.func 166) #[] #[]] w fun e w'=>e=.returned (.agg (rkA (minBy behindI r0 rs)))∧Below w.heap.size w w':=by
 obtain⟨sa,cap,rfl,hlc,hcm,hV⟩:=h;unfold maxLen at hcm;obtain⟨b,off,hsa,hP⟩:=hV (by simp);subst hsa;have HP:=jh hP;obtain⟨cs,_,hR,hc⟩:=hP 0 r0 rfl;obtain⟨d0,d1,d2,d3,d4,d5,d6,d7⟩:=rk_cells hR hc;simp only[Nat.zero_mul,Nat.add_zero] at d0 d1 d2 d3 d4 d5 d6 d7;have CA:=jh ch_behind;clear hV hP hR hc;simp only[List.length_cons] at hlc ⊢;have n1:¬((rs.length:Int)+1<1):=by omega
 have n2:(0:Int)<(rs.length:Int)+1:=by omega
 go_enter Tryz.func164,Tryz.ntmps164;go_upto_region 1 with (fail)
 obtain⟨W0,hW0,q0,hb0,hz0⟩:=boxKz w;rw[←hW0];clear hW0;have d0:=jA d0 hb0;have d1:=jA d1 hb0;have d2:=jA d2 hb0;have d3:=jA d3 hb0;have d4:=jA d4 hb0;have d5:=jA d5 hb0;have d6:=jA d6 hb0;have d7:=jA d7 hb0;have Q0:=jh q0;have HZ0:=jh hz0;clear q0 hz0;go_upto_region 4 with (fail)
 obtain⟨W1,hW1,q1,hb1,_⟩:=boxK W0 r0;rw[←hW1];clear hW1;have Q0:=jh ((hb1.block _ (jE Q0.out)).trans Q0.out);have Q1:=jh q1;have B1:=jh (jC hb0 hb1);have B0:=jh hb1;clear d0 d1 d2 d3 d4 d5 d6 d7 hb0 hb1 q1;go_wp2_with fail;go_loopw [6] (fun i wr=>∃(k:Nat) (m:Rk),1≤k∧k≤rs.length+1∧i=.int .i64 k∧Hid (m=minBy behindI r0 (rs.take (k - 1)))∧Hid (wr.heap[w.heap.size]? =some (.cells rkZA 200 (0,0)))∧Hid (wr.heap[W0.heap.size]? =some (.cells (rkA m) 200 (0,0)))∧Hid (Below w.heap.size w wr)) (fun i _=>rs.length+1 - (intOf i).toNat)
 case atStart=>exact⟨1,r0,by omega,by omega,rfl,jh rfl,Q0,Q1,B1⟩
 case round=>
  clear Q0 Q1 B1 B0;obtain⟨k,m,hk1,hk2,rfl,E,Q0,Q1,B1⟩:=hrel;have m0:wr.cell? ⟨W0.heap.size,0,none⟩=some (.int .i64 m.place):=jB Q1.out 0;have m1:wr.cell? ⟨W0.heap.size,1,none⟩=some (.int .i64 m.loc):=jB Q1.out 1;have m2:wr.cell? ⟨W0.heap.size,2,none⟩=some (.int .i64 m.hops):=jB Q1.out 2;have m3:wr.cell? ⟨W0.heap.size,3,none⟩=some (.int .i64 m.origin):=jB Q1.out 3;have m4:wr.cell? ⟨W0.heap.size,4,none⟩=some (.int .i64 m.first):=jB Q1.out 4;have m5:wr.cell? ⟨W0.heap.size,5,none⟩=some (.int .i64 m.med):=jB Q1.out 5;have m6:wr.cell? ⟨W0.heap.size,6,none⟩=some (.int .u32 m.id):=jB Q1.out 6;have m7:wr.cell? ⟨W0.heap.size,7,none⟩=some (.int .i64 m.peer):=jB Q1.out 7;by_cases hlt:k<rs.length+1
  ·obtain⟨x,hx⟩:∃x,rs[k - 1]? =some x:=⟨_,List.getElem?_eq_getElem (by omega)⟩
   obtain⟨cs,_,hR,hc⟩:=HP.out k x (by rw[show k=(k - 1)+1 by omega];simpa using hx);obtain⟨x0,x1,x2,x3,x4,x5,x6,x7⟩:=rk_cells hR hc;have x0:=(B1.out.cell (jH x0)).trans x0;have x1:=(B1.out.cell (jH x1)).trans x1;have x2:=(B1.out.cell (jH x2)).trans x2;have x3:=(B1.out.cell (jH x3)).trans x3;have x4:=(B1.out.cell (jH x4)).trans x4;have x5:=(B1.out.cell (jH x5)).trans x5;have x6:=(B1.out.cell (jH x6)).trans x6;have x7:=(B1.out.cell (jH x7)).trans x7;have ST:=jh (minBy_step behindI r0 hx);rw[←E.out,show k - 1+1=k+1 - 1 by omega] at ST;have i0:(0:Int)≤(k:Int):=by omega
   have i1:(k:Int)<(rs.length:Int)+1:=by omega
   have BZ:Hid (w.heap.size<W0.heap.size):=jh (by have:=HZ0.out;omega);clear hR hc hx E;by_cases hn:behindI x m<0
   ·have ST2:Hid (x=minBy behindI r0 (rs.take (k+1 - 1))):=jh (by rw[ST.out,if_pos hn]);clear ST;go_wp2_with fail;refine wp_region_held_drew (S:=fun w'=>Below wr.heap.size wr w') (by kernel_rfl) ?_ (fun hHeld=>?_)
    ·exact(Below.refl _ _).drew
    refine qz 0 hHeld ?_;refine qz 1 hHeld ?_;refine qz 2 hHeld ?_;refine qz 3 hHeld ?_ (hy:=by intro w' hSw;(try dsimp only at hSw);have x0:=jA x0 hSw;have x1:=jA x1 hSw;have x2:=jA x2 hSw;have x3:=jA x3 hSw;have x4:=jA x4 hSw;have x5:=jA x5 hSw;have x6:=jA x6 hSw;have x7:=jA x7 hSw;have m0:=jA m0 hSw;have m1:=jA m1 hSw;have m2:=jA m2 hSw;have m3:=jA m3 hSw;have m4:=jA m4 hSw;have m5:=jA m5 hSw;have m6:=jA m6 hSw;have m7:=jA m7 hSw;(try clear hHeld);go_simp;try with_reducible rfl);refine qz 4 hHeld ?_ (hy:=by intro w' hSw;(try dsimp only at hSw);have x0:=jA x0 hSw;have x1:=jA x1 hSw;have x2:=jA x2 hSw;have x3:=jA x3 hSw;have x4:=jA x4 hSw;have x5:=jA x5 hSw;have x6:=jA x6 hSw;have x7:=jA x7 hSw;have m0:=jA m0 hSw;have m1:=jA m1 hSw;have m2:=jA m2 hSw;have m3:=jA m3 hSw;have m4:=jA m4 hSw;have m5:=jA m5 hSw;have m6:=jA m6 hSw;have m7:=jA m7 hSw;(try clear hHeld);go_simp;try with_reducible rfl);refine qz 5 hHeld ?_ (hy:=by intro w' hSw;(try dsimp only at hSw);have x0:=jA x0 hSw;have x1:=jA x1 hSw;have x2:=jA x2 hSw;have x3:=jA x3 hSw;have x4:=jA x4 hSw;have x5:=jA x5 hSw;have x6:=jA x6 hSw;have x7:=jA x7 hSw;have m0:=jA m0 hSw;have m1:=jA m1 hSw;have m2:=jA m2 hSw;have m3:=jA m3 hSw;have m4:=jA m4 hSw;have m5:=jA m5 hSw;have m6:=jA m6 hSw;have m7:=jA m7 hSw;(try clear hHeld);go_simp;try with_reducible rfl);refine jr 6 fun K hK=>?_;(try clear hb);go_simp;(refine(CA.out x m _).mono ?_;rintro e w1 ⟨rfl,hb⟩);go_wp2_with fail;refine hK.out _ _ ?_ (fun hHeld=>?_);(·exact hHeld.trans (hb.mono hHeld.size));clear hK K;(try simp only[jz]);refine qz 7 hHeld ?_;refine wpAnyH_done (by kernel_rfl) ?_ _;have Q0:=jh ((hHeld.block _ (jE Q0.out)).trans Q0.out);have Q1:=jh ((hHeld.block _ (jE Q1.out)).trans Q1.out);have B1:=jh (jC B1.out hHeld);have x0:=jA x0 hHeld;have x1:=jA x1 hHeld;have x2:=jA x2 hHeld;have x3:=jA x3 hHeld;have x4:=jA x4 hHeld;have x5:=jA x5 hHeld;have x6:=jA x6 hHeld;have x7:=jA x7 hHeld;clear m0 m1 m2 m3 m4 m5 m6 m7 hHeld hb;go_wp2_with (refine st_row rfl 200 (.tmp 5) (.tmp 31) rfl W0.heap.size rfl 200 (rkA m) (rkA x) rfl Q1.out (by kernel_rfl) rfl (rk_one _) ?_);exact⟨⟨k+1,x,by omega,by omega,by go_num,ST2,jh (by rw[setRow_other _ _ _ _ (Nat.ne_of_lt BZ.out)];exact Q0.out),jh (setRow_heap _ _ _ _ _ _ Q1.out),jh (below_setRow B1.out (Nat.le_of_lt BZ.out) _)⟩,by simp[intOf];omega⟩
   ·have ST2:Hid (m=minBy behindI r0 (rs.take (k+1 - 1))):=jh (by rw[ST.out,if_neg hn]);clear ST;go_wp2_with fail;refine wp_region_held_drew (S:=fun w'=>Below wr.heap.size wr w') (by kernel_rfl) ?_ (fun hHeld=>?_)
    ·exact(Below.refl _ _).drew
    refine qz 0 hHeld ?_;refine qz 1 hHeld ?_;refine qz 2 hHeld ?_;refine qz 3 hHeld ?_ (hy:=by intro w' hSw;(try dsimp only at hSw);have x0:=jA x0 hSw;have x1:=jA x1 hSw;have x2:=jA x2 hSw;have x3:=jA x3 hSw;have x4:=jA x4 hSw;have x5:=jA x5 hSw;have x6:=jA x6 hSw;have x7:=jA x7 hSw;have m0:=jA m0 hSw;have m1:=jA m1 hSw;have m2:=jA m2 hSw;have m3:=jA m3 hSw;have m4:=jA m4 hSw;have m5:=jA m5 hSw;have m6:=jA m6 hSw;have m7:=jA m7 hSw;(try clear hHeld);go_simp;try with_reducible rfl);refine qz 4 hHeld ?_ (hy:=by intro w' hSw;(try dsimp only at hSw);have x0:=jA x0 hSw;have x1:=jA x1 hSw;have x2:=jA x2 hSw;have x3:=jA x3 hSw;have x4:=jA x4 hSw;have x5:=jA x5 hSw;have x6:=jA x6 hSw;have x7:=jA x7 hSw;have m0:=jA m0 hSw;have m1:=jA m1 hSw;have m2:=jA m2 hSw;have m3:=jA m3 hSw;have m4:=jA m4 hSw;have m5:=jA m5 hSw;have m6:=jA m6 hSw;have m7:=jA m7 hSw;(try clear hHeld);go_simp;try with_reducible rfl);refine qz 5 hHeld ?_ (hy:=by intro w' hSw;(try dsimp only at hSw);have x0:=jA x0 hSw;have x1:=jA x1 hSw;have x2:=jA x2 hSw;have x3:=jA x3 hSw;have x4:=jA x4 hSw;have x5:=jA x5 hSw;have x6:=jA x6 hSw;have x7:=jA x7 hSw;have m0:=jA m0 hSw;have m1:=jA m1 hSw;have m2:=jA m2 hSw;have m3:=jA m3 hSw;have m4:=jA m4 hSw;have m5:=jA m5 hSw;have m6:=jA m6 hSw;have m7:=jA m7 hSw;(try clear hHeld);go_simp;try with_reducible rfl);refine jr 6 fun K hK=>?_;(try clear hb);go_simp;(refine(CA.out x m _).mono ?_;rintro e w1 ⟨rfl,hb⟩);go_wp2_with fail;refine hK.out _ _ ?_ (fun hHeld=>?_);(·exact hHeld.trans (hb.mono hHeld.size));clear hK K;(try simp only[jz]);refine qz 7 hHeld ?_;refine wpAnyH_done (by kernel_rfl) ?_ _;have Q0:=jh ((hHeld.block _ (jE Q0.out)).trans Q0.out);have Q1:=jh ((hHeld.block _ (jE Q1.out)).trans Q1.out);have B1:=jh (jC B1.out hHeld);clear m0 m1 m2 m3 m4 m5 m6 m7 x0 x1 x2 x3 x4 x5 x6 x7 hHeld hb;go_wp2_with fail;exact⟨⟨k+1,m,by omega,by omega,by go_num,ST2,Q0,Q1,B1⟩,by simp[intOf];omega⟩
  ·obtain rfl:k=rs.length+1:=by omega
   have E2:Hid (m=minBy behindI r0 rs):=jh (by rw[E.out];simp);have hge:¬((rs.length:Int)+1<(rs.length:Int)+1):=by omega
   clear E;go_wp2_with (refine st_row rfl 200 (.tmp 4) (.tmp 32) rfl w.heap.size rfl 200 rkZA (rkA m) rfl Q0.out (by kernel_rfl) rfl (rk_one _) ?_);refine bodyPost_ret (results_Min _ _ w.heap.size m ?_ (setRow_heap _ _ _ _ _ _ Q0.out)) rfl ⟨by rw[E2.out],below_setRow B1.out (Nat.le_refl _) _⟩;rfl
open Go.RowKit Go.ChangeShapes Go.WideShapes
abbrev Sg:=Bool×List Int
abbrev Oth:=Int×List Nat
structure At where
 has:Int
 origin:Int
 path:List Sg
 hop:Nat
 med:Int
 loc:Int
 aggrAs:Int
 aggrId:Nat
 comms:List Int
 others:List Oth
def ByteC (n:Nat) (cs:List Value):Prop:=cs=[.int .u8 n]∧n<256
abbrev BytesAt (w:World) (v:Value) (xs:List Nat):Prop:=SlAt w 1 ByteC v xs
def SegC (w:World) (s:Sg) (cs:List Value):Prop:=∃u,cs=[.bool s.1,u]∧IntsAt w u s.2
def OthC (w:World) (o:Oth) (cs:List Value):Prop:=∃u,cs=[.int .i64 o.1,u]∧I64r o.1∧BytesAt w u o.2
abbrev PathAt (w:World) (v:Value) (p:List Sg):Prop:=SlAt w 2 (SegC w) v p
abbrev OthersAt (w:World) (v:Value) (os:List Oth):Prop:=SlAt w 2 (OthC w) v os
theorem BytesAt.below {w w':World} {v:Value} {xs:List Nat} (h:BytesAt w v xs) (hb:Below w.heap.size w w'):BytesAt w' v xs:=SlAt.below h hb fun _ _ h=>h
theorem SegC.below {w w':World} {s:Sg} {cs:List Value} (h:SegC w s cs) (hb:Below w.heap.size w w'):SegC w' s cs:=by
 obtain⟨u,h1,h2⟩:=h;exact⟨u,h1,h2.below hb⟩
theorem OthC.below {w w':World} {s:Oth} {cs:List Value} (h:OthC w s cs) (hb:Below w.heap.size w w'):OthC w' s cs:=by
 obtain⟨u,h1,h2,h3⟩:=h;exact⟨u,h1,h2,h3.below hb⟩
theorem PathAt.below {w w':World} {v:Value} {p:List Sg} (h:PathAt w v p) (hb:Below w.heap.size w w'):PathAt w' v p:=SlAt.below h hb fun _ _ h=>h.below hb
theorem OthersAt.below {w w':World} {v:Value} {p:List Oth} (h:OthersAt w v p) (hb:Below w.heap.size w w'):OthersAt w' v p:=SlAt.below h hb fun _ _ h=>h.below hb
def atV (a:At) (vp vc vo:Value):List Value:=[.int .i64 a.has,.int .i64 a.origin,vp,.int .u32 a.hop,.int .i64 a.med,.int .i64 a.loc,.int .i64 a.aggrAs,.int .u32 a.aggrId,vc,vo]
def At.Rng (a:At):Prop:=I64r a.has∧I64r a.origin∧a.hop<4294967296∧I64r a.med∧I64r a.loc∧I64r a.aggrAs∧a.aggrId<4294967296
def AtL (w:World) (a:At) (vp vc vo:Value):Prop:=PathAt w vp a.path∧IntsAt w vc a.comms∧OthersAt w vo a.others
theorem AtL.below {w w':World} {a:At} {vp vc vo:Value} (h:AtL w a vp vc vo) (hb:Below w.heap.size w w'):AtL w' a vp vc vo:=⟨h.1.below hb,h.2.1.below hb,h.2.2.below hb⟩
def AtC (w:World) (a:At) (cs:List Value):Prop:=∃vp vc vo,cs=atV a vp vc vo∧a.Rng∧AtL w a vp vc vo
theorem AtC.below {w w':World} {a:At} {cs:List Value} (h:AtC w a cs) (hb:Below w.heap.size w w'):AtC w' a cs:=by
 obtain⟨vp,vc,vo,h1,h2,h3⟩:=h;exact⟨vp,vc,vo,h1,h2,h3.below hb⟩
section
variable {H:Type} {enc:TypeId×Value→H} {w:World} {base:Nat} {spare:Nat→Bool} {held:Bool}
theorem sl_u32 {f:Nat} {c:List Value} {y:DataW H×List MemPlace} (h:DataW.trod enc Tryz.prog w base spare held f 36 c=some y):∃n:Nat,c=[.int .u32 n]∧n<4294967296:=by
 obtain⟨n,h1,_,h2⟩:=DataW.trod_int Tryz.underlying36 h;simp[Lit.wf,IntKind.min,IntKind.max,IntKind.bits,IntKind.signed] at h2;obtain⟨m,rfl⟩:=Int.eq_ofNat_of_zero_le (show 0≤n by omega);exact⟨m,h1,by omega⟩
theorem sl_u8 {f:Nat} {c:List Value} {y:DataW H×List MemPlace} (h:DataW.trod enc Tryz.prog w base spare held f 5 c=some y):∃n:Nat,ByteC n c:=by
 obtain⟨n,h1,_,h2⟩:=DataW.trod_int Tryz.underlying5 h;simp[Lit.wf,IntKind.min,IntKind.max,IntKind.bits,IntKind.signed] at h2;obtain⟨m,rfl⟩:=Int.eq_ofNat_of_zero_le (show 0≤n by omega);exact⟨m,h1,by omega⟩
end
open Go.RowKit
def hopsN:List Sg→Nat
 |[]=>0
 |s::p=>(if s.1 then 1 else s.2.length)+hopsN p
theorem hopsN_append (p q:List Sg):hopsN (p++q)=hopsN p+hopsN q:=by
 induction p with
 |nil=>simp[hopsN]
 |cons s p ih=>simp only[List.cons_append,hopsN,ih];omega
theorem hopsN_step {p:List Sg} {k:Nat} {s:Sg} (hs:p[k]? =some s):hopsN (p.take (k+1))=hopsN (p.take k)+(if s.1 then 1 else s.2.length):=by
 obtain⟨h1,h2⟩:=List.getElem?_eq_some_iff.1 hs;rw[List.take_succ_eq_append_getElem h1,hopsN_append,h2];simp[hopsN]
theorem hopsN_le (p:List Sg) (k:Nat):hopsN (p.take k)≤hopsN p:=by
 conv=>rhs;rw[←List.take_append_drop k p]
 rw[hopsN_append];omega
def firstN:List Sg→Int
 |[]=>0
 |s::_=>if s.1 then 0 else s.2.headD 0
theorem boxA (w:World) (c0 c1 c2 c3 c4 c5 c6 c7 c8 c9:Value):∃W0,W0=w.alloc (.cells #[c0,c1,c2,c3,c4,c5,c6,c7,c8,c9] 42)∧W0.heap[w.heap.size]? =some (.cells #[c0,c1,c2,c3,c4,c5,c6,c7,c8,c9] 42 (0,0))∧Below w.heap.size w W0∧W0.heap.size=w.heap.size+1:=
 ⟨_,rfl,heap_alloc_new w _,(Below.refl _ _).alloc (Nat.le_refl _) _,by simp⟩
theorem at_Hops (c0 c1 vp c3 c4 c5 c6 c7 c8 c9:Value) (p:List Sg) (w:World) (hP:PathAt w vp p) (hh:hopsN p≤4611686018427387904):
  Calls Tryz.prog 187 #[.agg #[c0,c1,vp,c3,c4,c5,c6,c7,c8,c9]] w fun e w'=>e=.returned (.int .i64 (hopsN p))∧Below w.heap.size w w':=by
 obtain⟨sa,cap,rfl,hlc,hcm,hV⟩:=hP;have HV:=jh hV;have HH:=jh hh;unfold maxLen at hcm;clear hV hh;go_enter Tryz.func187,Tryz.ntmps187;go_upto_region 2 with (fail)
 obtain⟨W0,hW0,q,hb0,_⟩:=boxA w c0 c1 (.slice sa p.length cap) c3 c4 c5 c6 c7 c8 c9;rw[←hW0];clear hW0;have y2:W0.cell? ⟨w.heap.size,2,none⟩=some (.slice sa p.length cap):=jB q 2;clear q;go_wp2_with fail;go_loopw [3,9] (fun n i wr=>∃k:Nat,k≤p.length∧i=.int .i64 k∧n=.int .i64 (hopsN (p.take k))∧Below w.heap.size w wr) (fun _ i _=>p.length - (intOf i).toNat)
 case atStart=>exact⟨0,by omega,rfl,rfl,hb0⟩
 case round=>
  obtain⟨k,hk,rfl,rfl,hb⟩:=hrel;by_cases hlt:k<p.length
  ·obtain⟨s,hs⟩:∃s,p[k]? =some s:=⟨_,List.getElem?_eq_getElem hlt⟩
   obtain⟨b,off,hsa,hP⟩:=HV.out (by omega);subst hsa;obtain⟨cs,_,⟨u,rfl,sb,cb,rfl,hl1,hl2,_⟩,hc⟩:=hP k s hs;have d0:=(hb.cell (jH (hc 0 _ rfl))).trans (hc 0 _ rfl);have d1:=(hb.cell (jH (hc 1 _ rfl))).trans (hc 1 _ rfl);simp only[Nat.add_zero] at d0;have ST:=jh (hopsN_step hs);have h1:=hopsN_le p k;have h2:=hopsN_le p (k+1);rw[ST.out] at h2;have h3:=HH.out;unfold maxLen at hl2;obtain⟨set,ss⟩:=s;simp only at d0 d1 ST h2 hl1 hl2;have hB:Hid (∀o,Below w.heap.size w (wr.alloc o)):=jh fun o=>hb.alloc hb.size o;clear hP hc hs;cases set
   ·simp only[Bool.false_eq_true,if_false] at ST h2;have e1:(hopsN (List.take k p):Int)+(ss.length:Int)≤4611686018427387904:=by omega
    go_wp2_with fail;exact⟨⟨k+1,by omega,by go_num,by rw[ST.out];go_num,hB.out _⟩,by simp[intOf];omega⟩
   ·simp only[if_true] at ST h2;have e1:(hopsN (List.take k p):Int)+1≤4611686018427387904:=by omega
    go_wp2_with fail;exact⟨⟨k+1,by omega,by go_num,by rw[ST.out];go_num,hB.out _⟩,by simp[intOf];omega⟩
  ·obtain rfl:k=p.length:=by omega
   go_wp2_with fail;go_ret;exact⟨jU (by rw[List.take_length]),hb⟩
open Go.RowKit
def knownB (t:Int):Bool:=decide (1≤t)&&decide (t≤8)
def bitB (has:Int) (t:Nat):Bool:=bits .and .i64 (has/2^t) 1==1
def isB (has t:Int):Bool:=knownB t&&bitB has t.toNat
theorem at_isKnown (t:Int) (w:World):Calls Tryz.prog 150 #[.int .i64 t] w fun e w'=>e=.returned (.bool (knownB t))∧w=w':=by
 cases h1:decide (1≤t)
 ·have K:Hid (knownB t=false):=jh (by unfold knownB;rw[h1];rfl);go_enter Tryz.func150,Tryz.ntmps150;go_wp2;go_ret;exact⟨jL K.out.symm,rfl⟩
 ·have K:Hid (knownB t=decide (t≤8)):=jh (by unfold knownB;rw[h1];rfl);go_enter Tryz.func150,Tryz.ntmps150;go_wp2;go_ret;exact⟨jL K.out.symm,rfl⟩
theorem at_Is (has:Int) (c1 c2 c3 c4 c5 c6 c7 c8 c9:Value) (t:Int) (w:World):
  Calls Tryz.prog 110 #[.agg #[.int .i64 has,c1,c2,c3,c4,c5,c6,c7,c8,c9],.int .i64 t] w fun e w'=>e=.returned (.bool (isB has t))∧Below w.heap.size w w':=by
 cases hk:knownB t
 ·have K:=jh (at_isKnown t);rw[hk] at K;have E:Hid (isB has t=false):=jh (by unfold isB;rw[hk];rfl);clear hk;go_enter Tryz.func110,Tryz.ntmps110;go_wp2_with fail;obtain⟨W0,hW0,q,hb0,_⟩:=boxA w (.int .i64 has) c1 c2 c3 c4 c5 c6 c7 c8 c9;rw[←hW0];clear hW0;refine(K.out _).mono ?_;rintro e w1 ⟨rfl,rfl⟩;go_wp2_with fail;go_ret;exact⟨jL E.out.symm,hb0⟩
 ·have K:=jh (at_isKnown t);rw[hk] at K;have k1:1≤t∧t≤8:=by unfold knownB at hk;simpa using hk
  obtain⟨n,rfl⟩:=Int.eq_ofNat_of_zero_le (show 0≤t by omega);have k2:n<64:=by omega
  have E:Hid (isB has n=bitB has n):=jh (by unfold isB;rw[hk];rfl);clear hk;go_enter Tryz.func110,Tryz.ntmps110;go_wp2_with fail;obtain⟨W0,hW0,q,hb0,_⟩:=boxA w (.int .i64 has) c1 c2 c3 c4 c5 c6 c7 c8 c9;rw[←hW0];clear hW0;have y0:W0.cell? ⟨w.heap.size,0,none⟩=some (.int .i64 has):=jB q 0;clear q;refine(K.out _).mono ?_;rintro e w1 ⟨rfl,rfl⟩;go_wp2_with fail;go_ret;exact⟨jL E.out.symm,hb0⟩
theorem at_First (c0 c1 vp c3 c4 c5 c6 c7 c8 c9:Value) (p:List Sg) (w:World) (hP:PathAt w vp p):
  Calls Tryz.prog 188 #[.agg #[c0,c1,vp,c3,c4,c5,c6,c7,c8,c9]] w fun e w'=>e=.returned (.int .i64 (firstN p))∧Below w.heap.size w w':=by
 obtain⟨sa,cap,rfl,hlc,hcm,hV⟩:=hP;have HV:=jh hV;unfold maxLen at hcm;clear hV;cases p with
 |nil=>
  go_enter Tryz.func188,Tryz.ntmps188;go_upto_region 1 with (fail)
  obtain⟨W0,hW0,q,hb0,_⟩:=boxA w c0 c1 (.slice sa 0 cap) c3 c4 c5 c6 c7 c8 c9;(try simp only[List.length_nil]);rw[←hW0];clear hW0;have y2:W0.cell? ⟨w.heap.size,2,none⟩=some (.slice sa 0 cap):=jB q 2;clear q;go_wp2_with fail;go_ret;exact⟨rfl,hb0⟩
 |cons s p=>
  obtain⟨b,off,hsa,hP⟩:=HV.out (by simp);subst hsa;obtain⟨cs,_,⟨u,rfl,sb,cb,rfl,hl1,hl2,hL⟩,hc⟩:=hP 0 s rfl;have d0:=hc 0 _ rfl;have d1:=hc 1 _ rfl;simp only[Nat.add_zero,Nat.zero_mul] at d0 d1;obtain⟨set,ss⟩:=s;simp only at d0 d1 hl1 hl2 hL;have HL:=jh hL;unfold maxLen at hl2;clear hP hc hL HV;simp only[List.length_cons] at hlc ⊢;have n0:((p.length:Int)+1==0)=false:=by rw[beq_eq_false_iff_ne];omega
  have n1:(0:Int)<(p.length:Int)+1:=by omega
  cases set
  ·cases ss with
   |nil=>
    simp only[List.length_nil] at d1;go_enter Tryz.func188,Tryz.ntmps188;go_upto_region 1 with (fail)
    obtain⟨W0,hW0,q,hb0,_⟩:=boxA w c0 c1 (.slice (some ⟨b,off,none⟩) (p.length+1) cap) c3 c4 c5 c6 c7 c8 c9;rw[←hW0];clear hW0;have y2:W0.cell? ⟨w.heap.size,2,none⟩=some (.slice (some ⟨b,off,none⟩) (p.length+1) cap):=jB q 2;have d0:=jA d0 hb0;have d1:=jA d1 hb0;clear q;go_wp2_with fail;go_ret;exact⟨rfl,hb0⟩
   |cons x ss=>
    obtain⟨b',off',hsb,hP⟩:=HL.out (by simp);subst hsb;obtain⟨cs,_,⟨rfl,_⟩,hc⟩:=hP 0 x rfl;have d2:=hc 0 _ rfl;simp only[Nat.add_zero,Nat.zero_mul] at d2;simp only[List.length_cons] at d1;clear HL hP hc;have n2:((ss.length:Int)+1==0)=false:=by rw[beq_eq_false_iff_ne];omega
    have n3:(0:Int)<(ss.length:Int)+1:=by omega
    go_enter Tryz.func188,Tryz.ntmps188;go_upto_region 1 with (fail)
    obtain⟨W0,hW0,q,hb0,_⟩:=boxA w c0 c1 (.slice (some ⟨b,off,none⟩) (p.length+1) cap) c3 c4 c5 c6 c7 c8 c9;rw[←hW0];clear hW0;have y2:W0.cell? ⟨w.heap.size,2,none⟩=some (.slice (some ⟨b,off,none⟩) (p.length+1) cap):=jB q 2;have d0:=jA d0 hb0;have d1:=jA d1 hb0;have d2:=jA d2 hb0;clear q;go_wp2_with fail;go_ret;exact⟨rfl,hb0⟩
  ·go_enter Tryz.func188,Tryz.ntmps188;go_upto_region 1 with (fail)
   obtain⟨W0,hW0,q,hb0,_⟩:=boxA w c0 c1 (.slice (some ⟨b,off,none⟩) (p.length+1) cap) c3 c4 c5 c6 c7 c8 c9;rw[←hW0];clear hW0;have y2:W0.cell? ⟨w.heap.size,2,none⟩=some (.slice (some ⟨b,off,none⟩) (p.length+1) cap):=jB q 2;have d0:=jA d0 hb0;clear q;go_wp2_with fail;go_ret;exact⟨rfl,hb0⟩
end Go.Proofs.YtkoidahgbbabiaaGreat
