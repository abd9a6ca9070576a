/- Texts of one proof, one behind another. -/
import Derived.Test.YtkoidahgbbabiaaGreatSr7
import Derived.Test.YtkoidahgbbabiaaGreatSr4
import Derived.Test.YtkoidahgbbabiaaGreatSr1
import Derived.Deep.QuietTactic
import Derived.BigQuiet
import Derived.Deep.CutBlock
import Derived.ChangeKeysEq
set_option maxRecDepth 100000
set_option maxHeartbeats 100000000
namespace Go.Proofs.YtkoidahgbbabiaaGreat
open Go.RowKit
theorem jV {w:World} {B k n:Nat} {e:TypeId} {v:Value} {xs:List Value} (h:w.ownsRow B e k v n xs):∃(sa:Option Addr) (c:Nat),v=.slice sa n c∧(0<n→∃g,sa=some ⟨g,0,none⟩):=by
 rcases own_slice h with⟨rfl,rfl⟩|⟨g,c,rfl⟩
 ·exact⟨none,0,rfl,fun h=>absurd h (by simp)⟩
 ·exact⟨_,c,rfl,fun _=>⟨g,rfl⟩⟩
def i64L (n:Int):List Value:=[.int .i64 n]
def u8L (n:Nat):List Value:=[.int .u8 n]
theorem i64L_len (x:Int):(i64L x).length=1:=rfl
theorem u8L_len (x:Nat):(u8L x).length=1:=rfl
theorem own_i64s {w:World} {B:Nat} {e:TypeId} {v:Value} {xs:List Int} (h:w.ownsRow B e 1 v xs.length (xs.flatMap i64L)) (hx:∀x∈xs,I64r x):IntsAt w v xs:=
 (own_slat (C:=i64L) i64L_len h).imp fun x _ hm h=>⟨h,hx x hm⟩
theorem own_u8s {w:World} {B:Nat} {e:TypeId} {v:Value} {xs:List Nat} (h:w.ownsRow B e 1 v xs.length (xs.flatMap u8L)) (hx:∀x∈xs,x<256):BytesAt w v xs:=
 (own_slat (C:=u8L) u8L_len h).imp fun x _ hm h=>⟨h,hx x hm⟩
theorem slat_all {α:Type} {w:World} {k:Nat} {R:α→List Value→Prop} {v:Value} {xs:List α} (h:SlAt w k R v xs):∀x∈xs,∃cs,R x cs:=by
 obtain⟨_,_,_,_,_,h4⟩:=h;intro x hx;obtain⟨i,hi⟩:=List.getElem?_of_mem hx;obtain⟨b,off,_,h6⟩:=h4 (by have:=(List.getElem?_eq_some_iff.1 hi).1;omega);obtain⟨cs,_,hr,_⟩:=h6 i x hi;exact⟨cs,hr⟩
theorem ints_rng {w:World} {v:Value} {xs:List Int} (h:IntsAt w v xs):∀x∈xs,I64r x:=fun x hx=>by
 obtain⟨cs,h1,h2⟩:=slat_all h x hx;exact h2
theorem bytes_rng {w:World} {v:Value} {xs:List Nat} (h:BytesAt w v xs):∀x∈xs,x<256:=fun x hx=>by
 obtain⟨cs,h1,h2⟩:=slat_all h x hx;exact h2
theorem rows_flat {α:Type} {C:α→List Value} {R:α→List Value→Prop} {xs:List α} {rows:List (List Value)} (hl:rows.length=xs.length) (h:∀(i:Nat) (x:α),xs[i]? =some x→∃cs,rows[i]? =some cs∧R x cs) (hR:∀x cs,R x cs→cs=C x):rows.flatten=xs.flatMap C:=by
 have:rows=xs.map C:=by
  apply List.ext_getElem?;intro i;by_cases hi:i<xs.length
  ·obtain⟨cs,h1,h2⟩:=h i _ (List.getElem?_eq_getElem hi);rw[h1,hR _ _ h2];simp[hi]
  ·rw[List.getElem?_eq_none (by omega),List.getElem?_eq_none (by simp;omega)]
 rw[this,List.flatMap_def]
theorem clone_ints (v:Value) (xs:List Int) (w:World) (h:IntsAt w v xs) (hz:xs.length*8≤140737488351232):
  Calls Tryz.prog 128 #[v] w fun e w'=>∃v',e=.returned v'∧w'.ownsRow w.heap.size 3 1 v' xs.length (xs.flatMap i64L)∧Below w.heap.size w w':=by
 obtain⟨sa,cap,rows,rfl,h2,h3,h4,h5,h6,h7⟩:=slat_rows h;have e:=rows_flat (C:=i64L) h4 h6 (fun x cs h=>h.1);rw[e] at h7;exact sl_CloneInt sa xs.length cap _ w (by rw[jX i64L_len]) (Nat.le_trans h2 h3) h7 (fun u hu=>by
  obtain⟨x,_,hx⟩:=List.mem_flatMap.1 hu;simp[i64L] at hx;subst hx;rfl) hz
theorem clone_bytes (v:Value) (xs:List Nat) (w:World) (h:BytesAt w v xs) (hz:xs.length≤140737488351232):
  Calls Tryz.prog 130 #[v] w fun e w'=>∃v',e=.returned v'∧w'.ownsRow w.heap.size 5 1 v' xs.length (xs.flatMap u8L)∧Below w.heap.size w w':=by
 obtain⟨sa,cap,rows,rfl,h2,h3,h4,h5,h6,h7⟩:=slat_rows h;have e:=rows_flat (C:=u8L) h4 h6 (fun x cs h=>h.1);rw[e] at h7;exact sl_CloneByte sa xs.length cap _ w (by rw[jX u8L_len]) (Nat.le_trans h2 h3) h7 (fun u hu=>by
  obtain⟨x,_,hx⟩:=List.mem_flatMap.1 hu;simp[u8L] at hx;subst hx;rfl) (by omega)
def NF (W:World) (k:Nat) (v:Value):Prop:=∀b off n c,v=.slice (some ⟨b,off,none⟩) n c→∀j,j<n*k→W.frozen? ⟨b,off+j,none⟩=false
theorem own_nf {w:World} {B k n:Nat} {e:TypeId} {v:Value} {xs:List Value} (h:w.ownsRow B e k v n xs):NF w k v:=by
 intro b off m c hv j _;rcases h.2 with⟨rfl,_⟩|⟨g,cap,cur,rfl,_,hg,_⟩
 ·cases hv
 ·injection hv with hv _ _;injection hv with hv;injection hv with hb ho;subst hb;subst ho;simp[World.frozen?,hg]
theorem own_nfF {w:World} {B k n:Nat} {e:TypeId} {v:Value} {xs:List Value} (h:w.ownsRow B e k v n xs):Fresh B w fun W=>NF W k v:=(own_fresh h).imp fun _ h=>own_nf h
section
variable {α:Type} {hd:α→Value} {In:World→Value→α→Prop} {w0 w:World} {lo:Nat} {e:TypeId} {v:Value} {xs:List α} {i:Nat} {rows:List (List Value)}
structure RowsUp (hd:α→Value) (In:World→Value→α→Prop) (w0:World) (lo:Nat) (e:TypeId) (w:World) (v:Value) (xs:List α) (i:Nat) (rows:List (List Value)):Prop where
 two:∀r∈rows,r.length=2
 len:rows.length=xs.length
 own:w.ownsRow lo e 2 v xs.length rows.flatten
 at_:∀(j:Nat) (x:α),xs[j]? =some x→∃u,rows[j]? =some [hd x,u]∧(j<i→On (fun k=>lo≤k∧v.ownBlock≠some k) w (fun W=>In W u x∧NF W 1 u))∧(i≤j→In w0 u x)
theorem RowsUp.kept {G:Nat→Prop} {w':World} (h:RowsUp hd In w0 lo e w v xs i rows) (hk:Kept G w w') (hG:∀k,lo≤k→¬G k):RowsUp hd In w0 lo e w' v xs i rows:=
 ⟨h.two,h.len,(own_fresh h.own |>.kept hk fun k _ hl=>hG k hl).self,fun j x hx=>by
  obtain⟨u,h1,h2,h3⟩:=h.at_ j x hx;exact⟨u,h1,fun hj=>(h2 hj).kept hk fun k _ hl=>hG k hl.1,h3⟩⟩
theorem RowsUp.step {w5:World} {x:α} {u u':Value} {g c:Nat} (h:RowsUp hd In w0 lo e w v xs i rows) (hx:xs[i]? =some x) (hr:rows[i]? =some [hd x,u]) (hb:Below w.heap.size w w5) (hv:v=.slice (some ⟨g,0,none⟩) xs.length c)
  (hon:On (fun k=>w.heap.size≤k) w5 (fun W=>In W u' x∧NF W 1 u')):RowsUp hd In w0 lo e (w5.setCell ⟨g,i*2+1,none⟩ u') v xs (i+1) (rows.set i [hd x,u']):=by
 have hil:i<xs.length:=(List.getElem?_eq_some_iff.1 hx).1;have hog:v.ownBlock=some g:=by rw[hv];rfl
 have hcell:rows.flatten[i*2+0]? =some (hd x):=by
  rw[rows_get h.two i _ hr 0 (by decide)];rfl
 obtain⟨_,_,hlg,hgl⟩:=own_row_cell h.own hv hcell;have hk:Kept (fun k=>k=g) w5 (w5.setCell ⟨g,i*2+1,none⟩ u'):=Kept.setCell _ _ rfl;refine⟨fun r hr'=>?_,by simp[h.len],?_,fun j y hy=>?_⟩
 ·rcases List.mem_or_eq_of_mem_set hr' with h1|h1
  ·exact h.two r h1
  ·rw[h1];rfl
 ·have:=own_set (jQ h.own hb) hv (i*2+1) u';have e2:=rows_set h.two hr (j:=1) (by decide) u';simp only[List.set_cons_succ,List.set_cons_zero] at e2;rw[e2];exact this
 ·by_cases hj:j=i
  ·subst hj;rw[hx] at hy;cases hy
   refine⟨u',by rw[List.getElem?_set_self (by rw[h.len];exact hil)],fun _=>?_,fun h=>absurd h (by omega)⟩;refine(hon.wide (G:=fun k=>lo≤k∧v.ownBlock≠some k) (fun k hk _=>⟨by omega,fun e=>?_⟩)).kept hk (fun k _ hl e=>hl.2 (by rw[hog,e]));rw[hog] at e;injection e with e;omega
  ·obtain⟨u1,h1,h2,h3⟩:=h.at_ j y hy;refine⟨u1,by rw[List.getElem?_set_ne (Ne.symm hj)];exact h1,fun hji=>?_,fun hji=>h3 (by omega)⟩;exact((h2 (by omega)).below hb).kept hk (fun k _ hl e=>hl.2 (by rw[hog,e]))
theorem RowsUp.done (h:RowsUp hd In w0 lo e w v xs xs.length rows):Fresh lo w fun W=>SlAt W 2 (fun x cs=>∃u,cs=[hd x,u]∧In W u x∧NF W 1 u) v xs∧NF W 2 v:=by
 intro W hW;refine⟨own_rows (own_fresh h.own W hW) h.two (fun j x hx=>?_),own_nfF h.own W hW⟩;obtain⟨u,h1,h2,_⟩:=h.at_ j x hx;exact⟨_,h1,u,rfl,h2 (List.getElem?_eq_some_iff.1 hx).1 W (fun k hk hl=>hW k hk.1 hl)⟩
end
theorem atc_cells {W:World} {b:Nat} {c0 c1 c2 c3 c4 c5 c6 c7 c8 c9:Value} {T:TypeId} (q:W.heap[b]? =some (.cells #[c0,c1,c2,c3,c4,c5,c6,c7,c8,c9] T (0,0))):
  W.cell? ⟨b,0,none⟩=some c0∧W.cell? ⟨b,1,none⟩=some c1∧W.cell? ⟨b,2,none⟩=some c2∧W.cell? ⟨b,3,none⟩=some c3∧W.cell? ⟨b,4,none⟩=some c4∧W.cell? ⟨b,5,none⟩=some c5∧W.cell? ⟨b,6,none⟩=some c6∧W.cell? ⟨b,7,none⟩=some c7∧W.cell? ⟨b,8,none⟩=some c8∧W.cell? ⟨b,9,none⟩=some c9:=
 ⟨jB q 0,jB q 1,jB q 2,jB q 3,jB q 4,jB q 5,jB q 6,jB q 7,jB q 8,jB q 9⟩
theorem kept_setRow {F:Nat→Prop} {w:World} (g:Nat) (C:Array Value) (hF:F g):Kept F w (w.setRow g C):=
 ⟨rfl,rfl,rfl,(below_setRow (Below.refl 0 w) (Nat.zero_le g) C).size,fun k _ hf=>setRow_other _ _ _ _ (fun e=>hf (by rw[e];exact hF))⟩
abbrev atZ:Array Value:=#[.int .i64 0,.int .i64 0,.slice none 0 0,.int .u32 0,.int .i64 0,.int .i64 0,.int .i64 0,.int .u32 0,.slice none 0 0,.slice none 0 0]
theorem boxAZ (w:World) (C:Array Value):∃W0,W0=(w.alloc (.cells C 42)).alloc (.cells atZ 42)∧W0.heap[w.heap.size]? =some (.cells C 42 (0,0))∧W0.heap[w.heap.size+1]? =some (.cells atZ 42 (0,0))∧Below w.heap.size w W0∧W0.heap.size=w.heap.size+2:=by
 refine⟨_,rfl,?_,?_,((Below.refl _ _).alloc (Nat.le_refl _) _).alloc (by simp) _,by simp⟩
 ·have h1:=heap_alloc_new w (.cells C 42);have h2:Below (w.alloc (.cells C 42)).heap.size (w.alloc (.cells C 42)) ((w.alloc (.cells C 42)).alloc (.cells atZ 42)):=(Below.refl _ _).alloc (Nat.le_refl _) _;exact(h2.block _ (jE h1)).trans h1
 ·have h1:=heap_alloc_new (w.alloc (.cells C 42)) (.cells atZ 42);simpa using h1
theorem results_Clone (tmps:Array Value) (W:World) (b:Nat) (C:Array Value) (hC:C.size=10) (h4:tmps.getD 2 undef=.pointer (some ⟨b,0,none⟩)) (hb:W.heap[b]? =some (.cells C 42 (0,0))):
  (results Tryz.f85 tmps).run Tryz.prog W=.ok (.agg C) W:=results_cell_row Tryz.results85 tmps W b 42 C (0,0) _ h4 hb Tryz.underlying42 rfl (by rw[hC];kernel_rfl)
def SegU (w:World) (s:Sg) (cs:List Value):Prop:=∃u,cs=[.bool s.1,u]∧IntsAt w u s.2∧NF w 1 u
def OthU (w:World) (o:Oth) (cs:List Value):Prop:=∃u,cs=[.int .i64 o.1,u]∧(I64r o.1∧BytesAt w u o.2)∧NF w 1 u
structure AtU (W:World) (a:At) (vp vc vo:Value):Prop where
 path:SlAt W 2 (SegU W) vp a.path
 pnf:NF W 2 vp
 comms:IntsAt W vc a.comms
 cnf:NF W 1 vc
 oths:SlAt W 2 (OthU W) vo a.others
 onf:NF W 2 vo
theorem AtU.atl {W:World} {a:At} {vp vc vo:Value} (h:AtU W a vp vc vo):AtL W a vp vc vo:=
 ⟨h.path.imp fun _ _ _ ⟨u,h1,h2,_⟩=>⟨u,h1,h2⟩,h.comms,h.oths.imp fun _ _ _ ⟨u,h1,h2,_⟩=>⟨u,h1,h2.1,h2.2⟩⟩
def ClonePost (w:World) (a:At) (e:Ending) (w':World):Prop:=∃vp vc vo,e=.returned (.agg (atV a vp vc vo).toArray)∧Fresh w.heap.size w' (fun W=>AtL W a vp vc vo∧W.ownsRow w.heap.size 3 1 vc a.comms.length (a.comms.flatMap i64L)∧AtU W a vp vc vo)∧Below w.heap.size w w'
theorem at_Clone (a:At) (vp vc vo:Value) (w:World) (hA:AtL w a vp vc vo) (hz:AtSz a):Calls Tryz.prog 85 #[.agg (atV a vp vc vo).toArray] w (ClonePost w a):=by
 show Calls Tryz.prog 85 #[.agg #[.int .i64 a.has,.int .i64 a.origin,vp,.int .u32 a.hop,.int .i64 a.med,.int .i64 a.loc,.int .i64 a.aggrAs,.int .u32 a.aggrId,vc,vo]] w _;have HZ:=jh hz;have HP:=jh (slat_rows hA.1);have HC:=jh hA.2.1;have HO:=jh (slat_rows hA.2.2);clear hz hA;obtain⟨sa,cap,rowsP,rfl,hlc,hcm,p1,p2,p3,p4⟩:=HP.out;obtain⟨so,co,rowsO,rfl,olc,ocm,o1,o2,o3,o4⟩:=HO.out;obtain⟨sc,cc,rfl,ck⟩:∃sc cc,vc=.slice sc a.comms.length cc∧a.comms.length≤cc∧cc≤maxLen:=by obtain⟨sc,cc,h,h2,h3,_⟩:=HC.out;exact⟨sc,cc,h,h2,h3⟩
 have CS:=jh (fun W (hW:Below w.heap.size w W)=>sl_CloneSeg sa a.path.length cap rowsP.flatten W (by rw[rows_len p2,p1]) (Nat.le_trans hlc hcm) (fun h0=>by
  obtain⟨b,off,h1,h2⟩:=p4 h0;exact⟨b,off,h1,fun q u hq=>jA (h2 q u hq) hW⟩) (fun u hu=>by
   obtain⟨r,hr,hur⟩:=List.mem_flatten.1 hu;obtain⟨i,hi⟩:=List.getElem?_of_mem hr;obtain⟨s,hs⟩:∃s,a.path[i]? =some s:=⟨_,List.getElem?_eq_getElem (by have:=(List.getElem?_eq_some_iff.1 hi).1;omega)⟩
   obtain⟨cs,h1,u1,rfl,⟨_,_,rfl,_⟩⟩:=p3 i s hs;rw[hi] at h1;cases h1
   simp at hur;rcases hur with rfl|rfl<;>rfl) HZ.out.path)
 have COt:=jh (fun W (hW:Below w.heap.size w W)=>sl_CloneOther so a.others.length co rowsO.flatten W (by rw[rows_len o2,o1]) (Nat.le_trans olc ocm) (fun h0=>by
  obtain⟨b,off,h1,h2⟩:=o4 h0;exact⟨b,off,h1,fun q u hq=>jA (h2 q u hq) hW⟩) (fun u hu=>by
   obtain⟨r,hr,hur⟩:=List.mem_flatten.1 hu;obtain⟨i,hi⟩:=List.getElem?_of_mem hr;obtain⟨s,hs⟩:∃s,a.others[i]? =some s:=⟨_,List.getElem?_eq_getElem (by have:=(List.getElem?_eq_some_iff.1 hi).1;omega)⟩
   obtain⟨cs,h1,u1,rfl,_,⟨_,_,rfl,_⟩⟩:=o3 i s hs;rw[hi] at h1;cases h1
   simp at hur;rcases hur with rfl|rfl<;>rfl) HZ.out.others)
 have CC:=jh (fun W (hW:Below w.heap.size w W)=>clone_ints (.slice sc a.comms.length cc) a.comms W (HC.out.below hW) HZ.out.comms);have P3:=jh p3;have O3:=jh o3;have P12:=jh (And.intro p1 p2);have O12:=jh (And.intro o1 o2);unfold maxLen at hcm ocm;clear p1 p2 p3 p4 o1 o2 o3 o4 HP HO ck;go_enter Tryz.func85,Tryz.ntmps85;go_upto_region 1 with (fail)
 obtain⟨W0,hW0,qa,qz,hb0,hs0⟩:=boxAZ w #[.int .i64 a.has,.int .i64 a.origin,.slice sa a.path.length cap,.int .u32 a.hop,.int .i64 a.med,.int .i64 a.loc,.int .i64 a.aggrAs,.int .u32 a.aggrId,.slice sc a.comms.length cc,.slice so a.others.length co];rw[←hW0];clear hW0;have a2:W0.cell? ⟨w.heap.size,2,none⟩=some (.slice sa a.path.length cap):=jB qa 2;have QA:=jh qa;have QZ:=jh qz;have B0:=jh hb0;have S0:=jh hs0;clear qa qz hb0 hs0;go_wp2_with fail;refine(CS.out _ B0.out).mono ?_;rintro e w1 ⟨vp1,rfl,ow1,hb1⟩;have a2:=jA a2 hb1;have f2:=jN ((hb1.block _ (jE QA.out)).trans QA.out) 2;obtain⟨sp1,cp1,rfl,k1⟩:=jV ow1;have K1:=jh k1;have RU0:RowsUp (fun s:Sg=>.bool s.1) (fun W u s=>IntsAt W u s.2) w W0.heap.size 121 w1 (.slice sp1 a.path.length cp1) a.path 0 rowsP:=⟨P12.out.2,P12.out.1,ow1,fun j x hx=>by
  obtain⟨cs,h1,u,rfl,h2⟩:=P3.out j x hx;exact⟨u,h1,fun h=>absurd h (by omega),fun _=>h2⟩⟩
 clear k1 ow1;go_upto_region 2 with (fail)
 obtain⟨W2,hW2⟩:∃W2,W2=w1.setCell ⟨w.heap.size,2,none⟩ (.slice sp1 a.path.length cp1):=⟨_,rfl⟩
 have KB:Kept (fun b=>b=w.heap.size) w1 W2:=by rw[hW2];exact Kept.setCell _ _ rfl
 have QA2:Hid (W2.heap[w.heap.size]? =some (.cells #[.int .i64 a.has,.int .i64 a.origin,.slice sp1 a.path.length cp1,.int .u32 a.hop,.int .i64 a.med,.int .i64 a.loc,.int .i64 a.aggrAs,.int .u32 a.aggrId,.slice sc a.comms.length cc,.slice so a.others.length co] 42 (0,0))):=jh (by
  rw[hW2];have:=jO ((hb1.block _ (jE QA.out)).trans QA.out) 2 (.slice sp1 a.path.length cp1);simpa using this)
 have QZ2:Hid (W2.heap[w.heap.size+1]? =some (.cells atZ 42 (0,0))):=jh (by
  have h1:=(hb1.block _ (jE QZ.out)).trans QZ.out;exact(KB.block _ (jE h1) (by omega)).trans h1)
 have RU2:=jh (RU0.kept KB (fun k hk e=>by have:=S0.out;omega));have B2:Hid (Below w.heap.size w W2):=jh ((jC B0.out hb1).trans (KB.below (by have:=hb1.size;have:=S0.out;omega) (fun k hk=>by omega)));rw[←hW2];clear hW2 KB RU0 a2 f2 hb1 QA QZ;generalize W0.heap.size=lo at S0 RU2;clear CS P3 P12 B0;have y2:W2.cell? ⟨w.heap.size,2,none⟩=some (.slice sp1 a.path.length cp1):=jB QA2.out 2;go_wp2_with fail;clear y2;go_loopw [12] (fun t wr=>∃(i:Nat) (rows:List (List Value)),i≤a.path.length∧t=.int .i64 i∧Hid (RowsUp (fun s:Sg=>.bool s.1) (fun W u s=>IntsAt W u s.2) w lo 121 wr (.slice sp1 a.path.length cp1) a.path i rows)∧Hid (wr.heap[w.heap.size]? =some (.cells #[.int .i64 a.has,.int .i64 a.origin,.slice sp1 a.path.length cp1,.int .u32 a.hop,.int .i64 a.med,.int .i64 a.loc,.int .i64 a.aggrAs,.int .u32 a.aggrId,.slice sc a.comms.length cc,.slice so a.others.length co] 42 (0,0)))∧Hid (wr.heap[w.heap.size+1]? =some (.cells atZ 42 (0,0)))∧Hid (Below w.heap.size w wr)) (fun t _=>a.path.length - (intOf t).toNat)
 case atStart=>exact⟨0,rowsP,by omega,rfl,RU2,QA2,QZ2,B2⟩
 case round=>
  clear RU2 QA2 QZ2 B2;obtain⟨i,rows,hi,rfl,RU,QA,QZ,B⟩:=hrel;by_cases hlt:i<a.path.length
  ·obtain⟨s,hs⟩:∃s,a.path[i]? =some s:=⟨_,List.getElem?_eq_getElem hlt⟩
   obtain⟨u,hr,_,hin⟩:=RU.out.at_ i s hs;have IN:=hin (Nat.le_refl _);obtain⟨g,rfl⟩:=K1.out (by omega);obtain⟨x1,f1,lg,gl⟩:=own_row_cell RU.out.own rfl (j:=i*2+1) (u:=u) (by rw[rows_get RU.out.two i _ hr 1 (by decide)];rfl);have y2:wr.cell? ⟨w.heap.size,2,none⟩=some (.slice (some ⟨g,0,none⟩) a.path.length cp1):=jB QA.out 2;have Y2:=jh y2;have NE:Hid (w.heap.size≠g):=jh (by have:=S0.out;omega);have NE1:Hid (w.heap.size+1≠g):=jh (by have:=S0.out;omega);have LG:Hid (w.heap.size≤g):=jh (by have:=S0.out;omega);have F1:=jh f1;have CI:=jh (fun W (hW:Below w.heap.size w W)=>clone_ints u s.2 W (IN.below hW) (HZ.out.segs s (List.mem_of_getElem? hs)));have RG:=jh (ints_rng IN);have x1d:(World.drew wr).cell? ⟨g,i*2+1,none⟩=some u:=x1;have X1:=jh x1;have HS:=jh hs;have HR:=jh hr;have j0:(0:Int)≤(i:Int):=by omega
   have j1:(i:Int)<(a.path.length:Int):=by omega
   clear hs hr hin IN lg gl f1 x1;go_upto_region 5 with (fail)
   refine wp_region_held_drew (S:=fun w'=>Kept (fun b=>b=g) wr w') (by kernel_rfl) ?_ (fun hHeld=>?_)
   ·exact(Kept.refl _ _).drew
   refine qz 0 hHeld ?_;refine qz 1 hHeld ?_ (hy:=by intro w' hSw;(try dsimp only at hSw);have y2:=hSw.cell Y2.out NE.out;(try clear hHeld);go_simp;try with_reducible rfl);refine qz 2 hHeld ?_;refine qz 3 hHeld ?_;refine qz 4 hHeld ?_ (hy:=by intro w' hSw;(try dsimp only at hSw);have y2:=hSw.cell Y2.out NE.out;(try clear hHeld);go_simp;try with_reducible rfl);refine qz 5 hHeld ?_;refine qz 6 hHeld ?_ (hy:=by intro w' hSw;(try dsimp only at hSw);have y2:=hSw.cell Y2.out NE.out;(try clear hHeld);go_simp;try with_reducible rfl);refine qz 7 hHeld ?_;refine jr 8 fun K hK=>?_;(try clear hb);go_simp;go_wp2_with fail;refine hK.out _ _ hHeld fun hHeld=>?_;clear hK K;(try simp only[jz]);refine jr 9 fun K hK=>?_;(try clear hb);go_simp;(refine(CI.out _ (B.out.drew)).mono ?_;rintro e w5 ⟨u',rfl,ow5,hb5⟩);obtain⟨su,cu,rfl,-⟩:=jV ow5;have HB5:Hid (Below wr.heap.size wr w5):=jh ((Below.refl _ _).drew.trans hb5);have x5:=jA X1.out HB5.out;have f5:w5.frozen? ⟨g,i*2+1,none⟩=false:=(HB5.out.frozen (p:=⟨g,i*2+1,none⟩) (jH X1.out)).trans F1.out;go_wp2_with fail;refine hK.out _ _ ?_ (fun hHeld=>?_);(·exact hHeld.trans (Kept.of_below hb5));clear hK K;(try simp only[jz]);refine qz 10 hHeld ?_ (hy:=by intro w' hSw;(try dsimp only at hSw);have y2:=hSw.cell Y2.out NE.out;(try clear hHeld);go_simp;try with_reducible rfl);refine qz 11 hHeld ?_;refine jr 12 fun K hK=>?_;(try clear hb);go_simp;go_wp2_with fail;refine hK.out _ _ ?_ (fun hHeld=>?_);(·exact hHeld.trans (Kept.setCell _ _ rfl));clear hK K;(try simp only[jz]);refine wpAnyH_done (by kernel_rfl) ?_ _;have STP:=jh (RU.out.step HS.out HR.out HB5.out rfl ((own_fresh ow5).imp (fun W h=>⟨own_i64s h RG.out,own_nf h⟩)));have HK:=jh hHeld;have NB6:Hid (Below w.heap.size w (w5.setCell ⟨g,i*2+1,none⟩ (.slice su s.2.length cu))):=jh ((jC B.out HB5.out).setCell LG.out _);have QA6:=jh ((hHeld.block _ (jE QA.out) NE.out).trans QA.out);have QZ6:=jh ((hHeld.block _ (jE QZ.out) NE1.out).trans QZ.out);clear hHeld HK x1d HB5 x5 f5 ow5 RU QA QZ B y2 Y2 CI;go_wp2_with fail;exact⟨⟨i+1,_,by omega,by go_num,STP,QA6,QZ6,NB6⟩,by simp[intOf];omega⟩
  ·obtain rfl:i=a.path.length:=by omega
   have DP:=jh (RU.out.done);clear RU hlt hi;have a8:wr.cell? ⟨w.heap.size,8,none⟩=some (.slice sc a.comms.length cc):=jB QA.out 8;go_wp2_with fail;refine(CC.out _ B.out).mono ?_;rintro e w3 ⟨vc1,rfl,ow3,hb3⟩;obtain⟨sc1,cc1,rfl,-⟩:=jV ow3;have a8:=jA a8 hb3;have f8:=jN ((hb3.block _ (jE QA.out)).trans QA.out) 8;go_upto_region 8 with (fail)
   obtain⟨W3,hW3⟩:∃W3,W3=w3.setCell ⟨w.heap.size,8,none⟩ (.slice sc1 a.comms.length cc1):=⟨_,rfl⟩
   have KB:Kept (fun b=>b=w.heap.size) w3 W3:=by rw[hW3];exact Kept.setCell _ _ rfl
   have QA3:Hid (W3.heap[w.heap.size]? =some (.cells #[.int .i64 a.has,.int .i64 a.origin,.slice sp1 a.path.length cp1,.int .u32 a.hop,.int .i64 a.med,.int .i64 a.loc,.int .i64 a.aggrAs,.int .u32 a.aggrId,.slice sc1 a.comms.length cc1,.slice so a.others.length co] 42 (0,0))):=jh (by
    rw[hW3];have:=jO ((hb3.block _ (jE QA.out)).trans QA.out) 8 (.slice sc1 a.comms.length cc1);simpa using this)
   have QZ3:Hid (W3.heap[w.heap.size+1]? =some (.cells atZ 42 (0,0))):=jh (by
    have h1:=(hb3.block _ (jE QZ.out)).trans QZ.out;exact(KB.block _ (jE h1) (by omega)).trans h1)
   have LW:lo≤wr.heap.size:=by have:=jE QZ.out;have:=S0.out;omega
   have DP3:=jh ((DP.out.below hb3).kept KB (fun k _ hl e=>by have:=S0.out;omega));have DC3:Hid (Fresh lo W3 fun W=>W.ownsRow lo 3 1 (.slice sc1 a.comms.length cc1) a.comms.length (a.comms.flatMap i64L)):=jh (((own_fresh ow3).wide (G:=fun k=>lo≤k) (fun k hk _=>by omega) |>.imp (fun W h=>own_base h LW)).kept KB (fun k _ hl e=>by have:=S0.out;omega));have B3:Hid (Below w.heap.size w W3):=jh ((jC B.out hb3).trans (KB.below (by have:=(jC B.out hb3).size;omega) (fun k hk=>by omega)));rw[←hW3];clear hW3 KB a8 f8 hb3 QA QZ B DP ow3 LW;have a9:W3.cell? ⟨w.heap.size,9,none⟩=some (.slice so a.others.length co):=jB QA3.out 9;go_wp2_with fail;refine(COt.out _ B3.out).mono ?_;rintro e w4 ⟨vo1,rfl,ow4,hb4⟩;have a9:=jA a9 hb4;have f9:=jN ((hb4.block _ (jE QA3.out)).trans QA3.out) 9;obtain⟨so1,co1,rfl,k1⟩:=jV ow4;have O1:=jh k1;have LW:lo≤W3.heap.size:=by have:=jE QZ3.out;have:=S0.out;omega
   have RU0:RowsUp (fun s:Oth=>.int .i64 s.1) (fun W u s=>I64r s.1∧BytesAt W u s.2) w W3.heap.size 159 w4 (.slice so1 a.others.length co1) a.others 0 rowsO:=⟨O12.out.2,O12.out.1,ow4,fun j x hx=>by
    obtain⟨cs,h1,u,rfl,h2⟩:=O3.out j x hx;exact⟨u,h1,fun h=>absurd h (by omega),fun _=>h2⟩⟩
   clear k1 ow4;go_upto_region 9 with (fail)
   obtain⟨W4,hW4⟩:∃W4,W4=w4.setCell ⟨w.heap.size,9,none⟩ (.slice so1 a.others.length co1):=⟨_,rfl⟩
   have KB:Kept (fun b=>b=w.heap.size) w4 W4:=by rw[hW4];exact Kept.setCell _ _ rfl
   have QA4:Hid (W4.heap[w.heap.size]? =some (.cells #[.int .i64 a.has,.int .i64 a.origin,.slice sp1 a.path.length cp1,.int .u32 a.hop,.int .i64 a.med,.int .i64 a.loc,.int .i64 a.aggrAs,.int .u32 a.aggrId,.slice sc1 a.comms.length cc1,.slice so1 a.others.length co1] 42 (0,0))):=jh (by
    rw[hW4];have:=jO ((hb4.block _ (jE QA3.out)).trans QA3.out) 9 (.slice so1 a.others.length co1);simpa using this)
   have QZ4:Hid (W4.heap[w.heap.size+1]? =some (.cells atZ 42 (0,0))):=jh (by
    have h1:=(hb4.block _ (jE QZ3.out)).trans QZ3.out;exact(KB.block _ (jE h1) (by omega)).trans h1)
   have DB4:=jh ((((DP3.out.and DC3.out).wide (G:=fun k=>lo≤k∧k<W3.heap.size) (fun k hk hl=>⟨hk,hl⟩)).below hb4).kept KB (fun k _ hl e=>by have:=S0.out;omega));have RU4:=jh (RU0.kept KB (fun k hk e=>by have:=S0.out;omega));have B4:Hid (Below w.heap.size w W4):=jh ((jC B3.out hb4).trans (KB.below (by have:=(jC B3.out hb4).size;omega) (fun k hk=>by omega)));rw[←hW4];clear hW4 KB RU0 a9 f9 hb4 QA3 QZ3 DP3 DC3 B3;have L3:=jh LW;clear LW;generalize W3.heap.size=lo3 at DB4 RU4 L3;have y9:W4.cell? ⟨w.heap.size,9,none⟩=some (.slice so1 a.others.length co1):=jB QA4.out 9;go_wp2_with fail;clear y9;go_loopw [39] (fun t wr=>∃(i:Nat) (rows:List (List Value)),i≤a.others.length∧t=.int .i64 i∧Hid (RowsUp (fun s:Oth=>.int .i64 s.1) (fun W u s=>I64r s.1∧BytesAt W u s.2) w lo3 159 wr (.slice so1 a.others.length co1) a.others i rows)∧Hid (On (fun k=>lo≤k∧k<lo3) wr fun W=>(SlAt W 2 (fun x cs=>∃u,cs=[.bool x.1,u]∧IntsAt W u x.2∧NF W 1 u) (.slice sp1 a.path.length cp1) a.path∧NF W 2 (.slice sp1 a.path.length cp1))∧W.ownsRow lo 3 1 (.slice sc1 a.comms.length cc1) a.comms.length (a.comms.flatMap i64L))∧Hid (wr.heap[w.heap.size]? =some (.cells #[.int .i64 a.has,.int .i64 a.origin,.slice sp1 a.path.length cp1,.int .u32 a.hop,.int .i64 a.med,.int .i64 a.loc,.int .i64 a.aggrAs,.int .u32 a.aggrId,.slice sc1 a.comms.length cc1,.slice so1 a.others.length co1] 42 (0,0)))∧Hid (wr.heap[w.heap.size+1]? =some (.cells atZ 42 (0,0)))∧Hid (Below w.heap.size w wr)) (fun t _=>a.others.length - (intOf t).toNat)
   case atStart=>exact⟨0,rowsO,by omega,rfl,RU4,DB4,QA4,QZ4,B4⟩
   case round=>
    clear RU4 DB4 QA4 QZ4 B4;obtain⟨i,rows,hi,rfl,RU,DB,QA,QZ,B⟩:=hrel;by_cases hlt:i<a.others.length
    ·obtain⟨s,hs⟩:∃s,a.others[i]? =some s:=⟨_,List.getElem?_eq_getElem hlt⟩
     obtain⟨u,hr,_,hin⟩:=RU.out.at_ i s hs;have IN:=(hin (Nat.le_refl _)).2;have IR:=jh (hin (Nat.le_refl _)).1;obtain⟨g,rfl⟩:=O1.out (by omega);obtain⟨x1,f1,lg,gl⟩:=own_row_cell RU.out.own rfl (j:=i*2+1) (u:=u) (by rw[rows_get RU.out.two i _ hr 1 (by decide)];rfl);have y2:wr.cell? ⟨w.heap.size,9,none⟩=some (.slice (some ⟨g,0,none⟩) a.others.length co1):=jB QA.out 9;have Y2:=jh y2;have NE:Hid (w.heap.size≠g):=jh (by have:=S0.out;have:=L3.out;omega);have NE1:Hid (w.heap.size+1≠g):=jh (by have:=S0.out;have:=L3.out;omega);have LG:Hid (w.heap.size≤g):=jh (by have:=S0.out;have:=L3.out;omega);have LG3:=jh lg;have F1:=jh f1;have CI:=jh (fun W (hW:Below w.heap.size w W)=>clone_bytes u s.2 W (IN.below hW) (HZ.out.vals s (List.mem_of_getElem? hs)));have RG:=jh (bytes_rng IN);have x1d:(World.drew wr).cell? ⟨g,i*2+1,none⟩=some u:=x1;have X1:=jh x1;have HS:=jh hs;have HR:=jh hr;have j0:(0:Int)≤(i:Int):=by omega
     have j1:(i:Int)<(a.others.length:Int):=by omega
     clear hs hr hin IN lg gl f1 x1;go_upto_region 12 with (fail)
     refine wp_region_held_drew (S:=fun w'=>Kept (fun b=>b=g) wr w') (by kernel_rfl) ?_ (fun hHeld=>?_)
     ·exact(Kept.refl _ _).drew
     refine qz 0 hHeld ?_;refine qz 1 hHeld ?_ (hy:=by intro w' hSw;(try dsimp only at hSw);have y2:=hSw.cell Y2.out NE.out;(try clear hHeld);go_simp;try with_reducible rfl);refine qz 2 hHeld ?_;refine qz 3 hHeld ?_;refine qz 4 hHeld ?_ (hy:=by intro w' hSw;(try dsimp only at hSw);have y2:=hSw.cell Y2.out NE.out;(try clear hHeld);go_simp;try with_reducible rfl);refine qz 5 hHeld ?_;refine qz 6 hHeld ?_ (hy:=by intro w' hSw;(try dsimp only at hSw);have y2:=hSw.cell Y2.out NE.out;(try clear hHeld);go_simp;try with_reducible rfl);refine qz 7 hHeld ?_;refine jr 8 fun K hK=>?_;(try clear hb);go_simp;go_wp2_with fail;refine hK.out _ _ hHeld fun hHeld=>?_;clear hK K;(try simp only[jz]);refine jr 9 fun K hK=>?_;(try clear hb);go_simp;(refine(CI.out _ (B.out.drew)).mono ?_;rintro e w5 ⟨u',rfl,ow5,hb5⟩);obtain⟨su,cu,rfl,-⟩:=jV ow5;have HB5:Hid (Below wr.heap.size wr w5):=jh ((Below.refl _ _).drew.trans hb5);have x5:=jA X1.out HB5.out;have f5:w5.frozen? ⟨g,i*2+1,none⟩=false:=(HB5.out.frozen (p:=⟨g,i*2+1,none⟩) (jH X1.out)).trans F1.out;go_wp2_with fail;refine hK.out _ _ ?_ (fun hHeld=>?_);(·exact hHeld.trans (Kept.of_below hb5));clear hK K;(try simp only[jz]);refine qz 10 hHeld ?_ (hy:=by intro w' hSw;(try dsimp only at hSw);have y2:=hSw.cell Y2.out NE.out;(try clear hHeld);go_simp;try with_reducible rfl);refine qz 11 hHeld ?_;refine jr 12 fun K hK=>?_;(try clear hb);go_simp;go_wp2_with fail;refine hK.out _ _ ?_ (fun hHeld=>?_);(·exact hHeld.trans (Kept.setCell _ _ rfl));clear hK K;(try simp only[jz]);refine wpAnyH_done (by kernel_rfl) ?_ _;have STP:=jh (RU.out.step HS.out HR.out HB5.out rfl ((own_fresh ow5).imp (fun W h=>⟨⟨IR.out,own_u8s h RG.out⟩,own_nf h⟩)));have NB6:Hid (Below w.heap.size w (w5.setCell ⟨g,i*2+1,none⟩ (.slice su s.2.length cu))):=jh ((jC B.out HB5.out).setCell LG.out _);have QA6:=jh ((hHeld.block _ (jE QA.out) NE.out).trans QA.out);have QZ6:=jh ((hHeld.block _ (jE QZ.out) NE1.out).trans QZ.out);have DB6:=jh (DB.out.kept hHeld (fun k _ hl e=>by have:=LG3.out;omega));clear hHeld x1d HB5 x5 f5 ow5 RU QA QZ B DB y2 Y2 CI;go_wp2_with fail;exact⟨⟨i+1,_,by omega,by go_num,STP,DB6,QA6,QZ6,NB6⟩,by simp[intOf];omega⟩
    ·obtain rfl:i=a.others.length:=by omega
     have DO:=jh (RU.out.done);have RC:=jh (ints_rng HC.out);have FIN:Hid (Fresh lo wr (fun W=>AtL W a (.slice sp1 a.path.length cp1) (.slice sc1 a.comms.length cc1) (.slice so1 a.others.length co1)∧W.ownsRow w.heap.size 3 1 (.slice sc1 a.comms.length cc1) a.comms.length (a.comms.flatMap i64L)∧AtU W a (.slice sp1 a.path.length cp1) (.slice sc1 a.comms.length cc1) (.slice so1 a.others.length co1))):=jh (by
      have h1:Fresh lo wr _:=DB.out.wide (fun k hk _=>hk.1);have h2:Fresh lo wr _:=DO.out.wide (fun k hk _=>Nat.le_trans L3.out hk);refine(h1.and h2).imp (fun W h=>?_);have au:AtU W a (.slice sp1 a.path.length cp1) (.slice sc1 a.comms.length cc1) (.slice so1 a.others.length co1):=⟨h.1.1.1,h.1.1.2,own_i64s h.1.2 RC.out,own_nf h.1.2,h.2.1,h.2.2⟩
      exact⟨au.atl,own_base h.1.2 (by have:=S0.out;omega),au⟩)
     clear RU DB DO hlt hi;obtain⟨y0,y1,y2,y3,y4,y5,y6,y7,y8,y9⟩:=atc_cells QA.out;have z0:=jN QZ.out;go_wp2_with ((with_reducible refine jM (X:=.store 42 (.tmp 2) (.tmp 55)) ?_ ?_);(·rfl));unfold Halt;refine st_row rfl 42 (.tmp 2) (.tmp 55) rfl (w.heap.size+1) rfl 42 atZ #[.int .i64 a.has,.int .i64 a.origin,.slice sp1 a.path.length cp1,.int .u32 a.hop,.int .i64 a.med,.int .i64 a.loc,.int .i64 a.aggrAs,.int .u32 a.aggrId,.slice sc1 a.comms.length cc1,.slice so1 a.others.length co1] rfl QZ.out ?_ rfl (by simp[Value.oneCell']) ?_
     ·kernel_rfl
     go_wp2_with fail;refine bodyPost_ret (results_Clone _ _ (w.heap.size+1) _ ?_ ?_ (setRow_heap _ _ _ _ _ _ QZ.out)) rfl ⟨_,_,_,rfl,?_,below_setRow B.out (Nat.le_succ _) _⟩
     ·rfl
     ·rfl
     ·exact(FIN.out.kept (kept_setRow (F:=fun k=>k=w.heap.size+1) _ _ rfl) (fun k _ hl e=>by have:=S0.out;omega)).wide (fun k hk _=>by have:=S0.out;omega)
open Go.RowKit
theorem sl_EqI (v u:Value) (xs ys:List Int) (w:World) (h:IntsAt w v xs) (k:IntsAt w u ys):Calls Tryz.prog 79 #[v,u] w fun e w'=>e=.returned (.bool (decide (xs=ys)))∧Below w.heap.size w w':=by
 obtain⟨sa,cap,rfl,hlc,hcm,hV⟩:=h;obtain⟨sb,cap2,rfl,hlc2,hcm2,hU⟩:=k;have HV:=jh hV;have HU:=jh hU;unfold maxLen at hcm hcm2;clear hV hU;by_cases hl:xs.length=ys.length
 ·have HL:=jh hl;have j0:((xs.length:Int) !=(ys.length:Int))=false:=by simp[hl]
  clear hl;go_enter Tryz.func79,Tryz.ntmps79;go_wp2_with fail;clear j0;go_loopw [13] (fun k13 wr=>∃k:Nat,k≤xs.length∧k13=.int .i64 k∧Hid (xs.take k=ys.take k)∧Hid (Below w.heap.size w wr)) (fun k13 _=>xs.length - (intOf k13).toNat)
  case atStart=>exact⟨0,by omega,rfl,jh rfl,jh (Below.refl _ _)⟩
  case round=>
   obtain⟨k,hk,rfl,E,B⟩:=hrel;by_cases hlt:k<xs.length
   ·obtain⟨x,hx⟩:∃x,xs[k]? =some x:=⟨_,List.getElem?_eq_getElem hlt⟩
    obtain⟨y,hy⟩:∃y,ys[k]? =some y:=⟨_,List.getElem?_eq_getElem (by rw[←HL.out];exact hlt)⟩
    obtain⟨b1,off1,hsa,hP⟩:=HV.out (by omega);obtain⟨b2,off2,hsb,hQ⟩:=HU.out (by rw[←HL.out];omega);subst hsa;subst hsb;obtain⟨c1,_,⟨rfl,_⟩,k1⟩:=hP k x hx;obtain⟨c2,_,⟨rfl,_⟩,k2⟩:=hQ k y hy;have x0:=k1 0 _ rfl;have y0:=k2 0 _ rfl;simp only[Nat.add_zero,Nat.mul_one] at x0 y0;have x0:=(B.out.cell (jH x0)).trans x0;have y0:=(B.out.cell (jH y0)).trans y0;have i0:(0:Int)≤(k:Int):=by omega
    have i1:(k:Int)<(xs.length:Int):=by omega
    have i2:(k:Int)<(ys.length:Int):=by have:=HL.out;omega
    have HX:=jh hx;have HY:=jh hy;clear hP hQ hx hy k1 k2;go_wp2_with fail;by_cases he:x=y
    ·have EQ:(x !=y)=false:=by simp[he]
     have EQ2:(x=y)=True:=by simp[he]
     have E2:Hid (xs.take (k+1)=ys.take (k+1)):=jh (by rw[List.take_add_one,List.take_add_one,E.out,HX.out,HY.out,he]);clear he;go_quiet (fail)
     rename_i nq;obtain⟨wq,hwq⟩:∃W,W=wr.drewN nq:=⟨_,rfl⟩
     have B2:Hid (Below w.heap.size w wq):=jh (by rw[hwq];exact jC B.out ⟨rfl,rfl,rfl,Nat.le_refl _,fun _ _=>rfl⟩);rw[←hwq];clear hwq x0 y0 EQ EQ2 B;go_wp2_with fail;exact⟨⟨k+1,by omega,by go_num,E2,B2⟩,by simp[intOf];omega⟩
    ·have EQ:(x !=y)=true:=by rw[bne_iff_ne];intro e;exact he (by omega)
     have EQ2:¬(x=y):=by exact he
     have NE:Hid (decide (xs=ys)=false):=jh (by simp only[decide_eq_false_iff_not];intro e;subst e;have:=HX.out.symm.trans HY.out;exact he (Option.some.inj this));clear he;go_quiet (fail)
     rename_i nq;obtain⟨wq,hwq⟩:∃W,W=wr.drewN nq:=⟨_,rfl⟩
     have B2:Hid (Below w.heap.size w wq):=jh (by rw[hwq];exact jC B.out ⟨rfl,rfl,rfl,Nat.le_refl _,fun _ _=>rfl⟩);rw[←hwq];clear hwq x0 y0 EQ EQ2 B;go_wp2_with fail;go_ret;exact⟨jL NE.out.symm,B2.out⟩
   ·obtain rfl:xs.length=k:=by omega
    have E3:Hid (decide (xs=ys)=true):=jh (by
     have:=E.out;rw[List.take_length,HL.out,List.take_length] at this;simpa using this)
    clear E;go_wp2_with fail;go_ret;exact⟨jL E3.out.symm,B.out⟩
 ·have j0:((xs.length:Int) !=(ys.length:Int))=true:=by simp;omega
  have NE:Hid (decide (xs=ys)=false):=jh (by simp only[decide_eq_false_iff_not];intro e;exact hl (by rw[e]));clear hl;go_enter Tryz.func79,Tryz.ntmps79;go_wp2_with fail;go_ret;exact⟨jL NE.out.symm,Below.refl _ _⟩
theorem sl_EqB (v u:Value) (xs ys:List Nat) (w:World) (h:BytesAt w v xs) (k:BytesAt w u ys):Calls Tryz.prog 84 #[v,u] w fun e w'=>e=.returned (.bool (decide (xs=ys)))∧Below w.heap.size w w':=by
 obtain⟨sa,cap,rfl,hlc,hcm,hV⟩:=h;obtain⟨sb,cap2,rfl,hlc2,hcm2,hU⟩:=k;have HV:=jh hV;have HU:=jh hU;unfold maxLen at hcm hcm2;clear hV hU;by_cases hl:xs.length=ys.length
 ·have HL:=jh hl;have j0:((xs.length:Int) !=(ys.length:Int))=false:=by simp[hl]
  clear hl;go_enter Tryz.func84,Tryz.ntmps84;go_wp2_with fail;clear j0;go_loopw [13] (fun k13 wr=>∃k:Nat,k≤xs.length∧k13=.int .i64 k∧Hid (xs.take k=ys.take k)∧Hid (Below w.heap.size w wr)) (fun k13 _=>xs.length - (intOf k13).toNat)
  case atStart=>exact⟨0,by omega,rfl,jh rfl,jh (Below.refl _ _)⟩
  case round=>
   obtain⟨k,hk,rfl,E,B⟩:=hrel;by_cases hlt:k<xs.length
   ·obtain⟨x,hx⟩:∃x,xs[k]? =some x:=⟨_,List.getElem?_eq_getElem hlt⟩
    obtain⟨y,hy⟩:∃y,ys[k]? =some y:=⟨_,List.getElem?_eq_getElem (by rw[←HL.out];exact hlt)⟩
    obtain⟨b1,off1,hsa,hP⟩:=HV.out (by omega);obtain⟨b2,off2,hsb,hQ⟩:=HU.out (by rw[←HL.out];omega);subst hsa;subst hsb;obtain⟨c1,_,⟨rfl,_⟩,k1⟩:=hP k x hx;obtain⟨c2,_,⟨rfl,_⟩,k2⟩:=hQ k y hy;have x0:=k1 0 _ rfl;have y0:=k2 0 _ rfl;simp only[Nat.add_zero,Nat.mul_one] at x0 y0;have x0:=(B.out.cell (jH x0)).trans x0;have y0:=(B.out.cell (jH y0)).trans y0;have i0:(0:Int)≤(k:Int):=by omega
    have i1:(k:Int)<(xs.length:Int):=by omega
    have i2:(k:Int)<(ys.length:Int):=by have:=HL.out;omega
    have HX:=jh hx;have HY:=jh hy;clear hP hQ hx hy k1 k2;go_wp2_with fail;by_cases he:x=y
    ·have EQ:((x:Int) !=(y:Int))=false:=by simp[he]
     have EQ2:((x:Int)=(y:Int))=True:=by simp[he]
     have E2:Hid (xs.take (k+1)=ys.take (k+1)):=jh (by rw[List.take_add_one,List.take_add_one,E.out,HX.out,HY.out,he]);clear he;go_quiet (fail)
     rename_i nq;obtain⟨wq,hwq⟩:∃W,W=wr.drewN nq:=⟨_,rfl⟩
     have B2:Hid (Below w.heap.size w wq):=jh (by rw[hwq];exact jC B.out ⟨rfl,rfl,rfl,Nat.le_refl _,fun _ _=>rfl⟩);rw[←hwq];clear hwq x0 y0 EQ EQ2 B;go_wp2_with fail;exact⟨⟨k+1,by omega,by go_num,E2,B2⟩,by simp[intOf];omega⟩
    ·have EQ:((x:Int) !=(y:Int))=true:=by rw[bne_iff_ne];intro e;exact he (by omega)
     have EQ2:¬((x:Int)=(y:Int)):=by intro e;exact he (by omega)
     have NE:Hid (decide (xs=ys)=false):=jh (by simp only[decide_eq_false_iff_not];intro e;subst e;have:=HX.out.symm.trans HY.out;exact he (Option.some.inj this));clear he;go_quiet (fail)
     rename_i nq;obtain⟨wq,hwq⟩:∃W,W=wr.drewN nq:=⟨_,rfl⟩
     have B2:Hid (Below w.heap.size w wq):=jh (by rw[hwq];exact jC B.out ⟨rfl,rfl,rfl,Nat.le_refl _,fun _ _=>rfl⟩);rw[←hwq];clear hwq x0 y0 EQ EQ2 B;go_wp2_with fail;go_ret;exact⟨jL NE.out.symm,B2.out⟩
   ·obtain rfl:xs.length=k:=by omega
    have E3:Hid (decide (xs=ys)=true):=jh (by
     have:=E.out;rw[List.take_length,HL.out,List.take_length] at this;simpa using this)
    clear E;go_wp2_with fail;go_ret;exact⟨jL E3.out.symm,B.out⟩
 ·have j0:((xs.length:Int) !=(ys.length:Int))=true:=by simp;omega
  have NE:Hid (decide (xs=ys)=false):=jh (by simp only[decide_eq_false_iff_not];intro e;exact hl (by rw[e]));clear hl;go_enter Tryz.func84,Tryz.ntmps84;go_wp2_with fail;go_ret;exact⟨jL NE.out.symm,Below.refl _ _⟩
open Go.RowKit
theorem eqF_cons {P:Program} {w:World} {d:Nat} {xs ys:Array Value} {f:Field} {fs:List Field} {a b:Value} {r rr:Bool} (hn:f.name≠ "_") (ha:(part f.type xs f.offset).run P w=.ok a w) (hb:(part f.type ys f.offset).run P w=.ok b w)
  (hr:(Op.equalIn d f.type a b).run P w=.ok r w) (hrr:(Op.eqFields d xs ys fs).run P w=.ok rr w):(Op.eqFields d xs ys (f::fs)).run P w=.ok (r&&rr) w:=by
 simp only[Op.eqFields,hn,ne_eq,not_false_eq_true,if_true,Sem.run_bind,ha,hb,hr,Result.andThen_ok];cases r
 ·simp
 ·simpa using hrr
theorem eqF_nil {P:Program} {w:World} {d:Nat} {xs ys:Array Value}:(Op.eqFields d xs ys []).run P w=.ok true w:=by simp[Op.eqFields]
theorem undPlain:Tryz.prog.underlying 151=some (.struct (Tryz.prog.fieldsOf 151)):=by kernel_rfl
theorem stoPlain:Tryz.prog.stoodInHeld 151=false:=by kernel_rfl
def plB (a b:At):Bool:=a.has==b.has&&(a.origin==b.origin&&(a.med==b.med&&(a.loc==b.loc&&(a.aggrAs==b.aggrAs&&((a.hop:Int)==(b.hop:Int)&&((a.aggrId:Int)==(b.aggrId:Int)&&true))))))
abbrev plV (a:At):Value:=.agg #[.int .i64 a.has,.int .i64 a.origin,.int .i64 a.med,.int .i64 a.loc,.int .i64 a.aggrAs,.int .u32 a.hop,.int .u32 a.aggrId]
theorem run_eql_plain (a b:At) (w:World):(binOp .eql 151 (plV a) (plV b)).run Tryz.prog w=.ok (.bool (plB a b)) w:=by
 rw[run_eql_struct,run_equalIn_struct w 9999 151 _ _ undPlain stoPlain];rw[show (Tryz.prog.fieldsOf 151).toList=_ from by rw[Program.fieldsOf,Tryz.underlying151]];have h:∀x:Result Bool,x=.ok (plB a b) w→(x.andThen fun b w'=>.ok (.bool b) w')=Result.ok (Value.bool (plB a b)) w:=fun x hx=>by rw[hx];rfl
 refine h _ ?_;unfold plB;refine eqF_cons (by decide) (by kernel_rfl) (by kernel_rfl) (run_equalIn_int w 9998 3 .i64 .i64 _ _ Tryz.underlying3) ?_;refine eqF_cons (by decide) (by kernel_rfl) (by kernel_rfl) (run_equalIn_int w 9998 3 .i64 .i64 _ _ Tryz.underlying3) ?_;refine eqF_cons (by decide) (by kernel_rfl) (by kernel_rfl) (run_equalIn_int w 9998 3 .i64 .i64 _ _ Tryz.underlying3) ?_;refine eqF_cons (by decide) (by kernel_rfl) (by kernel_rfl) (run_equalIn_int w 9998 3 .i64 .i64 _ _ Tryz.underlying3) ?_;refine eqF_cons (by decide) (by kernel_rfl) (by kernel_rfl) (run_equalIn_int w 9998 3 .i64 .i64 _ _ Tryz.underlying3) ?_;refine eqF_cons (by decide) (by kernel_rfl) (by kernel_rfl) (run_equalIn_int w 9998 36 .u32 .u32 _ _ Tryz.underlying36) ?_;refine eqF_cons (by decide) (by kernel_rfl) (by kernel_rfl) (run_equalIn_int w 9998 36 .u32 .u32 _ _ Tryz.underlying36) ?_;exact eqF_nil
theorem results_Plain (tmps:Array Value) (W:World) (b:Nat) (C:Array Value) (hC:C.size=7) (h4:tmps.getD 2 undef=.pointer (some ⟨b,0,none⟩)) (hb:W.heap[b]? =some (.cells C 151 (0,0))):
  (results Tryz.f78 tmps).run Tryz.prog W=.ok (.agg C) W:=results_cell_row Tryz.results78 tmps W b 151 C (0,0) _ h4 hb Tryz.underlying151 rfl (by rw[hC];kernel_rfl)
theorem at_plain (a:At) (vp vc vo:Value) (w:World):Calls Tryz.prog 78 #[.agg (atV a vp vc vo).toArray] w fun e w'=>e=.returned (plV a)∧Below w.heap.size w w':=by
 show Calls Tryz.prog 78 #[.agg #[.int .i64 a.has,.int .i64 a.origin,vp,.int .u32 a.hop,.int .i64 a.med,.int .i64 a.loc,.int .i64 a.aggrAs,.int .u32 a.aggrId,vc,vo]] w _;go_enter Tryz.func78,Tryz.ntmps78;go_upto_region 1 with (fail)
 obtain⟨W0,hW0,q0,q1,hb0⟩:=boxTwo w #[.int .i64 a.has,.int .i64 a.origin,vp,.int .u32 a.hop,.int .i64 a.med,.int .i64 a.loc,.int .i64 a.aggrAs,.int .u32 a.aggrId,vc,vo] 42 #[.int .i64 0,.int .i64 0,.int .i64 0,.int .i64 0,.int .i64 0,.int .u32 0,.int .u32 0] 151;rw[←hW0];clear hW0;have c0:W0.cell? ⟨w.heap.size,0,none⟩=some (.int .i64 a.has):=jB q0 0;have c1:W0.cell? ⟨w.heap.size,1,none⟩=some (.int .i64 a.origin):=jB q0 1;have c3:W0.cell? ⟨w.heap.size,3,none⟩=some (.int .u32 a.hop):=jB q0 3;have c4:W0.cell? ⟨w.heap.size,4,none⟩=some (.int .i64 a.med):=jB q0 4;have c5:W0.cell? ⟨w.heap.size,5,none⟩=some (.int .i64 a.loc):=jB q0 5;have c6:W0.cell? ⟨w.heap.size,6,none⟩=some (.int .i64 a.aggrAs):=jB q0 6;have c7:W0.cell? ⟨w.heap.size,7,none⟩=some (.int .u32 a.aggrId):=jB q0 7;have Q1:=jh q1;have HB:=jh hb0;clear q0 q1 hb0;go_wp2_with (with_reducible refine jM (X:=.store 151 (.tmp 2) (.tmp 17)) ?_ ?_;(·rfl));unfold Halt;refine st_row rfl 151 _ _ rfl (w.heap.size+1) rfl 151 #[.int .i64 0,.int .i64 0,.int .i64 0,.int .i64 0,.int .i64 0,.int .u32 0,.int .u32 0] #[.int .i64 a.has,.int .i64 a.origin,.int .i64 a.med,.int .i64 a.loc,.int .i64 a.aggrAs,.int .u32 a.hop,.int .u32 a.aggrId] rfl Q1.out (by kernel_rfl) rfl (by simp[Value.oneCell']) ?_;go_wp2_with fail;refine bodyPost_ret (results_Plain _ _ (w.heap.size+1) _ ?_ ?_ (setRow_heap _ _ _ _ _ _ Q1.out)) rfl ⟨rfl,below_setRow HB.out (Nat.le_succ _) _⟩<;>rfl
theorem dec_and {α β:Type} [DecidableEq α] [DecidableEq β] (x y:α) (l m:β):decide ((x,l)=(y,m))=(decide (x=y)&&decide (l=m)):=by
 by_cases h1:x=y<;>by_cases h2:l=m<;>simp[h1,h2]
theorem at_same1 (x y:Sg) (u v:Value) (w:World) (hu:IntsAt w u x.2) (hv:IntsAt w v y.2):
  Calls Tryz.prog 81 #[.agg #[.bool x.1,u],.agg #[.bool y.1,v]] w fun e w'=>e=.returned (.bool (decide (x=y)))∧Below w.heap.size w w':=by
 obtain⟨x,l⟩:=x;obtain⟨y,m⟩:=y;simp only at hu hv ⊢;rw[dec_and];obtain⟨su,cu,hu1,-⟩:=id hu;obtain⟨sv,cv,hv1,-⟩:=id hv;subst hu1;subst hv1;have EI:=jh (fun W (hb:Below w.heap.size w W)=>sl_EqI _ _ l m W (hu.below hb) (hv.below hb));clear hu hv;generalize hd:decide (l=m)=d at EI ⊢;clear hd;generalize he0:decide (x=y)=e0;have HE:=jh he0;clear he0;go_enter Tryz.func81,Tryz.ntmps81;go_upto_region 1 with (fail)
 obtain⟨W0,hW0,q0,q1,hb0⟩:=boxTwo w #[.bool x,.slice su l.length cu] 121 #[.bool y,.slice sv m.length cv] 121;rw[←hW0];clear hW0;have c0:W0.cell? ⟨w.heap.size,0,none⟩=some (.bool x):=jB q0 0;have c1:W0.cell? ⟨w.heap.size,1,none⟩=some (.slice su l.length cu):=jB q0 1;have d0:W0.cell? ⟨w.heap.size+1,0,none⟩=some (.bool y):=jB q1 0;have d1:W0.cell? ⟨w.heap.size+1,1,none⟩=some (.slice sv m.length cv):=jB q1 1;have HB:=jh hb0;clear q0 q1 hb0;cases e0 with
 |true=>
  obtain rfl:x=y:=of_decide_eq_true HE.out;have e1:(x==x)=true:=by simp
  go_wp2_with (go_at_call 79;refine(EI.out _ HB.out).mono ?_;rintro e w1 ⟨rfl,hb⟩);go_ret;exact⟨by simp,jC HB.out hb⟩
 |false=>
  have e2:¬(x=y):=of_decide_eq_false HE.out;have e1:(x==y)=false:=by simpa using e2
  go_wp2_with fail;go_ret;exact⟨rfl,HB.out⟩
theorem at_same2 (x y:Oth) (u v:Value) (w:World) (hu:BytesAt w u x.2) (hv:BytesAt w v y.2):
  Calls Tryz.prog 83 #[.agg #[.int .i64 x.1,u],.agg #[.int .i64 y.1,v]] w fun e w'=>e=.returned (.bool (decide (x=y)))∧Below w.heap.size w w':=by
 obtain⟨x,l⟩:=x;obtain⟨y,m⟩:=y;simp only at hu hv ⊢;rw[dec_and];obtain⟨su,cu,hu1,-⟩:=id hu;obtain⟨sv,cv,hv1,-⟩:=id hv;subst hu1;subst hv1;have EI:=jh (fun W (hb:Below w.heap.size w W)=>sl_EqB _ _ l m W (hu.below hb) (hv.below hb));clear hu hv;generalize hd:decide (l=m)=d at EI ⊢;clear hd;generalize he0:decide (x=y)=e0;have HE:=jh he0;clear he0;go_enter Tryz.func83,Tryz.ntmps83;go_upto_region 1 with (fail)
 obtain⟨W0,hW0,q0,q1,hb0⟩:=boxTwo w #[.int .i64 x,.slice su l.length cu] 159 #[.int .i64 y,.slice sv m.length cv] 159;rw[←hW0];clear hW0;have c0:W0.cell? ⟨w.heap.size,0,none⟩=some (.int .i64 x):=jB q0 0;have c1:W0.cell? ⟨w.heap.size,1,none⟩=some (.slice su l.length cu):=jB q0 1;have d0:W0.cell? ⟨w.heap.size+1,0,none⟩=some (.int .i64 y):=jB q1 0;have d1:W0.cell? ⟨w.heap.size+1,1,none⟩=some (.slice sv m.length cv):=jB q1 1;have HB:=jh hb0;clear q0 q1 hb0;cases e0 with
 |true=>
  obtain rfl:x=y:=of_decide_eq_true HE.out;have e1:(x==x)=true:=by simp
  go_wp2_with (go_at_call 84;refine(EI.out _ HB.out).mono ?_;rintro e w1 ⟨rfl,hb⟩);go_ret;exact⟨by simp,jC HB.out hb⟩
 |false=>
  have e2:¬(x=y):=of_decide_eq_false HE.out;have e1:(x==y)=false:=by simpa using e2
  go_wp2_with fail;go_ret;exact⟨rfl,HB.out⟩
theorem at_equalS (v u:Value) (xs ys:List Sg) (w:World) (h:PathAt w v xs) (k:PathAt w u ys):Calls Tryz.prog 80 #[v,u,.func (.func 81) #[] #[]] w fun e w'=>e=.returned (.bool (decide (xs=ys)))∧Below w.heap.size w w':=by
 obtain⟨sa,cap,rfl,hlc,hcm,hV⟩:=h;obtain⟨sb,cap2,rfl,hlc2,hcm2,hU⟩:=k;have HV:=jh hV;have HU:=jh hU;unfold maxLen at hcm hcm2;clear hV hU;by_cases hl:xs.length=ys.length
 ·have HL:=jh hl;have j0:((xs.length:Int) !=(ys.length:Int))=false:=by simp[hl]
  clear hl;go_enter Tryz.func80,Tryz.ntmps80;go_wp2_with fail;clear j0;go_loopw [17] (fun k13 wr=>∃k:Nat,k≤xs.length∧k13=.int .i64 k∧Hid (xs.take k=ys.take k)∧Hid (Below w.heap.size w wr)) (fun k13 _=>xs.length - (intOf k13).toNat)
  case atStart=>exact⟨0,by omega,rfl,jh rfl,jh (Below.refl _ _)⟩
  case round=>
   obtain⟨k,hk,rfl,E,B⟩:=hrel;by_cases hlt:k<xs.length
   ·obtain⟨x,hx⟩:∃x,xs[k]? =some x:=⟨_,List.getElem?_eq_getElem hlt⟩
    obtain⟨y,hy⟩:∃y,ys[k]? =some y:=⟨_,List.getElem?_eq_getElem (by rw[←HL.out];exact hlt)⟩
    obtain⟨b1,off1,hsa,hP⟩:=HV.out (by omega);obtain⟨b2,off2,hsb,hQ⟩:=HU.out (by rw[←HL.out];omega);subst hsa;subst hsb;obtain⟨c1,_,⟨u1,rfl,a1⟩,k1⟩:=hP k x hx;obtain⟨c2,_,⟨u2,rfl,a2⟩,k2⟩:=hQ k y hy;have SM:=jh (fun W (hb:Below w.heap.size w W)=>at_same1 x y u1 u2 W (a1.below hb) (a2.below hb));obtain⟨su,cu,rfl,-⟩:=id a1;obtain⟨sv,cv,rfl,-⟩:=id a2;have x0:=k1 0 _ rfl;have x1:=k1 1 _ rfl;have y0:=k2 0 _ rfl;have y1:=k2 1 _ rfl;simp only[Nat.add_zero] at x0 y0;have x0:=(B.out.cell (jH x0)).trans x0;have y0:=(B.out.cell (jH y0)).trans y0;have x1:=(B.out.cell (jH x1)).trans x1;have y1:=(B.out.cell (jH y1)).trans y1;have i0:(0:Int)≤(k:Int):=by omega
    have i1:(k:Int)<(xs.length:Int):=by omega
    have i2:(k:Int)<(ys.length:Int):=by have:=HL.out;omega
    have HX:=jh hx;have HY:=jh hy;clear hP hQ hx hy k1 k2 a1 a2;generalize hd:decide (x=y)=d at SM;have HD:=jh hd;clear hd;go_upto_region 6 with (fail)
    obtain⟨W3,hW3,r3,hb3,-⟩:=box1 wr #[.bool x.1,.slice su x.2.length cu] 121;rw[←hW3];clear hW3;have R30:W3.cell? ⟨wr.heap.size,0,none⟩=some (.bool x.1):=jB r3 0;have R31:W3.cell? ⟨wr.heap.size,1,none⟩=some (.slice su x.2.length cu):=jB r3 1;have y0:=jA y0 hb3;have y1:=jA y1 hb3;have B3:=jh (jC B.out hb3);clear x0 x1 r3 hb3;go_upto_region 7 with (fail)
    obtain⟨W4,hW4,r4,hb4,-⟩:=box1 W3 #[.bool y.1,.slice sv y.2.length cv] 121;rw[←hW4];clear hW4;have R30:=jA R30 hb4;have R31:=jA R31 hb4;have R40:W4.cell? ⟨W3.heap.size,0,none⟩=some (.bool y.1):=jB r4 0;have R41:W4.cell? ⟨W3.heap.size,1,none⟩=some (.slice sv y.2.length cv):=jB r4 1;have B4:=jh (jC B3.out hb4);clear y0 y1 r4 hb4;go_wp2_with fail;refine(SM.out _ B4.out).mono ?_;rintro e w5 ⟨rfl,hb⟩;have B5:=jh (jC B4.out hb);clear hb R30 R31 R40 R41;cases d
    ·have NE:Hid (decide (xs=ys)=false):=jh (by simp only[decide_eq_false_iff_not];intro e;subst e;have:=HX.out.symm.trans HY.out;have:=Option.some.inj this;simpa [this] using HD.out);go_wp2_with fail;go_ret;exact⟨jL NE.out.symm,B5.out⟩
    ·have E2:Hid (xs.take (k+1)=ys.take (k+1)):=jh (by rw[List.take_add_one,List.take_add_one,E.out,HX.out,HY.out,of_decide_eq_true HD.out]);go_wp2_with fail;exact⟨⟨k+1,by omega,by go_num,E2,B5⟩,by simp[intOf];omega⟩
   ·obtain rfl:xs.length=k:=by omega
    have E3:Hid (decide (xs=ys)=true):=jh (by
     have:=E.out;rw[List.take_length,HL.out,List.take_length] at this;simpa using this)
    clear E;go_wp2_with fail;go_ret;exact⟨jL E3.out.symm,B.out⟩
 ·have j0:((xs.length:Int) !=(ys.length:Int))=true:=by simp;omega
  have NE:Hid (decide (xs=ys)=false):=jh (by simp only[decide_eq_false_iff_not];intro e;exact hl (by rw[e]));clear hl;go_enter Tryz.func80,Tryz.ntmps80;go_wp2_with fail;go_ret;exact⟨jL NE.out.symm,Below.refl _ _⟩
theorem at_equalO (v u:Value) (xs ys:List Oth) (w:World) (h:OthersAt w v xs) (k:OthersAt w u ys):Calls Tryz.prog 82 #[v,u,.func (.func 83) #[] #[]] w fun e w'=>e=.returned (.bool (decide (xs=ys)))∧Below w.heap.size w w':=by
 obtain⟨sa,cap,rfl,hlc,hcm,hV⟩:=h;obtain⟨sb,cap2,rfl,hlc2,hcm2,hU⟩:=k;have HV:=jh hV;have HU:=jh hU;unfold maxLen at hcm hcm2;clear hV hU;by_cases hl:xs.length=ys.length
 ·have HL:=jh hl;have j0:((xs.length:Int) !=(ys.length:Int))=false:=by simp[hl]
  clear hl;go_enter Tryz.func82,Tryz.ntmps82;go_wp2_with fail;clear j0;go_loopw [17] (fun k13 wr=>∃k:Nat,k≤xs.length∧k13=.int .i64 k∧Hid (xs.take k=ys.take k)∧Hid (Below w.heap.size w wr)) (fun k13 _=>xs.length - (intOf k13).toNat)
  case atStart=>exact⟨0,by omega,rfl,jh rfl,jh (Below.refl _ _)⟩
  case round=>
   obtain⟨k,hk,rfl,E,B⟩:=hrel;by_cases hlt:k<xs.length
   ·obtain⟨x,hx⟩:∃x,xs[k]? =some x:=⟨_,List.getElem?_eq_getElem hlt⟩
    obtain⟨y,hy⟩:∃y,ys[k]? =some y:=⟨_,List.getElem?_eq_getElem (by rw[←HL.out];exact hlt)⟩
    obtain⟨b1,off1,hsa,hP⟩:=HV.out (by omega);obtain⟨b2,off2,hsb,hQ⟩:=HU.out (by rw[←HL.out];omega);subst hsa;subst hsb;obtain⟨c1,_,⟨u1,rfl,_,a1⟩,k1⟩:=hP k x hx;obtain⟨c2,_,⟨u2,rfl,_,a2⟩,k2⟩:=hQ k y hy;have SM:=jh (fun W (hb:Below w.heap.size w W)=>at_same2 x y u1 u2 W (a1.below hb) (a2.below hb));obtain⟨su,cu,rfl,-⟩:=id a1;obtain⟨sv,cv,rfl,-⟩:=id a2;have x0:=k1 0 _ rfl;have x1:=k1 1 _ rfl;have y0:=k2 0 _ rfl;have y1:=k2 1 _ rfl;simp only[Nat.add_zero] at x0 y0;have x0:=(B.out.cell (jH x0)).trans x0;have y0:=(B.out.cell (jH y0)).trans y0;have x1:=(B.out.cell (jH x1)).trans x1;have y1:=(B.out.cell (jH y1)).trans y1;have i0:(0:Int)≤(k:Int):=by omega
    have i1:(k:Int)<(xs.length:Int):=by omega
    have i2:(k:Int)<(ys.length:Int):=by have:=HL.out;omega
    have HX:=jh hx;have HY:=jh hy;clear hP hQ hx hy k1 k2 a1 a2;generalize hd:decide (x=y)=d at SM;have HD:=jh hd;clear hd;go_upto_region 6 with (fail)
    obtain⟨W3,hW3,r3,hb3,-⟩:=box1 wr #[.int .i64 x.1,.slice su x.2.length cu] 159;rw[←hW3];clear hW3;have R30:W3.cell? ⟨wr.heap.size,0,none⟩=some (.int .i64 x.1):=jB r3 0;have R31:W3.cell? ⟨wr.heap.size,1,none⟩=some (.slice su x.2.length cu):=jB r3 1;have y0:=jA y0 hb3;have y1:=jA y1 hb3;have B3:=jh (jC B.out hb3);clear x0 x1 r3 hb3;go_upto_region 7 with (fail)
    obtain⟨W4,hW4,r4,hb4,-⟩:=box1 W3 #[.int .i64 y.1,.slice sv y.2.length cv] 159;rw[←hW4];clear hW4;have R30:=jA R30 hb4;have R31:=jA R31 hb4;have R40:W4.cell? ⟨W3.heap.size,0,none⟩=some (.int .i64 y.1):=jB r4 0;have R41:W4.cell? ⟨W3.heap.size,1,none⟩=some (.slice sv y.2.length cv):=jB r4 1;have B4:=jh (jC B3.out hb4);clear y0 y1 r4 hb4;go_wp2_with fail;refine(SM.out _ B4.out).mono ?_;rintro e w5 ⟨rfl,hb⟩;have B5:=jh (jC B4.out hb);clear hb R30 R31 R40 R41;cases d
    ·have NE:Hid (decide (xs=ys)=false):=jh (by simp only[decide_eq_false_iff_not];intro e;subst e;have:=HX.out.symm.trans HY.out;have:=Option.some.inj this;simpa [this] using HD.out);go_wp2_with fail;go_ret;exact⟨jL NE.out.symm,B5.out⟩
    ·have E2:Hid (xs.take (k+1)=ys.take (k+1)):=jh (by rw[List.take_add_one,List.take_add_one,E.out,HX.out,HY.out,of_decide_eq_true HD.out]);go_wp2_with fail;exact⟨⟨k+1,by omega,by go_num,E2,B5⟩,by simp[intOf];omega⟩
   ·obtain rfl:xs.length=k:=by omega
    have E3:Hid (decide (xs=ys)=true):=jh (by
     have:=E.out;rw[List.take_length,HL.out,List.take_length] at this;simpa using this)
    clear E;go_wp2_with fail;go_ret;exact⟨jL E3.out.symm,B.out⟩
 ·have j0:((xs.length:Int) !=(ys.length:Int))=true:=by simp;omega
  have NE:Hid (decide (xs=ys)=false):=jh (by simp only[decide_eq_false_iff_not];intro e;exact hl (by rw[e]));clear hl;go_enter Tryz.func82,Tryz.ntmps82;go_wp2_with fail;go_ret;exact⟨jL NE.out.symm,Below.refl _ _⟩
end Go.Proofs.YtkoidahgbbabiaaGreat
