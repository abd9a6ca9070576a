/- Texts of one proof, one behind another. -/
import Derived.Test.YtkoidahgbbabiaaGreatSr9
import Derived.Test.YtkoidahgbbabiaaGreatSr4
import Derived.Test.YtkoidahgbbabiaaGreatSr6
import Derived.Deep.RegionWith
import Derived.Shelf.GgClosure.Gives
import Derived.Test.YtkoidahgbbabiaaGreatSr1
set_option maxRecDepth 100000
set_option maxHeartbeats 100000000
namespace Go.Proofs.YtkoidahgbbabiaaGreat
open Go.RowKit
theorem ad_New (peer own most:Int) (w:World):Calls Tryz.prog 57 #[.int .i64 peer,.int .i64 own,.int .i64 most] w fun e w'=>∃rb,e=.returned (.pointer (some ⟨rb,0,none⟩))∧RibAt w' rb peer own (min (max most 0) 256) [] (fun k=>w.heap.size≤k∧k<w'.heap.size)∧Below w.heap.size w w':=by
 have FIN:Hid (∀m w1,m=min (max most 0) 256→TrI w1 w.heap.size (fun _=>none) [] (min (max m 0) 4096)→Below w.heap.size w w1→RibAt (w1.alloc (.cells #[.int .i64 peer,.int .i64 own,.int .i64 m,.pointer (some ⟨w.heap.size,0,none⟩)] 169)) w1.heap.size peer own (min (max most 0) 256) [] (fun k=>w.heap.size≤k∧k<(w1.alloc (.cells #[.int .i64 peer,.int .i64 own,.int .i64 m,.pointer (some ⟨w.heap.size,0,none⟩)] 169)).heap.size)):=jh (by
  intro m w1 hm ht hb;rw[←hm];have e:min (max m 0) 4096=m:=by omega
  rw[e] at ht;have hlt:=ht.lt;refine⟨w.heap.size,fun _=>none,[],⟨heap_alloc_new w1 _,ht.below ((Below.refl _ _).alloc (Nat.le_refl _) _),by simp,by simp,by simp,?_,?_,by simp,?_,by simp,by omega,by omega,by simp;omega⟩,rfl⟩
  ·have:=hb.size;simp;omega
  ·intro b hb';rcases hb' with rfl|⟨k,hk⟩
   ·simp;omega
   ·cases hk
  ·intro x;rcases x with x|⟨k,hk⟩
   ·omega
   ·cases hk)
 have TN:=jh (fun m=>trI_New m w);go_enter Tryz.func57,Tryz.ntmps57;go_upto_region 2 with (fail)
 all_goals
  go_wp2_with fail;refine(TN.out _).mono ?_;rintro e w1 ⟨rfl,T1,hb⟩;have T:=jh T1;have HB:=jh hb;clear T1 hb;go_wp2_with fail;go_ret;exact⟨_,rfl,FIN.out _ _ (by omega) T.out HB.out,HB.out.alloc HB.out.size _⟩
theorem ad_Len {rb:Nat} {peer own most:Int} {R:List (Pf×At)} {F:Nat→Prop} {w:World} (h:RibAt w rb peer own most R F):Calls Tryz.prog 46 #[.pointer (some ⟨rb,0,none⟩)] w fun e w'=>e=.returned (.int .i64 R.length)∧w=w':=by
 obtain⟨tb,N,E,hI,rfl⟩:=h;have c3:=hI.cells.2.2.2;have LT:=jh (trI_Len hI.tri);simp only[List.length_map] at LT ⊢;clear hI;go_enter Tryz.func46,Tryz.ntmps46;go_wp2_with fail;refine LT.out.mono ?_;rintro e w1 ⟨rfl,rfl⟩;go_wp2_with fail;go_ret;exact⟨rfl,rfl⟩
abbrev rtC (peer:Int) (p:Pf) (v:AV):Array Value:=#[.int .i64 peer,.int .u32 p.1,.int .i64 p.2,.int .i64 v.has,.int .i64 v.origin,.slice v.ps v.pn v.pc,.int .u32 v.hop,.int .i64 v.med,.int .i64 v.loc,.int .i64 v.aggrAs,.int .u32 v.aggrId,.slice v.cs v.cn v.cc,.slice v.os v.on v.oc]
theorem rt_one (peer:Int) (p:Pf) (v:AV):((rtC peer p v).all (·.oneCell'))=true:=by simp[Value.oneCell']
theorem results_GetR (tmps:Array Value) (W:World) (b:Nat) (C:Array Value) (hC:C.size=13) (c:Bool) (h4:tmps.getD 4 undef=.pointer (some ⟨b,0,none⟩)) (h5:tmps.getD 5 undef=.bool c) (hb:W.heap[b]? =some (.cells C 61 (0,0))):
  (results Tryz.f75 tmps).run Tryz.prog W=.ok (.tuple #[.agg C,.bool c]) W:=by
 have hl:=run_loadVar_row (P:=Tryz.prog) W b 61 61 C (0,0) _ hb Tryz.underlying61 rfl (by rw[hC];kernel_rfl);unfold results;rw[Tryz.results75];simp[h4,h5,hl,asAddr,-Array.getD_eq_getD_getElem?]
theorem box_pr (w:World) (a n:Int):∃W0,W0=(w.alloc (.cells #[.int .u32 a,.int .i64 n] 53)).alloc (.cells #[.int .i64 0,.int .u32 0,.int .i64 0,.int .i64 0,.int .i64 0,.slice none 0 0,.int .u32 0,.int .i64 0,.int .i64 0,.int .i64 0,.int .u32 0,.slice none 0 0,.slice none 0 0] 61)∧W0.cell? ⟨w.heap.size,0,none⟩=some (.int .u32 a)∧W0.cell? ⟨w.heap.size,1,none⟩=some (.int .i64 n)∧W0.heap[w.heap.size+1]? =some (.cells (rtC 0 (0,0) av0) 61 (0,0))∧Below w.heap.size w W0:=by
 obtain⟨W0,h1,h2,h3,h4⟩:=boxTwo w #[.int .u32 a,.int .i64 n] 53 (rtC 0 (0,0) av0) 61;exact⟨W0,h1,jB h2 0,jB h2 1,h3,h4⟩
def GetPost (peer:Int) (R:List (Pf×At)) (p:Pf) (w:World) (e:Ending) (w':World):Prop:=
 (getL R p=none∧e=.returned (.tuple #[.agg (rtC 0 (0,0) av0),.bool false])∧Below w.heap.size w w')∨
 ∃(a:At) (v:AV),getL R p=some a∧e=.returned (.tuple #[.agg (rtC peer p v),.bool true])∧AtSz a∧Fresh w.heap.size w' (fun W=>AvU W a v)∧Below w.heap.size w w'
theorem box_zk {W:World} {p:World→Prop} (h:∀w1:World,w1.heap[W.heap.size]? =some (.cells av0.C 42 (0,0))→Below W.heap.size W w1→p w1):p (W.alloc (.cells #[.int .i64 0,.int .i64 0,.slice none 0 0,.int .u32 0,.int .i64 0,.int .i64 0,.int .i64 0,.int .u32 0,.slice none 0 0,.slice none 0 0] 42)):=
 h _ (heap_alloc_new W _) ((Below.refl _ _).alloc (Nat.le_refl _) _)
theorem jT {W:World} {p:World→Prop} {g:Nat} {old cs:Array Value} {t:TypeId} (hg:W.heap[g]? =some (.cells old t (0,0))) (h:∀w1:World,w1.heap[g]? =some (.cells cs t (0,0))→Kept (fun b=>b=g) W w1→p w1):p (W.setRow g cs):=
 h _ (setRow_heap _ _ _ _ _ _ hg) (kept_setRow _ _ rfl)
theorem rib_get {rb tb:Nat} {N:Nat→Option Nat} {E:List Ent} {peer own most:Int} {F:Nat→Prop} (p:Pf) (W:World) (h:RibIn W rb tb N E peer own most F) (hp:OkP p):
  (findE E p=none→Calls Tryz.prog 97 #[.pointer (some ⟨tb,0,none⟩),.agg #[.int .u32 p.1,.int .i64 p.2]] W fun e w'=>e=.returned (.tuple #[av0.V,.bool false])∧Below W.heap.size W w')∧
   ∀x,findE E p=some x→Calls Tryz.prog 97 #[.pointer (some ⟨tb,0,none⟩),.agg #[.int .u32 p.1,.int .i64 p.2]] W fun e w'=>e=.returned (.tuple #[x.v.V,.bool true])∧Below W.heap.size W w':=by
 have ht:=h.tri;by_cases hr:rightB p.1 p.2=true
 ·obtain⟨a,n,rfl,ha,hn,-,hr'⟩:=(show RgtP p from ⟨hp,hr⟩).nat;have key:=find_kvs h.rgt (p:=((a:Int),(n:Int))) ⟨hp,hr⟩;have G:=trI_Get a n W ht ha hr';have e1:pKey ((a:Int),(n:Int))=keyN a n:=rfl;rw[e1] at key;refine⟨fun hn=>?_,fun x hx=>?_⟩
  ·rw[hn] at key;refine G.mono ?_;rintro e w' ⟨rfl,hb⟩;exact⟨(getE_no key).symm,hb⟩
  ·rw[hx] at key;refine G.mono ?_;rintro e w' ⟨rfl,hb⟩;exact⟨(getE_yes key).symm,hb⟩
 ·refine⟨fun _=>trI_Get_no _ p.1 p.2 W hp.1 hp.2 (by simpa using hr),fun x hx=>?_⟩;obtain⟨hm,rfl⟩:=findE_mem hx;exact absurd (h.rgt x hm).2 hr
theorem ad_Get_in {rb tb:Nat} {N:Nat→Option Nat} {E:List Ent} {peer own most:Int} {F:Nat→Prop} (p:Pf) (w:World) (h:RibIn w rb tb N E peer own most F) (hp:OkP p):
  Calls Tryz.prog 75 #[.pointer (some ⟨rb,0,none⟩),.agg #[.int .u32 p.1,.int .i64 p.2]] w (GetPost peer (rts E) p w):=by
 have hfind:=find_rts E p;have TG:=jh (fun W (hb:Below w.heap.size w W)=>rib_get p W (h.below hb) hp);have HI:=jh h;have HL:Hid (rb<w.heap.size):=jh (jE h.row);obtain⟨r0,_,_,r3⟩:=h.cells;have R0:=jh r0;have R3:=jh r3;clear h r0 r3;go_enter Tryz.func75,Tryz.ntmps75;go_upto_region 1 with (fail)
 obtain⟨W0,hW0,c0,c1,rz,hB⟩:=box_pr w p.1 p.2;rw[←hW0];clear hW0;have RZ:=jh rz;have HB:=jh hB;have q3:=jA R3.out hB;clear rz hB;cases hx:findE E p with
 |none=>
  have GP:=jh (fun W (hb:Below W0.heap.size W0 W)=>(TG.out W (jC HB.out hb)).1 hx);have FN:Hid (getL (rts E) p=none):=jh (by rw[hfind,hx];rfl);clear hx hfind TG;go_upto_region 3 with (fail)
  go_cut [6,7] (fun s6 s7 wx=>s7=.bool false∧Hid (Below W0.heap.size W0 wx))
  case first=>
   refine wp_region_held_drew (S:=fun w'=>Below W0.heap.size W0 w') (by kernel_rfl) ?_ (fun hHeld=>?_)
   ·exact(Below.refl _ _).drew
   generalize World.drew W0=wd at hHeld ⊢;refine qz 0 hHeld ?_;refine qz 4 hHeld ?_ (hy:=by intro w' hSw;have c0:=jA c0 hSw;have c1:=jA c1 hSw;have q3:=jA q3 hSw;(try clear hHeld);go_simp;try with_reducible rfl);refine jI (i:=1) (j:=9) (atS at0) (atS (atS (atS (atS (atS (atS (atS (atS (atS at0))))))))) (by kernel_rfl) ?_ ?_ (fun K hK=>?_) (fun K hK=>?_)
   ·rfl
   ·rfl
   ·(try clear hb);go_simp;go_wp2_with fail;refine hK.out _ _ hHeld fun hHeld=>?_;clear hK K;(try simp only[jz]);refine qz 2 hHeld ?_;refine qz 3 hHeld ?_ (hy:=by intro w' hSw;have c0:=jA c0 hSw;have c1:=jA c1 hSw;have q3:=jA q3 hSw;(try clear hHeld);go_simp;try with_reducible rfl);refine jI (i:=5) (j:=9) (atS (atS (atS (atS (atS at0))))) (atS (atS (atS (atS (atS (atS (atS (atS (atS at0))))))))) (by kernel_rfl) ?_ ?_ (fun K hK=>?_) (fun K hK=>?_)
    ·rfl
    ·rfl
    ·(try clear hb);go_simp;(refine(GP.out _ hHeld).mono ?_;rintro e w1 ⟨rfl,hb⟩);(try replace hz:=(hb.block _ (jE hz)).trans hz);go_wp2_with fail;refine hK.out _ _ ?_ (fun hHeld=>?_);(·exact hHeld.trans (hb.mono hHeld.size));clear hK K;(try simp only[jz]);refine qz 6 hHeld ?_;refine qz 7 hHeld ?_;refine qz 8 hHeld ?_;refine jr 9 fun K hK=>?_;(try clear hb);go_simp;refine box_zk (p:=K _) ?_;intro w1 hz hb;have hgs:=hHeld.size;refine hK.out _ _ ?_ (fun hHeld=>?_);(·exact jC hHeld hb);clear hK K;(try simp only[jz]);refine jr 10 fun K hK=>?_;(try clear hb);refine jG 42 (.tmp 6) (.tmp 18) rfl _ rfl 42 av0.C _ rfl hz (by kernel_rfl) rfl (AV.one _) ?_;refine jT hz (p:=K _) ?_;intro w2 hr hk2;refine hK.out _ _ ?_ (fun hHeld=>?_);(·exact hHeld.trans (hk2.below hHeld.size (by rintro k rfl;exact hgs)));clear hK K;(try simp only[Act.put]);refine qz 11 hHeld ?_;refine wpAnyH_done (by kernel_rfl) ?_ _;go_wp2_with fail;go_meet;exact⟨rfl,jh hHeld⟩
    ·(try clear hb);go_simp;refine box_zk (p:=K _) ?_;intro w1 hz hb;have hgs:=hHeld.size;refine hK.out _ _ ?_ (fun hHeld=>?_);(·exact jC hHeld hb);clear hK K;(try simp only[jz]);refine jr 5 fun K hK=>?_;(try clear hb);go_simp;(refine(GP.out _ hHeld).mono ?_;rintro e w1 ⟨rfl,hb⟩);(try replace hz:=(hb.block _ (jE hz)).trans hz);go_wp2_with fail;refine hK.out _ _ ?_ (fun hHeld=>?_);(·exact hHeld.trans (hb.mono hHeld.size));clear hK K;(try simp only[jz]);refine qz 6 hHeld ?_;refine qz 7 hHeld ?_;refine qz 8 hHeld ?_;refine jr 10 fun K hK=>?_;(try clear hb);refine jG 42 (.tmp 6) (.tmp 18) rfl _ rfl 42 av0.C _ rfl hz (by kernel_rfl) rfl (AV.one _) ?_;refine jT hz (p:=K _) ?_;intro w2 hr hk2;refine hK.out _ _ ?_ (fun hHeld=>?_);(·exact hHeld.trans (hk2.below hHeld.size (by rintro k rfl;exact hgs)));clear hK K;(try simp only[Act.put]);refine qz 11 hHeld ?_;refine wpAnyH_done (by kernel_rfl) ?_ _;go_wp2_with fail;go_meet;exact⟨rfl,jh hHeld⟩
   ·(try clear hb);go_simp;refine box_zk (p:=K _) ?_;intro w1 hz hb;have hgs:=hHeld.size;refine hK.out _ _ ?_ (fun hHeld=>?_);(·exact jC hHeld hb);clear hK K;(try simp only[jz]);refine jr 1 fun K hK=>?_;(try clear hb);go_simp;go_wp2_with fail;refine hK.out _ _ hHeld fun hHeld=>?_;clear hK K;(try simp only[jz]);refine qz 2 hHeld ?_;refine qz 3 hHeld ?_ (hy:=by intro w' hSw;have c0:=jA c0 hSw;have c1:=jA c1 hSw;have q3:=jA q3 hSw;(try clear hHeld);go_simp;try with_reducible rfl);refine jr 5 fun K hK=>?_;(try clear hb);go_simp;(refine(GP.out _ hHeld).mono ?_;rintro e w1 ⟨rfl,hb⟩);(try replace hz:=(hb.block _ (jE hz)).trans hz);go_wp2_with fail;refine hK.out _ _ ?_ (fun hHeld=>?_);(·exact hHeld.trans (hb.mono hHeld.size));clear hK K;(try simp only[jz]);refine qz 6 hHeld ?_;refine qz 7 hHeld ?_;refine qz 8 hHeld ?_;refine jr 10 fun K hK=>?_;(try clear hb);refine jG 42 (.tmp 6) (.tmp 18) rfl _ rfl 42 av0.C _ rfl hz (by kernel_rfl) rfl (AV.one _) ?_;refine jT hz (p:=K _) ?_;intro w2 hr hk2;refine hK.out _ _ ?_ (fun hHeld=>?_);(·exact hHeld.trans (hk2.below hHeld.size (by rintro k rfl;exact hgs)));clear hK K;(try simp only[Act.put]);refine qz 11 hHeld ?_;refine wpAnyH_done (by kernel_rfl) ?_ _;go_wp2_with fail;go_meet;exact⟨rfl,jh hHeld⟩
  case rest=>
   obtain⟨rfl,HH⟩:=hcut;have RZ1:=jh ((HH.out.block _ (jE RZ.out)).trans RZ.out);have B1:=jh (jC HB.out HH.out);obtain⟨wd,hwd⟩:∃wd:World,wd=wc:=⟨_,rfl⟩
   rw[←hwd] at RZ1 B1 ⊢;clear hwd c0 c1 q3 HH;go_wp2_with ((with_reducible refine jM (X:=.store 61 (.tmp 4) (.tmp 22)) ?_ ?_);(·rfl));unfold Halt;refine st_row rfl 61 _ _ rfl (w.heap.size+1) rfl 61 (rtC 0 (0,0) av0) (rtC 0 (0,0) av0) rfl RZ1.out (by kernel_rfl) rfl (rt_one _ _ _) ?_;go_wp2_with fail;refine bodyPost_ret (results_GetR _ _ (w.heap.size+1) (rtC 0 (0,0) av0) rfl false ?_ ?_ (setRow_heap _ _ _ _ _ _ RZ1.out)) rfl (.inl ⟨FN.out,rfl,below_setRow B1.out (Nat.le_succ _) _⟩)<;>rfl
 |some x=>
  have GP:=jh (fun W (hb:Below W0.heap.size W0 W)=>(TG.out W (jC HB.out hb)).2 x hx);have FN:Hid (getL (rts E) p=some x.a):=jh (by rw[hfind,hx];rfl);have XM:=jh (findE_mem hx).1;clear hx hfind TG;go_upto_region 3 with (fail)
  go_cut [6,7] (fun s6 s7 wx=>∃g,s6=.pointer (some ⟨g,0,none⟩)∧s7=.bool true∧Hid (Below W0.heap.size W0 wx∧W0.heap.size≤g∧wx.heap[g]? =some (.cells x.v.C 42 (0,0))))
  case first=>
   refine wp_region_held_drew (S:=fun w'=>Below W0.heap.size W0 w') (by kernel_rfl) ?_ (fun hHeld=>?_)
   ·exact(Below.refl _ _).drew
   generalize World.drew W0=wd at hHeld ⊢;refine qz 0 hHeld ?_;refine qz 4 hHeld ?_ (hy:=by intro w' hSw;have c0:=jA c0 hSw;have c1:=jA c1 hSw;have q3:=jA q3 hSw;(try clear hHeld);go_simp;try with_reducible rfl);refine jI (i:=1) (j:=9) (atS at0) (atS (atS (atS (atS (atS (atS (atS (atS (atS at0))))))))) (by kernel_rfl) ?_ ?_ (fun K hK=>?_) (fun K hK=>?_)
   ·rfl
   ·rfl
   ·(try clear hb);go_simp;go_wp2_with fail;refine hK.out _ _ hHeld fun hHeld=>?_;clear hK K;(try simp only[jz]);refine qz 2 hHeld ?_;refine qz 3 hHeld ?_ (hy:=by intro w' hSw;have c0:=jA c0 hSw;have c1:=jA c1 hSw;have q3:=jA q3 hSw;(try clear hHeld);go_simp;try with_reducible rfl);refine jI (i:=5) (j:=9) (atS (atS (atS (atS (atS at0))))) (atS (atS (atS (atS (atS (atS (atS (atS (atS at0))))))))) (by kernel_rfl) ?_ ?_ (fun K hK=>?_) (fun K hK=>?_)
    ·rfl
    ·rfl
    ·(try clear hb);go_simp;(refine(GP.out _ hHeld).mono ?_;rintro e w1 ⟨rfl,hb⟩);(try replace hz:=(hb.block _ (jE hz)).trans hz);go_wp2_with fail;refine hK.out _ _ ?_ (fun hHeld=>?_);(·exact hHeld.trans (hb.mono hHeld.size));clear hK K;(try simp only[jz]);refine qz 6 hHeld ?_;refine qz 7 hHeld ?_;refine qz 8 hHeld ?_;refine jr 9 fun K hK=>?_;(try clear hb);go_simp;refine box_zk (p:=K _) ?_;intro w1 hz hb;have hgs:=hHeld.size;refine hK.out _ _ ?_ (fun hHeld=>?_);(·exact jC hHeld hb);clear hK K;(try simp only[jz]);refine jr 10 fun K hK=>?_;(try clear hb);refine jG 42 (.tmp 6) (.tmp 18) rfl _ rfl 42 av0.C _ rfl hz (by kernel_rfl) rfl (AV.one _) ?_;refine jT hz (p:=K _) ?_;intro w2 hr hk2;refine hK.out _ _ ?_ (fun hHeld=>?_);(·exact hHeld.trans (hk2.below hHeld.size (by rintro k rfl;exact hgs)));clear hK K;(try simp only[Act.put]);refine qz 11 hHeld ?_;refine wpAnyH_done (by kernel_rfl) ?_ _;go_wp2_with fail;go_meet;exact⟨_,rfl,rfl,jh ⟨hHeld,hgs,hr⟩⟩
    ·(try clear hb);go_simp;refine box_zk (p:=K _) ?_;intro w1 hz hb;have hgs:=hHeld.size;refine hK.out _ _ ?_ (fun hHeld=>?_);(·exact jC hHeld hb);clear hK K;(try simp only[jz]);refine jr 5 fun K hK=>?_;(try clear hb);go_simp;(refine(GP.out _ hHeld).mono ?_;rintro e w1 ⟨rfl,hb⟩);(try replace hz:=(hb.block _ (jE hz)).trans hz);go_wp2_with fail;refine hK.out _ _ ?_ (fun hHeld=>?_);(·exact hHeld.trans (hb.mono hHeld.size));clear hK K;(try simp only[jz]);refine qz 6 hHeld ?_;refine qz 7 hHeld ?_;refine qz 8 hHeld ?_;refine jr 10 fun K hK=>?_;(try clear hb);refine jG 42 (.tmp 6) (.tmp 18) rfl _ rfl 42 av0.C _ rfl hz (by kernel_rfl) rfl (AV.one _) ?_;refine jT hz (p:=K _) ?_;intro w2 hr hk2;refine hK.out _ _ ?_ (fun hHeld=>?_);(·exact hHeld.trans (hk2.below hHeld.size (by rintro k rfl;exact hgs)));clear hK K;(try simp only[Act.put]);refine qz 11 hHeld ?_;refine wpAnyH_done (by kernel_rfl) ?_ _;go_wp2_with fail;go_meet;exact⟨_,rfl,rfl,jh ⟨hHeld,hgs,hr⟩⟩
   ·(try clear hb);go_simp;refine box_zk (p:=K _) ?_;intro w1 hz hb;have hgs:=hHeld.size;refine hK.out _ _ ?_ (fun hHeld=>?_);(·exact jC hHeld hb);clear hK K;(try simp only[jz]);refine jr 1 fun K hK=>?_;(try clear hb);go_simp;go_wp2_with fail;refine hK.out _ _ hHeld fun hHeld=>?_;clear hK K;(try simp only[jz]);refine qz 2 hHeld ?_;refine qz 3 hHeld ?_ (hy:=by intro w' hSw;have c0:=jA c0 hSw;have c1:=jA c1 hSw;have q3:=jA q3 hSw;(try clear hHeld);go_simp;try with_reducible rfl);refine jr 5 fun K hK=>?_;(try clear hb);go_simp;(refine(GP.out _ hHeld).mono ?_;rintro e w1 ⟨rfl,hb⟩);(try replace hz:=(hb.block _ (jE hz)).trans hz);go_wp2_with fail;refine hK.out _ _ ?_ (fun hHeld=>?_);(·exact hHeld.trans (hb.mono hHeld.size));clear hK K;(try simp only[jz]);refine qz 6 hHeld ?_;refine qz 7 hHeld ?_;refine qz 8 hHeld ?_;refine jr 10 fun K hK=>?_;(try clear hb);refine jG 42 (.tmp 6) (.tmp 18) rfl _ rfl 42 av0.C _ rfl hz (by kernel_rfl) rfl (AV.one _) ?_;refine jT hz (p:=K _) ?_;intro w2 hr hk2;refine hK.out _ _ ?_ (fun hHeld=>?_);(·exact hHeld.trans (hk2.below hHeld.size (by rintro k rfl;exact hgs)));clear hK K;(try simp only[Act.put]);refine qz 11 hHeld ?_;refine wpAnyH_done (by kernel_rfl) ?_ _;go_wp2_with fail;go_meet;exact⟨_,rfl,rfl,jh ⟨hHeld,hgs,hr⟩⟩
  case rest=>
   obtain⟨g,rfl,rfl,HH⟩:=hcut;have rz0:=(HH.out.1.block _ (jE RZ.out)).trans RZ.out;have B1:=jh (jC HB.out HH.out.1);have RG:=jh HH.out.2.2;have NE0:Hid (¬w.heap.size=w.heap.size+1):=jh (by omega);have NE1:Hid (¬rb=w.heap.size+1):=jh (by have:=HL.out;omega);have NE2:Hid (¬g=w.heap.size+1):=jh (by have:=HH.out.2.1;have:=jE RZ.out;omega);have c0:=jA c0 HH.out.1;have c1:=jA c1 HH.out.1;have SZ:=jh (HI.out.szs x XM.out);have ON:=jh (HI.out.ent x XM.out).2;obtain⟨wd,hwd⟩:∃wd:World,wd=wc:=⟨_,rfl⟩
   rw[←hwd] at rz0 B1 RG c0 c1 ⊢;clear hwd q3 HH RZ;have q0:wd.cell? ⟨rb,0,none⟩=some (.int .i64 peer):=(B1.out.cell (p:=⟨rb,0,none⟩) HL.out).trans R0.out;have CL:Hid (∀W,Kept (fun b=>b=w.heap.size+1) wd W→Calls Tryz.prog 85 #[x.v.V] W fun e w'=>∃u:AV,e=.returned u.V∧Fresh W.heap.size w' (fun W=>AvU W x.a u)∧Below W.heap.size W w'):=jh (fun W hk=>av_CloneU x.a x.v W ((ON.out.below (B1.out.trans (hk.below B1.out.size (by rintro k rfl;omega)))).self) SZ.out);have rz:wd.drew.heap[w.heap.size+1]? =some (.cells (rtC 0 (0,0) av0) 61 (0,0)):=rz0;have WZ:=jh (jE rz0);clear rz0;go_wp2_with fail;refine wp_region_held_drew (S:=fun w1=>Kept (fun b=>b=w.heap.size+1) wd w1) (by kernel_rfl) ?_ (fun hHeld=>?_)
   ·exact(Kept.refl _ _).drew
   generalize World.drew wd=wg at rz hHeld ⊢;refine qz 0 hHeld ?_;refine qz 4 hHeld ?_ (hy:=by intro w' hSw;have c0:=hSw.cell c0 NE0.out;have c1:=hSw.cell c1 NE0.out;have q0:=hSw.cell q0 NE1.out;(try clear hHeld);go_simp;try with_reducible rfl);refine qz 5 hHeld ?_ (hy:=by intro w' hSw;refine exec_ld 42 (.tmp 6) ?_ g ?_ 42 x.v.C (0,0) _ ((hSw.block _ (jE RG.out) NE2.out).trans RG.out) Tryz.underlying42 rfl (by kernel_rfl)<;>rfl);refine jI (i:=1) (j:=6) (atS at0) (atS (atS (atS (atS (atS (atS at0)))))) (by kernel_rfl) ?_ ?_ (fun K hK=>?_) (fun K hK=>?_)
   ·rfl
   ·rfl
   ·(try clear hb);go_simp;go_wp2_with fail;refine hK.out _ _ hHeld fun hHeld=>?_;clear hK K;(try simp only[jz]);refine qz 2 hHeld ?_;refine qz 3 hHeld ?_ (hy:=by intro w' hSw;have c0:=hSw.cell c0 NE0.out;have c1:=hSw.cell c1 NE0.out;have q0:=hSw.cell q0 NE1.out;(try clear hHeld);go_simp;try with_reducible rfl);refine jr 6 fun K hK=>?_;(try clear hb);go_simp;have hcs:=hHeld.size;refine(CL.out _ hHeld).mono ?_;rintro e w1 ⟨u,rfl,fr,hb⟩;have FR:=jh fr;clear fr;replace rz:=(hb.block _ (jE rz)).trans rz;go_wp2_with fail;refine hK.out _ _ ?_ (fun hHeld=>?_);(·exact hHeld.grow hb);clear hK K;(try simp only[jz]);refine qz 7 hHeld ?_;refine jr 8 fun K hK=>?_;(try clear hb);refine jG 61 (.tmp 4) (.tmp 30) rfl (w.heap.size+1) rfl 61 (rtC 0 (0,0) av0) (rtC peer p u) rfl rz (by kernel_rfl) rfl (rt_one _ _ _) ?_;refine jT rz (p:=K _) ?_;intro w2 hr hk2;refine hK.out _ _ ?_ (fun hHeld=>?_);(·exact hHeld.trans hk2);clear hK K;(try simp only[Act.put]);refine qz 9 hHeld ?_;refine wpAnyH_done (by kernel_rfl) ?_ _;go_wp2_with fail;refine bodyPost_ret (results_GetR _ _ (w.heap.size+1) (rtC peer p u) rfl true ?_ ?_ hr) rfl (.inr ⟨x.a,u,FN.out,rfl,SZ.out,(FR.out.kept hk2 (fun k _ hl e=>by have:=WZ.out;omega)).wide (fun k hk _=>by have:=WZ.out;omega),B1.out.trans (hHeld.below B1.out.size (by rintro k rfl;omega))⟩)<;>rfl
   ·(try clear hb);go_simp;have hcs:=hHeld.size;refine(CL.out _ hHeld).mono ?_;rintro e w1 ⟨u,rfl,fr,hb⟩;have FR:=jh fr;clear fr;replace rz:=(hb.block _ (jE rz)).trans rz;go_wp2_with fail;refine hK.out _ _ ?_ (fun hHeld=>?_);(·exact hHeld.grow hb);clear hK K;(try simp only[jz]);refine jr 1 fun K hK=>?_;(try clear hb);go_simp;go_wp2_with fail;refine hK.out _ _ hHeld fun hHeld=>?_;clear hK K;(try simp only[jz]);refine qz 2 hHeld ?_;refine qz 3 hHeld ?_ (hy:=by intro w' hSw;have c0:=hSw.cell c0 NE0.out;have c1:=hSw.cell c1 NE0.out;have q0:=hSw.cell q0 NE1.out;(try clear hHeld);go_simp;try with_reducible rfl);refine qz 7 hHeld ?_;refine jr 8 fun K hK=>?_;(try clear hb);refine jG 61 (.tmp 4) (.tmp 30) rfl (w.heap.size+1) rfl 61 (rtC 0 (0,0) av0) (rtC peer p u) rfl rz (by kernel_rfl) rfl (rt_one _ _ _) ?_;refine jT rz (p:=K _) ?_;intro w2 hr hk2;refine hK.out _ _ ?_ (fun hHeld=>?_);(·exact hHeld.trans hk2);clear hK K;(try simp only[Act.put]);refine qz 9 hHeld ?_;refine wpAnyH_done (by kernel_rfl) ?_ _;go_wp2_with fail;refine bodyPost_ret (results_GetR _ _ (w.heap.size+1) (rtC peer p u) rfl true ?_ ?_ hr) rfl (.inr ⟨x.a,u,FN.out,rfl,SZ.out,(FR.out.kept hk2 (fun k _ hl e=>by have:=WZ.out;omega)).wide (fun k hk _=>by have:=WZ.out;omega),B1.out.trans (hHeld.below B1.out.size (by rintro k rfl;omega))⟩)<;>rfl
theorem ad_Get {rb:Nat} {peer own most:Int} {R:List (Pf×At)} {F:Nat→Prop} (p:Pf) (w:World) (h:RibAt w rb peer own most R F) (hp:OkP p):
  Calls Tryz.prog 75 #[.pointer (some ⟨rb,0,none⟩),.agg #[.int .u32 p.1,.int .i64 p.2]] w (GetPost peer R p w):=by
 obtain⟨tb,N,E,hI,rfl⟩:=h;exact ad_Get_in p w hI hp
open Go.RowKit
inductive Role where
 |no
 |top
 |mem (i:Nat)
 |best (i:Nat)
 |news (i:Nat)
 |rib (i:Nat)
 |att
 |fil
deriving DecidableEq
structure BV where
 peer:Int
 net:Pf
 a:At
 v:AV
abbrev bvV (b:BV):Value:=.agg (rtC b.peer b.net b.v)
abbrev BestT (W:World) (b:Nat) (l:List (Pf×BV)):Prop:=MapT pfV bvV KOk W b l
abbrev NewsT (W:World) (b:Nat) (l:List (Pf×Unit)):Prop:=MapT pfV unV KOk W b l
structure Pl where
 mb:Nat
 rb:Nat
 bb:Nat
 nb:Nat
abbrev mbC (m:Pm) (l:Pl):Array Value:=#[.int .i64 m.as_,.int .u32 m.id,.bool m.there,.pointer (some ⟨l.rb,0,none⟩),.map (some l.bb),.map (some l.nb)]
structure GoodA (a:At):Prop where
 hops:hopsN a.path≤4611686018427387904
 rng:a.Rng
 sz:AtSz a
structure BestAt (W:World) (rho:Nat→Role) (bb:Nat) (best:Pf→Option (Int×At)) (L:List (Pf×BV)):Prop where
 map:BestT W bb L
 get:∀p,(getL L p).map (fun b=>(b.peer,b.a))=best p
 val:∀x∈L,x.2.net=x.1∧RgtP x.1∧GoodA x.2.a∧On (fun k=>rho k=.att) W (fun w=>AvU w x.2.a x.2.v)
structure NewsAt (W:World) (nb:Nat) (news:Pf→Bool) (L:List (Pf×Unit)):Prop where
 map:NewsT W nb L
 get:∀p,(getL L p).isSome=news p
 rgt:∀x∈L,RgtP x.1
theorem nodup_lt:∀(N:Nat) (l:List Nat),l.Nodup→(∀x∈l,x<N)→l.length≤N
 |0,l,_,h=>by
  cases l with
  |nil=>simp
  |cons x l=>exact absurd (h x (by simp)) (by omega)
 |N+1,l,hn,h=>by
  have h1:=nodup_lt N (l.erase N) (hn.erase N) (fun x hx=>by
   have h2:=(List.Nodup.mem_erase_iff hn).1 hx;have:=h x h2.2;omega)
  have h2:=List.length_erase (l:=l) (a:=N);split at h2<;>omega
theorem rgt_short {υ:Type} {l:List (Pf×υ)} (h:KeysApart l) (hr:∀x∈l,RgtP x.1):l.length<maxLen:=by
 have h1:(l.map fun x=>pKey x.1).Nodup:=by
  rw[List.nodup_iff_pairwise_ne,List.pairwise_map];exact h.imp_of_mem fun {x y} hx hy hne e=>hne (pKey_inj (hr x hx) (hr y hy) e)
 have h2:=nodup_lt (2^33) _ h1 (by
  intro k hk;obtain⟨x,hx,rfl⟩:=List.mem_map.1 hk;obtain⟨a,n,e,ha,hn,-⟩:=(hr x hx).nat;rw[e];exact keyN_deep a n ha hn)
 rw[List.length_map] at h2;unfold maxLen;omega
structure PmAt (W:World) (rho:Nat→Role) (own most:Int) (i:Nat) (m:Pm) (best:Pf→Option (Int×At)) (l:Pl):Prop where
 row:W.heap[l.mb]? =some (.cells (mbC m l) 130 (0,0))
 rmb:rho l.mb=.mem i
 rib:RibAt W l.rb i own most m.R (fun k=>rho k=.rib i)
 rbb:rho l.bb=.best i
 rnb:rho l.nb=.news i
 bests:∃L,BestAt W rho l.bb best L
 news:∃L,NewsAt W l.nb m.news L
 good:∀p a,getL m.R p=some a→GoodA a
 ids:0<m.id∧m.id<4294967296
 ass:1≤m.as_∧m.as_≤65535
def ofMem (i:Nat) (r:Role):Prop:=r=.mem i∨r=.best i∨r=.news i∨r=.rib i∨r=.att
section
variable {W W':World} {rho rho':Nat→Role} {own most:Int} {i:Nat} {m:Pm} {best:Pf→Option (Int×At)} {l:Pl} {G:Nat→Prop} {bb nb:Nat}
theorem BestAt.kept {L:List (Pf×BV)} (h:BestAt W rho bb best L) (hr:∀k,rho k≠.no→rho' k=rho k) (hk:Kept G W W') (hb:¬G bb) (hG:∀k,k<W.heap.size→rho k=.att→¬G k):BestAt W' rho' bb best L:=
 ⟨h.map.kept hk hb,h.get,fun x hx=>⟨(h.val x hx).1,(h.val x hx).2.1,(h.val x hx).2.2.1,
  ((h.val x hx).2.2.2.kept hk fun k hl hF=>hG k hl hF).wide fun k hF _=>(hr k (by rw[hF];intro e;cases e)).trans hF⟩⟩
theorem NewsAt.kept {news:Pf→Bool} {L:List (Pf×Unit)} (h:NewsAt W nb news L) (hk:Kept G W W') (hb:¬G nb):NewsAt W' nb news L:=⟨h.map.kept hk hb,h.get,h.rgt⟩
theorem PmAt.kept (h:PmAt W rho own most i m best l) (hr:∀k,rho k≠.no→rho' k=rho k) (hk:Kept G W W') (hG:∀k,k<W.heap.size→ofMem i (rho k)→¬G k):PmAt W' rho' own most i m best l:=by
 have e1:=hr l.mb (by rw[h.rmb];intro e;cases e);have e2:=hr l.bb (by rw[h.rbb];intro e;cases e);have e3:=hr l.nb (by rw[h.rnb];intro e;cases e);refine⟨(hk.block _ (jE h.row) (hG _ (jE h.row) (.inl h.rmb))).trans h.row,e1.trans h.rmb,?_,e2.trans h.rbb,e3.trans h.rnb,?_,?_,h.good,h.ids,h.ass⟩
 ·exact(h.rib.kept hk fun k hl hF=>hG k hl (.inr (.inr (.inr (.inl hF))))).wide fun k hF=>(hr k (by rw[hF];intro e;cases e)).trans hF
 ·obtain⟨L,h1⟩:=h.bests;exact⟨L,h1.kept hr hk (hG _ h1.map.lt (.inr (.inl h.rbb))) fun k hl hF=>hG k hl (.inr (.inr (.inr (.inr hF))))⟩
 ·obtain⟨L,h1⟩:=h.news;exact⟨L,h1.kept hk (hG _ h1.map.lt (.inr (.inr (.inl h.rnb))))⟩
end
def TopAt (sb fb:Nat) (ls:List Pl) (W:World):Prop:=
 ∃s cap,W.heap[sb]? =some (.cells #[.slice s ls.length cap,.pointer (some ⟨fb,0,none⟩)] 125 (0,0))∧SlAt W 1 (fun (l:Pl) cs=>cs=[.pointer (some ⟨l.mb,0,none⟩)]) (.slice s ls.length cap) ls
structure SrvB (W:World) (rho:Nat→Role) (fb:Nat) (ls:List Pl) (S:Sv):Prop where
 fil:FilAt W fb S.own S.bl
 rfb:rho fb=.fil
 len:ls.length=S.ms.length
 few:S.ms.length≤16
 mem:∀(i:Nat) m l,S.ms[i]? =some m→ls[i]? =some l→PmAt W rho S.own S.most i m (S.best i) l
 dom:∀k,rho k≠.no→k<W.heap.size
 own1:1≤S.own∧S.own≤65535
structure SrvM (W:World) (rho:Nat→Role) (sb fb:Nat) (ls:List Pl) (S:Sv):Prop where
 top:On (fun k=>rho k=.top) W (TopAt sb fb ls)
 bod:SrvB W rho fb ls S
 rsb:rho sb=.top
section
variable {W W':World} {rho rho':Nat→Role} {sb fb:Nat} {ls:List Pl} {S:Sv} {G:Nat→Prop}
theorem FilAt.lt {own:Int} {bl:Nat→Bool} (h:FilAt W fb own bl):fb<W.heap.size:=jH h.own
theorem SrvB.kept (h:SrvB W rho fb ls S) (hr:∀k,rho k≠.no→rho' k=rho k) (hd:∀k,rho' k≠.no→k<W'.heap.size) (hk:Kept G W W') (hG:∀k,rho k≠.no→¬G k):SrvB W' rho' fb ls S:=
 ⟨h.fil.kept hk (hG _ (by rw[h.rfb];intro e;cases e)),(hr _ (by rw[h.rfb];intro e;cases e)).trans h.rfb,h.len,h.few,
  fun i m l hm hl=>(h.mem i m l hm hl).kept hr hk fun k _ ho=>hG k (by rcases ho with e|e|e|e|e<;>rw[e]<;>intro e<;>cases e),hd,h.own1⟩
theorem SrvM.kept (h:SrvM W rho sb fb ls S) (hr:∀k,rho k≠.no→rho' k=rho k) (hd:∀k,rho' k≠.no→k<W'.heap.size) (hk:Kept G W W') (hG:∀k,rho k≠.no→¬G k):SrvM W' rho' sb fb ls S:=
 ⟨(h.top.kept hk fun k _ hF=>hG k (by rw[hF];intro e;cases e)).wide fun k hF _=>(hr k (by rw[hF];intro e;cases e)).trans hF,h.bod.kept hr hd hk hG,(hr _ (by rw[h.rsb];intro e;cases e)).trans h.rsb⟩
theorem SrvM.dom (h:SrvM W rho sb fb ls S):∀k,rho k≠.no→k<W.heap.size:=h.bod.dom
theorem SrvM.out (h:SrvM W rho sb fb ls S) (hk:Kept (fun k=>rho k=.no) W W'):SrvM W' rho sb fb ls S:=
 h.kept (fun _ _=>rfl) (fun k hr=>Nat.lt_of_lt_of_le (h.dom k hr) hk.size) hk fun _ hr hn=>hr hn
theorem SrvM.below (h:SrvM W rho sb fb ls S) (hb:Below W.heap.size W W'):SrvM W' rho sb fb ls S:=h.out (Kept.of_below hb)
theorem SrvM.get (h:SrvM W rho sb fb ls S) {i:Nat} {m:Pm} (hm:S.ms[i]? =some m):∃l,ls[i]? =some l∧PmAt W rho S.own S.most i m (S.best i) l:=by
 have hi:i<ls.length:=by rw[h.bod.len];exact(List.getElem?_eq_some_iff.1 hm).1
 exact⟨ls[i],List.getElem?_eq_getElem hi,h.bod.mem i m _ hm (List.getElem?_eq_getElem hi)⟩
noncomputable def extP (rho:Nat→Role) (W:World) (F:Nat→Prop) (r:Role) (k:Nat):Role:=by
 classical exact if k<W.heap.size then rho k else if F k then r else .no
variable {F:Nat→Prop}
theorem extP_low {r:Role} {k:Nat} (hk:k<W.heap.size):extP rho W F r k=rho k:=by unfold extP;rw[if_pos hk]
theorem extP_new {r:Role} {k:Nat} (h1:W.heap.size≤k) (h2:F k):extP rho W F r k=r:=by unfold extP;rw[if_neg (by omega),if_pos h2]
theorem extP_no {r:Role} {k:Nat} (h1:W.heap.size≤k) (h2:¬F k):extP rho W F r k=.no:=by unfold extP;rw[if_neg (by omega),if_neg h2]
theorem extP_old {r:Role} (hd:∀k,rho k≠.no→k<W.heap.size):∀k,rho k≠.no→extP rho W F r k=rho k:=fun k hk=>extP_low (hd k hk)
theorem extP_dom {r:Role} (hs:W.heap.size≤W'.heap.size) (hF:∀k,W.heap.size≤k→F k→k<W'.heap.size):∀k,extP rho W F r k≠.no→k<W'.heap.size:=fun k hk=>by
 by_cases h1:k<W.heap.size
 ·omega
 ·by_cases h2:F k
  ·exact hF k (by omega) h2
  ·exact absurd (extP_no (by omega) h2) hk
structure Step (rho rho':Nat→Role) (W W':World):Prop where
 same:∀k,k<W.heap.size→rho' k=rho k
 kept:Kept (fun k=>rho k≠.no) W W'
theorem Step.refl:Step rho rho W W:=⟨fun _ _=>rfl,Kept.refl _ _⟩
theorem Step.trans {rho'':Nat→Role} {W'':World} (h:Step rho rho' W W') (k:Step rho' rho'' W' W''):Step rho rho'' W W'':=
 ⟨fun i hi=>(k.same i (Nat.lt_of_lt_of_le hi h.kept.size)).trans (h.same i hi),
  ⟨k.kept.os.trans h.kept.os,k.kept.tape.trans h.kept.tape,k.kept.output.trans h.kept.output,Nat.le_trans h.kept.size k.kept.size,fun i hi hf=>
  (k.kept.block i (Nat.lt_of_lt_of_le hi h.kept.size) (by rw[h.same i hi];exact hf)).trans (h.kept.block i hi hf)⟩⟩
theorem Step.below (hb:Below W.heap.size W W'):Step rho rho W W':=⟨fun _ _=>rfl,Kept.of_below hb⟩
theorem Step.grow {W'':World} (h:Step rho rho' W W') (hb:Below W'.heap.size W' W''):Step rho rho' W W'':=h.trans (Step.below hb)
theorem Step.free {Q:World→Prop} (h:Step rho rho' W W') (hQ:On (fun k=>rho k=.no) W Q):On (fun k=>rho' k=.no) W' Q:=
 fun W'' hW=>hQ W'' fun k hk hl=>(hW k ((h.same k hl).trans hk) (Nat.lt_of_lt_of_le hl h.kept.size)).trans (h.kept.block k hl (fun hn=>hn hk))
theorem Step.block (h:Step rho rho' W W') {k:Nat} (hk:k<W.heap.size) (hn:rho k=.no):W'.heap[k]? =W.heap[k]?:=h.kept.block k hk (fun h=>h hn)
theorem Step.cell (h:Step rho rho' W W') {a:Addr} {v:Value} (hc:W.cell? a=some v) (hn:rho a.block=.no):W'.cell? a=some v:=h.kept.cell hc (fun h=>h hn)
theorem SrvM.one (h:SrvM W rho sb fb ls S) {i:Nat} {m':Pm} {l:Pl} (hl:ls[i]? =some l) (hr:∀k,rho k≠.no→rho' k=rho k) (hd:∀k,rho' k≠.no→k<W'.heap.size)
  (hk:Kept G W W') (hG:∀k,k<W.heap.size→G k→rho k=.mem i∨rho k=.best i∨rho k=.news i∨rho k=.rib i∨rho k=.no) {S':Sv} (e1:S'.own=S.own) (e2:S'.most=S.most) (e3:S'.bl=S.bl) (e4:S'.ms.length=S.ms.length)
  (e5:S'.ms[i]? =some m') (e6:∀j,j≠i→S'.ms[j]? =S.ms[j]?) (e7:∀j,j≠i→S'.best j=S.best j) (hp:PmAt W' rho' S.own S.most i m' (S'.best i) l):SrvM W' rho' sb fb ls S':=by
 have no:∀k,k<W.heap.size→(rho k=.top∨rho k=.fil∨rho k=.att∨∃j,j≠i∧(rho k=.mem j∨rho k=.best j∨rho k=.news j∨rho k=.rib j))→¬G k:=fun k hl h hg=>by
  have:=hG k hl hg;rcases h with e|e|e|⟨j,hj,e|e|e|e⟩<;>rw[e] at this<;>simp at this<;>omega
 refine⟨(h.top.kept hk fun k hl hF=>no k hl (.inl hF)).wide fun k hF _=>(hr k (by rw[hF];intro e;cases e)).trans hF,⟨?_,(hr _ (by rw[h.bod.rfb];intro e;cases e)).trans h.bod.rfb,by rw[e4];exact h.bod.len,by rw[e4];exact h.bod.few,?_,hd,by rw[e1];exact h.bod.own1⟩,(hr _ (by rw[h.rsb];intro e;cases e)).trans h.rsb⟩
 ·rw[e1,e3];exact h.bod.fil.kept hk (no _ h.bod.fil.lt (.inr (.inl h.bod.rfb)))
 ·intro j m l' hm hl';rw[e1,e2];by_cases e:j=i
  ·subst e;rw[e5] at hm;injection hm with hm;subst hm;rw[hl] at hl';injection hl' with hl';subst hl';exact hp
  ·rw[e7 j e];rw[e6 j e] at hm;refine(h.bod.mem j m l' hm hl').kept hr hk fun k hl ho=>no k hl ?_;rcases ho with q|q|q|q|q
   ·exact .inr (.inr (.inr ⟨j,e,.inl q⟩))
   ·exact .inr (.inr (.inr ⟨j,e,.inr (.inl q)⟩))
   ·exact .inr (.inr (.inr ⟨j,e,.inr (.inr (.inl q))⟩))
   ·exact .inr (.inr (.inr ⟨j,e,.inr (.inr (.inr q))⟩))
   ·exact .inr (.inr (.inl q))
end
open Go.RowKit
theorem sz_rt:(Tryz.prog.info? 61).map (·.size)=some 13:=by kernel_rfl
theorem sz_avS:(Tryz.prog.info? 42).map (·.size)=some 10:=by kernel_rfl
theorem rt_range {W:World} {b:Nat} {peer:Int} {p:Pf} {v:AV} (h:W.heap[b]? =some (.cells (rtC peer p v) 61 (0,0))):W.rangeAt b 3 v.C.toList:=by
 intro j u hv;have:=jB h (j+3);rw[show 3+j=j+3 by omega,this,←Array.getElem?_toList];exact hv
theorem boxClo (w:World) (peer:Int) (p:Pf) (v:AV):∃W0,W0=(w.alloc (.cells (rtC peer p v) 61)).alloc (.cells #[.int .i64 0,.int .u32 0,.int .i64 0,.int .i64 0,.int .i64 0,.slice none 0 0,.int .u32 0,.int .i64 0,.int .i64 0,.int .i64 0,.int .u32 0,.slice none 0 0,.slice none 0 0] 61)∧W0.heap[w.heap.size]? =some (.cells (rtC peer p v) 61 (0,0))∧W0.heap[w.heap.size+1]? =some (.cells (rtC 0 (0,0) av0) 61 (0,0))∧Below w.heap.size w W0:=
 boxTwo w (rtC peer p v) 61 (rtC 0 (0,0) av0) 61
theorem kept_setAV (W:World) (b:Nat) (v:AV):Kept (fun k=>k=b) W (setAV W b v):=(Kept.refl _ W).putAV v (.inl rfl)
theorem sv_clone (peer:Int) (p:Pf) (a:At) (v:AV) (w:World) (hA:AvAt w a v) (hz:AtSz a):
  Calls Tryz.prog 67 #[.agg (rtC peer p v)] w fun e w'=>∃u:AV,e=.returned (.agg (rtC peer p u))∧Fresh w.heap.size w' (fun W=>AvU W a u)∧Below w.heap.size w w':=by
 have CL:=jh (fun W (hb:Below w.heap.size w W)=>av_CloneU a v W (hA.below hb) hz);clear hA hz;go_enter Tryz.func67,Tryz.ntmps67;go_upto_region 1 with (fail)
 obtain⟨W0,hW0,q0,q1,hB⟩:=boxClo w peer p v;rw[←hW0];have RG:=jh (rt_range q0);have Q0:=jh q0;have Q1:=jh q1;have B0:=jh hB;clear hW0 q0 q1 hB;go_wp2_with ((with_reducible refine jM (X:=.load 42 (.tmp 3)) ?_ ?_);(·rfl));unfold Halt;refine ldm_at (by rfl) 42 (.tmp 3) rfl w.heap.size 3 rfl v.C.toList _ RG.out Tryz.underlying42 rfl sz_avS ?_;go_wp2_with fail;refine(CL.out W0 B0.out).mono ?_;rintro e w1 ⟨u,rfl,fr,hb⟩;have FR:=jh fr;have q0:=(hb.block _ (jE Q0.out)).trans Q0.out;have q1:=(hb.block _ (jE Q1.out)).trans Q1.out;have B1:=jh (jC B0.out hb);have L1:Hid (w.heap.size+1<W0.heap.size):=jh (jE Q1.out);have NT:Hid (w1.there w.heap.size 3 10):=jh (node_there q0);have Q2:=jh (setAV_row q0 u);have Q3:=jh ((setAV_other (show w.heap.size+1≠w.heap.size by omega) u).trans q1);have K2:=jh (kept_setAV w1 w.heap.size u);clear fr q0 q1 hb Q0 Q1 B0 CL RG;go_wp2_with ((with_reducible refine jM (X:=.store 42 (.tmp 6) (.tmp 5)) ?_ ?_);(·rfl));unfold Halt;refine wpList_store_mid rfl 42 (.tmp 6) (.tmp 5) rfl w.heap.size 3 u.C rfl rfl NT.out (by kernel_rfl) u.one ?_;rw[setAV_eq];generalize setAV w1 w.heap.size u=w2 at Q2 Q3 K2 ⊢;go_wp2_with ((with_reducible refine jM (X:=.load 61 (.tmp 1)) ?_ ?_);(·rfl));unfold Halt;refine ld_at (by rfl) 61 (.tmp 1) rfl w.heap.size rfl 61 (rtC peer p u) (0,0) _ Q2.out Tryz.underlying61 rfl sz_rt ?_;go_wp2_with ((with_reducible refine jM (X:=.store 61 (.tmp 2) (.tmp 7)) ?_ ?_);(·rfl));unfold Halt;refine st_row rfl 61 _ _ rfl (w.heap.size+1) rfl 61 (rtC 0 (0,0) av0) (rtC peer p u) rfl Q3.out (by kernel_rfl) rfl (rt_one _ _ _) ?_;have Q4:=jh (setRow_heap _ _ _ (rtC peer p u) _ _ Q3.out);have K3:=jh (K2.out.imp (fun k hk=>(.inl hk:k=w.heap.size∨k=w.heap.size+1)));have K4:=jh (K3.out.trans (kept_setRow (w.heap.size+1) (rtC peer p u) (.inr rfl)));generalize w2.setRow (w.heap.size+1) (rtC peer p u)=w3 at Q4 K4 ⊢;go_wp2_with fail;refine bodyPost_ret (v:=.agg (rtC peer p u)) (results_cell_row Tryz.results67 _ w3 (w.heap.size+1) 61 (rtC peer p u) (0,0) _ rfl Q4.out Tryz.underlying61 rfl sz_rt) rfl ⟨u,rfl,?_,?_⟩
 ·exact(FR.out.kept K4.out (fun k _ hl e=>by have:=L1.out;rcases e with e|e<;>omega)).wide (fun k hk _=>by have:=L1.out;omega)
 ·exact B1.out.trans (K4.out.below B1.out.size (by rintro k (rfl|rfl)<;>omega))
theorem SrvM.cells {W:World} {rho:Nat→Role} {sb fb:Nat} {ls:List Pl} {S:Sv} (h:SrvM W rho sb fb ls S):∃(s:Option Addr) (cap:Nat),W.cell? ⟨sb,0,none⟩=some (.slice s S.ms.length cap)∧W.cell? ⟨sb,1,none⟩=some (.pointer (some ⟨fb,0,none⟩))∧
  ∀(i:Nat) (l:Pl),ls[i]? =some l→∃g o,s=some ⟨g,o,none⟩∧W.cell? ⟨g,o+i,none⟩=some (.pointer (some ⟨l.mb,0,none⟩)):=by
 obtain⟨s,cap,h1,h2⟩:=h.top.self;refine⟨s,cap,by rw[←h.bod.len];exact jB h1 0,jB h1 1,fun i l hl=>?_⟩;obtain⟨s',c',e,_,_,h3⟩:=h2;injection e with e _ _;subst e;obtain⟨g,o,rfl,h4⟩:=h3 (by have:=(List.getElem?_eq_some_iff.1 hl).1;omega);obtain⟨cs,-,rfl,hc⟩:=h4 i l hl;have:=hc 0 _ rfl;rw[Nat.mul_one] at this;exact⟨g,o,rfl,this⟩
section
variable {W:World} {rho:Nat→Role} {sb fb:Nat} {ls:List Pl} {S:Sv}
theorem sv_member (h:SrvM W rho sb fb ls S) {i:Nat} {l:Pl} (hl:ls[i]? =some l):Calls Tryz.prog 58 #[.pointer (some ⟨sb,0,none⟩),.int .i64 i] W fun e w'=>e=.returned (.pointer (some ⟨l.mb,0,none⟩))∧W=w':=by
 obtain⟨s,cap,c0,-,hc⟩:=h.cells;have hi:i<S.ms.length:=by rw[←h.bod.len];exact(List.getElem?_eq_some_iff.1 hl).1
 obtain⟨g,o,rfl,c1⟩:=hc i l hl;have few:=h.bod.few;have d1:decide ((i:Int)<0)=false:=by simp
 have d2:decide ((i:Int)≥(S.ms.length:Int))=false:=by simp;omega
 have i0:(0:Int)≤(i:Int):=by omega
 have i1:(i:Int)<(S.ms.length:Int):=by omega
 clear hc h hl;go_enter Tryz.func58,Tryz.ntmps58;go_wp2_with fail;go_ret;exact⟨rfl,rfl⟩
theorem sv_member_no (h:SrvM W rho sb fb ls S) {n:Int} (hn:¬(0≤n∧n<(S.ms.length:Int))):Calls Tryz.prog 58 #[.pointer (some ⟨sb,0,none⟩),.int .i64 n] W fun e w'=>e=.returned (.pointer none)∧W=w':=by
 obtain⟨s,cap,c0,-,-⟩:=h.cells;have few:=h.bod.few;clear h;by_cases h0:n<0
 ·have d1:decide (n<0)=true:=by simpa using h0
  clear hn;go_enter Tryz.func58,Tryz.ntmps58;go_wp2_with fail;go_ret;exact⟨rfl,rfl⟩
 ·have d1:decide (n<0)=false:=by simpa using h0
  have d2:decide (n≥(S.ms.length:Int))=true:=by simp;omega
  clear hn h0;go_enter Tryz.func58,Tryz.ntmps58;go_wp2_with fail;go_ret;exact⟨rfl,rfl⟩
end
open Go.RowKit
theorem own_lt {w:World} {B k n:Nat} {e:TypeId} {v:Value} {xs:List Value} (h:w.ownsRow B e k v n xs):∀g,v.ownBlock=some g→g<w.heap.size:=by
 obtain⟨_,⟨rfl,_⟩|⟨g,cap,cur,rfl,_,hg,_⟩⟩:=h
 ·intro g hg;cases hg
 ·intro g' hg';cases hg';exact jE hg
theorem OwnPs.kept {w w':World} {B:Nat} {v:Value} {xs:List Pf} {F:Nat→Prop} (h:OwnPs w B v xs) (hk:Kept F w w') (hF:∀g,v.ownBlock=some g→¬F g):OwnPs w' B v xs:=
 ⟨((own_on h.1).kept hk fun k _ hl=>hF k hl).self,h.2⟩
theorem psAt_new (W:World) (x:Pf) (T:TypeId) (hx:OkP x):PsAt (W.alloc (.cells #[.int .u32 x.1,.int .i64 x.2] T)) (.slice (some ⟨W.heap.size,0,none⟩) 1 1) [x]:=by
 refine⟨_,1,rfl,Nat.le_refl _,by simp[maxLen],fun _=>⟨W.heap.size,0,rfl,fun i y hy=>?_⟩⟩
 match i,hy with
 |0,hy=>
  simp at hy;subst hy;refine⟨encP x,rfl,⟨rfl,hx⟩,fun j c hc=>?_⟩;rw[jB (heap_alloc_new W _)];simpa [encP] using hc
theorem Kept.belowOn {F:Nat→Prop} {w w1 w2:World} (h:Kept F w w1) (hb:Below w.heap.size w1 w2):Kept F w w2:=
 ⟨hb.os.trans h.os,hb.tape.trans h.tape,hb.output.trans h.output,Nat.le_trans h.size hb.size,fun k hk hf=>(hb.block k hk).trans (h.block k hk hf)⟩
theorem turn_none {R:Rts} {E:List Ent} {ns:List Pf} {a:At} {x:Pf} (hg:getL R x=getL (rts E) x) (hf:findE E x=none):turnB R ns a x=decide (x∈ns):=by
 unfold turnB;rw[hg,find_rts,hf];rfl
theorem turn_some {R:Rts} {E:List Ent} {ns:List Pf} {a:At} {x:Pf} {e:Ent} (hg:getL R x=getL (rts E) x) (hf:findE E x=some e):turnB R ns a x=(!(decide (x∈ns))||!(sameA e.a a)):=by
 unfold turnB;rw[hg,find_rts,hf];rfl
section
variable {rb tb:Nat} {N:Nat→Option Nat} {E:List Ent} {peer own most:Int} {F:Nat→Prop}
theorem rib_drop (p:Pf) (W:World) (h:RibIn W rb tb N E peer own most F) (hp:RgtP p):
  Calls Tryz.prog 99 #[.pointer (some ⟨tb,0,none⟩),.agg #[.int .u32 p.1,.int .i64 p.2]] W fun e w'=>∃N' c,e=.returned (.bool c)∧RibIn w' rb tb N' (delE E p) peer own most F∧Kept (TOwn tb N) W w':=by
 have hp0:=hp;obtain⟨a,n,rfl,ha,hn,-,hr'⟩:=hp.nat;have hl:(kvs E).length≤4096:=by rw[List.length_map];have:=h.room;have:=h.most1;omega
 refine(trI_Drop a n W h.tri hl ha hr').mono ?_;rintro e w' ⟨N',rfl,ht,hs,hk⟩;exact⟨N',_,rfl,h.drop hp0 ht hs hk,hk⟩
theorem rib_put (p:Pf) (a:At) (v:AV) (lo:Nat) (W:World) (h:RibIn W rb tb N E peer own most F) (hp:RgtP p) (hz:AtSz a) (hon:Fresh lo W (fun W=>AvAt W a v)) (hlo:∀b,TOwn tb N b∨b=rb→b<lo) (hr:((delE E p).length:Int)+1≤most):
  Calls Tryz.prog 100 #[.pointer (some ⟨tb,0,none⟩),.agg #[.int .u32 p.1,.int .i64 p.2],v.V] W fun e w'=>∃N' c,e=.returned (.int .i64 c)∧RibIn w' rb tb N' (delE E p++[⟨p,a,v,lo,W.heap.size⟩]) peer own most (fun b=>(F b∨(lo≤b∧b<W.heap.size))∨(W.heap.size≤b∧b<w'.heap.size))∧Kept (TOwn tb N) W w':=by
 have hp0:=hp;obtain⟨x,n,rfl,ha,hn,-,hr'⟩:=hp.nat;have key:=find_kvs h.rgt hp0;have m1:=h.most1;have R:putR (kvs E) most (keyN x n) v=(0,delL (kvs E) (keyN x n)++[(keyN x n,v)]):=by
  cases hg:getL (kvs E) (keyN x n) with
  |none=>
   refine putR_new hg ?_;have e:delE E ((x:Int),(n:Int))=E:=by
    unfold delE;rw[List.filter_eq_self];intro e he;simp only[Bool.not_eq_true',decide_eq_false_iff_not];intro hx;have:findE E ((x:Int),(n:Int))=none:=by
     have k2:getL (kvs E) (pKey ((x:Int),(n:Int)))=none:=hg;rw[key] at k2;simpa using k2
    unfold findE at this;rw[List.find?_eq_none] at this;exact this e he (by simpa using hx)
   rw[e] at hr;rw[List.length_map];omega
  |some u=>exact putR_old (by rw[hg];rfl)
 refine(trI_Put x n v W h.tri (by omega) ha hr').mono ?_;rintro e w' ⟨N',rfl,ht,hs,hk⟩;rw[R] at ht;refine⟨N',_,rfl,?_,hk⟩;have hw:RibIn W rb tb N E peer own most (fun b=>F b∨(lo≤b∧b<W.heap.size)):=h.wide fun k hk=>.inl hk;exact hw.put hp0 hz (hon.wide fun k hk hl=>⟨hk,hl⟩) (Nat.le_refl _) (fun b hb hx=>by have:=hlo b hb;omega) (fun k h1 h2=>.inr ⟨h1,h2⟩) ht hs.2 hk hr
theorem rib_put2 {F0:Nat→Prop} {w0:Nat} (p:Pf) (a:At) (v:AV) (lo:Nat) (W W1:World) (h:RibIn W1 rb tb N E peer own most F) (hb:Below W1.heap.size W1 W) (hF:∀b,F b→F0 b∨(w0≤b∧b<W1.heap.size)) (hw0:w0≤W1.heap.size)
  (hp:RgtP p) (hz:AtSz a) (hlo:W1.heap.size≤lo) (hon:Fresh lo W (fun W=>AvAt W a v)) (hr:(E.length:Int)+1≤most):
  Calls Tryz.prog 100 #[.pointer (some ⟨tb,0,none⟩),.agg #[.int .u32 p.1,.int .i64 p.2],v.V] W fun e w'=>∃N' E' F' c,e=.returned (.int .i64 c)∧RibIn w' rb tb N' E' peer own most F'∧rts E'=putP (rts E) p a∧(∀b,F' b→F0 b∨(w0≤b∧b<w'.heap.size))∧Kept (TOwn tb N) W w':=by
 have hd:(delE E p).length≤E.length:=List.length_filter_le ..;refine(rib_put p a v lo W (h.below hb) hp hz hon (fun b hb'=>?_) (by omega)).mono ?_
 ·have:=jE h.row;rcases hb' with hb'|rfl
  ·have:=h.tri.own_lt hb';omega
  ·omega
 ·rintro e w' ⟨N',c,rfl,hi,hk⟩;refine⟨N',_,_,c,rfl,hi,?_,?_,hk⟩
  ·rw[rts,List.map_append];unfold putP;rw[del_rts];rfl
  ·have h1:=hk.size;have h2:=hb.size;rintro b ((hb|hb)|hb)
   ·exact(hF b hb).imp_right fun h=>by omega
   ·exact .inr (by omega)
   ·exact .inr (by omega)
end
theorem put_room {R:Rts} {said ns:List Pf} {a:At} {most:Int} {k:Nat} (hs:Srt ns) (hsub:∀p∈ns,p∈said) (hk:k<ns.length) (hc:((dropAll R said).length:Int)+ns.length≤most) {E:List Ent} (hE:rts E=putAll (dropAll R said) (ns.take k) a):(E.length:Int)+1≤most:=by
 have h1:=len_putAll a (ns.take k) (dropAll R said) ((srt_nodup hs).sublist (List.take_sublist k ns)) (fun p hp=>by
  rw[getL_dropAll,if_pos (hsub p (List.mem_of_mem_take hp))])
 rw[←hE,List.length_map,List.length_take] at h1;omega
open Go.RowKit Go.Lib
set_option linter.unusedVariables false
def Ln (d:Nat) (L:List Itm):Prop:=L.length+2^(d+1)≤8589934592
def LnS (d:Nat) (L:List Itm):Prop:=L.length+2^(d+1)+2^(d+1)≤8589934592+1
theorem goP_short (S:List (Nat×AV)):∀(d A i:Nat),(goP S d A i).length+1≤2^(d+1)
 |0,A,i=>by unfold goP hereP;split<;>simp
 |d+1,A,i=>by
  have h1:=goP_short S d A (i+1);have h2:=goP_short S d (A+2^(31 - i)) (i+1);have h3:(hereP S A i).length≤1:=by unfold hereP;split<;>simp
  have e:goP S (d+1) A i=hereP S A i++(goP S d A (i+1)++goP S d (A+2^(31 - i)) (i+1)):=rfl;rw[e,List.length_append,List.length_append,show 2^(d+1+1)=2^(d+1)*2 from rfl];omega
theorem runL_short (cont:List Itm→Bool):∀(L xs:List Itm),(runL cont L xs).1.length≤L.length+xs.length
 |L,[]=>by simp[runL]
 |L,x::xs=>by
  simp only[runL];split
  ·have:=runL_short cont (L++[x]) xs;simp at this ⊢;omega
  ·simp
theorem ln_lt {d:Nat} {L:List Itm} (h:Ln d L):L.length<8589934592:=by
 unfold Ln at h;have:=Nat.pow_pos (n:=d+1) (show 0<2 by decide);omega
theorem lnS_0 {d:Nat} {L:List Itm} (h:Ln (d+1) L):LnS d L:=by
 unfold Ln at h;unfold LnS;rw[show 2^(d+1+1)=2^(d+1)*2 from rfl] at h;omega
theorem lnS_x {d:Nat} {L:List Itm} {x:Itm} (h:Ln (d+1) L):LnS d (L++[x]):=by
 unfold Ln at h;unfold LnS;rw[show 2^(d+1+1)=2^(d+1)*2 from rfl] at h;simp only[List.length_append,List.length_cons,List.length_nil];omega
theorem lnS_1 {d:Nat} {L:List Itm} (h:LnS d L):Ln d L:=by
 unfold LnS at h;unfold Ln;have:=Nat.pow_pos (n:=d+1) (show 0<2 by decide);omega
theorem lnS_2 {d:Nat} {L L2:List Itm} {c:Bool} {cont:List Itm→Bool} {S:List (Nat×AV)} {A i:Nat} (h:LnS d L) (h2:(L2,c)=runL cont L (goP S d A i)):Ln d L2:=by
 have h3:=runL_short cont L (goP S d A i);rw[←h2] at h3;have h4:=goP_short S d A i;unfold LnS at h;unfold Ln;simp only at h3;omega
structure EachOkN (tb:Nat) (N:Nat→Option Nat) (S:List (Nat×AV)) (most:Int) (g:Nat) (lb:Array Value) (cont:List Itm→Bool) (Inv:(Nat→Prop)→List Itm→World→Prop):Prop where
 ent:∀args w,(callFunc g args).run Tryz.prog w=.ok (.enter g args) w
 stab:∀P P' L W W',Inv P L W→Below W.heap.size W W'→(∀b,P' b→P b∨(W.heap.size≤b∧b<W'.heap.size))→Inv P' L W'
 tri:∀P L W,Inv P L W→TrI W tb N S most
 call:∀P L W (A i:Nat) v,Inv P L W→A<4294967296→rightB A i=true→getL S (keyN A i)=some v→L.length<8589934592→
  Calls Tryz.prog g (#[.agg #[.int .u32 A,.int .i64 i],v.V]++lb) W fun e w'=>e=.returned (.bool (cont (L++[((A,i),v)])))∧Inv P (L++[((A,i),v)]) w'∧Kept (fun b=>¬P b) W w'
section
variable {tb:Nat} {N:Nat→Option Nat} {S:List (Nat×AV)} {most:Int} {g:Nat} {lb:Array Value} {cont:List Itm→Bool} {Inv:(Nat→Prop)→List Itm→World→Prop}
theorem walk_nilN (E:EachOkN tb N S most g lb cont Inv) (d A i:Nat) (L:List Itm) (P:Nat→Prop) (w:World) (hi:i+d=32) (hr:A%2^(32 - i)=0) (hI:Inv P L w) (hn:N (keyN A i)=none):
  Calls Tryz.prog 169 #[.pointer none,.agg #[.int .u32 A,.int .i64 i],.func (.func g) #[] lb] w (WalkPost cont Inv P w (runL cont L (goP S d A i))):=by
 have G:=jh (show runL cont L (goP S d A i)=(L,true) by rw[goP_none (E.tri _ _ _ hI) d A i hi hr hn];rfl);have HB:∀o,Below w.heap.size w (w.alloc o):=fun o=>(Below.refl _ _).alloc (Nat.le_refl _) _;have I2:=jh (fun o=>E.stab P P L w (w.alloc o) hI (HB o) (fun b h=>.inl h));clear hn hI;go_enter Tryz.func169,Tryz.ntmps169;go_wp2_with fail;go_ret;exact WalkPost.of G.out (I2.out _) (Kept.of_below (HB _))
theorem WSt.belowN (E:EachOkN tb N S most g lb cont Inv) {P:Nat→Prop} {w W W':World} {A i:Nat} {L:List Itm} (h:WSt Inv P w A i L W) (hb:Below W.heap.size W W'):WSt Inv P w A i L W':=
 ⟨E.stab _ _ _ _ _ h.1 hb (fun _ h=>.inl h),jA h.2.1 hb,jA h.2.2.1 hb,h.2.2.2.grow hb⟩
theorem WSt.doneN (E:EachOkN tb N S most g lb cont Inv) {P:Nat→Prop} {w W:World} {A i:Nat} {L:List Itm} {r:List Itm×Bool} {c:Bool} (h:WSt Inv P w A i L W) (hr:r=(L,c)):WalkPost cont Inv P w r (.returned (.bool c)) W:=
 WalkPost.of hr (E.stab _ _ _ _ _ h.1 (Below.refl _ _) (fun _ h=>.inl (.inl h))) h.2.2.2
theorem walk_0N (E:EachOkN tb N S most g lb cont Inv) (A i:Nat) (h32:i=32) (L:List Itm) (P:Nat→Prop) (w:World) (ha:A<4294967296) (hR:rightB A i=true) (hI:Inv P L w) (hLn:Ln 0 L) {b:Nat} (hn:N (keyN A i)=some b):
  Calls Tryz.prog 169 #[.pointer (some ⟨b,0,none⟩),.agg #[.int .u32 A,.int .i64 i],.func (.func g) #[] lb] w (WalkPost cont Inv P w (runL cont L (goP S 0 A i))):=by
 have HF:=jh (fun t W=>half_32 A i h32 t ha W);clear h32;have eg:=E.ent;have HN:=jh hn;have HI:=jh hI;have EE:=jh E;have HR:=jh hR;clear hn hI E;cases hg:getL S (keyN A i) with
 |none=>
  have G:=jh (hereP_no hg);have HG:=jh hg;clear hg;go_enter Tryz.func169,Tryz.ntmps169;go_wp2_with fail;obtain⟨W0,hW0,c0,c1,hB⟩:=box2 w (.int .u32 A) (.int .i64 i) 53;have hz:W0.heap.size=w.heap.size+1:=by rw[hW0];simp
  rw[←hW0];clear hW0;have S0:Hid (WSt Inv P w A i L W0):=jh ⟨EE.out.stab _ _ _ _ _ HI.out hB (fun b h=>h.imp_right (fun e=>by omega)),c0,c1,Kept.of_below hB⟩;clear hz;obtain⟨_,_,d2⟩:=(EE.out.tri _ _ _ S0.out.1).ncells HN.out;rw[HG.out] at d2;replace d2:W0.cell? ⟨b,2,none⟩=some (.bool false):=d2;go_quiet (fail)
  obtain⟨Wc,hWc⟩:∃Wc,Wc=W0.drewN nq:=⟨_,rfl⟩
  have SC:Hid (WSt Inv P w A i L Wc):=jh (by rw[hWc];exact S0.out.belowN EE.out (jS (Below.refl _ _) nq));rw[←hWc];clear hWc S0 d2 c0 c1 hB;obtain⟨L1,hL1⟩:∃L1,L1=L:=⟨_,rfl⟩
  have GR:Hid (∀xs,runL cont L (hereP S A i++xs)=runL cont L1 xs):=jh (fun xs=>by rw[G.out,hL1];rfl);rw[←hL1] at SC;clear hL1;go_wp2_with fail;refine wp_loop_rounds 3 ?_;rw[rounds_succ];have c0:=SC.out.2.1;have c1:=SC.out.2.2.1;go_wp2_with fail;refine(HF.out 0 _).mono ?_;rintro e w3 ⟨rfl,hb⟩;have SC:=jh (SC.out.belowN EE.out hb);clear hb c0 c1;go_wp2_with fail;obtain⟨W4,hW4,h0,h1,hb4⟩:=box2 w3 (.int .u32 0) (.int .i64 0) 53;rw[←hW4];clear hW4;have SC:=jh (SC.out.belowN EE.out hb4);clear hb4 h0 h1;go_quiet (fail)
  obtain⟨W5,hW5⟩:∃W5,W5=W4.drewN nq:=⟨_,rfl⟩
  have SC:Hid (WSt Inv P w A i L1 W5):=jh (by rw[hW5];exact SC.out.belowN EE.out (jS (Below.refl _ _) nq));rw[←hW5];clear hW5;go_wp2_with fail;rw[rounds_succ];have c0:=SC.out.2.1;have c1:=SC.out.2.2.1;go_wp2_with fail;refine(HF.out 1 _).mono ?_;rintro e w3 ⟨rfl,hb⟩;have SC:=jh (SC.out.belowN EE.out hb);clear hb c0 c1;go_wp2_with fail;obtain⟨W4,hW4,h0,h1,hb4⟩:=box2 w3 (.int .u32 0) (.int .i64 0) 53;rw[←hW4];clear hW4;have SC:=jh (SC.out.belowN EE.out hb4);clear hb4 h0 h1;go_quiet (fail)
  obtain⟨W5,hW5⟩:∃W5,W5=W4.drewN nq:=⟨_,rfl⟩
  have SC:Hid (WSt Inv P w A i L1 W5):=jh (by rw[hW5];exact SC.out.belowN EE.out (jS (Below.refl _ _) nq));rw[←hW5];clear hW5;go_wp2_with fail;rw[rounds_succ];go_wp2_with fail;go_ret;exact SC.out.doneN EE.out (by rw[show goP S 0 A i=hereP S A i++[] by rw[List.append_nil];rfl,GR.out];rfl)
 |some v=>
  have G:=jh (hereP_yes hg);have HG:=jh hg;clear hg;have EC:=jh (fun W (h:WSt Inv P w A i L W)=>EE.out.call _ L W A i v h.1 ha HR.out HG.out (ln_lt hLn));generalize hcc:cont (L++[((A,i),v)])=cc at EC;go_enter Tryz.func169,Tryz.ntmps169;go_wp2_with fail;obtain⟨W0,hW0,c0,c1,hB⟩:=box2 w (.int .u32 A) (.int .i64 i) 53;have hz:W0.heap.size=w.heap.size+1:=by rw[hW0];simp
  rw[←hW0];clear hW0;have S0:Hid (WSt Inv P w A i L W0):=jh ⟨EE.out.stab _ _ _ _ _ HI.out hB (fun b h=>h.imp_right (fun e=>by omega)),c0,c1,Kept.of_below hB⟩;clear hz;obtain⟨_,_,d2⟩:=(EE.out.tri _ _ _ S0.out.1).ncells HN.out;have d3:=node_range ((EE.out.tri _ _ _ S0.out.1).node _ _ HN.out);rw[HG.out] at d2 d3;replace d2:W0.cell? ⟨b,2,none⟩=some (.bool true):=d2;replace d3:Hid (W0.drew.rangeAt b 3 v.C.toList):=jh d3;refine reg_tail 11 (by kernel_rfl) (by kernel_rfl) ?_;simp only[List.take_succ_cons,List.take_zero,List.drop_succ_cons,List.drop_zero]
  repeat still_step
  refine still_ld (by rfl) (exec_ldm 42 (.tmp 21) rfl b 3 ?_ v.C.toList _ d3.out Tryz.underlying42 rfl (by kernel_rfl)) ?_
  ·rfl
  refine wpStill_nil ?_;go_wp2_with fail;refine(EC.out _ (S0.out.belowN EE.out (Below.refl _ _).drew)).mono ?_;rintro e Wc ⟨rfl,I1,K1⟩;have SC:Hid (WSt Inv P w A i (L++[((A,i),v)]) Wc):=jh ((S0.out.belowN EE.out (Below.refl _ _).drew).step I1 K1);clear I1 K1 S0 d2 d3 c0 c1 hB EC;cases hcc2:cc
  ·have GF:Hid (∀xs,runL cont L (hereP S A i++xs)=(L++[((A,i),v)],false)):=jh (fun xs=>by
    rw[G.out];simp only[List.cons_append,List.nil_append,runL];rw[hcc,hcc2];exact if_neg (by decide))
   clear hcc hcc2;go_wp2_with fail;go_ret;exact SC.out.doneN EE.out (by rw[show goP S 0 A i=hereP S A i++[] by rw[List.append_nil];rfl];exact GF.out _)
  ·have GR:Hid (∀xs,runL cont L (hereP S A i++xs)=runL cont (L++[((A,i),v)]) xs):=jh (fun xs=>by
    rw[G.out];simp only[List.cons_append,List.nil_append,runL];rw[hcc,hcc2];exact if_pos rfl)
   clear hcc hcc2;generalize L++[((A,i),v)]=L1 at SC GR;go_wp2_with fail;refine wp_loop_rounds 3 ?_;rw[rounds_succ];have c0:=SC.out.2.1;have c1:=SC.out.2.2.1;go_wp2_with fail;refine(HF.out 0 _).mono ?_;rintro e w3 ⟨rfl,hb⟩;have SC:=jh (SC.out.belowN EE.out hb);clear hb c0 c1;go_wp2_with fail;obtain⟨W4,hW4,h0,h1,hb4⟩:=box2 w3 (.int .u32 0) (.int .i64 0) 53;rw[←hW4];clear hW4;have SC:=jh (SC.out.belowN EE.out hb4);clear hb4 h0 h1;go_quiet (fail)
   obtain⟨W5,hW5⟩:∃W5,W5=W4.drewN nq:=⟨_,rfl⟩
   have SC:Hid (WSt Inv P w A i L1 W5):=jh (by rw[hW5];exact SC.out.belowN EE.out (jS (Below.refl _ _) nq));rw[←hW5];clear hW5;go_wp2_with fail;rw[rounds_succ];have c0:=SC.out.2.1;have c1:=SC.out.2.2.1;go_wp2_with fail;refine(HF.out 1 _).mono ?_;rintro e w3 ⟨rfl,hb⟩;have SC:=jh (SC.out.belowN EE.out hb);clear hb c0 c1;go_wp2_with fail;obtain⟨W4,hW4,h0,h1,hb4⟩:=box2 w3 (.int .u32 0) (.int .i64 0) 53;rw[←hW4];clear hW4;have SC:=jh (SC.out.belowN EE.out hb4);clear hb4 h0 h1;go_quiet (fail)
   obtain⟨W5,hW5⟩:∃W5,W5=W4.drewN nq:=⟨_,rfl⟩
   have SC:Hid (WSt Inv P w A i L1 W5):=jh (by rw[hW5];exact SC.out.belowN EE.out (jS (Below.refl _ _) nq));rw[←hW5];clear hW5;go_wp2_with fail;rw[rounds_succ];go_wp2_with fail;go_ret;exact SC.out.doneN EE.out (by rw[show goP S 0 A i=hereP S A i++[] by rw[List.append_nil];rfl,GR.out];rfl)
theorem walk_SN (E:EachOkN tb N S most g lb cont Inv) (d A i:Nat) (hi:i+(d+1)=32) (IH:∀(A i:Nat) (L:List Itm) (P:Nat→Prop) (w:World),i+d=32→A<4294967296→rightB A i=true→Inv P L w→Ln d L→Calls Tryz.prog 169 #[ptrN (N (keyN A i)),.agg #[.int .u32 A,.int .i64 i],.func (.func g) #[] lb] w (WalkPost cont Inv P w (runL cont L (goP S d A i)))) (L:List Itm) (P:Nat→Prop) (w:World) (ha:A<4294967296) (hR:rightB A i=true) (hI:Inv P L w) (hLn:Ln (d+1) L) {b:Nat} (hn:N (keyN A i)=some b):
  Calls Tryz.prog 169 #[.pointer (some ⟨b,0,none⟩),.agg #[.int .u32 A,.int .i64 i],.func (.func g) #[] lb] w (WalkPost cont Inv P w (runL cont L (goP S (d+1) A i))):=by
 have hm:=(right_mod.1 hR).1;have GO:=jh (show goP S (d+1) A i=hereP S A i++(goP S d A (i+1)++goP S d (A+2^(31 - i)) (i+1)) from rfl);have HF0:Hid (∀W,Calls Tryz.prog 189 #[.agg #[.int .u32 A,.int .i64 i],.int .i64 0] W fun e w'=>e=.returned (.tuple #[.agg #[.int .u32 A,.int .i64 ((i:Int)+1)],.int .i64 0])∧Below W.heap.size W w'):=jh (half_0 A i ha (by omega) hR);have HF1:=jh (half_1 A i ha (by omega) hR);have KL:=jh (key_left (show i<32 by omega) hm);have KR:=jh (key_right (show i<32 by omega) hm);have IH0:Hid (∀L P w,Inv P L w→Ln d L→Calls Tryz.prog 169 #[ptrN (N (keyN A (i+1))),.agg #[.int .u32 A,.int .i64 ((i:Int)+1)],.func (.func g) #[] lb] w (WalkPost cont Inv P w (runL cont L (goP S d A (i+1))))):=jh (fun L P w h hl=>IH A (i+1) L P w (by omega) ha (right_mod.2 ⟨mod_left (by omega) hm,by omega⟩) h hl);have IH1:=jh (fun L P w h hl=>IH (A+2^(31 - i)) (i+1) L P w (by omega) (lt_right (by omega) ha hm) (right_mod.2 ⟨mod_right (by omega) hm,by omega⟩) h hl);generalize A+2^(31 - i)=B at GO HF1 KR IH1;have HF1:Hid (∀W,Calls Tryz.prog 189 #[.agg #[.int .u32 A,.int .i64 i],.int .i64 1] W fun e w'=>e=.returned (.tuple #[.agg #[.int .u32 B,.int .i64 ((i:Int)+1)],.int .i64 0])∧Below W.heap.size W w'):=jh HF1.out;have IH1:Hid (∀L P w,Inv P L w→Ln d L→Calls Tryz.prog 169 #[ptrN (N (keyN B (i+1))),.agg #[.int .u32 B,.int .i64 ((i:Int)+1)],.func (.func g) #[] lb] w (WalkPost cont Inv P w (runL cont L (goP S d B (i+1))))):=jh IH1.out;clear IH hm;have eg:=E.ent;have HN:=jh hn;have HI:=jh hI;have EE:=jh E;have HR:=jh hR;clear hn hI E;cases hg:getL S (keyN A i) with
 |none=>
  have G:=jh (hereP_no hg);have HG:=jh hg;clear hg;go_enter Tryz.func169,Tryz.ntmps169;go_wp2_with fail;obtain⟨W0,hW0,c0,c1,hB⟩:=box2 w (.int .u32 A) (.int .i64 i) 53;have hz:W0.heap.size=w.heap.size+1:=by rw[hW0];simp
  rw[←hW0];clear hW0;have S0:Hid (WSt Inv P w A i L W0):=jh ⟨EE.out.stab _ _ _ _ _ HI.out hB (fun b h=>h.imp_right (fun e=>by omega)),c0,c1,Kept.of_below hB⟩;clear hz;obtain⟨_,_,d2⟩:=(EE.out.tri _ _ _ S0.out.1).ncells HN.out;rw[HG.out] at d2;replace d2:W0.cell? ⟨b,2,none⟩=some (.bool false):=d2;go_quiet (fail)
  obtain⟨Wc,hWc⟩:∃Wc,Wc=W0.drewN nq:=⟨_,rfl⟩
  have SC:Hid (WSt Inv P w A i L Wc):=jh (by rw[hWc];exact S0.out.belowN EE.out (jS (Below.refl _ _) nq));rw[←hWc];clear hWc S0 d2 c0 c1 hB;obtain⟨L1,hL1⟩:∃L1,L1=L:=⟨_,rfl⟩
  have GR:Hid (∀xs,runL cont L (hereP S A i++xs)=runL cont L1 xs):=jh (fun xs=>by rw[G.out,hL1];rfl);rw[←hL1] at SC;have N1:Hid (LnS d L1):=jh (by rw[hL1];exact lnS_0 hLn);clear hL1;go_wp2_with fail;refine wp_loop_rounds 3 ?_;rw[rounds_succ];have c0:=SC.out.2.1;have c1:=SC.out.2.2.1;go_wp2_with fail;refine(HF0.out _).mono ?_;rintro e w3 ⟨rfl,hb⟩;have SC:=jh (SC.out.belowN EE.out hb);clear hb c0 c1;go_wp2_with fail;obtain⟨W4,hW4,h0,h1,hb4⟩:=box2 w3 (.int .u32 A) (.int .i64 ((i:Int)+1)) 53;rw[←hW4];clear hW4;have SC:=jh (SC.out.belowN EE.out hb4);clear hb4;obtain⟨q0,q1,_⟩:=(EE.out.tri _ _ _ SC.out.1).ncells HN.out;rw[←KL.out] at q0;rw[←KR.out] at q1;refine reg_tail 11 (by kernel_rfl) (by kernel_rfl) ?_;simp only[List.take_succ_cons,List.take_zero,List.drop_succ_cons,List.drop_zero]
  repeat still_step
  refine wpStill_nil ?_;go_wp2_with fail;have SD:=jh (SC.out.belowN EE.out (Below.refl _ _).drew);refine(IH0.out _ _ _ SD.out.1 (lnS_1 N1.out)).mono ?_;rintro e w5 ⟨rfl,I5,K5⟩;have SC:=jh (SD.out.step I5 K5);clear I5 K5 SD q0 q1 h0 h1;obtain⟨⟨L2,c2⟩,h2⟩:∃r,r=runL cont L1 (goP S d A (i+1)):=⟨_,rfl⟩
  rw[←h2] at SC ⊢;have H2:=jh h2;clear h2;cases c2
  ·go_wp2_with fail;go_ret;exact SC.out.doneN EE.out (by rw[GO.out,GR.out,runL_append,←H2.out];rfl)
  go_wp2_with fail;rw[rounds_succ];have c0:=SC.out.2.1;have c1:=SC.out.2.2.1;go_wp2_with fail;refine(HF1.out _).mono ?_;rintro e w3 ⟨rfl,hb⟩;have SC:=jh (SC.out.belowN EE.out hb);clear hb c0 c1;go_wp2_with fail;obtain⟨W4,hW4,h0,h1,hb4⟩:=box2 w3 (.int .u32 B) (.int .i64 ((i:Int)+1)) 53;rw[←hW4];clear hW4;have SC:=jh (SC.out.belowN EE.out hb4);clear hb4;obtain⟨q0,q1,_⟩:=(EE.out.tri _ _ _ SC.out.1).ncells HN.out;rw[←KL.out] at q0;rw[←KR.out] at q1;refine reg_tail 11 (by kernel_rfl) (by kernel_rfl) ?_;simp only[List.take_succ_cons,List.take_zero,List.drop_succ_cons,List.drop_zero]
  repeat still_step
  refine wpStill_nil ?_;go_wp2_with fail;have SD:=jh (SC.out.belowN EE.out (Below.refl _ _).drew);refine(IH1.out _ _ _ SD.out.1 (lnS_2 N1.out H2.out)).mono ?_;rintro e w5 ⟨rfl,I5,K5⟩;have SC:=jh (SD.out.step I5 K5);clear I5 K5 SD q0 q1 h0 h1;obtain⟨⟨L3,c3⟩,h3⟩:∃r,r=runL cont L2 (goP S d B (i+1)):=⟨_,rfl⟩
  rw[←h3] at SC ⊢;have H3:=jh h3;clear h3;cases c3
  ·go_wp2_with fail;go_ret;exact SC.out.doneN EE.out (by rw[GO.out,GR.out,runL_append,←H2.out];exact H3.out.symm)
  go_wp2_with fail;rw[rounds_succ];go_wp2_with fail;go_ret;exact SC.out.doneN EE.out (by rw[GO.out,GR.out,runL_append,←H2.out];exact H3.out.symm)
 |some v=>
  have G:=jh (hereP_yes hg);have HG:=jh hg;clear hg;have EC:=jh (fun W (h:WSt Inv P w A i L W)=>EE.out.call _ L W A i v h.1 ha HR.out HG.out (ln_lt hLn));generalize hcc:cont (L++[((A,i),v)])=cc at EC;go_enter Tryz.func169,Tryz.ntmps169;go_wp2_with fail;obtain⟨W0,hW0,c0,c1,hB⟩:=box2 w (.int .u32 A) (.int .i64 i) 53;have hz:W0.heap.size=w.heap.size+1:=by rw[hW0];simp
  rw[←hW0];clear hW0;have S0:Hid (WSt Inv P w A i L W0):=jh ⟨EE.out.stab _ _ _ _ _ HI.out hB (fun b h=>h.imp_right (fun e=>by omega)),c0,c1,Kept.of_below hB⟩;clear hz;obtain⟨_,_,d2⟩:=(EE.out.tri _ _ _ S0.out.1).ncells HN.out;have d3:=node_range ((EE.out.tri _ _ _ S0.out.1).node _ _ HN.out);rw[HG.out] at d2 d3;replace d2:W0.cell? ⟨b,2,none⟩=some (.bool true):=d2;replace d3:Hid (W0.drew.rangeAt b 3 v.C.toList):=jh d3;refine reg_tail 11 (by kernel_rfl) (by kernel_rfl) ?_;simp only[List.take_succ_cons,List.take_zero,List.drop_succ_cons,List.drop_zero]
  repeat still_step
  refine still_ld (by rfl) (exec_ldm 42 (.tmp 21) rfl b 3 ?_ v.C.toList _ d3.out Tryz.underlying42 rfl (by kernel_rfl)) ?_
  ·rfl
  refine wpStill_nil ?_;go_wp2_with fail;refine(EC.out _ (S0.out.belowN EE.out (Below.refl _ _).drew)).mono ?_;rintro e Wc ⟨rfl,I1,K1⟩;have SC:Hid (WSt Inv P w A i (L++[((A,i),v)]) Wc):=jh ((S0.out.belowN EE.out (Below.refl _ _).drew).step I1 K1);clear I1 K1 S0 d2 d3 c0 c1 hB EC;cases hcc2:cc
  ·have GF:Hid (∀xs,runL cont L (hereP S A i++xs)=(L++[((A,i),v)],false)):=jh (fun xs=>by
    rw[G.out];simp only[List.cons_append,List.nil_append,runL];rw[hcc,hcc2];exact if_neg (by decide))
   clear hcc hcc2;go_wp2_with fail;go_ret;exact SC.out.doneN EE.out (by rw[GO.out];exact GF.out _)
  ·have GR:Hid (∀xs,runL cont L (hereP S A i++xs)=runL cont (L++[((A,i),v)]) xs):=jh (fun xs=>by
    rw[G.out];simp only[List.cons_append,List.nil_append,runL];rw[hcc,hcc2];exact if_pos rfl)
   clear hcc hcc2;have N1:Hid (LnS d (L++[((A,i),v)])):=jh (lnS_x hLn);generalize L++[((A,i),v)]=L1 at SC GR N1;go_wp2_with fail;refine wp_loop_rounds 3 ?_;rw[rounds_succ];have c0:=SC.out.2.1;have c1:=SC.out.2.2.1;go_wp2_with fail;refine(HF0.out _).mono ?_;rintro e w3 ⟨rfl,hb⟩;have SC:=jh (SC.out.belowN EE.out hb);clear hb c0 c1;go_wp2_with fail;obtain⟨W4,hW4,h0,h1,hb4⟩:=box2 w3 (.int .u32 A) (.int .i64 ((i:Int)+1)) 53;rw[←hW4];clear hW4;have SC:=jh (SC.out.belowN EE.out hb4);clear hb4;obtain⟨q0,q1,_⟩:=(EE.out.tri _ _ _ SC.out.1).ncells HN.out;rw[←KL.out] at q0;rw[←KR.out] at q1;refine reg_tail 11 (by kernel_rfl) (by kernel_rfl) ?_;simp only[List.take_succ_cons,List.take_zero,List.drop_succ_cons,List.drop_zero]
   repeat still_step
   refine wpStill_nil ?_;go_wp2_with fail;have SD:=jh (SC.out.belowN EE.out (Below.refl _ _).drew);refine(IH0.out _ _ _ SD.out.1 (lnS_1 N1.out)).mono ?_;rintro e w5 ⟨rfl,I5,K5⟩;have SC:=jh (SD.out.step I5 K5);clear I5 K5 SD q0 q1 h0 h1;obtain⟨⟨L2,c2⟩,h2⟩:∃r,r=runL cont L1 (goP S d A (i+1)):=⟨_,rfl⟩
   rw[←h2] at SC ⊢;have H2:=jh h2;clear h2;cases c2
   ·go_wp2_with fail;go_ret;exact SC.out.doneN EE.out (by rw[GO.out,GR.out,runL_append,←H2.out];rfl)
   go_wp2_with fail;rw[rounds_succ];have c0:=SC.out.2.1;have c1:=SC.out.2.2.1;go_wp2_with fail;refine(HF1.out _).mono ?_;rintro e w3 ⟨rfl,hb⟩;have SC:=jh (SC.out.belowN EE.out hb);clear hb c0 c1;go_wp2_with fail;obtain⟨W4,hW4,h0,h1,hb4⟩:=box2 w3 (.int .u32 B) (.int .i64 ((i:Int)+1)) 53;rw[←hW4];clear hW4;have SC:=jh (SC.out.belowN EE.out hb4);clear hb4;obtain⟨q0,q1,_⟩:=(EE.out.tri _ _ _ SC.out.1).ncells HN.out;rw[←KL.out] at q0;rw[←KR.out] at q1;refine reg_tail 11 (by kernel_rfl) (by kernel_rfl) ?_;simp only[List.take_succ_cons,List.take_zero,List.drop_succ_cons,List.drop_zero]
   repeat still_step
   refine wpStill_nil ?_;go_wp2_with fail;have SD:=jh (SC.out.belowN EE.out (Below.refl _ _).drew);refine(IH1.out _ _ _ SD.out.1 (lnS_2 N1.out H2.out)).mono ?_;rintro e w5 ⟨rfl,I5,K5⟩;have SC:=jh (SD.out.step I5 K5);clear I5 K5 SD q0 q1 h0 h1;obtain⟨⟨L3,c3⟩,h3⟩:∃r,r=runL cont L2 (goP S d B (i+1)):=⟨_,rfl⟩
   rw[←h3] at SC ⊢;have H3:=jh h3;clear h3;cases c3
   ·go_wp2_with fail;go_ret;exact SC.out.doneN EE.out (by rw[GO.out,GR.out,runL_append,←H2.out];exact H3.out.symm)
   go_wp2_with fail;rw[rounds_succ];go_wp2_with fail;go_ret;exact SC.out.doneN EE.out (by rw[GO.out,GR.out,runL_append,←H2.out];exact H3.out.symm)
theorem trI_walkN (E:EachOkN tb N S most g lb cont Inv):∀(d A i:Nat) (L:List Itm) (P:Nat→Prop) (w:World),i+d=32→A<4294967296→rightB A i=true→Inv P L w→Ln d L→
  Calls Tryz.prog 169 #[ptrN (N (keyN A i)),.agg #[.int .u32 A,.int .i64 i],.func (.func g) #[] lb] w (WalkPost cont Inv P w (runL cont L (goP S d A i)))
 |0,A,i,L,P,w,hi,ha,hR,hI,hLn=>by
  obtain rfl:i=32:=by omega
  cases hn:N (keyN A 32) with
  |none=>exact walk_nilN E 0 A 32 L P w rfl (right_mod.1 hR).1 hI hn
  |some b=>exact walk_0N E A 32 rfl L P w ha hR hI hLn hn
 |d+1,A,i,L,P,w,hi,ha,hR,hI,hLn=>by
  cases hn:N (keyN A i) with
  |none=>exact walk_nilN E (d+1) A i L P w hi (right_mod.1 hR).1 hI hn
  |some b=>exact walk_SN E d A i hi (trI_walkN E d) L P w ha hR hI hLn hn
theorem ln_less {d k:Nat} {L:List Itm} (h:Ln d L) (hk:k≤d):Ln k L:=by
 unfold Ln at h ⊢;have:2^(k+1)≤2^(d+1):=Nat.pow_le_pow_right (by decide) (by omega);omega
theorem trI_BelowN (E:EachOkN tb N S most g lb cont Inv) (A i:Nat) (L:List Itm) (P:Nat→Prop) (w:World) (ha:A<4294967296) (hR:rightB A i=true) (hI:Inv P L w) (hLn:Ln 32 L):
  Calls Tryz.prog 132 #[.pointer (some ⟨tb,0,none⟩),.agg #[.int .u32 A,.int .i64 i],.func (.func g) #[] lb] w (BelowPost Inv P w (runL cont L (goP S (32 - i) A i)).1):=by
 have hi:=(right_mod.1 hR).2;have EE:=jh E;have HI:=jh hI;have FD:=jh (fun W h=>trI_find (tb:=tb) (N:=N) (S:=S) (most:=most) A i W h ha hR);have WK:=jh (fun P W h=>trI_walkN E (32 - i) A i L P W (by omega) ha hR h (ln_less hLn (by omega)));clear E hI;have nf:=fun W=>neq_func g lb W;go_enter Tryz.func132,Tryz.ntmps132;go_wp2_with fail;obtain⟨W0,hW0,c0,c1,hB⟩:=box2 w (.int .u32 A) (.int .i64 i) 53;have hz:W0.heap.size=w.heap.size+1:=by rw[hW0];simp
 rw[←hW0];clear hW0;have S0:Hid (WSt Inv P w A i L W0):=jh ⟨EE.out.stab _ _ _ _ _ HI.out hB (fun b h=>h.imp_right (fun e=>by omega)),c0,c1,Kept.of_below hB⟩;clear hz;have SD:Hid (WSt Inv P w A i L W0.drew):=jh (S0.out.belowN EE.out (Below.refl _ _).drew)
 go_region_with (first
  |(go_at_call 136;refine(FD.out _ (EE.out.tri _ _ _ SD.out.1)).mono ?_;rintro e w1 ⟨rfl,hb⟩;have S1:=jh (SD.out.belowN EE.out hb);have c0:=S1.out.2.1;have c1:=S1.out.2.2.1)
  |(go_at_call 169;refine(WK.out _ _ S1.out.1).mono ?_;rintro e w2 ⟨rfl,I2,K2⟩;have SE:=jh (S1.out.step I2 K2)))
 all_goals
  go_wp2_with fail
  go_end0
  exact⟨rfl,EE.out.stab _ _ _ _ _ SE.out.1 (Below.refl _ _) (fun _ h=>.inl (.inl h)),SE.out.2.2.2⟩
theorem trI_AllN (E:EachOkN tb N S most g lb cont Inv) (L:List Itm) (P:Nat→Prop) (w:World) (hI:Inv P L w) (hLn:Ln 32 L):
  Calls Tryz.prog 88 #[.pointer (some ⟨tb,0,none⟩),.func (.func g) #[] lb] w (BelowPost Inv P w (runL cont L (goP S 32 0 0)).1):=by
 have BL:=jh (trI_BelowN E 0 0 L P w (by decide) (by decide+kernel) hI hLn);go_enter Tryz.func88,Tryz.ntmps88;go_wp2_with fail;refine BL.out.mono ?_;rintro e w1 ⟨rfl,I1,K1⟩;have J1:=jh (And.intro I1 K1);clear I1 K1;go_wp2_with fail
 go_end0
 exact⟨rfl,J1.out.1,J1.out.2⟩
end
open Go.RowKit
section
variable {P:Program} {ops:Array Oper} {Q:Exit→Act→World→Prop} {md:Region.Mode} {S:World→Prop}
theorem rg_call3 {i j k:Nat} {oi oj ok:Oper} {fuel:Nat} {listed:Array Bool} {a:Act} {w:World} (hi:ops[i]? =some oi) (hj:ops[j]? =some oj) (hk:ops[k]? =some ok)
  (hr:Region.ready md ops listed=[i,j,k]) (hw:Region.wanted oi (yielded ops a.tmps)=true) (hv:Region.wanted oj (yielded ops a.tmps)=true) (hu:Region.wanted ok (yielded ops a.tmps)=true)
  (h:∀K':Act→World→Prop,Shut (∀a w,S w→(S w→wpAnyH P md ops Q S fuel (listed.setIfInBounds i true) a w)→K' a w)→Oper.wp P oi a w K' Q)
  (h2:∀K':Act→World→Prop,Shut (∀a w,S w→(S w→wpAnyH P md ops Q S fuel (listed.setIfInBounds j true) a w)→K' a w)→Oper.wp P oj a w K' Q)
  (h3:∀K':Act→World→Prop,Shut (∀a w,S w→(S w→wpAnyH P md ops Q S fuel (listed.setIfInBounds k true) a w)→K' a w)→Oper.wp P ok a w K' Q):wpAnyH P md ops Q S (fuel+1) listed a w:=
 wpAnyH_ready (rs:=[i,j,k]) hr (by simp) (AllReadyH.cons hi (fun K hK=>by rw[if_pos hw];exact h K hK) (AllReadyH.cons hj (fun K hK=>by rw[if_pos hv];exact h2 K hK) (AllReadyH.cons hk (fun K hK=>by rw[if_pos hu];exact h3 K hK) AllReadyH.nil)))
end
end Go.Proofs.YtkoidahgbbabiaaGreat
