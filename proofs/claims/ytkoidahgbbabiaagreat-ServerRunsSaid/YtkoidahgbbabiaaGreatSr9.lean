/- Texts of one proof, one behind another. -/
import Derived.Test.YtkoidahgbbabiaaGreatSr8
import Derived.Test.YtkoidahgbbabiaaGreatSr4
import Derived.Test.YtkoidahgbbabiaaGreatSr6
import Derived.Test.YtkoidahgbbabiaaGreatSr7
import Derived.Test.YtkoidahgbbabiaaGreatSr1
set_option maxRecDepth 100000
set_option maxHeartbeats 100000000
namespace Go.Proofs.YtkoidahgbbabiaaGreat
open Go.RowKit
def sameA (a b:At):Bool:=((plB a b&&decide (a.comms=b.comms))&&decide (a.path=b.path))&&decide (a.others=b.others)
theorem plB_iff (a b:At):plB a b=true↔a.has=b.has∧a.origin=b.origin∧a.med=b.med∧a.loc=b.loc∧a.aggrAs=b.aggrAs∧a.hop=b.hop∧a.aggrId=b.aggrId:=by
 unfold plB;simp only[Bool.and_eq_true,beq_iff_eq,Bool.and_true];omega
theorem sameA_iff (a b:At):sameA a b=true↔a=b:=by
 unfold sameA;simp only[Bool.and_eq_true,plB_iff,decide_eq_true_eq];constructor
 ·rintro⟨⟨⟨⟨h1,h2,h3,h4,h5,h6,h7⟩,h8⟩,h9⟩,h10⟩;cases a;cases b
  simp_all
 ·rintro rfl;simp
theorem ret_same {a b:At} {c0 c1 c2 c3:Bool} (h0:plB a b=c0) (h1:decide (a.comms=b.comms)=c1) (h2:decide (a.path=b.path)=c2) (h3:decide (a.others=b.others)=c3):sameA a b=(((c0&&c1)&&c2)&&c3):=by
 unfold sameA;rw[h0,h1,h2,h3]
theorem at_Same (a b:At) (vp vc vo up uc uo:Value) (w:World) (ha:AtL w a vp vc vo) (hb:AtL w b up uc uo):
  Calls Tryz.prog 37 #[.agg (atV a vp vc vo).toArray,.agg (atV b up uc uo).toArray] w fun e w'=>e=.returned (.bool (sameA a b))∧Below w.heap.size w w':=by
 show Calls Tryz.prog 37 #[.agg #[.int .i64 a.has,.int .i64 a.origin,vp,.int .u32 a.hop,.int .i64 a.med,.int .i64 a.loc,.int .i64 a.aggrAs,.int .u32 a.aggrId,vc,vo],.agg #[.int .i64 b.has,.int .i64 b.origin,up,.int .u32 b.hop,.int .i64 b.med,.int .i64 b.loc,.int .i64 b.aggrAs,.int .u32 b.aggrId,uc,uo]] w _;obtain⟨W0,hW0,q0,q1,hB⟩:=boxTwo w #[.int .i64 a.has,.int .i64 a.origin,vp,.int .u32 a.hop,.int .i64 a.med,.int .i64 a.loc,.int .i64 a.aggrAs,.int .u32 a.aggrId,vc,vo] 42 #[.int .i64 b.has,.int .i64 b.origin,up,.int .u32 b.hop,.int .i64 b.med,.int .i64 b.loc,.int .i64 b.aggrAs,.int .u32 b.aggrId,uc,uo] 42;have PL:=run_eql_plain a b;have EI:=jh (fun W (h:Below W0.heap.size W0 W)=>sl_EqI vc uc _ _ W ((ha.2.1.below hB).below h) ((hb.2.1.below hB).below h));have ES:=jh (fun W (h:Below W0.heap.size W0 W)=>at_equalS vp up _ _ W ((ha.1.below hB).below h) ((hb.1.below hB).below h));have EO:=jh (fun W (h:Below W0.heap.size W0 W)=>at_equalO vo uo _ _ W ((ha.2.2.below hB).below h) ((hb.2.2.below hB).below h));have RS:=jh (fun c0 c1 c2 c3=>ret_same (a:=a) (b:=b) (c0:=c0) (c1:=c1) (c2:=c2) (c3:=c3));obtain⟨sp,kp,hvp,-⟩:=id ha.1;obtain⟨sc,kc,hvc,-⟩:=id ha.2.1;obtain⟨so,ko,hvo,-⟩:=id ha.2.2;obtain⟨tp,lp,hup,-⟩:=id hb.1;obtain⟨tc,lc,huc,-⟩:=id hb.2.1;obtain⟨tt,lo,huo,-⟩:=id hb.2.2;subst hvp hvc hvo hup huc huo;clear ha hb;generalize h0:plB a b=c0 at PL;generalize h1:decide (a.comms=b.comms)=c1 at EI;generalize h2:decide (a.path=b.path)=c2 at ES;generalize h3:decide (a.others=b.others)=c3 at EO;have R:=jh (RS.out c0 c1 c2 c3 h0 h1 h2 h3);clear h0 h1 h2 h3 RS;generalize sameA a b=z at R ⊢;go_enter Tryz.func37,Tryz.ntmps37;go_upto_region 1 with (fail)
 rw[←hW0];clear hW0;have cc:W0.cell? ⟨w.heap.size,8,none⟩=some (.slice sc a.comms.length kc):=jB q0 8;have dc:W0.cell? ⟨w.heap.size+1,8,none⟩=some (.slice tc b.comms.length lc):=jB q1 8;have cp:W0.cell? ⟨w.heap.size,2,none⟩=some (.slice sp a.path.length kp):=jB q0 2;have dp:W0.cell? ⟨w.heap.size+1,2,none⟩=some (.slice tp b.path.length lp):=jB q1 2;have co:W0.cell? ⟨w.heap.size,9,none⟩=some (.slice so a.others.length ko):=jB q0 9;have do_:W0.cell? ⟨w.heap.size+1,9,none⟩=some (.slice tt b.others.length lo):=jB q1 9;have Q0:=jh q0;have Q1:=jh q1;have HB:=jh hB;clear q0 q1 hB;cases c0 with
 |false=>
  refine wp_region_held_drew (S:=fun w'=>Below W0.heap.size W0 w') (by kernel_rfl) ?_ (fun hHeld=>?_)
  ·exact(Below.refl _ _).drew
  refine qz 0 hHeld ?_ (hy:=by intro w' hSw;refine exec_ld 42 (.tmp 2) ?_ w.heap.size ?_ 42 _ (0,0) _ ((hSw.block _ (jE Q0.out)).trans Q0.out) Tryz.underlying42 rfl (by kernel_rfl)<;>rfl);refine qz 2 hHeld ?_ (hy:=by intro w' hSw;refine exec_ld 42 (.tmp 3) ?_ (w.heap.size+1) ?_ 42 _ (0,0) _ ((hSw.block _ (jE Q1.out)).trans Q1.out) Tryz.underlying42 rfl (by kernel_rfl)<;>rfl);refine jr 1 fun K hK=>?_;(try clear hb);go_simp;(refine(at_plain a _ _ _ _).mono ?_;rintro e w1 ⟨rfl,hb⟩);go_wp2_with fail;refine hK.out _ _ ?_ (fun hHeld=>?_);(·exact hHeld.trans (hb.mono hHeld.size));clear hK K;(try simp only[jz]);refine jr 3 fun K hK=>?_;(try clear hb);go_simp;(refine(at_plain b _ _ _ _).mono ?_;rintro e w1 ⟨rfl,hb⟩);go_wp2_with fail;refine hK.out _ _ ?_ (fun hHeld=>?_);(·exact hHeld.trans (hb.mono hHeld.size));clear hK K;(try simp only[jz]);refine qz 4 hHeld ?_;refine qz 5 hHeld ?_;first|(refine rgn (i:=6) (atN rfl) (by kernel_rfl) (fun _ _ _ h=>h) ?_ hHeld ?_;(·rfl))|(refine qy 6 ?_ ?_ ?_ hHeld ?_;rotate_left 1;(·rfl);(·intro w' hSw;(try clear hHeld);go_simp;try with_reducible rfl))
  (try simp only[jz]);first|(refine rgn (i:=7) (atN rfl) (by kernel_rfl) (fun _ _ _ h=>h) ?_ hHeld ?_;(·rfl))|(refine qy 7 ?_ ?_ ?_ hHeld ?_;rotate_left 1;(·rfl);(·intro w' hSw;have cc:=jA cc hSw;have dc:=jA dc hSw;have cp:=jA cp hSw;have dp:=jA dp hSw;have co:=jA co hSw;have do_:=jA do_ hSw;(try clear hHeld);go_simp;try with_reducible rfl))
  (try simp only[jz]);first|(refine rgn (i:=8) (atN rfl) (by kernel_rfl) (fun _ _ _ h=>h) ?_ hHeld ?_;(·rfl))|(refine qy 8 ?_ ?_ ?_ hHeld ?_;rotate_left 1;(·rfl);(·intro w' hSw;(try clear hHeld);go_simp;try with_reducible rfl))
  (try simp only[jz]);first|(refine rgn (i:=9) (atN rfl) (by kernel_rfl) (fun _ _ _ h=>h) ?_ hHeld ?_;(·rfl))|(refine qy 9 ?_ ?_ ?_ hHeld ?_;rotate_left 1;(·rfl);(·intro w' hSw;have cc:=jA cc hSw;have dc:=jA dc hSw;have cp:=jA cp hSw;have dp:=jA dp hSw;have co:=jA co hSw;have do_:=jA do_ hSw;(try clear hHeld);go_simp;try with_reducible rfl))
  (try simp only[jz]);first|(refine rgn (i:=10) (atN rfl) (by kernel_rfl) (fun _ _ _ h=>h) ?_ hHeld ?_;(·rfl))|(refine jr 10 fun K hK=>?_;(try clear hb);go_simp;(refine(EI.out _ hHeld).mono ?_;rintro e w1 ⟨rfl,hb⟩);go_wp2_with fail;refine hK.out _ _ ?_ (fun hHeld=>?_);(·exact hHeld.trans (hb.mono hHeld.size));clear hK K)
  (try simp only[jz]);refine qz 11 hHeld ?_;refine qz 12 hHeld ?_;first|(refine rgn (i:=13) (atN rfl) (by kernel_rfl) (fun _ _ _ h=>h) ?_ hHeld ?_;(·rfl))|(refine qy 13 ?_ ?_ ?_ hHeld ?_;rotate_left 1;(·rfl);(·intro w' hSw;(try clear hHeld);go_simp;try with_reducible rfl))
  (try simp only[jz]);first|(refine rgn (i:=14) (atN rfl) (by kernel_rfl) (fun _ _ _ h=>h) ?_ hHeld ?_;(·rfl))|(refine qy 14 ?_ ?_ ?_ hHeld ?_;rotate_left 1;(·rfl);(·intro w' hSw;have cc:=jA cc hSw;have dc:=jA dc hSw;have cp:=jA cp hSw;have dp:=jA dp hSw;have co:=jA co hSw;have do_:=jA do_ hSw;(try clear hHeld);go_simp;try with_reducible rfl))
  (try simp only[jz]);first|(refine rgn (i:=15) (atN rfl) (by kernel_rfl) (fun _ _ _ h=>h) ?_ hHeld ?_;(·rfl))|(refine qy 15 ?_ ?_ ?_ hHeld ?_;rotate_left 1;(·rfl);(·intro w' hSw;(try clear hHeld);go_simp;try with_reducible rfl))
  (try simp only[jz]);first|(refine rgn (i:=16) (atN rfl) (by kernel_rfl) (fun _ _ _ h=>h) ?_ hHeld ?_;(·rfl))|(refine qy 16 ?_ ?_ ?_ hHeld ?_;rotate_left 1;(·rfl);(·intro w' hSw;have cc:=jA cc hSw;have dc:=jA dc hSw;have cp:=jA cp hSw;have dp:=jA dp hSw;have co:=jA co hSw;have do_:=jA do_ hSw;(try clear hHeld);go_simp;try with_reducible rfl))
  (try simp only[jz]);first|(refine rgn (i:=17) (atN rfl) (by kernel_rfl) (fun _ _ _ h=>h) ?_ hHeld ?_;(·rfl))|(refine jr 17 fun K hK=>?_;(try clear hb);go_simp;(refine(ES.out _ hHeld).mono ?_;rintro e w1 ⟨rfl,hb⟩);go_wp2_with fail;refine hK.out _ _ ?_ (fun hHeld=>?_);(·exact hHeld.trans (hb.mono hHeld.size));clear hK K)
  (try simp only[jz]);refine qz 18 hHeld ?_;refine qz 19 hHeld ?_;first|(refine rgn (i:=20) (atN rfl) (by kernel_rfl) (fun _ _ _ h=>h) ?_ hHeld ?_;(·rfl))|(refine qy 20 ?_ ?_ ?_ hHeld ?_;rotate_left 1;(·rfl);(·intro w' hSw;(try clear hHeld);go_simp;try with_reducible rfl))
  (try simp only[jz]);first|(refine rgn (i:=21) (atN rfl) (by kernel_rfl) (fun _ _ _ h=>h) ?_ hHeld ?_;(·rfl))|(refine qy 21 ?_ ?_ ?_ hHeld ?_;rotate_left 1;(·rfl);(·intro w' hSw;have cc:=jA cc hSw;have dc:=jA dc hSw;have cp:=jA cp hSw;have dp:=jA dp hSw;have co:=jA co hSw;have do_:=jA do_ hSw;(try clear hHeld);go_simp;try with_reducible rfl))
  (try simp only[jz]);first|(refine rgn (i:=22) (atN rfl) (by kernel_rfl) (fun _ _ _ h=>h) ?_ hHeld ?_;(·rfl))|(refine qy 22 ?_ ?_ ?_ hHeld ?_;rotate_left 1;(·rfl);(·intro w' hSw;(try clear hHeld);go_simp;try with_reducible rfl))
  (try simp only[jz]);first|(refine rgn (i:=23) (atN rfl) (by kernel_rfl) (fun _ _ _ h=>h) ?_ hHeld ?_;(·rfl))|(refine qy 23 ?_ ?_ ?_ hHeld ?_;rotate_left 1;(·rfl);(·intro w' hSw;have cc:=jA cc hSw;have dc:=jA dc hSw;have cp:=jA cp hSw;have dp:=jA dp hSw;have co:=jA co hSw;have do_:=jA do_ hSw;(try clear hHeld);go_simp;try with_reducible rfl))
  (try simp only[jz]);first|(refine rgn (i:=24) (atN rfl) (by kernel_rfl) (fun _ _ _ h=>h) ?_ hHeld ?_;(·rfl))|(refine jr 24 fun K hK=>?_;(try clear hb);go_simp;(refine(EO.out _ hHeld).mono ?_;rintro e w1 ⟨rfl,hb⟩);go_wp2_with fail;refine hK.out _ _ ?_ (fun hHeld=>?_);(·exact hHeld.trans (hb.mono hHeld.size));clear hK K)
  (try simp only[jz]);refine qz 25 hHeld ?_;refine qz 26 hHeld ?_;refine wpAnyH_done (by kernel_rfl) ?_ _;go_wp2_with fail;go_ret;exact⟨jL (by rw[R.out];rfl),jC HB.out hHeld⟩
 |true=>
  cases c1 with
  |false=>
   refine wp_region_held_drew (S:=fun w'=>Below W0.heap.size W0 w') (by kernel_rfl) ?_ (fun hHeld=>?_)
   ·exact(Below.refl _ _).drew
   refine qz 0 hHeld ?_ (hy:=by intro w' hSw;refine exec_ld 42 (.tmp 2) ?_ w.heap.size ?_ 42 _ (0,0) _ ((hSw.block _ (jE Q0.out)).trans Q0.out) Tryz.underlying42 rfl (by kernel_rfl)<;>rfl);refine qz 2 hHeld ?_ (hy:=by intro w' hSw;refine exec_ld 42 (.tmp 3) ?_ (w.heap.size+1) ?_ 42 _ (0,0) _ ((hSw.block _ (jE Q1.out)).trans Q1.out) Tryz.underlying42 rfl (by kernel_rfl)<;>rfl);refine jr 1 fun K hK=>?_;(try clear hb);go_simp;(refine(at_plain a _ _ _ _).mono ?_;rintro e w1 ⟨rfl,hb⟩);go_wp2_with fail;refine hK.out _ _ ?_ (fun hHeld=>?_);(·exact hHeld.trans (hb.mono hHeld.size));clear hK K;(try simp only[jz]);refine jr 3 fun K hK=>?_;(try clear hb);go_simp;(refine(at_plain b _ _ _ _).mono ?_;rintro e w1 ⟨rfl,hb⟩);go_wp2_with fail;refine hK.out _ _ ?_ (fun hHeld=>?_);(·exact hHeld.trans (hb.mono hHeld.size));clear hK K;(try simp only[jz]);refine qz 4 hHeld ?_;refine qz 5 hHeld ?_;first|(refine rgn (i:=6) (atN rfl) (by kernel_rfl) (fun _ _ _ h=>h) ?_ hHeld ?_;(·rfl))|(refine qy 6 ?_ ?_ ?_ hHeld ?_;rotate_left 1;(·rfl);(·intro w' hSw;(try clear hHeld);go_simp;try with_reducible rfl))
   (try simp only[jz]);first|(refine rgn (i:=7) (atN rfl) (by kernel_rfl) (fun _ _ _ h=>h) ?_ hHeld ?_;(·rfl))|(refine qy 7 ?_ ?_ ?_ hHeld ?_;rotate_left 1;(·rfl);(·intro w' hSw;have cc:=jA cc hSw;have dc:=jA dc hSw;have cp:=jA cp hSw;have dp:=jA dp hSw;have co:=jA co hSw;have do_:=jA do_ hSw;(try clear hHeld);go_simp;try with_reducible rfl))
   (try simp only[jz]);first|(refine rgn (i:=8) (atN rfl) (by kernel_rfl) (fun _ _ _ h=>h) ?_ hHeld ?_;(·rfl))|(refine qy 8 ?_ ?_ ?_ hHeld ?_;rotate_left 1;(·rfl);(·intro w' hSw;(try clear hHeld);go_simp;try with_reducible rfl))
   (try simp only[jz]);first|(refine rgn (i:=9) (atN rfl) (by kernel_rfl) (fun _ _ _ h=>h) ?_ hHeld ?_;(·rfl))|(refine qy 9 ?_ ?_ ?_ hHeld ?_;rotate_left 1;(·rfl);(·intro w' hSw;have cc:=jA cc hSw;have dc:=jA dc hSw;have cp:=jA cp hSw;have dp:=jA dp hSw;have co:=jA co hSw;have do_:=jA do_ hSw;(try clear hHeld);go_simp;try with_reducible rfl))
   (try simp only[jz]);first|(refine rgn (i:=10) (atN rfl) (by kernel_rfl) (fun _ _ _ h=>h) ?_ hHeld ?_;(·rfl))|(refine jr 10 fun K hK=>?_;(try clear hb);go_simp;(refine(EI.out _ hHeld).mono ?_;rintro e w1 ⟨rfl,hb⟩);go_wp2_with fail;refine hK.out _ _ ?_ (fun hHeld=>?_);(·exact hHeld.trans (hb.mono hHeld.size));clear hK K)
   (try simp only[jz]);refine qz 11 hHeld ?_;refine qz 12 hHeld ?_;first|(refine rgn (i:=13) (atN rfl) (by kernel_rfl) (fun _ _ _ h=>h) ?_ hHeld ?_;(·rfl))|(refine qy 13 ?_ ?_ ?_ hHeld ?_;rotate_left 1;(·rfl);(·intro w' hSw;(try clear hHeld);go_simp;try with_reducible rfl))
   (try simp only[jz]);first|(refine rgn (i:=14) (atN rfl) (by kernel_rfl) (fun _ _ _ h=>h) ?_ hHeld ?_;(·rfl))|(refine qy 14 ?_ ?_ ?_ hHeld ?_;rotate_left 1;(·rfl);(·intro w' hSw;have cc:=jA cc hSw;have dc:=jA dc hSw;have cp:=jA cp hSw;have dp:=jA dp hSw;have co:=jA co hSw;have do_:=jA do_ hSw;(try clear hHeld);go_simp;try with_reducible rfl))
   (try simp only[jz]);first|(refine rgn (i:=15) (atN rfl) (by kernel_rfl) (fun _ _ _ h=>h) ?_ hHeld ?_;(·rfl))|(refine qy 15 ?_ ?_ ?_ hHeld ?_;rotate_left 1;(·rfl);(·intro w' hSw;(try clear hHeld);go_simp;try with_reducible rfl))
   (try simp only[jz]);first|(refine rgn (i:=16) (atN rfl) (by kernel_rfl) (fun _ _ _ h=>h) ?_ hHeld ?_;(·rfl))|(refine qy 16 ?_ ?_ ?_ hHeld ?_;rotate_left 1;(·rfl);(·intro w' hSw;have cc:=jA cc hSw;have dc:=jA dc hSw;have cp:=jA cp hSw;have dp:=jA dp hSw;have co:=jA co hSw;have do_:=jA do_ hSw;(try clear hHeld);go_simp;try with_reducible rfl))
   (try simp only[jz]);first|(refine rgn (i:=17) (atN rfl) (by kernel_rfl) (fun _ _ _ h=>h) ?_ hHeld ?_;(·rfl))|(refine jr 17 fun K hK=>?_;(try clear hb);go_simp;(refine(ES.out _ hHeld).mono ?_;rintro e w1 ⟨rfl,hb⟩);go_wp2_with fail;refine hK.out _ _ ?_ (fun hHeld=>?_);(·exact hHeld.trans (hb.mono hHeld.size));clear hK K)
   (try simp only[jz]);refine qz 18 hHeld ?_;refine qz 19 hHeld ?_;first|(refine rgn (i:=20) (atN rfl) (by kernel_rfl) (fun _ _ _ h=>h) ?_ hHeld ?_;(·rfl))|(refine qy 20 ?_ ?_ ?_ hHeld ?_;rotate_left 1;(·rfl);(·intro w' hSw;(try clear hHeld);go_simp;try with_reducible rfl))
   (try simp only[jz]);first|(refine rgn (i:=21) (atN rfl) (by kernel_rfl) (fun _ _ _ h=>h) ?_ hHeld ?_;(·rfl))|(refine qy 21 ?_ ?_ ?_ hHeld ?_;rotate_left 1;(·rfl);(·intro w' hSw;have cc:=jA cc hSw;have dc:=jA dc hSw;have cp:=jA cp hSw;have dp:=jA dp hSw;have co:=jA co hSw;have do_:=jA do_ hSw;(try clear hHeld);go_simp;try with_reducible rfl))
   (try simp only[jz]);first|(refine rgn (i:=22) (atN rfl) (by kernel_rfl) (fun _ _ _ h=>h) ?_ hHeld ?_;(·rfl))|(refine qy 22 ?_ ?_ ?_ hHeld ?_;rotate_left 1;(·rfl);(·intro w' hSw;(try clear hHeld);go_simp;try with_reducible rfl))
   (try simp only[jz]);first|(refine rgn (i:=23) (atN rfl) (by kernel_rfl) (fun _ _ _ h=>h) ?_ hHeld ?_;(·rfl))|(refine qy 23 ?_ ?_ ?_ hHeld ?_;rotate_left 1;(·rfl);(·intro w' hSw;have cc:=jA cc hSw;have dc:=jA dc hSw;have cp:=jA cp hSw;have dp:=jA dp hSw;have co:=jA co hSw;have do_:=jA do_ hSw;(try clear hHeld);go_simp;try with_reducible rfl))
   (try simp only[jz]);first|(refine rgn (i:=24) (atN rfl) (by kernel_rfl) (fun _ _ _ h=>h) ?_ hHeld ?_;(·rfl))|(refine jr 24 fun K hK=>?_;(try clear hb);go_simp;(refine(EO.out _ hHeld).mono ?_;rintro e w1 ⟨rfl,hb⟩);go_wp2_with fail;refine hK.out _ _ ?_ (fun hHeld=>?_);(·exact hHeld.trans (hb.mono hHeld.size));clear hK K)
   (try simp only[jz]);refine qz 25 hHeld ?_;refine qz 26 hHeld ?_;refine wpAnyH_done (by kernel_rfl) ?_ _;go_wp2_with fail;go_ret;exact⟨jL (by rw[R.out];rfl),jC HB.out hHeld⟩
  |true=>
   cases c2 with
   |false=>
    refine wp_region_held_drew (S:=fun w'=>Below W0.heap.size W0 w') (by kernel_rfl) ?_ (fun hHeld=>?_)
    ·exact(Below.refl _ _).drew
    refine qz 0 hHeld ?_ (hy:=by intro w' hSw;refine exec_ld 42 (.tmp 2) ?_ w.heap.size ?_ 42 _ (0,0) _ ((hSw.block _ (jE Q0.out)).trans Q0.out) Tryz.underlying42 rfl (by kernel_rfl)<;>rfl);refine qz 2 hHeld ?_ (hy:=by intro w' hSw;refine exec_ld 42 (.tmp 3) ?_ (w.heap.size+1) ?_ 42 _ (0,0) _ ((hSw.block _ (jE Q1.out)).trans Q1.out) Tryz.underlying42 rfl (by kernel_rfl)<;>rfl);refine jr 1 fun K hK=>?_;(try clear hb);go_simp;(refine(at_plain a _ _ _ _).mono ?_;rintro e w1 ⟨rfl,hb⟩);go_wp2_with fail;refine hK.out _ _ ?_ (fun hHeld=>?_);(·exact hHeld.trans (hb.mono hHeld.size));clear hK K;(try simp only[jz]);refine jr 3 fun K hK=>?_;(try clear hb);go_simp;(refine(at_plain b _ _ _ _).mono ?_;rintro e w1 ⟨rfl,hb⟩);go_wp2_with fail;refine hK.out _ _ ?_ (fun hHeld=>?_);(·exact hHeld.trans (hb.mono hHeld.size));clear hK K;(try simp only[jz]);refine qz 4 hHeld ?_;refine qz 5 hHeld ?_;first|(refine rgn (i:=6) (atN rfl) (by kernel_rfl) (fun _ _ _ h=>h) ?_ hHeld ?_;(·rfl))|(refine qy 6 ?_ ?_ ?_ hHeld ?_;rotate_left 1;(·rfl);(·intro w' hSw;(try clear hHeld);go_simp;try with_reducible rfl))
    (try simp only[jz]);first|(refine rgn (i:=7) (atN rfl) (by kernel_rfl) (fun _ _ _ h=>h) ?_ hHeld ?_;(·rfl))|(refine qy 7 ?_ ?_ ?_ hHeld ?_;rotate_left 1;(·rfl);(·intro w' hSw;have cc:=jA cc hSw;have dc:=jA dc hSw;have cp:=jA cp hSw;have dp:=jA dp hSw;have co:=jA co hSw;have do_:=jA do_ hSw;(try clear hHeld);go_simp;try with_reducible rfl))
    (try simp only[jz]);first|(refine rgn (i:=8) (atN rfl) (by kernel_rfl) (fun _ _ _ h=>h) ?_ hHeld ?_;(·rfl))|(refine qy 8 ?_ ?_ ?_ hHeld ?_;rotate_left 1;(·rfl);(·intro w' hSw;(try clear hHeld);go_simp;try with_reducible rfl))
    (try simp only[jz]);first|(refine rgn (i:=9) (atN rfl) (by kernel_rfl) (fun _ _ _ h=>h) ?_ hHeld ?_;(·rfl))|(refine qy 9 ?_ ?_ ?_ hHeld ?_;rotate_left 1;(·rfl);(·intro w' hSw;have cc:=jA cc hSw;have dc:=jA dc hSw;have cp:=jA cp hSw;have dp:=jA dp hSw;have co:=jA co hSw;have do_:=jA do_ hSw;(try clear hHeld);go_simp;try with_reducible rfl))
    (try simp only[jz]);first|(refine rgn (i:=10) (atN rfl) (by kernel_rfl) (fun _ _ _ h=>h) ?_ hHeld ?_;(·rfl))|(refine jr 10 fun K hK=>?_;(try clear hb);go_simp;(refine(EI.out _ hHeld).mono ?_;rintro e w1 ⟨rfl,hb⟩);go_wp2_with fail;refine hK.out _ _ ?_ (fun hHeld=>?_);(·exact hHeld.trans (hb.mono hHeld.size));clear hK K)
    (try simp only[jz]);refine qz 11 hHeld ?_;refine qz 12 hHeld ?_;first|(refine rgn (i:=13) (atN rfl) (by kernel_rfl) (fun _ _ _ h=>h) ?_ hHeld ?_;(·rfl))|(refine qy 13 ?_ ?_ ?_ hHeld ?_;rotate_left 1;(·rfl);(·intro w' hSw;(try clear hHeld);go_simp;try with_reducible rfl))
    (try simp only[jz]);first|(refine rgn (i:=14) (atN rfl) (by kernel_rfl) (fun _ _ _ h=>h) ?_ hHeld ?_;(·rfl))|(refine qy 14 ?_ ?_ ?_ hHeld ?_;rotate_left 1;(·rfl);(·intro w' hSw;have cc:=jA cc hSw;have dc:=jA dc hSw;have cp:=jA cp hSw;have dp:=jA dp hSw;have co:=jA co hSw;have do_:=jA do_ hSw;(try clear hHeld);go_simp;try with_reducible rfl))
    (try simp only[jz]);first|(refine rgn (i:=15) (atN rfl) (by kernel_rfl) (fun _ _ _ h=>h) ?_ hHeld ?_;(·rfl))|(refine qy 15 ?_ ?_ ?_ hHeld ?_;rotate_left 1;(·rfl);(·intro w' hSw;(try clear hHeld);go_simp;try with_reducible rfl))
    (try simp only[jz]);first|(refine rgn (i:=16) (atN rfl) (by kernel_rfl) (fun _ _ _ h=>h) ?_ hHeld ?_;(·rfl))|(refine qy 16 ?_ ?_ ?_ hHeld ?_;rotate_left 1;(·rfl);(·intro w' hSw;have cc:=jA cc hSw;have dc:=jA dc hSw;have cp:=jA cp hSw;have dp:=jA dp hSw;have co:=jA co hSw;have do_:=jA do_ hSw;(try clear hHeld);go_simp;try with_reducible rfl))
    (try simp only[jz]);first|(refine rgn (i:=17) (atN rfl) (by kernel_rfl) (fun _ _ _ h=>h) ?_ hHeld ?_;(·rfl))|(refine jr 17 fun K hK=>?_;(try clear hb);go_simp;(refine(ES.out _ hHeld).mono ?_;rintro e w1 ⟨rfl,hb⟩);go_wp2_with fail;refine hK.out _ _ ?_ (fun hHeld=>?_);(·exact hHeld.trans (hb.mono hHeld.size));clear hK K)
    (try simp only[jz]);refine qz 18 hHeld ?_;refine qz 19 hHeld ?_;first|(refine rgn (i:=20) (atN rfl) (by kernel_rfl) (fun _ _ _ h=>h) ?_ hHeld ?_;(·rfl))|(refine qy 20 ?_ ?_ ?_ hHeld ?_;rotate_left 1;(·rfl);(·intro w' hSw;(try clear hHeld);go_simp;try with_reducible rfl))
    (try simp only[jz]);first|(refine rgn (i:=21) (atN rfl) (by kernel_rfl) (fun _ _ _ h=>h) ?_ hHeld ?_;(·rfl))|(refine qy 21 ?_ ?_ ?_ hHeld ?_;rotate_left 1;(·rfl);(·intro w' hSw;have cc:=jA cc hSw;have dc:=jA dc hSw;have cp:=jA cp hSw;have dp:=jA dp hSw;have co:=jA co hSw;have do_:=jA do_ hSw;(try clear hHeld);go_simp;try with_reducible rfl))
    (try simp only[jz]);first|(refine rgn (i:=22) (atN rfl) (by kernel_rfl) (fun _ _ _ h=>h) ?_ hHeld ?_;(·rfl))|(refine qy 22 ?_ ?_ ?_ hHeld ?_;rotate_left 1;(·rfl);(·intro w' hSw;(try clear hHeld);go_simp;try with_reducible rfl))
    (try simp only[jz]);first|(refine rgn (i:=23) (atN rfl) (by kernel_rfl) (fun _ _ _ h=>h) ?_ hHeld ?_;(·rfl))|(refine qy 23 ?_ ?_ ?_ hHeld ?_;rotate_left 1;(·rfl);(·intro w' hSw;have cc:=jA cc hSw;have dc:=jA dc hSw;have cp:=jA cp hSw;have dp:=jA dp hSw;have co:=jA co hSw;have do_:=jA do_ hSw;(try clear hHeld);go_simp;try with_reducible rfl))
    (try simp only[jz]);first|(refine rgn (i:=24) (atN rfl) (by kernel_rfl) (fun _ _ _ h=>h) ?_ hHeld ?_;(·rfl))|(refine jr 24 fun K hK=>?_;(try clear hb);go_simp;(refine(EO.out _ hHeld).mono ?_;rintro e w1 ⟨rfl,hb⟩);go_wp2_with fail;refine hK.out _ _ ?_ (fun hHeld=>?_);(·exact hHeld.trans (hb.mono hHeld.size));clear hK K)
    (try simp only[jz]);refine qz 25 hHeld ?_;refine qz 26 hHeld ?_;refine wpAnyH_done (by kernel_rfl) ?_ _;go_wp2_with fail;go_ret;exact⟨jL (by rw[R.out];rfl),jC HB.out hHeld⟩
   |true=>
    refine wp_region_held_drew (S:=fun w'=>Below W0.heap.size W0 w') (by kernel_rfl) ?_ (fun hHeld=>?_)
    ·exact(Below.refl _ _).drew
    refine qz 0 hHeld ?_ (hy:=by intro w' hSw;refine exec_ld 42 (.tmp 2) ?_ w.heap.size ?_ 42 _ (0,0) _ ((hSw.block _ (jE Q0.out)).trans Q0.out) Tryz.underlying42 rfl (by kernel_rfl)<;>rfl);refine qz 2 hHeld ?_ (hy:=by intro w' hSw;refine exec_ld 42 (.tmp 3) ?_ (w.heap.size+1) ?_ 42 _ (0,0) _ ((hSw.block _ (jE Q1.out)).trans Q1.out) Tryz.underlying42 rfl (by kernel_rfl)<;>rfl);refine jr 1 fun K hK=>?_;(try clear hb);go_simp;(refine(at_plain a _ _ _ _).mono ?_;rintro e w1 ⟨rfl,hb⟩);go_wp2_with fail;refine hK.out _ _ ?_ (fun hHeld=>?_);(·exact hHeld.trans (hb.mono hHeld.size));clear hK K;(try simp only[jz]);refine jr 3 fun K hK=>?_;(try clear hb);go_simp;(refine(at_plain b _ _ _ _).mono ?_;rintro e w1 ⟨rfl,hb⟩);go_wp2_with fail;refine hK.out _ _ ?_ (fun hHeld=>?_);(·exact hHeld.trans (hb.mono hHeld.size));clear hK K;(try simp only[jz]);refine qz 4 hHeld ?_;refine qz 5 hHeld ?_;first|(refine rgn (i:=6) (atN rfl) (by kernel_rfl) (fun _ _ _ h=>h) ?_ hHeld ?_;(·rfl))|(refine qy 6 ?_ ?_ ?_ hHeld ?_;rotate_left 1;(·rfl);(·intro w' hSw;(try clear hHeld);go_simp;try with_reducible rfl))
    (try simp only[jz]);first|(refine rgn (i:=7) (atN rfl) (by kernel_rfl) (fun _ _ _ h=>h) ?_ hHeld ?_;(·rfl))|(refine qy 7 ?_ ?_ ?_ hHeld ?_;rotate_left 1;(·rfl);(·intro w' hSw;have cc:=jA cc hSw;have dc:=jA dc hSw;have cp:=jA cp hSw;have dp:=jA dp hSw;have co:=jA co hSw;have do_:=jA do_ hSw;(try clear hHeld);go_simp;try with_reducible rfl))
    (try simp only[jz]);first|(refine rgn (i:=8) (atN rfl) (by kernel_rfl) (fun _ _ _ h=>h) ?_ hHeld ?_;(·rfl))|(refine qy 8 ?_ ?_ ?_ hHeld ?_;rotate_left 1;(·rfl);(·intro w' hSw;(try clear hHeld);go_simp;try with_reducible rfl))
    (try simp only[jz]);first|(refine rgn (i:=9) (atN rfl) (by kernel_rfl) (fun _ _ _ h=>h) ?_ hHeld ?_;(·rfl))|(refine qy 9 ?_ ?_ ?_ hHeld ?_;rotate_left 1;(·rfl);(·intro w' hSw;have cc:=jA cc hSw;have dc:=jA dc hSw;have cp:=jA cp hSw;have dp:=jA dp hSw;have co:=jA co hSw;have do_:=jA do_ hSw;(try clear hHeld);go_simp;try with_reducible rfl))
    (try simp only[jz]);first|(refine rgn (i:=10) (atN rfl) (by kernel_rfl) (fun _ _ _ h=>h) ?_ hHeld ?_;(·rfl))|(refine jr 10 fun K hK=>?_;(try clear hb);go_simp;(refine(EI.out _ hHeld).mono ?_;rintro e w1 ⟨rfl,hb⟩);go_wp2_with fail;refine hK.out _ _ ?_ (fun hHeld=>?_);(·exact hHeld.trans (hb.mono hHeld.size));clear hK K)
    (try simp only[jz]);refine qz 11 hHeld ?_;refine qz 12 hHeld ?_;first|(refine rgn (i:=13) (atN rfl) (by kernel_rfl) (fun _ _ _ h=>h) ?_ hHeld ?_;(·rfl))|(refine qy 13 ?_ ?_ ?_ hHeld ?_;rotate_left 1;(·rfl);(·intro w' hSw;(try clear hHeld);go_simp;try with_reducible rfl))
    (try simp only[jz]);first|(refine rgn (i:=14) (atN rfl) (by kernel_rfl) (fun _ _ _ h=>h) ?_ hHeld ?_;(·rfl))|(refine qy 14 ?_ ?_ ?_ hHeld ?_;rotate_left 1;(·rfl);(·intro w' hSw;have cc:=jA cc hSw;have dc:=jA dc hSw;have cp:=jA cp hSw;have dp:=jA dp hSw;have co:=jA co hSw;have do_:=jA do_ hSw;(try clear hHeld);go_simp;try with_reducible rfl))
    (try simp only[jz]);first|(refine rgn (i:=15) (atN rfl) (by kernel_rfl) (fun _ _ _ h=>h) ?_ hHeld ?_;(·rfl))|(refine qy 15 ?_ ?_ ?_ hHeld ?_;rotate_left 1;(·rfl);(·intro w' hSw;(try clear hHeld);go_simp;try with_reducible rfl))
    (try simp only[jz]);first|(refine rgn (i:=16) (atN rfl) (by kernel_rfl) (fun _ _ _ h=>h) ?_ hHeld ?_;(·rfl))|(refine qy 16 ?_ ?_ ?_ hHeld ?_;rotate_left 1;(·rfl);(·intro w' hSw;have cc:=jA cc hSw;have dc:=jA dc hSw;have cp:=jA cp hSw;have dp:=jA dp hSw;have co:=jA co hSw;have do_:=jA do_ hSw;(try clear hHeld);go_simp;try with_reducible rfl))
    (try simp only[jz]);first|(refine rgn (i:=17) (atN rfl) (by kernel_rfl) (fun _ _ _ h=>h) ?_ hHeld ?_;(·rfl))|(refine jr 17 fun K hK=>?_;(try clear hb);go_simp;(refine(ES.out _ hHeld).mono ?_;rintro e w1 ⟨rfl,hb⟩);go_wp2_with fail;refine hK.out _ _ ?_ (fun hHeld=>?_);(·exact hHeld.trans (hb.mono hHeld.size));clear hK K)
    (try simp only[jz]);refine qz 18 hHeld ?_;refine qz 19 hHeld ?_;first|(refine rgn (i:=20) (atN rfl) (by kernel_rfl) (fun _ _ _ h=>h) ?_ hHeld ?_;(·rfl))|(refine qy 20 ?_ ?_ ?_ hHeld ?_;rotate_left 1;(·rfl);(·intro w' hSw;(try clear hHeld);go_simp;try with_reducible rfl))
    (try simp only[jz]);first|(refine rgn (i:=21) (atN rfl) (by kernel_rfl) (fun _ _ _ h=>h) ?_ hHeld ?_;(·rfl))|(refine qy 21 ?_ ?_ ?_ hHeld ?_;rotate_left 1;(·rfl);(·intro w' hSw;have cc:=jA cc hSw;have dc:=jA dc hSw;have cp:=jA cp hSw;have dp:=jA dp hSw;have co:=jA co hSw;have do_:=jA do_ hSw;(try clear hHeld);go_simp;try with_reducible rfl))
    (try simp only[jz]);first|(refine rgn (i:=22) (atN rfl) (by kernel_rfl) (fun _ _ _ h=>h) ?_ hHeld ?_;(·rfl))|(refine qy 22 ?_ ?_ ?_ hHeld ?_;rotate_left 1;(·rfl);(·intro w' hSw;(try clear hHeld);go_simp;try with_reducible rfl))
    (try simp only[jz]);first|(refine rgn (i:=23) (atN rfl) (by kernel_rfl) (fun _ _ _ h=>h) ?_ hHeld ?_;(·rfl))|(refine qy 23 ?_ ?_ ?_ hHeld ?_;rotate_left 1;(·rfl);(·intro w' hSw;have cc:=jA cc hSw;have dc:=jA dc hSw;have cp:=jA cp hSw;have dp:=jA dp hSw;have co:=jA co hSw;have do_:=jA do_ hSw;(try clear hHeld);go_simp;try with_reducible rfl))
    (try simp only[jz]);first|(refine rgn (i:=24) (atN rfl) (by kernel_rfl) (fun _ _ _ h=>h) ?_ hHeld ?_;(·rfl))|(refine jr 24 fun K hK=>?_;(try clear hb);go_simp;(refine(EO.out _ hHeld).mono ?_;rintro e w1 ⟨rfl,hb⟩);go_wp2_with fail;refine hK.out _ _ ?_ (fun hHeld=>?_);(·exact hHeld.trans (hb.mono hHeld.size));clear hK K)
    (try simp only[jz]);refine qz 25 hHeld ?_;refine qz 26 hHeld ?_;refine wpAnyH_done (by kernel_rfl) ?_ _;go_wp2_with fail;go_ret;exact⟨jL (by rw[R.out];rfl),jC HB.out hHeld⟩
open Go.RowKit
def avOf (a:At) (ps:Option Addr) (pc:Nat) (cs:Option Addr) (cc:Nat) (os:Option Addr) (oc:Nat):AV:=
 ⟨a.has,a.origin,ps,a.path.length,pc,a.hop,a.med,a.loc,a.aggrAs,a.aggrId,cs,a.comms.length,cc,os,a.others.length,oc⟩
def AvAt (W:World) (a:At) (v:AV):Prop:=∃ps pc cs cc os oc,v=avOf a ps pc cs cc os oc∧AtL W a (.slice ps a.path.length pc) (.slice cs a.comms.length cc) (.slice os a.others.length oc)
theorem AvAt.below {W W':World} {a:At} {v:AV} (h:AvAt W a v) (hb:Below W.heap.size W W'):AvAt W' a v:=by
 obtain⟨ps,pc,cs,cc,os,oc,rfl,h⟩:=h;exact⟨ps,pc,cs,cc,os,oc,rfl,h.below hb⟩
theorem AvAt.form {W:World} {a:At} {v:AV} (h:AvAt W a v):∃vp vc vo,v.V=.agg (atV a vp vc vo).toArray∧AtL W a vp vc vo:=by
 obtain⟨ps,pc,cs,cc,os,oc,rfl,h⟩:=h;exact⟨_,_,_,rfl,h⟩
theorem av_of {W:World} {a:At} {vp vc vo:Value} (h:AtL W a vp vc vo):∃v:AV,v.V=.agg (atV a vp vc vo).toArray∧AvAt W a v:=by
 obtain⟨ps,pc,rfl,-⟩:=id h.1;obtain⟨cs,cc,rfl,-⟩:=id h.2.1;obtain⟨os,oc,rfl,-⟩:=id h.2.2;exact⟨avOf a ps pc cs cc os oc,rfl,ps,pc,cs,cc,os,oc,rfl,h⟩
theorem av_Clone (a:At) (v:AV) (w:World) (hA:AvAt w a v) (hz:AtSz a):Calls Tryz.prog 85 #[v.V] w fun e w'=>∃u:AV,e=.returned u.V∧Fresh w.heap.size w' (fun W=>AvAt W a u)∧Below w.heap.size w w':=by
 obtain⟨vp,vc,vo,e,h⟩:=hA.form;rw[e];refine(at_Clone a vp vc vo w h hz).mono ?_;rintro e w' ⟨vp',vc',vo',rfl,hf,hb⟩;obtain⟨u,hu,_⟩:=av_of hf.self.1;refine⟨u,by rw[hu],?_,hb⟩;intro W hW;obtain⟨hl,_⟩:=hf W hW;obtain⟨u',hu',ha⟩:=av_of hl;have:u'=u:=by
  have:=hu'.trans hu.symm;obtain⟨⟩:=u;obtain⟨⟩:=u';simp only[AV.V,Value.agg.injEq,Array.mk.injEq,List.cons.injEq,Value.int.injEq,Value.slice.injEq,and_true,true_and,Int.natCast_inj] at this
  simp_all
 rw[←this];exact ha
def AvU (W:World) (a:At) (v:AV):Prop:=∃ps pc cs cc os oc,v=avOf a ps pc cs cc os oc∧AtU W a (.slice ps a.path.length pc) (.slice cs a.comms.length cc) (.slice os a.others.length oc)
theorem AvU.at {W:World} {a:At} {v:AV} (h:AvU W a v):AvAt W a v:=by
 obtain⟨ps,pc,cs,cc,os,oc,rfl,h⟩:=h;exact⟨ps,pc,cs,cc,os,oc,rfl,h.atl⟩
theorem avu_of {W:World} {a:At} {vp vc vo:Value} (h:AtU W a vp vc vo):∃v:AV,v.V=.agg (atV a vp vc vo).toArray∧AvU W a v:=by
 obtain⟨ps,pc,rfl,-⟩:=id h.path;obtain⟨cs,cc,rfl,-⟩:=id h.comms;obtain⟨os,oc,rfl,-⟩:=id h.oths;exact⟨avOf a ps pc cs cc os oc,rfl,ps,pc,cs,cc,os,oc,rfl,h⟩
theorem av_CloneU (a:At) (v:AV) (w:World) (hA:AvAt w a v) (hz:AtSz a):Calls Tryz.prog 85 #[v.V] w fun e w'=>∃u:AV,e=.returned u.V∧Fresh w.heap.size w' (fun W=>AvU W a u)∧Below w.heap.size w w':=by
 obtain⟨vp,vc,vo,e,h⟩:=hA.form;rw[e];refine(at_Clone a vp vc vo w h hz).mono ?_;rintro e w' ⟨vp',vc',vo',rfl,hf,hb⟩;obtain⟨u,hu,_⟩:=av_of hf.self.1;refine⟨u,by rw[hu],?_,hb⟩;intro W hW;obtain⟨-,-,hl⟩:=hf W hW;obtain⟨u',hu',ha⟩:=avu_of hl;have:u'=u:=by
  have:=hu'.trans hu.symm;obtain⟨⟩:=u;obtain⟨⟩:=u';simp only[AV.V,Value.agg.injEq,Array.mk.injEq,List.cons.injEq,Value.int.injEq,Value.slice.injEq,and_true,true_and,Int.natCast_inj] at this
  simp_all
 rw[←this];exact ha
theorem av_Passes (a:At) (v:AV) (t:Int) (w:World) (hA:AvAt w a v):Calls Tryz.prog 94 #[v.V,.int .i64 t] w fun e w'=>e=.returned (.bool (passB a.path t))∧Below w.heap.size w w':=by
 obtain⟨vp,vc,vo,e,h⟩:=hA.form;rw[e];exact at_Passes a vp vc vo t w h.1
theorem av_Same (a b:At) (v u:AV) (w:World) (hA:AvAt w a v) (hB:AvAt w b u):Calls Tryz.prog 37 #[v.V,u.V] w fun e w'=>e=.returned (.bool (sameA a b))∧Below w.heap.size w w':=by
 obtain⟨vp,vc,vo,e,h⟩:=hA.form;obtain⟨vp',vc',vo',e',h'⟩:=hB.form;rw[e,e'];exact at_Same a b vp vc vo vp' vc' vo' w h h'
abbrev pKey (p:Pf):Nat:=keyN p.1.toNat p.2.toNat
def RgtP (p:Pf):Prop:=OkP p∧rightB p.1 p.2=true
theorem RgtP.nat {p:Pf} (h:RgtP p):∃a n:Nat,p=((a:Int),(n:Int))∧a<4294967296∧n≤32∧a%2^(32 - n)=0∧rightB (a:Int) (n:Int)=true:=by
 obtain⟨⟨h1,h2⟩,h3⟩:=h;obtain⟨a,n⟩:=p;simp only at h1 h2 h3;have hr:=rightB_range h3;obtain⟨a,rfl⟩:=Int.eq_ofNat_of_zero_le h1;obtain⟨n,rfl⟩:=Int.eq_ofNat_of_zero_le hr.1;exact⟨a,n,rfl,by omega,by omega,(right_mod.1 h3).1,h3⟩
theorem pKey_inj {p q:Pf} (hp:RgtP p) (hq:RgtP q) (h:pKey p=pKey q):p=q:=by
 obtain⟨a,n,rfl,ha,hn,hm,_⟩:=hp.nat;obtain⟨b,k,rfl,hb,hk,hm',_⟩:=hq.nat;obtain⟨e1,e2⟩:=keyN_inj (show a<4294967296 from ha) (show b<4294967296 from hb) (show n≤32 from hn) (show k≤32 from hk) h;subst e1;rw[key_block hm hm' e2]
structure Ent where
 p:Pf
 a:At
 v:AV
 lo:Nat
 hi:Nat
abbrev kvs (E:List Ent):List (Nat×AV):=E.map fun e=>(pKey e.p,e.v)
abbrev rts (E:List Ent):List (Pf×At):=E.map fun e=>(e.p,e.a)
def findE (E:List Ent) (p:Pf):Option Ent:=E.find? fun e=>e.p=p
def delE (E:List Ent) (p:Pf):List Ent:=E.filter fun e=>!decide (e.p=p)
theorem find_kvs {E:List Ent} (hE:∀e∈E,RgtP e.p) {p:Pf} (hp:RgtP p):getL (kvs E) (pKey p)=(findE E p).map (·.v):=by
 induction E with
 |nil=>rfl
 |cons e E ih=>
  have ih:=ih fun x hx=>hE x (List.mem_cons_of_mem _ hx);by_cases h:e.p=p
  ·unfold getL findE kvs;rw[List.map_cons,List.find?_cons_of_pos (by simp[h]),List.find?_cons_of_pos (by simpa using h)];rfl
  ·unfold getL findE kvs at ih;unfold getL findE kvs;rw[List.map_cons,List.find?_cons_of_neg (by simpa using fun x=>h (pKey_inj (hE e (List.mem_cons_self ..)) hp x)),List.find?_cons_of_neg (by simpa using h)];exact ih
theorem find_rts (E:List Ent) (p:Pf):getL (rts E) p=(findE E p).map (·.a):=by
 induction E with
 |nil=>rfl
 |cons e E ih=>
  by_cases h:e.p=p
  ·unfold getL findE rts;rw[List.map_cons,List.find?_cons_of_pos (by simpa using h),List.find?_cons_of_pos (by simpa using h)];rfl
  ·unfold getL findE rts at ih;unfold getL findE rts;rw[List.map_cons,List.find?_cons_of_neg (by simpa using h),List.find?_cons_of_neg (by simpa using h)];exact ih
theorem findE_mem {E:List Ent} {p:Pf} {e:Ent} (h:findE E p=some e):e∈E∧e.p=p:=by
 unfold findE at h;exact⟨List.mem_of_find?_eq_some h,by simpa using List.find?_some h⟩
theorem del_kvs {E:List Ent} (hE:∀e∈E,RgtP e.p) {p:Pf} (hp:RgtP p):delL (kvs E) (pKey p)=kvs (delE E p):=by
 unfold delL delE kvs;rw[List.filter_map];congr 1;refine List.filter_congr fun e he=>?_;simp only[Function.comp];congr 1;by_cases h:e.p=p
 ·simp[h]
 ·simpa [h] using fun x=>h (pKey_inj (hE e he) hp x)
theorem del_rts (E:List Ent) (p:Pf):delL (rts E) p=rts (delE E p):=by
 unfold delL delE rts;rw[List.filter_map];rfl
theorem mem_delE {E:List Ent} {p:Pf} {e:Ent}:e∈delE E p↔e∈E∧e.p≠p:=by unfold delE;simp
theorem apart_rts {E:List Ent} (h:KeysApart (kvs E)):KeysApart (rts E):=by
 unfold KeysApart at*;rw[List.pairwise_map] at*;exact h.imp fun {x y} hne e=>hne (by simp only;simp only at e;rw[e])
structure RibIn (w:World) (rb tb:Nat) (N:Nat→Option Nat) (E:List Ent) (peer own most:Int) (F:Nat→Prop):Prop where
 row:w.heap[rb]? =some (.cells #[.int .i64 peer,.int .i64 own,.int .i64 most,.pointer (some ⟨tb,0,none⟩)] 169 (0,0))
 tri:TrI w tb N (kvs E) most
 rgt:∀e∈E,RgtP e.p
 szs:∀e∈E,AtSz e.a
 ent:∀e∈E,e.hi≤w.heap.size∧On (fun k=>e.lo≤k∧k<e.hi) w (fun W=>AvAt W e.a e.v)
 frb:F rb
 ftr:∀b,TOwn tb N b→F b
 fen:∀e∈E,∀k,e.lo≤k→k<e.hi→F k
 apr:¬TOwn tb N rb
 apn:∀e∈E,∀b,TOwn tb N b∨b=rb→¬(e.lo≤b∧b<e.hi)
 most0:0≤most
 most1:most≤256
 room:E.length≤most
def RibAt (w:World) (rb:Nat) (peer own most:Int) (R:List (Pf×At)) (F:Nat→Prop):Prop:=∃tb N E,RibIn w rb tb N E peer own most F∧R=rts E
section
variable {w w':World} {rb tb:Nat} {N N':Nat→Option Nat} {E:List Ent} {peer own most:Int} {F G:Nat→Prop} {R:List (Pf×At)}
theorem RibIn.kept (h:RibIn w rb tb N E peer own most F) (hk:Kept G w w') (hG:∀k,k<w.heap.size→F k→¬G k):RibIn w' rb tb N E peer own most F:=
 ⟨(hk.block rb (jE h.row) (hG _ (jE h.row) h.frb)).trans h.row,h.tri.kept hk (fun b hb=>hG b (h.tri.own_lt hb) (h.ftr b hb)),h.rgt,h.szs,
  fun e he=>⟨Nat.le_trans (h.ent e he).1 hk.size,(h.ent e he).2.kept hk fun k hl hF=>hG k hl (h.fen e he k hF.1 hF.2)⟩,h.frb,h.ftr,h.fen,h.apr,h.apn,h.most0,h.most1,h.room⟩
theorem RibIn.below (h:RibIn w rb tb N E peer own most F) (hb:Below w.heap.size w w'):RibIn w' rb tb N E peer own most F:=h.kept (G:=fun _=>False) (Kept.of_below hb) fun _ _ _ h=>h
theorem RibIn.wide (h:RibIn w rb tb N E peer own most F) (hFG:∀k,F k→G k):RibIn w rb tb N E peer own most G:=
 ⟨h.row,h.tri,h.rgt,h.szs,h.ent,hFG _ h.frb,fun b hb=>hFG _ (h.ftr b hb),fun e he k h1 h2=>hFG _ (h.fen e he k h1 h2),h.apr,h.apn,h.most0,h.most1,h.room⟩
theorem RibAt.kept (h:RibAt w rb peer own most R F) (hk:Kept G w w') (hG:∀k,k<w.heap.size→F k→¬G k):RibAt w' rb peer own most R F:=by
 obtain⟨tb,N,E,h1,h2⟩:=h;exact⟨tb,N,E,h1.kept hk hG,h2⟩
theorem RibAt.below (h:RibAt w rb peer own most R F) (hb:Below w.heap.size w w'):RibAt w' rb peer own most R F:=by
 obtain⟨tb,N,E,h1,h2⟩:=h;exact⟨tb,N,E,h1.below hb,h2⟩
theorem RibAt.wide (h:RibAt w rb peer own most R F) (hFG:∀k,F k→G k):RibAt w rb peer own most R G:=by
 obtain⟨tb,N,E,h1,h2⟩:=h;exact⟨tb,N,E,h1.wide hFG,h2⟩
theorem RibAt.lt (h:RibAt w rb peer own most R F):rb<w.heap.size:=by
 obtain⟨tb,N,E,h1,h2⟩:=h;exact jE h1.row
theorem RibIn.cells (h:RibIn w rb tb N E peer own most F):w.cell? ⟨rb,0,none⟩=some (.int .i64 peer)∧w.cell? ⟨rb,1,none⟩=some (.int .i64 own)∧w.cell? ⟨rb,2,none⟩=some (.int .i64 most)∧w.cell? ⟨rb,3,none⟩=some (.pointer (some ⟨tb,0,none⟩)):=
 ⟨jB h.row 0,jB h.row 1,jB h.row 2,jB h.row 3⟩
theorem RibIn.drop (h:RibIn w rb tb N E peer own most F) {p:Pf} (hp:RgtP p) (ht:TrI w' tb N' (delL (kvs E) (pKey p)) most) (hs:∀k b,N' k=some b→N k=some b) (hk:Kept (TOwn tb N) w w'):RibIn w' rb tb N' (delE E p) peer own most F:=by
 have hto:∀b,TOwn tb N' b→TOwn tb N b:=fun b hb=>hb.imp_right fun ⟨k,e⟩=>⟨k,hs k b e⟩
 have hm:∀e∈delE E p,e∈E:=fun e he=>(mem_delE.1 he).1;refine⟨(hk.block rb (jE h.row) h.apr).trans h.row,?_,fun e he=>h.rgt e (hm e he),fun e he=>h.szs e (hm e he),fun e he=>⟨Nat.le_trans (h.ent e (hm e he)).1 hk.size,(h.ent e (hm e he)).2.kept hk fun k hl hF ho=>h.apn e (hm e he) k (.inl ho) hF⟩,
  h.frb,fun b hb=>h.ftr b (hto b hb),fun e he=>h.fen e (hm e he),fun x=>h.apr (hto _ x),fun e he b hb=>h.apn e (hm e he) b (hb.imp_left (hto b)),h.most0,h.most1,?_⟩
 ·rw[←del_kvs h.rgt hp];exact ht
 ·have:(delE E p).length≤E.length:=List.length_filter_le ..;have:=h.room;omega
theorem RibIn.put {w1:World} (h:RibIn w rb tb N E peer own most F) {p:Pf} {a:At} {v:AV} {lo hi:Nat} (hp:RgtP p) (hz:AtSz a) (hon:On (fun k=>lo≤k∧k<hi) w (fun W=>AvAt W a v)) (hhi:hi≤w.heap.size) (hlo:∀b,TOwn tb N b∨b=rb→¬(lo≤b∧b<hi)) (hF:∀k,lo≤k→k<hi→F k)
  (ht:TrI w1 tb N' (delL (kvs E) (pKey p)++[(pKey p,v)]) most) (hs:∀k b,N' k=some b→N k=some b∨w.heap.size≤b) (hk:Kept (TOwn tb N) w w1) (hr:((delE E p).length:Int)+1≤most):
  RibIn w1 rb tb N' (delE E p++[⟨p,a,v,lo,hi⟩]) peer own most (fun b=>F b∨(w.heap.size≤b∧b<w1.heap.size)):=by
 have hto:∀b,TOwn tb N' b→TOwn tb N b∨w.heap.size≤b:=fun b hb=>by
  rcases hb with e|⟨k,e⟩
  ·exact .inl (.inl e)
  ·exact(hs k b e).imp_left fun e=>.inr ⟨k,e⟩
 have hrl:=jE h.row;refine⟨(hk.block rb hrl h.apr).trans h.row,?_,?_,?_,?_,.inl h.frb,fun b hb=>(hto b hb).imp (h.ftr b) (fun hge=>⟨hge,ht.own_lt hb⟩),?_,?_,?_,h.most0,h.most1,?_⟩
 ·have:kvs (delE E p++[⟨p,a,v,lo,hi⟩])=delL (kvs E) (pKey p)++[(pKey p,v)]:=by
   rw[del_kvs h.rgt hp,kvs,List.map_append];rfl
  rw[this];exact ht
 ·intro e he;rcases List.mem_append.1 he with he|he
  ·exact h.rgt e (mem_delE.1 he).1
  ·simp at he;subst he;exact hp
 ·intro e he;rcases List.mem_append.1 he with he|he
  ·exact h.szs e (mem_delE.1 he).1
  ·simp at he;subst he;exact hz
 ·intro e he;rcases List.mem_append.1 he with he|he
  ·have he:=(mem_delE.1 he).1;exact⟨Nat.le_trans (h.ent e he).1 hk.size,(h.ent e he).2.kept hk fun k hl hF ho=>h.apn e he k (.inl ho) hF⟩
  ·simp at he;subst he;exact⟨Nat.le_trans hhi hk.size,hon.kept hk fun k hl hF ho=>hlo k (.inl ho) hF⟩
 ·intro e he k h1 h2;rcases List.mem_append.1 he with he|he
  ·exact .inl (h.fen e (mem_delE.1 he).1 k h1 h2)
  ·simp at he;subst he;exact .inl (hF k h1 h2)
 ·intro x;rcases hto _ x with x|x
  ·exact h.apr x
  ·omega
 ·intro e he b hb hx;have hb':(TOwn tb N b∨b=rb)∨w.heap.size≤b:=by
   rcases hb with hb|hb
   ·exact(hto b hb).imp_left .inl
   ·exact .inl (.inr hb)
  rcases List.mem_append.1 he with he|he
  ·have he:=(mem_delE.1 he).1;rcases hb' with hb|hb
   ·exact h.apn e he b hb hx
   ·have:=(h.ent e he).1;omega
  ·simp at he;subst he;rcases hb' with hb|hb
   ·exact hlo b hb hx
   ·simp only at hx;omega
 ·rw[List.length_append];simp only[List.length_cons,List.length_nil];omega
end
open Go.RowKit
abbrev Rts:=List (Pf×At)
def hadB (R:Rts) (p:Pf):Bool:=(getL R p).isSome
def turnB (R:Rts) (ns:List Pf) (a:At) (p:Pf):Bool:=match getL R p with|none=>decide (p∈ns)|some b=>!(decide (p∈ns))||!(sameA b a)
def dropAll (R:Rts) (ps:List Pf):Rts:=ps.foldl delL R
def putP (R:Rts) (p:Pf) (a:At):Rts:=delL R p++[(p,a)]
def putAll (R:Rts) (ps:List Pf) (a:At):Rts:=ps.foldl (fun R p=>putP R p a) R
def saidP (gone nets:List Pf):List Pf:=setOf (gone++nets)
def netsP (own:Int) (nets:List Pf) (a:At):List Pf:=if passB a.path own then [] else setOf nets
def cntP (R:Rts) (said ns:List Pf):Int:=(R.length:Int)+ns.length - (said.filter (hadB R)).length
def updP (own most:Int) (R:Rts) (kind:Int) (gone nets:List Pf) (a:At):Int×List Pf×Rts:=
 if kind=2 then
  if rights (gone++nets) then
   if cntP R (saidP gone nets) (netsP own nets a)>most then (32,[],R)
   else (0,(saidP gone nets).filter (turnB R (netsP own nets a) a),putAll (dropAll R (saidP gone nets)) (netsP own nets a) a)
  else (1,[],R)
 else (1,[],R)
theorem dropAll_snoc (R:Rts) (ps:List Pf) (p:Pf):dropAll R (ps++[p])=delL (dropAll R ps) p:=by unfold dropAll;rw[List.foldl_append];rfl
theorem putAll_snoc (R:Rts) (ps:List Pf) (p:Pf) (a:At):putAll R (ps++[p]) a=putP (putAll R ps a) p a:=by unfold putAll;rw[List.foldl_append];rfl
theorem take_snoc {α:Type} {l:List α} {k:Nat} {x:α} (h:l[k]? =some x):l.take (k+1)=l.take k++[x]:=by rw[List.take_add_one,h];rfl
theorem getL_dropAll (R:Rts):∀(ps:List Pf) (p:Pf),getL (dropAll R ps) p=if p∈ps then none else getL R p
 |ps,p=>by
  unfold dropAll
  induction ps generalizing R with
  |nil=>simp
  |cons q ps ih=>
   rw[List.foldl_cons,ih,getL_del];by_cases h1:p∈ps
   ·rw[if_pos h1,if_pos (List.mem_cons_of_mem _ h1)]
   ·by_cases h2:p=q
    ·subst h2;simp
    ·rw[if_neg h1,if_neg h2,if_neg (by simp[h1,h2])]
theorem len_dropAll {R:Rts} (h:KeysApart R):∀{ps:List Pf},ps.Nodup→(dropAll R ps).length+(ps.filter (hadB R)).length=R.length
 |ps,hn=>by
  induction ps generalizing R with
  |nil=>simp[dropAll]
  |cons q ps ih=>
   obtain⟨h1,h2⟩:=List.nodup_cons.1 hn;have ih:=ih (apart_del h q) h2;have e:dropAll R (q::ps)=dropAll (delL R q) ps:=rfl;have e2:ps.filter (hadB (delL R q))=ps.filter (hadB R):=by
    refine List.filter_congr fun p hp=>?_;unfold hadB;rw[getL_del,if_neg (fun (e:p=q)=>h1 (e▸hp))]
   rw[e2] at ih;rw[e];have hl:=len_del h q;rw[List.filter_cons];by_cases hq:hadB R q=true
   ·rw[if_pos hq];unfold hadB at hq;rw[hq] at hl;simp only[if_true] at hl;have:0<R.length:=by
     obtain⟨v,hv⟩:=Option.isSome_iff_exists.1 hq;exact List.length_pos_of_mem (getL_mem hv)
    simp only[List.length_cons];omega
   ·rw[if_neg hq];unfold hadB at hq;rw[if_neg hq] at hl;omega
theorem getL_put1 (R:Rts) (p:Pf) (a:At) (q:Pf):getL (putP R p a) q=if q=p then some a else getL R q:=by
 unfold putP;rw[getL_append,getL_del];by_cases h:q=p
 ·subst h;rw[if_pos rfl,if_pos rfl];simp[getL]
 ·rw[if_neg h,if_neg h];have:getL [(p,a)] q=none:=by rw[getL_none];intro x hx;simp at hx;subst hx;exact fun e=>h e.symm
  rw[this];cases getL R q<;>rfl
theorem getL_putAll (a:At):∀(ps:List Pf) (R:Rts) (q:Pf),getL (putAll R ps a) q=if q∈ps then some a else getL R q
 |[],R,q=>by simp[putAll]
 |p::ps,R,q=>by
  have ih:=getL_putAll a ps (putP R p a) q;have e:putAll R (p::ps) a=putAll (putP R p a) ps a:=rfl;rw[e,ih,getL_put1];by_cases h1:q∈ps
  ·rw[if_pos h1,if_pos (List.mem_cons_of_mem _ h1)]
  ·by_cases h2:q=p
   ·subst h2;simp
   ·rw[if_neg h1,if_neg h2,if_neg (by simp[h1,h2])]
theorem delL_no {R:Rts} {p:Pf} (h:getL R p=none):delL R p=R:=by
 unfold delL;rw[List.filter_eq_self];intro q hq;simpa using getL_none.1 h q hq
theorem len_putAll (a:At):∀(ps:List Pf) (R:Rts),ps.Nodup→(∀p∈ps,getL R p=none)→(putAll R ps a).length=R.length+ps.length
 |[],R,_,_=>by simp[putAll]
 |p::ps,R,hn,h=>by
  obtain⟨h1,h2⟩:=List.nodup_cons.1 hn;have e:putAll R (p::ps) a=putAll (putP R p a) ps a:=rfl;rw[e,len_putAll a ps _ h2 (fun q hq=>by
   rw[getL_put1,if_neg (fun (e:q=p)=>h1 (e▸hq))];exact h q (List.mem_cons_of_mem _ hq))]
  unfold putP;rw[delL_no (h p (List.mem_cons_self ..)),List.length_append];simp only[List.length_cons,List.length_nil];omega
theorem said_srt (gone nets:List Pf):Srt (saidP gone nets)∧∀p,p∈saidP gone nets↔p∈gone∨p∈nets:=by
 have:=setOf_srt (gone++nets);exact⟨this.1,fun p=>by rw[saidP,this.2 p,List.mem_append]⟩
theorem nets_srt (own:Int) (nets:List Pf) (a:At):Srt (netsP own nets a)∧∀p,p∈netsP own nets a→p∈nets:=by
 unfold netsP;split
 ·exact⟨List.Pairwise.nil,fun p hp=>by simp at hp⟩
 ·exact⟨(setOf_srt nets).1,fun p hp=>((setOf_srt nets).2 p).1 hp⟩
theorem cnt_len {R:Rts} (h:KeysApart R) {said ns:List Pf} (hn:said.Nodup):cntP R said ns=((dropAll R said).length:Int)+ns.length:=by
 have:=len_dropAll h hn;unfold cntP;omega
theorem filter_take {α:Type} (f:α→Bool) {l:List α} {k:Nat} {x:α} (h:l[k]? =some x):(l.take (k+1)).filter f=(l.take k).filter f++if f x then [x] else []:=by
 rw[take_snoc h,List.filter_append];congr 1;by_cases hf:f x=true
 ·rw[if_pos hf];simp[hf]
 ·rw[if_neg hf];simp[hf]
theorem rights_mem {ps:List Pf} (h:rights ps=true):∀p∈ps,rightB p.1 p.2=true:=by
 unfold rights at h;rw[List.all_eq_true] at h;exact h
theorem get_left (R:Rts) {said:List Pf} (h:Srt said) {k:Nat} {x:Pf} (hx:said[k]? =some x):getL (dropAll R (said.take k)) x=getL R x:=by
 rw[getL_dropAll,if_neg];intro hm;obtain⟨i,hi⟩:=List.mem_iff_getElem?.1 hm;have hil:i<k:=by have:=(List.getElem?_eq_some_iff.1 hi).1;rw[List.length_take] at this;omega
 rw[List.getElem?_take_of_lt hil] at hi;exact plt_irrefl x (srt_lt h hi hx hil)
theorem drop_next (R:Rts) {said:List Pf} {k:Nat} {x:Pf} (hx:said[k]? =some x):dropAll R (said.take (k+1))=delL (dropAll R (said.take k)) x:=by
 rw[take_snoc hx,dropAll_snoc]
theorem put_next (R:Rts) (a:At) {ns:List Pf} {k:Nat} {x:Pf} (hx:ns[k]? =some x):putAll R (ns.take (k+1)) a=putP (putAll R (ns.take k) a) x a:=by
 rw[take_snoc hx,putAll_snoc]
open Go.RowKit
structure Rel (R L:Rts):Prop where
 r:KeysApart R
 l:KeysApart L
 eq:∀p,getL R p=getL L p
theorem keys_nodup {R:Rts} (h:KeysApart R):(R.map (·.1)).Nodup:=by
 unfold KeysApart at h;rw[List.nodup_iff_pairwise_ne,List.pairwise_map];exact h
theorem mem_keys {R:Rts} {p:Pf}:p∈R.map (·.1)↔(getL R p).isSome=true:=by
 rw[List.mem_map];constructor
 ·rintro⟨x,hx,rfl⟩;by_cases h:getL R x.1=none
  ·exact absurd rfl (getL_none.1 h x hx)
  ·exact Option.isSome_iff_ne_none.2 h
 ·intro h;obtain⟨a,ha⟩:=Option.isSome_iff_exists.1 h;exact⟨(p,a),getL_mem ha,rfl⟩
theorem Rel.len {R L:Rts} (h:Rel R L):R.length=L.length:=by
 have:(R.map (·.1)).Perm (L.map (·.1)):=(List.perm_ext_iff_of_nodup (keys_nodup h.r) (keys_nodup h.l)).2 fun p=>by rw[mem_keys,mem_keys,h.eq]
 simpa using this.length_eq
theorem Rel.nil:Rel [] []:=⟨List.Pairwise.nil,List.Pairwise.nil,fun _=>rfl⟩
open Go.RowKit
structure Pm where
 as_:Int
 id:Nat
 there:Bool
 R:Rts
 news:Pf→Bool
def cdOf (i:Nat) (p:Pf) (id:Nat) (a:At):Cd:=⟨(i:Int),p.1.toNat,p.2,a,id⟩
def saidOne (p:Pf) (i:Nat) (m:Pm):List Cd:=match getL m.R p with|none=>[]|some a=>[cdOf i p m.id a]
def saidF (p:Pf):Nat→List Pm→List Cd
 |_,[]=>[]
 |i,m::ms=>saidOne p i m++saidF p (i+1) ms
def saidS (ms:List Pm) (p:Pf):List Cd:=saidF p 0 ms
def goesC (own:Int) (bl:Nat→Bool) (rc:Nat) (t:Int) (c:Cd):Bool:=goesB own bl c.a c.peer.toNat rc t
def offL (own:Int) (bl:Nat→Bool) (rc:Nat) (t:Int) (l:List Cd):List Cd:=l.filter (goesC own bl rc t)
def asOf (ms:List Pm) (rc:Nat):Int:=((ms[rc]?).map (·.as_)).getD 0
def offS (own:Int) (bl:Nat→Bool) (ms:List Pm) (rc:Nat) (p:Pf):List Cd:=offL own bl rc (asOf ms rc) (saidS ms p)
def pickB (l:List Cd):Option (Int×At):=if bestI l<0 then none else (l[(bestI l).toNat]?).map fun c=>(c.peer,c.a)
def bestS (own:Int) (bl:Nat→Bool) (ms:List Pm) (rc:Nat) (p:Pf):Option (Int×At):=pickB (offS own bl ms rc p)
theorem saidF_snoc (p:Pf):∀(ms:List Pm) (i:Nat) (m:Pm),saidF p i (ms++[m])=saidF p i ms++saidOne p (i+ms.length) m
 |[],i,m=>by simp[saidF]
 |x::ms,i,m=>by
  rw[List.cons_append,saidF,saidF_snoc p ms (i+1) m,saidF,List.length_cons,List.append_assoc,show i+1+ms.length=i+(ms.length+1) by omega]
theorem saidS_take (p:Pf) {ms:List Pm} {k:Nat} {m:Pm} (h:ms[k]? =some m):saidS (ms.take (k+1)) p=saidS (ms.take k) p++saidOne p k m:=by
 unfold saidS;rw[take_snoc h,saidF_snoc];have:(ms.take k).length=k:=by rw[List.length_take];have:=(List.getElem?_eq_some_iff.1 h).1;omega
 rw[this,Nat.zero_add]
theorem saidF_mem {p:Pf} {c:Cd}:∀{ms:List Pm} {i:Nat},c∈saidF p i ms→∃(k:Nat) (m:Pm) (a:At),ms[k]? =some m∧getL m.R p=some a∧c=cdOf (i+k) p m.id a
 |[],i,h=>by simp[saidF] at h
 |m::ms,i,h=>by
  rw[saidF,List.mem_append] at h;rcases h with h|h
  ·unfold saidOne at h;cases hg:getL m.R p with
   |none=>rw[hg] at h;simp at h
   |some a=>
    rw[hg] at h;exact⟨0,m,a,rfl,hg,List.mem_singleton.1 h⟩
  ·obtain⟨k,m',a,h1,h2,h3⟩:=saidF_mem h;exact⟨k+1,m',a,by simpa using h1,h2,by rw[h3];congr 1;omega⟩
theorem saidS_mem {p:Pf} {c:Cd} {ms:List Pm} (h:c∈saidS ms p):∃(k:Nat) (m:Pm) (a:At),ms[k]? =some m∧getL m.R p=some a∧c=cdOf k p m.id a:=by
 obtain⟨k,m,a,h1,h2,h3⟩:=saidF_mem h;exact⟨k,m,a,h1,h2,by rw[h3,Nat.zero_add]⟩
theorem saidF_len (p:Pf):∀(ms:List Pm) (i:Nat),(saidF p i ms).length≤ms.length
 |[],_=>by simp[saidF]
 |m::ms,i=>by
  rw[saidF,List.length_append,List.length_cons];have:=saidF_len p ms (i+1);have:(saidOne p i m).length≤1:=by unfold saidOne;split<;>simp
  omega
theorem saidS_len (p:Pf) (ms:List Pm):(saidS ms p).length≤ms.length:=saidF_len p ms 0
theorem saidF_congr {p:Pf}:∀{ms ns:List Pm} {i:Nat},ms.length=ns.length→(∀(k:Nat) (m n:Pm),ms[k]? =some m→ns[k]? =some n→m.id=n.id∧getL m.R p=getL n.R p)→saidF p i ms=saidF p i ns
 |[],[],_,_,_=>rfl
 |[],_::_,_,h,_=>by simp at h
 |_::_,[],_,h,_=>by simp at h
 |m::ms,n::ns,i,hl,h=>by
  rw[saidF,saidF,saidF_congr (by simpa using hl) fun k x y hx hy=>h (k+1) x y (by simpa using hx) (by simpa using hy)];obtain⟨h1,h2⟩:=h 0 m n rfl rfl;unfold saidOne;rw[h1,h2]
theorem pickB_none {l:List Cd}:pickB l=none↔l=[]:=by
 constructor
 ·intro h;by_cases e:l=[]
  ·exact e
  ·obtain⟨i,c,h1,h2,-⟩:=bestI_spec e;unfold pickB at h;rw[h2,if_neg (by omega),Int.toNat_natCast,h1] at h;cases h
 ·rintro rfl;rfl
theorem pickB_some {l:List Cd} (h:l≠[]):∃(i:Nat) (c:Cd),l[i]? =some c∧bestI l=i∧pickB l=some (c.peer,c.a):=by
 obtain⟨i,c,h1,h2,-⟩:=bestI_spec h;refine⟨i,c,h1,h2,?_⟩;unfold pickB;rw[h2,if_neg (by omega),Int.toNat_natCast,h1];rfl
structure Sv where
 own:Int
 most:Int
 bl:Nat→Bool
 ms:List Pm
 best:Nat→Pf→Option (Int×At)
def sameB:Option (Int×At)→Option (Int×At)→Bool
 |none,none=>true
 |some x,some y=>x.1==y.1&&sameA x.2 y.2
 |_,_=>false
theorem sameB_iff (x y:Option (Int×At)):sameB x y=true↔x=y:=by
 match x,y with
 |none,none=>simp[sameB]
 |none,some _=>simp[sameB]
 |some _,none=>simp[sameB]
 |some (i,a),some (j,b)=>simp[sameB,sameA_iff]
def updB (f:Nat→Pf→Option (Int×At)) (rc:Nat) (p:Pf) (b:Option (Int×At)):Nat→Pf→Option (Int×At):=fun i q=>if i=rc∧q=p then b else f i q
def Pm.mark (m:Pm) (p:Pf) (c:Bool):Pm:={m with news:=fun q=>m.news q||(c&&decide (q=p))}
def setBestS (S:Sv) (rc:Nat) (p:Pf) (b:Option (Int×At)):Sv:={S with best:=updB S.best rc p b}
def markS (S:Sv) (rc:Nat) (p:Pf) (c:Bool):Sv:={S with ms:=S.ms.modify rc fun m=>m.mark p (m.there&&c)}
def newBest (S:Sv) (rc:Nat) (l:List Cd):Option (Int×At):=pickB (offL S.own S.bl rc (asOf S.ms rc) l)
def renewP (S:Sv) (rc:Nat) (p:Pf) (l:List Cd):Sv:=markS (setBestS S rc p (newBest S rc l)) rc p (!sameB (S.best rc p) (newBest S rc l))
def turn1 (S:Sv) (p:Pf) (l:List Cd) (k:Nat):Sv:=(List.range k).foldl (fun S rc=>renewP S rc p l) S
def turnP (S:Sv) (p:Pf):Sv:=turn1 S p (saidS S.ms p) S.ms.length
def turnS (S:Sv) (ps:List Pf):Sv:=ps.foldl turnP S
theorem turn1_succ (S:Sv) (p:Pf) (l:List Cd) (k:Nat):turn1 S p l (k+1)=renewP (turn1 S p l k) k p l:=by
 unfold turn1;rw[List.range_succ,List.foldl_append];rfl
theorem turnS_snoc (S:Sv) (ps:List Pf) (p:Pf):turnS S (ps++[p])=turnP (turnS S ps) p:=by unfold turnS;rw[List.foldl_append];rfl
theorem turnS_app (S:Sv) (ps qs:List Pf):turnS S (ps++qs)=turnS (turnS S ps) qs:=by unfold turnS;rw[List.foldl_append]
@[simp] theorem markS_own (S:Sv) (rc:Nat) (p:Pf) (c:Bool):(markS S rc p c).own=S.own:=rfl
@[simp] theorem markS_bl (S:Sv) (rc:Nat) (p:Pf) (c:Bool):(markS S rc p c).bl=S.bl:=rfl
@[simp] theorem markS_best (S:Sv) (rc:Nat) (p:Pf) (c:Bool):(markS S rc p c).best=S.best:=rfl
theorem markS_len (S:Sv) (rc:Nat) (p:Pf) (c:Bool):(markS S rc p c).ms.length=S.ms.length:=by unfold markS;simp
theorem markS_get (S:Sv) (rc:Nat) (p:Pf) (c:Bool) (i:Nat):(markS S rc p c).ms[i]? =(S.ms[i]?).map fun m=>if i=rc then m.mark p (m.there&&c) else m:=by
 unfold markS;simp only[List.getElem?_modify];cases S.ms[i]? with
 |none=>rfl
 |some m=>
  simp only[Option.map_some,Option.map_eq_map,eq_comm (a:=rc)]
structure SvKin (S T:Sv):Prop where
 own:T.own=S.own
 most:T.most=S.most
 bl:T.bl=S.bl
 len:T.ms.length=S.ms.length
 mem:∀(i:Nat) (m:Pm),S.ms[i]? =some m→∃n,T.ms[i]? =some n∧n.as_=m.as_∧n.id=m.id∧n.there=m.there∧n.R=m.R
theorem SvKin.refl (S:Sv):SvKin S S:=⟨rfl,rfl,rfl,rfl,fun _ m h=>⟨m,h,rfl,rfl,rfl,rfl⟩⟩
theorem SvKin.trans {S T U:Sv} (h:SvKin S T) (k:SvKin T U):SvKin S U:=
 ⟨k.own.trans h.own,k.most.trans h.most,k.bl.trans h.bl,k.len.trans h.len,fun i m hm=>by
  obtain⟨n,h1,h2,h3,h4,h5⟩:=h.mem i m hm;obtain⟨o,k1,k2,k3,k4,k5⟩:=k.mem i n h1;exact⟨o,k1,k2.trans h2,k3.trans h3,k4.trans h4,k5.trans h5⟩⟩
theorem SvKin.back {S T:Sv} (h:SvKin S T) {i:Nat} {n:Pm} (hn:T.ms[i]? =some n):∃m,S.ms[i]? =some m∧n.as_=m.as_∧n.id=m.id∧n.there=m.there∧n.R=m.R:=by
 have hi:i<S.ms.length:=by rw[←h.len];exact(List.getElem?_eq_some_iff.1 hn).1
 obtain⟨m,hm⟩:∃m,S.ms[i]? =some m:=⟨_,List.getElem?_eq_getElem hi⟩
 obtain⟨n',h1,h2⟩:=h.mem i m hm;rw[hn] at h1;injection h1 with h1;subst h1;exact⟨m,hm,h2⟩
theorem SvKin.said {S T:Sv} (h:SvKin S T) (p:Pf):saidS T.ms p=saidS S.ms p:=
 saidF_congr h.len fun k m n hm hn=>by
  obtain⟨m',h1,h2,h3,h4,h5⟩:=h.back hm;rw[hn] at h1;injection h1 with h1;subst h1;exact⟨h3,by rw[h5]⟩
theorem SvKin.asO {S T:Sv} (h:SvKin S T) (rc:Nat):asOf T.ms rc=asOf S.ms rc:=by
 unfold asOf;cases hm:S.ms[rc]? with
 |none=>
  have:T.ms[rc]? =none:=by rw[List.getElem?_eq_none_iff] at hm ⊢;rw[h.len];exact hm
  rw[this]
 |some m=>
  obtain⟨n,h1,h2,-⟩:=h.mem rc m hm;rw[h1];simp[h2]
theorem kin_mark (S:Sv) (rc:Nat) (p:Pf) (c:Bool):SvKin S (markS S rc p c):=
 ⟨rfl,rfl,rfl,markS_len ..,fun i m hm=>by
  rw[markS_get,hm];refine⟨_,rfl,?_⟩;split<;>exact⟨rfl,rfl,rfl,rfl⟩⟩
theorem kin_best (S:Sv) (rc:Nat) (p:Pf) (b:Option (Int×At)):SvKin S (setBestS S rc p b):=⟨rfl,rfl,rfl,rfl,fun _ m h=>⟨m,h,rfl,rfl,rfl,rfl⟩⟩
theorem kin_renew (S:Sv) (rc:Nat) (p:Pf) (l:List Cd):SvKin S (renewP S rc p l):=(kin_best S rc p _).trans (kin_mark _ rc p _)
theorem kin_turn1 (S:Sv) (p:Pf) (l:List Cd):∀k,SvKin S (turn1 S p l k)
 |0=>SvKin.refl S
 |k+1=>by rw[turn1_succ];exact(kin_turn1 S p l k).trans (kin_renew ..)
theorem kin_turn:∀(ps:List Pf) (S:Sv),SvKin S (turnS S ps)
 |[],S=>SvKin.refl S
 |p::ps,S=>(kin_turn1 S p _ _).trans (kin_turn ps (turnP S p))
def bestIn (S:Sv) (rc:Nat) (p:Pf):Option (Int×At):=bestS S.own S.bl S.ms rc p
theorem SvKin.bestIn {S T:Sv} (h:SvKin S T) (rc:Nat) (p:Pf):bestIn T rc p=bestIn S rc p:=by
 unfold Proofs.YtkoidahgbbabiaaGreat.bestIn bestS offS;rw[h.own,h.bl,h.asO,h.said]
theorem newBest_said (S:Sv) (rc:Nat) (p:Pf):newBest S rc (saidS S.ms p)=bestIn S rc p:=rfl
theorem SvKin.newBest {S T:Sv} (h:SvKin S T) (rc:Nat) (l:List Cd):newBest T rc l=newBest S rc l:=by
 unfold Proofs.YtkoidahgbbabiaaGreat.newBest;rw[h.own,h.bl,h.asO]
theorem turn1_best (S:Sv) (p:Pf) (l:List Cd):∀(k i:Nat) (q:Pf),(turn1 S p l k).best i q=if i<k∧q=p then newBest S i l else S.best i q
 |0,i,q=>by rw[if_neg (by omega)];rfl
 |k+1,i,q=>by
  rw[turn1_succ];unfold renewP setBestS;simp only[markS_best];unfold updB;rw[turn1_best S p l k,(kin_turn1 S p l k).newBest];by_cases h:i=k∧q=p
  ·obtain⟨rfl,rfl⟩:=h;rw[if_pos ⟨rfl,rfl⟩,if_pos ⟨by omega,rfl⟩]
  ·rw[if_neg h];by_cases h2:i<k∧q=p
   ·rw[if_pos h2,if_pos ⟨by omega,h2.2⟩]
   ·rw[if_neg h2,if_neg (fun h3=>?_)];by_cases e:i=k
    ·exact h ⟨e,h3.2⟩
    ·exact h2 ⟨by omega,h3.2⟩
theorem turn1_mem (S:Sv) (p:Pf) (l:List Cd):∀(k i:Nat) (m:Pm),S.ms[i]? =some m→(turn1 S p l k).ms[i]? =some (if i<k then m.mark p (m.there&&!sameB (S.best i p) (newBest S i l)) else m)
 |0,i,m,hm=>by rw[if_neg (by omega)];exact hm
 |k+1,i,m,hm=>by
  rw[turn1_succ];unfold renewP;rw[markS_get];unfold setBestS;simp only;rw[turn1_mem S p l k i m hm,(kin_turn1 S p l k).newBest,turn1_best,if_neg (by omega)];simp only[Option.map_some,Option.some.injEq];by_cases h:i=k
  ·subst h;rw[if_pos rfl,if_neg (by omega),if_pos (by omega)]
  ·rw[if_neg h];by_cases h2:i<k
   ·rw[if_pos h2,if_pos (by omega)]
   ·rw[if_neg h2,if_neg (by omega)]
theorem mark_news (m:Pm) (p:Pf) (c:Bool) (q:Pf):(m.mark p c).news q=(m.news q||(c&&decide (q=p))):=rfl
theorem turnS_best:∀(ps:List Pf) (S:Sv) (i:Nat) (q:Pf),i<S.ms.length→(turnS S ps).best i q=if q∈ps then bestIn S i q else S.best i q
 |[],S,i,q,_=>by rw[if_neg (by simp)];rfl
 |p::ps,S,i,q,hi=>by
  have hk:SvKin S (turnP S p):=kin_turn1 S p _ _;show (turnS (turnP S p) ps).best i q=_;rw[turnS_best ps (turnP S p) i q (by rw[hk.len];exact hi),hk.bestIn];by_cases h:q∈ps
  ·rw[if_pos h,if_pos (List.mem_cons_of_mem _ h)]
  ·rw[if_neg h];unfold turnP;rw[turn1_best];by_cases e:q=p
   ·subst e;rw[if_pos ⟨hi,rfl⟩,if_pos (List.mem_cons_self ..),newBest_said]
   ·rw[if_neg (fun h2=>e h2.2),if_neg (by simp[e,h])]
theorem turnS_news:∀(ps:List Pf) (S:Sv) (i:Nat) (m:Pm),S.ms[i]? =some m→∃n,(turnS S ps).ms[i]? =some n∧n.as_=m.as_∧n.id=m.id∧n.there=m.there∧n.R=m.R∧∀q,n.news q=(m.news q||(m.there&&(decide (q∈ps)&&!sameB (S.best i q) (bestIn S i q))))
 |[],S,i,m,hm=>⟨m,hm,rfl,rfl,rfl,rfl,fun q=>by simp⟩
 |p::ps,S,i,m,hm=>by
  have hi:=(List.getElem?_eq_some_iff.1 hm).1;have hk:SvKin S (turnP S p):=kin_turn1 S p _ _;have h1:(turnP S p).ms[i]? =some (m.mark p (m.there&&!sameB (S.best i p) (bestIn S i p))):=by
   unfold turnP;rw[turn1_mem S p _ _ i m hm,if_pos hi,newBest_said]
  obtain⟨n,n1,n2,n3,n4,n5,n6⟩:=turnS_news ps (turnP S p) i _ h1;refine⟨n,n1,n2,n3,n4,n5,fun q=>?_⟩;rw[n6,mark_news,hk.bestIn];have hb:(turnP S p).best i q=if q=p then bestIn S i q else S.best i q:=by
   unfold turnP;rw[turn1_best];by_cases e:q=p
   ·subst e;rw[if_pos ⟨hi,rfl⟩,if_pos rfl,newBest_said]
   ·rw[if_neg (fun h=>e h.2),if_neg e]
  rw[hb];have hth:(m.mark p (m.there&&!sameB (S.best i p) (bestIn S i p))).there=m.there:=rfl;rw[hth];by_cases e:q=p
  ·subst e;have:sameB (bestIn S i q) (bestIn S i q)=true:=(sameB_iff _ _).2 rfl;simp[this]
  ·have h3:decide (q∈p::ps)=decide (q∈ps):=by simp[e]
   rw[if_neg e,h3];simp[e]
end Go.Proofs.YtkoidahgbbabiaaGreat
