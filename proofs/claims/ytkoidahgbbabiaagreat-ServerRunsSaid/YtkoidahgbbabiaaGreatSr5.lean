/- Texts of one proof, one behind another. -/
import Derived.Test.YtkoidahgbbabiaaGreatRows
import Derived.Test.YtkoidahgbbabiaaGreatSr4
import Derived.Test.YtkoidahgbbabiaaGreatSr1
import Derived.RegionTactic
import Derived.ChangeAlike
import Derived.LoopTactic
import Derived.Deep.QuietTactic
import Derived.BigQuiet
import Derived.LoopN
import Derived.Deep.CutBlock
import Derived.Deep.DeepCutAuto
import Derived.StillTailTactics
import Derived.IntWalk
import Derived.Shelf.GgClosure.Gives
import Derived.Deep.RegionWith
set_option maxRecDepth 100000
set_option maxHeartbeats 100000000
namespace Go.Proofs.YtkoidahgbbabiaaGreat
open Go.RowKit
theorem ip_Bit (a n:Int) (w:World) (ha0:0≤a) (ha:a<4294967296):
  Calls Tryz.prog 137 #[.int .u32 a,.int .i64 n] w fun e w'=>e=.returned (.int .i64 (bitI a n))∧w=w':=by
 by_cases h1:n<0
 ·have e:bitI a n=0:=by unfold bitI;rw[if_neg (by omega)]
  have E:=jh e;clear e;go_enter Tryz.func137,Tryz.ntmps137;go_wp2;go_ret;exact⟨jU E.out.symm,rfl⟩
 ·by_cases h2:n<32
  ·have e:=bit_walk a n ha0 ha (by omega) h2;have E:=jh e;clear e;go_enter Tryz.func137,Tryz.ntmps137;go_wp2;go_ret;exact⟨jU E.out,rfl⟩
  ·have e:bitI a n=0:=by unfold bitI;rw[if_neg (by omega)]
   have E:=jh e;clear e;go_enter Tryz.func137,Tryz.ntmps137;go_wp2;go_ret;exact⟨jU E.out.symm,rfl⟩
theorem ip_within (n:Int) (w:World):
  Calls Tryz.prog 114 #[.int .i64 n] w fun e w'=>e=.returned (.int .i64 (cl n))∧w=w':=by
 go_enter Tryz.func114,Tryz.ntmps114;go_wp2;all_goals
  go_ret;exact⟨jU (by unfold cl;omega),rfl⟩
theorem ip_Mask (n:Int) (w:World):
  Calls Tryz.prog 113 #[.int .i64 n] w fun e w'=>e=.returned (.int .u32 (maskI n))∧w=w':=by
 have h1:=cl_lo n;have h2:=cl_hi n;go_enter Tryz.func113,Tryz.ntmps113;go_wp2_with (go_at_call 114;refine(ip_within _ _).mono ?_;rintro e w' ⟨rfl,rfl⟩);go_ret;exact⟨jU (mask_walk n),rfl⟩
theorem ip_Of (a n:Int) (w:World) (h0:0≤a) (h:a<4294967296):
  Calls Tryz.prog 62 #[.int .u32 a,.int .i64 n] w fun e w'=>e=.returned (.agg #[.int .u32 (keepI a n),.int .i64 (cl n)])∧Below w.heap.size w w':=by
 have E:=jh (and_mask a n h0 h);go_enter Tryz.func62,Tryz.ntmps62;go_wp2_with (first
  |(go_at_call 114;refine(ip_within _ _).mono ?_;rintro e w' ⟨rfl,rfl⟩)
  |(go_at_call 113;refine(ip_Mask _ _).mono ?_;rintro e w' ⟨rfl,rfl⟩))
 rw[E.out];exact bodyPost_ret (v:=.agg #[.int .u32 (keepI a n),.int .i64 (cl n)]) (by simp[results,Tryz.results62,go_sem]) rfl ⟨rfl,(Below.refl _ _).alloc (Nat.le_refl _) _⟩
theorem undPrefix:Tryz.prog.underlying 53=some (.struct (Tryz.prog.fieldsOf 53)):=by kernel_rfl
theorem stoPrefix:Tryz.prog.stoodInHeld 53=false:=by kernel_rfl
theorem run_eql_pref (a b c d:Int) (w:World):(binOp .eql 53 (.agg #[.int .u32 a,.int .i64 b]) (.agg #[.int .u32 c,.int .i64 d])).run Tryz.prog w=.ok (.bool (a==c&&b==d)) w:=by
 rw[run_eql_struct,run_equalIn_struct w 9999 53 _ _ undPrefix stoPrefix,Program.fieldsOf,Tryz.underlying53];simp only[Op.eqFields];by_cases h1:a=c<;>by_cases h2:b=d<;>simp[go_sem,h1,h2]
theorem run_neq_pref (a b c d:Int) (w:World):(binOp .neq 53 (.agg #[.int .u32 a,.int .i64 b]) (.agg #[.int .u32 c,.int .i64 d])).run Tryz.prog w=.ok (.bool (!(a==c&&b==d))) w:=by
 rw[run_neq_struct,run_equalIn_struct w 9999 53 _ _ undPrefix stoPrefix,Program.fieldsOf,Tryz.underlying53];simp only[Op.eqFields];by_cases h1:a=c<;>by_cases h2:b=d<;>simp[go_sem,h1,h2]
attribute [go_sem ↓] run_eql_pref run_neq_pref
attribute [go_sem] errI_zero
theorem ip_Check (a n:Int) (w:World) (h0:0≤a) (h:a<4294967296):
  Calls Tryz.prog 21 #[.agg #[.int .u32 a,.int .i64 n]] w fun e w'=>e=.returned (.int .i64 (errI (rightB a n)))∧Below w.heap.size w w':=by
 go_enter Tryz.func21,Tryz.ntmps21;go_wp2_with fail;obtain⟨W0,hW0,c0,c1,hB⟩:=box2 w (.int .u32 a) (.int .i64 n) 53;rw[←hW0];clear hW0;refine wp_region_held_drew (S:=fun w'=>Below W0.heap.size W0 w') (by kernel_rfl) ?_ (fun hHeld=>?_)
 ·exact(Below.refl _ _).drew
 refine qz 0 hHeld ?_ (hy:=by intro w' hSw;(try dsimp only at hSw);have c0:=jA c0 hSw;have c1:=jA c1 hSw;(try clear hHeld);go_simp;try with_reducible rfl);refine qz 1 hHeld ?_;refine qz 2 hHeld ?_ (hy:=by intro w' hSw;(try dsimp only at hSw);have c0:=jA c0 hSw;have c1:=jA c1 hSw;(try clear hHeld);go_simp;try with_reducible rfl);refine qz 3 hHeld ?_;refine qz 4 hHeld ?_ (hy:=by intro w' hSw;(try dsimp only at hSw);have c0:=jA c0 hSw;have c1:=jA c1 hSw;(try clear hHeld);go_simp;try with_reducible rfl);refine jr 5 fun K hK=>?_;(try clear hb);go_simp;(refine(ip_Of a n _ h0 h).mono ?_;rintro e w1 ⟨rfl,hb⟩);go_wp2_with fail;refine hK.out _ _ ?_ (fun hHeld=>?_);(·exact hHeld.trans (hb.mono hHeld.size));clear hK K;(try simp only[jz]);refine qz 6 hHeld ?_;refine wpAnyH_done (by kernel_rfl) ?_ _;have hB':=jC hB hHeld;clear hHeld hb;go_wp2
 ·have hr:=rightB_no ‹_∨_›;go_ret;exact⟨jU (by rw[hr];rfl),hB'⟩
 ·have hr:=rightB_yes ‹_=false∧_=false›;go_ret;exact⟨jU (by rw[hr];rfl),hB'⟩
theorem frozen_below {W W':World} {a:Addr} (hz:a.block<W.heap.size) (h:W.frozen? a=false) (hb:Below W.heap.size W W'):W'.frozen? a=false:=(hb.frozen hz).trans h
def cmpI (a b:Int):Int:=if a<b then -1 else if b<a then 1 else 0
theorem cmp_CompareAddr (a b:Int) (w:World):
  Calls Tryz.prog 64 #[.int .u32 a,.int .u32 b] w fun e w'=>e=.returned (.int .i64 (cmpI a b))∧w=w':=by
 go_enter Tryz.func64,Tryz.ntmps64;go_wp2;all_goals
  go_ret;exact⟨jU (by unfold cmpI;repeat (first|rw[if_pos (by omega)]|rw[if_neg (by omega)])),rfl⟩
theorem cmp_CompareInt (a b:Int) (w:World):
  Calls Tryz.prog 65 #[.int .i64 a,.int .i64 b] w fun e w'=>e=.returned (.int .i64 (cmpI a b))∧w=w':=by
 go_enter Tryz.func65,Tryz.ntmps65;go_wp2;all_goals
  go_ret;exact⟨jU (by unfold cmpI;repeat (first|rw[if_pos (by omega)]|rw[if_neg (by omega)])),rfl⟩
def orI (x y:Int):Int:=if x=0 then y else x
theorem orI_ne {x y:Int} (h:(x !=0)=true):orI x y=x:=by unfold orI;rw[if_neg (by simpa using h)]
theorem cmp_OrInt2 (g c:Nat) (x y:Int) (w:World) (hx:w.cell? ⟨g,0,none⟩=some (.int .i64 x)) (hy:w.cell? ⟨g,1,none⟩=some (.int .i64 y)):
  Calls Tryz.prog 63 #[.slice (some ⟨g,0,none⟩) 2 c] w fun e w'=>e=.returned (.int .i64 (orI x y))∧w=w':=by
 go_enter Tryz.func63,Tryz.ntmps63;go_wp2;go_loop [8] (fun t=>∃k:Nat,k≤2∧t=.int .i64 k∧(1≤k→x=0)∧(2≤k→y=0)) (fun t=>2 - (intOf t).toNat)
 case atStart=>exact⟨0,by omega,rfl,by omega,by omega⟩
 case round=>
  obtain⟨k,hk,rfl,h1,h2⟩:=hrel;rcases (by omega:k=0∨k=1∨k=2) with rfl|rfl|rfl
  ·clear h1 h2;go_wp2
   ·go_ret;exact⟨jU (orI_ne ‹_›).symm,rfl⟩
   ·exact⟨⟨1,by omega,rfl,fun _=>by simpa using ‹(x !=0)=false›,by omega⟩,by simp[intOf]⟩
  ·clear h2;have e:=h1 (by omega);subst e;clear h1;go_wp2
   ·go_ret;exact⟨jU rfl,rfl⟩
   ·exact⟨⟨2,by omega,rfl,fun _=>trivial,fun _=>by simpa using ‹(y !=0)=false›⟩,by simp[intOf]⟩
  ·obtain rfl:=h1 (by omega);obtain rfl:=h2 (by omega);clear h1 h2;go_wp2;go_ret;exact⟨rfl,rfl⟩
def prefCmp (a n b m:Int):Int:=orI (cmpI a b) (cmpI n m)
theorem ip_Cmp (a n b m:Int) (w:World):
  Calls Tryz.prog 22 #[.agg #[.int .u32 a,.int .i64 n],.agg #[.int .u32 b,.int .i64 m]] w fun e w'=>e=.returned (.int .i64 (prefCmp a n b m))∧Below w.heap.size w w':=by
 go_enter Tryz.func22,Tryz.ntmps22;go_wp2_with fail;obtain⟨W0,hW0,c0,c1,d0,d1,hB⟩:=box22 w (.int .u32 a) (.int .i64 n) (.int .u32 b) (.int .i64 m) 53 53;rw[←hW0];clear hW0;refine wp_region_held_drew (S:=fun w'=>Below W0.heap.size W0 w') (by kernel_rfl) ?_ (fun hHeld=>?_)
 ·exact(Below.refl _ _).drew
 refine qz 0 hHeld ?_;refine qz 1 hHeld ?_ (hy:=by intro w' hSw;(try dsimp only at hSw);have c0:=jA c0 hSw;have c1:=jA c1 hSw;have d0:=jA d0 hSw;have d1:=jA d1 hSw;(try clear hHeld);go_simp;try with_reducible rfl);refine qz 2 hHeld ?_;refine qz 3 hHeld ?_ (hy:=by intro w' hSw;(try dsimp only at hSw);have c0:=jA c0 hSw;have c1:=jA c1 hSw;have d0:=jA d0 hSw;have d1:=jA d1 hSw;(try clear hHeld);go_simp;try with_reducible rfl);refine qz 5 hHeld ?_;refine qz 6 hHeld ?_ (hy:=by intro w' hSw;(try dsimp only at hSw);have c0:=jA c0 hSw;have c1:=jA c1 hSw;have d0:=jA d0 hSw;have d1:=jA d1 hSw;(try clear hHeld);go_simp;try with_reducible rfl);refine qz 7 hHeld ?_;refine qz 8 hHeld ?_ (hy:=by intro w' hSw;(try dsimp only at hSw);have c0:=jA c0 hSw;have c1:=jA c1 hSw;have d0:=jA d0 hSw;have d1:=jA d1 hSw;(try clear hHeld);go_simp;try with_reducible rfl);refine jr 4 fun K hK=>?_;(try clear hb);go_simp;(refine(calls_below (cmp_CompareAddr a b _)).mono ?_;rintro e w1 ⟨rfl,hb⟩);go_wp2_with fail;refine hK.out _ _ ?_ (fun hHeld=>?_);(· first|exact hHeld.trans (hb.mono hHeld.size)|exact hHeld.alloc hHeld.size _);clear hK K;(try simp only[jz]);refine jr 9 fun K hK=>?_;(try clear hb);go_simp;(refine(calls_below (cmp_CompareInt n m _)).mono ?_;rintro e w1 ⟨rfl,hb⟩);go_wp2_with fail;refine hK.out _ _ ?_ (fun hHeld=>?_);(· first|exact hHeld.trans (hb.mono hHeld.size)|exact hHeld.alloc hHeld.size _);clear hK K;(try simp only[jz]);refine jr 10 fun K hK=>?_;(try clear hb);go_simp;go_wp2_with fail;refine hK.out _ _ ?_ (fun hHeld=>?_);(· first|exact hHeld.trans (hb.mono hHeld.size)|exact hHeld.alloc hHeld.size _);clear hK K;(try simp only[jz]);refine jr 11 fun K hK=>?_;(try clear hb);go_simp;(refine(calls_below (cmp_OrInt2 _ 2 (cmpI a b) (cmpI n m) _ (by simp) (by simp))).mono ?_;rintro e w1 ⟨rfl,hb⟩);go_wp2_with fail;refine hK.out _ _ ?_ (fun hHeld=>?_);(· first|exact hHeld.trans (hb.mono hHeld.size)|exact hHeld.alloc hHeld.size _);clear hK K;(try simp only[jz]);refine qz 12 hHeld ?_;refine wpAnyH_done (by kernel_rfl) ?_ _;have hB':=jC hB hHeld;clear hHeld hb;go_wp2;go_ret;exact⟨jU rfl,hB'⟩
theorem ip_Half_bad (a n t:Int) (w:World) (h0:0≤a) (h:a<4294967296) (hbad:rightB a n=false∨(n==32)=true):
  Calls Tryz.prog 189 #[.agg #[.int .u32 a,.int .i64 n],.int .i64 t] w fun e w'=>e=.returned (.tuple #[.agg #[.int .u32 0,.int .i64 0],.int .i64 1])∧Below w.heap.size w w':=by
 cases hR:rightB a n
 all_goals
  (try (have h32:(n==32)=true:=by simpa [hR] using hbad));clear hbad;go_enter Tryz.func189,Tryz.ntmps189;go_wp2_with fail;obtain⟨W0,hW0,c0,c1,r0,r1,hB⟩:=box22 w (.int .u32 a) (.int .i64 n) (.int .u32 0) (.int .i64 0) 53 53;have f0:W0.frozen? ⟨w.heap.size+1,0,none⟩=false:=by rw[hW0];simp
  have f1:W0.frozen? ⟨w.heap.size+1,1,none⟩=false:=by rw[hW0];simp
  rw[←hW0];clear hW0;go_wp2_with (go_at_call 21;refine(ip_Check _ _ _ h0 h).mono ?_;rintro e w1 ⟨rfl,hb⟩;have c0:=jA c0 hb;have c1:=jA c1 hb;have f0:=frozen_below (jH r0) f0 hb;have f1:=frozen_below (jH r1) f1 hb;have r0:=jA r0 hb;have r1:=jA r1 hb;have hB:=jC hB hb;clear hb);refine bodyPost_ret (v:=.tuple #[.agg #[.int .u32 0,.int .i64 0],.int .i64 1]) (by simp[results,Tryz.results189,go_sem,r0,r1]) rfl ⟨rfl,?_⟩;exact(hB.setCell (by simp) _).setCell (by simp) _
theorem ip_Half_zero (a n:Int) (w:World) (h0:0≤a) (h:a<4294967296) (hR:rightB a n=true) (hn:(n==32)=false) (hn0:0≤n) (hn1:n≤32):
  Calls Tryz.prog 189 #[.agg #[.int .u32 a,.int .i64 n],.int .i64 0] w fun e w'=>e=.returned (.tuple #[.agg #[.int .u32 a,.int .i64 (n+1)],.int .i64 0])∧Below w.heap.size w w':=by
 go_enter Tryz.func189,Tryz.ntmps189;go_wp2_with fail;obtain⟨W0,hW0,c0,c1,r0,r1,hB⟩:=box22 w (.int .u32 a) (.int .i64 n) (.int .u32 0) (.int .i64 0) 53 53;have f0:W0.frozen? ⟨w.heap.size+1,0,none⟩=false:=by rw[hW0];simp
 have f1:W0.frozen? ⟨w.heap.size+1,1,none⟩=false:=by rw[hW0];simp
 rw[←hW0];clear hW0;go_wp2_with (go_at_call 21;refine(ip_Check _ _ _ h0 h).mono ?_;rintro e w1 ⟨rfl,hb⟩;have c0:=jA c0 hb;have c1:=jA c1 hb;have f0:=frozen_below (jH r0) f0 hb;have f1:=frozen_below (jH r1) f1 hb;have hz:=jH (jA r0 hb);have r0:=jA r0 hb;have r1:=jA r1 hb;have hB:=jC hB hb;clear hb);refine bodyPost_ret (v:=.tuple #[.agg #[.int .u32 a,.int .i64 (n+1)],.int .i64 0]) (by simp[results,Tryz.results189,go_sem,r0,r1,hz]) rfl ⟨rfl,?_⟩;exact((hB.setCell (by simp) _).setCell (by simp) _).alloc (by simp;omega) _
theorem ip_Half_one (a n t:Int) (w:World) (h0:0≤a) (h:a<4294967296) (hR:rightB a n=true) (hn:(n==32)=false) (hn0:0≤n) (hn1:n≤31) (ht:(t !=0)=true):
  Calls Tryz.prog 189 #[.agg #[.int .u32 a,.int .i64 n],.int .i64 t] w fun e w'=>e=.returned (.tuple #[.agg #[.int .u32 (bits .or .u32 a (2^(31 - n).toNat%4294967296)),.int .i64 (n+1)],.int .i64 0])∧Below w.heap.size w w':=by
 go_enter Tryz.func189,Tryz.ntmps189;go_wp2_with fail;obtain⟨W0,hW0,c0,c1,r0,r1,hB⟩:=box22 w (.int .u32 a) (.int .i64 n) (.int .u32 0) (.int .i64 0) 53 53;have f0:W0.frozen? ⟨w.heap.size+1,0,none⟩=false:=by rw[hW0];simp
 have f1:W0.frozen? ⟨w.heap.size+1,1,none⟩=false:=by rw[hW0];simp
 rw[←hW0];clear hW0;go_wp2_with (go_at_call 21;refine(ip_Check _ _ _ h0 h).mono ?_;rintro e w1 ⟨rfl,hb⟩;have c0:=jA c0 hb;have c1:=jA c1 hb;have f0:=frozen_below (jH r0) f0 hb;have f1:=frozen_below (jH r1) f1 hb;have hz:=jH (jA r0 hb);have r0:=jA r0 hb;have r1:=jA r1 hb;have hB:=jC hB hb;clear hb);obtain⟨W2,hW2,e0,e1,hb2⟩:=box2 w1 (.int .u32 a) (.int .i64 (n+1)) 53;have g0:W2.frozen? ⟨w1.heap.size,0,none⟩=false:=by rw[hW2];simp
 rw[←hW2];clear hW2;have c1:=jA c1 hb2;have f0:=frozen_below (jH r0) f0 hb2;have f1:=frozen_below (jH r1) f1 hb2;have r0:=jA r0 hb2;have r1:=jA r1 hb2;have hB:=jC hB hb2;have hne:¬w.heap.size+1=w1.heap.size:=by omega
 have hne':¬w1.heap.size=w.heap.size+1:=by omega
 clear hb2;go_region
 go_wp2;refine bodyPost_ret (v:=.tuple #[.agg #[.int .u32 (bits .or .u32 a (2^(31 - n).toNat%4294967296)),.int .i64 (n+1)],.int .i64 0]) (by simp[results,Tryz.results189,go_sem,r0,r1]) rfl ⟨rfl,?_⟩;exact(((hB.setCell (by simp;omega) _).setCell (by simp) _).setCell (by simp) _).drew
theorem ip_Half (a n t:Int) (w:World) (h0:0≤a) (h:a<4294967296) (hR:rightB a n=true) (hn:n<32):
  Calls Tryz.prog 189 #[.agg #[.int .u32 a,.int .i64 n],.int .i64 t] w fun e w'=>e=.returned (.tuple #[.agg #[.int .u32 (halfI a n t),.int .i64 (n+1)],.int .i64 0])∧Below w.heap.size w w':=by
 have hr:=rightB_range hR;have hn':(n==32)=false:=by simp;omega
 by_cases ht:t=0
 ·subst ht;exact ip_Half_zero a n w h0 h hR hn' hr.1 hr.2
 ·rw[halfI_1 a n t ht,←or_half a n h0 h hR hn];exact ip_Half_one a n t w h0 h hR hn' hr.1 (by omega) (by simpa using ht)
open Go.RowKit
abbrev TrI:=TrieAt 213 221 av0
theorem jS {B:Nat} {a w:World} (h:Below B a w) (n:Nat):Below B a (w.drewN n):=h.trans ⟨rfl,rfl,rfl,Nat.le_refl _,fun _ _=>rfl⟩
theorem trI_made (w:World) (most:Int):TrI (w.alloc (.cells #[.pointer none,.int .i64 most,.int .i64 0] 213)) w.heap.size (fun _=>none) [] most:=
 ⟨heap_alloc_new w _,fun _ _ h=>(by cases h),fun _ _ _ h=>(by cases h),fun _ h=>(by cases h),fun _ _ h=>(by cases h),rfl,fun _ h=>absurd h (by simp),fun _ _=>rfl,by simp[KeysApart]⟩
theorem trI_New (n:Int) (w:World):Calls Tryz.prog 90 #[.int .i64 n] w fun e w'=>e=.returned (.pointer (some ⟨w.heap.size,0,none⟩))∧TrI w' w.heap.size (fun _=>none) [] (min (max n 0) 4096)∧Below w.heap.size w w':=by
 have E:Hid (∀m,m=min (max n 0) 4096→TrI (w.alloc (.cells #[.pointer none,.int .i64 m,.int .i64 0] 213)) w.heap.size (fun _=>none) [] (min (max n 0) 4096)):=jh fun m hm=>by rw[←hm];exact trI_made w m
 go_enter Tryz.func90,Tryz.ntmps90;go_wp2_with fail;all_goals
  go_ret;exact⟨rfl,E.out _ (by omega),(Below.refl _ _).alloc (Nat.le_refl _) _⟩
theorem trI_Len {tb:Nat} {N:Nat→Option Nat} {S:List (Nat×AV)} {most:Int} {w:World} (h:TrI w tb N S most):Calls Tryz.prog 96 #[.pointer (some ⟨tb,0,none⟩)] w fun e w'=>e=.returned (.int .i64 S.length)∧w=w':=by
 obtain⟨c0,c1,c2⟩:=h.cells;clear h;go_enter Tryz.func96,Tryz.ntmps96;go_wp2_with fail;go_ret;exact⟨rfl,rfl⟩
theorem trI_find_no (p:Addr) (a n:Int) (w:World) (h0:0≤a) (h:a<4294967296) (hR:rightB a n=false):Calls Tryz.prog 136 #[.pointer (some p),.agg #[.int .u32 a,.int .i64 n]] w fun e w'=>e=.returned (.pointer none)∧Below w.heap.size w w':=by
 go_enter Tryz.func136,Tryz.ntmps136;go_wp2_with fail;obtain⟨W0,hW0,c0,c1,hB⟩:=box2 w (.int .u32 a) (.int .i64 n) 53;rw[←hW0];clear hW0;refine(ip_Check a n W0 h0 h).mono ?_;rintro e w1 ⟨rfl,hb⟩;have hB:=jC hB hb;rw[hR];go_wp2_with fail;go_ret;exact⟨rfl,hB⟩
theorem bit_q (a i:Nat) (ha:a<4294967296) (hi:i<32) (w:World):Calls Tryz.prog 137 #[.int .u32 a,.int .i64 i] w fun e w'=>e=.returned (.int .i64 (a/2^(31 - i)%2:Nat))∧w'=w:=by
 refine(ip_Bit a i w (by omega) (by omega)).mono ?_;rintro e w' ⟨rfl,rfl⟩;rw[bit_key a i hi];exact⟨rfl,rfl⟩
theorem trI_find {tb:Nat} {N:Nat→Option Nat} {S:List (Nat×AV)} {most:Int} (a n:Nat) (w:World) (h:TrI w tb N S most) (ha:a<4294967296) (hR:rightB a n=true):
  Calls Tryz.prog 136 #[.pointer (some ⟨tb,0,none⟩),.agg #[.int .u32 a,.int .i64 n]] w fun e w'=>e=.returned (ptrN (N (keyN a n)))∧Below w.heap.size w w':=by
 have hn:n≤32:=by have:=(rightB_range hR).2;omega
 have CK:=ip_Check a n (h0:=by omega) (h:=by omega);have H:=jh h;have K0:=jh (keyN_0 a ha);clear h;go_enter Tryz.func136,Tryz.ntmps136;go_wp2_with fail;obtain⟨W0,hW0,c0,c1,hB⟩:=box2 w (.int .u32 a) (.int .i64 n) 53;rw[←hW0];clear hW0;refine(CK W0).mono ?_;rintro e w1 ⟨rfl,hb⟩;have c0:=jA c0 hb;have c1:=jA c1 hb;have hB:=jC hB hb;have H1:=jh (H.out.below hB);have t0:=H1.out.cells.1;clear hb CK;rw[hR];go_wp2_with fail;clear t0;go_loopw [5,6] (fun x i wr=>∃k:Nat,k≤n∧i=.int .i64 k∧x=ptrN (N (keyN a k))∧Below w1.heap.size w1 wr) (fun _ i _=>n - (intOf i).toNat)
 case atStart=>exact⟨0,by omega,rfl,by rw[K0.out],Below.refl _ _⟩
 case round=>
  obtain⟨k,hk,rfl,rfl,hbr⟩:=hrel;have c0:=jA c0 hbr;have c1:=jA c1 hbr;have hBr:=jC hB hbr;have Hr:=jh (H1.out.below hbr);by_cases hlt:k<n
  ·cases hx:N (keyN a k) with
   |none=>
    have E:Hid (N (keyN a n)=none):=jh (by
     have aux:∀d,k+d≤n→N (keyN a (k+d))=none:=by
      intro d
      induction d with
      |zero=>intro _;exact hx
      |succ d ih=>
       intro hd;have h1:=ih (by omega);rw[show k+(d+1)=(k+d)+1 by omega,keyN_succ a (k+d) (by omega)];obtain⟨u1,u2⟩:=Hr.out.up_none h1 (keyN_pos a _);rcases Nat.mod_two_eq_zero_or_one (a/2^(31 - (k+d))) with m|m
       ·rw[m];exact u1
       ·rw[m];exact u2
     have:=aux (n - k) (by omega);rwa [show k+(n - k)=n by omega] at this)
    clear hx;go_wp2_with fail;go_ret;exact⟨by rw[E.out];rfl,hBr⟩
   |some b=>
    obtain⟨d0,d1,_⟩:=Hr.out.ncells hx;have hbit:=Nat.mod_two_eq_zero_or_one (a/2^(31 - k));have KS:=keyN_succ a k (by omega);have BQ:=fun W=>bit_q a k ha (by omega) W;clear hx;rw[ptrN_some];rcases hbit with m|m
    ·rw[m] at KS BQ;have KS:=jh KS;have BQ:=jh BQ;clear m;go_wp2_with fail;go_quiet ((go_at_call 137;exact Calls.quiet_of_same (BQ.out _)))
     go_wp2_with fail;exact⟨⟨k+1,by omega,by go_num,by rw[KS.out];rfl,jS hbr _⟩,by simp[intOf];omega⟩
    ·rw[m] at KS BQ;have KS:=jh KS;have BQ:=jh BQ;clear m;go_wp2_with fail;go_quiet ((go_at_call 137;exact Calls.quiet_of_same (BQ.out _)))
     go_wp2_with fail;exact⟨⟨k+1,by omega,by go_num,by rw[KS.out],jS hbr _⟩,by simp[intOf];omega⟩
  ·obtain rfl:k=n:=by omega
   go_wp2_with fail;go_ret;exact⟨rfl,hBr⟩
open Go.RowKit
def TExt (N N':Nat→Option Nat) (B:Nat):Prop:=(∀k b,N k=some b→N' k=some b)∧∀k b,N' k=some b→N k=some b∨B≤b
theorem TExt.refl (N:Nat→Option Nat) (B:Nat):TExt N N B:=⟨fun _ _ h=>h,fun _ _ h=>.inl h⟩
theorem TExt.upd {N N':Nat→Option Nat} {B κ nb:Nat} (h:TExt N N' B) (hn:N' κ=none) (hB:B≤nb):TExt N (updN N' κ (some nb)) B:=by
 refine⟨fun k b hk=>?_,fun k b hk=>?_⟩
 ·have h1:=h.1 k b hk;rw[updN_ne _ _ (fun e=>by rw[e,hn] at h1;cases h1)];exact h1
 ·by_cases e:k=κ
  ·subst e;rw[updN_same] at hk;cases hk
   exact .inr hB
  ·rw[updN_ne _ _ e] at hk;exact h.2 k b hk
theorem Kept.put {F:Nat→Prop} {w w1:World} (h:Kept F w w1) (p:Addr) (v:Value) (hF:F p.block∨w.heap.size≤p.block):Kept F w (w1.setCell p v):=by
 refine⟨h.os,h.tape,h.output,by simpa [World.setCell] using h.size,fun k hk hf=>?_⟩;rw[Deep.blk_setCell_other w1 p v k (fun e=>by
  subst e;rcases hF with hF|hF
  ·exact hf hF
  ·omega)]
 exact h.block k hk hf
theorem Kept.grow {F:Nat→Prop} {w w1 w2:World} (h:Kept F w w1) (hb:Below w1.heap.size w1 w2):Kept F w w2:=h.trans (Kept.of_below hb)
theorem slot_own {tb:Nat} {N N':Nat→Option Nat} {B κ:Nat} {ad:Addr} (hs:SlotAt tb N' κ ad) (hx:TExt N N' B):TOwn tb N ad.block∨B≤ad.block:=by
 rcases hs with⟨_,rfl⟩|⟨_,b,hb,rfl⟩
 ·exact .inl (.inl rfl)
 ·rcases hx.2 _ _ hb with h|h
  ·exact .inl (.inr ⟨_,h⟩)
  ·exact .inr h
def ReachPost (tb:Nat) (N:Nat→Option Nat) (S:List (Nat×AV)) (most:Int) (w:World) (κ:Nat) (e:Ending) (w':World):Prop:=
 ∃N' b,e=.returned (.pointer (some ⟨b,0,none⟩))∧N' κ=some b∧TrI w' tb N' S most∧TExt N N' w.heap.size∧Kept (TOwn tb N) w w'
theorem hang_node {tb:Nat} {N:Nat→Option Nat} {S:List (Nat×AV)} {most:Int} {W:World} (h:TrI W tb N S most) {κ:Nat} {ad:Addr} (hs:SlotAt tb N κ ad) (hn:N κ=none) (h1:1≤κ) (hd:κ<2^33):
  TrI ((W.alloc (.cells #[.pointer none,.pointer none,.bool false,.int .i64 0,.int .i64 0,.slice none 0 0,.int .u32 0,.int .i64 0,.int .i64 0,.int .i64 0,.int .u32 0,.slice none 0 0,.slice none 0 0] 221)).setCell ad (.pointer (some ⟨W.heap.size,0,none⟩))) tb (updN N κ (some W.heap.size)) S most:=
 h.hang (o:=some W.heap.size) ((Below.refl _ _).alloc (Nat.le_refl _) _) hs h1 hd (.inl hn) (h.none_of hn) (h.up_none hn h1).1 (h.up_none hn h1).2 (fun nb e=>by
  cases e;exact⟨Nat.le_refl _,heap_alloc_new W _⟩)
theorem slot_next {tb:Nat} {N:Nat→Option Nat} {a k b d:Nat} (hk:k<32) (hb:N (keyN a k)=some b) (hd:a/2^(31 - k)%2=d):SlotAt tb N (keyN a (k+1)) ⟨b,d,none⟩:=
 .inr ⟨keyN_two a k,b,by rw[keyN_half a k hk];exact hb,by rw[keyN_mod a k hk,hd]⟩
theorem trI_reach {tb:Nat} {N:Nat→Option Nat} {S:List (Nat×AV)} {most:Int} (a n:Nat) (w:World) (h:TrI w tb N S most) (ha:a<4294967296) (hn:n≤32):
  Calls Tryz.prog 138 #[.pointer (some ⟨tb,0,none⟩),.agg #[.int .u32 a,.int .i64 n]] w (ReachPost tb N S most w (keyN a n)):=by
 have H:=jh h;have K0:=jh (keyN_0 a ha);clear h;go_enter Tryz.func138,Tryz.ntmps138;go_wp2_with fail;obtain⟨W0,hW0,c0,c1,hB⟩:=box2 w (.int .u32 a) (.int .i64 n) 53;rw[←hW0];clear hW0;have H1:=jh (H.out.below hB);have nf:Hid (¬TOwn tb N w.heap.size):=jh fun ho=>by have:=H.out.own_lt ho;omega
 go_loopw [5,6] (fun x i wr=>∃(k:Nat) (N':Nat→Option Nat) (ad:Addr),k≤n∧i=.int .i64 k∧x=.pointer (some ad)∧Hid (SlotAt tb N' (keyN a k) ad∧TrI wr tb N' S most∧TExt N N' W0.heap.size∧Kept (TOwn tb N) W0 wr)) (fun _ i _=>n - (intOf i).toNat)
 case atStart=>exact⟨0,N,⟨tb,0,none⟩,by omega,rfl,rfl,jh ⟨.inl ⟨K0.out,rfl⟩,H1.out,TExt.refl _ _,Kept.refl _ _⟩⟩
 case round=>
  obtain⟨k,N',ad,hk,rfl,rfl,C⟩:=hrel;have c0:=C.out.2.2.2.cell c0 nf.out;have c1:=C.out.2.2.2.cell c1 nf.out;obtain⟨ac,af⟩:=C.out.1.cell C.out.2.1;have BQ:=jh (fun W (h32:k<32)=>bit_q a k ha h32 W);cases hx:N' (keyN a k) with
  |none=>
   rw[hx] at ac;have ac:wr.cell? ad=some (.pointer none):=ac;have hal:Below wr.heap.size wr (wr.alloc (.cells #[.pointer none,.pointer none,.bool false,.int .i64 0,.int .i64 0,.slice none 0 0,.int .u32 0,.int .i64 0,.int .i64 0,.int .i64 0,.int .u32 0,.slice none 0 0,.slice none 0 0] 221)):=(Below.refl _ _).alloc (Nat.le_refl _) _;have ac':=jA ac hal;have af':=frozen_below (World.block_lt_of_cell? wr ad ac) af hal;go_upto_region 6 with (fail)
   obtain⟨W2,hW2⟩:∃W2,W2=(wr.alloc (.cells #[.pointer none,.pointer none,.bool false,.int .i64 0,.int .i64 0,.slice none 0 0,.int .u32 0,.int .i64 0,.int .i64 0,.int .i64 0,.int .u32 0,.slice none 0 0,.slice none 0 0] 221)).setCell ad (.pointer (some ⟨wr.heap.size,0,none⟩)):=⟨_,rfl⟩
   have T2:TrI W2 tb (updN N' (keyN a k) (some wr.heap.size)) S most:=by rw[hW2];exact hang_node C.out.2.1 C.out.1 hx (keyN_pos _ _) (keyN_deep a k ha (by omega))
   have K2:Kept (TOwn tb N) W0 W2:=by
    rw[hW2];exact(C.out.2.2.2.grow ((Below.refl _ _).alloc (Nat.le_refl _) _)).put _ _ (slot_own C.out.1 C.out.2.2.1)
   have X2:TExt N (updN N' (keyN a k) (some wr.heap.size)) W0.heap.size:=C.out.2.2.1.upd hx C.out.2.2.2.size;have S2:SlotAt tb (updN N' (keyN a k) (some wr.heap.size)) (keyN a k) ad:=by
    rcases C.out.1 with⟨e,rfl⟩|⟨e,b',hb',rfl⟩
    ·exact .inl ⟨e,rfl⟩
    ·exact .inr ⟨e,b',by rw[updN_ne _ _ (by omega)];exact hb',rfl⟩
   have ac2:=(S2.cell T2).1;rw[updN_same] at ac2;have hb2:=updN_same N' (keyN a k) (some wr.heap.size);have C2:=jh (And.intro T2 (And.intro X2 K2));rw[←hW2];generalize updN N' (keyN a k) (some wr.heap.size)=Nv at C2 hb2;clear hW2 T2 K2 X2 S2 ac af ac' af' hal c0 c1;have c0:=C2.out.2.2.cell ‹W0.cell? ⟨w.heap.size,0,none⟩=_› nf.out;have c1:=C2.out.2.2.cell ‹W0.cell? ⟨w.heap.size,1,none⟩=_› nf.out;generalize wr.heap.size=b at ac2 hb2 ⊢;rw[ptrN_some] at ac2;by_cases hlt:k<n
   ·have z1:((k:Int)==(n:Int))=false:=by rw[beq_eq_false_iff_ne];omega
    obtain⟨d0,d1,_⟩:=C2.out.1.ncells hb2;have HB2:=jh hb2;clear hb2;rcases Nat.mod_two_eq_zero_or_one (a/2^(31 - k)) with m|m
    ·have BQ':=jh (fun W=>BQ.out W (by omega));rw[m] at BQ';have M:=jh m;clear m;go_wp2_with fail;go_quiet ((go_at_call 137;exact Calls.quiet_of_same (BQ'.out _)))
     go_wp2_with fail;exact⟨⟨k+1,Nv,⟨b,0,none⟩,by omega,by go_num,rfl,jh ⟨slot_next (by omega) HB2.out M.out,C2.out.1.below (jS (Below.refl _ _) _),C2.out.2.1,C2.out.2.2.grow (jS (Below.refl _ _) _)⟩⟩,by simp[intOf];omega⟩
    ·have BQ':=jh (fun W=>BQ.out W (by omega));rw[m] at BQ';have M:=jh m;clear m;go_wp2_with fail;go_quiet ((go_at_call 137;exact Calls.quiet_of_same (BQ'.out _)))
     go_wp2_with fail;exact⟨⟨k+1,Nv,⟨b,1,none⟩,by omega,by go_num,rfl,jh ⟨slot_next (by omega) HB2.out M.out,C2.out.1.below (jS (Below.refl _ _) _),C2.out.2.1,C2.out.2.2.grow (jS (Below.refl _ _) _)⟩⟩,by simp[intOf];omega⟩
   ·obtain rfl:k=n:=by omega
    have HB2:=jh hb2;clear hb2;go_wp2_with fail;go_ret;exact⟨Nv,b,rfl,HB2.out,C2.out.1,⟨C2.out.2.1.1,fun k' b' hk'=>(C2.out.2.1.2 k' b' hk').imp_right (fun h=>by have:=hB.size;omega)⟩,(Kept.of_below hB).trans C2.out.2.2⟩
  |some b=>
   rw[hx] at ac;have C2:=jh (And.intro C.out.2.1 (And.intro C.out.2.2.1 C.out.2.2.2));have hb2:=hx;have ac2:=ac;clear hx ac;obtain⟨W2,hW2⟩:∃W2,W2=wr:=⟨_,rfl⟩
   obtain⟨Nv,hNv⟩:∃Nv,Nv=N':=⟨_,rfl⟩
   subst hW2 hNv;rw[ptrN_some] at ac2;by_cases hlt:k<n
   ·have z1:((k:Int)==(n:Int))=false:=by rw[beq_eq_false_iff_ne];omega
    obtain⟨d0,d1,_⟩:=C2.out.1.ncells hb2;have HB2:=jh hb2;clear hb2;rcases Nat.mod_two_eq_zero_or_one (a/2^(31 - k)) with m|m
    ·have BQ':=jh (fun W=>BQ.out W (by omega));rw[m] at BQ';have M:=jh m;clear m;go_wp2_with fail;go_quiet ((go_at_call 137;exact Calls.quiet_of_same (BQ'.out _)))
     go_wp2_with fail;exact⟨⟨k+1,Nv,⟨b,0,none⟩,by omega,by go_num,rfl,jh ⟨slot_next (by omega) HB2.out M.out,C2.out.1.below (jS (Below.refl _ _) _),C2.out.2.1,C2.out.2.2.grow (jS (Below.refl _ _) _)⟩⟩,by simp[intOf];omega⟩
    ·have BQ':=jh (fun W=>BQ.out W (by omega));rw[m] at BQ';have M:=jh m;clear m;go_wp2_with fail;go_quiet ((go_at_call 137;exact Calls.quiet_of_same (BQ'.out _)))
     go_wp2_with fail;exact⟨⟨k+1,Nv,⟨b,1,none⟩,by omega,by go_num,rfl,jh ⟨slot_next (by omega) HB2.out M.out,C2.out.1.below (jS (Below.refl _ _) _),C2.out.2.1,C2.out.2.2.grow (jS (Below.refl _ _) _)⟩⟩,by simp[intOf];omega⟩
   ·obtain rfl:k=n:=by omega
    have HB2:=jh hb2;clear hb2;go_wp2_with fail;go_ret;exact⟨Nv,b,rfl,HB2.out,C2.out.1,⟨C2.out.2.1.1,fun k' b' hk'=>(C2.out.2.1.2 k' b' hk').imp_right (fun h=>by have:=hB.size;omega)⟩,(Kept.of_below hB).trans C2.out.2.2⟩
open Go.RowKit
theorem TExt.mono {N N':Nat→Option Nat} {B B':Nat} (h:TExt N N' B) (hB:B'≤B):TExt N N' B':=⟨h.1,fun k b hk=>(h.2 k b hk).imp_right fun h=>by omega⟩
def putR (S:List (Nat×AV)) (most:Int) (κ:Nat) (v:AV):Int×List (Nat×AV):=
 if (getL S κ).isSome then (0,delL S κ++[(κ,v)]) else if most≤S.length then (3,S) else (0,delL S κ++[(κ,v)])
theorem putR_old {S:List (Nat×AV)} {most:Int} {κ:Nat} {v:AV} (h:(getL S κ).isSome=true):putR S most κ v=(0,delL S κ++[(κ,v)]):=if_pos h
theorem putR_full {S:List (Nat×AV)} {most:Int} {κ:Nat} {v:AV} (h:getL S κ=none) (hm:most≤S.length):putR S most κ v=(3,S):=by unfold putR;rw[h,if_neg (by decide),if_pos hm]
theorem putR_new {S:List (Nat×AV)} {most:Int} {κ:Nat} {v:AV} (h:getL S κ=none) (hm:¬most≤S.length):putR S most κ v=(0,delL S κ++[(κ,v)]):=by unfold putR;rw[h,if_neg (by decide),if_neg hm]
theorem ret_put {r:Int×List (Nat×AV)} {c:Int} {S':List (Nat×AV)} (h:r=(c,S')):Ending.returned (.int .i64 c)=.returned (.int .i64 r.1):=by rw[h]
def getE (S:List (Nat×AV)) (κ:Nat):Ending:=.returned (.tuple #[((getL S κ).getD av0).V,.bool (getL S κ).isSome])
theorem getE_no {S:List (Nat×AV)} {κ:Nat} (h:getL S κ=none):Ending.returned (.tuple #[av0.V,.bool false])=getE S κ:=by unfold getE;rw[h];rfl
theorem getE_yes {S:List (Nat×AV)} {κ:Nat} {x:AV} (h:getL S κ=some x):Ending.returned (.tuple #[x.V,.bool true])=getE S κ:=by unfold getE;rw[h];rfl
def PutPost (tb:Nat) (N:Nat→Option Nat) (most:Int) (w:World) (r:Int×List (Nat×AV)) (e:Ending) (w':World):Prop:=
 ∃N',e=.returned (.int .i64 r.1)∧TrI w' tb N' r.2 most∧TExt N N' w.heap.size∧Kept (TOwn tb N) w w'
theorem Kept.putAV {F:Nat→Prop} {w w1:World} (h:Kept F w w1) (v:AV) {b:Nat} (hF:F b∨w.heap.size≤b):Kept F w (setAV w1 b v):=by
 unfold setAV;exact((((((((((h.put _ _ hF).put _ _ hF).put _ _ hF).put _ _ hF).put _ _ hF).put _ _ hF).put _ _ hF).put _ _ hF).put _ _ hF).put _ _ hF)
theorem box_pa (w:World) (a n:Int) (v:AV):∃W0,W0=(w.alloc (.cells #[.int .u32 a,.int .i64 n] 53)).alloc (.cells v.C 42)∧W0.cell? ⟨w.heap.size,0,none⟩=some (.int .u32 a)∧W0.cell? ⟨w.heap.size,1,none⟩=some (.int .i64 n)∧W0.heap[w.heap.size+1]? =some (.cells v.C 42 (0,0))∧Below w.heap.size w W0:=by
 obtain⟨W0,h1,h2,h3,h4⟩:=boxTwo w #[.int .u32 a,.int .i64 n] 53 v.C 42;exact⟨W0,h1,jB h2 0,jB h2 1,h3,h4⟩
theorem trI_Put {tb:Nat} {N:Nat→Option Nat} {S:List (Nat×AV)} {most:Int} (a n:Nat) (v:AV) (w:World) (h:TrI w tb N S most) (hm:most≤4096) (ha:a<4294967296) (hR:rightB a n=true):
  Calls Tryz.prog 100 #[.pointer (some ⟨tb,0,none⟩),.agg #[.int .u32 a,.int .i64 n],v.V] w (PutPost tb N most w (putR S most (keyN a n) v)):=by
 have hn:n≤32:=by have:=(rightB_range hR).2;omega
 have CK:=ip_Check a n (h0:=by omega) (h:=by omega);have H:=jh h;have FD:=jh (fun W (h:TrI W tb N S most)=>trI_find a n W h ha hR);have RC:=jh (fun W (h:TrI W tb N S most)=>trI_reach a n W h ha hn);clear h;generalize hκ:keyN a n=κ at*;clear hκ;go_enter Tryz.func100,Tryz.ntmps100;go_upto_region 1 with (fail)
 obtain⟨W0,hW0,c0,c1,rv,hB⟩:=box_pa w a n v;rw[←hW0];clear hW0;have RV0:=jh rv;have bn:Hid (¬TOwn tb N (w.heap.size+1)):=jh fun ho=>by have:=H.out.own_lt ho;omega
 clear rv;go_wp2_with fail;refine(CK W0).mono ?_;rintro e w1 ⟨rfl,hb⟩;have c0:=jA c0 hb;have c1:=jA c1 hb;have RV1:=jh ((hb.block _ (jE RV0.out)).trans RV0.out);have hB:=jC hB hb;clear hb CK RV0;rw[hR];go_wp2_with fail;refine(FD.out _ (H.out.below hB)).mono ?_;rintro e w2 ⟨rfl,hb⟩;have c0:=jA c0 hb;have c1:=jA c1 hb;have RV:=jh ((hb.block _ (jE RV1.out)).trans RV1.out);have hB:=jC hB hb;clear hb RV1;have T2:=jh (H.out.below hB);obtain⟨_,t1,t2⟩:=T2.out.cells;cases hg:getL S κ with
 |none=>
  cases hx:N κ with
  |none=>
   have HG:=jh hg;have HX:=jh hx;clear hg hx;by_cases hf:most≤(S.length:Int)
   ·have E:=jh (putR_full (v:=v) HG.out hf);go_wp2_with fail;go_quiet (fail)
    go_wp2_with fail;go_ret;exact⟨N,ret_put E.out,by rw[E.out];exact T2.out.below (jS (Below.refl _ _) _),TExt.refl _ _,((Kept.refl (TOwn tb N) w).grow hB).grow (jS (Below.refl _ _) _)⟩
   ·have E:=jh (putR_new (v:=v) HG.out hf);go_wp2_with fail;go_quiet (fail)
    go_wp2_with fail;refine(RC.out _ (T2.out.below (jS (Below.refl _ _) _))).mono ?_;rintro e w4 ⟨N',b4,rfl,hb4,T4,X4,K4⟩;have K4':=jh (((Kept.refl (TOwn tb N) w).grow (hB.trans ((jS (Below.refl _ _) nq).mono hB.size))).trans K4);have X4':=jh (X4.mono (show w.heap.size≤(w2.drewN nq).heap.size from hB.size));obtain⟨_,_,s2⟩:=T4.cells;obtain⟨_,_,e2⟩:=T4.ncells hb4;have g2:=jN (T4.node κ b4 hb4) 2;have g4:=jN T4.row 2;have n1:¬b4=tb:=fun e=>T4.top κ (e▸hb4);have n2:¬tb=b4:=fun e=>n1 e.symm;have PN:=jh (T4.putNew hb4 HG.out v);have HB4:=jh hb4;have RV4:Hid (w4.heap[w.heap.size+1]? =some (.cells v.C 42 (0,0))):=jh ((K4.block _ (jE RV.out) bn.out).trans RV.out);rw[HG.out] at e2;have e2:w4.cell? ⟨b4,2,none⟩=some (.bool false):=e2;have NT4:=jh (jO (T4.node κ b4 hb4) 2 (.bool true));have hown:Hid (TOwn tb N b4∨w.heap.size≤b4):=jh ((X4'.out.2 _ _ HB4.out).imp_left fun h=>.inr ⟨κ,h⟩);have q1:Hid (¬(w.heap.size+1=b4)):=jh (fun e=>by
     rcases X4.2 _ _ hb4 with h|h
     ·exact bn.out (.inr ⟨κ,by rw[e];exact h⟩)
     ·have:=jE RV.out;have h:w2.heap.size≤b4:=h;omega)
    have q2:Hid (¬(w.heap.size+1=tb)):=jh (fun e=>bn.out (.inl e));clear K4 X4 T4 hb4;go_wp2_with (with_reducible refine jM (X:=.load 42 (.tmp 5)) ?_ ?_;(·rfl));obtain⟨W5,hW5⟩:∃W5,W5=(w4.setCell ⟨b4,2,none⟩ (.bool true)).setCell ⟨tb,2,none⟩ (.int .i64 ((S.length:Int)+1)):=⟨_,rfl⟩
    have RV5:Hid (W5.heap[w.heap.size+1]? =some (.cells v.C 42 (0,0))):=jh (by rw[hW5,jK _ _ _ q2.out,jK _ _ _ q1.out];exact RV4.out);have NT5:Hid (W5.there b4 3 10):=jh (node_there (by rw[hW5,jK _ _ _ n1];exact NT4.out));have PN5:Hid (TrI (setAV W5 b4 v) tb N' (delL S κ++[(κ,v)]) most):=jh (by rw[hW5];exact PN.out);have K5:Hid (Kept (TOwn tb N) w (setAV W5 b4 v)):=jh (by rw[hW5];exact((K4'.out.put _ _ hown.out).put _ _ (.inl (.inl rfl))).putAV v hown.out);rw[←hW5];clear hW5 s2 e2 g2 g4 PN RV4 NT4;unfold Halt;refine ld_at (by rfl) 42 (.tmp 5) rfl (w.heap.size+1) rfl 42 v.C (0,0) _ RV5.out Tryz.underlying42 rfl (by kernel_rfl) ?_;go_wp2_with (with_reducible refine jM (X:=.store 42 (.tmp 52) (.tmp 50)) ?_ ?_;(·rfl));unfold Halt;refine wpList_store_mid rfl 42 (.tmp 52) (.tmp 50) rfl b4 3 v.C rfl rfl NT5.out (by kernel_rfl) v.one ?_;rw[setAV_eq];generalize setAV W5 b4 v=W6 at PN5 K5 ⊢;go_wp2_with fail;go_ret;exact⟨N',ret_put E.out,by rw[E.out];exact PN5.out,X4'.out,K5.out⟩
  |some b=>
   obtain⟨_,_,d2⟩:=T2.out.ncells hx;rw[hg] at d2;have d2:w2.cell? ⟨b,2,none⟩=some (.bool false):=d2;rw[ptrN_some];have HG:=jh hg;have HX:=jh hx;clear hg hx;by_cases hf:most≤(S.length:Int)
   ·have E:=jh (putR_full (v:=v) HG.out hf);go_wp2_with fail;go_quiet (fail)
    go_wp2_with fail;go_ret;exact⟨N,ret_put E.out,by rw[E.out];exact T2.out.below (jS (Below.refl _ _) _),TExt.refl _ _,((Kept.refl (TOwn tb N) w).grow hB).grow (jS (Below.refl _ _) _)⟩
   ·have E:=jh (putR_new (v:=v) HG.out hf);go_wp2_with fail;go_quiet (fail)
    go_wp2_with fail;refine(RC.out _ (T2.out.below (jS (Below.refl _ _) _))).mono ?_;rintro e w4 ⟨N',b4,rfl,hb4,T4,X4,K4⟩;have K4':=jh (((Kept.refl (TOwn tb N) w).grow (hB.trans ((jS (Below.refl _ _) nq).mono hB.size))).trans K4);have X4':=jh (X4.mono (show w.heap.size≤(w2.drewN nq).heap.size from hB.size));obtain⟨_,_,s2⟩:=T4.cells;obtain⟨_,_,e2⟩:=T4.ncells hb4;have g2:=jN (T4.node κ b4 hb4) 2;have g4:=jN T4.row 2;have n1:¬b4=tb:=fun e=>T4.top κ (e▸hb4);have n2:¬tb=b4:=fun e=>n1 e.symm;have PN:=jh (T4.putNew hb4 HG.out v);have HB4:=jh hb4;have RV4:Hid (w4.heap[w.heap.size+1]? =some (.cells v.C 42 (0,0))):=jh ((K4.block _ (jE RV.out) bn.out).trans RV.out);rw[HG.out] at e2;have e2:w4.cell? ⟨b4,2,none⟩=some (.bool false):=e2;have NT4:=jh (jO (T4.node κ b4 hb4) 2 (.bool true));have hown:Hid (TOwn tb N b4∨w.heap.size≤b4):=jh ((X4'.out.2 _ _ HB4.out).imp_left fun h=>.inr ⟨κ,h⟩);have q1:Hid (¬(w.heap.size+1=b4)):=jh (fun e=>by
     rcases X4.2 _ _ hb4 with h|h
     ·exact bn.out (.inr ⟨κ,by rw[e];exact h⟩)
     ·have:=jE RV.out;have h:w2.heap.size≤b4:=h;omega)
    have q2:Hid (¬(w.heap.size+1=tb)):=jh (fun e=>bn.out (.inl e));clear K4 X4 T4 hb4;go_wp2_with (with_reducible refine jM (X:=.load 42 (.tmp 5)) ?_ ?_;(·rfl));obtain⟨W5,hW5⟩:∃W5,W5=(w4.setCell ⟨b4,2,none⟩ (.bool true)).setCell ⟨tb,2,none⟩ (.int .i64 ((S.length:Int)+1)):=⟨_,rfl⟩
    have RV5:Hid (W5.heap[w.heap.size+1]? =some (.cells v.C 42 (0,0))):=jh (by rw[hW5,jK _ _ _ q2.out,jK _ _ _ q1.out];exact RV4.out);have NT5:Hid (W5.there b4 3 10):=jh (node_there (by rw[hW5,jK _ _ _ n1];exact NT4.out));have PN5:Hid (TrI (setAV W5 b4 v) tb N' (delL S κ++[(κ,v)]) most):=jh (by rw[hW5];exact PN.out);have K5:Hid (Kept (TOwn tb N) w (setAV W5 b4 v)):=jh (by rw[hW5];exact((K4'.out.put _ _ hown.out).put _ _ (.inl (.inl rfl))).putAV v hown.out);rw[←hW5];clear hW5 s2 e2 g2 g4 PN RV4 NT4;unfold Halt;refine ld_at (by rfl) 42 (.tmp 5) rfl (w.heap.size+1) rfl 42 v.C (0,0) _ RV5.out Tryz.underlying42 rfl (by kernel_rfl) ?_;go_wp2_with (with_reducible refine jM (X:=.store 42 (.tmp 52) (.tmp 50)) ?_ ?_;(·rfl));unfold Halt;refine wpList_store_mid rfl 42 (.tmp 52) (.tmp 50) rfl b4 3 v.C rfl rfl NT5.out (by kernel_rfl) v.one ?_;rw[setAV_eq];generalize setAV W5 b4 v=W6 at PN5 K5 ⊢;go_wp2_with fail;go_ret;exact⟨N',ret_put E.out,by rw[E.out];exact PN5.out,X4'.out,K5.out⟩
 |some x=>
  obtain⟨b,hx⟩:=H.out.dom' (k:=κ) (by rw[hg];rfl);obtain⟨_,_,d2⟩:=T2.out.ncells hx;have NT:=jh (node_there (T2.out.node κ b hx));rw[hg] at d2;have d2:w2.cell? ⟨b,2,none⟩=some (.bool true):=d2;rw[hx,ptrN_some];have PO:=jh (T2.out.putOld hx (by rw[hg];rfl) v);have E:=jh (putR_old (most:=most) (κ:=κ) (v:=v) (S:=S) (by rw[hg];rfl));have KP:=jh (((Kept.refl (TOwn tb N) w).grow hB).putAV v (b:=b) (.inl (.inr ⟨κ,hx⟩)));clear hg hx;go_wp2_with (with_reducible refine jM (X:=.load 42 (.tmp 5)) ?_ ?_;(·rfl));unfold Halt;refine ld_at (by rfl) 42 (.tmp 5) rfl (w.heap.size+1) rfl 42 v.C (0,0) _ RV.out Tryz.underlying42 rfl (by kernel_rfl) ?_;go_wp2_with (with_reducible refine jM (X:=.store 42 (.tmp 52) (.tmp 50)) ?_ ?_;(·rfl));unfold Halt;refine wpList_store_mid rfl 42 (.tmp 52) (.tmp 50) rfl b 3 v.C rfl rfl NT.out (by kernel_rfl) v.one ?_;rw[setAV_eq];generalize setAV w2 b v=W5 at PO KP ⊢;go_wp2_with fail;go_ret;exact⟨N,ret_put E.out,by rw[E.out];exact PO.out,TExt.refl _ _,KP.out⟩
theorem results_Get (tmps:Array Value) (W:World) (b:Nat) (v:AV) (c:Bool) (h4:tmps.getD 4 undef=.pointer (some ⟨b,0,none⟩)) (h5:tmps.getD 5 undef=.bool c) (hb:W.heap[b]? =some (.cells v.C 42 (0,0))):
  (results Tryz.f97 tmps).run Tryz.prog W=.ok (.tuple #[v.V,.bool c]) W:=by
 have hl:=run_loadVar_row (P:=Tryz.prog) W b 42 42 v.C (0,0) _ hb Tryz.underlying42 rfl (by kernel_rfl);unfold results;rw[Tryz.results97];simp[h4,h5,hl,asAddr,-Array.getD_eq_getD_getElem?]
theorem box_pz (w:World) (a n:Int):∃W0,W0=(w.alloc (.cells #[.int .u32 a,.int .i64 n] 53)).alloc (.cells #[.int .i64 0,.int .i64 0,.slice none 0 0,.int .u32 0,.int .i64 0,.int .i64 0,.int .i64 0,.int .u32 0,.slice none 0 0,.slice none 0 0] 42)∧W0.cell? ⟨w.heap.size,0,none⟩=some (.int .u32 a)∧W0.cell? ⟨w.heap.size,1,none⟩=some (.int .i64 n)∧W0.heap[w.heap.size+1]? =some (.cells av0.C 42 (0,0))∧Below w.heap.size w W0:=by
 obtain⟨W0,h1,h2,h3,h4⟩:=boxTwo w #[.int .u32 a,.int .i64 n] 53 av0.C 42;exact⟨W0,h1,jB h2 0,jB h2 1,h3,h4⟩
theorem box_z (w:World):∃W0,W0=w.alloc (.cells #[.int .i64 0,.int .i64 0,.slice none 0 0,.int .u32 0,.int .i64 0,.int .i64 0,.int .i64 0,.int .u32 0,.slice none 0 0,.slice none 0 0] 42)∧W0.heap[w.heap.size]? =some (.cells av0.C 42 (0,0))∧Below w.heap.size w W0∧W0.heap.size=w.heap.size+1:=box1 w av0.C 42
theorem trI_Get_no (p:Addr) (a n:Int) (w:World) (h0:0≤a) (h:a<4294967296) (hR:rightB a n=false):Calls Tryz.prog 97 #[.pointer (some p),.agg #[.int .u32 a,.int .i64 n]] w fun e w'=>e=.returned (.tuple #[av0.V,.bool false])∧Below w.heap.size w w':=by
 have E:Hid (Ending.returned (.tuple #[av0.V,.bool false])=.returned (.tuple #[av0.V,.bool false])):=jh rfl;go_enter Tryz.func97,Tryz.ntmps97;go_upto_region 1 with (fail)
 obtain⟨W0,hW0,c0,c1,rz,hB⟩:=box_pz w a n;rw[←hW0];clear hW0;have RZ0:=jh rz;clear rz;go_wp2_with fail;refine(trI_find_no p a n _ h0 h hR).mono ?_;rintro e w2 ⟨rfl,hb⟩;have hB:=jC hB hb;have RZ:=jh ((hb.block _ (jE RZ0.out)).trans RZ0.out);clear hb RZ0 c0 c1;go_upto_region 4 with (fail);(obtain⟨W3,hW3,rz,hb3,-⟩:=box_z w2);rw[←hW3];clear hW3;(have R3:=jh rz);(have RZ3:=jh ((hb3.block _ (jE RZ.out)).trans RZ.out));(have B3:=jh (jC hB hb3));clear rz hb3;go_wp2_with (with_reducible refine jM (X:=.load 42 (.tmp 7)) ?_ ?_;(·rfl));unfold Halt;refine ld_at (by rfl) 42 (.tmp 7) rfl w2.heap.size rfl 42 av0.C (0,0) _ R3.out Tryz.underlying42 rfl (by kernel_rfl) ?_;go_wp2_with (with_reducible refine jM (X:=.store 42 (.tmp 4) (.tmp 20)) ?_ ?_;(·rfl));unfold Halt;refine st_row rfl 42 _ _ rfl (w.heap.size+1) rfl 42 av0.C av0.C rfl RZ3.out (by kernel_rfl) rfl av0.one ?_;go_wp2_with fail;refine bodyPost_ret (results_Get _ _ (w.heap.size+1) av0 false ?_ ?_ (setRow_heap _ _ _ _ _ _ RZ3.out)) rfl ⟨(by first|exact E.out|rfl),below_setRow B3.out (Nat.le_succ _) _⟩<;>rfl
theorem trI_Get {tb:Nat} {N:Nat→Option Nat} {S:List (Nat×AV)} {most:Int} (a n:Nat) (w:World) (h:TrI w tb N S most) (ha:a<4294967296) (hR:rightB a n=true):
  Calls Tryz.prog 97 #[.pointer (some ⟨tb,0,none⟩),.agg #[.int .u32 a,.int .i64 n]] w fun e w'=>e=getE S (keyN a n)∧Below w.heap.size w w':=by
 have H:=jh h;have FD:=jh (fun W (h:TrI W tb N S most)=>trI_find a n W h ha hR);clear h;generalize keyN a n=κ at*;go_enter Tryz.func97,Tryz.ntmps97;go_upto_region 1 with (fail)
 obtain⟨W0,hW0,c0,c1,rz,hB⟩:=box_pz w a n;rw[←hW0];clear hW0;have RZ0:=jh rz;clear rz;go_wp2_with fail;refine(FD.out _ (H.out.below hB)).mono ?_;rintro e w2 ⟨rfl,hb⟩;have hB:=jC hB hb;have RZ:=jh ((hb.block _ (jE RZ0.out)).trans RZ0.out);clear hb RZ0 c0 c1;have T2:=jh (H.out.below hB);cases hx:N κ with
 |none=>
  have E:=jh (getE_no (H.out.none_of hx));go_upto_region 4 with (fail);(obtain⟨W3,hW3,rz,hb3,-⟩:=box_z w2);rw[←hW3];clear hW3;(have R3:=jh rz);(have RZ3:=jh ((hb3.block _ (jE RZ.out)).trans RZ.out));(have B3:=jh (jC hB hb3));clear rz hb3;go_wp2_with (with_reducible refine jM (X:=.load 42 (.tmp 7)) ?_ ?_;(·rfl));unfold Halt;refine ld_at (by rfl) 42 (.tmp 7) rfl w2.heap.size rfl 42 av0.C (0,0) _ R3.out Tryz.underlying42 rfl (by kernel_rfl) ?_;go_wp2_with (with_reducible refine jM (X:=.store 42 (.tmp 4) (.tmp 20)) ?_ ?_;(·rfl));unfold Halt;refine st_row rfl 42 _ _ rfl (w.heap.size+1) rfl 42 av0.C av0.C rfl RZ3.out (by kernel_rfl) rfl av0.one ?_;go_wp2_with fail;refine bodyPost_ret (results_Get _ _ (w.heap.size+1) av0 false ?_ ?_ (setRow_heap _ _ _ _ _ _ RZ3.out)) rfl ⟨(by first|exact E.out|rfl),below_setRow B3.out (Nat.le_succ _) _⟩<;>rfl
 |some b=>
  obtain⟨_,_,d2⟩:=T2.out.ncells hx;rw[ptrN_some];cases hg:getL S κ with
  |none=>
   rw[hg] at d2;have d2:w2.cell? ⟨b,2,none⟩=some (.bool false):=d2;have E:=jh (getE_no hg);clear hg hx;go_upto_region 4 with (fail);(obtain⟨W3,hW3,rz,hb3,-⟩:=box_z w2);rw[←hW3];clear hW3;(have R3:=jh rz);(have RZ3:=jh ((hb3.block _ (jE RZ.out)).trans RZ.out));(have B3:=jh (jC hB hb3));clear rz hb3;go_wp2_with (with_reducible refine jM (X:=.load 42 (.tmp 7)) ?_ ?_;(·rfl));unfold Halt;refine ld_at (by rfl) 42 (.tmp 7) rfl w2.heap.size rfl 42 av0.C (0,0) _ R3.out Tryz.underlying42 rfl (by kernel_rfl) ?_;go_wp2_with (with_reducible refine jM (X:=.store 42 (.tmp 4) (.tmp 20)) ?_ ?_;(·rfl));unfold Halt;refine st_row rfl 42 _ _ rfl (w.heap.size+1) rfl 42 av0.C av0.C rfl RZ3.out (by kernel_rfl) rfl av0.one ?_;go_wp2_with fail;refine bodyPost_ret (results_Get _ _ (w.heap.size+1) av0 false ?_ ?_ (setRow_heap _ _ _ _ _ _ RZ3.out)) rfl ⟨(by first|exact E.out|rfl),below_setRow B3.out (Nat.le_succ _) _⟩<;>rfl
  |some x=>
   have NR:=node_range (T2.out.node κ b hx);rw[hg] at d2 NR;have d2:w2.cell? ⟨b,2,none⟩=some (.bool true):=d2;have NR:Hid (w2.rangeAt b 3 x.C.toList):=jh NR;have E:=jh (getE_yes hg);clear hg hx;go_wp2_with (with_reducible refine jM (X:=.load 42 (.tmp 23)) ?_ ?_;(·rfl));unfold Halt;refine wpList_load_mid rfl 42 (.tmp 23) rfl b 3 rfl x.C.toList _ NR.out Tryz.underlying42 rfl (by kernel_rfl) ?_;go_wp2_with (with_reducible refine jM (X:=.store 42 (.tmp 4) (.tmp 24)) ?_ ?_;(·rfl));unfold Halt;refine st_row rfl 42 _ _ rfl (w.heap.size+1) rfl 42 av0.C x.C rfl RZ.out (by kernel_rfl) rfl x.one ?_;go_wp2_with fail;refine bodyPost_ret (results_Get _ _ (w.heap.size+1) x true ?_ ?_ (setRow_heap _ _ _ _ _ _ RZ.out)) rfl ⟨E.out,below_setRow hB (Nat.le_succ _) _⟩<;>rfl
open Go.RowKit
theorem reg_tail {P:Program} {id:Nat} {Q:Exit→Act→World→Prop} {a:Act} {w:World} {l:List Oper} (n:Nat) (hm:P.follows .mixedOrders=true) (hB:Region.lexTailB .any l.toArray n=true)
  (h:wpStill P l.toArray w.drew (fun a'=>wpList P l.toArray Q (l.drop n) a' w.drew) (l.take n) a):(Code.region id l.toArray true).wp P Q a w:=wp_region_still_tail n hm hB h
abbrev wayO (tb:Nat):Array Value:=#[.pointer (some ⟨tb,0,none⟩),.pointer none,.pointer none,.pointer none,.pointer none,.pointer none,.pointer none,.pointer none,.pointer none,.pointer none,.pointer none,.pointer none,.pointer none,.pointer none,.pointer none,.pointer none,.pointer none,.pointer none,.pointer none,.pointer none,.pointer none,.pointer none,.pointer none,.pointer none,.pointer none,.pointer none,.pointer none,.pointer none,.pointer none,.pointer none,.pointer none,.pointer none,.pointer none]
def slotA (tb:Nat) (N:Nat→Option Nat) (a j:Nat):Addr:=if j=0 then ⟨tb,0,none⟩ else ⟨(N (keyN a (j - 1))).getD 0,a/2^(32 - j)%2,none⟩
theorem slotA_succ {tb:Nat} {N:Nat→Option Nat} {a j b d:Nat} (hb:N (keyN a j)=some b) (hd:a/2^(31 - j)%2=d):slotA tb N a (j+1)=⟨b,d,none⟩:=by
 unfold slotA;rw[if_neg (by omega),show j+1 - 1=j by omega,hb,show 32 - (j+1)=31 - j by omega,hd];rfl
theorem slotA_at {tb:Nat} {N:Nat→Option Nat} {a:Nat} (ha:a<4294967296) (j:Nat) (hj:j≤32) (hp:∀i,i<j→∃b,N (keyN a i)=some b):SlotAt tb N (keyN a j) (slotA tb N a j):=by
 cases j with
 |zero=>exact .inl ⟨keyN_0 a ha,rfl⟩
 |succ j=>
  obtain⟨b,hb⟩:=hp j (by omega);rw[slotA_succ hb rfl];exact slot_next (by omega) hb rfl
theorem path_some {tT tN:TypeId} {z:AV} {W:World} {tb:Nat} {N:Nat→Option Nat} {S:List (Nat×AV)} {most:Int} (h:TrieAt tT tN z W tb N S most) {a n:Nat} (hn:n≤32) {b:Nat} (hb:N (keyN a n)=some b):∀i,i≤n→∃c,N (keyN a i)=some c:=by
 have aux:∀d,d≤n→∃c,N (keyN a (n - d))=some c:=by
  intro d
  induction d with
  |zero=>intro _;exact⟨b,hb⟩
  |succ d ih=>
   intro hd;obtain⟨c,hc⟩:=ih (by omega);have h1:=h.up (keyN a (n - d)) (by rw[show n - d=(n - (d+1))+1 by omega];exact keyN_two a _) (by rw[hc];rfl);rw[show n - d=(n - (d+1))+1 by omega,keyN_half a _ (by omega)] at h1;exact Option.isSome_iff_exists.1 h1
 intro i hi;obtain⟨c,hc⟩:=aux (n - i) (by omega);rw[show n - (n - i)=i by omega] at hc;exact⟨c,hc⟩
def WayAt (W:World) (wb:Nat) (sl:Nat→Addr) (k:Nat):Prop:=∃cs:Array Value,W.heap[wb]? =some (.cells cs 223 (0,0))∧cs.size=33∧∀j,j≤k→cs[j]? =some (.pointer (some (sl j)))
theorem WayAt.cell {W:World} {wb:Nat} {sl:Nat→Addr} {k j:Nat} (h:WayAt W wb sl k) (hj:j≤k):W.cell? ⟨wb,j,none⟩=some (.pointer (some (sl j))):=by
 obtain⟨cs,h1,_,h3⟩:=h;rw[jB h1];exact h3 j hj
theorem WayAt.any {W:World} {wb:Nat} {sl:Nat→Addr} {k j:Nat} (h:WayAt W wb sl k) (hj:j<33):∃v,W.cell? ⟨wb,j,none⟩=some v:=by
 obtain⟨cs,h1,h2,_⟩:=h;rw[jB h1];exact⟨_,Array.getElem?_eq_getElem (by omega)⟩
theorem WayAt.free {W:World} {wb:Nat} {sl:Nat→Addr} {k:Nat} (h:WayAt W wb sl k) (j:Nat):W.frozen? ⟨wb,j,none⟩=false:=by
 obtain⟨cs,h1,_,_⟩:=h;exact jN h1 j
theorem WayAt.lt {W:World} {wb:Nat} {sl:Nat→Addr} {k:Nat} (h:WayAt W wb sl k):wb<W.heap.size:=by
 obtain⟨cs,h1,_,_⟩:=h;exact jE h1
theorem WayAt.step {W:World} {wb:Nat} {sl:Nat→Addr} {k:Nat} (h:WayAt W wb sl k) (hk:k+1<33):WayAt (W.setCell ⟨wb,k+1,none⟩ (.pointer (some (sl (k+1))))) wb sl (k+1):=by
 obtain⟨cs,h1,h2,h3⟩:=h;refine⟨_,jO h1 _ _,by simp[h2],fun j hj=>?_⟩;by_cases e:j=k+1
 ·subst e;rw[Array.getElem?_setIfInBounds_self_of_lt (by omega)]
 ·rw[Array.getElem?_setIfInBounds_ne (by omega)];exact h3 j (by omega)
theorem WayAt.of_block {W W':World} {wb:Nat} {sl:Nat→Addr} {k:Nat} (h:WayAt W wb sl k) (hb:W'.heap[wb]? =W.heap[wb]?):WayAt W' wb sl k:=by
 obtain⟨cs,h1,h2,h3⟩:=h;exact⟨cs,hb.trans h1,h2,h3⟩
theorem way_made {W:World} {tb:Nat} (sl:Nat→Addr) (h:sl 0=⟨tb,0,none⟩):WayAt (W.alloc (.cells (wayO tb) 223)) W.heap.size sl 0:=by
 refine⟨_,heap_alloc_new W _,rfl,fun j hj=>?_⟩;obtain rfl:j=0:=by omega
 rw[h];rfl
def TSub (N N':Nat→Option Nat):Prop:=∀k b,N' k=some b→N k=some b
def DropPost (tb:Nat) (N:Nat→Option Nat) (S:List (Nat×AV)) (most:Int) (w:World) (κ:Nat) (e:Ending) (w':World):Prop:=
 ∃N',e=.returned (.bool (getL S κ).isSome)∧TrI w' tb N' (delL S κ) most∧TSub N N'∧Kept (TOwn tb N) w w'
theorem delL_none {S:List (Nat×AV)} {κ:Nat} (h:getL S κ=none):delL S κ=S:=by
 unfold delL;rw[List.filter_eq_self];intro p hp;have:=getL_none.1 h p hp;simpa using this
theorem ret_isSome {S:List (Nat×AV)} {κ:Nat} {c:Bool} (h:(getL S κ).isSome=c):Ending.returned (.bool c)=.returned (.bool (getL S κ).isSome):=by rw[h]
theorem trI_Drop {tb:Nat} {N:Nat→Option Nat} {S:List (Nat×AV)} {most:Int} (a n:Nat) (w:World) (h:TrI w tb N S most) (hl:S.length≤4096) (ha:a<4294967296) (hR:rightB a n=true):
  Calls Tryz.prog 99 #[.pointer (some ⟨tb,0,none⟩),.agg #[.int .u32 a,.int .i64 n]] w (DropPost tb N S most w (keyN a n)):=by
 have hn:n≤32:=by have:=(rightB_range hR).2;omega
 have H:=jh h;have FD:=jh (fun W (h:TrI W tb N S most)=>trI_find a n W h ha hR);clear h;go_enter Tryz.func99,Tryz.ntmps99;go_wp2_with fail;obtain⟨W0,hW0,c0,c1,hB⟩:=box2 w (.int .u32 a) (.int .i64 n) 53;rw[←hW0];clear hW0;go_wp2_with fail;refine(FD.out _ (H.out.below hB)).mono ?_;rintro e w2 ⟨rfl,hb⟩;have c0:=jA c0 hb;have c1:=jA c1 hb;have hB:=jC hB hb;clear hb FD;have T2:=jh (H.out.below hB);cases hx:N (keyN a n) with
 |none=>
  have hg:=H.out.none_of hx;have E:=jh (ret_isSome (S:=S) (κ:=keyN a n) (c:=false) (by rw[hg];rfl));have T3:Hid (TrI w2 tb N (delL S (keyN a n)) most):=jh (by rw[delL_none hg];exact T2.out);clear hg hx;go_wp2_with fail;go_ret;exact⟨N,E.out,T3.out,fun _ _ h=>h,(Kept.refl (TOwn tb N) w).grow hB⟩
 |some b=>
  obtain⟨_,_,d2⟩:=T2.out.ncells hx;rw[ptrN_some];cases hg:getL S (keyN a n) with
  |none=>
   have E:=jh (ret_isSome (S:=S) (κ:=keyN a n) (c:=false) (by rw[hg];rfl));have T3:Hid (TrI w2 tb N (delL S (keyN a n)) most):=jh (by rw[delL_none hg];exact T2.out);rw[hg] at d2;have d2:w2.cell? ⟨b,2,none⟩=some (.bool false):=d2;clear hg hx;go_wp2_with fail;go_ret;exact⟨N,E.out,T3.out,fun _ _ h=>h,(Kept.refl (TOwn tb N) w).grow hB⟩
  |some x=>
   have E:=jh (ret_isSome (S:=S) (κ:=keyN a n) (c:=true) (by rw[hg];rfl));have PS:=jh (path_some T2.out hn hx);obtain⟨_,_,t2⟩:=T2.out.cells;have NB:=jh (T2.out.node _ b hx);have n1:¬b=tb:=fun e=>T2.out.top _ (e▸hx);have n2:¬tb=b:=fun e=>n1 e.symm;have hlen:1≤S.length:=List.length_pos_of_mem (getL_mem hg);have DR:=jh (fun W' r o=>T2.out.dropAt (W':=W') hx (by rw[hg];rfl) r o);rw[hg] at d2;have d2:w2.cell? ⟨b,2,none⟩=some (.bool true):=d2;have cl:Hid (¬TOwn tb N w.heap.size):=jh fun ho=>by have:=H.out.own_lt ho;omega
   have cz:=jH c0;have HX:=jh hx;have OW:Hid (TOwn tb N b):=jh (.inr ⟨_,hx⟩);have BL:Hid (b<w2.heap.size):=jh (T2.out.nlt hx);clear hg hx;go_upto_region 5 with (fail)
   obtain⟨W3,hW3,rz,hb3,hz3⟩:=box_z w2;rw[←hW3];clear hW3;have R3:=jh rz;have hzb:Hid (¬w2.heap.size=b):=jh (by have:=BL.out;omega);have hlt3:Hid (w2.heap.size<W3.heap.size):=jh (by omega);obtain⟨k0,hk0⟩:∃k0,k0=ptrN (N (2*keyN a n)):=⟨_,rfl⟩
   obtain⟨k1,hk1⟩:∃k1,k1=ptrN (N (2*keyN a n+1)):=⟨_,rfl⟩
   have NB3:Hid (∃h u,W3.heap[b]? =some (.cells (nodeR k0 k1 h u) 221 (0,0))):=jh ⟨_,_,by rw[hk0,hk1];exact(hb3.block _ BL.out).trans NB.out⟩;have DR3:Hid (∀W':World,W'.heap[b]? =some (.cells (nodeR k0 k1 (.bool false) av0) 221 (0,0))→Kept (fun g=>g=b) W3 W'→TrI (W'.setCell ⟨tb,2,none⟩ (.int .i64 ((S.length:Int) - 1))) tb N (delL S (keyN a n)) most):=jh fun W' r k=>DR.out W' (by rw[r,hk0,hk1]) fun g hg hne=>(k.block g (Nat.lt_of_lt_of_le hg hb3.size) hne).trans (hb3.block g hg);have K30:=jh (((Kept.refl (TOwn tb N) w).grow hB).grow hb3);have c0:=jA c0 hb3;have c1:=jA c1 hb3;have hTR:=jh ((hb3.block _ T2.out.lt).trans T2.out.row);clear hk0 hk1 rz hb3 hz3 NB DR d2 T2 hB t2;go_wp2_with fail;refine wp_region_held_drew (S:=fun w'=>Kept (fun g=>g=b) W3 w'∧∃h u,w'.heap[b]? =some (.cells (nodeR k0 k1 h u) 221 (0,0))) (by kernel_rfl) ?_ (fun hHeld=>?_)
   ·exact⟨(Kept.refl _ _).drew,NB3.out⟩
   refine qz 0 hHeld ?_;refine qz 1 hHeld ?_;refine qz 2 hHeld ?_ (hy:=by intro w' hSw;refine exec_ld 42 (.tmp 6) ?_ w2.heap.size ?_ 42 av0.C (0,0) _ ((hSw.1.block _ hlt3.out hzb.out).trans R3.out) Tryz.underlying42 rfl (by kernel_rfl)<;>rfl);refine jr 3 fun K hK=>?_;(try clear hb);go_simp;go_wp2_with fail;refine hK.out _ _ hHeld fun hHeld=>?_;clear hK K;(try simp only[jz]);refine qz 4 hHeld ?_;refine jr 5 fun K hK=>?_;(try clear hb);obtain⟨hk,h1,u1,hrow⟩:=hHeld;have q:=jB hrow 2;have qf:=jN hrow 2;go_simp;go_wp2_with fail;refine hK.out _ _ ?_ (fun hHeld=>?_);(·exact⟨hk.put _ _ (.inl rfl),_,_,jO hrow _ _⟩);clear hK K;(try simp only[Act.put]);refine jr 6 fun K hK=>?_;(try clear hb);go_simp;go_wp2_with fail;refine hK.out _ _ hHeld fun hHeld=>?_;clear hK K;(try simp only[jz]);refine qz 7 hHeld ?_;refine jr 8 fun K hK=>?_;(try clear hb);obtain⟨hk,h1,u1,hrow⟩:=hHeld;refine wp_store_mid 42 (.tmp 29) (.tmp 25) rfl b 3 av0.C rfl rfl (node_there hrow) (by kernel_rfl) av0.one ?_;rw[setAV_eq];refine hK.out _ _ ?_ (fun hHeld=>?_);(·exact⟨hk.putAV _ (.inl rfl),_,_,setAV_row hrow _⟩);clear hK K;(try simp only[Act.put]);refine wpAnyH_done (by kernel_rfl) ?_ _;obtain⟨W4,hW4⟩:∃W4,W4=setAV (W3.setCell ⟨b,2,none⟩ (.bool false)).drew b av0:=⟨_,rfl⟩
   have K4:Hid (Kept (fun g=>g=b) W3 W4):=jh (by rw[hW4];exact hHeld.1);have R4:Hid (W4.heap[b]? =some (.cells (nodeR k0 k1 (.bool false) av0) 221 (0,0))):=jh (by obtain⟨h0,u0,hr⟩:=NB3.out;rw[hW4];exact setAV_row (h:=.bool false) (u:=u0) (node_flag hr _) _);rw[←hW4];clear hW4 hHeld;have D4:=jh (DR3.out W4 R4.out K4.out);have t4:=(K4.out.block _ (jE hTR.out) n2).trans hTR.out;have t2:W4.cell? ⟨tb,2,none⟩=some (.int .i64 S.length):=jB t4 2;have tf:=jN t4 2;have K40:Hid (Kept (TOwn tb N) w W4):=jh (K30.out.trans (K4.out.imp fun g e=>by rw[e];exact OW.out));have cb:Hid (¬w.heap.size=b):=jh (fun e=>cl.out (e▸OW.out));have c0:=K4.out.cell c0 cb.out;have c1:=K4.out.cell c1 cb.out;clear t4 R4 K4 DR3 K30 R3 NB3;go_upto_region 7 with (fail)
   obtain⟨W5,hW5⟩:∃W5,W5=W4.setCell ⟨tb,2,none⟩ (.int .i64 ((S.length:Int) - 1)):=⟨_,rfl⟩
   have T3:Hid (TrI W5 tb N (delL S (keyN a n)) most):=jh (by rw[hW5];exact D4.out);have K3:Hid (Kept (TOwn tb N) w W5):=jh (by rw[hW5];exact K40.out.put _ _ (.inl (.inl rfl)));have ct:¬w.heap.size=tb:=fun e=>cl.out (.inl e);have c0':W5.cell? ⟨w.heap.size,0,none⟩=some (.int .u32 a):=by rw[hW5];exact Kept.cell ((Kept.refl (fun g=>g=tb) W4).put ⟨tb,2,none⟩ _ (.inl rfl)) c0 ct
   have c1':W5.cell? ⟨w.heap.size,1,none⟩=some (.int .i64 n):=by rw[hW5];exact Kept.cell ((Kept.refl (fun g=>g=tb) W4).put ⟨tb,2,none⟩ _ (.inl rfl)) c1 ct
   rw[←hW5];clear hW5 D4 K40 t2 tf n1 n2 ct c0 c1;have c0:=c0';have c1:=c1';clear c0' c1';go_upto_region 9 with (fail)
   obtain⟨sl,hsl⟩:∃sl,sl=slotA tb N a:=⟨_,rfl⟩
   have SA:Hid (∀j,j≤n→SlotAt tb N (keyN a j) (sl j)):=jh fun j hj=>by rw[hsl];exact slotA_at ha j (by omega) (fun i hi=>PS.out i (by omega))
   have SS:Hid (∀j bk d,N (keyN a j)=some bk→a/2^(31 - j)%2=d→sl (j+1)=⟨bk,d,none⟩):=jh fun j bk d hb hd=>by rw[hsl];exact slotA_succ hb hd
   have S0:sl 0=⟨tb,0,none⟩:=by rw[hsl];rfl
   clear hsl;obtain⟨W4,hW4⟩:∃W4,W4=W5.alloc (.cells (wayO tb) 223):=⟨_,rfl⟩
   have hB4:Below W5.heap.size W5 W4:=by rw[hW4];exact(Below.refl _ _).alloc (Nat.le_refl _) _
   have Y4:Hid (WayAt W4 W5.heap.size sl 0):=jh (by rw[hW4];exact way_made sl S0);rw[←hW4];clear hW4 S0;have T4:=jh (T3.out.below hB4);have K4:=jh (K3.out.grow hB4);have c0:=jA c0 hB4;have c1:=jA c1 hB4;have wo:Hid (¬TOwn tb N W5.heap.size):=jh fun ho=>by have:=T3.out.own_lt ho;omega
   have wc:Hid (¬w.heap.size=W5.heap.size):=jh (by have:=K3.out.size;have:=jH ‹W5.cell? ⟨w.heap.size,0,none⟩=_›;omega);have wc2:Hid (W5.heap.size≥w.heap.size):=jh K3.out.size;generalize W5.heap.size=wb at Y4 wo wc wc2 ⊢;clear hB4 T3 K3 cz;have BQ:=jh (fun W (k:Nat) (hk:k<32)=>bit_q a k ha hk W);go_wp2_with fail;go_loopw [43] (fun i wr=>∃k:Nat,k≤n∧i=.int .i64 k∧Hid (WayAt wr wb sl k∧Kept (fun g=>g=wb) W4 wr)) (fun i _=>n - (intOf i).toNat)
   case atStart=>exact⟨0,by omega,rfl,jh ⟨Y4.out,Kept.refl _ _⟩⟩
   case round=>
    obtain⟨k,hk,rfl,C⟩:=hrel;have c0':=C.out.2.cell c0 wc.out;have c1':=C.out.2.cell c1 wc.out;have T5:Hid (TrI wr tb N (delL S (keyN a n)) most):=jh (T4.out.kept C.out.2 (fun g hg e=>wo.out (e▸hg)));have K5:Hid (Kept (TOwn tb N) w wr):=jh ⟨C.out.2.os.trans K4.out.os,C.out.2.tape.trans K4.out.tape,C.out.2.output.trans K4.out.output,Nat.le_trans K4.out.size C.out.2.size,fun g hg hf=>(C.out.2.block g (Nat.lt_of_lt_of_le hg K4.out.size) (fun e=>by have:=wc2.out;omega)).trans (K4.out.block g hg hf)⟩;by_cases hlt:k<n
    ·obtain⟨bk,hbk⟩:=PS.out k (by omega);obtain⟨ac,_⟩:=(SA.out k (by omega)).cell T5.out;rw[hbk] at ac;replace ac:wr.cell? (sl k)=some (.pointer (some ⟨bk,0,none⟩)):=ac;have wk:=C.out.1.cell (Nat.le_refl k);obtain⟨ov,wk1⟩:=C.out.1.any (show k+1<33 by omega);have wf:=C.out.1.free (k+1);have BQ':=jh (fun W=>BQ.out W k (by omega));have Y6:Hid (∀d,a/2^(31 - k)%2=d→WayAt (wr.drew.setCell ⟨wb,k+1,none⟩ (.pointer (some ⟨bk,d,none⟩))) wb sl (k+1)):=jh fun d hd=>by
      rw[←SS.out k bk d hbk hd];exact WayAt.step (C.out.1.of_block rfl) (by omega)
     have K6:Hid (∀v,Kept (fun g=>g=wb) W4 (wr.drew.setCell ⟨wb,k+1,none⟩ v)):=jh fun v=>(C.out.2.drew).put _ _ (.inl rfl);clear hbk;have z1:IntKind.i64.wrap ((k:Int)+1)=(k:Int)+1:=IntWalk.i64_in _ (by omega);rcases Nat.mod_two_eq_zero_or_one (a/2^(31 - k)) with m|m
     ·rw[m] at BQ';have M:=jh m;clear m;go_wp2_with fail;have i0:(0:Int)≤(k:Int):=by omega
      have i1:(k:Int)<33:=by omega
      have i2:(0:Int)≤(k:Int)+1:=by omega
      have i3:(k:Int)+1<33:=by omega
      have i4:((k:Int)+1).toNat=k+1:=by omega
      refine reg_tail 15 (by kernel_rfl) (by kernel_rfl) ?_;simp only[List.take_succ_cons,List.take_zero,List.drop_succ_cons,List.drop_zero]
      repeat (first|still_step|still_call (BQ'.out _))
      refine wpStill_nil ?_;go_wp2_with fail;clear z1 i4;exact⟨⟨k+1,by omega,by go_num,jh ⟨Y6.out 0 M.out,K6.out _⟩⟩,by simp[intOf];omega⟩
     ·rw[m] at BQ';have M:=jh m;clear m;go_wp2_with fail;have i0:(0:Int)≤(k:Int):=by omega
      have i1:(k:Int)<33:=by omega
      have i2:(0:Int)≤(k:Int)+1:=by omega
      have i3:(k:Int)+1<33:=by omega
      have i4:((k:Int)+1).toNat=k+1:=by omega
      refine reg_tail 15 (by kernel_rfl) (by kernel_rfl) ?_;simp only[List.take_succ_cons,List.take_zero,List.drop_succ_cons,List.drop_zero]
      repeat (first|still_step|still_call (BQ'.out _))
      refine wpStill_nil ?_;go_wp2_with fail;clear z1 i4;exact⟨⟨k+1,by omega,by go_num,jh ⟨Y6.out 1 M.out,K6.out _⟩⟩,by simp[intOf];omega⟩
    ·obtain rfl:k=n:=by omega
     have Y5:=jh C.out.1;clear C T4 K4 Y4 c0 BQ;go_wp2_with fail;clear c0' c1 c1';go_loopw [9] (fun i wq=>∃(j:Int) (N':Nat→Option Nat),-1≤j∧j≤k∧i=.int .i64 j∧Hid (TrI wq tb N' (delL S (keyN a k)) most∧TSub N N'∧(∀m:Nat,(m:Int)≤j→N' (keyN a m)=N (keyN a m))∧WayAt wq wb sl k∧Kept (TOwn tb N) w wq)) (fun i _=>(intOf i+1).toNat)
     case atStart=>exact⟨k,N,by omega,by omega,rfl,jh ⟨T5.out,fun _ _ h=>h,fun _ _=>rfl,Y5.out,K5.out⟩⟩
     case round=>
      obtain⟨j,N',hj1,hj2,rfl,C⟩:=hrel;by_cases hj:j<0
      ·go_wp2_with fail;go_ret;exact⟨N',E.out,C.out.1,C.out.2.1,C.out.2.2.2.2⟩
      ·obtain⟨m,rfl⟩:=Int.eq_ofNat_of_zero_le (show 0≤j by omega);have hmk:m≤k:=by omega
       obtain⟨bm,hbm⟩:=PS.out m hmk;have hbm':N' (keyN a m)=some bm:=by rw[C.out.2.2.1 m (Int.le_refl _)];exact hbm
       have SL:Hid (SlotAt tb N' (keyN a m) (sl m)):=jh (by
        rcases SA.out m hmk with⟨e,h⟩|⟨e,b',hb',h⟩
        ·exact .inl ⟨e,h⟩
        ·refine .inr ⟨e,b',?_,h⟩;cases m with
         |zero=>rw[keyN_0 a ha] at e;omega
         |succ q=>
          rw[keyN_half a q (by omega)] at hb' ⊢;rw[C.out.2.2.1 q (by omega)];exact hb')
       obtain⟨ac,af⟩:=SL.out.cell C.out.1;rw[hbm',ptrN_some] at ac;have wm:=C.out.2.2.2.1.cell hmk;obtain⟨d0,d1,d2⟩:=C.out.1.ncells hbm';have i0:(0:Int)≤(m:Int):=by omega
       have i1:(m:Int)<33:=by omega
       have HM:=jh (And.intro hbm hbm');clear hbm hbm';cases hg:getL (delL S (keyN a k)) (keyN a m) with
       |some y=>
        rw[hg] at d2;replace d2:wr.cell? ⟨bm,2,none⟩=some (.bool true):=d2;clear hg d0 d1;go_wp2_with fail;go_ret;exact⟨N',E.out,C.out.1,C.out.2.1,C.out.2.2.2.2⟩
       |none=>
        rw[hg] at d2;replace d2:wr.cell? ⟨bm,2,none⟩=some (.bool false):=d2;have HG:=jh hg;clear hg;cases h0:N' (2*keyN a m) with
        |some q0=>
         rw[h0,ptrN_some] at d0;clear h0 d1;go_wp2_with fail;go_ret;exact⟨N',E.out,C.out.1,C.out.2.1,C.out.2.2.2.2⟩
        |none=>
         rw[h0] at d0;replace d0:wr.cell? ⟨bm,0,none⟩=some (.pointer none):=d0;have H0:=jh h0;clear h0;cases h1:N' (2*keyN a m+1) with
         |some q1=>
          rw[h1,ptrN_some] at d1;clear h1;go_wp2_with fail;go_ret;exact⟨N',E.out,C.out.1,C.out.2.1,C.out.2.2.2.2⟩
         |none=>
          rw[h1] at d1;replace d1:wr.cell? ⟨bm,1,none⟩=some (.pointer none):=d1;have TN:Hid (TrI (wr.setCell (sl m) (.pointer none)) tb (updN N' (keyN a m) none) (delL S (keyN a k)) most):=jh
           (C.out.1.hang (o:=none) (Below.refl _ _) SL.out (keyN_pos _ _) (keyN_deep a m ha (by omega)) (.inr rfl) HG.out H0.out h1 (fun nb e=>by cases e))
          have hown:TOwn tb N (sl m).block:=by
           rcases SA.out m hmk with⟨e,h⟩|⟨e,b',hb',h⟩
           ·rw[h];exact .inl rfl
           ·rw[h];exact .inr ⟨_,hb'⟩
          have YN:Hid (WayAt (wr.setCell (sl m) (.pointer none)) wb sl k):=jh (C.out.2.2.2.1.of_block (Deep.blk_setCell_other wr (sl m) _ wb (fun e=>wo.out (e▸hown))));have KN:Hid (Kept (TOwn tb N) w (wr.setCell (sl m) (.pointer none))):=jh (C.out.2.2.2.2.put _ _ (.inl hown));have SN:Hid (TSub N (updN N' (keyN a m) none)):=jh (fun g b' hb'=>by
           by_cases e:g=keyN a m
           ·rw[e,updN_same] at hb';cases hb'
           ·rw[updN_ne _ _ e] at hb';exact C.out.2.1 g b' hb')
          have UN:Hid (∀g:Nat,(g:Int)≤(m:Int) - 1→updN N' (keyN a m) none (keyN a g)=N (keyN a g)):=jh (fun g hg=>by
           rw[updN_ne _ _ (fun e=>by have:=keyN_len ha ha (show g≤32 by omega) (show m≤32 by omega) e;omega)];exact C.out.2.2.1 g (by omega))
          clear h1 hown;go_wp2_with fail;exact⟨⟨(m:Int) - 1,_,by omega,by omega,rfl,jh ⟨TN.out,SN.out,UN.out,YN.out,KN.out⟩⟩,by simp[intOf]⟩
open Go.RowKit Go.Lib
set_option linter.unusedVariables false
abbrev Itm:=(Nat×Nat)×AV
def hereP (S:List (Nat×AV)) (A i:Nat):List Itm:=match getL S (keyN A i) with|some v=>[((A,i),v)]|none=>[]
def goP (S:List (Nat×AV)):Nat→Nat→Nat→List Itm
 |0,A,i=>hereP S A i
 |d+1,A,i=>hereP S A i++(goP S d A (i+1)++goP S d (A+2^(31 - i)) (i+1))
def runL (cont:List Itm→Bool) (L:List Itm):List Itm→List Itm×Bool
 |[]=>(L,true)
 |x::xs=>if cont (L++[x]) then runL cont (L++[x]) xs else (L++[x],false)
theorem runL_append (cont:List Itm→Bool):∀(L xs ys:List Itm),runL cont L (xs++ys)=if (runL cont L xs).2 then runL cont (runL cont L xs).1 ys else runL cont L xs
 |L,[],ys=>by simp[runL]
 |L,x::xs,ys=>by
  simp only[List.cons_append,runL];split
  ·exact runL_append cont _ xs ys
  ·simp
theorem runL_all (cont:List Itm→Bool) (h:∀L,cont L=true):∀(L xs:List Itm),runL cont L xs=(L++xs,true)
 |L,[]=>by simp[runL]
 |L,x::xs=>by simp[runL,h,runL_all cont h]
theorem key_left {A i:Nat} (hi:i<32) (hr:A%2^(32 - i)=0):keyN A (i+1)=2*keyN A i:=by
 rw[keyN_succ A i hi];have:A/2^(31 - i)%2=0:=by
  rw[show 32 - i=(31 - i)+1 by omega,Nat.pow_succ,Nat.mod_mul] at hr;have h1:=Nat.pow_pos (n:=31 - i) (show 0<2 by decide);rcases Nat.mod_two_eq_zero_or_one (A/2^(31 - i)) with m|m
  ·exact m
  ·rw[m] at hr;omega
 omega
theorem key_right {A i:Nat} (hi:i<32) (hr:A%2^(32 - i)=0):keyN (A+2^(31 - i)) (i+1)=2*keyN A i+1:=by
 have hl:=key_left hi hr;unfold keyN at hl ⊢;rw[show 32 - (i+1)=31 - i by omega] at hl ⊢;rw[Nat.add_div_right _ (Nat.pow_pos (by decide))];omega
theorem right_mod {A i:Nat}:rightB (A:Int) (i:Int)=true↔A%2^(32 - i)=0∧i≤32:=by
 rw[rightB_iff];constructor
 ·rintro⟨h1,h2,h3⟩;rw[lowN_of _ h2 h3,show (32 - (i:Int)).toNat=32 - i by omega] at h1;refine⟨?_,by omega⟩;have:((A%2^(32 - i):Nat):Int)=0:=by rw[←h1];simp
  omega
 ·rintro⟨h1,h2⟩;rw[lowN_of _ (by omega) (by omega),show (32 - (i:Int)).toNat=32 - i by omega];refine⟨?_,by omega,by omega⟩;have:((A%2^(32 - i):Nat):Int)=0:=by rw[h1];rfl
  rw[←this];simp
theorem mod_left {A i:Nat} (hi:i<32) (hr:A%2^(32 - i)=0):A%2^(32 - (i+1))=0:=by
 rw[show 32 - i=(32 - (i+1))+1 by omega,Nat.pow_succ,Nat.mod_mul] at hr;omega
theorem mod_right {A i:Nat} (hi:i<32) (hr:A%2^(32 - i)=0):(A+2^(31 - i))%2^(32 - (i+1))=0:=by
 rw[show 31 - i=32 - (i+1) by omega,Nat.add_mod_right];exact mod_left hi hr
theorem lt_right {A i:Nat} (hi:i<32) (ha:A<4294967296) (hr:A%2^(32 - i)=0):A+2^(31 - i)<4294967296:=by
 obtain⟨q,rfl⟩:=Nat.dvd_of_mod_eq_zero hr;have e:(4294967296:Nat)=2^(32 - i)*2^i:=by rw[←Nat.pow_add,show 32 - i+i=32 by omega]
 have e2:2^(32 - i)=2^(31 - i)*2:=by rw[show 32 - i=(31 - i)+1 by omega,Nat.pow_succ]
 have hq:q<2^i:=by
  rw[e] at ha;exact Nat.lt_of_mul_lt_mul_left ha
 have h3:2^(32 - i)*(q+1)≤2^(32 - i)*2^i:=Nat.mul_le_mul_left _ hq;rw[←e,Nat.mul_add] at h3;have h1:=Nat.pow_pos (n:=31 - i) (show 0<2 by decide);omega
theorem goP_none {tT tN:TypeId} {z:AV} {W:World} {tb:Nat} {N:Nat→Option Nat} {S:List (Nat×AV)} {most:Int} (h:TrieAt tT tN z W tb N S most):∀(d A i:Nat),i+d=32→A%2^(32 - i)=0→N (keyN A i)=none→goP S d A i=[]
 |0,A,i,_,_,hn=>by unfold goP hereP;rw[h.none_of hn]
 |d+1,A,i,hi,hr,hn=>by
  obtain⟨u1,u2⟩:=h.up_none hn (keyN_pos A i);unfold goP hereP;rw[h.none_of hn,goP_none h d A (i+1) (by omega) (mod_left (by omega) hr) (by rw[key_left (by omega) hr];exact u1),
   goP_none h d (A+2^(31 - i)) (i+1) (by omega) (mod_right (by omega) hr) (by rw[key_right (by omega) hr];exact u2)]
  rfl
theorem hereP_no {S:List (Nat×AV)} {A i:Nat} (h:getL S (keyN A i)=none):hereP S A i=[]:=by unfold hereP;rw[h]
theorem hereP_yes {S:List (Nat×AV)} {A i:Nat} {v:AV} (h:getL S (keyN A i)=some v):hereP S A i=[((A,i),v)]:=by unfold hereP;rw[h]
structure EachOk (tb:Nat) (N:Nat→Option Nat) (S:List (Nat×AV)) (most:Int) (g:Nat) (lb:Array Value) (cont:List Itm→Bool) (Inv:(Nat→Prop)→List Itm→World→Prop):Prop where
 ent:∀args w,(callFunc g args).run Tryz.prog w=.ok (.enter g args) w
 stab:∀P P' L W W',Inv P L W→Below W.heap.size W W'→(∀b,P' b→P b∨(W.heap.size≤b∧b<W'.heap.size))→Inv P' L W'
 tri:∀P L W,Inv P L W→TrI W tb N S most
 call:∀P L W (A i:Nat) v,Inv P L W→A<4294967296→rightB A i=true→getL S (keyN A i)=some v→
  Calls Tryz.prog g (#[.agg #[.int .u32 A,.int .i64 i],v.V]++lb) W fun e w'=>e=.returned (.bool (cont (L++[((A,i),v)])))∧Inv P (L++[((A,i),v)]) w'∧Kept (fun b=>¬P b) W w'
def WalkPost (cont:List Itm→Bool) (Inv:(Nat→Prop)→List Itm→World→Prop) (P:Nat→Prop) (w:World) (r:List Itm×Bool) (e:Ending) (w':World):Prop:=
 e=.returned (.bool r.2)∧Inv P r.1 w'∧Kept (fun b=>¬P b) w w'
theorem WalkPost.of {cont:List Itm→Bool} {Inv:(Nat→Prop)→List Itm→World→Prop} {P:Nat→Prop} {w w':World} {r:List Itm×Bool} {L:List Itm} {c:Bool} (h:r=(L,c)) (hI:Inv P L w') (hK:Kept (fun b=>¬P b) w w'):WalkPost cont Inv P w r (.returned (.bool c)) w':=by
 subst h;exact⟨rfl,hI,hK⟩
theorem half_0 (A i:Nat) (ha:A<4294967296) (hi:i<32) (hr:rightB A i=true) (w:World):Calls Tryz.prog 189 #[.agg #[.int .u32 A,.int .i64 i],.int .i64 0] w fun e w'=>e=.returned (.tuple #[.agg #[.int .u32 A,.int .i64 (i+1:Nat)],.int .i64 0])∧Below w.heap.size w w':=by
 have:=ip_Half (A:Int) (i:Int) 0 w (by omega) (by omega) hr (by omega);rw[halfI_0] at this;exact this
theorem half_1 (A i:Nat) (ha:A<4294967296) (hi:i<32) (hr:rightB A i=true) (w:World):Calls Tryz.prog 189 #[.agg #[.int .u32 A,.int .i64 i],.int .i64 1] w fun e w'=>e=.returned (.tuple #[.agg #[.int .u32 (A+2^(31 - i):Nat),.int .i64 (i+1:Nat)],.int .i64 0])∧Below w.heap.size w w':=by
 have:=ip_Half (A:Int) (i:Int) 1 w (by omega) (by omega) hr (by omega);rw[halfI_1 _ _ _ (by decide)] at this;have e:(A:Int)+sizeI ((i:Int)+1)=((A+2^(31 - i):Nat):Int):=by
  unfold sizeI;rw[lowN_of _ (by omega) (by omega),show (32 - ((i:Int)+1)).toNat=31 - i by omega];simp
 rw[e] at this;exact this
theorem half_32 (A i:Nat) (hi:i=32) (t:Int) (ha:A<4294967296) (w:World):Calls Tryz.prog 189 #[.agg #[.int .u32 A,.int .i64 i],.int .i64 t] w fun e w'=>e=.returned (.tuple #[.agg #[.int .u32 0,.int .i64 0],.int .i64 1])∧Below w.heap.size w w':=
 ip_Half_bad (A:Int) i t w (by omega) (by omega) (.inr (by subst hi;rfl))
section
variable {tb:Nat} {N:Nat→Option Nat} {S:List (Nat×AV)} {most:Int} {g:Nat} {lb:Array Value} {cont:List Itm→Bool} {Inv:(Nat→Prop)→List Itm→World→Prop}
def WSt (Inv:(Nat→Prop)→List Itm→World→Prop) (P:Nat→Prop) (w:World) (A i:Nat) (L:List Itm) (W:World):Prop:=
 Inv (fun b=>P b∨b=w.heap.size) L W∧W.cell? ⟨w.heap.size,0,none⟩=some (.int .u32 A)∧W.cell? ⟨w.heap.size,1,none⟩=some (.int .i64 i)∧Kept (fun b=>¬P b) w W
theorem WSt.below (E:EachOk tb N S most g lb cont Inv) {P:Nat→Prop} {w W W':World} {A i:Nat} {L:List Itm} (h:WSt Inv P w A i L W) (hb:Below W.heap.size W W'):WSt Inv P w A i L W':=
 ⟨E.stab _ _ _ _ _ h.1 hb (fun _ h=>.inl h),jA h.2.1 hb,jA h.2.2.1 hb,h.2.2.2.grow hb⟩
theorem WSt.step {P:Nat→Prop} {w W W':World} {A i:Nat} {L L':List Itm} (h:WSt Inv P w A i L W) (hI:Inv (fun b=>P b∨b=w.heap.size) L' W') (hk:Kept (fun b=>¬(P b∨b=w.heap.size)) W W'):WSt Inv P w A i L' W':=
 ⟨hI,hk.cell h.2.1 (fun h=>h (.inr rfl)),hk.cell h.2.2.1 (fun h=>h (.inr rfl)),h.2.2.2.trans (hk.imp (fun k h hp=>h (.inl hp)))⟩
theorem WSt.done (E:EachOk tb N S most g lb cont Inv) {P:Nat→Prop} {w W:World} {A i:Nat} {L:List Itm} {r:List Itm×Bool} {c:Bool} (h:WSt Inv P w A i L W) (hr:r=(L,c)):WalkPost cont Inv P w r (.returned (.bool c)) W:=
 WalkPost.of hr (E.stab _ _ _ _ _ h.1 (Below.refl _ _) (fun _ h=>.inl (.inl h))) h.2.2.2
end
open Go.RowKit Go.Lib
set_option linter.unusedVariables false
section
variable {tb:Nat} {N:Nat→Option Nat} {S:List (Nat×AV)} {most:Int} {g:Nat} {lb:Array Value} {cont:List Itm→Bool} {Inv:(Nat→Prop)→List Itm→World→Prop}
theorem neq_func (g:Nat) (lb:Array Value) (w:World):(binOp .neq 171 (.func (.func g) #[] lb) .nilFunc).run Tryz.prog w=.ok (.bool true) w:=by
 first|rfl|kernel_rfl|simp[binOp,go_sem]
def BelowPost (Inv:(Nat→Prop)→List Itm→World→Prop) (P:Nat→Prop) (w:World) (L:List Itm) (e:Ending) (w':World):Prop:=
 e=.returned (.tuple #[])∧Inv P L w'∧Kept (fun b=>¬P b) w w'
end
end Go.Proofs.YtkoidahgbbabiaaGreat
