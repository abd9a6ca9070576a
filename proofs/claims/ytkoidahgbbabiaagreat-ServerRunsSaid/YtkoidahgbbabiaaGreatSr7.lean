/- Texts of one proof, one behind another. -/
import Derived.Shelf.SlGeneric
import Derived.Shelf.SlSortCmp.NoneTotal
import Derived.Ground.SlsfProg
import Derived.Test.YtkoidahgbbabiaaGreatProg
import Derived.Test.YtkoidahgbbabiaaGreatSr6
import Derived.Lib.AppendZerosOnto
import Derived.Test.YtkoidahgbbabiaaGreatSr5
import Derived.DeepKeys4
import Derived.Test.YtkoidahgbbabiaaGreatSr1
import Derived.SizedLaws
import Derived.Test.YtkoidahgbbabiaaGreatSr3
import Derived.LoopTactic
import Derived.OwnWalk
import Derived.Deep.DeepCutAuto
import Derived.LoopN
import Derived.Lib.SliceRun
set_option maxRecDepth 100000
set_option maxHeartbeats 100000000
namespace Go.Proofs
open Go.Shelf
def Tryz.sortP_ren:Go.Shelf.Ren:=⟨fun|6=>59|15=>109|14=>108|28=>148|29=>149|20=>140|21=>141|22=>142|23=>143|24=>144|25=>145|26=>146|27=>147|46=>179|47=>180|48=>181|49=>182|50=>183|57=>193|n=>n,fun|22=>23|24=>53|25=>134|3=>3|39=>117|0=>0|53=>35|55=>234|4=>4|46=>227|45=>226|50=>177|5=>5|9=>9|66=>256|70=>260|76=>268|77=>269|n=>n,fun|n=>n⟩
theorem Tryz.sortP:Go.Proofs.SlLaysF0.n6 Tryz.prog Tryz.sortP_ren:={
 mixed:=by kernel_rfl
 f6:=⟨Tryz.f59.name,by decide,Tryz.func59.trans (congrArg some (by kernel_rfl))⟩
 f14:=⟨Tryz.f108.name,by decide,Tryz.func108.trans (congrArg some (by kernel_rfl))⟩
 f15:=Tryz.func109.trans (congrArg some (by kernel_rfl))
 f20:=⟨Tryz.f140.name,by decide,Tryz.func140.trans (congrArg some (by kernel_rfl))⟩
 f21:=⟨Tryz.f141.name,by decide,Tryz.func141.trans (congrArg some (by kernel_rfl))⟩
 f22:=⟨Tryz.f142.name,by decide,Tryz.func142.trans (congrArg some (by kernel_rfl))⟩
 f23:=⟨Tryz.f143.name,by decide,Tryz.func143.trans (congrArg some (by kernel_rfl))⟩
 f24:=⟨Tryz.f144.name,by decide,Tryz.func144.trans (congrArg some (by kernel_rfl))⟩
 f25:=⟨Tryz.f145.name,by decide,Tryz.func145.trans (congrArg some (by kernel_rfl))⟩
 f26:=⟨Tryz.f146.name,by decide,Tryz.func146.trans (congrArg some (by kernel_rfl))⟩
 f27:=⟨Tryz.f147.name,by decide,Tryz.func147.trans (congrArg some (by kernel_rfl))⟩
 f28:=Tryz.func148.trans (congrArg some (by kernel_rfl))
 f29:=Tryz.func149.trans (congrArg some (by kernel_rfl))
 f46:=⟨Tryz.f179.name,by decide,Tryz.func179.trans (congrArg some (by kernel_rfl))⟩
 f47:=Tryz.func180.trans (congrArg some (by kernel_rfl))
 f48:=Tryz.func181.trans (congrArg some (by kernel_rfl))
 f49:=⟨Tryz.f182.name,by decide,Tryz.func182.trans (congrArg some (by kernel_rfl))⟩
 f50:=⟨Tryz.f183.name,by decide,Tryz.func183.trans (congrArg some (by kernel_rfl))⟩
 f57:=⟨Tryz.f193.name,by decide,Tryz.func193.trans (congrArg some (by kernel_rfl))⟩
 t0:=Tryz.underlying0
 a0:=Tryz.isAgg0
 z0:=Tryz.sizeOf0
 v0:=Tryz.zeroValue0
 t3:=Tryz.underlying3
 a3:=Tryz.isAgg3
 z3:=Tryz.sizeOf3
 v3:=Tryz.zeroValue3
 t4:=Tryz.underlying4
 a4:=Tryz.isAgg4
 z4:=Tryz.sizeOf4
 v4:=Tryz.zeroValue4
 t5:=Tryz.underlying5
 a5:=Tryz.isAgg5
 z5:=Tryz.sizeOf5
 v5:=Tryz.zeroValue5
 t9:=Tryz.underlying9
 a9:=Tryz.isAgg9
 z9:=Tryz.sizeOf9
 v9:=Tryz.zeroValue9
 t22:=Tryz.underlying23
 a22:=Tryz.isAgg23
 z22:=Tryz.sizeOf23
 v22:=Tryz.zeroValue23
 t25:=Tryz.underlying134
 a25:=Tryz.isAgg134
 z25:=Tryz.sizeOf134
 v25:=Tryz.zeroValue134
 t39:=Tryz.underlying117
 a39:=Tryz.isAgg117
 z39:=Tryz.sizeOf117
 v39:=Tryz.zeroValue117
 t45:=Tryz.underlying226
 a45:=Tryz.isAgg226
 z45:=Tryz.sizeOf226
 v45:=Tryz.zeroValue226
 t46:=Tryz.underlying227
 a46:=Tryz.isAgg227
 z46:=Tryz.sizeOf227
 v46:=Tryz.zeroValue227
 t50:=Tryz.underlying177
 a50:=Tryz.isAgg177
 z50:=Tryz.sizeOf177
 v50:=Tryz.zeroValue177
 t53:=Tryz.underlying35
 a53:=Tryz.isAgg35
 z53:=Tryz.sizeOf35
 v53:=Tryz.zeroValue35
 t55:=Tryz.underlying234
 a55:=Tryz.isAgg234
 z55:=Tryz.sizeOf234
 v55:=Tryz.zeroValue234
 t66:=Tryz.underlying256
 a66:=Tryz.isAgg256
 z66:=Tryz.sizeOf256
 v66:=Tryz.zeroValue256
 t70:=Tryz.underlying260
 a70:=Tryz.isAgg260
 z70:=Tryz.sizeOf260
 v70:=Tryz.zeroValue260
 t76:=Tryz.underlying268
 a76:=Tryz.isAgg268
 z76:=Tryz.sizeOf268
 v76:=Tryz.zeroValue268
 t77:=Tryz.underlying269
 a77:=Tryz.isAgg269
 z77:=Tryz.sizeOf269
 v77:=Tryz.zeroValue269}
def Tryz.sortR_ren:Go.Shelf.Ren:=⟨fun|6=>68|15=>109|14=>118|28=>148|29=>149|20=>155|21=>156|22=>157|23=>158|24=>159|25=>160|26=>161|27=>162|46=>184|47=>180|48=>181|49=>185|50=>186|57=>194|n=>n,fun|22=>57|24=>61|25=>142|3=>3|39=>117|0=>0|53=>35|55=>234|4=>4|46=>227|45=>226|50=>177|5=>5|9=>9|66=>256|70=>260|76=>268|77=>269|n=>n,fun|n=>n⟩
theorem Tryz.sortR:Go.Proofs.SlLaysF0.n6 Tryz.prog Tryz.sortR_ren:={
 mixed:=by kernel_rfl
 f6:=⟨Tryz.f68.name,by decide,Tryz.func68.trans (congrArg some (by kernel_rfl))⟩
 f14:=⟨Tryz.f118.name,by decide,Tryz.func118.trans (congrArg some (by kernel_rfl))⟩
 f15:=Tryz.func109.trans (congrArg some (by kernel_rfl))
 f20:=⟨Tryz.f155.name,by decide,Tryz.func155.trans (congrArg some (by kernel_rfl))⟩
 f21:=⟨Tryz.f156.name,by decide,Tryz.func156.trans (congrArg some (by kernel_rfl))⟩
 f22:=⟨Tryz.f157.name,by decide,Tryz.func157.trans (congrArg some (by kernel_rfl))⟩
 f23:=⟨Tryz.f158.name,by decide,Tryz.func158.trans (congrArg some (by kernel_rfl))⟩
 f24:=⟨Tryz.f159.name,by decide,Tryz.func159.trans (congrArg some (by kernel_rfl))⟩
 f25:=⟨Tryz.f160.name,by decide,Tryz.func160.trans (congrArg some (by kernel_rfl))⟩
 f26:=⟨Tryz.f161.name,by decide,Tryz.func161.trans (congrArg some (by kernel_rfl))⟩
 f27:=⟨Tryz.f162.name,by decide,Tryz.func162.trans (congrArg some (by kernel_rfl))⟩
 f28:=Tryz.func148.trans (congrArg some (by kernel_rfl))
 f29:=Tryz.func149.trans (congrArg some (by kernel_rfl))
 f46:=⟨Tryz.f184.name,by decide,Tryz.func184.trans (congrArg some (by kernel_rfl))⟩
 f47:=Tryz.func180.trans (congrArg some (by kernel_rfl))
 f48:=Tryz.func181.trans (congrArg some (by kernel_rfl))
 f49:=⟨Tryz.f185.name,by decide,Tryz.func185.trans (congrArg some (by kernel_rfl))⟩
 f50:=⟨Tryz.f186.name,by decide,Tryz.func186.trans (congrArg some (by kernel_rfl))⟩
 f57:=⟨Tryz.f194.name,by decide,Tryz.func194.trans (congrArg some (by kernel_rfl))⟩
 t0:=Tryz.underlying0
 a0:=Tryz.isAgg0
 z0:=Tryz.sizeOf0
 v0:=Tryz.zeroValue0
 t3:=Tryz.underlying3
 a3:=Tryz.isAgg3
 z3:=Tryz.sizeOf3
 v3:=Tryz.zeroValue3
 t4:=Tryz.underlying4
 a4:=Tryz.isAgg4
 z4:=Tryz.sizeOf4
 v4:=Tryz.zeroValue4
 t5:=Tryz.underlying5
 a5:=Tryz.isAgg5
 z5:=Tryz.sizeOf5
 v5:=Tryz.zeroValue5
 t9:=Tryz.underlying9
 a9:=Tryz.isAgg9
 z9:=Tryz.sizeOf9
 v9:=Tryz.zeroValue9
 t22:=Tryz.underlying57
 a22:=Tryz.isAgg57
 z22:=Tryz.sizeOf57
 v22:=Tryz.zeroValue57
 t25:=Tryz.underlying142
 a25:=Tryz.isAgg142
 z25:=Tryz.sizeOf142
 v25:=Tryz.zeroValue142
 t39:=Tryz.underlying117
 a39:=Tryz.isAgg117
 z39:=Tryz.sizeOf117
 v39:=Tryz.zeroValue117
 t45:=Tryz.underlying226
 a45:=Tryz.isAgg226
 z45:=Tryz.sizeOf226
 v45:=Tryz.zeroValue226
 t46:=Tryz.underlying227
 a46:=Tryz.isAgg227
 z46:=Tryz.sizeOf227
 v46:=Tryz.zeroValue227
 t50:=Tryz.underlying177
 a50:=Tryz.isAgg177
 z50:=Tryz.sizeOf177
 v50:=Tryz.zeroValue177
 t53:=Tryz.underlying35
 a53:=Tryz.isAgg35
 z53:=Tryz.sizeOf35
 v53:=Tryz.zeroValue35
 t55:=Tryz.underlying234
 a55:=Tryz.isAgg234
 z55:=Tryz.sizeOf234
 v55:=Tryz.zeroValue234
 t66:=Tryz.underlying256
 a66:=Tryz.isAgg256
 z66:=Tryz.sizeOf256
 v66:=Tryz.zeroValue256
 t70:=Tryz.underlying260
 a70:=Tryz.isAgg260
 z70:=Tryz.sizeOf260
 v70:=Tryz.zeroValue260
 t76:=Tryz.underlying268
 a76:=Tryz.isAgg268
 z76:=Tryz.sizeOf268
 v76:=Tryz.zeroValue268
 t77:=Tryz.underlying269
 a77:=Tryz.isAgg269
 z77:=Tryz.sizeOf269
 v77:=Tryz.zeroValue269}
end Go.Proofs
namespace Go.Proofs.YtkoidahgbbabiaaGreat
open Go.RowKit
theorem flatK_enc (xs:List Pf):Sort.flatK encP 2 xs.toArray=(xs.flatMap encP).toArray:=by
 apply Sort.ext_get!
 ·rw[Sort.size_flatK];simp[jX encP_len]
 ·intro t ht;rw[Sort.size_flatK] at ht;have ht':t<xs.length*2:=by simpa using ht
  rw[Sort.get_flatK _ _ _ _ ht];have hi:t/2<xs.length:=by omega
  have hf:=flat_get encP_len xs (t/2) _ (List.getElem?_eq_getElem hi) (t%2) (by omega);rw[show t/2*2+t%2=t by omega] at hf;have h1:xs.toArray[t/2]! =xs[t/2]:=by simp[hi]
  rw[h1];have hl:(xs.flatMap encP).length=xs.length*2:=jX encP_len xs;have hm:t%2<(encP xs[t/2]).length:=by rw[encP_len];omega
  rw[List.getElem?_eq_getElem hm,List.getElem?_eq_getElem (by rw[hl];exact ht')] at hf;have hf:=Option.some.inj hf;rw[getElem!_pos (xs.flatMap encP).toArray t (by simpa [hl] using ht'),getElem!_pos (encP xs[t/2]) (t%2) hm];simpa using hf.symm
theorem put_heap {w:World} {g:Nat} {cur:Array Value} {T:TypeId} (F:Array Value) (h:w.heap[g]? =some (.cells cur T (0,0))):(Sort.putRow id w g 0 F).heap[g]? =some (.cells (Sort.putCells id 0 F cur) T (0,0)):=by
 unfold Sort.putRow Sort.mapBlock;simp only[Array.getElem?_modify,if_true,h,Option.map_some,Sort.onCells]
theorem put_take {cur F:Array Value} (h:F.size≤cur.size):(Sort.putCells id 0 F cur).toList.take F.size=F.toList:=by
 apply List.ext_getElem?;intro i;by_cases hi:i<F.size
 ·rw[List.getElem?_take_of_lt hi];unfold Sort.putCells;rw[Array.getElem?_toList,Array.getElem?_mapIdx,Array.getElem?_eq_getElem (show i<cur.size by omega)];simp[hi]
 ·rw[List.getElem?_eq_none (by simp;omega),List.getElem?_eq_none (by simp;omega)]
theorem own_put {w:World} {B g n c k:Nat} {e:TypeId} {xs ys:List Value} (h:w.ownsRow B e k (.slice (some ⟨g,0,none⟩) n c) n xs) (hy:ys.length=n*k) (m:Nat) (os:Array Obj):
  (Sort.grow (Sort.putRow id (Sort.ahead w m) g 0 ys.toArray) os).ownsRow B e k (.slice (some ⟨g,0,none⟩) n c) n ys∧Kept (fun b=>b=g) w (Sort.grow (Sort.putRow id (Sort.ahead w m) g 0 ys.toArray) os):=by
 obtain⟨h1,⟨h2,_⟩|⟨g',cap,cur,h2,hB,hg,hn,hm,hs,hc⟩⟩:=h
 ·cases h2
 ·injection h2 with e1 e2 e3;injection e1 with e1;injection e1 with e1;subst e1;subst e3;have hlt:=jE hg;have hp:=put_heap (w:=Sort.ahead w m) ys.toArray hg;have hgrow:∀(W:World) (i:Nat),i<W.heap.size→(Sort.grow W os).heap[i]? =W.heap[i]?:=fun W i hi=>by unfold Sort.grow;exact Array.getElem?_append_left hi
  have hsz:(Sort.putRow id (Sort.ahead w m) g 0 ys.toArray).heap.size=w.heap.size:=by rw[Sort.size_putRow];rfl
  refine⟨⟨hy,.inr ⟨g,c,_,rfl,hB,(hgrow _ g (by rw[hsz];exact hlt)).trans hp,hn,hm,?_,?_⟩⟩,?_⟩
  ·unfold Sort.putCells;simp[hs]
  ·have:=put_take (cur:=cur) (F:=ys.toArray) (by rw[hs,List.size_toArray,hy];exact Nat.mul_le_mul_right _ hn);rw[List.size_toArray,hy] at this;simpa using this
  ·refine⟨rfl,rfl,rfl,?_,fun i hi hne=>?_⟩
   ·show w.heap.size≤((Sort.putRow id (Sort.ahead w m) g 0 ys.toArray).heap++os).size;rw[Array.size_append,hsz];omega
   ·rw[hgrow _ i (by rw[hsz];exact hi)];unfold Sort.putRow Sort.mapBlock;rw[Array.getElem?_modify,if_neg (fun h=>hne h.symm)];rfl
theorem ltOf_pcmp (x y:Pf):Go.Proofs.ltOf pcmp x y=decide (plt x y):=by
 unfold Go.Proofs.ltOf;by_cases h:plt x y
 ·simp[h,pcmp_lt.2 h]
 ·have:=fun k=>h (pcmp_lt.1 k);have h2:¬pcmp x y<0:=this;simp[h,h2]
theorem swo_pcmp:Sort.SWO (Go.Proofs.ltOf pcmp) where
 irrefl x:=by rw[ltOf_pcmp];simpa using plt_irrefl x
 trans x y z h1 h2:=by
  rw[ltOf_pcmp] at*;simp only[decide_eq_true_eq] at*;exact plt_trans h1 h2
 ntrans x y z h1 h2:=by
  rw[ltOf_pcmp] at*;simp only[decide_eq_false_iff_not] at*;unfold plt at*;omega
theorem cmp_lays (blk off size:Nat) (w:World):CmpLays Tryz.prog 22 #[] encP 2 pcmp blk off size w:=by
 intro m os dk _ x y;exact(ip_CmpD x.1 x.2 y.1 y.2 _).mono fun e w' ⟨he,hd⟩=>⟨he,hd.grow⟩
theorem isAgg_pref:∀w,(isAgg 53).run Tryz.prog w=.ok true w:=Tryz.isAgg53
theorem sizeOf_pref:∀w,(Go.sizeOf 53).run Tryz.prog w=.ok 2 w:=Tryz.sizeOf53
theorem ps_Sort (B:Nat) (v:Value) (xs:List Pf) (w:World) (h:OwnPs w B v xs) (hn:xs.length<4611686018427387904):
  Calls Tryz.prog 59 #[v,.func (.func 22) #[] #[]] w fun e w'=>∃ys,e=.returned (.tuple #[])∧ys.length=xs.length∧(∀p,p∈ys↔p∈xs)∧ys.Pairwise (fun x y=>¬plt y x)∧OwnPs w' B v ys∧Kept (fun b=>v.ownBlock=some b) w w':=by
 obtain⟨h1,hok⟩:=h;rcases own_slice h1 with⟨rfl,h0⟩|⟨g,c,rfl⟩
 ·obtain rfl:=List.length_eq_zero_iff.1 h0;refine(AnyF.slices_SortFunc_none Tryz.sortP none 0 _ w).mono ?_;rintro e w' ⟨rfl,rfl⟩;exact⟨[],rfl,rfl,fun p=>Iff.rfl,List.Pairwise.nil,⟨h1,hok⟩,Kept.refl _ _⟩
 ·have eg:∀args w,(callFunc 22 args).run Tryz.prog w=.ok (.enter 22 args) w:=enters_of Tryz.func22 (by kernel_rfl) rfl;have hH:Sort.HoldsK encP 2 w g 0 xs.toArray:=by
   unfold Sort.HoldsK;rw[flatK_enc];intro j hj;obtain⟨-,⟨h2,_⟩|⟨g',cap,cur,h2,-,hg,hcn,-,hs,hc⟩⟩:=h1
   ·cases h2
   ·injection h2 with e1 e2 e3;injection e1 with e1;injection e1 with e1;subst e1;subst e3;rw[List.size_toArray] at hj;rw[jX encP_len] at hj;have hl:(xs.flatMap encP)[j]? =cur[j]?:=by
     rw[←hc,List.getElem?_take_of_lt hj,Array.getElem?_toList]
    rw[Nat.zero_add];refine⟨?_,jN hg j⟩;rw[jB hg,←hl,List.getElem?_eq_getElem (by rw[jX encP_len];exact hj)];rw[getElem!_pos _ _ (by simpa [jX encP_len] using hj)];simp
  have hblk:g<w.heap.size:=by
   obtain⟨-,⟨h2,_⟩|⟨g',cap,cur,h2,-,hg,-⟩⟩:=h1
   ·cases h2
   ·injection h2 with e1 e2 e3;injection e1 with e1;injection e1 with e1;subst e1;exact jE hg
  have hcon:=AnyQ.slices_SortFunc_total Tryz.sortP 2 isAgg_pref sizeOf_pref encP encP_len encP_one pcmp swo_pcmp 22 #[] g 0 c xs.toArray w eg (cmp_lays g 0 xs.toArray.size w) hH hblk (by simpa using hn) (fun x y hx hy=>by
   rw[ltOf_pcmp] at hx hy;simp only[decide_eq_false_iff_not] at hx hy;exact plt_total hx hy)
  refine hcon.mono ?_;rintro e w' ⟨rfl,n,os,rfl⟩;simp only;generalize hy:xs.mergeSort (fun x y=>!(Go.Proofs.ltOf pcmp) y x)=ys;have hlen:ys.length=xs.length:=by rw[←hy,List.length_mergeSort]
  have hmem:∀p,p∈ys↔p∈xs:=fun p=>by rw[←hy];exact(List.mergeSort_perm _ _).mem_iff
  have hsort:ys.Pairwise (fun x y=>¬plt y x):=by
   have:=List.pairwise_mergeSort (le:=fun x y=>!(Go.Proofs.ltOf pcmp) y x) (fun a b c h1 h2=>by
    simp only[ltOf_pcmp,Bool.not_eq_true',decide_eq_false_iff_not] at*;unfold plt at*;omega) (fun a b=>by
    simp only[ltOf_pcmp,Bool.or_eq_true,Bool.not_eq_true',decide_eq_false_iff_not];unfold plt;omega) xs
   rw[hy] at this;exact this.imp fun h=>by simpa only[ltOf_pcmp,Bool.not_eq_true',decide_eq_false_iff_not] using h
  have hp:=own_put h1 (ys:=ys.flatMap encP) (by rw[jX encP_len,hlen]) n os;unfold Go.Proofs.sortWorldK Sort.putRowK;rw[flatK_enc];refine⟨ys,trivial,hlen,hmem,hsort,⟨by rw[hlen];exact hp.1,fun p hp=>hok p ((hmem p).1 hp)⟩,hp.2.imp fun b hb=>by rw[hb];rfl⟩
open Go.RowKit
def setOf (ps:List Pf):List Pf:=comp (ps.mergeSort fun x y=>!decide (plt y x))
theorem setOf_srt (ps:List Pf):Srt (setOf ps)∧∀p,p∈setOf ps↔p∈ps:=by
 have h:=List.pairwise_mergeSort (le:=fun x y:Pf=>!decide (plt y x)) (fun a b c h1 h2=>by
    simp only[Bool.not_eq_true',decide_eq_false_iff_not] at*;unfold plt at*;omega) (fun a b=>by
    simp only[Bool.or_eq_true,Bool.not_eq_true',decide_eq_false_iff_not];unfold plt;omega) ps
 have h2:=comp_srt (h.imp fun {a b} k=>by simpa only[Bool.not_eq_true',decide_eq_false_iff_not] using k);exact⟨h2.1,fun p=>(h2.2 p).trans (List.mergeSort_perm _ _).mem_iff⟩
theorem setOf_is {ps ys:List Pf} (h:Srt ys) (hm:∀p,p∈ys↔p∈ps):setOf ps=ys:=srt_ext (setOf_srt ps).1 h fun p=>((setOf_srt ps).2 p).trans (hm p).symm
theorem setOf_len (ps:List Pf):(setOf ps).length≤ps.length:=by
 have:=comp_len (ps.mergeSort fun x y=>!decide (plt y x));rw[List.length_mergeSort] at this;exact this
def rights (ps:List Pf):Bool:=ps.all fun p=>rightB p.1 p.2
theorem ownPs_nil (w:World) (B:Nat):OwnPs w B (.slice none 0 0) []:=⟨⟨rfl,.inl ⟨rfl,rfl⟩⟩,fun p hp=>by simp at hp⟩
def AllR (ps:List Pf) (k:Nat):Prop:=∀(i:Nat) (x:Pf),i<k→ps[i]? =some x→rightB x.1 x.2=true
theorem allR_step {ps:List Pf} {k:Nat} {x:Pf} (h:AllR ps k) (hx:ps[k]? =some x) (hr:rightB x.1 x.2=true):AllR ps (k+1):=by
 intro i y hi hy;by_cases e:i=k
 ·subst e;rw[hx] at hy;obtain rfl:=Option.some.inj hy;exact hr
 ·exact h i y (by omega) hy
theorem allR_all {ps:List Pf} (h:AllR ps ps.length):rights ps=true:=by
 unfold rights;rw[List.all_eq_true];intro x hx;obtain⟨i,hi⟩:=List.mem_iff_getElem?.1 hx;exact h i x (List.getElem?_eq_some_iff.1 hi).1 hi
theorem own_base {w:World} {B B' k n:Nat} {e:TypeId} {v:Value} {xs:List Value} (h:w.ownsRow B e k v n xs) (hB:B'≤B):w.ownsRow B' e k v n xs:=by
 obtain⟨h1,h2⟩:=h;refine⟨h1,h2.imp_right ?_⟩;rintro⟨g,cap,cur,h3,h4,h5⟩;exact⟨g,cap,cur,h3,by omega,h5⟩
open Go.RowKit
section
variable {P:Program} {w:World}
theorem run_append_noneP (base:Nat) (t ty e:TypeId) (i:TypeInfo) (size c:Nat) (ht:P.underlying t=some (.slice e)) (hi:P.info? e=some i)
  (v:Value) (n:Nat) (xs:List Value) (hown:w.ownsRow base e size v n xs):
  (Builtin.append_ #[t,t] ty #[v,.slice none 0 c]).run P w=.ok v w:=by
 rcases hown.2 with⟨rfl,rfl⟩|⟨g,cap,cur,rfl,_,_,hnc,_⟩
 ·simp[Builtin.append_,run_underlying ht,sizeOf,typeInfo,hi,Builtin.lenOf,Builtin.firstCells]
 ·simp[Builtin.append_,run_underlying ht,sizeOf,typeInfo,hi,Builtin.lenOf,Builtin.firstCells,hnc,storeCells]
theorem wpList_append_noneP {ops:Array Oper} {rest:List Oper} {o:Oper} {a:Act} {Q:Exit→Act→World→Prop} (hgd:o.guard=none) (s x:Operand) (t:TypeId)
  (ho:o.op=.call {callee:=.builtin .append,args:=#[s,x],argTypes:=#[t,t]})
  (base:Nat) (e:TypeId) (i:TypeInfo) (size c:Nat) (ht:P.underlying t=some (.slice e)) (hi:P.info? e=some i)
  (v:Value) (n:Nat) (xs:List Value) (hs:a.eval s=v) (hown:w.ownsRow base e size v n xs) (hx:a.eval x=.slice none 0 c)
  (h:wpList P ops Q rest (a.put o.dst v) w):wpList P ops Q (o::rest) a w:=by
 refine wpList_plain hgd fun K hK=>?_;have hr:=run_append_noneP (P:=P) (w:=w) base t o.type e i size c ht hi v n xs hown;unfold Oper.wp execOp;simp only[ho,resolve,invoke,builtin,Sem.run_bind,Sem.run_pure,Result.andThen_ok,List.map_toArray,List.map_cons,List.map_nil,hs,hx,hr];exact hK _ _ h
theorem wpList_append_run {ops:Array Oper} {rest:List Oper} {o:Oper} {a:Act} {Q:Exit→Act→World→Prop} (hgd:o.guard=none) (s x:Operand) (ts:Array TypeId)
  (ho:o.op=.call {callee:=.builtin .append,args:=#[s,x],argTypes:=ts}) (vs vx v:Value) (w':World) (hs:a.eval s=vs) (hx:a.eval x=vx) (hr:(Builtin.append_ ts o.type #[vs,vx]).run P w=.ok v w')
  (h:wpList P ops Q rest (a.put o.dst v) w'):wpList P ops Q (o::rest) a w:=by
 refine wpList_plain hgd fun K hK=>?_;unfold Oper.wp execOp;simp only[ho,resolve,invoke,builtin,Sem.run_bind,Sem.run_pure,Result.andThen_ok,List.map_toArray,List.map_cons,List.map_nil,hs,hx,hr];exact hK _ _ h
end
theorem ps_cells {w:World} {v:Value} {xs:List Pf} (h:PsAt w v xs):∃(sa:Option Addr) (cap:Nat),v=.slice sa xs.length cap∧(sa=none→xs=[])∧∀ad,sa=some ad→∀q u,(xs.flatMap encP)[q]? =some u→w.cell? (ad.add q)=some u:=by
 obtain⟨sa,cap,h1,h2,h3,h4⟩:=h;refine⟨sa,cap,h1,fun e=>?_,fun ad e q u hq=>?_⟩
 ·by_cases h0:0<xs.length
  ·obtain⟨b,off,h5,_⟩:=h4 h0;rw[e] at h5;cases h5
  ·exact List.length_eq_zero_iff.1 (by omega)
 ·have hql:=(List.getElem?_eq_some_iff.1 hq).1;rw[jX encP_len] at hql;obtain⟨b,off,h5,h6⟩:=h4 (by omega);rw[e] at h5;injection h5 with h5;subst h5;have hi:q/2<xs.length:=by omega
  have hf:=flat_get encP_len xs (q/2) _ (List.getElem?_eq_getElem hi) (q%2) (by omega);have e:q/2*2+q%2=q:=by omega
  rw[e,hq] at hf;obtain⟨cs,-,⟨rfl,-⟩,hc⟩:=h6 (q/2) _ (List.getElem?_eq_getElem hi);have:=hc (q%2) u hf.symm;rw[Nat.add_assoc,e] at this;rw[Addr.add_mid];exact this
theorem wpList_app {ops:Array Oper} {rest:List Oper} {o:Oper} {a:Act} {Q:Exit→Act→World→Prop} {w:World} (hgd:o.guard=none) (s x:Operand)
  (ho:o.op=.call {callee:=.builtin .append,args:=#[s,x],argTypes:=#[23,23]})
  (B:Nat) (v u:Value) (xs ys:List Pf) (hs:a.eval s=v) (hx:a.eval x=u) (hB:B≤w.heap.size) (hv:OwnPs w B v xs) (hu:PsAt w u ys) (hsz:xs.length+ys.length≤8796093022208)
  (h:∀v' w',OwnPs w' B v' (xs++ys)→Below B w w'→Kept (fun b=>v.ownBlock=some b) w w'→wpList Tryz.prog ops Q rest (a.put o.dst v') w'):wpList Tryz.prog ops Q (o::rest) a w:=by
 obtain⟨i0,hii,hz0,hz1,hz2⟩:=info_parts info_pref;have hok:=ps_ok hu;obtain⟨sa,cap,rfl,h1,h2⟩:=ps_cells hu;cases sa with
 |none=>
  obtain rfl:=h1 rfl;refine wpList_append_noneP hgd s x 23 ho B 53 i0 2 cap Tryz.underlying23 hii v xs.length _ hs hv.1 hx ?_;exact h v w (by rw[List.append_nil];exact hv) (Below.refl _ _) (Kept.refl _ _)
 |some ad=>
  refine wpList_append_own w hgd s x 23 ho B 53 i0 _ 2 16 Tryz.underlying23 hii hz0 hz1 hz2 rfl (by decide) v xs.length _ hs hv.1 ad ys.length cap (ys.flatMap encP) hx (jX encP_len ys) (h2 ad rfl) (flat_one encP_one ys) (by unfold maxLen;omega) (by omega) hB ?_;intro v' w' ho' hg _;refine h v' w' ⟨?_,?_⟩ ?_ ⟨hg.os,hg.tape,hg.output,hg.size,fun k hk hne=>hg.block k hk (fun e=>hne e.symm)⟩
  ·rw[List.length_append,List.flatMap_append];exact ho'
  ·intro p hp;rcases List.mem_append.1 hp with hp|hp
   ·exact hv.2 p hp
   ·exact hok p hp
  ·exact(Below.refl _ _).grown hg hB (fun k hk=>jJ hv.1 k hk)
theorem ps_Grow (n:Nat) (w:World) (hn:n≤8796093022208):Calls Tryz.prog 133 #[.slice none 0 0,.int .i64 n] w fun e w'=>∃v',e=.returned v'∧OwnPs w' w.heap.size v' []∧Below w.heap.size w w':=by
 obtain⟨i0,hii,hz0,hz1,hz2⟩:=info_parts info_pref;by_cases h0:n=0
 ·subst h0;have OE:=jh (ownPs_nil w w.heap.size);go_enter Tryz.func133,Tryz.ntmps133;go_wp2_with fail;go_ret;exact⟨_,rfl,OE.out,Below.refl _ _⟩
 ·have hk:0<n:=by omega
  have HA:=Lib.run_append_grow_zeros (P:=Tryz.prog) w 23 3 23 53 i0 _ .i64 .i64 Tryz.underlying23 Tryz.underlying3 hii hz0 none 0 0 [] (by
   have:=run_firstCells_none (P:=Tryz.prog) w.drew i0.size 0 0 0;simpa using this) n hk (by rw[hz1];decide) (by omega) (by omega) (by rw[hz2];omega) (by
    rw[hz2];have:Builtin.nextslicecap (0+n) 0=0+n:=by simp[Builtin.nextslicecap,hk]
    rw[this];omega)
  rw[Nat.zero_add] at HA;have hc1:=grownCap_ge w n 0 53;have hc2:=grownCap_le_maxLen w n 0 53 (by unfold maxLen;omega);generalize grownCap w n 0 53=cap at HA hc1 hc2;have hC:((([]:List Value).toArray++Builtin.zeroCells (Value.agg #[.int .u32 0,.int .i64 0]).cells n)++Builtin.zeroCells (Value.agg #[.int .u32 0,.int .i64 0]).cells (cap - n)).size=cap*2:=by
   rw[Array.size_append,Array.size_append,size_zeroCells,size_zeroCells];simp[Value.cells];omega
  generalize ((([]:List Value).toArray++Builtin.zeroCells (Value.agg #[.int .u32 0,.int .i64 0]).cells n)++Builtin.zeroCells (Value.agg #[.int .u32 0,.int .i64 0]).cells (cap - n))=C at HA hC;have OE:Hid (OwnPs (w.drew.alloc (.cells C 53)) w.heap.size (.slice (some ⟨w.heap.size,0,none⟩) 0 cap) []):=jh ⟨⟨rfl,.inr ⟨_,cap,C,rfl,Nat.le_refl _,heap_alloc_new w.drew _,by simp,hc2,hC,by simp⟩⟩,fun p hp=>by simp at hp⟩;have HB:Hid (Below w.heap.size w (w.drew.alloc (.cells C 53))):=jh ((Below.refl _ _).drew.alloc (Nat.le_refl _) _);have z1:¬((n:Int)<0):=by omega
  have z2:IntKind.i64.wrap (n:Int)=n:=IntWalk.i64_in _ (by omega);have z3:((n:Int)>0):=by omega
  have z4:(0:Int)≤(n:Int):=by omega
  have z5:(n:Int)≤(cap:Int):=by omega
  clear hC;go_enter Tryz.func133,Tryz.ntmps133;have HA:=jh HA;go_wp2_with (at_builtin;refine wpList_append_run rfl _ _ #[23,3] rfl (.slice none 0 0) (.int .i64 n) (.slice (some ⟨w.heap.size,0,none⟩) n cap) (w.drew.alloc (.cells C 53)) rfl rfl HA.out ?_);go_ret;exact⟨_,rfl,OE.out,HB.out⟩
open Go.RowKit
theorem OwnPs.base {w:World} {B B':Nat} {v:Value} {xs:List Pf} (h:OwnPs w B v xs) (hB:B'≤B):OwnPs w B' v xs:=⟨own_base h.1 hB,h.2⟩
theorem ps_Concat (sb:Nat) (v u:Value) (xs ys:List Pf) (w:World) (hs0:w.cell? ⟨sb,0,none⟩=some v) (hs1:w.cell? ⟨sb,1,none⟩=some u) (hv:PsAt w v xs) (hu:PsAt w u ys) (hsz:xs.length+ys.length≤8796093022208):
  Calls Tryz.prog 93 #[.slice (some ⟨sb,0,none⟩) 2 2] w fun e w'=>∃v',e=.returned v'∧OwnPs w' w.heap.size v' (xs++ys)∧Below w.heap.size w w':=by
 have HV:=jh hv;have HU:=jh hu;have GR:=jh (ps_Grow (xs.length+ys.length) w hsz);obtain⟨sv,cv,rfl,-⟩:=hv;obtain⟨su,cu,rfl,-⟩:=hu;have z0:IntKind.i64.wrap ((0:Int)+(xs.length:Int))=(xs.length:Int):=by rw[Int.zero_add];exact IntWalk.i64_in _ (by omega)
 have z1:IntKind.i64.wrap (xs.length:Int)=(xs.length:Int):=IntWalk.i64_in _ (by omega);have z2:IntKind.i64.wrap ((xs.length:Int)+(ys.length:Int))=((xs.length+ys.length:Nat):Int):=by rw[IntWalk.i64_in _ (by omega)];omega
 have n1:¬((xs.length:Int)<0):=by omega
 have n2:¬(((xs.length+ys.length:Nat):Int)<0):=by omega
 go_enter Tryz.func93,Tryz.ntmps93;go_wp2_with fail;refine wp_loop_rounds 3 ?_;rw[rounds_succ];go_wp2_with fail;rw[rounds_succ];go_wp2_with fail;rw[rounds_succ];go_wp2_with fail;refine GR.out.mono ?_;rintro e w1 ⟨v1,rfl,O1,hb1⟩;have OG:=jh O1;have s0:=jA hs0 hb1;have s1:=jA hs1 hb1;have HV1:=jh (HV.out.below hb1);have HU1:=jh (HU.out.below hb1);have B1:=jh hb1;have sl0:Hid (sb<w.heap.size):=jh (jH hs0);clear GR O1 hb1 z0 z1 z2 n1 n2 hs0 hs1 HV;go_wp2_with fail;refine wp_loop_rounds 3 ?_;rw[rounds_succ];go_wp2_with (at_builtin;refine wpList_app rfl _ _ rfl w.heap.size v1 (.slice sv xs.length cv) [] xs rfl rfl B1.out.size OG.out HV1.out (by simp;omega) ?_);intro v2 w2 ho2 hb2 _;have O2:Hid (OwnPs w2 w.heap.size v2 xs):=jh ho2;have B2:=jh (B1.out.trans hb2);have s1:=(hb2.cell (p:=⟨sb,1,none⟩) sl0.out).trans s1;have HU2:=jh (HU.out.below B2.out);clear ho2 hb2 OG B1 s0 HV1 HU1;go_wp2_with fail;rw[rounds_succ];go_wp2_with (at_builtin;refine wpList_app rfl _ _ rfl w.heap.size v2 (.slice su ys.length cu) xs ys rfl rfl B2.out.size O2.out HU2.out (by omega) ?_);intro v3 w3 ho3 hb3 _;have O3:=jh ho3;have B3:=jh (B2.out.trans hb3);clear ho3 hb3 O2 B2 s1 HU2;go_wp2_with fail;rw[rounds_succ];go_wp2_with fail;go_ret;exact⟨_,rfl,O3.out,B3.out⟩
theorem ad_sorted (B:Nat) (v:Value) (xs:List Pf) (w:World) (h:OwnPs w B v xs) (hn:xs.length≤8796093022208):
  Calls Tryz.prog 92 #[v] w fun e w'=>∃v',e=.returned v'∧OwnPs w' B v' (setOf xs)∧Kept (fun b=>v.ownBlock=some b) w w':=by
 have ST:=jh (ps_Sort B v xs w h (by omega));have CP:=jh (fun W ys (h:OwnPs W B v ys) hn=>ps_Compact B v ys W h hn);have SE:=jh (fun ys h hm=>setOf_is (ps:=xs) (ys:=ys) h hm);clear h;go_enter Tryz.func92,Tryz.ntmps92;go_wp2_with fail;refine ST.out.mono ?_;rintro e w1 ⟨ys,rfl,hl,hm,hp,ho,hk⟩;have HK:=jh hk;have CQ:=jh (CP.out w1 ys ho (by omega));have EQ:Hid (comp ys=setOf xs):=jh (by
  have hc:=comp_srt hp;exact(SE.out _ hc.1 (fun p=>(hc.2 p).trans (hm p))).symm)
 clear hl hm hp ho hk ST CP SE;go_wp2_with fail;refine CQ.out.mono ?_;rintro e w2 ⟨v',rfl,ho,hk⟩;have O2:=jh ho;have K2:=jh (HK.out.trans hk);clear ho hk CQ HK;go_wp2_with fail;go_ret;exact⟨_,rfl,by rw[←EQ.out];exact O2.out,K2.out⟩
open Go.RowKit Go.Maps Go.ChangeMaps
structure MV where
 kind:Int
 as_:Int
 hold:Int
 id:Int
 ks:Option Addr
 kn:Nat
 kc:Nat
 gs:Option Addr
 gn:Nat
 gc:Nat
 a:AV
 ns:Option Addr
 nn:Nat
 nc:Nat
 fc:Int
 fs:Int
 fd:ByteArray
abbrev MV.C (m:MV):Array Value:=#[.int .i64 m.kind,.int .i64 m.as_,.int .i64 m.hold,.int .u32 m.id,.slice m.ks m.kn m.kc,.slice m.gs m.gn m.gc,
 .int .i64 m.a.has,.int .i64 m.a.origin,.slice m.a.ps m.a.pn m.a.pc,.int .u32 m.a.hop,.int .i64 m.a.med,.int .i64 m.a.loc,.int .i64 m.a.aggrAs,.int .u32 m.a.aggrId,.slice m.a.cs m.a.cn m.a.cc,.slice m.a.os m.a.on m.a.oc,
 .slice m.ns m.nn m.nc,.int .i64 m.fc,.int .i64 m.fs,.string m.fd]
abbrev MV.V (m:MV):Value:=.agg m.C
abbrev MV.G (m:MV):Value:=.slice m.gs m.gn m.gc
abbrev MV.N (m:MV):Value:=.slice m.ns m.nn m.nc
abbrev pfV (p:Pf):Value:=.agg #[.int .u32 p.1,.int .i64 p.2]
def KOk (p:Pf):Prop:=(0≤p.1∧p.1<4294967296)∧I64r p.2
theorem pf_lit (k:Pf) (h:KOk k):∃l,keyOf Tryz.prog 53 (pfV k)=some l:=by
 refine⟨.string (keyBytes [.int .u32 k.1,.int .i64 k.2]),?_⟩;obtain⟨m,hsz⟩:∃m,Tryz.prog.types.size=m+1:=⟨Tryz.prog.types.size - 1,by kernel_rfl⟩
 have hkt:Tryz.prog.keyType 53=true:=by kernel_rfl
 have hc:Tryz.prog.cellsOf 53=2:=by kernel_rfl
 have h1:Tryz.prog.cellsOf 3=1:=by kernel_rfl
 have h2:Tryz.prog.cellsOf 36=1:=by kernel_rfl
 unfold keyOf;simp only[Tryz.underlying53];rw[if_pos (by simp[hkt,Value.formed,Tryz.underlying53,hc]),hsz];unfold Program.keyLits;simp only[Tryz.underlying53,Value.cells];rw[if_pos (by rw[hc];exact⟨rfl,by kernel_rfl⟩)];have hn:∀n:Int,I64r n→Tryz.prog.keyLits (m+1) 3 [.int .i64 n]=some [.int .i64 n]:=fun n hn=>by
  unfold I64r at hn;unfold Program.keyLits;simp[Tryz.underlying3,WalkArith.wf_i64 (show _ by omega)]
 have hu:∀n:Int,(0≤n∧n<4294967296)→Tryz.prog.keyLits (m+1) 36 [.int .u32 n]=some [.int .u32 n]:=fun n hn=>by
  unfold Program.keyLits;simp[Tryz.underlying36,Lit.wf,IntKind.min,IntKind.max,IntKind.bits,IntKind.signed];omega
 simp only[h1,h2,List.mapM_cons,List.mapM_nil,List.drop_zero,List.drop_succ_cons,List.take_succ_cons,List.take_zero,hn _ h.2,hu _ h.1];rfl
theorem pf_enc:KeyEnc Tryz.prog 53 pfV KOk where
 K:=Maps.Keyed.of_law (deep_law_laid (by kernel_rfl) (m:=2) (by decide) (of_decide_eq_true (by kernel_rfl)) (by kernel_rfl) (by kernel_rfl))
 lit:=pf_lit
 inj a b h:=by
  obtain⟨a1,a2⟩:=a;obtain⟨b1,b2⟩:=b;simp at h;obtain⟨h1,h2⟩:=h;rw[h1,h2]
abbrev unV (_:Unit):Value:=.agg #[]
abbrev SeenT (W:World) (b:Nat) (l:List (Pf×Unit)):Prop:=MapT pfV unV KOk W b l
def chkE (ps:List Pf):Int:=if rights ps then 0 else 1
theorem chk_bad {gone nets:List Pf} {j k:Nat} {x:Pf} (hx:(if j=0 then gone else nets)[k]? =some x) (hr:rightB x.1 x.2=false):chkE (gone++nets)=1:=by
 unfold chkE;have:rights (gone++nets)=false:=by
  unfold rights;rw[List.all_eq_false];refine⟨x,?_,by rw[hr];decide⟩;have:=List.mem_of_getElem? hx;rw[List.mem_append];split at this
  ·exact .inl this
  ·exact .inr this
 rw[this];rfl
theorem chk_ok {gone nets:List Pf} (h:AllR gone gone.length) (h2:AllR nets nets.length):chkE (gone++nets)=0:=by
 unfold chkE;have:rights (gone++nets)=true:=by
  unfold rights;have a:=allR_all h;have b:=allR_all h2;unfold rights at a b;rw[List.all_append,a,b];rfl
 rw[this];rfl
theorem right_key {p:Pf} (ho:OkP p) (hr:rightB p.1 p.2=true):KOk p:=by
 have:=rightB_range hr;exact⟨ho,by unfold I64r;omega⟩
theorem ad_check (m:MV) (gone nets:List Pf) (w:World) (hg:PsAt w m.G gone) (hn:PsAt w m.N nets) (hz:gone.length+nets.length≤656):
  Calls Tryz.prog 91 #[m.V] w fun e w'=>e=.returned (.int .i64 (chkE (gone++nets)))∧Below w.heap.size w w':=by
 have HG:=jh hg;have HN:=jh hn;have NB:=jh (fun (j k:Nat) (x:Pf) hx hr=>chk_bad (gone:=gone) (nets:=nets) (j:=j) (k:=k) (x:=x) hx hr);have NO:=jh (chk_ok (gone:=gone) (nets:=nets));generalize hE:chkE (gone++nets)=E at NB NO ⊢;clear hE hg hn;have hmm:=@run_makeMap Tryz.prog;obtain⟨sg,cg,hsg,-⟩:=id HG.out;obtain⟨sn,cn,hsn,-⟩:=id HN.out;go_enter Tryz.func91,Tryz.ntmps91;go_upto_region 1 with (fail)
 obtain⟨W0,hW0,q0,hb0,-⟩:=box1 w m.C 46;rw[←hW0];clear hW0;have cg0:W0.cell? ⟨w.heap.size,5,none⟩=some m.G:=jB q0 5;have cn0:W0.cell? ⟨w.heap.size,16,none⟩=some m.N:=jB q0 16;rw[hsg] at cg0;rw[hsn] at cn0;clear q0;go_upto_region 2 with (fail)
 obtain⟨W1,hW1⟩:∃W1,W1=W0.alloc (.map #[] 0):=⟨_,rfl⟩
 have hb1:Below W0.heap.size W0 W1:=by rw[hW1];exact(Below.refl _ _).alloc (Nat.le_refl _) _
 have SM:Hid (SeenT W1 W0.heap.size []):=jh (by rw[hW1];exact MapT.made W0);rw[←hW1];clear hW1;have cg0:=jA cg0 hb1;have cn0:=jA cn0 hb1;have LM:Hid (w.heap.size≤W0.heap.size):=jh hb0.size;have LM1:Hid (W0.heap.size<W1.heap.size):=jh SM.out.lt;have B1:=jh (jC hb0 hb1);generalize W0.heap.size=mb at SM LM LM1 ⊢;clear hb0 hb1 hmm;go_upto_region 3 with (fail)
 obtain⟨W2,hW2,q2,hb2,-⟩:=box1 W1 #[.slice sg gone.length cg,.slice sn nets.length cn] 23;rw[←hW2];clear hW2 cg0 cn0;have s0:W2.cell? ⟨W1.heap.size,0,none⟩=some (.slice sg gone.length cg):=jB q2 0;have s1:W2.cell? ⟨W1.heap.size,1,none⟩=some (.slice sn nets.length cn):=jB q2 1;have B2:=jh (jC B1.out hb2);have SM2:=jh (SM.out.below hb2);have LS:Hid (∀j:Nat,j<2→∃sa cap,W2.cell? ⟨W1.heap.size,j,none⟩=some (.slice sa (if j=0 then gone else nets).length cap)∧PsAt w (.slice sa (if j=0 then gone else nets).length cap) (if j=0 then gone else nets)):=jh (by
  intro j hj;by_cases e:j=0
  ·subst e;refine⟨sg,cg,s0,?_⟩;show PsAt w (.slice sg gone.length cg) gone;rw[←hsg];exact HG.out
  ·obtain rfl:j=1:=by omega
   refine⟨sn,cn,s1,?_⟩;show PsAt w (.slice sn nets.length cn) nets;rw[←hsn];exact HN.out)
 have NS:Hid (¬W1.heap.size=mb):=jh (by have:=LM1.out;omega);have LL:Hid (∀j:Nat,j<2→(if j=0 then 0 else gone.length)+(if j=0 then gone else nets).length≤656):=jh (by
  intro j hj;by_cases e:j=0
  ·subst e;simp;omega
  ·simp[e];omega)
 clear q2 hb2 s0 s1 SM B1 HG HN;generalize W1.heap.size=sb at LS NS ⊢;have BK:Hid (∀W,Kept (fun b=>b=mb) W2 W→Below w.heap.size w W):=jh fun W k=>B2.out.trans (k.below B2.out.size (by rintro g rfl;exact LM.out));go_wp2_with fail;go_loopw [15] (fun k15 wr=>∃(j:Nat) (l:List (Pf×Unit)),j≤2∧k15=.int .i64 j∧Hid (SeenT wr mb l∧l.length≤(if j=0 then 0 else if j=1 then gone.length else 656)∧(∀i,i<j→AllR (if i=0 then gone else nets) (if i=0 then gone else nets).length))∧Hid (Kept (fun b=>b=mb) W2 wr)) (fun k15 _=>2 - (intOf k15).toNat)
 case atStart=>exact⟨0,[],by omega,rfl,jh ⟨SM2.out,by simp,fun i hi=>by omega⟩,jh (Kept.refl _ _)⟩
 case round=>
  obtain⟨j,l0,hj,rfl,I0,K0⟩:=hrel;by_cases hj2:j<2
  ·obtain⟨sa,cap,sj,hP⟩:=LS.out j hj2;obtain⟨ls,hls⟩:∃ls,ls=(if j=0 then gone else nets):=⟨_,rfl⟩
   rw[←hls] at sj hP;have NBj:=jh (fun k x=>NB.out j k x);rw[←hls] at NBj;have LEN:Hid (l0.length+ls.length≤656):=jh (by
    have h1:=I0.out.2.1;have h2:=LL.out j hj2;rw[←hls] at h2;by_cases e:j=0
    ·subst e;rw[if_pos rfl] at h1 h2;omega
    ·obtain rfl:j=1:=by omega
     have h1':l0.length≤gone.length:=by simpa using h1
     have h2':gone.length+ls.length≤656:=by simpa using h2
     omega)
   have HLS:=jh hls;clear hls;have sj:=K0.out.cell sj NS.out;have i0:(0:Int)≤(j:Int):=by omega
   have i1:(j:Int)<2:=by omega
   have lk:ls.length≤656:=by have:=LEN.out;omega
   have HPj:=jh hP;have I0s:=jh I0.out.1;clear hP;obtain⟨sa',cap',hsv,hlc,hcm,hV⟩:=HPj.out;injection hsv with e1 e2 e3;subst e1;have HV:=jh hV;clear hV e2;go_wp2_with fail;clear sj;go_loopw [21] (fun k21 wq=>∃(k:Nat) (l:List (Pf×Unit)),k≤ls.length∧k21=.int .i64 k∧Hid (SeenT wq mb l∧l.length≤l0.length+k∧AllR ls k)∧Hid (Kept (fun b=>b=mb) W2 wq)) (fun k21 _=>ls.length - (intOf k21).toNat)
   case atStart=>exact⟨0,l0,by omega,rfl,jh ⟨I0s.out,by omega,fun i x hi=>by omega⟩,K0⟩
   case round=>
    obtain⟨k,l,hk,rfl,I,K⟩:=hrel;by_cases hlt:k<ls.length
    ·obtain⟨x,hx⟩:∃x,ls[k]? =some x:=⟨_,List.getElem?_eq_getElem hlt⟩
     obtain⟨b,off,hsa,hQ⟩:=HV.out (by omega);subst hsa;have OX:Hid (OkP x):=jh (by obtain⟨cs,_,⟨_,h⟩,_⟩:=hQ k x hx;exact h);obtain⟨x0,x1⟩:=ps_two hQ hx;have bm:¬b=mb:=by have:=jH x0;have:=LM.out;omega
     have x0:=K.out.cell (jA x0 B2.out) bm;have x1:=K.out.cell (jA x1 B2.out) bm;have HX:=jh hx;have k0:(0:Int)≤(k:Int):=by omega
     have k1:(k:Int)<(ls.length:Int):=by omega
     have CK:=jh (fun W=>ip_Check x.1 x.2 W OX.out.1 OX.out.2);clear hQ hx bm;go_upto_region 8 with (fail)
     obtain⟨W3,hW3,q0,q1,hb3⟩:=box2 wr (.int .u32 x.1) (.int .i64 x.2) 53;rw[←hW3];clear hW3 x0 x1;have K3:=jh (K.out.grow hb3);have S3:=jh (I.out.1.below hb3);clear hb3;cases hr:rightB x.1 x.2 with
     |false=>
      have EB:=jh (NBj.out k x HX.out hr);rw[hr] at CK;clear hr;go_wp2_with fail;refine(CK.out _).mono ?_;rintro e w4 ⟨rfl,hb4⟩;have B4:=jh (K3.out.grow hb4);clear hb4 q0 q1;go_wp2_with fail;go_ret;exact⟨jU EB.out.symm,BK.out _ B4.out⟩
     |true=>
      have KX:=jh (right_key OX.out hr);have RX:=jh hr;rw[hr] at CK;clear hr;go_wp2_with fail;refine(CK.out _).mono ?_;rintro e w4 ⟨rfl,hb4⟩;have q0:=jA q0 hb4;have q1:=jA q1 hb4;have K4:=jh (K3.out.grow hb4);have S4:=jh (S3.out.below hb4);have I2:=jh I.out.2;clear hb4 K3 S3 I;obtain⟨o,hrun,hm5⟩:=S4.out.store pf_enc Tryz.underlying128 x KX.out () (by have:=I2.out.1;have:=LEN.out;unfold maxLen;omega) w4 rfl;have M5:=jh hm5;have K5:=jh (K4.out.trans (Kept.setBlock (F:=fun b=>b=mb) (w:=w4) (b:=mb) o rfl));clear hm5;go_upto_region 11 with (fail)
      generalize hw5:setBlock w4 mb o=w5 at M5 K5 ⊢;clear hw5 q0 q1 hrun S4 K4;have hlen:=M5.out.len Tryz.underlying128 3 w5 rfl;have ln:¬(((putL l x ()).length:Int)>656):=by
       have h1:=len_put l x ();have h2:=I2.out.1;have h3:=LEN.out;split at h1<;>omega
      have ln2:Hid ((putL l x ()).length≤l0.length+(k+1)):=jh (by
       have h1:=len_put l x ();have h2:=I2.out.1;split at h1<;>omega)
      have AR:=jh (allR_step I2.out.2 HX.out RX.out);go_wp2_with fail;exact⟨⟨k+1,_,by omega,by go_num,jh ⟨M5.out,ln2.out,AR.out⟩,K5⟩,by simp[intOf];omega⟩
    ·obtain rfl:ls.length=k:=by omega
     have AL:Hid (∀i,i<j+1→AllR (if i=0 then gone else nets) (if i=0 then gone else nets).length):=jh (by
      intro i hi;by_cases e:i=j
      ·subst e;rw[←HLS.out];exact I.out.2.2
      ·exact I0.out.2.2 i (by omega))
     have LB:Hid (l.length≤(if j+1=0 then 0 else if j+1=1 then gone.length else 656)):=jh (by
      have h1:=I.out.2.1;have h2:=LEN.out;have h3:=I0.out.2.1;have h4:=HLS.out;by_cases e:j=0
      ·subst e;rw[if_pos rfl] at h3 h4;rw[if_neg (by omega),if_pos (by omega),←h4];omega
      ·rw[if_neg (by omega),if_neg (by omega)];omega)
     have SQ:=jh I.out.1;clear I;go_wp2_with fail;exact⟨⟨j+1,l,by omega,by go_num,jh ⟨SQ.out,LB.out,AL.out⟩,K⟩,by simp[intOf];omega⟩
  ·obtain rfl:j=2:=by omega
   have E0:Hid (E=0):=jh (NO.out (I0.out.2.2 0 (by omega)) (I0.out.2.2 1 (by omega)));go_wp2_with fail;go_ret;exact⟨jU E0.out.symm,BK.out _ K0.out⟩
open Go.RowKit Go.ChangeShapes Go.WideShapes
def Sz {H:Type} (P:Program) (t:TypeId) (d:DataW H):Prop:=∀n∈d.weights P t,n≤140737488351232
theorem sz_of {H:Type} {P:Program} {ts:List TypeId} {ds:List (DataW H)} (h:(DataW.weightsEach P ts ds).all (· ≤reachBytes)=true) {j:Nat} {t:TypeId} {d:DataW H} (ht:ts[j]? =some t) (hd:ds[j]? =some d):Sz P t d:=by
 intro n hn;have:=List.all_eq_true.1 h n (DataW.weights_mem_each ht hd n hn);exact of_decide_eq_true this
theorem mem_weightsAll {H:Type} {P:Program} {e:TypeId}:∀{ds:List (DataW H)} {d:DataW H},d∈ds→∀n∈d.weights P e,n∈DataW.weightsAll P e ds
 |x::ds,d,h,n,hn=>by
  simp only[DataW.weightsAll,List.mem_append];rcases List.mem_cons.1 h with rfl|h
  ·exact .inl hn
  ·exact .inr (mem_weightsAll h n hn)
 |[],_,h,_,_=>by simp at h
theorem sz_field {H:Type} {P:Program} {t:TypeId} {fs:Array Field} (hu:P.underlying t=some (.struct fs)) {parts:List (DataW H)} (h:Sz P t (.agg parts)) {j:Nat} {u:TypeId} {d:DataW H} (hf:(fs.toList.map (·.type))[j]? =some u) (hd:parts[j]? =some d):Sz P u d:=by
 intro n hn;refine h n ?_;simp only[DataW.weights,hu];exact DataW.weights_mem_each hf hd n hn
section
variable {H:Type} {enc:TypeId×Value→H} {w:World} {base:Nat} {spare:Nat→Bool} {held:Bool}
theorem open_sl_sz {α:Type} {t e:TypeId} {k f bs:Nat} {R:α→List Value→Prop} {S:α→Prop} {cs:List Value} {x:DataW H×List MemPlace} (ht:Tryz.prog.underlying t=some (.slice e)) (hk:Tryz.prog.cellsOf e=k) (hb:Tryz.prog.bytesOf e=bs) (hk0:0<k)
  (hR:∀f cs y,DataW.trod enc Tryz.prog w base spare held f e cs=some y→Sz Tryz.prog e y.1→∃a:α,R a cs∧S a) (h:DataW.trod enc Tryz.prog w base spare held f t cs=some x) (hz:Sz Tryz.prog t x.1):
  ∃v xs,cs=[v]∧SlAt w k R v xs∧xs.length*bs≤140737488351232∧∀x∈xs,S x:=by
 rcases Deep.open_slice ht h with⟨h1,_⟩|⟨a,len,cap,m,n,D,Pl,h1,_,hlc,hcap,hm,he,hx⟩
 ·exact⟨_,[],h1,SlAt.nil,by simp,fun x hx=>by simp at hx⟩
 ·rw[hk] at hx;have hlm:len≤m:=by rw[hm];split<;>omega
  have hz1:∀i,i<len→Sz Tryz.prog e (D i):=by
   intro i hi q hq;refine hz q ?_;rw[he];simp only[DataW.weights,ht,List.mem_cons,List.mem_append];exact .inr (.inl (mem_weightsAll (List.mem_map.2 ⟨i,List.mem_range.2 hi,rfl⟩) q hq))
  have hz0:len*bs≤140737488351232:=by
   have:=hz (((List.range len).map D).length*bs+((List.range (m - len)).map fun j=>D (len+j)).length*bs) (by
    rw[he];simp only[DataW.weights,ht,hb,List.mem_cons,←Nat.add_mul];exact .inl trivial)
   simp at this;omega
  have hone:∀i:Fin len,∃z:α×List Value,S z.1∧z.2.length=k∧R z.1 z.2∧∀j c,z.2[j]? =some c→w.cell? (a.add (i.val*k+j))=some c:=by
   intro i;obtain⟨cs',hcs,ht⟩:=hx i.val (by omega);obtain⟨y,hy,hS⟩:=hR _ _ _ ht (hz1 i.val i.isLt);obtain⟨_,hl,hat⟩:=World.cells?_some hcs;refine⟨(y,cs'),hS,hl,hy,fun j c hc=>?_⟩;have hj:j<k:=by rw[←hl];exact(List.getElem?_eq_some_iff.1 hc).1
   have:=hat j hj;rw[Deep.add_add] at this;rw[this];exact hc
  have hch:=Classical.axiomOfChoice hone;obtain⟨g,hg⟩:=hch;refine⟨_,List.ofFn fun i=>(g i).1,h1,⟨some a,cap,by simp,by simp;omega,hcap,fun h0=>?_⟩,by simpa using hz0,fun x hx=>?_⟩
  ·have h0':0<len:=by simpa using h0
   have hsp:a.spot=none:=by
    obtain⟨_,e1,_,e3⟩:=hg ⟨0,h0'⟩;have hlt:0<(g ⟨0,h0'⟩).2.length:=by rw[e1];exact hk0
    have hc:=e3 0 _ (List.getElem?_eq_getElem hlt);have e:a.add (0*k+0)=a:=by unfold Addr.add;simp
    simp only at hc;rw[e] at hc;unfold World.cell? at hc;cases hq:a.spot with
    |none=>rfl
    |some q=>rw[hq] at hc;simp at hc;split at hc<;>simp at hc
   have had:∀k,a.add k=⟨a.block,a.off+k,none⟩:=fun k=>by
    unfold Addr.add;split
    ·rename_i hk;subst hk;cases a;simp at hsp;simp[hsp]
    ·rfl
   refine⟨a.block,a.off,by cases a;simp at hsp;simp[hsp],fun i s hi=>?_⟩;have hil:i<len:=by
    have:=(List.getElem?_eq_some_iff.1 hi).1;simpa using this
   rw[List.getElem?_ofFn] at hi;simp[hil] at hi;subst hi;obtain⟨_,e1,e2,e3⟩:=hg ⟨i,hil⟩;refine⟨_,e1,e2,fun j c hc=>?_⟩;have:=e3 j c hc;rw[had,←Nat.add_assoc] at this;exact this
  ·obtain⟨i,rfl⟩:=(List.mem_ofFn).1 hx;exact(hg i).1
theorem sl_ints_sz {f:Nat} {c:List Value} {y:DataW H×List MemPlace} (h:DataW.trod enc Tryz.prog w base spare held f 39 c=some y) (hz:Sz Tryz.prog 39 y.1):∃v xs,c=[v]∧IntsAt w v xs∧xs.length*8≤140737488351232:=by
 obtain⟨v,xs,h1,h2,h3,_⟩:=open_sl_sz (k:=1) (bs:=8) (R:=IntC) (S:=fun _=>True) Tryz.underlying39 (by kernel_rfl) (by kernel_rfl) (by decide) (fun _ _ _ h _=>by obtain⟨n,hn⟩:=sl_i64 h;exact⟨n,hn,trivial⟩) h hz;exact⟨v,xs,h1,h2,h3⟩
theorem sl_bytes_sz {f:Nat} {c:List Value} {y:DataW H×List MemPlace} (h:DataW.trod enc Tryz.prog w base spare held f 157 c=some y) (hz:Sz Tryz.prog 157 y.1):∃v xs,c=[v]∧BytesAt w v xs∧xs.length*1≤140737488351232:=by
 obtain⟨v,xs,h1,h2,h3,_⟩:=open_sl_sz (k:=1) (bs:=1) (R:=ByteC) (S:=fun _=>True) Tryz.underlying157 (by kernel_rfl) (by kernel_rfl) (by decide) (fun _ _ _ h _=>by obtain⟨n,hn⟩:=sl_u8 h;exact⟨n,hn,trivial⟩) h hz;exact⟨v,xs,h1,h2,h3⟩
def SgSz (s:Sg):Prop:=s.2.length*8≤140737488351232
def OthSz (o:Oth):Prop:=o.2.length≤140737488351232
structure AtSz (a:At):Prop where
 path:a.path.length*32≤140737488351232
 segs:∀s∈a.path,SgSz s
 comms:a.comms.length*8≤140737488351232
 others:a.others.length*32≤140737488351232
 vals:∀o∈a.others,OthSz o
theorem sl_seg_sz {f:Nat} {cs:List Value} {x:DataW H×List MemPlace} (h:DataW.trod enc Tryz.prog w base spare held f 121 cs=some x) (hz:Sz Tryz.prog 121 x.1):∃s:Sg,SegC w s cs∧SgSz s:=by
 obtain⟨xs,n,_,hxe,hl,hxl,hf⟩:=DataW.trod_struct Tryz.underlying121 h;rw[hxe] at hz;have hc2:Tryz.prog.cellsOf 121=2:=by kernel_rfl
 have hcb:Tryz.prog.cellsOf 4=1:=by kernel_rfl
 have hci:Tryz.prog.cellsOf 39=1:=by kernel_rfl
 rw[hc2] at hl
 match cs,hl with
 |[c0,c1],_=>
  match xs,hxl with
  |[x0,x1],_=>
   have e0:=hf 0 _ rfl;have e1:=hf 1 _ rfl;simp[hcb,hci] at e0 e1;obtain⟨s,hs,_⟩:=DataW.trod_bool Tryz.underlying4 e0;obtain⟨v,l,hv,hi,hzl⟩:=sl_ints_sz e1 (sz_field Tryz.underlying121 hz (j:=1) rfl rfl);simp at hs hv;subst hs;subst hv;exact⟨(s,l),⟨c1,rfl,hi⟩,hzl⟩
theorem sl_other_sz {f:Nat} {cs:List Value} {x:DataW H×List MemPlace} (h:DataW.trod enc Tryz.prog w base spare held f 159 cs=some x) (hz:Sz Tryz.prog 159 x.1):∃s:Oth,OthC w s cs∧OthSz s:=by
 obtain⟨xs,n,_,hxe,hl,hxl,hf⟩:=DataW.trod_struct Tryz.underlying159 h;rw[hxe] at hz;have hc2:Tryz.prog.cellsOf 159=2:=by kernel_rfl
 have hcb:Tryz.prog.cellsOf 3=1:=by kernel_rfl
 have hci:Tryz.prog.cellsOf 157=1:=by kernel_rfl
 rw[hc2] at hl
 match cs,hl with
 |[c0,c1],_=>
  match xs,hxl with
  |[x0,x1],_=>
   have e0:=hf 0 _ rfl;have e1:=hf 1 _ rfl;simp[hcb,hci] at e0 e1;obtain⟨s,hs,ir⟩:=sl_i64 e0;obtain⟨v,l,hv,hi,hzl⟩:=sl_bytes_sz e1 (sz_field Tryz.underlying159 hz (j:=1) rfl rfl);simp at hs hv;subst hs;subst hv;exact⟨(s,l),⟨c1,rfl,ir,hi⟩,by unfold OthSz;simpa using hzl⟩
theorem sl_attrs_sz {f:Nat} {cs:List Value} {x:DataW H×List MemPlace} (h:DataW.trod enc Tryz.prog w base spare held f 42 cs=some x) (hz:Sz Tryz.prog 42 x.1):∃a:At,AtC w a cs∧AtSz a:=by
 obtain⟨xs,n,_,hxe,hl,hxl,hf⟩:=DataW.trod_struct Tryz.underlying42 h;rw[hxe] at hz;have hc:Tryz.prog.cellsOf 42=10:=by kernel_rfl
 have hc0:Tryz.prog.cellsOf 3=1:=by kernel_rfl
 have hc1:Tryz.prog.cellsOf 38=1:=by kernel_rfl
 have hc2:Tryz.prog.cellsOf 36=1:=by kernel_rfl
 have hc3:Tryz.prog.cellsOf 39=1:=by kernel_rfl
 have hc4:Tryz.prog.cellsOf 40=1:=by kernel_rfl
 rw[hc] at hl
 match cs,hl with
 |[c0,c1,c2,c3,c4,c5,c6,c7,c8,c9],_=>
  match xs,hxl with
  |[x0,x1,x2,x3,x4,x5,x6,x7,x8,x9],_=>
   have e0:=hf 0 _ rfl;have e1:=hf 1 _ rfl;have e2:=hf 2 _ rfl;have e3:=hf 3 _ rfl;have e4:=hf 4 _ rfl;have e5:=hf 5 _ rfl;have e6:=hf 6 _ rfl;have e7:=hf 7 _ rfl;have e8:=hf 8 _ rfl;have e9:=hf 9 _ rfl;simp[hc0,hc1,hc2,hc3,hc4] at e0 e1 e2 e3 e4 e5 e6 e7 e8 e9;obtain⟨has,q0,i0⟩:=sl_i64 e0;obtain⟨origin,q1,i1⟩:=sl_i64 e1;obtain⟨vp,path,q2,i2,z2,s2⟩:=open_sl_sz (k:=2) (bs:=32) (R:=SegC w) (S:=SgSz) Tryz.underlying38 (by kernel_rfl) (by kernel_rfl) (by decide) (fun _ _ _ h hz=>sl_seg_sz h hz) e2 (sz_field Tryz.underlying42 hz (j:=2) rfl rfl);obtain⟨hop,q3,i3⟩:=sl_u32 e3;obtain⟨med,q4,i4⟩:=sl_i64 e4;obtain⟨loc,q5,i5⟩:=sl_i64 e5;obtain⟨aggrAs,q6,i6⟩:=sl_i64 e6;obtain⟨aggrId,q7,i7⟩:=sl_u32 e7;obtain⟨vc,comms,q8,i8,z8⟩:=sl_ints_sz e8 (sz_field Tryz.underlying42 hz (j:=8) rfl rfl);obtain⟨vo,others,q9,i9,z9,s9⟩:=open_sl_sz (k:=2) (bs:=32) (R:=OthC w) (S:=OthSz) Tryz.underlying40 (by kernel_rfl) (by kernel_rfl) (by decide) (fun _ _ _ h hz=>sl_other_sz h hz) e9 (sz_field Tryz.underlying42 hz (j:=9) rfl rfl);simp at q0 q1 q2 q3 q4 q5 q6 q7 q8 q9;subst q0;subst q1;subst q2;subst q3;subst q4;subst q5;subst q6;subst q7;subst q8;subst q9;exact⟨⟨has,origin,path,hop,med,loc,aggrAs,aggrId,comms,others⟩,⟨c2,c8,c9,rfl,⟨i0,i1,i3,i4,i5,i6,i7⟩,i2,i8,i9⟩,⟨z2,s2,z8,z9,s9⟩⟩
end
open Go.RowKit
theorem info_seg:(Tryz.prog.info? 121).map (fun i=>(i.zero,i.size,i.bytes))=some (some (.agg #[.bool false,.slice none 0 0]),2,32):=by kernel_rfl
theorem info_other:(Tryz.prog.info? 159).map (fun i=>(i.zero,i.size,i.bytes))=some (some (.agg #[.int .i64 0,.slice none 0 0]),2,32):=by kernel_rfl
theorem info_intT:(Tryz.prog.info? 3).map (fun i=>(i.zero,i.size,i.bytes))=some (some (.int .i64 0),1,8):=by kernel_rfl
theorem info_byteT:(Tryz.prog.info? 5).map (fun i=>(i.zero,i.size,i.bytes))=some (some (.int .u8 0),1,1):=by kernel_rfl
theorem sl_CloneSeg (sa:Option Addr) (n cap:Nat) (cs:List Value) (w:World) (hl:cs.length=n*2) (hn:n≤maxLen) (hc:0<n→∃b off,sa=some ⟨b,off,none⟩∧∀q u,cs[q]? =some u→w.cell? ⟨b,off+q,none⟩=some u)
  (h1:∀u∈cs,u.oneCell'=true) (hb:n*32≤140737488351232):Calls Tryz.prog 127 #[.slice sa n cap] w fun e w'=>∃v',e=.returned v'∧w'.ownsRow w.heap.size 121 2 v' n cs∧Below w.heap.size w w':=by
 obtain⟨i0,hii,hz0,hz1,hz2⟩:=info_parts info_seg;have HC:=jh hc;have HL:=jh hl;have H1:=jh h1;unfold maxLen at hn;clear hc hl h1;go_enter Tryz.func127,Tryz.ntmps127;cases sa with
 |none=>
  obtain rfl:n=0:=by
   by_cases h0:0<n
   ·obtain⟨b,off,h,_⟩:=HC.out h0;cases h
   ·omega
  obtain rfl:cs=[]:=List.length_eq_zero_iff.1 (by have:=HL.out;omega);have EQ:=Lib.run_eql_slice_nil (P:=Tryz.prog) w 38 121 none 0 cap 0 0 Tryz.underlying38;simp only[Option.isNone_none] at EQ;go_wp2_with fail;go_ret;exact⟨_,rfl,⟨by simp,.inl ⟨rfl,rfl⟩⟩,Below.refl _ _⟩
 |some a=>
  have CC:Hid (∀q u,cs[q]? =some u→w.cell? (a.add q)=some u):=jh (by
   intro q u hq;by_cases h0:0<n
   ·obtain⟨b,off,h,h2⟩:=HC.out h0;injection h with h;subst h;have e:(⟨b,off,none⟩:Addr).add q=⟨b,off+q,none⟩:=by
     unfold Addr.add;split
     ·next h=>rw[h];simp
     ·rfl
    rw[e];exact h2 q u hq
   ·have:=(List.getElem?_eq_some_iff.1 hq).1;rw[HL.out] at this;have:n=0:=by omega
    subst this;omega)
  clear HC;have OE:=jh (own_empty (w:=w) (B:=w.heap.size) (e:=121) (k:=2) (Nat.le_refl _));have EQ:=Lib.run_eql_slice_nil (P:=Tryz.prog) w 38 121 (some a) n cap 0 0 Tryz.underlying38;simp only[Option.isNone_some] at EQ;go_wp2_with (at_builtin;refine wpList_append_own _ rfl _ _ 38 rfl w.heap.size 121 i0 _ 2 32 Tryz.underlying38 hii hz0 hz1 hz2 rfl (by decide) _ 0 [] rfl OE.out a n cap cs rfl HL.out (fun q u hq=>jA (CC.out q u hq) ((Below.refl _ _).alloc (Nat.le_refl _) _)) H1.out (by unfold maxLen;omega) (by omega) (by simp) ?_);intro v' w' hown hgrow _;have OW:Hid (w'.ownsRow w.heap.size 121 2 v' n cs):=jh (by simpa using hown);have BW:Hid (Below w.heap.size w w'):=jh (((Below.refl _ _).alloc (Nat.le_refl _) _).grown hgrow (by simp) (fun g hg=>by cases hg;exact Nat.le_refl _));clear hown hgrow;go_wp2_with fail;go_ret;exact⟨_,rfl,OW.out,BW.out⟩
theorem sl_CloneInt (sa:Option Addr) (n cap:Nat) (cs:List Value) (w:World) (hl:cs.length=n*1) (hn:n≤maxLen) (hc:0<n→∃b off,sa=some ⟨b,off,none⟩∧∀q u,cs[q]? =some u→w.cell? ⟨b,off+q,none⟩=some u)
  (h1:∀u∈cs,u.oneCell'=true) (hb:n*8≤140737488351232):Calls Tryz.prog 128 #[.slice sa n cap] w fun e w'=>∃v',e=.returned v'∧w'.ownsRow w.heap.size 3 1 v' n cs∧Below w.heap.size w w':=by
 obtain⟨i0,hii,hz0,hz1,hz2⟩:=info_parts info_intT;have HC:=jh hc;have HL:=jh hl;have H1:=jh h1;unfold maxLen at hn;clear hc hl h1;go_enter Tryz.func128,Tryz.ntmps128;cases sa with
 |none=>
  obtain rfl:n=0:=by
   by_cases h0:0<n
   ·obtain⟨b,off,h,_⟩:=HC.out h0;cases h
   ·omega
  obtain rfl:cs=[]:=List.length_eq_zero_iff.1 (by have:=HL.out;omega);have EQ:=Lib.run_eql_slice_nil (P:=Tryz.prog) w 39 3 none 0 cap 0 0 Tryz.underlying39;simp only[Option.isNone_none] at EQ;go_wp2_with fail;go_ret;exact⟨_,rfl,⟨by simp,.inl ⟨rfl,rfl⟩⟩,Below.refl _ _⟩
 |some a=>
  have CC:Hid (∀q u,cs[q]? =some u→w.cell? (a.add q)=some u):=jh (by
   intro q u hq;by_cases h0:0<n
   ·obtain⟨b,off,h,h2⟩:=HC.out h0;injection h with h;subst h;have e:(⟨b,off,none⟩:Addr).add q=⟨b,off+q,none⟩:=by
     unfold Addr.add;split
     ·next h=>rw[h];simp
     ·rfl
    rw[e];exact h2 q u hq
   ·have:=(List.getElem?_eq_some_iff.1 hq).1;rw[HL.out] at this;have:n=0:=by omega
    subst this;omega)
  clear HC;have OE:=jh (own_empty (w:=w) (B:=w.heap.size) (e:=3) (k:=1) (Nat.le_refl _));have EQ:=Lib.run_eql_slice_nil (P:=Tryz.prog) w 39 3 (some a) n cap 0 0 Tryz.underlying39;simp only[Option.isNone_some] at EQ;go_wp2_with (at_builtin;refine wpList_append_own _ rfl _ _ 39 rfl w.heap.size 3 i0 _ 1 8 Tryz.underlying39 hii hz0 hz1 hz2 rfl (by decide) _ 0 [] rfl OE.out a n cap cs rfl HL.out (fun q u hq=>jA (CC.out q u hq) ((Below.refl _ _).alloc (Nat.le_refl _) _)) H1.out (by unfold maxLen;omega) (by omega) (by simp) ?_);intro v' w' hown hgrow _;have OW:Hid (w'.ownsRow w.heap.size 3 1 v' n cs):=jh (by simpa using hown);have BW:Hid (Below w.heap.size w w'):=jh (((Below.refl _ _).alloc (Nat.le_refl _) _).grown hgrow (by simp) (fun g hg=>by cases hg;exact Nat.le_refl _));clear hown hgrow;go_wp2_with fail;go_ret;exact⟨_,rfl,OW.out,BW.out⟩
theorem sl_CloneOther (sa:Option Addr) (n cap:Nat) (cs:List Value) (w:World) (hl:cs.length=n*2) (hn:n≤maxLen) (hc:0<n→∃b off,sa=some ⟨b,off,none⟩∧∀q u,cs[q]? =some u→w.cell? ⟨b,off+q,none⟩=some u)
  (h1:∀u∈cs,u.oneCell'=true) (hb:n*32≤140737488351232):Calls Tryz.prog 129 #[.slice sa n cap] w fun e w'=>∃v',e=.returned v'∧w'.ownsRow w.heap.size 159 2 v' n cs∧Below w.heap.size w w':=by
 obtain⟨i0,hii,hz0,hz1,hz2⟩:=info_parts info_other;have HC:=jh hc;have HL:=jh hl;have H1:=jh h1;unfold maxLen at hn;clear hc hl h1;go_enter Tryz.func129,Tryz.ntmps129;cases sa with
 |none=>
  obtain rfl:n=0:=by
   by_cases h0:0<n
   ·obtain⟨b,off,h,_⟩:=HC.out h0;cases h
   ·omega
  obtain rfl:cs=[]:=List.length_eq_zero_iff.1 (by have:=HL.out;omega);have EQ:=Lib.run_eql_slice_nil (P:=Tryz.prog) w 40 159 none 0 cap 0 0 Tryz.underlying40;simp only[Option.isNone_none] at EQ;go_wp2_with fail;go_ret;exact⟨_,rfl,⟨by simp,.inl ⟨rfl,rfl⟩⟩,Below.refl _ _⟩
 |some a=>
  have CC:Hid (∀q u,cs[q]? =some u→w.cell? (a.add q)=some u):=jh (by
   intro q u hq;by_cases h0:0<n
   ·obtain⟨b,off,h,h2⟩:=HC.out h0;injection h with h;subst h;have e:(⟨b,off,none⟩:Addr).add q=⟨b,off+q,none⟩:=by
     unfold Addr.add;split
     ·next h=>rw[h];simp
     ·rfl
    rw[e];exact h2 q u hq
   ·have:=(List.getElem?_eq_some_iff.1 hq).1;rw[HL.out] at this;have:n=0:=by omega
    subst this;omega)
  clear HC;have OE:=jh (own_empty (w:=w) (B:=w.heap.size) (e:=159) (k:=2) (Nat.le_refl _));have EQ:=Lib.run_eql_slice_nil (P:=Tryz.prog) w 40 159 (some a) n cap 0 0 Tryz.underlying40;simp only[Option.isNone_some] at EQ;go_wp2_with (at_builtin;refine wpList_append_own _ rfl _ _ 40 rfl w.heap.size 159 i0 _ 2 32 Tryz.underlying40 hii hz0 hz1 hz2 rfl (by decide) _ 0 [] rfl OE.out a n cap cs rfl HL.out (fun q u hq=>jA (CC.out q u hq) ((Below.refl _ _).alloc (Nat.le_refl _) _)) H1.out (by unfold maxLen;omega) (by omega) (by simp) ?_);intro v' w' hown hgrow _;have OW:Hid (w'.ownsRow w.heap.size 159 2 v' n cs):=jh (by simpa using hown);have BW:Hid (Below w.heap.size w w'):=jh (((Below.refl _ _).alloc (Nat.le_refl _) _).grown hgrow (by simp) (fun g hg=>by cases hg;exact Nat.le_refl _));clear hown hgrow;go_wp2_with fail;go_ret;exact⟨_,rfl,OW.out,BW.out⟩
theorem sl_CloneByte (sa:Option Addr) (n cap:Nat) (cs:List Value) (w:World) (hl:cs.length=n*1) (hn:n≤maxLen) (hc:0<n→∃b off,sa=some ⟨b,off,none⟩∧∀q u,cs[q]? =some u→w.cell? ⟨b,off+q,none⟩=some u)
  (h1:∀u∈cs,u.oneCell'=true) (hb:n*1≤140737488351232):Calls Tryz.prog 130 #[.slice sa n cap] w fun e w'=>∃v',e=.returned v'∧w'.ownsRow w.heap.size 5 1 v' n cs∧Below w.heap.size w w':=by
 obtain⟨i0,hii,hz0,hz1,hz2⟩:=info_parts info_byteT;have HC:=jh hc;have HL:=jh hl;have H1:=jh h1;unfold maxLen at hn;clear hc hl h1;go_enter Tryz.func130,Tryz.ntmps130;cases sa with
 |none=>
  obtain rfl:n=0:=by
   by_cases h0:0<n
   ·obtain⟨b,off,h,_⟩:=HC.out h0;cases h
   ·omega
  obtain rfl:cs=[]:=List.length_eq_zero_iff.1 (by have:=HL.out;omega);have EQ:=Lib.run_eql_slice_nil (P:=Tryz.prog) w 157 5 none 0 cap 0 0 Tryz.underlying157;simp only[Option.isNone_none] at EQ;go_wp2_with fail;go_ret;exact⟨_,rfl,⟨by simp,.inl ⟨rfl,rfl⟩⟩,Below.refl _ _⟩
 |some a=>
  have CC:Hid (∀q u,cs[q]? =some u→w.cell? (a.add q)=some u):=jh (by
   intro q u hq;by_cases h0:0<n
   ·obtain⟨b,off,h,h2⟩:=HC.out h0;injection h with h;subst h;have e:(⟨b,off,none⟩:Addr).add q=⟨b,off+q,none⟩:=by
     unfold Addr.add;split
     ·next h=>rw[h];simp
     ·rfl
    rw[e];exact h2 q u hq
   ·have:=(List.getElem?_eq_some_iff.1 hq).1;rw[HL.out] at this;have:n=0:=by omega
    subst this;omega)
  clear HC;have OE:=jh (own_empty (w:=w) (B:=w.heap.size) (e:=5) (k:=1) (Nat.le_refl _));have EQ:=Lib.run_eql_slice_nil (P:=Tryz.prog) w 157 5 (some a) n cap 0 0 Tryz.underlying157;simp only[Option.isNone_some] at EQ;go_wp2_with (at_builtin;refine wpList_append_own _ rfl _ _ 157 rfl w.heap.size 5 i0 _ 1 1 Tryz.underlying157 hii hz0 hz1 hz2 rfl (by decide) _ 0 [] rfl OE.out a n cap cs rfl HL.out (fun q u hq=>jA (CC.out q u hq) ((Below.refl _ _).alloc (Nat.le_refl _) _)) H1.out (by unfold maxLen;omega) (by omega) (by simp) ?_);intro v' w' hown hgrow _;have OW:Hid (w'.ownsRow w.heap.size 5 1 v' n cs):=jh (by simpa using hown);have BW:Hid (Below w.heap.size w w'):=jh (((Below.refl _ _).alloc (Nat.le_refl _) _).grown hgrow (by simp) (fun g hg=>by cases hg;exact Nat.le_refl _));clear hown hgrow;go_wp2_with fail;go_ret;exact⟨_,rfl,OW.out,BW.out⟩
end Go.Proofs.YtkoidahgbbabiaaGreat
