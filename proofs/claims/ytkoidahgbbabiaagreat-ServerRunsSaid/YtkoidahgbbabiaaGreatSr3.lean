/- Texts of one proof, one behind another. -/
import Derived.Test.YtkoidahgbbabiaaGreatSr1
import Derived.Test.YtkoidahgbbabiaaGreatSr2
import Derived.OwnWalk
import Derived.Maps.AppendAt
import Derived.Deep.MidRow
import Derived.Lib.SlBuf
import Derived.Maps.Range
import Derived.DeepKeys4
import Derived.StillTailTactics
set_option maxRecDepth 100000
set_option maxHeartbeats 100000000
namespace Go.Proofs.YtkoidahgbbabiaaGreat
open Go.RowKit
def withinB (n m:Int):Bool:=decide (0≤n)&&decide (n≤m)
theorem at_within (n m:Int) (w:World):Calls Tryz.prog 151 #[.int .i64 n,.int .i64 m] w fun e w'=>e=.returned (.bool (withinB n m))∧w=w':=by
 cases h1:decide (0≤n)
 ·have K:Hid (withinB n m=false):=jh (by unfold withinB;rw[h1];rfl);go_enter Tryz.func151,Tryz.ntmps151;go_wp2;go_ret;exact⟨jL K.out.symm,rfl⟩
 ·have K:Hid (withinB n m=decide (n≤m)):=jh (by unfold withinB;rw[h1];rfl);go_enter Tryz.func151,Tryz.ntmps151;go_wp2;go_ret;exact⟨jL K.out.symm,rfl⟩
def hopB (h:Nat):Bool:=((h:Int)/2^24 !=0)&&((h:Int)/2^24 !=127)&&decide ((h:Int)/2^24<224)
theorem at_goodHop (h:Nat) (w:World):Calls Tryz.prog 153 #[.int .u32 h] w fun e w'=>e=.returned (.bool (hopB h))∧w=w':=by
 cases h1:((h:Int)/2^24 !=0)
 ·have K:Hid (hopB h=false):=jh (by unfold hopB;rw[h1];rfl);have h1':((h:Int)/16777216 !=0)=false:=h1;clear h1;go_enter Tryz.func153,Tryz.ntmps153;go_wp2;go_ret;exact⟨jL K.out.symm,rfl⟩
 ·cases h2:((h:Int)/2^24 !=127)
  ·have K:Hid (hopB h=false):=jh (by unfold hopB;rw[h1,h2];rfl);have h1':((h:Int)/16777216 !=0)=true:=h1;have h2':((h:Int)/16777216 !=127)=false:=h2;clear h1 h2;go_enter Tryz.func153,Tryz.ntmps153;go_wp2;go_ret;exact⟨jL K.out.symm,rfl⟩
  ·have K:Hid (hopB h=decide ((h:Int)/16777216<224)):=jh (by unfold hopB;rw[h1,h2];rfl);have h1':((h:Int)/16777216 !=0)=true:=h1;have h2':((h:Int)/16777216 !=127)=true:=h2;clear h1 h2;go_enter Tryz.func153,Tryz.ntmps153;go_wp2;go_ret;exact⟨jL K.out.symm,rfl⟩
def asB (x:Int):Bool:=decide (1≤x)&&decide (x≤65535)
def segB (s:Sg):Bool:=(decide (1≤s.2.length)&&decide (s.2.length≤255))&&s.2.all asB
def pathB (p:List Sg):Bool:=p.all segB
def commsB (c:List Int):Bool:=c.all (withinB · 4294967295)&&decide (c.length≤256)
theorem all_drop {α:Type} {q:α→Bool} {l:List α} {k:Nat} {x:α} (hx:l[k]? =some x):(l.drop k).all q=(q x&&(l.drop (k+1)).all q):=by
 obtain⟨h1,h2⟩:=List.getElem?_eq_some_iff.1 hx;rw[List.drop_eq_getElem_cons h1,List.all_cons,h2]
theorem at_goodPath (v:Value) (p:List Sg) (w:World) (hP:PathAt w v p):Calls Tryz.prog 152 #[v] w fun e w'=>e=.returned (.bool (pathB p))∧Below w.heap.size w w':=by
 obtain⟨sa,cap,rfl,hlc,hcm,hV⟩:=hP;have HV:=jh hV;unfold maxLen at hcm;clear hV;go_enter Tryz.func152,Tryz.ntmps152;go_wp2_with fail;go_loopw [9] (fun i wr=>∃k:Nat,k≤p.length∧i=.int .i64 k∧Hid (pathB p=(p.drop k).all segB)∧Below w.heap.size w wr) (fun i _=>p.length - (intOf i).toNat)
 case atStart=>exact⟨0,by omega,rfl,jh rfl,Below.refl _ _⟩
 case round=>
  obtain⟨k,hk,rfl,E,hb⟩:=hrel;by_cases hlt:k<p.length
  ·obtain⟨s,hs⟩:∃s,p[k]? =some s:=⟨_,List.getElem?_eq_getElem hlt⟩
   obtain⟨b,off,hsa,hP⟩:=HV.out (by omega);subst hsa;obtain⟨cs,_,⟨u,rfl,sb,cb,rfl,hl1,hl2,hL⟩,hc⟩:=hP k s hs;have d0:=(hb.cell (jH (hc 0 _ rfl))).trans (hc 0 _ rfl);have d1:=(hb.cell (jH (hc 1 _ rfl))).trans (hc 1 _ rfl);simp only[Nat.add_zero] at d0;have E2:Hid (pathB p=(segB s&&(p.drop (k+1)).all segB)):=jh (by rw[E.out,all_drop hs]);have HL:=jh hL;obtain⟨set,ss⟩:=s;simp only at d0 d1 hl1 hl2 E2 HL;unfold maxLen at hl2;clear hP hc hs E hL;have hB:Hid (∀o,Below w.heap.size w (wr.alloc o)):=jh fun o=>hb.alloc hb.size o;by_cases h1:1≤ss.length
   ·by_cases h2:ss.length≤255
    ·have E3:Hid (pathB p=(ss.all asB&&(p.drop (k+1)).all segB)):=jh (by rw[E2.out];unfold segB;simp only[h1,h2,decide_true,Bool.true_and]);clear E2;obtain⟨b',off',hsb,hQ⟩:=HL.out (by omega);subst hsb;have HQ:=jh hQ;clear hQ HL;go_upto_region 4 with (fail)
     obtain⟨W1,hW1⟩:∃W1,W1=wr.alloc (.cells #[.bool set,.slice (some ⟨b',off',none⟩) ss.length cb] 121):=⟨_,rfl⟩
     have hb1:Below w.heap.size w W1:=by rw[hW1];exact hB.out _
     have z1:W1.cell? ⟨wr.heap.size,1,none⟩=some (.slice (some ⟨b',off',none⟩) ss.length cb):=by rw[hW1];simp
     rw[←hW1];clear hW1 hB d0 d1 hb;go_wp2_with fail;go_loopw [26] (fun i wr=>∃j:Nat,j≤ss.length∧i=.int .i64 j∧Hid (ss.all asB=(ss.drop j).all asB)∧wr=W1) (fun i _=>ss.length - (intOf i).toNat)
     case atStart=>exact⟨0,by omega,rfl,jh rfl,rfl⟩
     case round=>
      obtain⟨j,hj,rfl,F,rfl⟩:=hrel;by_cases hjl:j<ss.length
      ·obtain⟨x,hx⟩:∃x,ss[j]? =some x:=⟨_,List.getElem?_eq_getElem hjl⟩
       obtain⟨cs,_,⟨rfl,_⟩,hc⟩:=HQ.out j x hx;have f0:=(hb1.cell (jH (hc 0 _ rfl))).trans (hc 0 _ rfl);simp only[Nat.add_zero,Nat.mul_one] at f0;have F2:Hid (ss.all asB=(asB x&&(ss.drop (j+1)).all asB)):=jh (by rw[F.out,all_drop hx]);clear hc hx F;by_cases x1:1≤x
       ·by_cases x2:x≤65535
        ·have F3:Hid (ss.all asB=(ss.drop (j+1)).all asB):=jh (by rw[F2.out];unfold asB;simp only[x1,x2,decide_true,Bool.true_and]);go_wp2_with fail;exact⟨⟨j+1,by omega,by go_num,F3,by first|rfl|trivial⟩,by simp[intOf];omega⟩
        ·have F3:Hid (pathB p=false):=jh (by rw[E3.out,F2.out];unfold asB;simp only[x2,decide_false,Bool.and_false,Bool.false_and]);go_wp2_with fail;go_ret;exact⟨jL F3.out.symm,hb1⟩
       ·have F3:Hid (pathB p=false):=jh (by rw[E3.out,F2.out];unfold asB;simp only[x1,decide_false,Bool.false_and]);go_wp2_with fail;go_ret;exact⟨jL F3.out.symm,hb1⟩
      ·obtain rfl:j=ss.length:=by omega
       have E4:Hid (pathB p=(p.drop (k+1)).all segB):=jh (by rw[E3.out,F.out,List.drop_length];rfl);clear F;go_wp2_with fail;exact⟨⟨k+1,by omega,by go_num,E4,hb1⟩,by simp[intOf];omega⟩
    ·have E3:Hid (pathB p=false):=jh (by rw[E2.out];unfold segB;simp only[h2,decide_false,Bool.and_false,Bool.false_and]);go_wp2_with fail;go_ret;exact⟨jL E3.out.symm,hB.out _⟩
   ·have E3:Hid (pathB p=false):=jh (by rw[E2.out];unfold segB;simp only[h1,decide_false,Bool.false_and]);have h0:(ss.length:Int)<1:=by omega
    go_wp2_with fail;go_ret;exact⟨jL E3.out.symm,hB.out _⟩
  ·obtain rfl:k=p.length:=by omega
   have E3:Hid (pathB p=true):=jh (by rw[E.out,List.drop_length];rfl);clear E;go_wp2_with fail;go_ret;exact⟨jL E3.out.symm,hb⟩
theorem at_goodComms (v:Value) (p:List Int) (w:World) (hP:IntsAt w v p):Calls Tryz.prog 154 #[v] w fun e w'=>e=.returned (.bool (commsB p))∧w=w':=by
 obtain⟨sa,cap,rfl,hlc,hcm,hV⟩:=hP;have HV:=jh hV;unfold maxLen at hcm;clear hV;go_enter Tryz.func154,Tryz.ntmps154;go_wp2_with fail;go_loop [7] (fun i=>∃k:Nat,k≤p.length∧i=.int .i64 k∧Hid (commsB p=((p.drop k).all (withinB · 4294967295)&&decide (p.length≤256)))) (fun i=>p.length - (intOf i).toNat)
 case atStart=>exact⟨0,by omega,rfl,jh rfl⟩
 case round=>
  obtain⟨k,hk,rfl,E⟩:=hrel;by_cases hlt:k<p.length
  ·obtain⟨x,hs⟩:∃s,p[k]? =some s:=⟨_,List.getElem?_eq_getElem hlt⟩
   obtain⟨b,off,hsa,hP⟩:=HV.out (by omega);subst hsa;obtain⟨cs,_,⟨rfl,_⟩,hc⟩:=hP k x hs;have d0:=hc 0 _ rfl;simp only[Nat.add_zero,Nat.mul_one] at d0;have E2:Hid (commsB p=((withinB x 4294967295&&(p.drop (k+1)).all (withinB · 4294967295))&&decide (p.length≤256))):=jh (by rw[E.out,all_drop hs]);have WI:=jh (at_within x 4294967295);clear hP hc hs E;cases hw:withinB x 4294967295
   ·have E3:Hid (commsB p=false):=jh (by rw[E2.out,hw];rfl);rw[hw] at WI;clear hw E2;go_wp2_with fail;refine(WI.out _).mono ?_;rintro e w1 ⟨rfl,rfl⟩;go_wp2_with fail;go_ret;exact⟨jL E3.out.symm,rfl⟩
   ·have E3:Hid (commsB p=((p.drop (k+1)).all (withinB · 4294967295)&&decide (p.length≤256))):=jh (by rw[E2.out,hw];rfl);rw[hw] at WI;clear hw E2;go_wp2_with fail;refine(WI.out _).mono ?_;rintro e w1 ⟨rfl,rfl⟩;go_wp2_with fail;exact⟨⟨k+1,by omega,by go_num,E3⟩,by simp[intOf];omega⟩
  ·obtain rfl:k=p.length:=by omega
   have E3:Hid (commsB p=decide (p.length≤256)):=jh (by rw[E.out,List.drop_length];rfl);clear E;by_cases h2:p.length≤256
   ·have E4:Hid (commsB p=true):=jh (by rw[E3.out];simpa using h2);go_wp2_with fail;go_ret;exact⟨jL (by rw[E4.out];simp;omega),rfl⟩
   ·have E4:Hid (commsB p=false):=jh (by rw[E3.out];simpa using h2);go_wp2_with fail;go_ret;exact⟨jL (by rw[E4.out];simp;omega),rfl⟩
def goodB (a:At):Nat→Bool
 |1=>withinB a.origin 2
 |2=>pathB a.path
 |3=>hopB a.hop
 |4=>withinB a.med 4294967295
 |5=>withinB a.loc 4294967295
 |7=>withinB a.aggrAs 65535
 |8=>commsB a.comms
 |_=>true
def zeroB (a:At):Nat→Bool
 |1=>a.origin==0
 |2=>((a.path.length:Nat):Int)==0
 |3=>(a.hop:Int)==0
 |4=>a.med==0
 |5=>a.loc==0
 |7=>(a.aggrAs==0)&&((a.aggrId:Int)==0)
 |8=>((a.comms.length:Nat):Int)==0
 |_=>true
theorem at_good (a:At) (vp vc vo:Value) (t:Nat) (h1:1≤t) (h8:t≤8) (w:World) (hA:AtL w a vp vc vo):
  Calls Tryz.prog 111 #[.agg #[.int .i64 a.has,.int .i64 a.origin,vp,.int .u32 a.hop,.int .i64 a.med,.int .i64 a.loc,.int .i64 a.aggrAs,.int .u32 a.aggrId,vc,vo],.int .i64 t] w fun e w'=>e=.returned (.bool (goodB a t))∧Below w.heap.size w w':=by
 obtain⟨hP,hC,_⟩:=hA;have HP:=jh hP;have HC:=jh hC;have WI:=jh at_within;have HO:=jh (at_goodHop a.hop);have GP:=jh (fun w h=>at_goodPath vp a.path w h);have GC:=jh (fun w h=>at_goodComms vc a.comms w h);clear hP hC;obtain⟨W0,hW0,q,hb0,_⟩:=boxA w (.int .i64 a.has) (.int .i64 a.origin) vp (.int .u32 a.hop) (.int .i64 a.med) (.int .i64 a.loc) (.int .i64 a.aggrAs) (.int .u32 a.aggrId) vc vo;have y1:W0.cell? ⟨w.heap.size,1,none⟩=some (.int .i64 a.origin):=jB q 1;have y2:W0.cell? ⟨w.heap.size,2,none⟩=some vp:=jB q 2;have y3:W0.cell? ⟨w.heap.size,3,none⟩=some (.int .u32 a.hop):=jB q 3;have y4:W0.cell? ⟨w.heap.size,4,none⟩=some (.int .i64 a.med):=jB q 4;have y5:W0.cell? ⟨w.heap.size,5,none⟩=some (.int .i64 a.loc):=jB q 5;have y6:W0.cell? ⟨w.heap.size,6,none⟩=some (.int .i64 a.aggrAs):=jB q 6;have y8:W0.cell? ⟨w.heap.size,8,none⟩=some vc:=jB q 8;clear q;have HP1:=jh (HP.out.below hb0);have HC1:=jh (HC.out.below hb0);have HW:=jh hW0;clear hW0;revert h1 h8
 match t with
 |0=>intro h1;omega
 |1=>
  intro _ _;go_enter Tryz.func111,Tryz.ntmps111;go_upto_region 1 with (fail)
  rw[←HW.out];go_wp2_with fail;refine(WI.out _ _ _).mono ?_;rintro e w1 ⟨rfl,rfl⟩;go_wp2_with fail;go_ret;exact⟨rfl,hb0⟩
 |2=>
  intro _ _;go_enter Tryz.func111,Tryz.ntmps111;go_upto_region 1 with (fail)
  rw[←HW.out];go_wp2_with fail;refine(GP.out _ HP1.out).mono ?_;rintro e w1 ⟨rfl,hb⟩;go_wp2_with fail;go_ret;exact⟨rfl,jC hb0 hb⟩
 |3=>
  intro _ _;go_enter Tryz.func111,Tryz.ntmps111;go_upto_region 1 with (fail)
  rw[←HW.out];go_wp2_with fail;refine(HO.out _).mono ?_;rintro e w1 ⟨rfl,rfl⟩;go_wp2_with fail;go_ret;exact⟨rfl,hb0⟩
 |4=>
  intro _ _;go_enter Tryz.func111,Tryz.ntmps111;go_upto_region 1 with (fail)
  rw[←HW.out];go_wp2_with fail;refine(WI.out _ _ _).mono ?_;rintro e w1 ⟨rfl,rfl⟩;go_wp2_with fail;go_ret;exact⟨rfl,hb0⟩
 |5=>
  intro _ _;go_enter Tryz.func111,Tryz.ntmps111;go_upto_region 1 with (fail)
  rw[←HW.out];go_wp2_with fail;refine(WI.out _ _ _).mono ?_;rintro e w1 ⟨rfl,rfl⟩;go_wp2_with fail;go_ret;exact⟨rfl,hb0⟩
 |7=>
  intro _ _;go_enter Tryz.func111,Tryz.ntmps111;go_upto_region 1 with (fail)
  rw[←HW.out];go_wp2_with fail;refine(WI.out _ _ _).mono ?_;rintro e w1 ⟨rfl,rfl⟩;go_wp2_with fail;go_ret;exact⟨rfl,hb0⟩
 |6=>
  intro _ _;go_enter Tryz.func111,Tryz.ntmps111;go_upto_region 1 with (fail)
  rw[←HW.out];go_wp2_with fail;go_ret;exact⟨rfl,hb0⟩
 |8=>
  intro _ _;go_enter Tryz.func111,Tryz.ntmps111;go_upto_region 1 with (fail)
  rw[←HW.out];go_wp2_with fail;refine(GC.out _ HC1.out).mono ?_;rintro e w1 ⟨rfl,rfl⟩;go_wp2_with fail;go_ret;exact⟨rfl,hb0⟩
 |t+9=>intro _ h;omega
theorem at_zero (a:At) (vp vc vo:Value) (t:Nat) (h1:1≤t) (h8:t≤8) (w:World) (hA:AtL w a vp vc vo):
  Calls Tryz.prog 112 #[.agg #[.int .i64 a.has,.int .i64 a.origin,vp,.int .u32 a.hop,.int .i64 a.med,.int .i64 a.loc,.int .i64 a.aggrAs,.int .u32 a.aggrId,vc,vo],.int .i64 t] w fun e w'=>e=.returned (.bool (zeroB a t))∧Below w.heap.size w w':=by
 obtain⟨⟨sp,cp,rfl,_⟩,⟨sc,cc,rfl,_⟩,_⟩:=hA;obtain⟨W0,hW0,q,hb0,_⟩:=boxA w (.int .i64 a.has) (.int .i64 a.origin) (.slice sp a.path.length cp) (.int .u32 a.hop) (.int .i64 a.med) (.int .i64 a.loc) (.int .i64 a.aggrAs) (.int .u32 a.aggrId) (.slice sc a.comms.length cc) vo;have y1:W0.cell? ⟨w.heap.size,1,none⟩=some (.int .i64 a.origin):=jB q 1;have y2:W0.cell? ⟨w.heap.size,2,none⟩=some (.slice sp a.path.length cp):=jB q 2;have y3:W0.cell? ⟨w.heap.size,3,none⟩=some (.int .u32 a.hop):=jB q 3;have y4:W0.cell? ⟨w.heap.size,4,none⟩=some (.int .i64 a.med):=jB q 4;have y5:W0.cell? ⟨w.heap.size,5,none⟩=some (.int .i64 a.loc):=jB q 5;have y6:W0.cell? ⟨w.heap.size,6,none⟩=some (.int .i64 a.aggrAs):=jB q 6;have y7:W0.cell? ⟨w.heap.size,7,none⟩=some (.int .u32 a.aggrId):=jB q 7;have y8:W0.cell? ⟨w.heap.size,8,none⟩=some (.slice sc a.comms.length cc):=jB q 8;clear q;have HW:=jh hW0;clear hW0;revert h1 h8
 match t with
 |0=>intro h1;omega
 |1=>
  intro _ _;go_enter Tryz.func112,Tryz.ntmps112;go_upto_region 1 with (fail)
  rw[←HW.out];go_wp2_with fail;go_ret;exact⟨jL (by simp[zeroB]),hb0⟩
 |2=>
  intro _ _;go_enter Tryz.func112,Tryz.ntmps112;go_upto_region 1 with (fail)
  rw[←HW.out];go_wp2_with fail;go_ret;exact⟨jL (by simp[zeroB]),hb0⟩
 |3=>
  intro _ _;go_enter Tryz.func112,Tryz.ntmps112;go_upto_region 1 with (fail)
  rw[←HW.out];go_wp2_with fail;go_ret;exact⟨jL (by simp[zeroB]),hb0⟩
 |4=>
  intro _ _;go_enter Tryz.func112,Tryz.ntmps112;go_upto_region 1 with (fail)
  rw[←HW.out];go_wp2_with fail;go_ret;exact⟨jL (by simp[zeroB]),hb0⟩
 |5=>
  intro _ _;go_enter Tryz.func112,Tryz.ntmps112;go_upto_region 1 with (fail)
  rw[←HW.out];go_wp2_with fail;go_ret;exact⟨jL (by simp[zeroB]),hb0⟩
 |6=>
  intro _ _;go_enter Tryz.func112,Tryz.ntmps112;go_upto_region 1 with (fail)
  rw[←HW.out];go_wp2_with fail;go_ret;exact⟨jL (by simp[zeroB]),hb0⟩
 |8=>
  intro _ _;go_enter Tryz.func112,Tryz.ntmps112;go_upto_region 1 with (fail)
  rw[←HW.out];go_wp2_with fail;go_ret;exact⟨jL (by simp[zeroB]),hb0⟩
 |7=>
  intro _ _;cases hz:(a.aggrAs==0)
  ·have E:Hid (zeroB a 7=false):=jh (by unfold zeroB;rw[hz];rfl);go_enter Tryz.func112,Tryz.ntmps112;go_upto_region 1 with (fail)
   rw[←HW.out];go_wp2_with fail;go_ret;exact⟨jL E.out.symm,hb0⟩
  ·have E:Hid (zeroB a 7=((a.aggrId:Int)==0)):=jh (by unfold zeroB;rw[hz];rfl);go_enter Tryz.func112,Tryz.ntmps112;go_upto_region 1 with (fail)
   rw[←HW.out];go_wp2_with fail;go_ret;exact⟨jL (by rw[E.out]),hb0⟩
 |t+9=>intro _ h;omega
open Go.RowKit
def okT (a:At) (t:Nat):Bool:=if isB a.has t then goodB a t else zeroB a t
def othB:Int→List Oth→Bool
 |_,[]=>true
 |l,o::os=>(decide (l<o.1)&&decide (o.1≤255))&&othB o.1 os
def lastO:Int→List Oth→Int
 |l,[]=>l
 |_,o::os=>lastO o.1 os
def knownM (has:Int):Bool:=bits .andNot .i64 has 510==0
def checkB (a:At):Bool:=knownM a.has&&((List.range' 1 8).all (okT a)&&othB 8 a.others)
def checkI (a:At):Int:=if checkB a then 0 else 1
theorem rng_step (a:At) (t:Nat) (h:t≤8):(List.range' t (9 - t)).all (okT a)=(okT a t&&(List.range' (t+1) (8 - t)).all (okT a)):=by
 rw[show 9 - t=(8 - t)+1 by omega,List.range'_succ,List.all_cons]
theorem oth_step (l:Int) {os:List Oth} {k:Nat} {o:Oth} (h:os[k]? =some o):othB (lastO l (os.take k)) (os.drop k)=((decide (lastO l (os.take k)<o.1)&&decide (o.1≤255))&&othB o.1 (os.drop (k+1)))∧lastO l (os.take (k+1))=o.1:=by
 obtain⟨h1,h2⟩:=List.getElem?_eq_some_iff.1 h;constructor
 ·rw[List.drop_eq_getElem_cons h1,h2];rfl
 ·rw[List.take_succ_eq_append_getElem h1,h2];have:∀(l:Int) (xs:List Oth),lastO l (xs++[o])=o.1:=by
   intro l xs
   induction xs generalizing l with
   |nil=>rfl
   |cons x xs ih=>exact ih x.1
  exact this _ _
theorem at_Check (a:At) (vp vc vo:Value) (w:World) (hA:AtL w a vp vc vo):
  Calls Tryz.prog 60 #[.agg #[.int .i64 a.has,.int .i64 a.origin,vp,.int .u32 a.hop,.int .i64 a.med,.int .i64 a.loc,.int .i64 a.aggrAs,.int .u32 a.aggrId,vc,vo]] w fun e w'=>e=.returned (.int .i64 (checkI a))∧Below w.heap.size w w':=by
 have HA:=jh hA;obtain⟨_,_,⟨so,co,hvo,hol,hoc,hO⟩⟩:=hA;have HO:=jh hO;have HVO:=jh hvo;unfold maxLen at hoc;clear hvo hO;obtain⟨W0,hW0,q,hb0,hz0⟩:=boxA w (.int .i64 a.has) (.int .i64 a.origin) vp (.int .u32 a.hop) (.int .i64 a.med) (.int .i64 a.loc) (.int .i64 a.aggrAs) (.int .u32 a.aggrId) vc vo;have HZ0:=jh hz0;clear hz0;have HW:=jh hW0;have y0:W0.cell? ⟨w.heap.size,0,none⟩=some (.int .i64 a.has):=jB q 0;have y1:W0.cell? ⟨w.heap.size,1,none⟩=some (.int .i64 a.origin):=jB q 1;have y2:W0.cell? ⟨w.heap.size,2,none⟩=some vp:=jB q 2;have y3:W0.cell? ⟨w.heap.size,3,none⟩=some (.int .u32 a.hop):=jB q 3;have y4:W0.cell? ⟨w.heap.size,4,none⟩=some (.int .i64 a.med):=jB q 4;have y5:W0.cell? ⟨w.heap.size,5,none⟩=some (.int .i64 a.loc):=jB q 5;have y6:W0.cell? ⟨w.heap.size,6,none⟩=some (.int .i64 a.aggrAs):=jB q 6;have y7:W0.cell? ⟨w.heap.size,7,none⟩=some (.int .u32 a.aggrId):=jB q 7;have y8:W0.cell? ⟨w.heap.size,8,none⟩=some vc:=jB q 8;have y9:W0.cell? ⟨w.heap.size,9,none⟩=some vo:=jB q 9;have HL:=jh (HA.out.below hb0);have HI:=jh (fun t w=>at_Is a.has (.int .i64 a.origin) vp (.int .u32 a.hop) (.int .i64 a.med) (.int .i64 a.loc) (.int .i64 a.aggrAs) (.int .u32 a.aggrId) vc vo t w);have HG:=jh (fun t h1 h8 w h=>at_good a vp vc vo t h1 h8 w h);have HZ:=jh (fun t h1 h8 w h=>at_zero a vp vc vo t h1 h8 w h);clear q hW0;cases hm:(bits .andNot .i64 a.has 510 !=0)
 case true=>
  have E:Hid (checkI a=1):=jh (by
   have:knownM a.has=false:=by unfold knownM;simpa using hm
   unfold checkI checkB;rw[this];rfl)
  go_enter Tryz.func60,Tryz.ntmps60;go_upto_region 1 with (fail)
  rw[←HW.out];go_wp2_with fail;go_ret;exact⟨jU E.out.symm,hb0⟩
 case false=>
  have hk:knownM a.has=true:=by unfold knownM;simpa using hm
  have E:Hid (checkB a=((List.range' 1 8).all (okT a)&&othB 8 a.others)):=jh (by unfold checkB;rw[hk];rfl);clear hk;go_enter Tryz.func60,Tryz.ntmps60;go_upto_region 1 with (fail)
  rw[←HW.out];go_wp2_with fail;go_loopw [3] (fun i wr=>∃t:Nat,1≤t∧t≤9∧i=.int .i64 t∧Hid (checkB a=((List.range' t (9 - t)).all (okT a)&&othB 8 a.others))∧Below W0.heap.size W0 wr) (fun i _=>9 - (intOf i).toNat)
  case atStart=>exact⟨1,by omega,by omega,rfl,E,Below.refl _ _⟩
  case round=>
   clear E;obtain⟨t,ht1,ht9,rfl,E,hb⟩:=hrel;by_cases hlt:t≤8
   ·have E2:Hid (checkB a=((okT a t&&(List.range' (t+1) (8 - t)).all (okT a))&&othB 8 a.others)):=jh (by rw[E.out,rng_step a t hlt]);have L1:=jh (HL.out.below hb);have z0:=jA y0 hb;have z1:=jA y1 hb;have z2:=jA y2 hb;have z3:=jA y3 hb;have z4:=jA y4 hb;have z5:=jA y5 hb;have z6:=jA y6 hb;have z7:=jA y7 hb;have z8:=jA y8 hb;have z9:=jA y9 hb;clear E;cases hi:isB a.has t
    ·have HI1:=jh (HI.out (t:Int));rw[hi] at HI1;have E3:Hid (okT a t=zeroB a t):=jh (by unfold okT;rw[hi];rfl);clear hi;go_wp2_with fail;refine(HI1.out _).mono ?_;rintro e w2 ⟨rfl,hb2⟩;have z0:=jA z0 hb2;have z1:=jA z1 hb2;have z2:=jA z2 hb2;have z3:=jA z3 hb2;have z4:=jA z4 hb2;have z5:=jA z5 hb2;have z6:=jA z6 hb2;have z7:=jA z7 hb2;have z8:=jA z8 hb2;have z9:=jA z9 hb2;go_wp2_with fail;refine(HI1.out _).mono ?_;rintro e w3 ⟨rfl,hb3⟩;have z0:=jA z0 hb3;have z1:=jA z1 hb3;have z2:=jA z2 hb3;have z3:=jA z3 hb3;have z4:=jA z4 hb3;have z5:=jA z5 hb3;have z6:=jA z6 hb3;have z7:=jA z7 hb3;have z8:=jA z8 hb3;have z9:=jA z9 hb3;have L3:=jh ((L1.out.below hb2).below hb3);have B3:=jh (jC (jC hb hb2) hb3);clear hb hb2 hb3;go_wp2_with fail;refine(HZ.out t ht1 hlt _ L3.out).mono ?_;rintro e w4 ⟨rfl,hb4⟩;have B4:=jh (jC B3.out hb4);clear hb4 B3;cases hz:zeroB a t
     ·have E4:Hid (checkI a=1):=jh (by unfold checkI;rw[E2.out,E3.out,hz];rfl);go_wp2_with fail;go_ret;exact⟨jU E4.out.symm,jC hb0 B4.out⟩
     ·have E4:Hid (checkB a=((List.range' (t+1) (9 - (t+1))).all (okT a)&&othB 8 a.others)):=jh (by rw[E2.out,E3.out,hz,show 9 - (t+1)=8 - t by omega];rfl);go_wp2_with fail;exact⟨⟨t+1,by omega,by omega,by go_num,E4,B4.out⟩,by simp[intOf];omega⟩
    ·have HI1:=jh (HI.out (t:Int));rw[hi] at HI1;have E3:Hid (okT a t=goodB a t):=jh (by unfold okT;rw[hi];rfl);clear hi;go_wp2_with fail;refine(HI1.out _).mono ?_;rintro e w2 ⟨rfl,hb2⟩;have z0:=jA z0 hb2;have z1:=jA z1 hb2;have z2:=jA z2 hb2;have z3:=jA z3 hb2;have z4:=jA z4 hb2;have z5:=jA z5 hb2;have z6:=jA z6 hb2;have z7:=jA z7 hb2;have z8:=jA z8 hb2;have z9:=jA z9 hb2;have L3:=jh (L1.out.below hb2);have B3:=jh (jC hb hb2);clear hb hb2;go_wp2_with fail;refine(HG.out t ht1 hlt _ L3.out).mono ?_;rintro e w4 ⟨rfl,hb4⟩;cases hz:goodB a t
     ·have E4:Hid (checkI a=1):=jh (by unfold checkI;rw[E2.out,E3.out,hz];rfl);have B4:=jh (jC B3.out hb4);clear hb4 B3;go_wp2_with fail;go_ret;exact⟨jU E4.out.symm,jC hb0 B4.out⟩
     ·have E4:Hid (checkB a=((List.range' (t+1) (9 - (t+1))).all (okT a)&&othB 8 a.others)):=jh (by rw[E2.out,E3.out,hz,show 9 - (t+1)=8 - t by omega];rfl);have z0:=jA z0 hb4;have z1:=jA z1 hb4;have z2:=jA z2 hb4;have z3:=jA z3 hb4;have z4:=jA z4 hb4;have z5:=jA z5 hb4;have z6:=jA z6 hb4;have z7:=jA z7 hb4;have z8:=jA z8 hb4;have z9:=jA z9 hb4;have B4:=jh (jC B3.out hb4);clear hb4 B3;go_wp2_with fail;refine(HI1.out _).mono ?_;rintro e w5 ⟨rfl,hb5⟩;replace B4:=jh (jC B4.out hb5);clear hb5;go_wp2_with fail;exact⟨⟨t+1,by omega,by omega,by go_num,E4,B4.out⟩,by simp[intOf];omega⟩
   ·obtain rfl:t=9:=by omega
    have E2:Hid (checkB a=othB 8 a.others):=jh (by rw[E.out];rfl);have z9:=jA y9 hb;rw[HVO.out] at z9;clear E y0 y1 y2 y3 y4 y5 y6 y7 y8 y9;go_wp2_with fail;go_loopw [4,39] (fun l i wr'=>∃k:Nat,k≤a.others.length∧i=.int .i64 k∧l=.int .i64 (lastO 8 (a.others.take k))∧Hid (checkB a=othB (lastO 8 (a.others.take k)) (a.others.drop k))∧Below W0.heap.size W0 wr') (fun _ i _=>a.others.length - (intOf i).toNat)
    case atStart=>exact⟨0,by omega,rfl,rfl,E2,hb⟩
    case round=>
     clear E2 z9 hb;obtain⟨k,hk,rfl,rfl,E,hb⟩:=hrel;by_cases hlt:k<a.others.length
     ·obtain⟨o,ho⟩:∃o,a.others[k]? =some o:=⟨_,List.getElem?_eq_getElem hlt⟩
      obtain⟨b,off,hsa,hP⟩:=HO.out (by omega);obtain⟨cs,_,⟨u,rfl,_,⟨sb,cb,rfl,_⟩⟩,hc⟩:=hP k o ho;have d0:=((jC hb0 hb).cell (jH (hc 0 _ rfl))).trans (hc 0 _ rfl);have d1:=((jC hb0 hb).cell (jH (hc 1 _ rfl))).trans (hc 1 _ rfl);simp only[Nat.add_zero] at d0;obtain⟨S1,S2⟩:=oth_step 8 ho;have E2:Hid (checkB a=((decide (lastO 8 (a.others.take k)<o.1)&&decide (o.1≤255))&&othB o.1 (a.others.drop (k+1)))):=jh (by rw[E.out,S1]);have S2:=jh S2;have hB:Hid (∀q,Below W0.heap.size W0 (wr.alloc q)):=jh fun q=>hb.alloc hb.size q;subst hsa;clear hP hc ho E S1 hb;obtain⟨ot,ov⟩:=o;simp only at d0 d1 E2 S2;have S3:Hid (Value.int .i64 ot=.int .i64 (lastO 8 (a.others.take (k+1)))):=jh (by rw[S2.out]);have E4:Hid (decide (lastO 8 (a.others.take k)<ot)=true→decide (ot≤255)=true→checkB a=othB (lastO 8 (a.others.take (k+1))) (a.others.drop (k+1))):=jh (fun h1 h2=>by rw[E2.out,h1,h2,S2.out];rfl);clear S2;generalize lastO 8 (a.others.take k)=l at E2 E4 ⊢;by_cases x1:l<ot
      ·by_cases x2:ot≤255
       ·have E5:=jh (E4.out (by simpa using x1) (by simpa using x2));clear E2 E4;go_wp2_with fail;exact⟨⟨_,_,_,_,⟨k+1,by omega,rfl,rfl,E5,hB.out _⟩,rfl,S3.out,rfl,by go_num⟩,by simp[intOf];omega⟩
       ·have E3:Hid (checkI a=1):=jh (by unfold checkI;rw[E2.out,decide_eq_false x2];simp);clear E2 E4;go_wp2_with fail;go_ret;exact⟨jU E3.out.symm,jC hb0 (hB.out _)⟩
      ·have E3:Hid (checkI a=1):=jh (by unfold checkI;rw[E2.out,decide_eq_false x1];simp);clear E2 E4;go_wp2_with fail;go_ret;exact⟨jU E3.out.symm,jC hb0 (hB.out _)⟩
     ·obtain rfl:k=a.others.length:=by omega
      have E3:Hid (checkI a=0):=jh (by unfold checkI;rw[E.out,List.drop_length];rfl);clear E;go_wp2_with fail;go_ret;exact⟨jU E3.out.symm,jC hb0 hb⟩
open Go.RowKit Go.ChangeShapes Go.WideShapes
def Cd.Rng (c:Cd):Prop:=I64r c.peer∧c.na<4294967296∧I64r c.nl∧c.a.Rng∧c.id<4294967296
def CdC (w:World) (c:Cd) (cs:List Value):Prop:=∃vp vc vo,cs=(cdA c vp vc vo).toList∧c.Rng∧AtL w c.a vp vc vo
theorem CdC.below {w w':World} {c:Cd} {cs:List Value} (h:CdC w c cs) (hb:Below w.heap.size w w'):CdC w' c cs:=by
 obtain⟨vp,vc,vo,h1,h2,h3⟩:=h;exact⟨vp,vc,vo,h1,h2,h3.below hb⟩
abbrev CdsAt (w:World) (v:Value) (xs:List Cd):Prop:=SlAt w 14 (CdC w) v xs
theorem CdsAt.below {w w':World} {v:Value} {xs:List Cd} (h:CdsAt w v xs) (hb:Below w.heap.size w w'):CdsAt w' v xs:=SlAt.below h hb fun _ _ h=>h.below hb
section
variable {H:Type} {enc:TypeId×Value→H} {w:World} {base:Nat} {spare:Nat→Bool} {held:Bool}
end
theorem cd_cells {w:World} {b off i:Nat} {c:Cd} {vp vc vo:Value} (hc:∀(j:Nat) (u:Value),(cdA c vp vc vo).toList[j]? =some u→w.cell? ⟨b,off+i*14+j,none⟩=some u):
  w.cell? ⟨b,off+i*14,none⟩=some (.int .i64 c.peer)∧w.cell? ⟨b,off+i*14+1,none⟩=some (.int .u32 c.na)∧w.cell? ⟨b,off+i*14+2,none⟩=some (.int .i64 c.nl)∧w.cell? ⟨b,off+i*14+3,none⟩=some (.int .i64 c.a.has)∧w.cell? ⟨b,off+i*14+4,none⟩=some (.int .i64 c.a.origin)∧
  w.cell? ⟨b,off+i*14+5,none⟩=some vp∧w.cell? ⟨b,off+i*14+6,none⟩=some (.int .u32 c.a.hop)∧w.cell? ⟨b,off+i*14+7,none⟩=some (.int .i64 c.a.med)∧w.cell? ⟨b,off+i*14+8,none⟩=some (.int .i64 c.a.loc)∧w.cell? ⟨b,off+i*14+9,none⟩=some (.int .i64 c.a.aggrAs)∧
  w.cell? ⟨b,off+i*14+10,none⟩=some (.int .u32 c.a.aggrId)∧w.cell? ⟨b,off+i*14+11,none⟩=some vc∧w.cell? ⟨b,off+i*14+12,none⟩=some vo∧w.cell? ⟨b,off+i*14+13,none⟩=some (.int .u32 c.id):=
 ⟨hc 0 _ rfl,hc 1 _ rfl,hc 2 _ rfl,hc 3 _ rfl,hc 4 _ rfl,hc 5 _ rfl,hc 6 _ rfl,hc 7 _ rfl,hc 8 _ rfl,hc 9 _ rfl,hc 10 _ rfl,hc 11 _ rfl,hc 12 _ rfl,hc 13 _ rfl⟩
theorem cd_row {W:World} {b:Nat} {c:Cd} {vp vc vo:Value} {T:TypeId} (q:W.heap[b]? =some (.cells (cdA c vp vc vo) T (0,0))):
  W.cell? ⟨b,0,none⟩=some (.int .i64 c.peer)∧W.cell? ⟨b,1,none⟩=some (.int .u32 c.na)∧W.cell? ⟨b,2,none⟩=some (.int .i64 c.nl)∧W.cell? ⟨b,3,none⟩=some (.int .i64 c.a.has)∧W.cell? ⟨b,4,none⟩=some (.int .i64 c.a.origin)∧W.cell? ⟨b,5,none⟩=some vp∧W.cell? ⟨b,6,none⟩=some (.int .u32 c.a.hop)∧W.cell? ⟨b,7,none⟩=some (.int .i64 c.a.med)∧W.cell? ⟨b,8,none⟩=some (.int .i64 c.a.loc)∧W.cell? ⟨b,9,none⟩=some (.int .i64 c.a.aggrAs)∧W.cell? ⟨b,10,none⟩=some (.int .u32 c.a.aggrId)∧W.cell? ⟨b,11,none⟩=some vc∧W.cell? ⟨b,12,none⟩=some vo∧W.cell? ⟨b,13,none⟩=some (.int .u32 c.id):=
 ⟨jB q 0,jB q 1,jB q 2,jB q 3,jB q 4,jB q 5,jB q 6,jB q 7,jB q 8,jB q 9,jB q 10,jB q 11,jB q 12,jB q 13⟩
open Go.RowKit
section
variable {α:Type} {k:Nat} {C:α→List Value}
theorem jX (hC:∀x,(C x).length=k) (xs:List α):(xs.flatMap C).length=xs.length*k:=by
 induction xs with
 |nil=>simp
 |cons x xs ih=>rw[List.flatMap_cons,List.length_append,ih,hC,List.length_cons,Nat.succ_mul];omega
theorem flat_get (hC:∀x,(C x).length=k):∀(xs:List α) (i:Nat) (x:α),xs[i]? =some x→∀j,j<k→(xs.flatMap C)[i*k+j]? =(C x)[j]?
 |[],i,x,h,_,_=>by simp at h
 |y::xs,0,x,h,j,hj=>by
  simp at h;subst h;rw[List.flatMap_cons,Nat.zero_mul,Nat.zero_add,List.getElem?_append_left (by rw[hC];exact hj)]
 |y::xs,i+1,x,h,j,hj=>by
  have ih:=flat_get hC xs i x (by simpa using h) j hj;rw[List.flatMap_cons,List.getElem?_append_right (by rw[hC,Nat.succ_mul];omega),hC,←ih];congr 1;rw[Nat.succ_mul];omega
theorem own_slat {w:World} {B:Nat} {e:TypeId} {v:Value} {xs:List α} (hC:∀x,(C x).length=k) (h:w.ownsRow B e k v xs.length (xs.flatMap C)):SlAt w k (fun x cs=>cs=C x) v xs:=by
 obtain⟨_,⟨rfl,h0⟩|⟨g,cap,cur,rfl,_,hg,hn,hm,_,hcur⟩⟩:=h
 ·obtain rfl:=List.length_eq_zero_iff.1 h0;exact SlAt.nil
 ·refine⟨some ⟨g,0,none⟩,cap,rfl,hn,hm,fun _=>⟨g,0,rfl,fun i x hx=>⟨C x,hC x,rfl,fun j c hc=>?_⟩⟩⟩;have hj:j<k:=by rw[←hC x];exact(List.getElem?_eq_some_iff.1 hc).1
  have hi:i<xs.length:=(List.getElem?_eq_some_iff.1 hx).1;have hf:=flat_get hC xs i x hx j hj;rw[←hcur,hc,List.getElem?_take_of_lt (by
   have:(i+1)*k≤xs.length*k:=Nat.mul_le_mul_right _ hi;rw[Nat.succ_mul] at this;omega)] at hf
  rw[jB hg,Nat.zero_add];simpa using hf
theorem jQ {w w':World} {B:Nat} {e:TypeId} {n:Nat} {v:Value} {xs:List Value} (h:w.ownsRow B e k v n xs) (hb:Below w.heap.size w w'):w'.ownsRow B e k v n xs:=by
 obtain⟨h1,h2⟩:=h;refine⟨h1,h2.imp_right ?_⟩;rintro⟨g,cap,cur,h3,h4,h5,h6⟩;exact⟨g,cap,cur,h3,h4,(hb.block g (jE h5)).trans h5,h6⟩
theorem jJ {w:World} {B:Nat} {e:TypeId} {n:Nat} {v:Value} {xs:List Value} (h:w.ownsRow B e k v n xs):∀g,v.ownBlock=some g→B≤g:=by
 obtain⟨_,⟨rfl,_⟩|⟨g,cap,cur,rfl,hB,_⟩⟩:=h
 ·intro g hg;cases hg
 ·intro g' hg;cases hg;exact hB
theorem flat_snoc (xs:List α) (x:α):(xs++[x]).flatMap C=xs.flatMap C++C x:=by simp
theorem flat_one (h:∀x,∀u∈C x,u.oneCell'=true) (xs:List α):∀u∈xs.flatMap C,u.oneCell'=true:=by
 intro u hu;obtain⟨x,_,hx⟩:=List.mem_flatMap.1 hu;exact h x u hx
def Filled (w:World) (b k:Nat) (C:α→List Value) (xs:List α):Prop:=∀(i:Nat) (x:α),xs[i]? =some x→w.rangeAt b (i*k) (C x)
theorem there_below {w w':World} {b o n:Nat} (h:w.there b o n) (hb:Below w.heap.size w w'):w'.there b o n:=by
 intro j hj;obtain⟨h1,h2⟩:=h j hj;obtain⟨v,hv⟩:=Option.isSome_iff_exists.1 h1;have hlt:=jH hv;exact⟨by rw[jA hv hb];rfl,(hb.frozen (p:=⟨b,o+j,none⟩) hlt).trans h2⟩
theorem Filled.below {w w':World} {b:Nat} {xs:List α} (h:Filled w b k C xs) (hb:Below w.heap.size w w'):Filled w' b k C xs:=fun i x hx j v hv=>jA (h i x hx j v hv) hb
theorem Filled.set {w:World} {b n:Nat} {xs:List α} (hC:∀x,(C x).length=k) (h:Filled w b k C xs) (ht:w.there b 0 (n*k)) (hn:xs.length<n) (x:α):
  Filled (w.setCells b (xs.length*k) (C x)) b k C (xs++[x])∧(w.setCells b (xs.length*k) (C x)).there b 0 (n*k):=by
 refine⟨fun i y hy=>?_,World.there_setCells ht _ _ _⟩;by_cases hi:i<xs.length
 ·rw[List.getElem?_append_left hi] at hy;refine World.rangeAt_setCells_apart (h i y hy) _ _ _ (.inr (.inl ?_));rw[hC];have:(i+1)*k≤xs.length*k:=Nat.mul_le_mul_right _ hi;rw[Nat.succ_mul] at this;exact this
 ·rw[List.getElem?_append_right (by omega)] at hy;have e:i=xs.length:=by
   have:=(List.getElem?_eq_some_iff.1 hy).1;simp at this;omega
  subst e;simp at hy;subst hy;refine World.rangeAt_setCells_same _ _ _ _ (fun j hj=>?_);rw[hC] at hj;have:=ht (xs.length*k+j) (by
   have:(xs.length+1)*k≤n*k:=Nat.mul_le_mul_right _ hn;rw[Nat.succ_mul] at this;omega)
  rw[Nat.zero_add] at this;exact this
theorem Filled.slat {w:World} {b n:Nat} {xs:List α} (hC:∀x,(C x).length=k) (h:Filled w b k C xs) (hn:xs.length=n) (hm:n≤maxLen):SlAt w k (fun x cs=>cs=C x) (.slice (some ⟨b,0,none⟩) n n) xs:=by
 subst hn;refine⟨_,_,rfl,Nat.le_refl _,hm,fun _=>⟨b,0,rfl,fun i x hx=>⟨C x,hC x,rfl,fun j c hc=>?_⟩⟩⟩;rw[Nat.zero_add];exact h i x hx j c hc
theorem Filled.nil {w:World} {b:Nat}:Filled w b k C ([]:List α):=fun i x hx=>by simp at hx
theorem there_own {w:World} {B:Nat} {e:TypeId} {g n:Nat} {xs:List Value} (h:w.ownsRow B e k (.slice (some ⟨g,0,none⟩) n n) n xs):w.there g 0 (n*k):=by
 obtain⟨_,⟨h1,_⟩|⟨g',cap,cur,h1,_,hg,_,_,hsz,_⟩⟩:=h
 ·cases h1
 ·injection h1 with e1 e2 e3;injection e1 with e1;injection e1 with e1;subst e1;subst e3;intro j hj;have hlt:j<cur.size:=by rw[hsz];exact hj
  rw[Nat.zero_add];exact⟨by rw[jB hg,Array.getElem?_eq_getElem hlt];rfl,jN hg j⟩
end
theorem new_cells (W:World) (C:Array Value) (T:TypeId):∀(j:Nat) (u:Value),C.toList[j]? =some u→(W.alloc (.cells C T)).cell? ((⟨W.heap.size,0,none⟩:Addr).add j)=some u:=by
 intro j u hu;have hr:=heap_alloc_new W (.cells C T);have:(⟨W.heap.size,0,none⟩:Addr).add j=⟨W.heap.size,j,none⟩:=by
  unfold Addr.add;split
  ·next h=>rw[h]
  ·simp
 rw[this,jB hr];simpa using hu
theorem own_empty {w:World} {B:Nat} {e:TypeId} {k:Nat} (hB:B≤w.heap.size):(w.alloc (.cells #[] e)).ownsRow B e k (.slice (some ⟨w.heap.size,0,none⟩) 0 0) 0 []:=
 ⟨by simp,.inr ⟨w.heap.size,0,#[],rfl,hB,heap_alloc_new w _,Nat.le_refl _,by simp[maxLen],by simp,by simp⟩⟩
open Go.RowKit
theorem takeCd (w:World) (C:Array Value):∃W0,W0=w.alloc (.cells C 99)∧W0.heap[w.heap.size]? =some (.cells C 99 (0,0))∧Below w.heap.size w W0∧W0.heap.size=w.heap.size+1:=
 ⟨_,rfl,heap_alloc_new w _,(Below.refl _ _).alloc (Nat.le_refl _) _,by simp⟩
open Go.RowKit
theorem info_rank:(Tryz.prog.info? 200).map (fun i=>(i.zero,i.size,i.bytes))=some (some (.agg rkZA),8,64):=by kernel_rfl
def rksOf (xs:List Cd):List Rk:=xs.mapIdx fun i c=>rkOf (i:Int) c
theorem rksOf_len (xs:List Cd):(rksOf xs).length=xs.length:=by unfold rksOf;simp
theorem rksOf_step {xs:List Cd} {k:Nat} {c:Cd} (h:xs[k]? =some c):rksOf (xs.take (k+1))=rksOf (xs.take k)++[rkOf k c]:=by
 obtain⟨h1,h2⟩:=List.getElem?_eq_some_iff.1 h;unfold rksOf;rw[List.take_succ_eq_append_getElem h1,h2,List.mapIdx_concat,List.length_take,Nat.min_eq_left (Nat.le_of_lt h1)]
def RkRow (w:World) (g n:Nat) (rs:List Rk):Prop:=Filled w g 8 rkL rs∧w.there g 0 (n*8)
theorem RkRow.below {w w':World} {g n:Nat} {rs:List Rk} (h:RkRow w g n rs) (hb:Below w.heap.size w w'):RkRow w' g n rs:=⟨h.1.below hb,there_below h.2 hb⟩
theorem rkL_len (r:Rk):(rkL r).length=8:=rfl
theorem RkRow.set {w:World} {g n:Nat} {rs:List Rk} (h:RkRow w g n rs) (hn:rs.length<n) (r:Rk):RkRow (w.setCells g (rs.length*8) (rkA r).toList) g n (rs++[r]):=Filled.set (C:=rkL) rkL_len h.1 h.2 hn r
theorem RkRow.at_ {w:World} {g n:Nat} {rs:List Rk} (h:RkRow w g n rs) (hn:rs.length=n) (hm:n≤maxLen):RksAt w (.slice (some ⟨g,0,none⟩) n n) rs:=Filled.slat (C:=rkL) rkL_len h.1 hn hm
theorem there_part {w:World} {g n k:Nat} (h:w.there g 0 (n*8)) (hk:k<n):w.there g (k*8) 8:=by
 intro j hj;have:=h (k*8+j) (by omega);rw[Nat.zero_add] at this;exact this
def RanksPost (w:World) (rs:List Rk) (n:Nat) (e:Ending) (w':World):Prop:=∃g,e=.returned (.slice (some ⟨g,0,none⟩) n n)∧RkRow w' g n rs∧w.heap.size≤g∧Below w.heap.size w w'
theorem ch_ranks (v:Value) (xs:List Cd) (w:World) (h:CdsAt w v xs) (hn:xs.length≤100000) (hh:∀c∈xs,hopsN c.a.path≤4611686018427387904):Calls Tryz.prog 120 #[v] w (RanksPost w (rksOf xs) xs.length):=by
 obtain⟨i0,hi,hz0,hz1,hz2⟩:=info_parts info_rank;obtain⟨sa,cap,rfl,hlc,hcm,hV⟩:=h;have HV:=jh hV;have HH:=jh hh;unfold maxLen at hcm;clear hV hh;go_enter Tryz.func120,Tryz.ntmps120;go_wp2_with (refine wpList_make_full _ rfl _ _ 197 rfl w.heap.size 200 i0 _ 8 Tryz.underlying197 hi hz0 hz1 .i64 .i64 (xs.length:Int) (xs.length:Int) xs.length rfl rfl rfl rfl (by rw[hz2];omega) (by unfold maxLen;omega) (Nat.le_refl _) ?_);intro w1 hown hgrow;have T1:=jh (there_own hown);have B1:=jh ((Below.refl _ _).grown hgrow (Nat.le_refl _) (fun j hj=>by cases hj));clear hown hgrow;generalize hg:w.heap.size=g at T1 ⊢;have HG:=jh hg;clear hg;go_wp2_with fail;go_loopw [11] (fun i wr=>∃k:Nat,k≤xs.length∧i=.int .i64 k∧Hid (RkRow wr g xs.length (rksOf (xs.take k)))∧Hid (Below w.heap.size w wr)) (fun i _=>xs.length - (intOf i).toNat)
 case atStart=>exact⟨0,by omega,rfl,jh ⟨Filled.nil,T1.out⟩,B1⟩
 case round=>
  clear T1 B1;obtain⟨k,hk,rfl,R,B⟩:=hrel;by_cases hlt:k<xs.length
  ·obtain⟨c,hc⟩:∃s,xs[k]? =some s:=⟨_,List.getElem?_eq_getElem hlt⟩
   obtain⟨b,off,hsa,hP⟩:=HV.out (by omega);subst hsa;obtain⟨cs,_,⟨vp,vc,vo,rfl,_,hA⟩,hcs⟩:=hP k c hc;have HA:=jh (hA);obtain⟨⟨sp,cp,rfl,_⟩,⟨sc,cc,rfl,_⟩,⟨so,co,rfl,_⟩⟩:=hA;obtain⟨c0,c1,c2,c3,c4,c5,c6,c7,c8,c9,c10,c11,c12,c13⟩:=cd_cells hcs;have c0:=(B.out.cell (jH c0)).trans c0;have c1:=(B.out.cell (jH c1)).trans c1;have c2:=(B.out.cell (jH c2)).trans c2;have c3:=(B.out.cell (jH c3)).trans c3;have c4:=(B.out.cell (jH c4)).trans c4;have c5:=(B.out.cell (jH c5)).trans c5;have c6:=(B.out.cell (jH c6)).trans c6;have c7:=(B.out.cell (jH c7)).trans c7;have c8:=(B.out.cell (jH c8)).trans c8;have c9:=(B.out.cell (jH c9)).trans c9;have c10:=(B.out.cell (jH c10)).trans c10;have c11:=(B.out.cell (jH c11)).trans c11;have c12:=(B.out.cell (jH c12)).trans c12;have c13:=(B.out.cell (jH c13)).trans c13;have j0:(0:Int)≤(k:Int):=by omega
   have j1:(k:Int)<(xs.length:Int):=by omega
   have RO:=jh (fun W h=>ch_rankOf (k:Int) c (.slice sp c.a.path.length cp) (.slice sc c.a.comms.length cc) (.slice so c.a.others.length co) W h (HH.out c (List.mem_of_getElem? hc)));have ST:=jh (rksOf_step hc);have LN:Hid ((rksOf (xs.take k)).length=k):=jh (by rw[rksOf_len,List.length_take];omega);clear hP hcs hc;go_upto_region 5 with (fail)
   obtain⟨W1,hW1,q,hb1,_⟩:=takeCd wr (cdA c (.slice sp c.a.path.length cp) (.slice sc c.a.comms.length cc) (.slice so c.a.others.length co));rw[←hW1];clear hW1 c0 c1 c2 c3 c4 c5 c6 c7 c8 c9 c10 c11 c12 c13;have B2:=jh (jC B.out hb1);have HA1:=jh (HA.out.below B2.out);obtain⟨c0,c1,c2,c3,c4,c5,c6,c7,c8,c9,c10,c11,c12,c13⟩:=cd_row q;have R2:=jh (R.out.below hb1);clear q hb1 R B;go_wp2_with fail;refine(RO.out _ HA1.out).mono ?_;rintro e w3 ⟨rfl,hb3⟩;have R3:=jh (R2.out.below hb3);have B3:=jh (jC B2.out hb3);clear hb3 R2 B2 c0 c1 c2 c3 c4 c5 c6 c7 c8 c9 c10 c11 c12 c13 RO;go_wp2_with (with_reducible refine jM (X:=.store 200 (.tmp 21) (.tmp 20)) ?_ ?_;(·rfl));unfold Halt;refine wpList_store_mid rfl 200 (.tmp 21) (.tmp 20) rfl g (k*8) (rkA (rkOf k c)) rfl rfl (there_part R3.out.2 hlt) (by kernel_rfl) (rk_one _) ?_;obtain⟨W5,hW5⟩:∃W5,W5=w3.setCells g (k*8) (rkA (rkOf k c)).toList:=⟨_,rfl⟩
   have R4:=R3.out.set (n:=xs.length) (by rw[LN.out];exact hlt) (rkOf k c);rw[LN.out,←ST.out,←hW5] at R4;have B5:=Go.Lib.below_setCells g (show w.heap.size≤g by have:=HG.out;omega) (rkA (rkOf k c)).toList (k*8) B3.out;rw[←hW5] at B5 ⊢;clear hW5 ST R3 B3;have R5:=jh R4;have B6:=jh B5;clear R4 B5;go_wp2_with fail;exact⟨⟨k+1,by omega,by go_num,R5,B6⟩,by simp[intOf];omega⟩
  ·obtain rfl:k=xs.length:=by omega
   rw[List.take_length] at R;go_wp2_with fail;go_ret;exact⟨g,rfl,R.out,by have:=HG.out;omega,B.out⟩
open Go.RowKit Go.Maps Go.ChangeMaps Go.MapKept
section
variable {κ υ:Type} [DecidableEq κ]
structure KeyEnc (P:Program) (kt:TypeId) (ek:κ→Value) (ok:κ→Prop):Prop where
 K:Keyed P kt
 lit:∀a,ok a→∃l,keyOf P kt (ek a)=some l
 inj:∀a b,ek a=ek b→a=b
def MapT (ek:κ→Value) (ev:υ→Value) (ok:κ→Prop) (W:World) (b:Nat) (l:List (κ×υ)):Prop:=
 ∃es clock,W.heap[b]? =some (.map es clock)∧Stamped es clock∧es.size≤maxLen∧es.toList.map (fun e=>(e.key,e.val))=l.map (fun p=>(ek p.1,ev p.2))∧∀p∈l,ok p.1
def getL (l:List (κ×υ)) (a:κ):Option υ:=(l.find? fun p=>p.1=a).map (·.2)
def putL (l:List (κ×υ)) (a:κ) (v:υ):List (κ×υ):=if (getL l a).isSome then l.map (fun p=>if p.1=a then (a,v) else p) else l++[(a,v)]
def delL (l:List (κ×υ)) (a:κ):List (κ×υ):=l.filter fun p=>!decide (p.1=a)
def KeysApart (l:List (κ×υ)):Prop:=l.Pairwise fun p q=>p.1≠q.1
theorem getL_none {l:List (κ×υ)} {a:κ}:getL l a=none↔∀p∈l,p.1≠a:=by
 unfold getL;simp[List.find?_eq_none]
theorem getL_mem {l:List (κ×υ)} {a:κ} {v:υ} (h:getL l a=some v):(a,v)∈l:=by
 unfold getL at h;simp only[Option.map_eq_some_iff] at h;obtain⟨p,hp,rfl⟩:=h;have h1:=List.find?_some hp;have h2:=List.mem_of_find?_eq_some hp;simp at h1;rw[←h1];exact h2
theorem getL_of_mem {l:List (κ×υ)} {a:κ} {v:υ} (hd:KeysApart l) (h:(a,v)∈l):getL l a=some v:=by
 induction l with
 |nil=>cases h
 |cons p r ih=>
  unfold KeysApart at hd;obtain⟨h1,h2⟩:=List.pairwise_cons.1 hd;by_cases hp:p.1=a
  ·rcases List.mem_cons.1 h with e|h
   ·unfold getL;rw[List.find?_cons_of_pos (by simpa using hp),←e];rfl
   ·exact absurd hp (h1 _ h)
  ·rcases List.mem_cons.1 h with e|h
   ·rw[←e] at hp;exact absurd rfl hp
   ·have:=ih h2 h;unfold getL at this ⊢;rw[List.find?_cons_of_neg (by simpa using hp)];exact this
theorem getL_iff {l:List (κ×υ)} {a:κ} {v:υ} (hd:KeysApart l):getL l a=some v↔(a,v)∈l:=⟨getL_mem,getL_of_mem hd⟩
theorem getL_append (l m:List (κ×υ)) (a:κ):getL (l++m) a=(getL l a).or (getL m a):=by
 unfold getL;rw[List.find?_append];cases l.find? _<;>rfl
theorem getL_map_put (l:List (κ×υ)) (a b:κ) (v:υ):getL (l.map fun p=>if p.1=a then (a,v) else p) b=if b=a then (getL l a).map (fun _=>v) else getL l b:=by
 induction l with
 |nil=>simp[getL]
 |cons p r ih=>
  unfold getL at ih ⊢;simp only[List.map_cons,List.find?_cons];by_cases hp:p.1=a
  ·by_cases hb:b=a
   ·subst hb;simp[hp]
   ·have hb':¬a=b:=fun e=>hb e.symm;have:¬p.1=b:=by rw[hp];exact hb'
    simp only[hp,if_true,hb',if_false,hb] at ih ⊢;simpa [hb'] using ih
  ·by_cases hb:b=a
   ·subst hb;simp only[hp,if_false,decide_false,if_true] at ih ⊢;exact ih
   ·by_cases hpb:p.1=b
    ·subst hpb;simp[hp]
    ·simp only[hp,if_false,hpb,decide_false,hb] at ih ⊢;exact ih
theorem getL_put (l:List (κ×υ)) (a b:κ) (v:υ):getL (putL l a v) b=if b=a then some v else getL l b:=by
 unfold putL;split
 ·rename_i h;rw[getL_map_put];split
  ·cases hg:getL l a with
   |none=>rw[hg] at h;cases h
   |some x=>rfl
  ·rfl
 ·rename_i h;rw[getL_append];have hn:getL l a=none:=by cases hg:getL l a with
   |none=>rfl
   |some x=>rw[hg] at h;exact absurd rfl h
  by_cases hb:b=a
  ·subst hb;rw[hn,if_pos rfl];simp[getL]
  ·rw[if_neg hb];have:getL [(a,v)] b=none:=by rw[getL_none];intro p hp;simp at hp;subst hp;exact fun e=>hb e.symm
   rw[this];cases getL l b<;>rfl
theorem getL_del (l:List (κ×υ)) (a b:κ):getL (delL l a) b=if b=a then none else getL l b:=by
 split
 ·rename_i h;subst h;rw[getL_none];intro p hp;have:=(List.mem_filter.1 hp).2;simpa using this
 ·rename_i h;unfold getL delL;rw[List.find?_filter];congr 1;have:(fun p:κ×υ=>decide ((!decide (p.1=a))=true∧decide (p.1=b)=true))=fun p=>decide (p.1=b):=by
   funext p;by_cases hp:p.1=b
   ·subst hp;simp[h]
   ·simp[hp]
  rw[this]
theorem apart_put {l:List (κ×υ)} (hd:KeysApart l) (a:κ) (v:υ):KeysApart (putL l a v):=by
 unfold putL KeysApart at*;split
 ·rw[List.pairwise_map];refine hd.imp ?_;intro p q h;by_cases hp:p.1=a
  ·by_cases hq:q.1=a
   ·exact absurd (hp.trans hq.symm) h
   ·simp only[hp,hq,if_true,if_false];exact fun e=>hq e.symm
  ·by_cases hq:q.1=a
   ·simp only[hp,hq,if_true,if_false];exact hp
   ·simp only[hp,hq,if_false];exact h
 ·rename_i h;have hn:getL l a=none:=by cases hg:getL l a with
   |none=>rfl
   |some x=>rw[hg] at h;exact absurd rfl h
  rw[getL_none] at hn;rw[List.pairwise_append];refine⟨hd,by simp,fun p hp q hq=>?_⟩;simp at hq;subst hq;exact hn p hp
theorem apart_del {l:List (κ×υ)} (hd:KeysApart l) (a:κ):KeysApart (delL l a):=hd.filter _
theorem mem_put {l:List (κ×υ)} {a:κ} {v:υ} {p:κ×υ} (h:p∈putL l a v):(p∈l∧p.1≠a)∨p=(a,v):=by
 unfold putL at h;split at h
 ·obtain⟨q,hq,rfl⟩:=List.mem_map.1 h;by_cases hp:q.1=a
  ·right;simp[hp]
  ·left;simp only[hp,if_false];exact⟨hq,hp⟩
 ·rename_i hn;rcases List.mem_append.1 h with h|h
  ·left;refine⟨h,?_⟩;have hg:getL l a=none:=by cases hg:getL l a with
    |none=>rfl
    |some x=>rw[hg] at hn;exact absurd rfl hn
   exact getL_none.1 hg p h
  ·right;simpa using h
theorem mem_del {l:List (κ×υ)} {a:κ} {p:κ×υ}:p∈delL l a↔p∈l∧p.1≠a:=by
 unfold delL;simp
theorem len_put (l:List (κ×υ)) (a:κ) (v:υ):(putL l a v).length=if (getL l a).isSome then l.length else l.length+1:=by
 unfold putL;split<;>simp
theorem len_del {l:List (κ×υ)} (hd:KeysApart l) (a:κ):(delL l a).length=if (getL l a).isSome then l.length - 1 else l.length:=by
 induction l with
 |nil=>simp[delL,getL]
 |cons p r ih=>
  unfold KeysApart at hd;obtain⟨h1,h2⟩:=List.pairwise_cons.1 hd;have ih:=ih h2;by_cases hp:p.1=a
  ·have e:getL (p::r) a=some p.2:=by unfold getL;rw[List.find?_cons_of_pos (by simpa using hp)];rfl
   have n:getL r a=none:=getL_none.2 fun q hq e=>h1 q hq (hp.trans e.symm);rw[n] at ih;rw[e];unfold delL at ih ⊢;rw[List.filter_cons_of_neg (by simpa using hp)];simpa using ih
  ·have e:getL (p::r) a=getL r a:=by unfold getL;rw[List.find?_cons_of_neg (by simpa using hp)]
   rw[e];unfold delL at ih ⊢;rw[List.filter_cons_of_pos (by simpa using hp)];cases hg:(getL r a).isSome
   ·rw[hg] at ih;simp at ih ⊢;exact ih
   ·rw[hg] at ih;have:0<r.length:=by
     cases r with
     |nil=>simp[getL] at hg
     |cons _ _=>simp
    simp at ih ⊢;omega
variable {P:Program} {kt et t:TypeId} {ek:κ→Value} {ev:υ→Value} {ok:κ→Prop} {W W':World} {b:Nat} {l:List (κ×υ)}
omit [DecidableEq κ] in
theorem MapT.lt (h:MapT ek ev ok W b l):b<W.heap.size:=by
 obtain⟨es,c,hb,_⟩:=h;exact(Array.getElem?_eq_some_iff.1 hb).1
omit [DecidableEq κ] in
theorem MapT.of_block (h:MapT ek ev ok W b l) (hb:W'.heap[b]? =W.heap[b]?):MapT ek ev ok W' b l:=by
 obtain⟨es,c,h1,r⟩:=h;exact⟨es,c,hb.trans h1,r⟩
omit [DecidableEq κ] in
theorem MapT.below (h:MapT ek ev ok W b l) (hb:Below W.heap.size W W'):MapT ek ev ok W' b l:=h.of_block (hb.block b h.lt)
omit [DecidableEq κ] in
theorem MapT.drew (h:MapT ek ev ok W b l):MapT ek ev ok W.drew b l:=h
omit [DecidableEq κ] in
theorem MapT.made (W:World):MapT ek ev ok (W.alloc (.map #[] 0)) W.heap.size ([]:List (κ×υ)):=
 ⟨#[],0,heap_alloc_new W _,stamped_empty 0,by simp,rfl,by simp⟩
omit [DecidableEq κ] in
theorem MapT.oks (h:MapT ek ev ok W b l):∀p∈l,ok p.1:=by obtain⟨_,_,_,_,_,_,h⟩:=h;exact h
omit [DecidableEq κ] in
theorem MapT.short (h:MapT ek ev ok W b l):l.length≤maxLen:=by
 obtain⟨es,c,_,_,hs,hl,_⟩:=h;have:=congrArg List.length hl;simp at this;omega
omit [DecidableEq κ] in
theorem entry_of {es:Array MapEntry} (hl:es.toList.map (fun e=>(e.key,e.val))=l.map (fun p=>(ek p.1,ev p.2))) {e:MapEntry} (he:e∈es.toList):∃p∈l,e.key=ek p.1∧e.val=ev p.2:=by
 have:(e.key,e.val)∈l.map (fun p=>(ek p.1,ev p.2)):=by rw[←hl];exact List.mem_map.2 ⟨e,he,rfl⟩
 obtain⟨p,hp,he⟩:=List.mem_map.1 this;simp at he;exact⟨p,hp,he.1.symm,he.2.symm⟩
omit [DecidableEq κ] in
theorem entry_to {es:Array MapEntry} (hl:es.toList.map (fun e=>(e.key,e.val))=l.map (fun p=>(ek p.1,ev p.2))) {p:κ×υ} (hp:p∈l):∃e∈es.toList,e.key=ek p.1∧e.val=ev p.2:=by
 have:(ek p.1,ev p.2)∈es.toList.map (fun e=>(e.key,e.val)):=by rw[hl];exact List.mem_map.2 ⟨p,hp,rfl⟩
 obtain⟨e,he,hq⟩:=List.mem_map.1 this;simp at hq;exact⟨e,he,hq.1,hq.2⟩
omit [DecidableEq κ] in
theorem MapT.apart (h:MapT ek ev ok W b l):KeysApart l:=by
 obtain⟨es,c,_,hst,_,hl,_⟩:=h;have h3:=((stamped_iff es c).1 hst).2.2;have h4:(es.toList.map (fun e=>(e.key,e.val))).Pairwise fun x y=>x.1≠y.1:=by rw[List.pairwise_map];exact h3
 rw[hl,List.pairwise_map] at h4;exact h4.imp fun {p q} h e=>h (by rw[e])
omit [DecidableEq κ] in
theorem keys_ok (E:KeyEnc P kt ek ok) {es:Array MapEntry} (hl:es.toList.map (fun e=>(e.key,e.val))=l.map (fun p=>(ek p.1,ev p.2))) (hok:∀p∈l,ok p.1):∀e∈es.toList,∃x,keyOf P kt e.key=some x:=by
 intro e he;obtain⟨p,hp,h1,_⟩:=entry_of hl he;rw[h1];exact E.lit _ (hok p hp)
theorem find_at (E:KeyEnc P kt ek ok) {es:Array MapEntry} (hl:es.toList.map (fun e=>(e.key,e.val))=l.map (fun p=>(ek p.1,ev p.2))) (hok:∀p∈l,ok p.1) (hd:KeysApart l) (a:κ) (ha:ok a) (w:World):
  (getL l a=none∧(Instr.findKey kt (ek a) es.toList).run P w=.ok none w∧∀e∈es.toList,e.key≠ek a)∨
  ∃v j e,getL l a=some v∧(Instr.findKey kt (ek a) es.toList).run P w=.ok (some (j,e.val)) w∧es.toList[j]? =some e∧e.key=ek a∧e.val=ev v∧l[j]? =some (a,v):=by
 obtain⟨x,hx⟩:=E.lit a ha;rcases E.K.find w hx es.toList (keys_ok E hl hok) with⟨h1,h2⟩|⟨j,e,h1,h2,h3⟩
 ·refine .inl ⟨getL_none.2 fun p hp hpa=>?_,h1,h2⟩;obtain⟨e,he,e1,_⟩:=entry_to hl hp;exact h2 e he (by rw[e1,hpa])
 ·have hj:(es.toList.map (fun e=>(e.key,e.val)))[j]? =some (e.key,e.val):=by rw[List.getElem?_map,h2];rfl
  rw[hl,List.getElem?_map] at hj;cases hlj:l[j]? with
  |none=>rw[hlj] at hj;cases hj
  |some p=>
   rw[hlj] at hj;simp at hj;have ea:p.1=a:=E.inj _ _ (hj.1.trans h3);refine .inr ⟨p.2,j,e,?_,h1,h2,h3,hj.2.symm,by rw[←ea];exact hlj⟩;rw[getL_iff hd,←ea];exact List.mem_of_getElem? hlj
theorem MapT.look (E:KeyEnc P kt ek ok) (h:MapT ek ev ok W b l) (ht:P.underlying t=some (.map kt et)) (a:κ) (ha:ok a) {z:Value} (hz:∀w,(zeroValue et).run P w=.ok z w) (w:World) (hw:w.heap[b]? =W.heap[b]?) (c:Bool):
  (Instr.lookup t (.map (some b)) (ek a) c).run P w=.ok (if c then .tuple #[((getL l a).map ev).getD z,.bool (getL l a).isSome] else ((getL l a).map ev).getD z) w:=by
 have hd:=h.apart;obtain⟨es,ck,hb,hst,_,hl,hok⟩:=h;rw[←hw] at hb;obtain⟨x,hx⟩:=E.lit a ha;rcases find_at E hl hok hd a ha w with⟨h1,h2,_⟩|⟨v,j,e,h1,h2,_,_,h5,_⟩
 ·rw[h1];unfold Instr.lookup;simp[run_underlying ht,MapKept.run_getObj_map hb,E.K.check w _ hx,h2,hz,Result.andThen]
 ·rw[h1];unfold Instr.lookup;simp[run_underlying ht,MapKept.run_getObj_map hb,E.K.check w _ hx,h2,Result.andThen,h5]
theorem setBlock_below {B:Nat} {o:Obj} (hb:B≤b):Below B W (setBlock W b o):=
 ⟨rfl,rfl,rfl,by simp[setBlock],fun k hk=>by simp[setBlock];rw[Array.getElem?_setIfInBounds_ne (by omega)]⟩
structure Kept (F:Nat→Prop) (w w':World):Prop where
 os:w'.os=w.os
 tape:w'.tape=w.tape
 output:w'.output=w.output
 size:w.heap.size≤w'.heap.size
 block:∀k,k<w.heap.size→¬F k→w'.heap[k]? =w.heap[k]?
theorem Kept.refl (F:Nat→Prop) (w:World):Kept F w w:=⟨rfl,rfl,rfl,Nat.le_refl _,fun _ _ _=>rfl⟩
theorem Kept.trans {F:Nat→Prop} {a b c:World} (h:Kept F a b) (k:Kept F b c):Kept F a c:=
 ⟨k.os.trans h.os,k.tape.trans h.tape,k.output.trans h.output,Nat.le_trans h.size k.size,fun i hi hf=>(k.block i (Nat.lt_of_lt_of_le hi h.size) hf).trans (h.block i hi hf)⟩
theorem Kept.of_below {F:Nat→Prop} {w w':World} (h:Below w.heap.size w w'):Kept F w w':=⟨h.os,h.tape,h.output,h.size,fun k hk _=>h.block k hk⟩
theorem Kept.below {F:Nat→Prop} {w w':World} {B:Nat} (h:Kept F w w') (hB:B≤w.heap.size) (hF:∀k,F k→B≤k):Below B w w':=
 ⟨h.os,h.tape,h.output,h.size,fun k hk=>h.block k (by omega) (fun hf=>by have:=hF k hf;omega)⟩
theorem Kept.imp {F G:Nat→Prop} {w w':World} (h:Kept F w w') (hFG:∀k,F k→G k):Kept G w w':=⟨h.os,h.tape,h.output,h.size,fun k hk hg=>h.block k hk (fun hf=>hg (hFG k hf))⟩
theorem Kept.setBlock {F:Nat→Prop} {w:World} {b:Nat} (o:Obj) (hF:F b):Kept F w (ChangeMaps.setBlock w b o):=
 ⟨rfl,rfl,rfl,by simp[ChangeMaps.setBlock],fun k hk hf=>by
  have:b≠k:=fun e=>hf (e▸hF);simp[ChangeMaps.setBlock,this]⟩
theorem Kept.setCell {F:Nat→Prop} {w:World} (p:Addr) (v:Value) (hF:F p.block):Kept F w (w.setCell p v):=
 ⟨rfl,rfl,rfl,by simp[World.setCell],fun k hk hf=>Below.heap_setCell _ _ _ _ (fun e=>hf (by rw[e];exact hF))⟩
theorem Kept.drew {F:Nat→Prop} {w w':World} (h:Kept F w w'):Kept F w w'.drew:=⟨h.os,h.tape,h.output,h.size,h.block⟩
omit [DecidableEq κ] in
theorem MapT.kept {F:Nat→Prop} (h:MapT ek ev ok W b l) (hk:Kept F W W') (hb:¬F b):MapT ek ev ok W' b l:=h.of_block (hk.block b h.lt hb)
theorem Kept.cell {F:Nat→Prop} {w w':World} {a:Addr} {v:Value} (hk:Kept F w w') (h:w.cell? a=some v) (hF:¬F a.block):w'.cell? a=some v:=by
 rw[World.cell?_of_block (hk.block a.block (World.block_lt_of_cell? w a h) hF)];exact h
theorem MapT.store (E:KeyEnc P kt ek ok) (h:MapT ek ev ok W b l) (ht:P.underlying t=some (.map kt et)) (a:κ) (ha:ok a) (v:υ) (hroom:l.length<maxLen) (w:World) (hw:w.heap[b]? =W.heap[b]?):
  ∃o,(Instr.mapUpdate t (.map (some b)) (ek a) (ev v)).run P w=.ok () (setBlock w b o)∧MapT ek ev ok (setBlock w b o) b (putL l a v):=by
 have hd:=h.apart;obtain⟨es,ck,hb,hst,hsz,hl,hok⟩:=h;rw[←hw] at hb;obtain⟨x,hx⟩:=E.lit a ha;have hlen:=congrArg List.length hl;simp at hlen;have hpok:∀p∈putL l a v,ok p.1:=by
  intro p hp;rcases mem_put hp with⟨hp,_⟩|rfl
  ·exact hok p hp
  ·exact ha
 rcases find_at E hl hok hd a ha w with⟨h1,h2,h3⟩|⟨v0,j,e,h1,h2,h3,h4,h5,h6⟩
 ·refine⟨.map (es.push ⟨ek a,ev v,ck⟩) (ck+1),?_,⟨_,_,heap_setBlock_same hb _,stamped_push hst h3,by simp;omega,?_,hpok⟩⟩
  ·unfold Instr.mapUpdate;simp[run_underlying ht,MapKept.run_getObj_map hb,E.K.check w _ hx,h2,MapKept.run_setObj_map _ hb,Result.andThen,setBlock]
  ·unfold putL;rw[h1];simp[hl]
 ·have hj:es[j]? =some e:=by simpa using h3
  refine⟨.map (es.modify j fun e'=>{e' with key:=ek a,val:=ev v}) ck,?_,⟨_,_,heap_setBlock_same hb _,stamped_modify hst _ _ (fun _ _=>rfl) (fun e' _ he'=>by rw[hj] at he';cases he';exact h4.symm),by simp;omega,?_,hpok⟩⟩
  ·unfold Instr.mapUpdate;simp[run_underlying ht,MapKept.run_getObj_map hb,E.K.check w _ hx,h2,hj,h4,E.K.stays w hx,MapKept.run_setObj_map _ hb,Result.andThen,setBlock]
  ·rw[Array.toList_modify,modify_eq_set _ _ _ _ h3,List.map_set,hl];unfold putL;rw[h1,if_pos (by rfl:(some v0).isSome=true),List.map_map];apply List.ext_getElem?;intro i;rw[List.getElem?_set,List.getElem?_map,List.getElem?_map];by_cases hij:j=i
   ·subst hij;have hjl:j<l.length:=(List.getElem?_eq_some_iff.1 h6).1;rw[if_pos rfl,h6];simp[hjl]
   ·rw[if_neg hij];cases hi:l[i]? with
    |none=>simp
    |some p=>
     have:p.1≠a:=by
      intro e1;have hpw:=List.pairwise_iff_getElem.1 hd;obtain⟨hjl,hje⟩:=List.getElem?_eq_some_iff.1 h6;obtain⟨hil,hie⟩:=List.getElem?_eq_some_iff.1 hi;rcases Nat.lt_or_gt_of_ne hij with hlt|hgt
      ·exact hpw j i hjl hil hlt (by rw[hje,hie,e1])
      ·exact hpw i j hil hjl hgt (by rw[hje,hie,e1])
     simp[this]
theorem MapT.drop (E:KeyEnc P kt ek ok) (h:MapT ek ev ok W b l) (ht:P.underlying t=some (.map kt et)) (a:κ) (ha:ok a) (w:World) (hw:w.heap[b]? =W.heap[b]?):
  ∃o,(∀ty,(Builtin.delete_ #[t,kt] ty #[.map (some b),ek a]).run P w=.ok (.tuple #[]) (setBlock w b o))∧MapT ek ev ok (setBlock w b o) b (delL l a):=by
 have hd:=h.apart;obtain⟨es,ck,hb,hst,hsz,hl,hok⟩:=h;rw[←hw] at hb;obtain⟨x,hx⟩:=E.lit a ha;have hpok:∀p∈delL l a,ok p.1:=fun p hp=>hok p (mem_del.1 hp).1;rcases find_at E hl hok hd a ha w with⟨h1,h2,h3⟩|⟨v0,j,e,h1,h2,h3,h4,h5,h6⟩
 ·refine⟨.map es ck,?_,⟨_,_,heap_setBlock_same hb _,hst,hsz,?_,hpok⟩⟩
  ·intro ty;simp[Builtin.delete_,run_underlying ht,MapKept.run_getObj_map hb,E.K.check w _ hx,h2,MapKept.run_setObj_map _ hb,Result.andThen,setBlock]
  ·have:delL l a=l:=by
    unfold delL;rw[List.filter_eq_self];intro p hp;simpa using getL_none.1 h1 p hp
   rw[this];exact hl
 ·have hjl:j<es.toList.length:=(List.getElem?_eq_some_iff.1 h3).1;have hjs:j<es.size:=by simpa using hjl
  have hsub:(es.eraseIdxIfInBounds j).toList=es.toList.eraseIdx j:=by
   unfold Array.eraseIdxIfInBounds;rw[dif_pos hjs];simp
  refine⟨.map (es.eraseIdxIfInBounds j) ck,?_,⟨_,_,heap_setBlock_same hb _,stamped_erase hst j,Nat.le_trans (MapFrom.size_erase es j) hsz,?_,hpok⟩⟩
  ·intro ty;simp[Builtin.delete_,run_underlying ht,MapKept.run_getObj_map hb,E.K.check w _ hx,h2,MapKept.run_setObj_map _ hb,Result.andThen,setBlock]
  ·rw[hsub,map_eraseIdx,hl,←map_eraseIdx];congr 1;unfold delL;exact(filter_eq_eraseIdx (fun p:κ×υ=>decide (p.1=a)) l j (a,v0) h6 (by simp) (hd.imp fun {p q} hne ⟨e1,e2⟩=>hne ((of_decide_eq_true e1).trans (of_decide_eq_true e2).symm))).symm
omit [DecidableEq κ] in
theorem MapT.len (h:MapT ek ev ok W b l) (ht:P.underlying t=some (.map kt et)) (ty:TypeId) (w:World) (hw:w.heap[b]? =W.heap[b]?):
  (Builtin.len_ #[t] ty #[.map (some b)]).run P w=.ok (.int .i64 l.length) w:=by
 obtain⟨es,ck,hb,hst,hsz,hl,hok⟩:=h;rw[←hw] at hb;have hlen:=congrArg List.length hl;simp at hlen;have:goInt (es.size:Int)=.int .i64 (l.length:Int):=by rw[hlen];rfl
 simp[Builtin.len_,run_underlying ht,MapKept.run_getObj_map hb,←this]
end
open Go.RowKit
abbrev nV (n:Int):Value:=.int .i64 n
theorem wf_of {n:Int} (h:I64r n):(Lit.int .i64 n).wf=true:=by
 unfold I64r at h;exact WalkArith.wf_i64 (by omega)
theorem int_enc:KeyEnc Tryz.prog 3 nV I64r where
 K:=Maps.int_keyed Tryz.underlying3
 lit a ha:=⟨_,Maps.keyOf_int_mk Tryz.underlying3 (wf_of ha)⟩
 inj a b h:=by injection h
theorem zero_int (w:World):(zeroValue 3).run Tryz.prog w=.ok (nV 0) w:=by kernel_rfl
def leastP (T:Rk) (l:List (Int×Int)) (r:Rk):List (Int×Int):=
 if aheadI r T=0 then (match getL l r.first with|none=>putL l r.first r.med|some m=>if r.med<m then putL l r.first r.med else l) else l
def leastL (T:Rk) (rs:List Rk):List (Int×Int):=rs.foldl (leastP T) []
def leftB (T:Rk) (l:List (Int×Int)) (r:Rk):Bool:=decide (aheadI r T=0)&&(r.med==(getL l r.first).getD 0)
def leftL (T:Rk) (l:List (Int×Int)) (rs:List Rk):List Rk:=rs.filter (leftB T l)
def bestR (r0:Rk) (rs:List Rk):Rk:=
 match leftL (minBy aheadI r0 rs) (leastL (minBy aheadI r0 rs) (r0::rs)) (r0::rs) with
 |[]=>r0
 |x::xs=>minBy behindI x xs
theorem leastL_step (T:Rk) {rs:List Rk} {k:Nat} {r:Rk} (h:rs[k]? =some r):leastL T (rs.take (k+1))=leastP T (leastL T (rs.take k)) r:=by
 obtain⟨h1,h2⟩:=List.getElem?_eq_some_iff.1 h;unfold leastL;rw[List.take_succ_eq_append_getElem h1,List.foldl_append,h2];rfl
theorem leftL_step (T:Rk) (l:List (Int×Int)) {rs:List Rk} {k:Nat} {r:Rk} (h:rs[k]? =some r):leftL T l (rs.take (k+1))=leftL T l (rs.take k)++(if leftB T l r then [r] else []):=by
 obtain⟨h1,h2⟩:=List.getElem?_eq_some_iff.1 h;unfold leftL;rw[List.take_succ_eq_append_getElem h1,List.filter_append,h2];congr 1;cases hb:leftB T l r<;>simp[List.filter,hb]
theorem leastP_len (T:Rk) (l:List (Int×Int)) (r:Rk):(leastP T l r).length≤l.length+1:=by
 unfold leastP;split
 ·split
  ·rw[len_put];split<;>omega
  ·split
   ·rw[len_put];split<;>omega
   ·omega
 ·omega
structure BSt (w:World) (tb mb:Nat) (T:Rk) (l:List (Int×Int)) (wr:World):Prop where
 z:wr.heap[w.heap.size]? =some (.cells rkZA 200 (0,0))
 t:wr.heap[tb]? =some (.cells (rkA T) 200 (0,0))
 m:MapT nV nV I64r wr mb l
 bel:Below w.heap.size w wr
 tz:w.heap.size<tb
 mz:w.heap.size<mb
 tm:tb≠mb
theorem BSt.below {w wr W:World} {tb mb:Nat} {T:Rk} {l:List (Int×Int)} (h:BSt w tb mb T l wr) (hb:Below wr.heap.size wr W):BSt w tb mb T l W:=
 ⟨(hb.block _ (jE h.z)).trans h.z,(hb.block _ (jE h.t)).trans h.t,h.m.below hb,jC h.bel hb,h.tz,h.mz,h.tm⟩
theorem BSt.put {w wr:World} {tb mb:Nat} {T:Rk} {l l':List (Int×Int)} {o:Obj} (h:BSt w tb mb T l wr) (hm:MapT nV nV I64r (ChangeMaps.setBlock wr mb o) mb l'):BSt w tb mb T l' (ChangeMaps.setBlock wr mb o):=by
 have k:Kept (fun b=>b=mb) wr (ChangeMaps.setBlock wr mb o):=Kept.setBlock o rfl;refine⟨(k.block _ (jE h.z) (Nat.ne_of_lt h.mz)).trans h.z,(k.block _ (jE h.t) h.tm).trans h.t,hm,h.bel.trans (setBlock_below (Nat.le_of_lt h.mz)),h.tz,h.mz,h.tm⟩
theorem BSt.grown {w wr W:World} {tb mb B:Nat} {T:Rk} {l:List (Int×Int)} {row:Option Nat} (h:BSt w tb mb T l wr) (hg:wr.grownBy W row) (hr:∀j,row=some j→B≤j) (h1:w.heap.size<B) (h2:tb<B) (h3:mb<B):BSt w tb mb T l W:=by
 have key:∀b,b<wr.heap.size→b<B→W.heap[b]? =wr.heap[b]?:=fun b hb hB=>hg.block b hb (fun e=>by have:=hr b e.symm;omega);exact⟨(key _ (jE h.z) h1).trans h.z,(key _ (jE h.t) h2).trans h.t,h.m.of_block (key _ h.m.lt h3),h.bel.grown hg h.bel.size (fun j hj=>Nat.le_trans (Nat.le_of_lt h1) (hr j hj)),h.tz,h.mz,h.tm⟩
theorem results_best (tmps:Array Value) (W:World) (b:Nat) (r:Rk) (h4:tmps.getD 2 undef=.pointer (some ⟨b,0,none⟩)) (hb:W.heap[b]? =some (.cells (rkA r) 200 (0,0))):
  (results Tryz.f121 tmps).run Tryz.prog W=.ok (.agg (rkA r)) W:=results_cell_row Tryz.results121 tmps W b 200 (rkA r) (0,0) _ h4 hb Tryz.underlying200 rfl (by kernel_rfl)
theorem rkL_one (r:Rk):∀u∈rkL r,u.oneCell'=true:=by
 intro u hu;simp[rkL] at hu;rcases hu with rfl|rfl|rfl|rfl|rfl|rfl|rfl|rfl<;>rfl
theorem look_val (l:List (Int×Int)) (f:Int):((getL l f).map nV).getD (nV 0)=nV ((getL l f).getD 0):=by cases getL l f<;>rfl
theorem ch_best (v:Value) (r0:Rk) (rs:List Rk) (w:World) (h:RksAt w v (r0::rs)) (hn:rs.length≤100000) (hok:∀r∈r0::rs,I64r r.first)
  (hne:leftL (minBy aheadI r0 rs) (leastL (minBy aheadI r0 rs) (r0::rs)) (r0::rs)≠[]):
  Calls Tryz.prog 121 #[v] w fun e w'=>e=.returned (.agg (rkA (bestR r0 rs)))∧Below w.heap.size w w':=by
 obtain⟨i0,hi,hz0,hz1,hz2⟩:=info_parts info_rank;have HR:=jh h;obtain⟨sa,cap,rfl,hlc,hcm,hV⟩:=h;have HV:=jh hV;have HOK:=jh hok;unfold maxLen at hcm;have hmm:=@run_makeMap Tryz.prog;have EB:Hid (bestR r0 rs=match leftL (minBy aheadI r0 rs) (leastL (minBy aheadI r0 rs) (r0::rs)) (r0::rs) with|[]=>r0|x::xs=>minBy behindI x xs):=jh rfl;have MN:=jh (fun W h=>min_ahead (.slice sa (r0::rs).length cap) r0 rs W h);have LE:Hid ((r0::rs).length≤100001):=jh (by simp;omega);have LP:Hid (0<(r0::rs).length):=jh (by simp);have HNE:=jh hne;clear hV hok hne hn;generalize minBy aheadI r0 rs=T at EB MN HNE;generalize bestR r0 rs=R at EB ⊢;generalize r0::rs=l at HR HV HOK EB MN LE LP HNE hlc ⊢;generalize hll:l.length=n at HR HV LE LP MN hlc ⊢;have HL:=jh hll;clear hll;have le:=LE.out;have lp:=LP.out;go_enter Tryz.func121,Tryz.ntmps121;go_upto_region 1 with (fail)
 obtain⟨W0,hW0,q0,hb0,hz⟩:=boxKz w;rw[←hW0];clear hW0;have Q0:=jh q0;have HZ:=jh hz;have H0:=jh (HR.out.below hb0);have B0:=jh hb0;clear q0 hz hb0;go_wp2_with fail;refine(MN.out _ H0.out).mono ?_;rintro e w1 ⟨rfl,hb1⟩;have Q1:=jh ((hb1.block _ (jE Q0.out)).trans Q0.out);have B1:=jh (jC B0.out hb1);have S1:=jh (jE Q1.out);clear hb1 Q0 B0 HZ MN H0;go_upto_region 2 with (fail)
 obtain⟨W2,hW2,q2,hb2,hz2'⟩:=boxK w1 T;rw[←hW2];clear hW2;have Q2:=jh ((hb2.block _ (jE Q1.out)).trans Q1.out);have QT:=jh q2;have B2:=jh (jC B1.out hb2);have HZ2:=jh hz2';clear q2 hb2 hz2' Q1 B1;go_upto_region 3 with (fail)
 have BS:Hid (BSt w w1.heap.size W2.heap.size T (leastL T (l.take 0)) (W2.alloc (.map #[] 0))):=jh (by
  have hb3:Below W2.heap.size W2 (W2.alloc (.map #[] 0)):=(Below.refl _ _).alloc (Nat.le_refl _) _;have:=S1.out;have:=HZ2.out;exact⟨(hb3.block _ (jE Q2.out)).trans Q2.out,(hb3.block _ (jE QT.out)).trans QT.out,MapT.made W2,jC B2.out hb3,by omega,by omega,by omega⟩)
 clear Q2 QT B2 hmm;generalize W2.alloc (.map #[] 0)=W3 at BS ⊢;generalize w1.heap.size=tb at BS ⊢;generalize W2.heap.size=mb at BS ⊢;clear S1 HZ2;go_wp2_with fail;go_loopw [17] (fun i wr=>∃k:Nat,k≤n∧i=.int .i64 k∧Hid (BSt w tb mb T (leastL T (l.take k)) wr)∧Hid ((leastL T (l.take k)).length≤k)) (fun i _=>n - (intOf i).toNat)
 case atStart=>exact⟨0,by omega,rfl,BS,jh (by simp[leastL])⟩
 case round=>
  clear BS;obtain⟨k,hk,rfl,BS,HLN⟩:=hrel;by_cases hlt:k<n
  ·obtain⟨r,hr⟩:∃r,l[k]? =some r:=⟨_,List.getElem?_eq_getElem (by have:=HL.out;omega)⟩
   obtain⟨b,off,hsa,hP⟩:=HV.out lp;subst hsa;obtain⟨cs,_,hR,hc⟩:=hP k r hr;obtain⟨x0,x1,x2,x3,x4,x5,x6,x7⟩:=rk_cells hR hc;have x0:=(BS.out.bel.cell (jH x0)).trans x0;have x1:=(BS.out.bel.cell (jH x1)).trans x1;have x2:=(BS.out.bel.cell (jH x2)).trans x2;have x3:=(BS.out.bel.cell (jH x3)).trans x3;have x4:=(BS.out.bel.cell (jH x4)).trans x4;have x5:=(BS.out.bel.cell (jH x5)).trans x5;have x6:=(BS.out.bel.cell (jH x6)).trans x6;have x7:=(BS.out.bel.cell (jH x7)).trans x7;have AH:=jh (fun W=>ch_ahead r T W);have FO:=jh (HOK.out r (List.mem_of_getElem? hr));have j0:(0:Int)≤(k:Int):=by omega
   have j1:(k:Int)<(n:Int):=by omega
   have ST:=jh (leastL_step T hr);clear hP hR hc hr;go_upto_region 6 with (fail)
   obtain⟨W4,hW4,q4,hb4,_⟩:=boxK wr r;rw[←hW4];clear hW4 x0 x1 x2 x3 x4 x5 x6 x7;have BS4:=jh (BS.out.below hb4);obtain⟨x0,x1,x2,x3,x4,x5,x6,x7⟩:=rk_row q4;obtain⟨t0,t1,t2,t3,t4,t5,t6,t7⟩:=rk_row BS4.out.t;have QR:=jh q4;generalize wr.heap.size=rb at x0 x1 x2 x3 x4 x5 x6 x7 QR ⊢;clear q4 hb4 BS;by_cases h0:aheadI r T=0
   ·have ST2:Hid (leastL T (l.take (k+1))=match getL (leastL T (l.take k)) r.first with|none=>putL (leastL T (l.take k)) r.first r.med|some m=>if r.med<m then putL (leastL T (l.take k)) r.first r.med else leastL T (l.take k)):=jh (by rw[ST.out];unfold leastP;rw[if_pos h0]);have LN2:Hid ((leastL T (l.take (k+1))).length≤k+1):=jh (by rw[ST.out];have:=leastP_len T (leastL T (l.take k)) r;have:=HLN.out;omega);have HLM:Hid ((leastL T (l.take k)).length<maxLen):=jh (by unfold maxLen;have:=HLN.out;omega);rw[h0] at AH;clear h0 ST HLN;generalize leastL T (l.take k)=L at BS4 ST2 HLM;go_wp2_with fail;refine(AH.out _).mono ?_;rintro e w5 ⟨rfl,hb5⟩;have BS5:=jh (BS4.out.below hb5);have QR5:=jh ((hb5.block _ (jE QR.out)).trans QR.out);clear x0 x1 x2 x3 x4 x5 x6 x7 t0 t1 t2 t3 t4 t5 t6 t7 hb5 BS4 QR;obtain⟨x0,x1,x2,x3,x4,x5,x6,x7⟩:=rk_row QR5.out;have hl:=BS5.out.m.look int_enc Tryz.underlying246 r.first FO.out zero_int w5 rfl true;obtain⟨o,hs,hm⟩:=BS5.out.m.store int_enc Tryz.underlying246 r.first FO.out r.med HLM.out w5 rfl;cases hg:getL L r.first with
    |none=>
     rw[hg] at hl ST2;simp only[if_true,Option.map_none,Option.getD_none,Option.isSome_none,nV] at hl;simp only[nV] at hs;have BS6:=jh (BS5.out.put hm);have ST3:Hid (leastL T (l.take (k+1))=putL L r.first r.med):=jh ST2.out;rw[←ST3.out] at BS6;clear hg ST2 BS5 hm ST3;go_wp2_with fail;exact⟨⟨k+1,by omega,by go_num,BS6,LN2⟩,by simp[intOf];omega⟩
    |some m=>
     rw[hg] at hl ST2;simp only[if_true,Option.map_some,Option.getD_some,Option.isSome_some,nV] at hl;simp only[nV] at hs;by_cases hmm:r.med<m
     ·have BS6:=jh (BS5.out.put hm);have ST3:Hid (leastL T (l.take (k+1))=putL L r.first r.med):=jh (by rw[ST2.out];simp only[if_pos hmm]);rw[←ST3.out] at BS6;clear hg ST2 BS5 hm ST3;go_wp2_with fail;exact⟨⟨k+1,by omega,by go_num,BS6,LN2⟩,by simp[intOf];omega⟩
     ·have ST3:Hid (leastL T (l.take (k+1))=L):=jh (by rw[ST2.out];simp only[if_neg hmm]);rw[←ST3.out] at BS5;clear hg ST2 hm ST3 hs;go_wp2_with fail;exact⟨⟨k+1,by omega,by go_num,BS5,LN2⟩,by simp[intOf];omega⟩
   ·have ST2:Hid (leastL T (l.take (k+1))=leastL T (l.take k)):=jh (by rw[ST.out];unfold leastP;rw[if_neg h0]);have LN2:Hid ((leastL T (l.take (k+1))).length≤k+1):=jh (by rw[ST2.out];have:=HLN.out;omega);have n0:(aheadI r T !=0)=true:=by simpa using h0
    rw[←ST2.out] at BS4;clear h0 ST ST2 HLN;go_wp2_with fail;refine(AH.out _).mono ?_;rintro e w5 ⟨rfl,hb5⟩;have BS5:=jh (BS4.out.below hb5);have QR5:=jh ((hb5.block _ (jE QR.out)).trans QR.out);clear x0 x1 x2 x3 x4 x5 x6 x7 t0 t1 t2 t3 t4 t5 t6 t7 hb5 BS4 QR;obtain⟨x0,x1,x2,x3,x4,x5,x6,x7⟩:=rk_row QR5.out;go_wp2_with fail;exact⟨⟨k+1,by omega,by go_num,BS5,LN2⟩,by simp[intOf];omega⟩
  ·obtain rfl:n=k:=by omega
   rw[←HL.out,List.take_length] at BS;clear HLN;obtain⟨BW,hBW⟩:∃BW,BW=wr.heap.size:=⟨_,rfl⟩
   have G1:Hid (w.heap.size<BW∧tb<BW∧mb<BW):=jh (by rw[hBW];exact⟨jE BS.out.z,jE BS.out.t,BS.out.m.lt⟩);have G2:Hid (BW≤wr.heap.size):=jh (by rw[hBW];exact Nat.le_refl _);clear hBW;have ON:Hid (wr.ownsRow BW 200 8 (.slice none 0 0) (leftL T (leastL T l) (l.take 0)).length ((leftL T (leastL T l) (l.take 0)).flatMap rkL)):=jh ⟨by simp[leftL],.inl ⟨rfl,by simp[leftL]⟩⟩;generalize leastL T l=L at BS EB HNE ON;go_wp2_with fail;go_loopw [9,48] (fun o i wr=>∃k:Nat,k≤n∧i=.int .i64 k∧Hid (BSt w tb mb T L wr)∧Hid (wr.ownsRow BW 200 8 o (leftL T L (l.take k)).length ((leftL T L (l.take k)).flatMap rkL))∧Hid (BW≤wr.heap.size)∧Hid ((leftL T L (l.take k)).length≤k)) (fun _ i _=>n - (intOf i).toNat)
   case atStart=>exact⟨0,by omega,rfl,BS,ON,G2,jh (by simp[leftL])⟩
   case round=>
    clear BS ON G2;obtain⟨k,hk,rfl,BS,ON,G2,LK⟩:=hrel;by_cases hlt:k<n
    ·obtain⟨r,hr⟩:∃r,l[k]? =some r:=⟨_,List.getElem?_eq_getElem (by have:=HL.out;omega)⟩
     obtain⟨b,off,hsa,hP⟩:=HV.out lp;subst hsa;obtain⟨cs,_,hR,hc⟩:=hP k r hr;obtain⟨x0,x1,x2,x3,x4,x5,x6,x7⟩:=rk_cells hR hc;have x0:=(BS.out.bel.cell (jH x0)).trans x0;have x1:=(BS.out.bel.cell (jH x1)).trans x1;have x2:=(BS.out.bel.cell (jH x2)).trans x2;have x3:=(BS.out.bel.cell (jH x3)).trans x3;have x4:=(BS.out.bel.cell (jH x4)).trans x4;have x5:=(BS.out.bel.cell (jH x5)).trans x5;have x6:=(BS.out.bel.cell (jH x6)).trans x6;have x7:=(BS.out.bel.cell (jH x7)).trans x7;have AH:=jh (fun W=>ch_ahead r T W);have FO:=jh (HOK.out r (List.mem_of_getElem? hr));have j0:(0:Int)≤(k:Int):=by omega
     have j1:(k:Int)<(n:Int):=by omega
     have ST:=jh (leftL_step T L hr);clear hP hR hc hr;go_upto_region 15 with (fail)
     obtain⟨W4,hW4,q4,hb4,_⟩:=boxK wr r;rw[←hW4];clear hW4 x0 x1 x2 x3 x4 x5 x6 x7;have BS4:=jh (BS.out.below hb4);have ON4:=jh (jQ ON.out hb4);have G4:=jh (Nat.le_trans G2.out hb4.size);obtain⟨x0,x1,x2,x3,x4,x5,x6,x7⟩:=rk_row q4;obtain⟨t0,t1,t2,t3,t4,t5,t6,t7⟩:=rk_row BS4.out.t;have QR:=jh q4;generalize wr.heap.size=rb at x0 x1 x2 x3 x4 x5 x6 x7 QR ⊢;clear q4 hb4 BS ON G2;by_cases h0:aheadI r T=0
     ·have LB:Hid (leftB T L r=(r.med==(getL L r.first).getD 0)):=jh (by unfold leftB;rw[h0];rfl);rw[h0] at AH;clear h0;go_wp2_with fail;refine(AH.out _).mono ?_;rintro e w5 ⟨rfl,hb5⟩;have BS5:=jh (BS4.out.below hb5);have ON5:=jh (jQ ON4.out hb5);have G5:=jh (Nat.le_trans G4.out hb5.size);have QR5:=jh ((hb5.block _ (jE QR.out)).trans QR.out);clear x0 x1 x2 x3 x4 x5 x6 x7 t0 t1 t2 t3 t4 t5 t6 t7 hb5 BS4 ON4 G4 QR;obtain⟨x0,x1,x2,x3,x4,x5,x6,x7⟩:=rk_row QR5.out;have hl:=BS5.out.m.look int_enc Tryz.underlying246 r.first FO.out zero_int w5 rfl false;simp only[Bool.false_eq_true,if_false,look_val] at hl;generalize (getL L r.first).getD 0=mm at hl LB;by_cases hm:r.med=mm
      ·have zm:(r.med==mm)=true:=by simpa using hm
       have ST2:Hid (leftL T L (l.take (k+1))=leftL T L (l.take k)++[r]):=jh (by rw[ST.out,LB.out,zm];rfl);clear ST LB hm;go_wp2_with (at_builtin;refine wpList_append_own_at _ rfl _ _ 197 rfl BW 200 i0 _ 8 64 Tryz.underlying197 hi hz0 hz1 hz2 rfl (by decide) _ (leftL T L (l.take k)).length ((leftL T L (l.take k)).flatMap rkL) rfl (ON5.out.alloc _) ⟨w5.heap.size,0,none⟩ 1 1 (rkL r) rfl ?ar1 ?br1 ?cr1 ?dr1 ?er1 ?fr1 ?_)
       case ar1=>rfl
       case br1=>exact new_cells _ _ _
       case cr1=>exact rkL_one _
       case dr1=>have:=LK.out;unfold maxLen;omega
       case er1=>have:=LK.out;omega
       case fr1=>have:=G5.out;simp;omega
       intro v' w6 hown hgrow _ _;have LK2:Hid ((leftL T L (l.take (k+1))).length≤k+1):=jh (by rw[ST2.out,List.length_append];have:=LK.out;simp;omega);have O6:Hid (w6.ownsRow BW 200 8 v' (leftL T L (l.take (k+1))).length ((leftL T L (l.take (k+1))).flatMap rkL)):=jh (by rw[ST2.out,flat_snoc,List.length_append];exact hown);have hba:Below w5.heap.size w5 (w5.alloc (.cells (rkA r) 200)):=(Below.refl _ _).alloc (Nat.le_refl _) _;have BS6:=jh ((BS5.out.below hba).grown hgrow (jJ ON5.out) G1.out.1 G1.out.2.1 G1.out.2.2);have G6:Hid (BW≤w6.heap.size):=jh (by have:=hgrow.size;have:=G5.out;simp at*;omega);clear hown hgrow hba hl ON5 BS5 G5 ST2 LK;go_wp2_with fail;exact⟨⟨k+1,by omega,by go_num,BS6,O6,G6,LK2⟩,by simp[intOf];omega⟩
      ·have zm:(r.med==mm)=false:=by simpa using hm
       have ST2:Hid (leftL T L (l.take (k+1))=leftL T L (l.take k)):=jh (by rw[ST.out,LB.out,zm];simp);have LK2:Hid ((leftL T L (l.take (k+1))).length≤k+1):=jh (by rw[ST2.out];have:=LK.out;omega);rw[←ST2.out] at ON5;clear ST LB hm ST2 LK;go_wp2_with fail;exact⟨⟨k+1,by omega,by go_num,BS5,ON5,G5,LK2⟩,by simp[intOf];omega⟩
     ·have ST2:Hid (leftL T L (l.take (k+1))=leftL T L (l.take k)):=jh (by rw[ST.out];unfold leftB;rw[decide_eq_false h0];simp);have LK2:Hid ((leftL T L (l.take (k+1))).length≤k+1):=jh (by rw[ST2.out];have:=LK.out;omega);have n0:(aheadI r T==0)=false:=by simpa using h0
      rw[←ST2.out] at ON4;clear h0 ST ST2 LK;go_wp2_with fail;refine(AH.out _).mono ?_;rintro e w5 ⟨rfl,hb5⟩;have BS5:=jh (BS4.out.below hb5);have ON5:=jh (jQ ON4.out hb5);have G5:=jh (Nat.le_trans G4.out hb5.size);have QR5:=jh ((hb5.block _ (jE QR.out)).trans QR.out);clear x0 x1 x2 x3 x4 x5 x6 x7 t0 t1 t2 t3 t4 t5 t6 t7 hb5 BS4 ON4 G4 QR;obtain⟨x0,x1,x2,x3,x4,x5,x6,x7⟩:=rk_row QR5.out;go_wp2_with fail;exact⟨⟨k+1,by omega,by go_num,BS5,ON5,G5,LK2⟩,by simp[intOf];omega⟩
    ·obtain rfl:n=k:=by omega
     rw[←HL.out,List.take_length] at ON;clear LK;obtain⟨x,xs,hx⟩:∃x xs,leftL T L l=x::xs:=by
      cases hq:leftL T L l with
      |nil=>exact absurd hq HNE.out
      |cons x xs=>exact⟨x,xs,rfl⟩
     have ER:Hid (R=minBy behindI x xs):=jh (by rw[EB.out,hx]);have SL:=own_slat (C:=rkL) rkL_len ON.out;rw[hx] at SL;have MB:=jh (fun v h=>min_behind v x xs wr h);have SLH:=jh SL;clear EB HNE ON SL hx;go_wp2_with fail;refine(MB.out _ SLH.out).mono ?_;rintro e w7 ⟨rfl,hb7⟩;have BS7:=jh (BS.out.below hb7);clear hb7 SLH MB BS;go_wp2_with (refine st_row rfl 200 (.tmp 2) (.tmp 71) rfl w.heap.size rfl 200 rkZA (rkA (minBy behindI x xs)) rfl BS7.out.z (by kernel_rfl) rfl (rk_one _) ?_);refine bodyPost_ret (results_best _ _ w.heap.size (minBy behindI x xs) ?_ (setRow_heap _ _ _ _ _ _ BS7.out.z)) rfl ⟨by rw[ER.out],below_setRow BS7.out.bel (Nat.le_refl _) _⟩;rfl
end Go.Proofs.YtkoidahgbbabiaaGreat
