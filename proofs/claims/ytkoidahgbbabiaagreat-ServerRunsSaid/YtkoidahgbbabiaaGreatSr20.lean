/- Texts of one proof, one behind another. -/
import Derived.Test.YtkoidahgbbabiaaGreatSr19
import Derived.Test.YtkoidahgbbabiaaGreatSr14
import Derived.Test.YtkoidahgbbabiaaGreatSr1
set_option maxRecDepth 100000
set_option maxHeartbeats 100000000
namespace Go.Proofs.YtkoidahgbbabiaaGreat
open Go.RowKit
theorem cellB {B:Nat} {w w':World} {a:Addr} {v:Value} (h:w.cell? a=some v) (hb:Below B w w') (hl:a.block<B):w'.cell? a=some v:=by
 rw[World.cell?_of_block (hb.block a.block hl)];exact h
def saysR (R:Nat→Rts) (k:Nat) (p:Pf):Prop:=∃i,i<k∧(getL (R i) p).isSome=true
theorem saysR_succ {R:Nat→Rts} {k:Nat} (p:Pf):saysR R (k+1) p↔saysR R k p∨(getL (R k) p).isSome=true:=by
 constructor
 ·rintro⟨i,h1,h3⟩;rcases Nat.lt_or_ge i k with h|h
  ·exact .inl ⟨i,h,h3⟩
  ·obtain rfl:i=k:=by omega
   exact .inr h3
 ·rintro (⟨i,h1,h3⟩|h)
  ·exact⟨i,by omega,h3⟩
  ·exact⟨k,by omega,h⟩
def WNetsPost (R:Nat→Rts) (N:Nat) (W:World) (e:Ending) (w':World):Prop:=
 ∃(s:Option Addr) (c:Nat) (ps:List Pf),e=.returned (.slice s ps.length c)∧OwnPs w' W.heap.size (.slice s ps.length c) ps∧Srt ps∧(∀p,p∈ps↔saysR R N p)∧(∀p∈ps,RgtP p)∧ps.length≤4096∧Below W.heap.size W w'
section
variable {W:World} {rho:Nat→Role} {sg:Nat→Lc} {BB N:Nat} {most:Int} {R:Nat→Rts} {bl th:Nat→Bool} {L:Lw} {kl:List (List (Pf×BE))} {al:List (List (Pf×Bool))}
theorem LwM.room (h:LwM W rho sg BB N most R bl th L kl al) {k:Nat} (hk:k<N):(R k).length≤256:=by
 obtain⟨r,-,-,tb,M,E,hI,he⟩:=h.ribs hk;have r1:=hI.room;have r2:=hI.most1;have:(R k).length=E.length:=by rw[he];simp[rts]
 omega
theorem l_nets (h:LwM W rho sg BB N most R bl th L kl al) (hN:N≤16):Calls Tryz.prog 43 #[wdV N th L] W (WNetsPost R N W):=by
 have HS:=jh h;have N0:Hid (∀p,p∈([]:List Pf)↔saysR R 0 p):=jh (fun p=>by
  constructor
  ·intro hp;cases hp
  ·rintro⟨i,hi,-⟩;omega)
 clear h;go_enter Tryz.func43,Tryz.ntmps43;go_upto_region 1 with (fail)
 obtain⟨W0,hW0,q0,hB,-⟩:=box1 W (wdC N th L) 91;rw[←hW0];obtain⟨wb,hwb⟩:∃b,b=W.heap.size:=⟨_,rfl⟩
 rw[←hwb] at q0 ⊢;have x17:W0.cell? ⟨wb,17,none⟩=some (.slice (some ⟨L.rg,0,none⟩) N L.rc):=jB q0 17;have B0:=jh hB;clear hW0 q0 hB hwb;go_upto_region 2 with (fail)
 obtain⟨w1,hw1⟩:∃w1,w1=W0.alloc (.cells #[] 53):=⟨_,rfl⟩
 have O1:Hid (OwnPs w1 W.heap.size (.slice (some ⟨W0.heap.size,0,none⟩) 0 0) []):=jh (by rw[hw1];exact⟨own_base (own_made W0).1 B0.out.size,(own_made W0).2⟩);have hb1:Below W0.heap.size W0 w1:=by rw[hw1];exact(Below.refl _ _).alloc (Nat.le_refl _) _
 rw[←hw1];have B1:=jh (jC B0.out hb1);replace x17:=jA x17 hb1;clear hw1 hb1 B0;go_wp2_with fail;clear x17;go_loopw [3,14] (fun t3 t14 wr=>∃(k:Nat) (s3:Option Addr) (c3:Nat) (xs:List Pf),k≤N∧t14=.int .i64 k∧t3=.slice s3 xs.length c3∧Hid (OwnPs wr W.heap.size (.slice s3 xs.length c3) xs)∧Hid (∀p,p∈xs↔saysR R k p)∧Hid (Srt xs)∧Hid (∀p∈xs,RgtP p)∧Hid (xs.length≤k*256)∧Hid (Below W.heap.size W wr)) (fun _ t14 _=>N - (intOf t14).toNat)
 case atStart=>exact⟨0,_,0,[],by omega,rfl,rfl,O1,N0,jh List.Pairwise.nil,jh (fun p hp=>by cases hp),jh (by simp),B1⟩
 case round=>
  clear O1 N0 B1;obtain⟨k,s3,c3,xs,hk,rfl,rfl,OX,MX,SX,RX,LX,BX⟩:=hrel;by_cases hkl:k<N
  ·obtain⟨r,-,hcell,hrib⟩:=HS.out.ribs hkl;have r0:wr.cell? ⟨L.rg,k,none⟩=some (.pointer (some ⟨r,0,none⟩)):=jA hcell BX.out;have AL:=jh (ad_All wr (hrib.below BX.out));have RGT:Hid (∀p,(getL (R k) p).isSome=true→RgtP p):=jh (fun p hp=>by
    obtain⟨a,ha⟩:=Option.isSome_iff_exists.1 hp;exact HS.out.pf hkl ha)
   have R256:=jh (HS.out.room hkl);have k0:(0:Int)≤(k:Int):=by omega
   have k1:(k:Int)<(N:Int):=by omega
   have KL:=jh hkl;clear hcell hrib hk hkl;go_wp2_with fail;refine AL.out.mono ?_;rintro e w3 ⟨v,vs,rfl,re,up,rm,hb3⟩;have VR:vs.length≤256:=by
    have h1:=nodup_sub (vs.map (·.p)) ((R k).map (·.1)) (srt_nodup up) (fun p hp=>by
     obtain⟨a,ha⟩:=Option.isSome_iff_exists.1 ((rm p).1 hp);exact List.mem_map.2 ⟨_,getL_mem ha,rfl⟩)
    rw[List.length_map,List.length_map] at h1;have:=R256.out;omega
   have HAS:=jh re.has;have OR:=jh (own_base re.own BX.out.size);obtain⟨sv,cv,rfl,-⟩:=jV re.own;have RM:Hid (∀p,p∈vs.map (·.p)↔(getL (R k) p).isSome=true):=jh rm;have OX3:=jh (OX.out.below hb3);have B3:=jh (jC BX.out hb3);clear re up rm hb3 AL OX BX r0;go_wp2_with fail;go_loopw [3,21] (fun t3 t21 wz=>∃(z:Nat) (s4:Option Addr) (c4:Nat) (ys:List Pf),z≤vs.length∧t21=.int .i64 z∧t3=.slice s4 ys.length c4∧Hid (∀p,p∈ys↔p∈xs∨p∈(vs.take z).map (·.p))∧Hid (Srt ys)∧Hid (ys.length≤xs.length+z)∧Hid (OwnPs wz W.heap.size (.slice s4 ys.length c4) ys)∧Hid (wz.ownsRow W.heap.size 61 13 (.slice sv vs.length cv) vs.length (vs.flatMap (rtL k)))∧Hid (Below W.heap.size W wz)) (fun _ t21 _=>vs.length - (intOf t21).toNat)
   case atStart=>exact⟨0,s3,c3,xs,by omega,rfl,rfl,jh (by simp),SX,jh (by omega),OX3,OR,B3⟩
   case round=>
    clear OX3 OR B3;obtain⟨z,s4,c4,ys,hz,rfl,rfl,MY,SY,LY,OY,OR,BZ⟩:=hrel;by_cases hzl:z<vs.length
    ·obtain⟨x,hx⟩:∃x,vs[z]? =some x:=⟨_,List.getElem?_eq_getElem hzl⟩
     obtain⟨g',o',hsv,hrg⟩:=rt_at (own_slat (rtL_len k) OR.out) hx;subst hsv;have RG:=jh hrg;have XM:=List.mem_of_getElem? hx;have OKX:=jh (HAS.out x XM).2;have TZ:Hid (vs.take (z+1)=vs.take z++[x]):=jh (take_snoc hx);have YL:Hid (ys.length≤16*256):=jh (by
      have h1:=LY.out;have h2:=LX.out;have h3:=KL.out;have h4:=Nat.mul_le_mul_right 256 (show k+1≤16 by omega);omega)
     have z0:(0:Int)≤(z:Int):=by omega
     have z1:(z:Int)<(vs.length:Int):=by omega
     have ZL:=jh hzl;have V256:=jh VR;clear hx hrg XM hz hzl VR;go_wp2_with ((with_reducible refine jM (X:=.load 61 (.tmp 23)) ?_ ?_);(·rfl));unfold Halt;refine ldm_at (by rfl) 61 (.tmp 23) rfl g' (o'+z*13) rfl (rtL k x) _ RG.out Tryz.underlying61 rfl sz_rt ?_;go_wp2_with ((with_reducible refine jM (X:=.store 61 (.tmp 7) (.tmp 24)) ?_ ?_);(·rfl));unfold Halt;refine st_fresh rfl 61 (.tmp 7) (.tmp 24) rfl rfl _ (rtC k x.p x.v) rfl sz_rt rfl (rt_one _ _ _) ?_;obtain⟨w4,hw4,q4,hb4,-⟩:=box1 wr (rtC k x.p x.v) 61;rw[←hw4];obtain⟨pb,hpb⟩:∃pb,pb=wr.heap.size:=⟨_,rfl⟩
     rw[←hpb] at q4 ⊢;have E0:Hid (w4.cell? ⟨pb,1,none⟩=some (.int .u32 x.p.1)):=jh (jB q4 1);have E1:Hid (w4.cell? ⟨pb,2,none⟩=some (.int .i64 x.p.2)):=jh (jB q4 2);have OY4:=jh (OY.out.below hb4);have OR4:=jh (jQ OR.out hb4);have B4:=jh (jC BZ.out hb4);clear hw4 q4 hb4 hpb OY OR BZ;simp only[Act.put];obtain⟨p,hp⟩:∃p,x.p=p:=⟨_,rfl⟩
     rw[hp] at E0 E1 OKX;have TZM:Hid ((vs.take (z+1)).map (·.p)=(vs.take z).map (·.p)++[p]):=jh (by rw[TZ.out,List.map_append,←hp];rfl);clear hp TZ;obtain⟨M,hM⟩:∃M,ys.length=M:=⟨_,rfl⟩
     have HM:=jh hM;rw[hM] at LY YL OY4 ⊢;clear hM;go_upto_block 4 with (fail)
     go_cut [8] from 25 to 40 (fun s8 wx=>∃j:Nat,j≤M∧s8=.int .i64 j∧Hid (∀(i:Nat) q,i<j→ys[i]? =some q→plt q p)∧Hid (∀q,ys[j]? =some q→¬plt q p)∧Hid (Below w4.heap.size w4 wx))
     case first=>
      go_wp2_with fail;go_loopw [8] (fun t8 wq=>∃j:Nat,j≤M∧t8=.int .i64 j∧Hid (∀(i:Nat) q,i<j→ys[i]? =some q→plt q p)∧Hid (Below w4.heap.size w4 wq)) (fun t8 _=>M - (intOf t8).toNat)
      case atStart=>exact⟨0,by omega,rfl,jh (fun i q hi=>by omega),jh (Below.refl _ _)⟩
      case round=>
       obtain⟨j,hj,rfl,LE,BQ⟩:=hrel;by_cases hjm:j<M
       ·obtain⟨q,hq⟩:∃q,ys[j]? =some q:=⟨_,List.getElem?_eq_getElem (by rw[HM.out];exact hjm)⟩
        have OYQ:=OY4.out.below BQ.out;rw[←HM.out] at OYQ;obtain⟨g2,o2,d0',d1',hs4,⟨hpc,-⟩,p0,p1⟩:=ps_pair OYQ.at hq;injection hpc with q1 q2;injection q2 with q2 _;subst q1;subst q2;subst hs4;have HQ:=jh hq;have e0:=jA E0.out BQ.out;have e1:=jA E1.out BQ.out;have j0:(0:Int)≤(j:Int):=by omega
        have j1:(j:Int)<(M:Int):=by omega
        have d1:decide ((j:Int)<(M:Int))=true:=by simp;omega
        have d2:decide (j<M)=true:=by simp;omega
        obtain⟨c,hc⟩:∃c:Bool,decide (plt q p)=c:=⟨_,rfl⟩
        obtain⟨v,hv⟩:∃v,pcmp q p=v:=⟨_,rfl⟩
        have dv:decide (v<0)=c:=by
         rw[←hv,←hc];by_cases h:plt q p
         ·rw[decide_eq_true h,decide_eq_true (pcmp_lt.2 h)]
         ·rw[decide_eq_false h,decide_eq_false fun h2=>h (pcmp_lt.1 h2)]
        have CM:Hid (∀W,Calls Tryz.prog 22 #[.agg #[.int .u32 q.1,.int .i64 q.2],.agg #[.int .u32 p.1,.int .i64 p.2]] W fun e w'=>e=.returned (.int .i64 v)∧Below W.heap.size W w'):=jh (fun W=>by rw[←hv];exact ps_Cmp q p W);have HC:=jh hc;have HJ:=jh hjm;obtain⟨wz,hwz⟩:∃wz,wz=wr:=⟨_,rfl⟩
        rw[←hwz] at p0 p1 e0 e1 BQ ⊢;clear hq OYQ hc hv hwz hj hjm;go_upto_region 9 with (fail)
        go_cut [38] from 25 to 38 (fun s38 wx=>s38=.bool c∧Hid (Below wz.heap.size wz wx))
        case first=>
         refine wp_region_held_drew (S:=fun w'=>Below wz.heap.size wz w') (by kernel_rfl) ?_ (fun hHeld=>?_)
         ·exact(Below.refl _ _).drew
         generalize World.drew wz=wd at hHeld ⊢;refine qz 0 hHeld ?_;refine qz 1 hHeld ?_;refine qz 2 hHeld ?_;refine qz 3 hHeld ?_;refine qz 4 hHeld ?_;refine qz 5 hHeld ?_;refine qz 6 hHeld ?_;refine qz 7 hHeld ?_ (hy:=by intro w' hSw;have p0:=jA p0 hSw;have p1:=jA p1 hSw;have e0:=jA e0 hSw;have e1:=jA e1 hSw;(try clear hHeld);go_simp;try with_reducible rfl);refine qz 8 hHeld ?_ (hy:=by intro w' hSw;have p0:=jA p0 hSw;have p1:=jA p1 hSw;have e0:=jA e0 hSw;have e1:=jA e1 hSw;(try clear hHeld);go_simp;try with_reducible rfl);refine qz 9 hHeld ?_;refine qz 10 hHeld ?_ (hy:=by intro w' hSw;have p0:=jA p0 hSw;have p1:=jA p1 hSw;have e0:=jA e0 hSw;have e1:=jA e1 hSw;(try clear hHeld);go_simp;try with_reducible rfl);refine jr 11 fun K hK=>?_;(try clear hb);go_simp;(refine(CM.out _).mono ?_;rintro e w1 ⟨rfl,hb⟩);go_wp2_with fail;refine hK.out _ _ ?_ (fun hHeld=>?_);(·exact hHeld.trans (hb.mono hHeld.size));clear hK K;(try simp only[jz]);refine qz 12 hHeld ?_;refine qz 13 hHeld ?_;refine wpAnyH_done (by kernel_rfl) ?_ _;go_wp2_with fail;go_meet;exact⟨rfl,jh hHeld⟩
        case rest=>
         obtain⟨rfl,B6⟩:=hcut;obtain⟨w6,hw6⟩:∃w6:World,w6=wc:=⟨_,rfl⟩
         rw[←hw6] at B6 ⊢;have BQ6:=jh (jC BQ.out B6.out);clear hw6 B6 BQ p0 p1 e0 e1 d1 d2;rcases c with _|_
         ·have GE:Hid (∀q,ys[j]? =some q→¬plt q p):=jh (fun q' hq'=>by
           rw[HQ.out] at hq';injection hq' with hq';rw[←hq'];exact of_decide_eq_false HC.out)
          go_wp2_with fail;go_meet;exact⟨j,by have:=HJ.out;omega,rfl,LE,GE,BQ6⟩
         ·have LE2:Hid (∀(i:Nat) q,i<j+1→ys[i]? =some q→plt q p):=jh (fun i q' hi hq'=>by
           by_cases e:i=j
           ·subst e;rw[HQ.out] at hq';injection hq' with hq';rw[←hq'];exact of_decide_eq_true HC.out
           ·exact LE.out i q' (by omega) hq')
          have jw:IntKind.i64.wrap ((j:Int)+1)=((j+1:Nat):Int):=by
           have:=HJ.out;have:=YL.out;rw[IntWalk.i64_in _ (by omega)];omega
          go_wp2_with fail;exact⟨⟨j+1,by have:=HJ.out;omega,rfl,LE2,BQ6⟩,by have:=HJ.out;simp only[intOf];omega⟩
       ·obtain rfl:j=M:=by omega
        have d1:decide ((j:Int)<(j:Int))=false:=by simp
        have d2:decide (j<j)=false:=by simp
        have GE:Hid (∀q,ys[j]? =some q→¬plt q p):=jh (fun q' hq'=>by
         have:=(List.getElem?_eq_some_iff.1 hq').1;have:=HM.out;omega)
        obtain⟨wz,hwz⟩:∃wz,wz=wr:=⟨_,rfl⟩
        rw[←hwz] at BQ ⊢;clear hwz hj hjm;go_upto_region 9 with (fail)
        go_cut [38] from 25 to 38 (fun s38 wx=>s38=.bool false∧Hid (Below wz.heap.size wz wx))
        case first=>
         refine wp_region_held_drew (S:=fun w'=>Below wz.heap.size wz w') (by kernel_rfl) ?_ (fun hHeld=>?_)
         ·exact(Below.refl _ _).drew
         generalize World.drew wz=wd at hHeld ⊢;refine qz 0 hHeld ?_;refine qz 1 hHeld ?_;refine qz 2 hHeld ?_;refine qz 3 hHeld ?_;refine qz 4 hHeld ?_;refine rgn (i:=5) (atN rfl) (by kernel_rfl) (fun _ _ _ h=>h) ?_ hHeld ?_;(·rfl);(try simp only[jz]);refine rgn (i:=6) (atN rfl) (by kernel_rfl) (fun _ _ _ h=>h) ?_ hHeld ?_;(·rfl);(try simp only[jz]);refine rgn (i:=7) (atN rfl) (by kernel_rfl) (fun _ _ _ h=>h) ?_ hHeld ?_;(·rfl);(try simp only[jz]);refine rgn (i:=8) (atN rfl) (by kernel_rfl) (fun _ _ _ h=>h) ?_ hHeld ?_;(·rfl);(try simp only[jz]);refine rgn (i:=9) (atN rfl) (by kernel_rfl) (fun _ _ _ h=>h) ?_ hHeld ?_;(·rfl);(try simp only[jz]);refine rgn (i:=10) (atN rfl) (by kernel_rfl) (fun _ _ _ h=>h) ?_ hHeld ?_;(·rfl);(try simp only[jz]);refine rgn (i:=11) (atN rfl) (by kernel_rfl) (fun _ _ _ h=>h) ?_ hHeld ?_;(·rfl);(try simp only[jz]);refine rgn (i:=12) (atN rfl) (by kernel_rfl) (fun _ _ _ h=>h) ?_ hHeld ?_;(·rfl);(try simp only[jz]);refine qz 13 hHeld ?_;refine wpAnyH_done (by kernel_rfl) ?_ _;go_wp2_with fail;go_meet;exact⟨rfl,jh hHeld⟩
        case rest=>
         obtain⟨rfl,B6⟩:=hcut;obtain⟨w6,hw6⟩:∃w6:World,w6=wc:=⟨_,rfl⟩
         rw[←hw6] at B6 ⊢;have BQ6:=jh (jC BQ.out B6.out);clear hw6 B6 BQ d1 d2;go_wp2_with fail;go_meet;exact⟨j,by omega,rfl,LE,GE,BQ6⟩
     case rest=>
      obtain⟨j,hj,rfl,LE,GE,BQ⟩:=hcut;obtain⟨wq,hwq⟩:∃wq:World,wq=wc:=⟨_,rfl⟩
      rw[←hwq] at BQ ⊢;have OY5:=jh (OY4.out.below BQ.out);have OR5:=jh (jQ OR4.out BQ.out);have B5:=jh (jC B4.out BQ.out);have E05:=jh (jA E0.out BQ.out);have E15:=jh (jA E1.out BQ.out);have zw:IntKind.i64.wrap ((z:Int)+1)=((z+1:Nat):Int):=by
       have:=ZL.out;have:=V256.out;rw[IntWalk.i64_in _ (by omega)];omega
      clear hwq BQ OY4 OR4 B4 E0 E1;obtain⟨c,hc⟩:∃c:Bool,decide (ys[j]? =some p)=c:=⟨_,rfl⟩
      have HC:=jh hc;have HJ:=jh hj;clear hc;go_upto_region 11 with (fail)
      go_cut [53] from 41 to 53 (fun s53 wx=>s53=.bool c∧Hid (Below wq.heap.size wq wx))
      case first=>
       by_cases hjm:j<M
       ·obtain⟨q,hq⟩:∃q,ys[j]? =some q:=⟨_,List.getElem?_eq_getElem (by rw[HM.out];exact hjm)⟩
        have OYQ:=OY5.out;rw[←HM.out] at OYQ;obtain⟨g2,o2,d0',d1',hs4,⟨hpc,-⟩,p0,p1⟩:=ps_pair OYQ.at hq;injection hpc with q1 q2;injection q2 with q2 _;subst q1;subst q2;subst hs4;have e0:=E05.out;have e1:=E15.out;have j0:(0:Int)≤(j:Int):=by omega
        have j1:(j:Int)<(M:Int):=by omega
        have d1:decide ((j:Int)<(M:Int))=true:=by simp;omega
        have d2:decide (j<M)=true:=by simp;omega
        have ce:(q.1==p.1&&q.2==p.2)=c:=by
         rw[←HC.out,hq];by_cases h:q=p
         ·subst h;simp
         ·rw[decide_eq_false (by simpa using h)];rw[Bool.eq_false_iff];intro h2;simp at h2;exact h (Prod.ext h2.1 h2.2)
        clear hq OYQ hj hjm;refine wp_region_held_drew (S:=fun w'=>Below wq.heap.size wq w') (by kernel_rfl) ?_ (fun hHeld=>?_)
        ·exact(Below.refl _ _).drew
        generalize World.drew wq=wd at hHeld ⊢;refine qz 0 hHeld ?_;refine qz 1 hHeld ?_;refine qz 2 hHeld ?_;refine qz 3 hHeld ?_;refine qz 4 hHeld ?_;refine qz 5 hHeld ?_;refine qz 6 hHeld ?_;refine qz 7 hHeld ?_ (hy:=by intro w' hSw;have p0:=jA p0 hSw;have p1:=jA p1 hSw;have e0:=jA e0 hSw;have e1:=jA e1 hSw;(try clear hHeld);go_simp;try with_reducible rfl);refine qz 8 hHeld ?_ (hy:=by intro w' hSw;have p0:=jA p0 hSw;have p1:=jA p1 hSw;have e0:=jA e0 hSw;have e1:=jA e1 hSw;(try clear hHeld);go_simp;try with_reducible rfl);refine qz 9 hHeld ?_;refine qz 10 hHeld ?_ (hy:=by intro w' hSw;have p0:=jA p0 hSw;have p1:=jA p1 hSw;have e0:=jA e0 hSw;have e1:=jA e1 hSw;(try clear hHeld);go_simp;try with_reducible rfl);refine qz 11 hHeld ?_;refine qz 12 hHeld ?_;refine wpAnyH_done (by kernel_rfl) ?_ _;go_wp2_with fail;go_meet;exact⟨rfl,jh hHeld⟩
       ·obtain rfl:j=M:=by omega
        have d1:decide ((j:Int)<(j:Int))=false:=by simp
        have d2:decide (j<j)=false:=by simp
        have cf:c=false:=by
         rw[←HC.out];refine decide_eq_false fun h=>?_;have:=(List.getElem?_eq_some_iff.1 h).1;have:=HM.out;omega
        subst cf;clear hj hjm;refine wp_region_held_drew (S:=fun w'=>Below wq.heap.size wq w') (by kernel_rfl) ?_ (fun hHeld=>?_)
        ·exact(Below.refl _ _).drew
        generalize World.drew wq=wd at hHeld ⊢;refine qz 0 hHeld ?_;refine qz 1 hHeld ?_;refine qz 2 hHeld ?_;refine qz 3 hHeld ?_;refine qz 4 hHeld ?_;refine rgn (i:=5) (atN rfl) (by kernel_rfl) (fun _ _ _ h=>h) ?_ hHeld ?_;(·rfl);(try simp only[jz]);refine rgn (i:=6) (atN rfl) (by kernel_rfl) (fun _ _ _ h=>h) ?_ hHeld ?_;(·rfl);(try simp only[jz]);refine rgn (i:=7) (atN rfl) (by kernel_rfl) (fun _ _ _ h=>h) ?_ hHeld ?_;(·rfl);(try simp only[jz]);refine rgn (i:=8) (atN rfl) (by kernel_rfl) (fun _ _ _ h=>h) ?_ hHeld ?_;(·rfl);(try simp only[jz]);refine rgn (i:=9) (atN rfl) (by kernel_rfl) (fun _ _ _ h=>h) ?_ hHeld ?_;(·rfl);(try simp only[jz]);refine rgn (i:=10) (atN rfl) (by kernel_rfl) (fun _ _ _ h=>h) ?_ hHeld ?_;(·rfl);(try simp only[jz]);refine rgn (i:=11) (atN rfl) (by kernel_rfl) (fun _ _ _ h=>h) ?_ hHeld ?_;(·rfl);(try simp only[jz]);refine qz 12 hHeld ?_;refine wpAnyH_done (by kernel_rfl) ?_ _;go_wp2_with fail;go_meet;exact⟨rfl,jh hHeld⟩
      case rest=>
       obtain⟨rfl,B6⟩:=hcut;obtain⟨w6,hw6⟩:∃w6:World,w6=wc:=⟨_,rfl⟩
       rw[←hw6] at B6 ⊢;have OY6:=jh (OY5.out.below B6.out);have OR6:=jh (jQ OR5.out B6.out);have B06:=jh (jC B5.out B6.out);have e0:=jA E05.out B6.out;have e1:=jA E15.out B6.out;have PB6:Hid (pb<w6.heap.size):=jh (World.block_lt_of_cell? w6 ⟨pb,1,none⟩ e0);clear hw6 B6 OY5 OR5 B5 E05 E15 hj;rcases c with _|_
       ·have SY2:Hid (Srt (ys.take j++[p]++ys.drop j)):=jh (ins_srt SY.out LE.out fun q hq=>by
         by_cases h:plt p q
         ·exact h
         ·have e2:=plt_total (GE.out q hq) h;subst e2;exact absurd hq (of_decide_eq_false HC.out))
        have MY2:Hid (∀q,q∈ys.take j++[p]++ys.drop j↔q∈xs∨q∈(vs.take (z+1)).map (·.p)):=jh (fun q=>by
         rw[ins_mem,MY.out q,TZM.out,List.mem_append,List.mem_singleton,or_assoc])
        have LY2:Hid ((ys.take j++[p]++ys.drop j).length≤xs.length+(z+1)):=jh (by rw[ins_len,HM.out];have:=LY.out;omega);obtain⟨sa,ca,ra,pa⟩:=cut_to OY6.out.at HM.out HJ.out;obtain⟨sd,cd,rd,pd⟩:=cut_from OY6.out.at HM.out HJ.out;have RA:=jh (ra);have PA:=jh pa;have RD:=jh (rd);have PD:=jh pd;obtain⟨w7,hw7⟩:∃w7,w7=w6.alloc (.cells #[] 53):=⟨_,rfl⟩
        have OE:Hid (OwnPs w7 w6.heap.size (.slice (some ⟨w6.heap.size,0,none⟩) 0 0) []):=jh (by rw[hw7];exact own_made w6);have b67:Below w6.heap.size w6 w7:=by rw[hw7];exact(Below.refl _ _).alloc (Nat.le_refl _) _
        have B67:=jh b67;replace e0:=jA e0 b67;replace e1:=jA e1 b67;have S67:Hid (w6.heap.size≤w7.heap.size):=jh b67.size;have PBL:=PB6;have LA:Hid ((ys.take j).length=j):=jh (by rw[List.length_take];have:=HJ.out;have:=HM.out;omega);clear ra pa rd pd b67 OY6;go_wp2_with ((with_reducible refine jM (X:=.slice 23 (.tmp 55) none (some (.tmp 56)) none) ?_ ?_);(·rfl));unfold Halt;rw[←hw7];refine slcK_at rfl 23 (.tmp 55) none (some (.tmp 56)) rfl (RA.out w7) rfl rfl rfl ?_;clear hw7;go_wp2_with (at_builtin;refine wpList_app rfl (.tmp 54) (.tmp 57) rfl w6.heap.size _ _ [] (ys.take j) rfl rfl S67.out OE.out (PA.out.below B67.out) (by rw[LA.out];have:=HJ.out;have:=YL.out;simp;omega) ?_);intro v8 w8 o8 b8 _;obtain⟨s8,c8,hv8,-⟩:=jV o8.1;subst hv8;have B68:=jh (B67.out.trans b8);replace e0:=cellB e0 b8 PBL.out;replace e1:=cellB e1 b8 PBL.out;obtain⟨w9,hw9⟩:∃w9,w9=w8.alloc (.cells #[.int .u32 p.1,.int .i64 p.2] 53):=⟨_,rfl⟩
        have b89:Below w8.heap.size w8 w9:=by rw[hw9];exact(Below.refl _ _).alloc (Nat.le_refl _) _
        have PN:Hid (PsAt w9 (.slice (some ⟨w8.heap.size,0,none⟩) 1 1) [p]):=jh (by rw[hw9];exact psAt_new w8 p 53 OKX.out);have O9:=jh (o8.below b89);have B69:=jh (jC B68.out b89);have S69:Hid (w6.heap.size≤w9.heap.size):=jh B69.out.size;clear o8 b8 b89 OE PA RA B67 S67 B68;subst hw9;go_wp2_with (at_builtin;refine wpList_app rfl (.tmp 59) (.tmp 62) rfl w6.heap.size _ _ (ys.take j) [p] rfl rfl S69.out O9.out PN.out (by rw[LA.out];have:=HJ.out;have:=YL.out;simp;omega) ?_);intro v10 w10 o10 b10 _;obtain⟨s10,c10,hv10,-⟩:=jV o10.1;subst hv10;have O10:=jh o10;have B6x:=jh (B69.out.trans b10);have S6x:Hid (w6.heap.size≤w10.heap.size):=jh B6x.out.size;have PDx:=jh (PD.out.below B6x.out);clear o10 b10 PN O9 PD e0 e1 B69 S69;go_wp2_with ((with_reducible refine jM (X:=.slice 23 (.tmp 65) (some (.tmp 66)) none none) ?_ ?_);(·rfl));unfold Halt;refine slcK_at rfl 23 (.tmp 65) (some (.tmp 66)) none rfl (RD.out w10) rfl rfl rfl ?_;go_wp2_with (at_builtin;refine wpList_app rfl (.tmp 64) (.tmp 67) rfl w6.heap.size _ _ (ys.take j++[p]) (ys.drop j) rfl rfl S6x.out O10.out PDx.out (by have:=congrArg List.length (List.take_append_drop j ys);rw[List.length_append] at this ⊢;have:=HM.out;have:=YL.out;simp only[List.length_singleton];omega) ?_);intro v11 w11 o11 b11 _;have EQ:ys.take j++[p]++ys.drop j=ys.take j++p::ys.drop j:=by simp
        rw[EQ] at SY2 MY2 LY2;clear EQ;obtain⟨zs,hzs⟩:∃zs,ys.take j++p::ys.drop j=zs:=⟨_,rfl⟩
        rw[hzs] at SY2 MY2 LY2 o11;clear hzs;obtain⟨s11,c11,hv11,-⟩:=jV o11.1;subst hv11;have OYN:Hid (OwnPs w11 W.heap.size (.slice s11 zs.length c11) zs):=jh ⟨own_base o11.1 B06.out.size,o11.2⟩;have B6y:=jh (B6x.out.trans b11);have ORN:=jh (jQ OR6.out B6y.out);have BN:=jh (jC B06.out B6y.out);clear o11 b11 O10 PDx RD B6x B6y OR6 B06;go_wp2_with fail;exact⟨⟨z+1,s11,c11,zs,by have:=ZL.out;omega,rfl,rfl,MY2,SY2,LY2,OYN,ORN,BN⟩,by have:=ZL.out;simp only[intOf];omega⟩
       ·have MY2:Hid (∀q,q∈ys↔q∈xs∨q∈(vs.take (z+1)).map (·.p)):=jh (fun q=>by
         have hin:p∈ys:=List.mem_of_getElem? (of_decide_eq_true HC.out);rw[MY.out q,TZM.out,List.mem_append,List.mem_singleton,←or_assoc,←MY.out q];constructor
         ·exact .inl
         ·rintro (h|rfl)
          ·exact h
          ·exact hin)
        go_wp2_with fail;exact⟨⟨z+1,s4,c4,ys,by have:=ZL.out;omega,rfl,by rw[HM.out],MY2,SY,jh (by rw[HM.out];have:=LY.out;omega),jh (by rw[HM.out];exact OY6.out),OR6,B06⟩,by have:=ZL.out;simp only[intOf];omega⟩
    ·obtain rfl:z=vs.length:=by omega
     have TL:(vs.take vs.length).map (·.p)=vs.map (·.p):=by rw[List.take_length]
     have MN:Hid (∀p,p∈ys↔saysR R (k+1) p):=jh (fun p=>by
      rw[MY.out p,TL,MX.out p,RM.out p,saysR_succ])
     have RN:Hid (∀p∈ys,RgtP p):=jh (fun p hp=>by
      rw[MY.out p,TL] at hp;rcases hp with hp|hp
      ·exact RX.out p hp
      ·exact RGT.out p ((RM.out p).1 hp))
     have LN:Hid (ys.length≤(k+1)*256):=jh (by
      have:=LX.out;have:=LY.out;omega)
     have kw:IntKind.i64.wrap ((k:Int)+1)=((k+1:Nat):Int):=by
      have:=KL.out;rw[IntWalk.i64_in _ (by omega)];omega
     clear TL MY OR hz hzl;go_wp2_with fail;exact⟨⟨k+1,s4,c4,ys,by have:=KL.out;omega,rfl,rfl,OY,MN,SY,RN,LN,BZ⟩,by have:=KL.out;simp only[intOf];omega⟩
  ·obtain rfl:k=N:=by omega
   have X4:Hid (xs.length≤4096):=jh (by have h1:=LX.out;have h2:=Nat.mul_le_mul_right 256 hN;omega);clear hk hkl LX;go_wp2_with fail;go_ret;exact⟨_,_,xs,rfl,OX.out,SX.out,MX.out,RX.out,X4.out,BX.out⟩
end
open Go.RowKit
theorem results_wbest (tmps:Array Value) (W:World) (b:Nat) (C:Array Value) (hC:C.size=13) (c:Bool) (h4:tmps.getD 6 undef=.pointer (some ⟨b,0,none⟩)) (h5:tmps.getD 7 undef=.bool c) (hb:W.heap[b]? =some (.cells C 61 (0,0))):
  (results Tryz.f44 tmps).run Tryz.prog W=.ok (.tuple #[.agg C,.bool c]) W:=by
 have hl:=run_loadVar_row (P:=Tryz.prog) W b 61 61 C (0,0) _ hb Tryz.underlying61 rfl (by rw[hC];kernel_rfl);unfold results;rw[Tryz.results44];simp[h4,h5,hl,asAddr,-Array.getD_eq_getD_getElem?]
theorem box_wpr (w:World) (C:Array Value) (a n:Int):∃W0,W0=((w.alloc (.cells C 91)).alloc (.cells #[.int .u32 a,.int .i64 n] 53)).alloc (.cells #[.int .i64 0,.int .u32 0,.int .i64 0,.int .i64 0,.int .i64 0,.slice none 0 0,.int .u32 0,.int .i64 0,.int .i64 0,.int .i64 0,.int .u32 0,.slice none 0 0,.slice none 0 0] 61)∧W0.heap[w.heap.size]? =some (.cells C 91 (0,0))∧
  W0.cell? ⟨w.heap.size+1,0,none⟩=some (.int .u32 a)∧W0.cell? ⟨w.heap.size+1,1,none⟩=some (.int .i64 n)∧W0.heap[w.heap.size+2]? =some (.cells (rtC 0 (0,0) av0) 61 (0,0))∧Below w.heap.size w W0:=by
 obtain⟨W1,hW1,q0,q1,hB⟩:=boxTwo w C 91 #[.int .u32 a,.int .i64 n] 53;have hz:W1.heap.size=w.heap.size+2:=by rw[hW1];simp
 have hb2:Below W1.heap.size W1 (W1.alloc (.cells #[.int .i64 0,.int .u32 0,.int .i64 0,.int .i64 0,.int .i64 0,.slice none 0 0,.int .u32 0,.int .i64 0,.int .i64 0,.int .i64 0,.int .u32 0,.slice none 0 0,.slice none 0 0] 61)):=(Below.refl _ _).alloc (Nat.le_refl _) _;refine⟨_,rfl,?_,?_,?_,?_,?_⟩
 ·rw[←hW1];exact(hb2.block _ (jE q0)).trans q0
 ·rw[←hW1];exact jA (jB q1 0) hb2
 ·rw[←hW1];exact jA (jB q1 1) hb2
 ·rw[←hW1,←hz];exact heap_alloc_new W1 _
 ·rw[←hW1];exact jC hB hb2
theorem sz_world:(Tryz.prog.info? 91).map (·.size)=some 21:=by kernel_rfl
def BestW (b:Option (Int×At)) (p:Pf) (W:World) (e:Ending) (w':World):Prop:=
 (b=none∧e=.returned (.tuple #[.agg (rtC 0 (0,0) av0),.bool false])∧Below W.heap.size W w')∨
 ∃(peer:Int) (a:At) (u:AV),b=some (peer,a)∧e=.returned (.tuple #[.agg (rtC peer p u),.bool true])∧Fresh W.heap.size w' (fun W=>AvAt W a u)∧Below W.heap.size W w'
theorem cv_route {W:World} {g o:Nat} {x:CV} {p:Pf} (h:W.rangeAt g o (cvL x)) (h1:(x.c.na:Int)=p.1) (h2:x.c.nl=p.2):W.rangeAt g o (rtC x.c.peer p x.v).toList:=by
 intro j v hv;have hj:j<13:=(List.getElem?_eq_some_iff.1 hv).1;refine h j v ?_;rw[←hv];obtain⟨a,n⟩:=p;simp only at h1 h2;subst h1;subst h2
 match j,hj with
 |0,_=>rfl
 |1,_=>rfl
 |2,_=>rfl
 |3,_=>rfl
 |4,_=>rfl
 |5,_=>rfl
 |6,_=>rfl
 |7,_=>rfl
 |8,_=>rfl
 |9,_=>rfl
 |10,_=>rfl
 |11,_=>rfl
 |12,_=>rfl
section
variable {W:World} {rho:Nat→Role} {sg:Nat→Lc} {BB N:Nat} {most:Int} {R:Nat→Rts} {bl th:Nat→Bool} {L:Lw} {kl:List (List (Pf×BE))} {al:List (List (Pf×Bool))}
theorem l_wbest (h:LwM W rho sg BB N most R bl th L kl al) (hN:N≤16) {rc:Nat} (hrc:rc<N) (p:Pf) (hp:OkP p) (hG:∀(i:Nat) (p:Pf) (a:At),i<N→getL (R i) p=some a→GoodA a):
  Calls Tryz.prog 44 #[wdV N th L,.int .i64 rc,.agg #[.int .u32 p.1,.int .i64 p.2]] W (BestW (pickB (wof R th bl rc p N)) p W):=by
 have OFF:=jh (fun w' (hb:Below W.heap.size W w')=>l_offers (h.below hb) hN hrc p hp);have OKS:Hid (∀c∈wof R th bl rc p N,OkC c):=jh (h.wofOk hN hG (Nat.le_refl _));have WN:Hid (∀c∈wof R th bl rc p N,(c.na:Int)=p.1∧c.nl=p.2):=jh (fun c hc=>by
  obtain⟨i,a,-,-,-,rfl⟩:=wof_mem hc;obtain⟨pn,hpn⟩:=Int.eq_ofNat_of_zero_le hp.1;unfold cdOf;simp only;rw[hpn];exact⟨rfl,trivial⟩)
 have WL:=jh (wof_len R th bl rc p N);obtain⟨l,hl⟩:∃l,wof R th bl rc p N=l:=⟨_,rfl⟩
 rw[hl] at OFF OKS WN WL ⊢;clear h hp hl hG;go_enter Tryz.func44,Tryz.ntmps44;go_upto_region 1 with (fail)
 obtain⟨W0,hW0,q0,p0,p1,rz,hB⟩:=box_wpr W (wdC N th L) p.1 p.2;rw[←hW0];have RZ:=jh rz;have B0:=jh hB;have LT:Hid (W.heap.size+2<W0.heap.size):=jh (jE rz);have OF0:=jh (OFF.out W0 hB);obtain⟨wb,hwb⟩:∃b,b=W.heap.size:=⟨_,rfl⟩
 rw[←hwb] at q0 p0 p1 RZ LT ⊢;have WBE:=jh hwb;have Q0:=jh q0;clear hW0 hB rz hwb OFF q0;go_wp2_with ((with_reducible refine jM (X:=.load 91 (.tmp 3)) ?_ ?_);(·rfl));unfold Halt;refine ld_at (by rfl) 91 (.tmp 3) rfl wb rfl 91 (wdC N th L) (0,0) _ Q0.out Tryz.underlying91 rfl sz_world ?_;go_wp2_with fail;refine OF0.out.mono ?_;rintro e w1 ⟨s,c,xs,A,rfl,oc,xe,hb1⟩;have XL:Hid (xs.length≤N):=jh (by have:=congrArg List.length xe;rw[List.length_map] at this;have:=WL.out;omega);have OKX:Hid (∀x∈xs,OkC x.c):=jh (fun x hx=>OKS.out _ (by rw[←xe];exact List.mem_map.2 ⟨x,hx,rfl⟩));have CB:=jh (ch_Best _ (xs.map (·.c)) w1 (oc.at.cds OKX.out) (by rw[List.length_map];have:=XL.out;omega) (fun c hc=>by
  obtain⟨x,hx,rfl⟩:=List.mem_map.1 hc;exact(OKX.out x hx).2.2.2.2.hops))
 have OC:=jh oc;have XE:=jh xe;have B1:=jh (jC B0.out hb1);have RZ1:=jh ((hb1.block _ (by have:=LT.out;omega)).trans RZ.out);clear oc hb1 OF0 p0 p1 xe;go_wp2_with fail;refine CB.out.mono ?_;rintro e w2 ⟨rfl,hb2⟩;have B2:=jh (jC B1.out hb2);have RZ2:=jh ((hb2.block _ (jE RZ1.out)).trans RZ1.out);have OC2:=jh (OC.out.below hb2);clear hb2 CB OC RZ1 B1;rcases xs with _|⟨x0,xr⟩
 ·have PN:Hid (pickB l=none):=jh (pickB_none.2 (by rw[←XE.out];rfl));have ez:bestI (([]:List CV).map (·.c))= -1:=rfl;rw[ez];go_wp2_with ((with_reducible refine jM (X:=.store 61 (.tmp 6) (.tmp 18)) ?_ ?_);(·rfl));unfold Halt;refine st_row rfl 61 _ _ rfl (wb+2) rfl 61 (rtC 0 (0,0) av0) (rtC 0 (0,0) av0) rfl RZ2.out (by kernel_rfl) rfl (rt_one _ _ _) ?_;go_wp2_with fail;refine bodyPost_ret (results_wbest _ _ (wb+2) (rtC 0 (0,0) av0) rfl false ?_ ?_ (setRow_heap _ _ _ _ _ _ RZ2.out)) rfl (.inl ⟨PN.out,rfl,below_setRow B2.out (by have:=WBE.out;omega) _⟩)<;>rfl
 ·obtain⟨xs,hxs⟩:∃xs,x0::xr=xs:=⟨_,rfl⟩
  have hne:xs.map (·.c)≠[]:=by rw[←hxs];simp
  rw[hxs] at XE OC2 XL OKX ⊢;obtain⟨i,c0,h1,h2,h3⟩:=pickB_some hne;rw[List.getElem?_map] at h1;obtain⟨y,hy,hyc⟩:∃y,xs[i]? =some y∧y.c=c0:=by
   cases hx:xs[i]? with
   |none=>rw[hx] at h1;cases h1
   |some y=>rw[hx] at h1;injection h1 with h1;exact⟨y,rfl,h1⟩
  subst hyc;have PS:Hid (pickB l=some (y.c.peer,y.c.a)):=jh (by rw[←XE.out];exact h3);rw[h2];obtain⟨g,o,rfl,hr,hav⟩:=cvs_at OC2.out.at hy;have hym:=List.mem_of_getElem? hy;have hyl:y.c∈l:=by rw[←XE.out];exact List.mem_map.2 ⟨y,hym,rfl⟩
  have RG:=jh (cv_route hr (WN.out _ hyl).1 (WN.out _ hyl).2);have FU:Hid (Fresh W0.heap.size w2 (fun W=>AvAt W y.c.a y.v)):=jh (OC2.out.fresh.imp fun _ h=>h.2 y hym);have i0:(0:Int)≤(i:Int):=by omega
  have i1:(i:Int)<(xs.length:Int):=by have:=(List.getElem?_eq_some_iff.1 hy).1;omega
  have dz:decide ((i:Int)<0)=false:=by simp
  clear hxs hne h1 h2 h3 hy hr hav hym hyl XE OC2 XL OKX OKS WN WL;go_wp2_with ((with_reducible refine jM (X:=.load 61 (.tmp 22)) ?_ ?_);(·rfl));unfold Halt;refine ldm_at (by rfl) 61 (.tmp 22) rfl g (o+i*14) rfl (rtC y.c.peer p y.v).toList _ RG.out Tryz.underlying61 rfl sz_rt ?_;go_wp2_with ((with_reducible refine jM (X:=.store 61 (.tmp 6) (.tmp 23)) ?_ ?_);(·rfl));unfold Halt;refine st_row rfl 61 _ _ rfl (wb+2) rfl 61 (rtC 0 (0,0) av0) (rtC y.c.peer p y.v) rfl RZ2.out (by kernel_rfl) rfl (rt_one _ _ _) ?_;have HK:=jh (kept_setRow (w:=w2) (F:=fun k=>k=wb+2) (wb+2) (rtC y.c.peer p y.v) rfl);have FV:Hid (Fresh W.heap.size (w2.setRow (wb+2) (rtC y.c.peer p y.v)) (fun W=>AvAt W y.c.a y.v)):=jh ((FU.out.kept HK.out (fun k hk _ e=>by have:=LT.out;omega)).wide (fun k hk _=>Nat.le_trans B0.out.size hk));go_wp2_with fail;refine bodyPost_ret (results_wbest _ _ (wb+2) (rtC y.c.peer p y.v) rfl true ?_ ?_ (setRow_heap _ _ _ _ _ _ RZ2.out)) rfl (.inr ⟨y.c.peer,y.c.a,y.v,PS.out,rfl,FV.out,below_setRow B2.out (by have:=WBE.out;omega) _⟩)<;>rfl
end
open Go.RowKit
theorem info_ribP:(Tryz.prog.info? 93).map (fun i=>(i.zero,i.size,i.bytes))=some (some (.pointer none),1,8):=by kernel_rfl
theorem info_mapPB:(Tryz.prog.info? 51).map (fun i=>(i.zero,i.size,i.bytes))=some (some (.map none),1,8):=by kernel_rfl
theorem rb_one (b:Nat):∀u∈[rbV b],u.oneCell'=true:=by
 intro u hu;rw[List.mem_singleton.1 hu];rfl
abbrev bgC (N kb:Nat) (v1 v2 v3:Value):Array Value:=#[.int .i64 N,.bool false,.bool false,.bool false,.bool false,.bool false,.bool false,.bool false,.bool false,.bool false,.bool false,.bool false,.bool false,.bool false,.bool false,.bool false,.bool false,
 v1,.map (some kb),v2,v3]
structure MadeB (W:World) (B:Nat) (v:Value) (bs:List Nat):Prop where
 own:W.ownsRow B 51 1 v bs.length (bs.map mpV)
 map:∀b∈bs,MapT pfV marV KOk W b ([]:List (Pf×Bool))∧B≤b∧v.ownBlock≠some b
 nd:bs.Nodup
theorem MadeB.kept {W W':World} {B:Nat} {v:Value} {bs:List Nat} {G:Nat→Prop} (h:MadeB W B v bs) (hk:Kept G W W') (h1:∀g,v.ownBlock=some g→¬G g) (h2:∀b∈bs,¬G b):MadeB W' B v bs:=
 ⟨((own_on h.own).kept hk fun k _ e=>h1 k e).self,fun b hm=>⟨(h.map b hm).1.kept hk (h2 b hm),(h.map b hm).2⟩,h.nd⟩
theorem MadeM.kept {W W':World} {B:Nat} {v:Value} {bs:List Nat} {G:Nat→Prop} (h:MadeM W B v bs) (hk:Kept G W W') (h1:∀g,v.ownBlock=some g→¬G g) (h2:∀b∈bs,¬G b):MadeM W' B v bs:=
 ⟨((own_on h.own).kept hk fun k _ e=>h1 k e).self,fun b hm=>⟨(h.map b hm).1.kept hk (h2 b hm),(h.map b hm).2⟩,h.nd⟩
theorem MadeB.below {W W':World} {B:Nat} {v:Value} {bs:List Nat} (h:MadeB W B v bs) (hb:Below W.heap.size W W'):MadeB W' B v bs:=
 ⟨jQ h.own hb,fun b hm=>⟨(h.map b hm).1.below hb,(h.map b hm).2⟩,h.nd⟩
theorem MadeB.more {W W1 W2:World} {B:Nat} {v v':Value} {bs:List Nat} (h:MadeB W B v bs) (hB:B≤W.heap.size) (hb:Below W.heap.size W W1) (hm:MapT pfV marV KOk W1 W.heap.size ([]:List (Pf×Bool)))
  (ho:W2.ownsRow B 51 1 v' (bs.length+1) (bs.map mpV++[mpV W.heap.size])) (hk:Kept (fun b=>v.ownBlock=some b) W1 W2) (hat:v'.ownBlock=v.ownBlock∨v'.ownBlock=some W1.heap.size):MadeB W2 B v' (bs++[W.heap.size]):=by
 have ol:=own_lt h.own;have hm1:=hm.lt;refine⟨by simpa using ho,fun b hmem=>?_,?_⟩
 ·rcases List.mem_append.1 hmem with hmem|hmem
  ·obtain⟨m1,m2,m3⟩:=h.map b hmem;have:=m1.lt;refine⟨(m1.below hb).kept hk m3,m2,fun e=>?_⟩;rcases hat with e2|e2
   ·exact m3 (e2.symm.trans e)
   ·rw[e2] at e;injection e with e;have:=hb.size;omega
  ·rw[List.mem_singleton] at hmem;subst hmem;refine⟨hm.kept hk fun e=>?_,hB,fun e=>?_⟩
   ·have:=ol _ e;omega
   ·rcases hat with e2|e2
    ·rw[e2] at e;have:=ol _ e;omega
    ·rw[e2] at e;injection e with e;omega
 ·rw[List.nodup_append];refine⟨h.nd,by simp,fun a ha b hb' e=>?_⟩;rw[List.mem_singleton] at hb';have:=(h.map a ha).1.lt;omega
structure BgI (W:World) (sg:Nat→Lc) (B wb kb N:Nat) (most:Int) (v1 v2 v3:Value) (rbs tbs abs:List Nat):Prop where
 dom:∀k,sg k≠.no→B≤k∧k<W.heap.size
 top:W.heap[wb]? =some (.cells (bgC N kb v1 v2 v3) 91 (0,0))
 rwb:sg wb=.top
 blk:BlkT W kb []
 rkb:sg kb=.blk
 row:W.ownsRow B 93 1 v1 rbs.length (rbs.map rbV)
 rr:∀g,v1.ownBlock=some g→sg g=.row
 rib:∀(i r:Nat),rbs[i]? =some r→RibAt W r i 65000 most [] (fun k=>sg k=.rib i)
 told:MadeM W B v2 tbs
 rt:(∀g,v2.ownBlock=some g→sg g=.told)∧∀b∈tbs,sg b=.told
 again:MadeB W B v3 abs
 ra:(∀g,v3.ownBlock=some g→sg g=.again)∧∀b∈abs,sg b=.again
section
variable {W W1:World} {sg sg':Nat→Lc} {B wb kb N:Nat} {most:Int} {v1 v2 v3:Value} {rbs tbs abs:List Nat}
theorem BgI.keep (h:BgI W sg B wb kb N most v1 v2 v3 rbs tbs abs) {G:Nat→Prop} (hk:Kept G W W1) (c d:Lc) (hG:∀k,k<W.heap.size→G k→sg k=c∨sg k=d∨sg k=.no) (hs:∀k,k<W.heap.size→sg' k=sg k):
  (c≠.blk→d≠.blk→BlkT W1 kb [])∧(c≠.row→d≠.row→W1.ownsRow B 93 1 v1 rbs.length (rbs.map rbV))∧(∀g,v1.ownBlock=some g→sg' g=.row)∧
  (∀(i r:Nat),c≠.rib i→d≠.rib i→rbs[i]? =some r→RibAt W1 r i 65000 most [] (fun k=>sg' k=.rib i))∧
  (c≠.told→d≠.told→MadeM W1 B v2 tbs)∧((∀g,v2.ownBlock=some g→sg' g=.told)∧∀b∈tbs,sg' b=.told)∧(c≠.again→d≠.again→MadeB W1 B v3 abs)∧((∀g,v3.ownBlock=some g→sg' g=.again)∧∀b∈abs,sg' b=.again)∧sg' wb=.top∧sg' kb=.blk:=by
 have hno:∀k c',sg k=c'→c'≠.no→c≠c'→d≠c'→¬G k:=fun k c' e hn hc hd hg=>by
  rcases hG k (h.dom k (by rw[e];exact hn)).2 hg with e2|e2|e2
  ·exact hc (e2.symm.trans e)
  ·exact hd (e2.symm.trans e)
  ·exact hn (e.symm.trans e2)
 have ol:∀k c',sg k=c'→c'≠.no→sg' k=c':=fun k c' e hn=>(hs k (h.dom k (by rw[e];exact hn)).2).trans e;refine⟨fun hc hd=>h.blk.kept hk (hno _ _ h.rkb (by decide) hc hd),fun hc hd=>((own_on h.row).kept hk fun k _ e=>hno _ _ (h.rr k e) (by decide) hc hd).self,fun g hg=>ol _ _ (h.rr g hg) (by decide),fun i r hc hd hr=>?_,
  fun hc hd=>h.told.kept hk (fun g hg=>hno _ _ (h.rt.1 g hg) (by decide) hc hd) (fun b hb=>hno _ _ (h.rt.2 b hb) (by decide) hc hd),⟨fun g hg=>ol _ _ (h.rt.1 g hg) (by decide),fun b hb=>ol _ _ (h.rt.2 b hb) (by decide)⟩,
  fun hc hd=>h.again.kept hk (fun g hg=>hno _ _ (h.ra.1 g hg) (by decide) hc hd) (fun b hb=>hno _ _ (h.ra.2 b hb) (by decide) hc hd),⟨fun g hg=>ol _ _ (h.ra.1 g hg) (by decide),fun b hb=>ol _ _ (h.ra.2 b hb) (by decide)⟩,ol _ _ h.rwb (by decide),ol _ _ h.rkb (by decide)⟩
 refine RibAt.wide (F:=fun k=>sg k=.rib i∧k<W.heap.size) ?_ fun k hk'=>(hs k hk'.2).trans hk'.1;have hl:∀k,sg k=.rib i→k<W.heap.size:=fun k e=>(h.dom k (by rw[e];intro e;cases e)).2;obtain⟨tb,M,E,h1,h2⟩:=(h.rib i r hr).kept hk fun k _ hF=>hno k _ hF (by intro e;cases e) hc hd;refine⟨tb,M,E,?_,h2⟩;exact⟨h1.row,h1.tri,h1.rgt,h1.szs,h1.ent,⟨h1.frb,hl _ h1.frb⟩,fun b hb=>⟨h1.ftr b hb,hl _ (h1.ftr b hb)⟩,fun e he k h3 h4=>⟨h1.fen e he k h3 h4,hl _ (h1.fen e he k h3 h4)⟩,h1.apr,h1.apn,h1.most0,h1.most1,h1.room⟩
theorem BgI.below (h:BgI W sg B wb kb N most v1 v2 v3 rbs tbs abs) (hb:Below W.heap.size W W1):BgI W1 sg B wb kb N most v1 v2 v3 rbs tbs abs:=by
 have hk:Kept (fun _=>False) W W1:=Kept.of_below hb;obtain⟨k1,k2,k3,k4,k5,k6,k7,k8,k9,k10⟩:=h.keep (sg':=sg) hk .no .no (fun k _ hf=>hf.elim) fun _ _=>rfl;exact⟨fun k hk'=>⟨(h.dom k hk').1,Nat.lt_of_lt_of_le (h.dom k hk').2 hb.size⟩,(hb.block _ (jE h.top)).trans h.top,k9,k1 (by decide) (by decide),k10,k2 (by decide) (by decide),k3,fun i r=>k4 i r (by intro e;cases e) (by intro e;cases e),k5 (by decide) (by decide),k6,k7 (by decide) (by decide),k8⟩
theorem bg_kept {W W2 W3:World} {v1 v':Value} {wb i:Nat} (b02:Below W.heap.size W W2) (hg:W2.grownBy W3 v1.ownBlock):Kept (fun q=>v1.ownBlock=some q∨q=wb) W (W3.setCell ⟨wb,i,none⟩ v'):=by
 have k1:Kept (fun q=>v1.ownBlock=some q∨q=wb) W W2:=Kept.of_below b02;exact(k1.trans ((kept_gr hg).imp fun _ e=>.inl e)).trans ((Kept.setCell (F:=fun q=>q=wb) _ _ rfl).imp fun _ e=>.inr e)
theorem bg_top {W W2 W3:World} {v1:Value} {wb:Nat} {o:Obj} (b02:Below W.heap.size W W2) (hg:W2.grownBy W3 v1.ownBlock) (h:W.heap[wb]? =some o) (hn:v1.ownBlock≠some wb):W3.heap[wb]? =some o:=by
 have hl:wb<W.heap.size:=(Array.getElem?_eq_some_iff.1 h).1;have:=b02.size;exact((kept_gr hg).block wb (by omega) hn).trans ((b02.block wb hl).trans h)
theorem bg_lt {W3:World} {v':Value} {B n:Nat} {T:TypeId} {xs:List Value} (hown:W3.ownsRow B T 1 v' n xs) {q:Nat} (hq:v'.ownBlock=some q):B≤q∧q<W3.heap.size:=⟨jJ hown q hq,own_lt hown q hq⟩
theorem BgI.addRib {W2 W3:World} {v':Value} {rb:Nat} (h:BgI W sg B wb kb N most v1 v2 v3 rbs tbs abs) (hB:B≤W.heap.size) (b01:Below W.heap.size W W1) (hr:RibAt W1 rb rbs.length 65000 most [] (fun q=>W.heap.size≤q∧q<W1.heap.size)) (b12:Below W1.heap.size W1 W2)
  (hown:W3.ownsRow B 93 1 v' (rbs.length+1) (rbs.map rbV++[rbV rb])) (hg:W2.grownBy W3 v1.ownBlock) (hat:v'.ownBlock=v1.ownBlock∨v'.ownBlock=some W2.heap.size):
  ∃sg',BgI (W3.setCell ⟨wb,17,none⟩ v') sg' B wb kb N most v' v2 v3 (rbs++[rb]) tbs abs∧∀k,k<W.heap.size→sg' k=sg k:=by
 classical
 have b02:=jC b01 b12;have s1:=b01.size;have s2:=b12.size;have hk:=bg_kept (wb:=wb) (i:=17) (v':=v') b02 hg;have wl:=jE h.top;have ol:=own_lt h.row;have s3:=hg.size;obtain⟨sg',hsg⟩:∃sg':Nat→Lc,sg'=fun q=>if q<W.heap.size then sg q else if q<W1.heap.size then .rib rbs.length else if v'.ownBlock=some q then .row else .no:=⟨_,rfl⟩
 have hs:∀k,k<W.heap.size→sg' k=sg k:=fun k hl=>by rw[hsg];simp only;rw[if_pos hl]
 have hn1:∀k,W.heap.size≤k→k<W1.heap.size→sg' k=.rib rbs.length:=fun k h1 h2=>by rw[hsg];simp only;rw[if_neg (by omega),if_pos h2]
 have hn2:∀k,W1.heap.size≤k→v'.ownBlock=some k→sg' k=.row:=fun k h1 h2=>by rw[hsg];simp only;rw[if_neg (by omega),if_neg (by omega),if_pos h2]
 have wne:v1.ownBlock≠some wb:=fun e=>by have h1:=h.rr wb e;rw[h.rwb] at h1;cases h1
 have wne':∀q,v'.ownBlock=some q→q≠wb:=fun q hq e=>by
  rcases hat with e2|e2
  ·rw[e2] at hq;rw[e] at hq;exact wne hq
  ·rw[e2] at hq;injection hq with hq;omega
 have hrow:∀q,v'.ownBlock=some q→sg' q=.row:=fun q hq=>by
  rcases hat with e|e
  ·rw[e] at hq;exact(hs q (ol q hq)).trans (h.rr q hq)
  ·rw[e] at hq;injection hq with hq;exact hn2 q (by omega) (by rw[e,hq])
 obtain⟨k1,k2,k3,k4,k5,k6,k7,k8,k9,k10⟩:=h.keep (sg':=sg') hk .row .top (fun k _ e=>by
  rcases e with e|e
  ·exact .inl (h.rr k e)
  ·exact .inr (.inl (by rw[e];exact h.rwb))) hs
 have hown':(W3.setCell ⟨wb,17,none⟩ v').ownsRow B 93 1 v' (rbs.length+1) (rbs.map rbV++[rbV rb]):=((own_on hown).kept (Kept.setCell (F:=fun q=>q=wb) _ _ rfl) fun q _ e e2=>wne' q e e2).self;have ktop:(W3.setCell ⟨wb,17,none⟩ v').heap[wb]? =some (.cells (bgC N kb v' v2 v3) 91 (0,0)):=by
  have h1:W3.heap[wb]? =some (.cells (bgC N kb v1 v2 v3) 91 (0,0)):=((kept_gr hg).block wb (by omega) wne).trans ((b02.block wb wl).trans h.top);rw[jO h1];rfl
 have hdom:∀k,sg' k≠.no→B≤k∧k<(W3.setCell ⟨wb,17,none⟩ v').heap.size:=fun k hk'=>by
  have e0:(W3.setCell ⟨wb,17,none⟩ v').heap.size=W3.heap.size:=by simp[World.setCell]
  rw[e0];by_cases h1:k<W.heap.size
  ·rw[hs k h1] at hk';have:=h.dom k hk';omega
  ·by_cases h2:k<W1.heap.size
   ·omega
   ·by_cases h3:v'.ownBlock=some k
    ·exact bg_lt hown h3
    ·rw[hsg] at hk';simp only at hk';rw[if_neg h1,if_neg h2,if_neg h3] at hk';exact absurd rfl hk'
 refine⟨sg',⟨hdom,ktop,k9,k1 (by decide) (by decide),k10,by simpa using hown',hrow,fun i r hi=>?_,k5 (by decide) (by decide),k6,k7 (by decide) (by decide),k8⟩,hs⟩;by_cases e:i<rbs.length
 ·rw[List.getElem?_append_left e] at hi;exact k4 i r (by intro e;cases e) (by intro e;cases e) hi
 ·rw[List.getElem?_append_right (by omega)] at hi;have hi0:i - rbs.length=0:=by
   have:=(List.getElem?_eq_some_iff.1 hi).1;simp at this;omega
  rw[hi0] at hi;simp at hi;subst hi;obtain rfl:i=rbs.length:=by omega
  have h1:=hr.below b12;have h2:=h1.kept (kept_gr hg) fun q _ hq e=>by have:=ol q e;omega
  have h3:=h2.kept (Kept.setCell (F:=fun q=>q=wb) ⟨wb,17,none⟩ v' rfl) fun q _ hq e=>by omega
  exact h3.wide fun q hq=>hn1 q hq.1 hq.2
theorem BgI.addTold {W2 W3:World} {v':Value} (h:BgI W sg B wb kb N most v1 v2 v3 rbs tbs abs) (hB:B≤W.heap.size) (b01:Below W.heap.size W W1) (hr:MapT pfV beV KOk W1 W.heap.size ([]:List (Pf×BE))) (b12:Below W1.heap.size W1 W2)
  (hown:W3.ownsRow B 64 1 v' (tbs.length+1) (tbs.map mpV++[mpV W.heap.size])) (hg:W2.grownBy W3 v2.ownBlock) (hat:v'.ownBlock=v2.ownBlock∨v'.ownBlock=some W2.heap.size):
  ∃sg',BgI (W3.setCell ⟨wb,19,none⟩ v') sg' B wb kb N most v1 v' v3 rbs (tbs++[W.heap.size]) abs∧∀k,k<W.heap.size→sg' k=sg k:=by
 classical
 have b02:=jC b01 b12;have s1:=b01.size;have s2:=b12.size;have hk:=bg_kept (wb:=wb) (i:=19) (v':=v') b02 hg;have wl:=jE h.top;have ol:=own_lt h.told.own;have s3:=hg.size;obtain⟨sg',hsg⟩:∃sg':Nat→Lc,sg'=fun q=>if q<W.heap.size then sg q else if q<W1.heap.size then .told else if v'.ownBlock=some q then .told else .no:=⟨_,rfl⟩
 have hs:∀k,k<W.heap.size→sg' k=sg k:=fun k hl=>by rw[hsg];simp only;rw[if_pos hl]
 have hn1:∀k,W.heap.size≤k→k<W1.heap.size→sg' k=.told:=fun k h1 h2=>by rw[hsg];simp only;rw[if_neg (by omega),if_pos h2]
 have hn2:∀k,W1.heap.size≤k→v'.ownBlock=some k→sg' k=.told:=fun k h1 h2=>by rw[hsg];simp only;rw[if_neg (by omega),if_neg (by omega),if_pos h2]
 have wne:v2.ownBlock≠some wb:=fun e=>by have h1:=h.rt.1 wb e;rw[h.rwb] at h1;cases h1
 have wne':∀q,v'.ownBlock=some q→q≠wb:=fun q hq e=>by
  rcases hat with e2|e2
  ·rw[e2] at hq;rw[e] at hq;exact wne hq
  ·rw[e2] at hq;injection hq with hq;omega
 have hrow:∀q,v'.ownBlock=some q→sg' q=.told:=fun q hq=>by
  rcases hat with e|e
  ·rw[e] at hq;exact(hs q (ol q hq)).trans (h.rt.1 q hq)
  ·rw[e] at hq;injection hq with hq;exact hn2 q (by omega) (by rw[e,hq])
 obtain⟨k1,k2,k3,k4,k5,k6,k7,k8,k9,k10⟩:=h.keep (sg':=sg') hk .told .top (fun k _ e=>by
  rcases e with e|e
  ·exact .inl (h.rt.1 k e)
  ·exact .inr (.inl (by rw[e];exact h.rwb))) hs
 have hown':(W3.setCell ⟨wb,19,none⟩ v').ownsRow B 64 1 v' (tbs.length+1) (tbs.map mpV++[mpV W.heap.size]):=((own_on hown).kept (Kept.setCell (F:=fun q=>q=wb) _ _ rfl) fun q _ e e2=>wne' q e e2).self;have ktop:(W3.setCell ⟨wb,19,none⟩ v').heap[wb]? =some (.cells (bgC N kb v1 v' v3) 91 (0,0)):=by
  have h1:W3.heap[wb]? =some (.cells (bgC N kb v1 v2 v3) 91 (0,0)):=((kept_gr hg).block wb (by omega) wne).trans ((b02.block wb wl).trans h.top);rw[jO h1];rfl
 have hdom:∀k,sg' k≠.no→B≤k∧k<(W3.setCell ⟨wb,19,none⟩ v').heap.size:=fun k hk'=>by
  have e0:(W3.setCell ⟨wb,19,none⟩ v').heap.size=W3.heap.size:=by simp[World.setCell]
  rw[e0];by_cases h1:k<W.heap.size
  ·rw[hs k h1] at hk';have:=h.dom k hk';omega
  ·by_cases h2:k<W1.heap.size
   ·omega
   ·by_cases h3:v'.ownBlock=some k
    ·exact bg_lt hown h3
    ·rw[hsg] at hk';simp only at hk';rw[if_neg h1,if_neg h2,if_neg h3] at hk';exact absurd rfl hk'
 have h1:=h.told.more hB b02 (hr.below b12) hown (kept_gr hg) hat;have h2:MadeM (W3.setCell ⟨wb,19,none⟩ v') B v' (tbs++[W.heap.size]):=h1.kept (Kept.setCell (F:=fun q=>q=wb) ⟨wb,19,none⟩ v' rfl) (fun q hq e=>wne' q hq e) fun b hb e=>by
  rcases List.mem_append.1 hb with hb|hb
  ·have:=h.rt.2 b hb;rw[e,h.rwb] at this;cases this
  ·rw[List.mem_singleton] at hb;omega
 refine⟨sg',⟨hdom,ktop,k9,k1 (by decide) (by decide),k10,k2 (by decide) (by decide),k3,fun i r hi=>k4 i r (by intro e;cases e) (by intro e;cases e) hi,h2,⟨hrow,fun b hb=>?_⟩,k7 (by decide) (by decide),k8⟩,hs⟩;rcases List.mem_append.1 hb with hb|hb
 ·exact k6.2 b hb
 ·rw[List.mem_singleton] at hb;subst hb;exact hn1 _ (Nat.le_refl _) hr.lt
theorem BgI.addAgain {W2 W3:World} {v':Value} (h:BgI W sg B wb kb N most v1 v2 v3 rbs tbs abs) (hB:B≤W.heap.size) (b01:Below W.heap.size W W1) (hr:MapT pfV marV KOk W1 W.heap.size ([]:List (Pf×Bool))) (b12:Below W1.heap.size W1 W2)
  (hown:W3.ownsRow B 51 1 v' (abs.length+1) (abs.map mpV++[mpV W.heap.size])) (hg:W2.grownBy W3 v3.ownBlock) (hat:v'.ownBlock=v3.ownBlock∨v'.ownBlock=some W2.heap.size):
  ∃sg',BgI (W3.setCell ⟨wb,20,none⟩ v') sg' B wb kb N most v1 v2 v' rbs tbs (abs++[W.heap.size])∧∀k,k<W.heap.size→sg' k=sg k:=by
 classical
 have b02:=jC b01 b12;have s1:=b01.size;have s2:=b12.size;have hk:=bg_kept (wb:=wb) (i:=20) (v':=v') b02 hg;have wl:=jE h.top;have ol:=own_lt h.again.own;have s3:=hg.size;obtain⟨sg',hsg⟩:∃sg':Nat→Lc,sg'=fun q=>if q<W.heap.size then sg q else if q<W1.heap.size then .again else if v'.ownBlock=some q then .again else .no:=⟨_,rfl⟩
 have hs:∀k,k<W.heap.size→sg' k=sg k:=fun k hl=>by rw[hsg];simp only;rw[if_pos hl]
 have hn1:∀k,W.heap.size≤k→k<W1.heap.size→sg' k=.again:=fun k h1 h2=>by rw[hsg];simp only;rw[if_neg (by omega),if_pos h2]
 have hn2:∀k,W1.heap.size≤k→v'.ownBlock=some k→sg' k=.again:=fun k h1 h2=>by rw[hsg];simp only;rw[if_neg (by omega),if_neg (by omega),if_pos h2]
 have wne:v3.ownBlock≠some wb:=fun e=>by have h1:=h.ra.1 wb e;rw[h.rwb] at h1;cases h1
 have wne':∀q,v'.ownBlock=some q→q≠wb:=fun q hq e=>by
  rcases hat with e2|e2
  ·rw[e2] at hq;rw[e] at hq;exact wne hq
  ·rw[e2] at hq;injection hq with hq;omega
 have hrow:∀q,v'.ownBlock=some q→sg' q=.again:=fun q hq=>by
  rcases hat with e|e
  ·rw[e] at hq;exact(hs q (ol q hq)).trans (h.ra.1 q hq)
  ·rw[e] at hq;injection hq with hq;exact hn2 q (by omega) (by rw[e,hq])
 obtain⟨k1,k2,k3,k4,k5,k6,k7,k8,k9,k10⟩:=h.keep (sg':=sg') hk .again .top (fun k _ e=>by
  rcases e with e|e
  ·exact .inl (h.ra.1 k e)
  ·exact .inr (.inl (by rw[e];exact h.rwb))) hs
 have hown':(W3.setCell ⟨wb,20,none⟩ v').ownsRow B 51 1 v' (abs.length+1) (abs.map mpV++[mpV W.heap.size]):=((own_on hown).kept (Kept.setCell (F:=fun q=>q=wb) _ _ rfl) fun q _ e e2=>wne' q e e2).self;have ktop:(W3.setCell ⟨wb,20,none⟩ v').heap[wb]? =some (.cells (bgC N kb v1 v2 v') 91 (0,0)):=by
  have h1:W3.heap[wb]? =some (.cells (bgC N kb v1 v2 v3) 91 (0,0)):=((kept_gr hg).block wb (by omega) wne).trans ((b02.block wb wl).trans h.top);rw[jO h1];rfl
 have hdom:∀k,sg' k≠.no→B≤k∧k<(W3.setCell ⟨wb,20,none⟩ v').heap.size:=fun k hk'=>by
  have e0:(W3.setCell ⟨wb,20,none⟩ v').heap.size=W3.heap.size:=by simp[World.setCell]
  rw[e0];by_cases h1:k<W.heap.size
  ·rw[hs k h1] at hk';have:=h.dom k hk';omega
  ·by_cases h2:k<W1.heap.size
   ·omega
   ·by_cases h3:v'.ownBlock=some k
    ·exact bg_lt hown h3
    ·rw[hsg] at hk';simp only at hk';rw[if_neg h1,if_neg h2,if_neg h3] at hk';exact absurd rfl hk'
 have h1:=h.again.more hB b02 (hr.below b12) hown (kept_gr hg) hat;have h2:MadeB (W3.setCell ⟨wb,20,none⟩ v') B v' (abs++[W.heap.size]):=h1.kept (Kept.setCell (F:=fun q=>q=wb) ⟨wb,20,none⟩ v' rfl) (fun q hq e=>wne' q hq e) fun b hb e=>by
  rcases List.mem_append.1 hb with hb|hb
  ·have:=h.ra.2 b hb;rw[e,h.rwb] at this;cases this
  ·rw[List.mem_singleton] at hb;omega
 refine⟨sg',⟨hdom,ktop,k9,k1 (by decide) (by decide),k10,k2 (by decide) (by decide),k3,fun i r hi=>k4 i r (by intro e;cases e) (by intro e;cases e) hi,k5 (by decide) (by decide),k6,h2,⟨hrow,fun b hb=>?_⟩⟩,hs⟩;rcases List.mem_append.1 hb with hb|hb
 ·exact k8.2 b hb
 ·rw[List.mem_singleton] at hb;subst hb;exact hn1 _ (Nat.le_refl _) hr.lt
theorem BgI.after {W00 W4:World} {v:Value} {rb4:Nat} {C:Obj} (h:BgI W sg B wb kb N most v1 v2 v3 rbs tbs abs) (hv:∀g,v.ownBlock=some g→sg g≠.no) (hk:Kept (fun q=>v.ownBlock=some q∨q=wb) W W4) (hb:Below B W00 W) (hB:B≤W.heap.size)
  (hq:W.heap[rb4]? =some C∧sg rb4=.no) (hs:∀k,k<W.heap.size→sg' k=sg k):Below B W00 W4∧(W4.heap[rb4]? =some C∧sg' rb4=.no):=by
 have hl:rb4<W.heap.size:=(Array.getElem?_eq_some_iff.1 hq.1).1;refine⟨hb.trans (hk.below hB fun q hq'=>?_),(hk.block rb4 hl fun e=>?_).trans hq.1,(hs rb4 hl).trans hq.2⟩
 ·rcases hq' with e|e
  ·exact(h.dom q (hv q e)).1
  ·rw[e];exact(h.dom wb (by rw[h.rwb];decide)).1
 ·rcases e with e|e
  ·exact hv rb4 e hq.2
  ·have:=hq.2;rw[e,h.rwb] at this;cases this
end
open Go.RowKit
structure LwOk (A:Ab) (N:Nat):Prop where
 len:A.V.length=N
 own:A.own=65000
 ids:∀(i:Nat) v,A.V[i]? =some v→v.1=65001+(i:Int)∧v.2.1=i+1
 up:∀i,A.th i=false→A.R i=[]
 nw:∀i,A.th i=false→∀p,A.nw i p=false
theorem R_setV {V:List VM} {i:Nat} (hi:i<V.length) (R':Rts) (k:Nat):(((setV V i R')[k]?).map (·.2.2)).getD []=setF (fun j=>((V[j]?).map (·.2.2)).getD []) i R' k:=by
 rw[setV_get];unfold setF;by_cases e:k=i
 ·subst e;rw[if_pos rfl,List.getElem?_eq_getElem hi];simp
 ·rw[if_neg e];simp only;cases V[k]? with
  |none=>rfl
  |some v=>simp[e]
section
variable {A:Ab} {N:Nat}
theorem LwOk.leaveR (h:LwOk A N) {i:Nat} (hi:i<N):(A.leave i).R=setF A.R i []:=by
 funext k;exact R_setV (V:=A.V) (by rw[h.len];exact hi) [] k
theorem upd_keeps (own most:Int) (R:Rts) (kind:Int) (gone nets:List Pf) (a:At) (h:(updP own most R kind gone nets a).1≠0):(updP own most R kind gone nets a).2.2=R:=by
 unfold updP at*;split<;>(try split)<;>(try split)<;>first|rfl|(rename_i h1 h2 h3;simp[h1,h2,h3] at h)
theorem LwOk.updRR (h:LwOk A N) {i:Nat} (hi:i<N) (kind:Int) (gone nets:List Pf) (a:At):(A.upd i kind gone nets a).R=setF A.R i (A.updR i kind gone nets a).2.2:=by
 funext k;unfold Ab.upd;split
 ·exact R_setV (V:=A.V) (by rw[h.len];exact hi) _ k
 ·rename_i hne;have:(A.updR i kind gone nets a).2.2=A.R i:=upd_keeps _ _ _ _ _ _ _ hne;rw[this];unfold setF;split
  ·rename_i e;rw[e]
  ·rfl
theorem ids_setV {V:List VM} (h:∀(i:Nat) v,V[i]? =some v→v.1=65001+(i:Int)∧v.2.1=i+1) (i:Nat) (R':Rts):∀(k:Nat) v,(setV V i R')[k]? =some v→v.1=65001+(k:Int)∧v.2.1=k+1:=by
 intro k v hv;rw[setV_get] at hv;cases hk:V[k]? with
 |none=>rw[hk] at hv;cases hv
 |some u=>
  rw[hk] at hv;simp only[Option.map_some,Option.some.injEq] at hv;have:=h k u hk;by_cases e:k=i
  ·rw[if_pos e] at hv;rw[←hv];exact this
  ·rw[if_neg e] at hv;rw[←hv];exact this
theorem LwOk.join (h:LwOk A N) (i:Nat):LwOk (A.join i) N:=⟨h.len,h.own,h.ids,fun k hk=>by
 have hk':setF A.th i true k=false:=hk;unfold setF at hk';split at hk'
 ·cases hk'
 ·exact h.up k hk',fun k hk p=>by
 have hk':setF A.th i true k=false:=hk;show setF A.nw i _ k p=false;unfold setF at*;split at hk'
 ·cases hk'
 ·rename_i e;rw[if_neg e];exact h.nw k hk' p⟩
theorem LwOk.leave (h:LwOk A N) {i:Nat} (hi:i<N):LwOk (A.leave i) N:=⟨(setV_len ..).trans h.len,h.own,ids_setV h.ids i [],fun k hk=>by
 rw[h.leaveR hi];have hk':setF A.th i false k=false:=hk;unfold setF at*;split
 ·rfl
 ·rename_i e;rw[if_neg e] at hk';exact h.up k hk',fun k hk p=>by
 have hk':setF A.th i false k=false:=hk;have ht:(A.away i).th k=false:=hk;show ((A.away i).nw k p||((A.away i).th k&&_))=false;rw[ht,Bool.false_and,Bool.or_false];show setF A.nw i _ k p=false;unfold setF at*;split
 ·rfl
 ·rename_i e;rw[if_neg e] at hk';exact h.nw k hk' p⟩
theorem turn_nw {A:Ab} (h:∀i,A.th i=false→∀p,A.nw i p=false) (bl:Nat→Bool) (V:List VM):∀i,(A.turn bl V).th i=false→∀p,(A.turn bl V).nw i p=false:=by
 intro i hi p;have hi':A.th i=false:=hi;show (A.nw i p||(A.th i&&_))=false;rw[h i hi' p,hi'];rfl
theorem LwOk.upd (h:LwOk A N) {i:Nat} (hi:i<N) (ht:A.th i=true) (kind:Int) (gone nets:List Pf) (a:At):LwOk (A.upd i kind gone nets a) N:=by
 have hs:=same_upd A i kind gone nets a;refine⟨hs.len.trans h.len,hs.own.trans h.own,?_,fun k hk=>?_,?_⟩
 ·unfold Ab.upd;split
  ·exact ids_setV h.ids i _
  ·exact h.ids
 ·rw[hs.th] at hk;rw[h.updRR hi];unfold setF;rw[if_neg (fun e=>by rw[e,ht] at hk;cases hk)];exact h.up k hk
 ·unfold Ab.upd;split
  ·exact turn_nw h.nw _ _
  ·exact h.nw
theorem LwOk.block (h:LwOk A N) (i j:Nat) (b:Bool):LwOk (A.block i j b) N:=⟨h.len,h.own,h.ids,h.up,turn_nw h.nw _ _⟩
theorem LwOk.hush (h:LwOk A N) (i:Nat):LwOk (A.hush i) N:=⟨h.len,h.own,h.ids,h.up,fun k hk p=>by
 show setF A.nw i _ k p=false;unfold setF;split
 ·rfl
 ·exact h.nw k hk p⟩
theorem LwOk.mark (h:LwOk A N) {i:Nat} (ht:A.th i=true) (ps:List Pf):LwOk (A.mark i ps) N:=⟨h.len,h.own,h.ids,h.up,fun k hk p=>by
 show setF A.nw i _ k p=false;unfold setF;have hk':A.th k=false:=hk;rw[if_neg (fun e=>by rw[e,ht] at hk';cases hk')];exact h.nw k hk' p⟩
theorem LwOk.new (most:Int) (N:Nat):LwOk (newA 65000 most (sdsN N)) N:=by
 refine⟨newA_len ..,rfl,fun i v hv=>?_,fun i _=>?_,fun _ _ _=>rfl⟩
 ·unfold newA at hv;simp only[List.getElem?_map] at hv;cases hx:(sdsN N)[i]? with
  |none=>rw[hx] at hv;cases hv
  |some x=>
   rw[hx] at hv;simp only[Option.map_some,Option.some.injEq] at hv;have hi:i<N:=by have:=(List.getElem?_eq_some_iff.1 hx).1;rwa [sdsN_len] at this
   rw[sdsN_get hi] at hx;injection hx with hx;rw[←hv,←hx];exact⟨rfl,rfl⟩
 ·unfold Ab.R newA;simp only[List.getElem?_map];cases (sdsN N)[i]?<;>rfl
theorem goesB_wgo {th bl:Nat→Bool} {k rc:Nat} {a:At} (ht:th k=true):goesB 65000 bl a k rc (65001+rc)=wgo th bl k rc a:=by
 unfold wgo goesB;rw[ht];cases bl (k*16+rc)<;>simp
theorem LwOk.V_at (h:LwOk A N) {k:Nat} (hk:k<N):∃v:VM,A.V[k]? =some v∧v.1=65001+(k:Int)∧v.2.1=k+1∧v.2.2=A.R k:=by
 have hv:A.V[k]? =some (A.V[k]'(by rw[h.len];exact hk)):=List.getElem?_eq_getElem _;obtain⟨h1,h2⟩:=h.ids k _ hv;exact⟨_,hv,h1,h2,by unfold Ab.R;rw[hv];rfl⟩
theorem LwOk.as_at (h:LwOk A N) {rc:Nat} (hrc:rc<N):asOf (A.V.map pmV) rc=65001+(rc:Int):=by
 obtain⟨v,h1,h2,-⟩:=h.V_at hrc;unfold asOf;rw[List.getElem?_map,h1];exact h2
theorem LwOk.offs (h:LwOk A N) {rc:Nat} (hrc:rc<N) (p:Pf):wof A.R A.th A.bl rc p N=A.offs rc p:=by
 unfold Ab.offs offV offS;rw[h.as_at hrc,h.own];have key:∀k,k≤N→wof A.R A.th A.bl rc p k=offL 65000 A.bl rc (65001+(rc:Int)) (saidS ((A.V.map pmV).take k) p):=by
  intro k
  induction k with
  |zero=>intro _;rfl
  |succ k ih=>
   intro hk;obtain⟨v,h1,h2,h3,h4⟩:=h.V_at (k:=k) (by omega);have hm:(A.V.map pmV)[k]? =some (pmV v):=by rw[List.getElem?_map,h1];rfl
   rw[wof,ih (by omega),saidS_take p hm];unfold offL;rw[List.filter_append];congr 1;unfold saidOne;have e1:(pmV v).R=A.R k:=h4;have e2:(pmV v).id=k+1:=h3;rw[e1,e2];cases hg:getL (A.R k) p with
   |none=>rw[wone_none hg];rfl
   |some a=>
    have ht:A.th k=true:=by
     cases ht:A.th k with
     |true=>rfl
     |false=>rw[h.up k ht] at hg;cases hg
    rw[wone_some hg];have e3:goesC 65000 A.bl rc (65001+(rc:Int)) (cdOf k p (k+1) a)=wgo A.th A.bl k rc a:=by
     unfold goesC cdOf;simp only[Int.toNat_natCast];exact goesB_wgo ht
    simp only[List.filter_cons,List.filter_nil,e3]
 have:=key N (Nat.le_refl _);rw[List.take_of_length_le (by rw[List.length_map,h.len];exact Nat.le_refl _)] at this;exact this
theorem LwOk.best (h:LwOk A N) {rc:Nat} (hrc:rc<N) (p:Pf):pickB (wof A.R A.th A.bl rc p N)=A.best rc p:=by
 rw[h.offs hrc p];rfl
theorem LwOk.asI (h:LwOk A N) {rc:Nat} (hrc:rc<N):A.as_ rc=65001+(rc:Int):=by rw[←asV];exact h.as_at hrc
theorem LwOk.offer_goes (h:LwOk A N) {rc:Nat} (hrc:rc<N) {p:Pf} {c:Cd} (hc:c∈wof A.R A.th A.bl rc p N):∃n:Nat,n<N∧c.peer=(n:Int)∧A.goes n rc p=true:=by
 obtain⟨i,a,hi,hg,hw,rfl⟩:=wof_mem hc;refine⟨i,hi,rfl,?_⟩;have ht:A.th i=true:=by
  unfold wgo at hw;cases ht:A.th i with
  |true=>rfl
  |false=>rw[ht] at hw;cases hw
 unfold Ab.goes goesS;rw[hg,h.own,h.asI hrc];simp only;rw[goesB_wgo ht];exact hw
theorem LwOk.best_says (h:LwOk A N) {rc:Nat} (hrc:rc<N) {p:Pf} {b:Int×At} (hb:A.best rc p=some b):saysR A.R N p:=by
 rw[←h.best hrc] at hb;have hne:wof A.R A.th A.bl rc p N≠[]:=fun e=>by rw[e] at hb;cases hb
 obtain⟨c,hc⟩:=List.exists_mem_of_ne_nil _ hne;obtain⟨i,a,hi,hg,-,-⟩:=wof_mem hc;exact⟨i,hi,by rw[hg];rfl⟩
end
theorem due_news {A:Ab} {i:Nat} {l:List (Pf×BE)} (h:KnOk A i l) (ht:A.th i=true) {p:Pf} (hne:knV l p≠A.best i p):A.nw i p=true:=by
 cases hn:A.nw i p with
 |true=>rfl
 |false=>exact absurd (h ht p hn) hne
theorem kn_differ {l:List (Pf×BE)} {p:Pf} {b:Option BE} {best:Option (Int×At)} (hb:b.map (fun x=>(x.peer,x.a))=best) (h:(b.isSome≠(getL l p).isSome)∨∃x y,b=some x∧getL l p=some y∧x.p=y.p∧sameBE x y=false):knV l p≠best:=by
 rw[←hb];unfold knV;intro e;rcases h with h|⟨x,y,rfl,h2,h3,h4⟩
 ·apply h;cases b<;>cases hg:getL l p<;>rw[hg] at e<;>simp at e ⊢
 ·rw[h2] at e;simp only[Option.map_some,Option.some.injEq,Prod.mk.injEq] at e;have:sameBE x y=true:=sameBE_iff.2 ⟨e.1.symm,h3,e.2.symm⟩;rw[this] at h4;cases h4
end Go.Proofs.YtkoidahgbbabiaaGreat
