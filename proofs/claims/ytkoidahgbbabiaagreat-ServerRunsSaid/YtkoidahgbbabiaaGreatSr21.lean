/- Texts of one proof, one behind another. -/
import Derived.Test.YtkoidahgbbabiaaGreatSr20
import Derived.Test.YtkoidahgbbabiaaGreatSr19
import Derived.Test.YtkoidahgbbabiaaGreatSr14
import Derived.Test.YtkoidahgbbabiaaGreatSr17
import Derived.Test.YtkoidahgbbabiaaGreatSr1
import Derived.Test.YtkoidahgbbabiaaGreatSr15
import Derived.Test.YtkoidahgbbabiaaGreatSr13
import Derived.Test.YtkoidahgbbabiaaGreatSr4
import Derived.Deep.Cut
import Derived.Test.YtkoidahgbbabiaaGreatSr11
import Derived.Test.YtkoidahgbbabiaaGreatSr7
import Derived.Test.YtkoidahgbbabiaaGreatSr18
set_option maxRecDepth 100000
set_option maxHeartbeats 100000000
namespace Go.Proofs.YtkoidahgbbabiaaGreat
open Go.RowKit
abbrev bgZ:Array Value:=#[.int .i64 0,.bool false,.bool false,.bool false,.bool false,.bool false,.bool false,.bool false,.bool false,.bool false,.bool false,.bool false,.bool false,.bool false,.bool false,.bool false,.bool false,
 .slice none 0 0,.map none,.slice none 0 0,.slice none 0 0]
theorem bg_one (N kb:Nat) (s1 s2 s3:Option Addr) (n1 c1 n2 c2 n3 c3:Nat):((bgC N kb (.slice s1 n1 c1) (.slice s2 n2 c2) (.slice s3 n3 c3)).all (·.oneCell'))=true:=by simp[Value.oneCell']
theorem bg_built (N kb:Nat):Tryz.prog.built 91 [(0,.int .i64 N),(3,.map (some kb))]=some (bgC N kb (.slice none 0 0) (.slice none 0 0) (.slice none 0 0)):=by kernel_rfl
theorem box_rb {W:World} {p:World→Prop} {r:Nat} (h:∀w1:World,(∀(j:Nat) (u:Value),[rbV r][j]? =some u→w1.cell? ((⟨W.heap.size,0,none⟩:Addr).add j)=some u)→Below W.heap.size W w1→p w1):p (W.alloc (.cells #[rbV r] 93)):=
 h _ (new_cells W #[rbV r] 93) ((Below.refl _ _).alloc (Nat.le_refl _) _)
theorem results_begin (tmps:Array Value) (W:World) (b:Nat) (C:Array Value) (hC:C.size=21) (h4:tmps.getD 4 undef=.pointer (some ⟨b,0,none⟩)) (hb:W.heap[b]? =some (.cells C 91 (0,0))):
  (results Tryz.f40 tmps).run Tryz.prog W=.ok (.agg C) W:=by
 have hl:=run_loadVar_row (P:=Tryz.prog) W b 91 91 C (0,0) _ hb Tryz.underlying91 rfl (by rw[hC];kernel_rfl);unfold results;rw[Tryz.results40];simp[h4,hl,asAddr,-Array.getD_eq_getD_getElem?]
theorem l_begin (N:Nat) (hN:N≤16) (most:Int) (W:World):Calls Tryz.prog 40 #[.int .i64 N,.int .i64 most] W fun e w'=>
  ∃(sg:Nat→Lc) (wb kb:Nat) (v1 v2 v3:Value) (rbs tbs abs:List Nat),e=.returned (.agg (bgC N kb v1 v2 v3))∧BgI w' sg W.heap.size wb kb N (min (max most 0) 256) v1 v2 v3 rbs tbs abs∧(rbs.length=N∧tbs.length=N∧abs.length=N)∧Below W.heap.size W w':=by
 have hmm:=@run_makeMap Tryz.prog;obtain⟨mm,hmn⟩:∃mm,min (max most 0) 256=mm:=⟨_,rfl⟩
 have MN:=jh hmn;rw[hmn];clear hmn;go_enter Tryz.func40,Tryz.ntmps40;go_upto_region 1 with (fail)
 obtain⟨W0,hW0,q0,hB0,-⟩:=box1 W bgZ 91;rw[←hW0];obtain⟨rb4,hrb4⟩:∃b,b=W.heap.size:=⟨_,rfl⟩
 rw[←hrb4] at q0 ⊢;have RB4:=jh hrb4;have Q0:=jh q0;have B0:=jh hB0;clear hW0 q0 hB0 hrb4;obtain⟨W1,hW1⟩:∃W1,W1=W0.alloc (.map #[] 0):=⟨_,rfl⟩
 have KM:Hid (BlkT W1 W0.heap.size []):=jh (by rw[hW1];exact MapT.made W0);have b01:Below W0.heap.size W0 W1:=by rw[hW1];exact(Below.refl _ _).alloc (Nat.le_refl _) _
 have Q1:=jh ((b01.block _ (jE Q0.out)).trans Q0.out);have B1:=jh (jC B0.out b01);have S0:Hid (W.heap.size≤W0.heap.size):=jh B0.out.size;obtain⟨kb,hkb⟩:∃b,b=W0.heap.size:=⟨_,rfl⟩
 go_wp2_with ((with_reducible refine jM (X:=.build 91 #[(0,.tmp 7),(3,.tmp 8)]) ?_ ?_);(·rfl));unfold Halt;rw[←hW1,←hkb];have LR4:Hid (rb4<kb):=jh (by rw[hkb];exact jE Q0.out);rw[←hkb] at KM S0;have KL:Hid (kb<W1.heap.size):=jh KM.out.lt;clear hW1 hkb b01 B0 Q0;refine wpList_built rfl 91 #[(0,.tmp 7),(3,.tmp 8)] rfl [(0,.int .i64 N),(3,.map (some kb))] ?hl1 (bgC N kb (.slice none 0 0) (.slice none 0 0) (.slice none 0 0)) (bg_built N kb) ?_
 case hl1=>simp[Act.eval]
 go_wp2_with ((with_reducible refine jM (X:=.store 91 (.tmp 5) (.tmp 9)) ?_ ?_);(·rfl));unfold Halt;refine st_fresh rfl 91 (.tmp 5) (.tmp 9) rfl rfl _ (bgC N kb (.slice none 0 0) (.slice none 0 0) (.slice none 0 0)) rfl sz_world rfl (bg_one _ _ _ _ _ _ _ _ _ _ _) ?_;obtain⟨W2,hW2,q2,hb2,-⟩:=box1 W1 (bgC N kb (.slice none 0 0) (.slice none 0 0) (.slice none 0 0)) 91;rw[←hW2];obtain⟨wb,hwb⟩:∃b,b=W1.heap.size:=⟨_,rfl⟩
 rw[←hwb] at q2 KL ⊢;simp only[Act.put];have B2:=jh (jC B1.out hb2);have Q2:=jh ((hb2.block _ (jE Q1.out)).trans Q1.out);have BG0:Hid (∃sg,BgI W2 sg W.heap.size wb kb N mm (.slice none 0 0) (.slice none 0 0) (.slice none 0 0) [] [] []∧sg rb4=.no):=jh (by
  have h1:=KM.out.below hb2;have h2:=h1.lt;have h3:=jE q2;have h4:=B1.out.size;refine⟨fun q=>if q=wb then .top else if q=kb then .blk else .no,⟨fun k hk=>?_,q2,by simp,h1,?_,⟨by simp,.inl ⟨rfl,rfl⟩⟩,fun g hg=>(by cases hg),fun i r hr=>(by cases hr),⟨⟨by simp,.inl ⟨rfl,rfl⟩⟩,fun b hb=>(by cases hb),List.nodup_nil⟩,⟨fun g hg=>(by cases hg),fun b hb=>by cases hb⟩,⟨⟨by simp,.inl ⟨rfl,rfl⟩⟩,fun b hb=>(by cases hb),List.nodup_nil⟩,⟨fun g hg=>(by cases hg),fun b hb=>by cases hb⟩⟩,?_⟩
  ·by_cases e:k=wb
   ·subst e;exact⟨by omega,h3⟩
   ·by_cases e2:k=kb
    ·subst e2;exact⟨S0.out,h2⟩
    ·simp[e,e2] at hk
  ·have:=KL.out;rw[if_neg (by omega),if_pos rfl]
  ·have:=KL.out;have:=LR4.out;show (if rb4=wb then Lc.top else if rb4=kb then Lc.blk else Lc.no)=Lc.no;rw[if_neg (by omega),if_neg (by omega)])
 obtain⟨sg0,bg0,no0⟩:=BG0.out;have NO0:=jh no0;have BG1:=jh bg0;clear hW2 hb2 q2 hwb BG0 bg0 no0 KM KL B1 Q1 S0;go_wp2_with fail;go_loopw [6] (fun t6 wr=>∃(k:Nat) (sg:Nat→Lc) (v1 v2 v3:Value) (rbs tbs abs:List Nat),k≤N∧t6=.int .i64 k∧Hid (BgI wr sg W.heap.size wb kb N mm v1 v2 v3 rbs tbs abs)∧Hid (rbs.length=k∧tbs.length=k∧abs.length=k)∧Hid (Below W.heap.size W wr)∧Hid (wr.heap[rb4]? =some (.cells bgZ 91 (0,0))∧sg rb4=.no)) (fun t6 _=>N - (intOf t6).toNat)
 case atStart=>exact⟨0,sg0,_,_,_,[],[],[],by omega,rfl,BG1,jh ⟨rfl,rfl,rfl⟩,B2,jh ⟨Q2.out,NO0.out⟩⟩
 case round=>
  clear BG1 B2 Q2;obtain⟨k,sg,v1,v2,v3,rbs,tbs,abs,hk,rfl,BG,LS,BV,Q4⟩:=hrel;by_cases hkn:k<N
  ·obtain⟨s1,c1,rfl,-⟩:=jV BG.out.row;obtain⟨s2,c2,rfl,-⟩:=jV BG.out.told.own;obtain⟨s3,c3,rfl,-⟩:=jV BG.out.again.own;obtain⟨i0,hii,hz0,hz1,hz2⟩:=info_parts info_ribP;have LK:Hid (k<16):=jh (by omega);have KN:=jh hkn;have WS:Hid (W.heap.size≤wr.heap.size):=jh BV.out.size;clear hk hkn;go_upto_region 5 with (fail)
   have BG0:Hid (BgI wr.drew sg W.heap.size wb kb N mm _ _ _ rbs tbs abs):=jh (BG.out.below (Below.refl wr.heap.size wr).drew);have BV0:=jh (jC BV.out (Below.refl wr.heap.size wr).drew);have Q40:Hid (wr.drew.heap[rb4]? =some (.cells bgZ 91 (0,0))∧sg rb4=.no):=jh Q4.out;have WS0:Hid (W.heap.size≤wr.drew.heap.size):=WS;have c17:wr.drew.cell? ⟨wb,17,none⟩=some (.slice s1 rbs.length c1):=jB BG0.out.top 17;clear BG BV Q4 WS;refine wp_region_held_drew (S:=fun _=>True) (by kernel_rfl) ?_ (fun hHeld=>?_)
   ·trivial
   generalize World.drew wr=wd at BG0 BV0 Q40 WS0 c17 hHeld ⊢;refine qz 0 hHeld ?_;refine qz 2 hHeld ?_;refine qz 3 hHeld ?_;refine jI (i:=1) (j:=4) (atS at0) (atS (atS (atS (atS at0)))) (by kernel_rfl) ?_ ?_ (fun K hK=>?_) (fun K hK=>?_)
   ·rfl
   ·rfl
   ·(try clear hb);go_simp;go_wp2_with fail;refine hK.out _ _ ?_ (fun hHeld=>?_);(·trivial);clear hK K;(try simp only[jz]);refine jr 4 fun K hK=>?_;(try clear hb);go_simp;refine(ad_New k 65000 most wd).mono ?_;rintro e w4 ⟨rb,rfl,hr,hb4⟩;(try replace c17:=jA c17 hb4);go_wp2_with fail;refine hK.out _ _ ?_ (fun hHeld=>?_);(·trivial);clear hK K;(try simp only[jz]);refine jr 5 fun K hK=>?_;(try clear hb);go_simp;refine box_rb (p:=K _) ?_;intro w5 hcs5 hb5;(try replace c17:=jA c17 hb5);refine hK.out _ _ ?_ (fun hHeld=>?_);(·trivial);clear hK K;(try simp only[jz]);refine jr 6 fun K hK=>?_;(try clear hb);refine wp_append_at (.tmp 16) (.tmp 20) 87 ?_ W.heap.size 93 i0 _ 1 8 Tryz.underlying87 hii hz0 hz1 hz2 rfl (by decide) (.slice s1 rbs.length c1) rbs.length (rbs.map rbV) ?_ (jQ (jQ BG0.out.row hb4) hb5) ⟨w4.heap.size,0,none⟩ 1 1 [rbV rb] ?_ rfl hcs5 (rb_one _) (by have:=LS.out.1;have:=LK.out;unfold maxLen;omega) (by have:=LS.out.1;have:=LK.out;omega) (Nat.le_trans WS0.out (jC hb4 hb5).size) ?_;(·rfl);(·rfl);(·rfl);intro v' w' hown hgrow hat;obtain⟨s6,c6,hv6,-⟩:=jV hown;subst hv6;refine hK.out _ _ ?_ (fun hHeld=>?_);(·trivial);clear hK K;(try simp only[jz]);refine qz 7 hHeld ?_;refine jr 8 fun K hK=>?_;(try clear hb);have ht:=bg_top (jC hb4 hb5) hgrow BG0.out.top (fun e=>by have h1:=BG0.out.rr _ e;rw[BG0.out.rwb] at h1;cases h1);have cz:=jB ht 17;have fz:=jN ht 17;go_simp;go_wp2_with fail;refine hK.out _ _ ?_ (fun hHeld=>?_);(·trivial);clear hK K;(try simp only[Act.put]);refine wpAnyH_done (by kernel_rfl) ?_ _;obtain⟨sg2,bg2,hs2⟩:=BG0.out.addRib WS0.out hb4 (by rw[LS.out.1,←MN.out];exact hr) hb5 hown hgrow hat;obtain⟨bv2,q2⟩:=BG0.out.after (sg':=sg2) (v:=.slice s1 rbs.length c1) (fun g hg=>by rw[BG0.out.rr g hg];decide) (bg_kept (wb:=wb) (i:=17) (v':=.slice s6 (rbs.length+1) c6) (jC hb4 hb5) hgrow) BV0.out WS0.out Q40.out hs2;obtain⟨wA,hwA⟩:∃wz,wz=w'.setCell ⟨wb,17,none⟩ (.slice s6 (rbs.length+1) c6):=⟨_,rfl⟩
    rw[←hwA] at bg2 bv2 q2 ⊢;have BA1:=jh bg2;have BVA:=jh bv2;have QA:=jh q2;have WSA:Hid (W.heap.size≤wA.heap.size):=jh bv2.size;clear hwA bg2 bv2 q2 hs2 hown hgrow hat hcs5 hb5 hb4 hr ht cz fz BG0 BV0 Q40 WS0 c17 hHeld i0 hii hz0 hz1 hz2;have mc:=(jB BA1.out.top 19:wA.cell? ⟨wb,19,none⟩=some (.slice s2 tbs.length c2))
    obtain⟨W4,hW4⟩:∃W4,W4=wA.alloc (.map #[] 0):=⟨_,rfl⟩
    have HM:Hid (MapT pfV beV KOk W4 wA.heap.size []):=jh (by rw[hW4];exact MapT.made wA);have HB4:Hid (Below wA.heap.size wA W4):=jh (by rw[hW4];exact(Below.refl _ _).alloc (Nat.le_refl _) _);obtain⟨W5,hW5⟩:∃W5,W5=W4.alloc (.cells #[mpV wA.heap.size] 64):=⟨_,rfl⟩
    have HB5:Hid (Below W4.heap.size W4 W5):=jh (by rw[hW5];exact(Below.refl _ _).alloc (Nat.le_refl _) _);have NC5:=jh (new_cells W4 #[mpV wA.heap.size] 64);have OA:=jh (jQ (jQ BA1.out.told.own HB4.out) HB5.out);have BAZ:Hid (W.heap.size≤W5.heap.size):=jh (Nat.le_trans WSA.out (jC HB4.out HB5.out).size);subst hW5;subst hW4;obtain⟨i0,hii,hz0,hz1,hz2⟩:=info_parts info_mapPR;have NC6:Hid (∀(j:Nat) (u:Value),[mpV wA.heap.size][j]? =some u→((wA.alloc (.map #[] 0)).alloc (.cells #[mpV wA.heap.size] 64)).cell? ((⟨wA.heap.size+1,0,none⟩:Addr).add j)=some u):=jh (by
     have h:=NC5.out;have e:(wA.alloc (.map #[] 0)).heap.size=wA.heap.size+1:=by simp
     rw[e] at h;exact h)
    go_wp2_with (at_builtin;refine wpList_append_own_at _ rfl _ _ 63 rfl W.heap.size 64 i0 _ 1 8 Tryz.underlying63 hii hz0 hz1 hz2 rfl (by decide) (.slice s2 tbs.length c2) tbs.length (tbs.map mpV) rfl OA.out ⟨wA.heap.size+1,0,none⟩ 1 1 [mpV wA.heap.size] rfl rfl NC6.out (mp_one _) (by have:=LS.out.2.1;have:=LK.out;unfold maxLen;omega) (by have:=LS.out.2.1;have:=LK.out;omega) BAZ.out ?_);intro vv w7 h2 h3 _ hat;obtain⟨s7,c7,hv7,-⟩:=jV h2;subst hv7;have HAT:Hid ((Value.slice s7 (tbs.length+1) c7).ownBlock=(Value.slice s2 tbs.length c2).ownBlock∨(Value.slice s7 (tbs.length+1) c7).ownBlock=some ((wA.alloc (.map #[] 0)).alloc (.cells #[mpV wA.heap.size] 64)).heap.size):=jh (by rcases hat with h|h;exact .inl h;right;rw[h];simp);have H2:=jh h2;have H3:=jh h3;have ht:=bg_top (jC HB4.out HB5.out) h3 BA1.out.top (fun e=>by have h1:=BA1.out.rt.1 _ e;rw[BA1.out.rwb] at h1;cases h1);have cz:=jB ht 19;have fz:=jN ht 19;clear h2 h3 hat ht NC5 NC6 OA BAZ mc;go_upto_region 7 with (fail)
    clear cz fz;obtain⟨sg3,bg3,hs3⟩:=BA1.out.addTold WSA.out HB4.out HM.out HB5.out H2.out H3.out HAT.out;obtain⟨bv3,q3⟩:=BA1.out.after (sg':=sg3) (v:=.slice s2 tbs.length c2) (fun g hg=>by rw[BA1.out.rt.1 g hg];decide) (bg_kept (wb:=wb) (i:=19) (v':=.slice s7 (tbs.length+1) c7) (jC HB4.out HB5.out) H3.out) BVA.out WSA.out QA.out hs3;obtain⟨wC,hwC⟩:∃wz,wz=w7.setCell ⟨wb,19,none⟩ (.slice s7 (tbs.length+1) c7):=⟨_,rfl⟩
    rw[←hwC] at bg3 bv3 q3 ⊢;have BC1:=jh bg3;have BVC:=jh bv3;have QC:=jh q3;have WSC:Hid (W.heap.size≤wC.heap.size):=jh bv3.size;clear hwC bg3 bv3 q3 hs3 H2 H3 HAT HB4 HB5 HM BA1 BVA QA WSA i0 hii hz0 hz1 hz2;have mc:=(jB BC1.out.top 20:wC.cell? ⟨wb,20,none⟩=some (.slice s3 abs.length c3))
    obtain⟨W4,hW4⟩:∃W4,W4=wC.alloc (.map #[] 0):=⟨_,rfl⟩
    have HM:Hid (MapT pfV marV KOk W4 wC.heap.size []):=jh (by rw[hW4];exact MapT.made wC);have HB4:Hid (Below wC.heap.size wC W4):=jh (by rw[hW4];exact(Below.refl _ _).alloc (Nat.le_refl _) _);obtain⟨W5,hW5⟩:∃W5,W5=W4.alloc (.cells #[mpV wC.heap.size] 51):=⟨_,rfl⟩
    have HB5:Hid (Below W4.heap.size W4 W5):=jh (by rw[hW5];exact(Below.refl _ _).alloc (Nat.le_refl _) _);have NC5:=jh (new_cells W4 #[mpV wC.heap.size] 51);have OA:=jh (jQ (jQ BC1.out.again.own HB4.out) HB5.out);have BAZ:Hid (W.heap.size≤W5.heap.size):=jh (Nat.le_trans WSC.out (jC HB4.out HB5.out).size);subst hW5;subst hW4;obtain⟨i0,hii,hz0,hz1,hz2⟩:=info_parts info_mapPB;have NC6:Hid (∀(j:Nat) (u:Value),[mpV wC.heap.size][j]? =some u→((wC.alloc (.map #[] 0)).alloc (.cells #[mpV wC.heap.size] 51)).cell? ((⟨wC.heap.size+1,0,none⟩:Addr).add j)=some u):=jh (by
     have h:=NC5.out;have e:(wC.alloc (.map #[] 0)).heap.size=wC.heap.size+1:=by simp
     rw[e] at h;exact h)
    go_wp2_with (at_builtin;refine wpList_append_own_at _ rfl _ _ 89 rfl W.heap.size 51 i0 _ 1 8 Tryz.underlying89 hii hz0 hz1 hz2 rfl (by decide) (.slice s3 abs.length c3) abs.length (abs.map mpV) rfl OA.out ⟨wC.heap.size+1,0,none⟩ 1 1 [mpV wC.heap.size] rfl rfl NC6.out (mp_one _) (by have:=LS.out.2.2;have:=LK.out;unfold maxLen;omega) (by have:=LS.out.2.2;have:=LK.out;omega) BAZ.out ?_);intro vv w7 h2 h3 _ hat;obtain⟨s7,c7,hv7,-⟩:=jV h2;subst hv7;have HAT:Hid ((Value.slice s7 (abs.length+1) c7).ownBlock=(Value.slice s3 abs.length c3).ownBlock∨(Value.slice s7 (abs.length+1) c7).ownBlock=some ((wC.alloc (.map #[] 0)).alloc (.cells #[mpV wC.heap.size] 51)).heap.size):=jh (by rcases hat with h|h;exact .inl h;right;rw[h];simp);have H2:=jh h2;have H3:=jh h3;have ht:=bg_top (jC HB4.out HB5.out) h3 BC1.out.top (fun e=>by have h1:=BC1.out.ra.1 _ e;rw[BC1.out.rwb] at h1;cases h1);have cz:=jB ht 20;have fz:=jN ht 20;clear h2 h3 hat ht NC5 NC6 OA BAZ mc;obtain⟨sg4,bg4,hs4⟩:=BC1.out.addAgain WSC.out HB4.out HM.out HB5.out H2.out H3.out HAT.out;obtain⟨bv4,q4⟩:=BC1.out.after (sg':=sg4) (v:=.slice s3 abs.length c3) (fun g hg=>by rw[BC1.out.ra.1 g hg];decide) (bg_kept (wb:=wb) (i:=20) (v':=.slice s7 (abs.length+1) c7) (jC HB4.out HB5.out) H3.out) BVC.out WSC.out QC.out hs4;have BD1:=jh bg4;have BVD:=jh bv4;have QD:=jh q4;have LSD:Hid ((rbs++[rb]).length=k+1∧(tbs++[wA.heap.size]).length=k+1∧(abs++[wC.heap.size]).length=k+1):=jh (by simp[LS.out.1,LS.out.2.1,LS.out.2.2]);clear bg4 bv4 q4 hs4 H2 H3 HAT HB4 HB5 HM BC1 BVC QC WSC i0 hii hz0 hz1 hz2;go_wp2_with fail;exact⟨⟨k+1,sg4,_,_,_,_,_,_,by have:=KN.out;omega,by go_num,BD1,LSD,BVD,QD⟩,by have:=KN.out;simp[intOf];omega⟩
   ·(try clear hb);go_simp;refine(ad_New k 65000 most wd).mono ?_;rintro e w4 ⟨rb,rfl,hr,hb4⟩;(try replace c17:=jA c17 hb4);go_wp2_with fail;refine hK.out _ _ ?_ (fun hHeld=>?_);(·trivial);clear hK K;(try simp only[jz]);refine jI (i:=1) (j:=5) (atS at0) (atS (atS (atS (atS (atS at0))))) (by kernel_rfl) ?_ ?_ (fun K hK=>?_) (fun K hK=>?_)
    ·rfl
    ·rfl
    ·(try clear hb);go_simp;go_wp2_with fail;refine hK.out _ _ ?_ (fun hHeld=>?_);(·trivial);clear hK K;(try simp only[jz]);refine jr 5 fun K hK=>?_;(try clear hb);go_simp;refine box_rb (p:=K _) ?_;intro w5 hcs5 hb5;(try replace c17:=jA c17 hb5);refine hK.out _ _ ?_ (fun hHeld=>?_);(·trivial);clear hK K;(try simp only[jz]);refine jr 6 fun K hK=>?_;(try clear hb);refine wp_append_at (.tmp 16) (.tmp 20) 87 ?_ W.heap.size 93 i0 _ 1 8 Tryz.underlying87 hii hz0 hz1 hz2 rfl (by decide) (.slice s1 rbs.length c1) rbs.length (rbs.map rbV) ?_ (jQ (jQ BG0.out.row hb4) hb5) ⟨w4.heap.size,0,none⟩ 1 1 [rbV rb] ?_ rfl hcs5 (rb_one _) (by have:=LS.out.1;have:=LK.out;unfold maxLen;omega) (by have:=LS.out.1;have:=LK.out;omega) (Nat.le_trans WS0.out (jC hb4 hb5).size) ?_;(·rfl);(·rfl);(·rfl);intro v' w' hown hgrow hat;obtain⟨s6,c6,hv6,-⟩:=jV hown;subst hv6;refine hK.out _ _ ?_ (fun hHeld=>?_);(·trivial);clear hK K;(try simp only[jz]);refine qz 7 hHeld ?_;refine jr 8 fun K hK=>?_;(try clear hb);have ht:=bg_top (jC hb4 hb5) hgrow BG0.out.top (fun e=>by have h1:=BG0.out.rr _ e;rw[BG0.out.rwb] at h1;cases h1);have cz:=jB ht 17;have fz:=jN ht 17;go_simp;go_wp2_with fail;refine hK.out _ _ ?_ (fun hHeld=>?_);(·trivial);clear hK K;(try simp only[Act.put]);refine wpAnyH_done (by kernel_rfl) ?_ _;obtain⟨sg2,bg2,hs2⟩:=BG0.out.addRib WS0.out hb4 (by rw[LS.out.1,←MN.out];exact hr) hb5 hown hgrow hat;obtain⟨bv2,q2⟩:=BG0.out.after (sg':=sg2) (v:=.slice s1 rbs.length c1) (fun g hg=>by rw[BG0.out.rr g hg];decide) (bg_kept (wb:=wb) (i:=17) (v':=.slice s6 (rbs.length+1) c6) (jC hb4 hb5) hgrow) BV0.out WS0.out Q40.out hs2;obtain⟨wA,hwA⟩:∃wz,wz=w'.setCell ⟨wb,17,none⟩ (.slice s6 (rbs.length+1) c6):=⟨_,rfl⟩
     rw[←hwA] at bg2 bv2 q2 ⊢;have BA1:=jh bg2;have BVA:=jh bv2;have QA:=jh q2;have WSA:Hid (W.heap.size≤wA.heap.size):=jh bv2.size;clear hwA bg2 bv2 q2 hs2 hown hgrow hat hcs5 hb5 hb4 hr ht cz fz BG0 BV0 Q40 WS0 c17 hHeld i0 hii hz0 hz1 hz2;have mc:=(jB BA1.out.top 19:wA.cell? ⟨wb,19,none⟩=some (.slice s2 tbs.length c2))
     obtain⟨W4,hW4⟩:∃W4,W4=wA.alloc (.map #[] 0):=⟨_,rfl⟩
     have HM:Hid (MapT pfV beV KOk W4 wA.heap.size []):=jh (by rw[hW4];exact MapT.made wA);have HB4:Hid (Below wA.heap.size wA W4):=jh (by rw[hW4];exact(Below.refl _ _).alloc (Nat.le_refl _) _);obtain⟨W5,hW5⟩:∃W5,W5=W4.alloc (.cells #[mpV wA.heap.size] 64):=⟨_,rfl⟩
     have HB5:Hid (Below W4.heap.size W4 W5):=jh (by rw[hW5];exact(Below.refl _ _).alloc (Nat.le_refl _) _);have NC5:=jh (new_cells W4 #[mpV wA.heap.size] 64);have OA:=jh (jQ (jQ BA1.out.told.own HB4.out) HB5.out);have BAZ:Hid (W.heap.size≤W5.heap.size):=jh (Nat.le_trans WSA.out (jC HB4.out HB5.out).size);subst hW5;subst hW4;obtain⟨i0,hii,hz0,hz1,hz2⟩:=info_parts info_mapPR;have NC6:Hid (∀(j:Nat) (u:Value),[mpV wA.heap.size][j]? =some u→((wA.alloc (.map #[] 0)).alloc (.cells #[mpV wA.heap.size] 64)).cell? ((⟨wA.heap.size+1,0,none⟩:Addr).add j)=some u):=jh (by
      have h:=NC5.out;have e:(wA.alloc (.map #[] 0)).heap.size=wA.heap.size+1:=by simp
      rw[e] at h;exact h)
     go_wp2_with (at_builtin;refine wpList_append_own_at _ rfl _ _ 63 rfl W.heap.size 64 i0 _ 1 8 Tryz.underlying63 hii hz0 hz1 hz2 rfl (by decide) (.slice s2 tbs.length c2) tbs.length (tbs.map mpV) rfl OA.out ⟨wA.heap.size+1,0,none⟩ 1 1 [mpV wA.heap.size] rfl rfl NC6.out (mp_one _) (by have:=LS.out.2.1;have:=LK.out;unfold maxLen;omega) (by have:=LS.out.2.1;have:=LK.out;omega) BAZ.out ?_);intro vv w7 h2 h3 _ hat;obtain⟨s7,c7,hv7,-⟩:=jV h2;subst hv7;have HAT:Hid ((Value.slice s7 (tbs.length+1) c7).ownBlock=(Value.slice s2 tbs.length c2).ownBlock∨(Value.slice s7 (tbs.length+1) c7).ownBlock=some ((wA.alloc (.map #[] 0)).alloc (.cells #[mpV wA.heap.size] 64)).heap.size):=jh (by rcases hat with h|h;exact .inl h;right;rw[h];simp);have H2:=jh h2;have H3:=jh h3;have ht:=bg_top (jC HB4.out HB5.out) h3 BA1.out.top (fun e=>by have h1:=BA1.out.rt.1 _ e;rw[BA1.out.rwb] at h1;cases h1);have cz:=jB ht 19;have fz:=jN ht 19;clear h2 h3 hat ht NC5 NC6 OA BAZ mc;go_upto_region 7 with (fail)
     clear cz fz;obtain⟨sg3,bg3,hs3⟩:=BA1.out.addTold WSA.out HB4.out HM.out HB5.out H2.out H3.out HAT.out;obtain⟨bv3,q3⟩:=BA1.out.after (sg':=sg3) (v:=.slice s2 tbs.length c2) (fun g hg=>by rw[BA1.out.rt.1 g hg];decide) (bg_kept (wb:=wb) (i:=19) (v':=.slice s7 (tbs.length+1) c7) (jC HB4.out HB5.out) H3.out) BVA.out WSA.out QA.out hs3;obtain⟨wC,hwC⟩:∃wz,wz=w7.setCell ⟨wb,19,none⟩ (.slice s7 (tbs.length+1) c7):=⟨_,rfl⟩
     rw[←hwC] at bg3 bv3 q3 ⊢;have BC1:=jh bg3;have BVC:=jh bv3;have QC:=jh q3;have WSC:Hid (W.heap.size≤wC.heap.size):=jh bv3.size;clear hwC bg3 bv3 q3 hs3 H2 H3 HAT HB4 HB5 HM BA1 BVA QA WSA i0 hii hz0 hz1 hz2;have mc:=(jB BC1.out.top 20:wC.cell? ⟨wb,20,none⟩=some (.slice s3 abs.length c3))
     obtain⟨W4,hW4⟩:∃W4,W4=wC.alloc (.map #[] 0):=⟨_,rfl⟩
     have HM:Hid (MapT pfV marV KOk W4 wC.heap.size []):=jh (by rw[hW4];exact MapT.made wC);have HB4:Hid (Below wC.heap.size wC W4):=jh (by rw[hW4];exact(Below.refl _ _).alloc (Nat.le_refl _) _);obtain⟨W5,hW5⟩:∃W5,W5=W4.alloc (.cells #[mpV wC.heap.size] 51):=⟨_,rfl⟩
     have HB5:Hid (Below W4.heap.size W4 W5):=jh (by rw[hW5];exact(Below.refl _ _).alloc (Nat.le_refl _) _);have NC5:=jh (new_cells W4 #[mpV wC.heap.size] 51);have OA:=jh (jQ (jQ BC1.out.again.own HB4.out) HB5.out);have BAZ:Hid (W.heap.size≤W5.heap.size):=jh (Nat.le_trans WSC.out (jC HB4.out HB5.out).size);subst hW5;subst hW4;obtain⟨i0,hii,hz0,hz1,hz2⟩:=info_parts info_mapPB;have NC6:Hid (∀(j:Nat) (u:Value),[mpV wC.heap.size][j]? =some u→((wC.alloc (.map #[] 0)).alloc (.cells #[mpV wC.heap.size] 51)).cell? ((⟨wC.heap.size+1,0,none⟩:Addr).add j)=some u):=jh (by
      have h:=NC5.out;have e:(wC.alloc (.map #[] 0)).heap.size=wC.heap.size+1:=by simp
      rw[e] at h;exact h)
     go_wp2_with (at_builtin;refine wpList_append_own_at _ rfl _ _ 89 rfl W.heap.size 51 i0 _ 1 8 Tryz.underlying89 hii hz0 hz1 hz2 rfl (by decide) (.slice s3 abs.length c3) abs.length (abs.map mpV) rfl OA.out ⟨wC.heap.size+1,0,none⟩ 1 1 [mpV wC.heap.size] rfl rfl NC6.out (mp_one _) (by have:=LS.out.2.2;have:=LK.out;unfold maxLen;omega) (by have:=LS.out.2.2;have:=LK.out;omega) BAZ.out ?_);intro vv w7 h2 h3 _ hat;obtain⟨s7,c7,hv7,-⟩:=jV h2;subst hv7;have HAT:Hid ((Value.slice s7 (abs.length+1) c7).ownBlock=(Value.slice s3 abs.length c3).ownBlock∨(Value.slice s7 (abs.length+1) c7).ownBlock=some ((wC.alloc (.map #[] 0)).alloc (.cells #[mpV wC.heap.size] 51)).heap.size):=jh (by rcases hat with h|h;exact .inl h;right;rw[h];simp);have H2:=jh h2;have H3:=jh h3;have ht:=bg_top (jC HB4.out HB5.out) h3 BC1.out.top (fun e=>by have h1:=BC1.out.ra.1 _ e;rw[BC1.out.rwb] at h1;cases h1);have cz:=jB ht 20;have fz:=jN ht 20;clear h2 h3 hat ht NC5 NC6 OA BAZ mc;obtain⟨sg4,bg4,hs4⟩:=BC1.out.addAgain WSC.out HB4.out HM.out HB5.out H2.out H3.out HAT.out;obtain⟨bv4,q4⟩:=BC1.out.after (sg':=sg4) (v:=.slice s3 abs.length c3) (fun g hg=>by rw[BC1.out.ra.1 g hg];decide) (bg_kept (wb:=wb) (i:=20) (v':=.slice s7 (abs.length+1) c7) (jC HB4.out HB5.out) H3.out) BVC.out WSC.out QC.out hs4;have BD1:=jh bg4;have BVD:=jh bv4;have QD:=jh q4;have LSD:Hid ((rbs++[rb]).length=k+1∧(tbs++[wA.heap.size]).length=k+1∧(abs++[wC.heap.size]).length=k+1):=jh (by simp[LS.out.1,LS.out.2.1,LS.out.2.2]);clear bg4 bv4 q4 hs4 H2 H3 HAT HB4 HB5 HM BC1 BVC QC WSC i0 hii hz0 hz1 hz2;go_wp2_with fail;exact⟨⟨k+1,sg4,_,_,_,_,_,_,by have:=KN.out;omega,by go_num,BD1,LSD,BVD,QD⟩,by have:=KN.out;simp[intOf];omega⟩
    ·(try clear hb);go_simp;refine box_rb (p:=K _) ?_;intro w5 hcs5 hb5;(try replace c17:=jA c17 hb5);refine hK.out _ _ ?_ (fun hHeld=>?_);(·trivial);clear hK K;(try simp only[jz]);refine jr 1 fun K hK=>?_;(try clear hb);go_simp;go_wp2_with fail;refine hK.out _ _ ?_ (fun hHeld=>?_);(·trivial);clear hK K;(try simp only[jz]);refine jr 6 fun K hK=>?_;(try clear hb);refine wp_append_at (.tmp 16) (.tmp 20) 87 ?_ W.heap.size 93 i0 _ 1 8 Tryz.underlying87 hii hz0 hz1 hz2 rfl (by decide) (.slice s1 rbs.length c1) rbs.length (rbs.map rbV) ?_ (jQ (jQ BG0.out.row hb4) hb5) ⟨w4.heap.size,0,none⟩ 1 1 [rbV rb] ?_ rfl hcs5 (rb_one _) (by have:=LS.out.1;have:=LK.out;unfold maxLen;omega) (by have:=LS.out.1;have:=LK.out;omega) (Nat.le_trans WS0.out (jC hb4 hb5).size) ?_;(·rfl);(·rfl);(·rfl);intro v' w' hown hgrow hat;obtain⟨s6,c6,hv6,-⟩:=jV hown;subst hv6;refine hK.out _ _ ?_ (fun hHeld=>?_);(·trivial);clear hK K;(try simp only[jz]);refine qz 7 hHeld ?_;refine jr 8 fun K hK=>?_;(try clear hb);have ht:=bg_top (jC hb4 hb5) hgrow BG0.out.top (fun e=>by have h1:=BG0.out.rr _ e;rw[BG0.out.rwb] at h1;cases h1);have cz:=jB ht 17;have fz:=jN ht 17;go_simp;go_wp2_with fail;refine hK.out _ _ ?_ (fun hHeld=>?_);(·trivial);clear hK K;(try simp only[Act.put]);refine wpAnyH_done (by kernel_rfl) ?_ _;obtain⟨sg2,bg2,hs2⟩:=BG0.out.addRib WS0.out hb4 (by rw[LS.out.1,←MN.out];exact hr) hb5 hown hgrow hat;obtain⟨bv2,q2⟩:=BG0.out.after (sg':=sg2) (v:=.slice s1 rbs.length c1) (fun g hg=>by rw[BG0.out.rr g hg];decide) (bg_kept (wb:=wb) (i:=17) (v':=.slice s6 (rbs.length+1) c6) (jC hb4 hb5) hgrow) BV0.out WS0.out Q40.out hs2;obtain⟨wA,hwA⟩:∃wz,wz=w'.setCell ⟨wb,17,none⟩ (.slice s6 (rbs.length+1) c6):=⟨_,rfl⟩
     rw[←hwA] at bg2 bv2 q2 ⊢;have BA1:=jh bg2;have BVA:=jh bv2;have QA:=jh q2;have WSA:Hid (W.heap.size≤wA.heap.size):=jh bv2.size;clear hwA bg2 bv2 q2 hs2 hown hgrow hat hcs5 hb5 hb4 hr ht cz fz BG0 BV0 Q40 WS0 c17 hHeld i0 hii hz0 hz1 hz2;have mc:=(jB BA1.out.top 19:wA.cell? ⟨wb,19,none⟩=some (.slice s2 tbs.length c2))
     obtain⟨W4,hW4⟩:∃W4,W4=wA.alloc (.map #[] 0):=⟨_,rfl⟩
     have HM:Hid (MapT pfV beV KOk W4 wA.heap.size []):=jh (by rw[hW4];exact MapT.made wA);have HB4:Hid (Below wA.heap.size wA W4):=jh (by rw[hW4];exact(Below.refl _ _).alloc (Nat.le_refl _) _);obtain⟨W5,hW5⟩:∃W5,W5=W4.alloc (.cells #[mpV wA.heap.size] 64):=⟨_,rfl⟩
     have HB5:Hid (Below W4.heap.size W4 W5):=jh (by rw[hW5];exact(Below.refl _ _).alloc (Nat.le_refl _) _);have NC5:=jh (new_cells W4 #[mpV wA.heap.size] 64);have OA:=jh (jQ (jQ BA1.out.told.own HB4.out) HB5.out);have BAZ:Hid (W.heap.size≤W5.heap.size):=jh (Nat.le_trans WSA.out (jC HB4.out HB5.out).size);subst hW5;subst hW4;obtain⟨i0,hii,hz0,hz1,hz2⟩:=info_parts info_mapPR;have NC6:Hid (∀(j:Nat) (u:Value),[mpV wA.heap.size][j]? =some u→((wA.alloc (.map #[] 0)).alloc (.cells #[mpV wA.heap.size] 64)).cell? ((⟨wA.heap.size+1,0,none⟩:Addr).add j)=some u):=jh (by
      have h:=NC5.out;have e:(wA.alloc (.map #[] 0)).heap.size=wA.heap.size+1:=by simp
      rw[e] at h;exact h)
     go_wp2_with (at_builtin;refine wpList_append_own_at _ rfl _ _ 63 rfl W.heap.size 64 i0 _ 1 8 Tryz.underlying63 hii hz0 hz1 hz2 rfl (by decide) (.slice s2 tbs.length c2) tbs.length (tbs.map mpV) rfl OA.out ⟨wA.heap.size+1,0,none⟩ 1 1 [mpV wA.heap.size] rfl rfl NC6.out (mp_one _) (by have:=LS.out.2.1;have:=LK.out;unfold maxLen;omega) (by have:=LS.out.2.1;have:=LK.out;omega) BAZ.out ?_);intro vv w7 h2 h3 _ hat;obtain⟨s7,c7,hv7,-⟩:=jV h2;subst hv7;have HAT:Hid ((Value.slice s7 (tbs.length+1) c7).ownBlock=(Value.slice s2 tbs.length c2).ownBlock∨(Value.slice s7 (tbs.length+1) c7).ownBlock=some ((wA.alloc (.map #[] 0)).alloc (.cells #[mpV wA.heap.size] 64)).heap.size):=jh (by rcases hat with h|h;exact .inl h;right;rw[h];simp);have H2:=jh h2;have H3:=jh h3;have ht:=bg_top (jC HB4.out HB5.out) h3 BA1.out.top (fun e=>by have h1:=BA1.out.rt.1 _ e;rw[BA1.out.rwb] at h1;cases h1);have cz:=jB ht 19;have fz:=jN ht 19;clear h2 h3 hat ht NC5 NC6 OA BAZ mc;go_upto_region 7 with (fail)
     clear cz fz;obtain⟨sg3,bg3,hs3⟩:=BA1.out.addTold WSA.out HB4.out HM.out HB5.out H2.out H3.out HAT.out;obtain⟨bv3,q3⟩:=BA1.out.after (sg':=sg3) (v:=.slice s2 tbs.length c2) (fun g hg=>by rw[BA1.out.rt.1 g hg];decide) (bg_kept (wb:=wb) (i:=19) (v':=.slice s7 (tbs.length+1) c7) (jC HB4.out HB5.out) H3.out) BVA.out WSA.out QA.out hs3;obtain⟨wC,hwC⟩:∃wz,wz=w7.setCell ⟨wb,19,none⟩ (.slice s7 (tbs.length+1) c7):=⟨_,rfl⟩
     rw[←hwC] at bg3 bv3 q3 ⊢;have BC1:=jh bg3;have BVC:=jh bv3;have QC:=jh q3;have WSC:Hid (W.heap.size≤wC.heap.size):=jh bv3.size;clear hwC bg3 bv3 q3 hs3 H2 H3 HAT HB4 HB5 HM BA1 BVA QA WSA i0 hii hz0 hz1 hz2;have mc:=(jB BC1.out.top 20:wC.cell? ⟨wb,20,none⟩=some (.slice s3 abs.length c3))
     obtain⟨W4,hW4⟩:∃W4,W4=wC.alloc (.map #[] 0):=⟨_,rfl⟩
     have HM:Hid (MapT pfV marV KOk W4 wC.heap.size []):=jh (by rw[hW4];exact MapT.made wC);have HB4:Hid (Below wC.heap.size wC W4):=jh (by rw[hW4];exact(Below.refl _ _).alloc (Nat.le_refl _) _);obtain⟨W5,hW5⟩:∃W5,W5=W4.alloc (.cells #[mpV wC.heap.size] 51):=⟨_,rfl⟩
     have HB5:Hid (Below W4.heap.size W4 W5):=jh (by rw[hW5];exact(Below.refl _ _).alloc (Nat.le_refl _) _);have NC5:=jh (new_cells W4 #[mpV wC.heap.size] 51);have OA:=jh (jQ (jQ BC1.out.again.own HB4.out) HB5.out);have BAZ:Hid (W.heap.size≤W5.heap.size):=jh (Nat.le_trans WSC.out (jC HB4.out HB5.out).size);subst hW5;subst hW4;obtain⟨i0,hii,hz0,hz1,hz2⟩:=info_parts info_mapPB;have NC6:Hid (∀(j:Nat) (u:Value),[mpV wC.heap.size][j]? =some u→((wC.alloc (.map #[] 0)).alloc (.cells #[mpV wC.heap.size] 51)).cell? ((⟨wC.heap.size+1,0,none⟩:Addr).add j)=some u):=jh (by
      have h:=NC5.out;have e:(wC.alloc (.map #[] 0)).heap.size=wC.heap.size+1:=by simp
      rw[e] at h;exact h)
     go_wp2_with (at_builtin;refine wpList_append_own_at _ rfl _ _ 89 rfl W.heap.size 51 i0 _ 1 8 Tryz.underlying89 hii hz0 hz1 hz2 rfl (by decide) (.slice s3 abs.length c3) abs.length (abs.map mpV) rfl OA.out ⟨wC.heap.size+1,0,none⟩ 1 1 [mpV wC.heap.size] rfl rfl NC6.out (mp_one _) (by have:=LS.out.2.2;have:=LK.out;unfold maxLen;omega) (by have:=LS.out.2.2;have:=LK.out;omega) BAZ.out ?_);intro vv w7 h2 h3 _ hat;obtain⟨s7,c7,hv7,-⟩:=jV h2;subst hv7;have HAT:Hid ((Value.slice s7 (abs.length+1) c7).ownBlock=(Value.slice s3 abs.length c3).ownBlock∨(Value.slice s7 (abs.length+1) c7).ownBlock=some ((wC.alloc (.map #[] 0)).alloc (.cells #[mpV wC.heap.size] 51)).heap.size):=jh (by rcases hat with h|h;exact .inl h;right;rw[h];simp);have H2:=jh h2;have H3:=jh h3;have ht:=bg_top (jC HB4.out HB5.out) h3 BC1.out.top (fun e=>by have h1:=BC1.out.ra.1 _ e;rw[BC1.out.rwb] at h1;cases h1);have cz:=jB ht 20;have fz:=jN ht 20;clear h2 h3 hat ht NC5 NC6 OA BAZ mc;obtain⟨sg4,bg4,hs4⟩:=BC1.out.addAgain WSC.out HB4.out HM.out HB5.out H2.out H3.out HAT.out;obtain⟨bv4,q4⟩:=BC1.out.after (sg':=sg4) (v:=.slice s3 abs.length c3) (fun g hg=>by rw[BC1.out.ra.1 g hg];decide) (bg_kept (wb:=wb) (i:=20) (v':=.slice s7 (abs.length+1) c7) (jC HB4.out HB5.out) H3.out) BVC.out WSC.out QC.out hs4;have BD1:=jh bg4;have BVD:=jh bv4;have QD:=jh q4;have LSD:Hid ((rbs++[rb]).length=k+1∧(tbs++[wA.heap.size]).length=k+1∧(abs++[wC.heap.size]).length=k+1):=jh (by simp[LS.out.1,LS.out.2.1,LS.out.2.2]);clear bg4 bv4 q4 hs4 H2 H3 HAT HB4 HB5 HM BC1 BVC QC WSC i0 hii hz0 hz1 hz2;go_wp2_with fail;exact⟨⟨k+1,sg4,_,_,_,_,_,_,by have:=KN.out;omega,by go_num,BD1,LSD,BVD,QD⟩,by have:=KN.out;simp[intOf];omega⟩
  ·obtain rfl:k=N:=by omega
   obtain⟨s1,c1,rfl,-⟩:=jV BG.out.row;obtain⟨s2,c2,rfl,-⟩:=jV BG.out.told.own;obtain⟨s3,c3,rfl,-⟩:=jV BG.out.again.own;clear hk hkn;go_wp2_with ((with_reducible refine jM (X:=.load 91 (.tmp 5)) ?_ ?_);(·rfl));unfold Halt;refine ld_at (by rfl) 91 (.tmp 5) rfl wb rfl 91 (bgC k kb (.slice s1 rbs.length c1) (.slice s2 tbs.length c2) (.slice s3 abs.length c3)) (0,0) _ BG.out.top Tryz.underlying91 rfl sz_world ?_;go_wp2_with ((with_reducible refine jM (X:=.store 91 (.tmp 4) (.tmp 35)) ?_ ?_);(·rfl));unfold Halt;refine st_row rfl 91 _ _ rfl rb4 rfl 91 bgZ (bgC k kb (.slice s1 rbs.length c1) (.slice s2 tbs.length c2) (.slice s3 abs.length c3)) rfl Q4.out.1 (by kernel_rfl) rfl (bg_one _ _ _ _ _ _ _ _ _ _ _) ?_;have HK:=jh (kept_setRow (w:=wr) (F:=fun q=>q=rb4) rb4 (bgC k kb (.slice s1 rbs.length c1) (.slice s2 tbs.length c2) (.slice s3 abs.length c3)) rfl);have FIN:Hid (BgI (wr.setRow rb4 (bgC k kb (.slice s1 rbs.length c1) (.slice s2 tbs.length c2) (.slice s3 abs.length c3))) sg W.heap.size wb kb k mm (.slice s1 rbs.length c1) (.slice s2 tbs.length c2) (.slice s3 abs.length c3) rbs tbs abs):=jh (by
    obtain⟨k1,k2,k3,k4,k5,k6,k7,k8,k9,k10⟩:=BG.out.keep (sg':=sg) HK.out .no .no (fun q _ e=>.inr (.inr (by rw[e];exact Q4.out.2))) fun _ _=>rfl;refine⟨fun q hq=>⟨(BG.out.dom q hq).1,Nat.lt_of_lt_of_le (BG.out.dom q hq).2 HK.out.size⟩,(HK.out.block _ (jE BG.out.top) fun e=>?_).trans BG.out.top,k9,k1 (by decide) (by decide),k10,k2 (by decide) (by decide),k3,fun i r=>k4 i r (by intro e;cases e) (by intro e;cases e),k5 (by decide) (by decide),k6,k7 (by decide) (by decide),k8⟩;have:=BG.out.rwb;rw[e,Q4.out.2] at this;cases this)
   have BF:Hid (Below W.heap.size W (wr.setRow rb4 (bgC k kb (.slice s1 rbs.length c1) (.slice s2 tbs.length c2) (.slice s3 abs.length c3)))):=jh (below_setRow BV.out (Nat.le_of_eq RB4.out.symm) _);go_wp2_with fail;refine bodyPost_ret (results_begin _ _ rb4 (bgC k kb (.slice s1 rbs.length c1) (.slice s2 tbs.length c2) (.slice s3 abs.length c3)) rfl ?_ (setRow_heap _ _ _ _ _ _ Q4.out.1)) rfl ⟨sg,wb,kb,_,_,_,rbs,tbs,abs,rfl,FIN.out,LS.out,BF.out⟩<;>rfl
open Go.RowKit
section
variable {w W W1 W2:World} {rho rho':Nat→Role} {sb fb:Nat} {ls:List Pl} {A:Ab} {sg:Nat→Lc} {BB N:Nat} {most:Int} {R:Nat→Rts} {bl th:Nat→Bool} {L:Lw} {kl:List (List (Pf×BE))} {al:List (List (Pf×Bool))}
theorem LSv.goodR (h:LSv w W rho sb fb ls A) {i:Nat} {p:Pf} {a:At} (hp:getL (A.R i) p=some a):GoodA a:=by
 obtain⟨S,h1,h2⟩:=h.srv;cases hm:S.ms[i]? with
 |none=>
  have:A.V[i]? =none:=by rw[←h2.V,RV_get,hm];rfl
  unfold Ab.R at hp;rw[this] at hp;cases hp
 |some m=>
  obtain⟨l,-,hM⟩:=h1.get hm;rw[(h2.get hm).2] at hp;exact hM.good p a hp
theorem ls_News_no (h:LSv w W rho sb fb ls A) {n:Int} (hn:¬(0≤n∧n<(A.V.length:Int))):Calls Tryz.prog 17 #[.pointer (some ⟨sb,0,none⟩),.int .i64 n] W fun e w'=>e=.returned (.slice none 0 0)∧W=w':=by
 obtain⟨S,h1,h2⟩:=h.srv;exact sv_News_no h1 (by rw[h2.len];exact hn)
theorem ls_Mark_no (h:LSv w W rho sb fb ls A) {n:Int} (hn:¬(0≤n∧n<(A.V.length:Int))) (v:Value):Calls Tryz.prog 16 #[.pointer (some ⟨sb,0,none⟩),.int .i64 n,v] W fun e w'=>e=.returned (.tuple #[])∧W=w':=by
 obtain⟨S,h1,h2⟩:=h.srv;exact sv_Mark_no h1 (by rw[h2.len];exact hn) v
theorem ls_Sides (h:LSv w W rho sb fb ls A):Calls Tryz.prog 33 #[.pointer (some ⟨sb,0,none⟩)] W fun e w'=>e=.returned (.int .i64 A.V.length)∧W=w':=by
 obtain⟨S,h1,h2⟩:=h.srv;rw[←h2.len];exact sv_Sides h1
theorem ls_NetsO (h:LSv w W rho sb fb ls A):Calls Tryz.prog 34 #[.pointer (some ⟨sb,0,none⟩)] W fun e w'=>∃(s:Option Addr) (c:Nat) (ps:List Pf),e=.returned (.slice s ps.length c)∧OwnPs w' W.heap.size (.slice s ps.length c) ps∧Srt ps∧(∀p,p∈ps↔saysR A.R A.V.length p)∧Below W.heap.size W w':=by
 obtain⟨S,h1,h2⟩:=h.srv;refine(sv_Nets h1).mono ?_;rintro e w' ⟨v,ps,rfl,g2,g3,g4,-,-,g7⟩;obtain⟨s,c,rfl,-⟩:=jV g2.1;refine⟨s,c,ps,rfl,g2,g3,fun p=>?_,g7⟩;rw[g4 p,h2.len];constructor
 ·rintro⟨i,m,hi,hm,hp⟩;exact⟨i,hi,by rw[(h2.get hm).2];exact hp⟩
 ·rintro⟨i,hi,hp⟩;obtain⟨m,hm⟩:=h2.at hi;exact⟨i,m,hi,hm,by rw[←(h2.get hm).2];exact hp⟩
theorem LwM.told_at (h:LwM W rho sg BB N most R bl th L kl al) {i:Nat} (hi:i<N):∃(b:Nat) (l:List (Pf×BE)),L.tbs[i]? =some b∧kl[i]? =some l∧(W.cell? ⟨L.tg,i,none⟩=some (.map (some b))∧W.frozen? ⟨L.tg,i,none⟩=false)∧MapT pfV beV KOk W b l∧KnT l∧(∀x∈l,AvAt W x.2.a x.2.v)∧sg b=.told:=by
 obtain⟨D,h1,h2⟩:=h.told;obtain⟨b,l,hb,hl,hc,hm,hk,-⟩:=h1.at (by rw[h.tln];exact hi);exact⟨b,l,hb,hl,hc,hm,hk,h1.val.self l (List.mem_of_getElem? hl),h2 b (.inl (List.mem_cons_of_mem _ (List.mem_of_getElem? hb)))⟩
theorem LwM.again_at (h:LwM W rho sg BB N most R bl th L kl al) {i:Nat} (hi:i<N):∃(b:Nat) (l:List (Pf×Bool)),L.abs[i]? =some b∧al[i]? =some l∧(W.cell? ⟨L.ag,i,none⟩=some (.map (some b))∧W.frozen? ⟨L.ag,i,none⟩=false)∧MapT pfV marV KOk W b l∧(∀x∈l,RgtP x.1)∧sg b=.again:=by
 obtain⟨b,l,hb,hl,hc,hm,hk,-⟩:=h.again.at (by rw[h.aln];exact hi);exact⟨b,l,hb,hl,hc,hm,hk,h.rag b (List.mem_cons_of_mem _ (List.mem_of_getElem? hb))⟩
theorem LwM.klen (h:LwM W rho sg BB N most R bl th L kl al):kl.length=N:=by obtain⟨D,h1,-⟩:=h.told;rw[h1.len,h.tln]
theorem LwM.alen (h:LwM W rho sg BB N most R bl th L kl al):al.length=N:=by rw[h.again.len,h.aln]
theorem LwM.toldNew (h:LwM W rho sg BB N most R bl th L kl al) {i b':Nat} (hi:i<N) (hb:Below W.heap.size W W1) (hm:MapT pfV beV KOk W1 b' []) (hn:W.heap.size≤b') (hno:rho b'=.no) (hB:BB≤W.heap.size):
  ∃sg',LwM (W1.setCell ⟨L.tg,i,none⟩ (.map (some b'))) rho sg' BB N most R bl th {L with tbs:=L.tbs.set i b'} (kl.set i []) al:=by
 obtain⟨D,h1,h2⟩:=h.told;have h3:=h1.anew (by rw[h.tln];exact hi) hb hm hn hno hB rfl;have hk:Kept (fun k=>k=L.tg) W (W1.setCell ⟨L.tg,i,none⟩ (.map (some b'))):=(Kept.of_below hb).trans (Kept.setCell _ _ rfl);obtain⟨sg',g1,-,-⟩:=h.setTold hk (fun k _ e=>by rw[e];exact h2 _ (.inl (List.mem_cons_self ..))) h3 (fun k hl hk'=>by
  rcases hk' with hk'|hk'
  ·rcases List.mem_cons.1 hk' with rfl|hk'
   ·exact h2 _ (.inl (List.mem_cons_self ..))
   ·rcases List.mem_or_eq_of_mem_set hk' with hk'|rfl
    ·exact h2 k (.inl (List.mem_cons_of_mem _ hk'))
    ·omega
  ·exact h2 k (.inr hk')) (by rw[List.length_set];exact h.tln) hB
 exact⟨sg',g1⟩
theorem LwM.againNew (h:LwM W rho sg BB N most R bl th L kl al) {i b':Nat} (hi:i<N) (hb:Below W.heap.size W W1) (hm:MapT pfV marV KOk W1 b' []) (hn:W.heap.size≤b') (hno:rho b'=.no) (hB:BB≤W.heap.size):
  ∃sg',LwM (W1.setCell ⟨L.ag,i,none⟩ (.map (some b'))) rho sg' BB N most R bl th {L with abs:=L.abs.set i b'} kl (al.set i []):=by
 have h3:=h.again.anew (by rw[h.aln];exact hi) hb hm hn hno hB rfl;have hk:Kept (fun k=>k=L.ag) W (W1.setCell ⟨L.ag,i,none⟩ (.map (some b'))):=(Kept.of_below hb).trans (Kept.setCell _ _ rfl);obtain⟨sg',g1,-,-⟩:=h.setAgain hk (fun k _ e=>by rw[e];exact h.rag _ (List.mem_cons_self ..)) h3 (fun k hl hk'=>by
  rcases List.mem_cons.1 hk' with rfl|hk'
  ·exact h.rag _ (List.mem_cons_self ..)
  ·rcases List.mem_or_eq_of_mem_set hk' with hk'|rfl
   ·exact h.rag k (List.mem_cons_of_mem _ hk')
   ·omega) (by rw[List.length_set];exact h.aln) hB
 exact⟨sg',g1⟩
theorem LwM.toldDel (h:LwM W rho sg BB N most R bl th L kl al) {i b:Nat} {l:List (Pf×BE)} {p:Pf} (hb:L.tbs[i]? =some b) (hl:kl[i]? =some l) (hp:RgtP p) (hk:Kept (fun k=>k=b) W W2) (hm:MapT pfV beV KOk W2 b (delL l p)) (hB:BB≤W.heap.size):
  ∃sg',LwM W2 rho sg' BB N most R bl th L (kl.set i (tell1 l p none)) al∧∀k,k<W.heap.size→sg' k=sg k:=by
 obtain⟨D,h1,h2⟩:=h.told;have h3:=h1.del hb hl hp hk hm;obtain⟨sg',g1,g2,-⟩:=h.setTold hk (fun k _ e=>by rw[e];exact h2 _ (.inl (List.mem_cons_of_mem _ (List.mem_of_getElem? hb)))) h3 (fun k hl hk'=>by
  rcases hk' with hk'|hk'|hk'
  ·exact h2 k (.inl hk')
  ·exact h2 k (.inr hk')
  ·exact h2 k (.inr hk')) h.tln hB
 exact⟨sg',g1,g2⟩
theorem LwM.toldPut (h:LwM W rho sg BB N most R bl th L kl al) {i b:Nat} {l:List (Pf×BE)} {p:Pf} (hb:L.tbs[i]? =some b) (hl:kl[i]? =some l) (hp:RgtP p) {y:BE} (hy:y.p=p) (b01:Below W.heap.size W W1) (fr:Fresh W.heap.size W1 (fun W=>AvAt W y.a y.v)) (hr:∀k,W.heap.size≤k→rho k=.no)
  (hk:Kept (fun k=>k=b) W1 W2) (hm:MapT pfV beV KOk W2 b (putL l p y)) (hB:BB≤W.heap.size):∃sg',LwM W2 rho sg' BB N most R bl th L (kl.set i (tell1 l p (some y))) al∧∀k,k<W.heap.size→sg' k=sg k:=by
 obtain⟨D,h1,h2⟩:=h.told;have h3:=h1.put hb hl hp hy b01 fr hr hk hm;have hk2:Kept (fun k=>k=b) W W2:=(Kept.of_below b01).trans hk;obtain⟨sg',g1,g2,-⟩:=h.setTold hk2 (fun k _ e=>by rw[e];exact h2 _ (.inl (List.mem_cons_of_mem _ (List.mem_of_getElem? hb)))) h3 (fun k hl hk'=>by
  rcases hk' with hk'|hk'|hk'|hk'
  ·exact h2 k (.inl hk')
  ·exact h2 k (.inr hk')
  ·exact h2 k (.inr hk')
  ·omega) h.tln hB
 exact⟨sg',g1,g2⟩
theorem LwM.againPut (h:LwM W rho sg BB N most R bl th L kl al) {i b:Nat} {l:List (Pf×Bool)} {p:Pf} (hb:L.abs[i]? =some b) (hl:al[i]? =some l) (hp:RgtP p) (hk:Kept (fun k=>k=b) W W2) (hm:MapT pfV marV KOk W2 b (putL l p true)) (hB:BB≤W.heap.size):
  ∃sg',LwM W2 rho sg' BB N most R bl th L kl (al.set i (putL l p true))∧∀k,k<W.heap.size→sg' k=sg k:=by
 have h3:=h.again.change hb hk hm fun x hx=>by
  rcases mem_put hx with⟨h4,-⟩|rfl
  ·exact(h.again.map i b l hb hl).2 x h4
  ·exact hp
 obtain⟨sg',g1,g2,-⟩:=h.setAgain hk (fun k _ e=>by rw[e];exact h.rag _ (List.mem_cons_of_mem _ (List.mem_of_getElem? hb))) h3 (fun k hl hk'=>h.rag k hk') h.aln hB;exact⟨sg',g1,g2⟩
theorem BgI.lwm {wb kb:Nat} {v1 v2 v3:Value} {rbs tbs abs:List Nat} (h:BgI W sg BB wb kb N most v1 v2 v3 rbs tbs abs) (hl:rbs.length=N∧tbs.length=N∧abs.length=N) (hN:0<N) (hB:BB≤W.heap.size) (hr:∀k,BB≤k→rho k=.no):
  ∃(L:Lw) (sg':Nat→Lc),L.wb=W.heap.size∧bgC N kb v1 v2 v3=wdC N (fun _=>false) L∧LwM (W.alloc (.cells (bgC N kb v1 v2 v3) 91)) rho sg' BB N most (fun _=>[]) (fun _=>false) (fun _=>false) L (List.replicate N []) (List.replicate N []):=by
 obtain⟨l1,l2,l3⟩:=hl;obtain⟨j,hj⟩:∃j,N=j+1:=⟨N - 1,by omega⟩
 have form:∀{T:TypeId} {v:Value} {n:Nat} {xs:List Value},W.ownsRow BB T 1 v n xs→n=N→∃g c,v=.slice (some ⟨g,0,none⟩) N c:=by
  intro T v n xs ho e;obtain⟨_,⟨_,e2⟩|⟨g,cap,cur,e2,_⟩⟩:=ho
  ·omega
  ·exact⟨g,cap,by rw[e2,e]⟩
 obtain⟨rg,rc,rfl⟩:=form h.row l1;have ho2:=h.told.own;rw[l2] at ho2;obtain⟨tg,tc,rfl⟩:=form h.told.own l2;obtain⟨ag,ac,rfl⟩:=form h.again.own l3;have kn:=MadeM.kn (s:=some ⟨tg,0,none⟩) (c:=tc) (bs:=tbs) (by rw[l2];exact h.told) (by omega) (rho:=rho) hr;obtain⟨tg',e1,kn⟩:=kn;injection e1 with e1;injection e1 with e1 _ _;subst e1;have hb:Below W.heap.size W (W.alloc (.cells (bgC N kb (.slice (some ⟨rg,0,none⟩) N rc) (.slice (some ⟨tg,0,none⟩) N tc) (.slice (some ⟨ag,0,none⟩) N ac)) 91)):=(Below.refl _ _).alloc (Nat.le_refl _) _;have hk:Kept (fun _=>False) W (W.alloc (.cells (bgC N kb (.slice (some ⟨rg,0,none⟩) N rc) (.slice (some ⟨tg,0,none⟩) N tc) (.slice (some ⟨ag,0,none⟩) N ac)) 91)):=Kept.of_below hb;obtain⟨sg',hsg⟩:∃sg':Nat→Lc,sg'=fun k=>if k<W.heap.size then sg k else if k=W.heap.size then .top else .no:=⟨_,rfl⟩
 have hs:∀k,k<W.heap.size→sg' k=sg k:=fun k hl=>by rw[hsg];simp only;rw[if_pos hl]
 obtain⟨k1,k2,k3,k4,k5,k6,k7,k8,k9,k10⟩:=h.keep (sg':=sg') hk .no .no (fun k _ hf=>hf.elim) hs;refine⟨⟨W.heap.size,rg,rc,rbs,kb,tg,tc,tbs,ag,ac,abs⟩,sg',rfl,rfl,⟨fun k hk'=>?_,heap_alloc_new W _,?_,?_,k3 rg rfl,l1,fun i r hi=>?_,⟨[],k1 (by decide) (by decide),(fun x hx=>by cases hx),fun i j _ _=>rfl⟩,k10,⟨fun _=>False,?_,?_⟩,l2,?_,?_,l3⟩⟩
 ·by_cases h1:k<W.heap.size
  ·rw[hs k h1] at hk';have:=h.dom k hk';exact⟨hr k this.1,by simp;omega,this.1⟩
  ·by_cases h2:k=W.heap.size
   ·exact⟨hr k (by omega),by simp;omega,by omega⟩
   ·rw[hsg] at hk';simp only at hk';rw[if_neg h1,if_neg h2] at hk';exact absurd rfl hk'
 ·rw[hsg];simp
 ·have:=k2 (by decide) (by decide);rw[l1] at this;exact this
 ·exact k4 i r (by intro e;cases e) (by intro e;cases e) hi
 ·have:=kn.below hb;rw[l2] at this;exact this
 ·intro k hk';rcases hk' with hk'|hk'
  ·rcases List.mem_cons.1 hk' with rfl|hk'
   ·exact k6.1 _ rfl
   ·exact k6.2 k hk'
  ·exact hk'.elim
 ·have ha:=k7 (by decide) (by decide);refine⟨by rw[l3];have:=ha.own;rw[l3] at this;exact this,by simp[l3],fun i b l hb' hl'=>?_,?_,fun k hk'=>?_,fun k hk'=>?_⟩
  ·rw[List.getElem?_replicate] at hl';split at hl'
   ·injection hl' with hl';subst hl';exact⟨(ha.map b (List.mem_of_getElem? hb')).1,fun x hx=>by cases hx⟩
   ·cases hl'
  ·rw[List.nodup_cons];exact⟨fun hg=>(ha.map ag hg).2.2 rfl,ha.nd⟩
  ·rcases List.mem_cons.1 hk' with rfl|hk'
   ·exact jJ ha.own _ rfl
   ·exact(ha.map k hk').2.1
  ·rcases List.mem_cons.1 hk' with rfl|hk'
   ·exact⟨hr _ (jJ ha.own _ rfl),own_lt ha.own _ rfl⟩
   ·exact⟨hr _ (ha.map k hk').2.1,(ha.map k hk').1.lt⟩
 ·intro k hk';rcases List.mem_cons.1 hk' with rfl|hk'
  ·exact k8.1 _ rfl
  ·exact k8.2 k hk'
structure RunI (w W:World) (rho:Nat→Role) (sb fb:Nat) (ls:List Pl) (A:Ab) (sg:Nat→Lc) (BB wb N:Nat) (most:Int) (L:Lw) (kl:List (List (Pf×BE))) (al:List (List (Pf×Bool))):Prop where
 srv:LSv w W rho sb fb ls A
 lw:LwM W rho sg BB N most A.R A.bl A.th L kl al
 ok:LwOk A N
 mst:A.most=most
 kn:∀(i:Nat) l,kl[i]? =some l→KnOk A i l
 agn:∀(i:Nat) l,al[i]? =some l→AgOk A i l
 wbe:L.wb=wb
 bb1:w.heap.size≤BB
 bb2:BB≤W.heap.size
theorem RunI.below {wb:Nat} (h:RunI w W rho sb fb ls A sg BB wb N most L kl al) (hb:Below W.heap.size W W1):RunI w W1 rho sb fb ls A sg BB wb N most L kl al:=
 ⟨h.srv.below hb,h.lw.below hb,h.ok,h.mst,h.kn,h.agn,h.wbe,h.bb1,Nat.le_trans h.bb2 hb.size⟩
end
open Go.RowKit
theorem Step.freeB {rho rho':Nat→Role} {W W':World} {B:Nat} {Q:World→Prop} (h:Step rho rho' W W') (hQ:On (fun k=>rho k=.no∧B≤k) W Q):On (fun k=>rho' k=.no∧B≤k) W' Q:=
 fun W'' hW=>hQ W'' fun k hk hl=>(hW k ⟨(h.same k hl).trans hk.1,hk.2⟩ (Nat.lt_of_lt_of_le hl h.kept.size)).trans (h.kept.block k hl (fun hn=>hn hk.1))
theorem sv_UpdateO {W:World} {rho:Nat→Role} {sb fb:Nat} {ls:List Pl} {S:Sv} (h:SrvM W rho sb fb ls S) {i:Nat} {m:Pm} (hm:S.ms[i]? =some m) (hth:m.there=true) (x:Ms) (hx:On (fun k=>rho k=.no) W (fun W=>MsAt W x)) (hg:GoodA x.a) (hz:x.gone.length+x.nets.length≤656):
  Calls Tryz.prog 20 #[.pointer (some ⟨sb,0,none⟩),.int .i64 i,x.m.V] W fun e w'=>∃rho' v,e=.returned (.tuple #[v,.int .i64 (updP S.own S.most m.R x.m.kind x.gone x.nets x.a).1])∧SrvM w' rho' sb fb ls (updS S i m x.m.kind x.gone x.nets x.a)∧Step rho rho' W w'∧
   On (fun k=>rho' k=.no∧W.heap.size≤k) w' (fun W=>PsAt W v (updP S.own S.most m.R x.m.kind x.gone x.nets x.a).2.1):=by
 obtain⟨l,hl,hM⟩:=h.get hm;have HS:=jh h;have HM:=jh hm;have HL:=jh hl;have HX:=jh hx;have HG:=jh hg;have RGS:Hid (∀p∈x.gone,OkP p):=jh (ps_ok hx.self.gone);have RNS:Hid (∀p∈x.nets,OkP p):=jh (ps_ok hx.self.nets);have GD:Hid (∀p b,getL (updP S.own S.most m.R x.m.kind x.gone x.nets x.a).2.2 p=some b→GoodA b):=jh fun p b hb=>by
  rcases updP_get hb with h|h
  ·exact hM.good p b h
  ·rw[h];exact hg
 have UP:=jh (fun w' (hb:Below W.heap.size W w')=>ad_Update x.m x.gone x.nets x.a w' (hM.rib.below hb) (hx.self.gone.below hb) (hx.self.nets.below hb) (fun W' hk=>(((hx.below hb).kept hk fun k _ h1 h2=>by rw[h1] at h2;cases h2).self).a) hz hg.sz);have m2:W.cell? ⟨l.mb,2,none⟩=some (.bool true):=by rw[←hth];exact jB hM.row 2
 have m3:W.cell? ⟨l.mb,3,none⟩=some (.pointer (some ⟨l.rb,0,none⟩)):=jB hM.row 3;have NMB:Hid (¬rho l.mb=.rib i):=jh (by rw[hM.rmb];intro e;cases e);obtain⟨r,hr⟩:∃r,updP S.own S.most m.R x.m.kind x.gone x.nets x.a=r:=⟨_,rfl⟩
 have HRR:=jh hr;rw[hr] at UP GD ⊢;have US:Hid (updS S i m x.m.kind x.gone x.nets x.a=if r.1=0 then turnS (turnS (setR S i r.2.2) x.gone) x.nets else S):=jh (by unfold updS;rw[hr]);clear h hm hl hM hx hg hth hr hz;obtain⟨T,hT⟩:∃T,updS S i m x.m.kind x.gone x.nets x.a=T:=⟨_,rfl⟩
 rw[hT] at US ⊢;clear hT;go_enter Tryz.func20,Tryz.ntmps20;go_upto_region 1 with (fail)
 obtain⟨W0,hW0,q0,hB,-⟩:=box_msg W x.m;rw[←hW0];obtain⟨pb,hpb⟩:∃pb,pb=W.heap.size:=⟨_,rfl⟩
 have NPB:Hid (rho pb=.no):=jh (by
  cases hr:rho pb with
  |no=>rfl
  |_=>exact absurd (HS.out.dom pb (by rw[hr];intro e;cases e)) (by omega))
 rw[←hpb] at q0 ⊢;have Q0:=jh q0;have B0:=jh hB;have m2:=jA m2 hB;have m3:=jA m3 hB;have HS0:=jh (HS.out.below hB);have MB:=jh (sv_member HS0.out HL.out);have UP0:=jh (fun w' (hb:Below W0.heap.size W0 w')=>UP.out w' (jC B0.out hb));clear hW0 hB q0 hpb UP;go_wp2_with fail;refine MB.out.mono ?_;rintro e w1 ⟨rfl,rfl⟩;have BD:=Below.refl W0.heap.size W0;go_wp2_with fail;go_upto_region 6 with (fail)
 have BDD:=BD.drew;go_cut [9,10] from 21 to 29 (fun v9 v10 wx=>∃(rho1:Nat→Role) (s8:Option Addr) (c8:Nat),v9=.slice s8 r.2.1.length c8∧v10=.int .i64 r.1∧Hid (SrvM wx rho1 sb fb ls (setR S i r.2.2)∧Step rho rho1 W0 wx∧On (fun k=>rho1 k=.no∧W.heap.size≤k) wx (fun W=>PsAt W (.slice s8 r.2.1.length c8) r.2.1)))
 case first=>
  refine wp_region_held_drew (S:=fun w'=>Kept (fun k=>rho k=.rib i) W0 w') (by kernel_rfl) ?_ (fun hHeld=>?_)
  ·exact(Kept.refl _ _).drew
  generalize World.drew W0=wd at BDD hHeld ⊢;refine qz 0 hHeld ?_;refine qz 4 hHeld ?_ (hy:=by intro w' hSw;refine exec_ld 46 (.tmp 5) ?_ pb ?_ 46 x.m.C (0,0) _ ((hSw.block _ (jE Q0.out) (by rw[NPB.out];intro e;cases e)).trans Q0.out) Tryz.underlying46 rfl sz_msgS<;>rfl);refine jr 1 fun K hK=>?_;(try clear hb);go_simp;go_wp2_with fail;refine hK.out _ _ hHeld fun hHeld=>?_;clear hK K;(try simp only[jz]);refine qz 2 hHeld ?_;refine qz 3 hHeld ?_ (hy:=by intro w' hSw;have m3:=hSw.cell m3 NMB.out;(try clear hHeld);go_simp;try with_reducible rfl);refine jr 5 fun K hK=>?_;(try clear hb);go_simp;refine(UP0.out _ BDD).mono ?_;intro e wq hpost;obtain⟨v8,F',rfl,ow,hrb,hF',hv8,hk8⟩:=hpost;obtain⟨s8,c8,hs8,-⟩:=jV ow.1;subst hs8;have OW:=jh ow;have NV:=jh hv8;have SR:=jh ((HS0.out.below BDD).setRib HM.out HL.out hrb hF' hk8 GD.out);have DD:=jh (HS0.out.below BDD).dom;clear ow hrb hF' hv8;go_wp2_with fail;refine hK.out _ _ ?_ (fun hHeld=>?_);(·exact hHeld.trans hk8);clear hK K;(try simp only[jz]);refine qz 6 hHeld ?_;refine qz 7 hHeld ?_;refine qz 8 hHeld ?_;refine qz 9 hHeld ?_;refine qz 10 hHeld ?_;refine wpAnyH_done (by kernel_rfl) ?_ _;have NO:Hid (On (fun k=>extP rho wd F' (.rib i) k=.no∧W.heap.size≤k) wq (fun W=>PsAt W (.slice s8 r.2.1.length c8) r.2.1)):=jh (((own_on OW.out.1).wide (G:=fun k=>extP rho wd F' (.rib i) k=.no∧W.heap.size≤k) fun k hk _=>⟨extP_no (jJ OW.out.1 k hk) (NV.out k hk),Nat.le_trans (Nat.le_trans B0.out.size BDD.size) (jJ OW.out.1 k hk)⟩).imp fun W h=>OwnPs.at ⟨h,OW.out.2⟩);have ST:=jh ((Step.below (rho:=rho) BDD).trans SR.out.2);clear hHeld hk8;go_wp2_with fail;go_meet;exact⟨_,s8,c8,rfl,rfl,jh ⟨SR.out.1,ST.out,NO.out⟩⟩
 case rest=>
  obtain⟨rho1,s8,c8,rfl,rfl,D⟩:=hcut;obtain⟨w2,hw2⟩:∃w2:World,w2=wc:=⟨_,rfl⟩
  rw[←hw2] at D ⊢;have ST0:=jh ((Step.below (rho:=rho) B0.out).trans D.out.2.1);have Q2:=jh ((D.out.2.1.block (jE Q0.out) NPB.out).trans Q0.out);clear hw2 m3 UP0 HS0 MB BD BDD;by_cases hz:r.1=0
  ·have HRG:=jh (right_of (updP_ok (by rw[HRR.out];exact hz)) RGS.out RNS.out);have TE:Hid (T=turnS (turnS (setR S i r.2.2) x.gone) x.nets):=jh (by rw[US.out,if_pos hz]);have HZ:=jh hz;rw[hz];clear hz;have T1:=jh (sv_turn D.out.1 (.slice x.m.gs x.m.gn x.m.gc) x.gone ((ST0.out.free HX.out).imp fun W h=>h.gone) HRG.out.1);have y5:w2.cell? ⟨pb,5,none⟩=some (.slice x.m.gs x.m.gn x.m.gc):=jB Q2.out 5;go_wp2_with fail;refine T1.out.mono ?_;rintro e w3 ⟨rho3,rfl,hs3,st3⟩;have ST3:=jh (ST0.out.trans st3);have NO3:=jh (st3.freeB D.out.2.2);have HS3:=jh hs3;have NP1:Hid (rho1 pb=.no):=jh ((D.out.2.1.same pb (jE Q0.out)).trans NPB.out);have Q3:=jh ((st3.block (jE Q2.out) NP1.out).trans Q2.out);have T2:=jh (sv_turn HS3.out (.slice x.m.ns x.m.nn x.m.nc) x.nets ((ST3.out.free HX.out).imp fun W h=>h.nets) HRG.out.2);have y16:w3.cell? ⟨pb,16,none⟩=some (.slice x.m.ns x.m.nn x.m.nc):=jB Q3.out 16;clear hs3 st3 T1 y5 D Q2 ST0 NP1;go_wp2_with fail;refine T2.out.mono ?_;rintro e w4 ⟨rho4,rfl,hs4,st4⟩;have ST4:=jh (ST3.out.trans st4);have NO4:=jh (st4.freeB NO3.out);have HS4:=jh hs4;clear hs4 st4 T2 y16 Q3 ST3 NO3 HS3;go_wp2_with fail;refine bodyPost_ret (v:=.tuple #[.slice s8 r.2.1.length c8,.int .i64 0]) (by simp[results,Tryz.results20,go_sem]) rfl ⟨rho4,_,by rw[HZ.out],by rw[TE.out];exact HS4.out,ST4.out,NO4.out⟩
  ·have e1:(r.1 !=0)=true:=by simpa using hz
   have TE:Hid (T=S):=jh (by rw[US.out,if_neg hz]);have RE:Hid (r.2=([],m.R)):=jh (by rw[←HRR.out];exact updP_no (by rw[HRR.out];exact hz));have HE:Hid (SrvM w2 rho1 sb fb ls S):=jh (by
    have:=D.out.1;rw[RE.out] at this;rw[setR_same HM.out] at this;exact this)
   obtain⟨r1,r2⟩:=r;obtain rfl:r2=([],m.R):=RE.out;go_wp2_with fail;refine bodyPost_ret (v:=.tuple #[.slice none 0 0,.int .i64 r1]) (by simp[results,Tryz.results20,go_sem]) rfl ⟨rho1,_,rfl,by rw[TE.out];exact HE.out,ST0.out,fun W _=>ps_nilS W⟩
theorem ls_UpdateO {w W:World} {rho:Nat→Role} {sb fb:Nat} {ls:List Pl} {A:Ab} (h:LSv w W rho sb fb ls A) {i:Nat} (hi:i<A.V.length) (ht:A.th i=true) (x:Ms) (hx:On (fun k=>rho k=.no) W (fun W=>MsAt W x)) (hg:GoodA x.a) (hz:x.gone.length+x.nets.length≤656):
  Calls Tryz.prog 20 #[.pointer (some ⟨sb,0,none⟩),.int .i64 i,x.m.V] W fun e w'=>∃(rho':Nat→Role) (s:Option Addr) (c:Nat),e=.returned (.tuple #[.slice s (A.updR i x.m.kind x.gone x.nets x.a).2.1.length c,.int .i64 (A.updR i x.m.kind x.gone x.nets x.a).1])∧
   LSv w w' rho' sb fb ls (A.upd i x.m.kind x.gone x.nets x.a)∧Step rho rho' W w'∧On (fun k=>rho' k=.no∧W.heap.size≤k) w' (fun W=>PsAt W (.slice s (A.updR i x.m.kind x.gone x.nets x.a).2.1.length c) (A.updR i x.m.kind x.gone x.nets x.a).2.1):=by
 obtain⟨S,h1,h2⟩:=h.srv;obtain⟨m,hm⟩:=h2.at hi;have e:updP S.own S.most m.R x.m.kind x.gone x.nets x.a=A.updR i x.m.kind x.gone x.nets x.a:=by
  unfold Ab.updR;rw[h2.own,h2.most,(h2.get hm).2]
 have hU:=sv_UpdateO h1 hm ((h2.mem i m hm).1.trans ht) x hx hg hz;rw[e] at hU;refine hU.mono ?_;rintro e w' ⟨rho',v,rfl,hs,st,hp⟩;obtain⟨s,c,rfl,-⟩:=id hp.self;exact⟨rho',s,c,rfl,h.step hs (h2.upd hm ..) st,st,hp⟩
open Go.RowKit
def slotsOf (a:Act) (k:Nat):Value:=a.tmps.getD k undef
structure Nx (F:(Nat→Value)→Act) (Rel:(Nat→Value)→World→Prop) (mu:(Nat→Value)→Nat) (n:Nat) (a:Act) (w:World):Prop where
 frame:a=F (slotsOf a)
 rel:Rel (slotsOf a) w
 less:mu (slotsOf a)<n
theorem wp_loop_at {P:Program} {c:Code} {Q:Exit→Act→World→Prop} {a:Act} {w:World} (F:(Nat→Value)→Act) (Rel:(Nat→Value)→World→Prop) (mu:(Nat→Value)→Nat)
  (h0:a=F (slotsOf a)) (hr:Rel (slotsOf a) w) (round:∀(u:Nat→Value) (wr:World),Rel (slotsOf (F u)) wr→c.wp P (Exit.then (Nx F Rel mu (mu (slotsOf (F u)))) Q) (F u) wr):(Code.loop c).wp P Q a w:=by
 refine wp_loop (fun a w=>a=F (slotsOf a)∧Rel (slotsOf a) w) (fun a _=>mu (slotsOf a)) ⟨h0,hr⟩ ?_;rintro a' w' ⟨h1,h2⟩;have h:=round (slotsOf a') w' (by rw[←h1];exact h2);rw[←h1] at h;refine Code.wp_mono ?_ h;intro e a2 w2 q;cases e<;>first|exact q|exact⟨⟨q.frame,q.rel⟩,q.less⟩
open Go.RowKit
theorem wp_cutS {P:Program} {s:Code} {K:Act→World→Prop} {Q':Exit→Act→World→Prop} {a:Act} {w:World} (F:(Nat→Value)→Act) (R:(Nat→Value)→World→Prop)
  (rest:∀(u:Nat→Value) (wc:World),R u wc→K (F u) wc)
  (first:∀K':Act→World→Prop,(∀a' w',a'=F (slotsOf a')→R (slotsOf a') w'→K' a' w')→s.wp P (Exit.then K' Q') a w):s.wp P (Exit.then K Q') a w:=by
 refine wp_cut (fun a w=>a=F (slotsOf a)∧R (slotsOf a) w) ?_ ?_
 ·rintro a' w' ⟨h1,h2⟩;rw[h1];exact rest _ _ h2
 ·intro J K' h1 h2;exact first K' fun a' w' e r=>h2 _ _ (Met.intro (h1 _ _ ⟨e,r⟩))
theorem wd_one (N:Nat) (th:Nat→Bool) (L:Lw):((wdC N th L).all (·.oneCell'))=true:=by simp[Value.oneCell']
theorem newA_R (own most:Int) (xs:List Sd):(newA own most xs).R=fun _=>[]:=by
 funext i;unfold Ab.R newA;simp only[List.getElem?_map];cases xs[i]?<;>rfl
theorem stp_oneS (x:Stp):x.C.all (·.oneCell')=true:=by simp[Value.oneCell']
theorem sz_stpS:(Tryz.prog.info? 48).map (·.size)=some 24:=by kernel_rfl
theorem and_3S (x:Int):bits .and .i64 x 3=x%4:=and_low_i64 x 2 (by decide)
def Here (w:World) (sb fb:Nat) (ls:List Pl) (BB wb N:Nat) (most:Int) (W:World):Prop:=∃(rho:Nat→Role) (A:Ab) (sg:Nat→Lc) (L:Lw) (kl:List (List (Pf×BE))) (al:List (List (Pf×Bool))),RunI w W rho sb fb ls A sg BB wb N most L kl al
theorem RunI.top {w W:World} {rho:Nat→Role} {sb fb:Nat} {ls:List Pl} {A:Ab} {sg:Nat→Lc} {BB wb N:Nat} {most:Int} {L:Lw} {kl:List (List (Pf×BE))} {al:List (List (Pf×Bool))} (h:RunI w W rho sb fb ls A sg BB wb N most L kl al):W.heap[wb]? =some (.cells (wdC N A.th L) 91 (0,0)):=by
 have:=h.lw.top;rwa [h.wbe] at this
theorem top_up {W:World} {wb N:Nat} {th:Nat→Bool} {L:Lw} (h:W.heap[wb]? =some (.cells (wdC N th L) 91 (0,0))) {r:Nat} (hr:r<16):W.cell? ⟨wb,1+r,none⟩=some (.bool (th r)):=(jB h (1+r)).trans (wd_up N th L r hr)
theorem agPut_snoc:∀(ps:List Pf) (l:List (Pf×Bool)) (p:Pf),agPut l (ps++[p])=if rightB p.1 p.2 then putL (agPut l ps) p true else agPut l ps
 |[],_,_=>rfl
 |q::ps,l,p=>by
  show agPut (if rightB q.1 q.2 then putL l q true else l) (ps++[p])=_;rw[agPut_snoc ps];rfl
theorem KnOk.mark {A:Ab} {i:Nat} {l:List (Pf×BE)} (h:KnOk A i l) (k:Nat) (ps:List Pf):KnOk (A.mark k ps) i l:=by
 intro ht p hn;have hn':setF A.nw k (fun p=>A.nw k p||(decide (p∈ps)&&rightB p.1 p.2)) i p=false:=hn;refine h ht p ?_;unfold setF at hn';split at hn'
 ·rename_i e;rw[Bool.or_eq_false_iff] at hn';rw[e];exact hn'.1
 ·exact hn'
theorem ls_MarkA {w W:World} {rho:Nat→Role} {sb fb:Nat} {ls:List Pl} {A:Ab} {N:Nat} (h:LSv w W rho sb fb ls A) (ok:LwOk A N) {r:Nat} (hr:r<N) (v:Value) (ps:List Pf) (hps:On (fun k=>rho k=.no) W (fun W=>PsAt W v ps)):
  Calls Tryz.prog 16 #[.pointer (some ⟨sb,0,none⟩),.int .i64 r,v] W fun e w'=>∃(rho':Nat→Role) (A2:Ab),e=.returned (.tuple #[])∧LSv w w' rho' sb fb ls A2∧Step rho rho' W w'∧LwOk A2 N∧(A2.R=A.R∧A2.bl=A.bl∧A2.th=A.th∧A2.most=A.most)∧
   (∀i l,KnOk A i l→KnOk A2 i l)∧(∀i l,i≠r→AgOk A i l→AgOk A2 i l)∧∀l,AgOk A r l→AgOk A2 r (agPut l ps):=by
 cases ht:A.th r with
 |false=>
  refine(ls_Mark_off h (by rw[ok.len];exact hr) ht v).mono ?_;rintro e w' ⟨rfl,rfl⟩;exact⟨rho,A,rfl,h,Step.refl,ok,⟨rfl,rfl,rfl,rfl⟩,fun _ _ h=>h,fun _ _ _ h=>h,fun l _ h2=>by rw[ht] at h2;cases h2⟩
 |true=>
  refine(ls_Mark h (by rw[ok.len];exact hr) ht v ps hps).mono ?_;rintro e w' ⟨rho',rfl,hl,st⟩;exact⟨rho',A.mark r ps,rfl,hl,st,ok.mark ht ps,⟨rfl,rfl,rfl,rfl⟩,fun i l hk=>hk.mark r ps,fun i l hi ha=>ha.mark_other hi ps,fun l ha=>ha.mark_self ps⟩
theorem RunI.hush_off {w W W1:World} {rho:Nat→Role} {sb fb:Nat} {ls:List Pl} {A:Ab} {sg:Nat→Lc} {BB wb N:Nat} {most:Int} {L:Lw} {kl:List (List (Pf×BE))} {al:List (List (Pf×Bool))} (h:RunI w W rho sb fb ls A sg BB wb N most L kl al) {r:Nat} (ht:A.th r=false) (st:Step rho rho W W1) (hl:LSv w W1 rho sb fb ls (A.hush r)):RunI w W1 rho sb fb ls (A.hush r) sg BB wb N most L kl al:=
 ⟨hl,h.lw.step st,h.ok.hush r,h.mst,fun i l hi=>by
  by_cases e:i=r
  ·subst e;exact fun h2=>by (have h3:A.th i=true:=h2;rw[ht] at h3;cases h3)
  ·exact(h.kn i l hi).hush e,fun i l hi=>by
  by_cases e:i=r
  ·subst e;exact fun h2=>by (have h3:A.th i=true:=h2;rw[ht] at h3;cases h3)
  ·exact(h.agn i l hi).hush e,h.wbe,h.bb1,Nat.le_trans h.bb2 st.kept.size⟩
theorem new_none {A:Ab} {N r:Nat} (ok:LwOk A N) (ht:A.th r=false) {L:List Pf} (hL:∀p,p∈L↔A.nw r p=true):L=[]:=
 List.eq_nil_iff_forall_not_mem.2 fun p hp=>by
  have h1:=(hL p).1 hp;rw[ok.nw r ht p] at h1;cases h1
theorem own_ne_it {κ υ:Type} {ek:κ→Value} {ev:υ→Value} {ok:κ→Prop} {W:World} {B b r:Nat} {v:Value} {ys:List Pf} {l left:List (κ×υ)} (h:OwnPs W B v ys) (hr:RangeT ek ev ok W b r l left):∀g,v.ownBlock=some g→g≠r:=by
 obtain⟨es,c,_,_,_,_,_,_,_,_,h2,_⟩:=hr;obtain⟨⟨_,⟨rfl,_⟩|⟨g,cap,cur,rfl,_,hg,_⟩⟩,-⟩:=h
 ·intro g hg;cases hg
 ·intro g' hg' e;cases hg'
  have e:g=_:=e;rw[e,h2] at hg;cases hg
theorem own_ne_map {κ υ:Type} {ek:κ→Value} {ev:υ→Value} {ok:κ→Prop} {W:World} {B b:Nat} {v:Value} {ys:List Pf} {l:List (κ×υ)} (h:OwnPs W B v ys) (hr:MapT ek ev ok W b l):∀g,v.ownBlock=some g→g≠b:=by
 obtain⟨es,c,h2,_⟩:=hr;obtain⟨⟨_,⟨rfl,_⟩|⟨g,cap,cur,rfl,_,hg,_⟩⟩,-⟩:=h
 ·intro g hg;cases hg
 ·intro g' hg' e;cases hg'
  have e:g=_:=e;rw[e,h2] at hg;cases hg
theorem BestW.uni {b:Option (Int×At)} {p:Pf} {W w':World} {e:Ending} (h:BestW b p W e w'):∃(c:Option BE) (pe:Int) (pp:Pf) (u:AV),e=.returned (.tuple #[.agg (rtC pe pp u),.bool c.isSome])∧c.map (fun x=>(x.peer,x.a))=b∧(∀x,c=some x→x.p=p∧pe=x.peer∧pp=x.p∧u=x.v)∧(∀x,c=some x→Fresh W.heap.size w' (fun W=>AvAt W x.a x.v))∧Below W.heap.size W w':=by
 rcases h with⟨h1,h2,h3⟩|⟨pe,a,u,h1,h2,h3,h4⟩
 ·exact⟨none,0,(0,0),av0,h2,h1.symm,fun x hx=>(by cases hx),fun x hx=>(by cases hx),h3⟩
 ·exact⟨some ⟨pe,p,a,u⟩,pe,p,u,h2,h1.symm,fun x hx=>(by injection hx with hx;subst hx;exact⟨rfl,rfl,rfl,rfl⟩),fun x hx=>(by injection hx with hx;subst hx;exact h3),h4⟩
theorem told_uni (t:Option BE):∃(te:Int) (tp:Pf) (tv:AV),(t.map beV).getD (.agg (rtC 0 (0,0) av0))=.agg (rtC te tp tv)∧∀y,t=some y→te=y.peer∧tp=y.p∧tv=y.v:=by
 cases t with
 |none=>exact⟨0,(0,0),av0,rfl,fun y hy=>by cases hy⟩
 |some y=>exact⟨y.peer,y.p,y.v,rfl,fun z hz=>by injection hz with hz;subst hz;exact⟨rfl,rfl,rfl⟩⟩
def dueB (b t:Option BE):Bool:=match b,t with
 |none,none=>false
 |some x,some y=>!sameBE x y
 |_,_=>true
theorem dueB_news {A:Ab} {i:Nat} {l:List (Pf×BE)} (h:KnOk A i l) (hl:KnT l) (ht:A.th i=true) {p:Pf} {b:Option BE} (hb:b.map (fun x=>(x.peer,x.a))=A.best i p) (hp:∀x,b=some x→x.p=p) (hd:dueB b (getL l p)=true):A.nw i p=true:=by
 refine due_news h ht (kn_differ hb ?_);cases b with
 |none=>
  cases hg:getL l p with
  |none=>rw[hg] at hd;cases hd
  |some y=>left;simp
 |some x=>
  cases hg:getL l p with
  |none=>left;simp
  |some y=>
   rw[hg] at hd;refine .inr ⟨x,y,rfl,rfl,?_,?_⟩
   ·exact(hp x rfl).trans (hl.net (p,y) (getL_mem hg)).symm
   ·have:(!sameBE x y)=true:=hd;simpa using this
def DueM (A:Ab) (i:Nat) (W:World) (b:Nat):Prop:=∃dl:List (Pf×Bool),MapT pfV marV KOk W b dl∧∀x∈dl,RgtP x.1∧A.nw i x.1=true
theorem DueM.below {A:Ab} {i b:Nat} {W W1:World} (h:DueM A i W b) (hb:Below W.heap.size W W1):DueM A i W1 b:=by
 obtain⟨dl,h1,h2⟩:=h;exact⟨dl,h1.below hb,h2⟩
theorem DueM.kept {A:Ab} {i b:Nat} {W W1:World} {G:Nat→Prop} (h:DueM A i W b) (hk:Kept G W W1) (hG:¬G b):DueM A i W1 b:=by
 obtain⟨dl,h1,h2⟩:=h;exact⟨dl,h1.kept hk hG,h2⟩
theorem list_range {α:Type} (l:List α) (d:α):l=(List.range l.length).map (fun k=>l.getD k d):=by
 apply List.ext_getElem?;intro k;rw[List.getElem?_map];by_cases h:k<l.length
 ·rw[List.getElem?_range h];simp[List.getD,h]
 ·rw[List.getElem?_eq_none (by omega),List.getElem?_eq_none (by simp;omega)];rfl
theorem frame_of {a:Act} {n:Nat} (hs:a.tmps.size=n) (hd:a.defers=[]):a=⟨((List.range n).map (slotsOf a)).toArray,[]⟩:=by
 obtain⟨t,d⟩:=a;simp only at hs hd;subst hd;congr 1;apply Array.toList_inj.1;have h:=list_range t.toList undef;rw[Array.length_toList,hs] at h;rw[h];refine List.map_congr_left fun k _=>?_;simp[slotsOf,List.getD,Array.getD_eq_getD_getElem?]
def fixU (L:List (Nat×Value)) (u:Nat→Value) (k:Nat):Value:=match L.find? fun p=>p.1==k with|some p=>p.2|none=>u k
theorem frame_fix {a:Act} {n:Nat} {L:List (Nat×Value)} {F:(Nat→Value)→Act} (hF:∀u,F u=⟨((List.range n).map (fixU L u)).toArray,[]⟩) (hs:a.tmps.size=n) (hd:a.defers=[]) (hL:∀p∈L,slotsOf a p.1=p.2):a=F (slotsOf a):=by
 rw[hF];refine(frame_of hs hd).trans ?_;congr 2;refine List.map_congr_left fun k _=>?_;unfold fixU;cases hf:L.find? fun p=>p.1==k with
 |none=>rfl
 |some p=>
  have h1:=List.find?_some hf;have h2:=List.mem_of_find?_eq_some hf;have:p.1=k:=by simpa using h1
  rw[←this];exact hL p h2
theorem Here.below {w W W1:World} {sb fb:Nat} {ls:List Pl} {BB wb N:Nat} {most:Int} (h:Here w sb fb ls BB wb N most W) (hb:Below W.heap.size W W1):Here w sb fb ls BB wb N most W1:=by
 obtain⟨rho,A,sg,L,kl,al,hr⟩:=h;exact⟨rho,A,sg,L,kl,al,hr.below hb⟩
open Go.RowKit
theorem BestPost.w {b:Option (Int×At)} {p:Pf} {W w':World} {e:Ending} (h:BestPost b p W e w'):BestW b p W e w':=by
 rcases h with⟨h1,h2,h3⟩|⟨pe,a,u,h1,h2,-,h4,h5⟩
 ·exact .inl ⟨h1,h2,h3⟩
 ·exact .inr ⟨pe,a,u,h1,h2,h4.imp fun _ h=>h.at,h5⟩
theorem dueB_same {p:Pf} {b c:Option BE} {o:Option (Int×At)} (hb:b.map (fun x=>(x.peer,x.a))=o) (hc:c.map (fun x=>(x.peer,x.a))=o) (pb:∀x,b=some x→x.p=p) (pc:∀x,c=some x→x.p=p):dueB b c=false:=by
 subst hb;cases b with
 |none=>
  cases c with
  |none=>rfl
  |some y=>cases hc
 |some x=>
  cases c with
  |none=>cases hc
  |some y=>
   simp only[Option.map_some,Option.some.injEq,Prod.mk.injEq] at hc;have:sameBE x y=true:=sameBE_iff.2 ⟨hc.1.symm,(pb x rfl).trans (pc y rfl).symm,hc.2.symm⟩;show (!sameBE x y)=false;rw[this];rfl
def cntB (f:Pf→Option (Int×At)) (ns:List Pf) (z:Nat):Nat:=((ns.take z).filter fun p=>(f p).isSome).length
theorem cntB_step {f:Pf→Option (Int×At)} {ns:List Pf} {z:Nat} {p:Pf} (hp:ns[z]? =some p):cntB f ns (z+1)=cntB f ns z+if (f p).isSome then 1 else 0:=by
 unfold cntB;rw[take_snoc hp,List.filter_append,List.length_append];cases hf:(f p).isSome<;>simp[hf]
theorem cntB_le (f:Pf→Option (Int×At)) (ns:List Pf) (z:Nat):cntB f ns z≤z:=by
 unfold cntB;have h1:=List.length_filter_le (fun p=>(f p).isSome) (ns.take z);have h2:(ns.take z).length≤z:=List.length_take_le ..;omega
theorem filter_at {α:Type} (f:α→Bool):∀(l:List α) (z:Nat) (p:α),l[z]? =some p→f p=true→(l.filter f)[((l.take z).filter f).length]? =some p
 |[],z,p,h,_=>by simp at h
 |x::l,0,p,h,hf=>by
  simp only[List.getElem?_cons_zero,Option.some.injEq] at h;subst h;simp[hf]
 |x::l,z+1,p,h,hf=>by
  rw[List.getElem?_cons_succ] at h;have ih:=filter_at f l z p h hf;cases hx:f x with
  |true=>simpa [hx] using ih
  |false=>simpa [hx] using ih
theorem bests_filter {f:Pf→Option (Int×At)} {ns:List Pf} {LB:List BE} (hs:Srt ns) (hn:∀p b,f p=some b→p∈ns) (h1:(LB.map (·.p)).Pairwise plt) (h2:∀x∈LB,f x.p=some (x.peer,x.a)) (h3:∀p b,f p=some b→p∈LB.map (·.p)):LB.map (·.p)=ns.filter fun p=>(f p).isSome:=by
 refine srt_ext h1 (hs.filter _) fun p=>?_;rw[List.mem_filter];constructor
 ·intro hp;obtain⟨x,hx,rfl⟩:=List.mem_map.1 hp;have:=h2 x hx;exact⟨hn _ _ this,by rw[this];rfl⟩
 ·rintro⟨-,hp⟩;obtain⟨b,hb⟩:=Option.isSome_iff_exists.1 hp;exact h3 p b hb
theorem bests_at {f:Pf→Option (Int×At)} {ns:List Pf} {LB:List BE} (h:LB.map (·.p)=ns.filter fun p=>(f p).isSome) (h2:∀x∈LB,f x.p=some (x.peer,x.a)) {z:Nat} {p:Pf} (hp:ns[z]? =some p) {b:Int×At} (hb:f p=some b):∃x,LB[cntB f ns z]? =some x∧x.p=p∧(x.peer,x.a)=b:=by
 have h3:=filter_at (fun p=>(f p).isSome) ns z p hp (by rw[hb];rfl);rw[←h,List.getElem?_map] at h3;unfold cntB;cases hx:LB[((ns.take z).filter fun p=>(f p).isSome).length]? with
 |none=>rw[hx] at h3;cases h3
 |some x=>
  rw[hx] at h3;simp only[Option.map_some,Option.some.injEq] at h3;have h4:=h2 x (List.mem_of_getElem? hx);rw[h3,hb] at h4;injection h4 with h4;exact⟨x,rfl,h3,h4.symm⟩
theorem bests_len {f:Pf→Option (Int×At)} {ns:List Pf} {LB:List BE} (h:LB.map (·.p)=ns.filter fun p=>(f p).isSome):LB.length=cntB f ns ns.length:=by
 have:=congrArg List.length h;rw[List.length_map] at this;unfold cntB;rw[List.take_length];exact this
theorem keys_lenS {R:Rts} {L:List Pf} (hs:L.Pairwise plt) (hm:∀p,p∈L↔(getL R p).isSome=true) (hR:KeysApart R):L.length=R.length:=by
 have hn:=plt_nodup hs;have h2:(R.map (·.1)).Nodup:=by
  rw[List.nodup_iff_pairwise_ne,List.pairwise_map];exact hR
 have:=nodup_len hn h2 fun p=>by
  rw[hm p];constructor
  ·intro hp;obtain⟨a,ha⟩:=Option.isSome_iff_exists.1 hp;exact List.mem_map.2 ⟨_,getL_mem ha,rfl⟩
  ·intro hp;obtain⟨x,hx,rfl⟩:=List.mem_map.1 hp;rw[getL_of_mem hR (show (x.1,x.2)∈R from hx)];rfl
 simpa using this
theorem rib_apart {W:World} {rb:Nat} {peer own most:Int} {R:Rts} {F:Nat→Prop} (h:RibAt W rb peer own most R F):KeysApart R:=by
 obtain⟨tb,N,E,hI,rfl⟩:=h;exact apart_rts hI.tri.ap
end Go.Proofs.YtkoidahgbbabiaaGreat
