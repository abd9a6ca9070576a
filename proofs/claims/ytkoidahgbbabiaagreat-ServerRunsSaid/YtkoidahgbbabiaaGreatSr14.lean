/- Texts of one proof, one behind another. -/
import Derived.Test.YtkoidahgbbabiaaGreatSr12
import Derived.Test.YtkoidahgbbabiaaGreatSr13
import Derived.Test.YtkoidahgbbabiaaGreatSr3
import Derived.Test.YtkoidahgbbabiaaGreatSr1
set_option maxRecDepth 100000
set_option maxHeartbeats 100000000
namespace Go.Proofs.YtkoidahgbbabiaaGreat
open Go.RowKit
def setR (S:Sv) (i:Nat) (R:Rts):Sv:={S with ms:=S.ms.modify i fun m=>{m with R:=R}}
theorem setR_get (S:Sv) (i:Nat) (R:Rts) (j:Nat):(setR S i R).ms[j]? =(S.ms[j]?).map fun m=>if j=i then {m with R:=R} else m:=by
 unfold setR;simp only[List.getElem?_modify];cases S.ms[j]? with
 |none=>rfl
 |some m=>simp only[Option.map_some,Option.map_eq_map,eq_comm (a:=i)]
theorem setR_len (S:Sv) (i:Nat) (R:Rts):(setR S i R).ms.length=S.ms.length:=by unfold setR;simp
def updS (S:Sv) (i:Nat) (m:Pm) (kind:Int) (gone nets:List Pf) (a:At):Sv:=
 if (updP S.own S.most m.R kind gone nets a).1=0 then turnS (turnS (setR S i (updP S.own S.most m.R kind gone nets a).2.2) gone) nets else S
theorem updP_ok {own most:Int} {R:Rts} {kind:Int} {gone nets:List Pf} {a:At} (h:(updP own most R kind gone nets a).1=0):rights (gone++nets)=true:=by
 unfold updP at h;split at h
 ·split at h
  ·assumption
  ·simp at h
 ·simp at h
theorem updP_no {own most:Int} {R:Rts} {kind:Int} {gone nets:List Pf} {a:At} (h:¬(updP own most R kind gone nets a).1=0):(updP own most R kind gone nets a).2=([],R):=by
 unfold updP at h ⊢;split
 ·rename_i h1;rw[if_pos h1] at h;split
  ·rename_i h2;rw[if_pos h2] at h;split
   ·rfl
   ·rename_i h3;rw[if_neg h3] at h;exact absurd rfl h
  ·rfl
 ·rfl
section
variable {W W':World} {rho:Nat→Role} {sb fb:Nat} {ls:List Pl} {S:Sv} {i:Nat} {m:Pm} {l:Pl}
theorem SrvM.setRib (h:SrvM W rho sb fb ls S) (hm:S.ms[i]? =some m) (hl:ls[i]? =some l) {F':Nat→Prop} {R':Rts} (hR:RibAt W' l.rb i S.own S.most R' F') (hF:∀k,F' k→rho k=.rib i∨(W.heap.size≤k∧k<W'.heap.size))
  (hk:Kept (fun k=>rho k=.rib i) W W') (hg:∀p a,getL R' p=some a→GoodA a):SrvM W' (extP rho W F' (.rib i)) sb fb ls (setR S i R')∧Step rho (extP rho W F' (.rib i)) W W':=by
 have hM0:=h.bod.mem i m l hm hl;have s2:=hk.size;have hr:=extP_old (rho:=rho) (W:=W) (F:=F') (r:=.rib i) h.dom;have hd:=extP_dom (rho:=rho) (W:=W) (W':=W') (F:=F') (r:=.rib i) s2 fun k h1 h2=>by
  rcases hF k h2 with h3|h3
  ·have:=h.dom k (by rw[h3];intro e;cases e);omega
  ·exact h3.2
 refine⟨h.one (m':={m with R:=R'}) hl hr hd hk (fun k _ e=>.inr (.inr (.inr (.inl e)))) rfl rfl rfl (setR_len ..) (by rw[setR_get,hm];simp) (fun j hj=>by rw[setR_get];simp[hj]) (fun _ _=>rfl) ?_,⟨fun k hk=>extP_low hk,hk.imp fun k e=>by rw[e];intro e;cases e⟩⟩;have ne:∀k,rho k=.mem i∨rho k=.best i∨rho k=.news i∨rho k=.att→¬rho k=.rib i:=fun k hr e=>by rw[e] at hr;simp at hr
 refine⟨(hk.block _ (jE hM0.row) (ne _ (.inl hM0.rmb))).trans hM0.row,(hr _ (by rw[hM0.rmb];intro e;cases e)).trans hM0.rmb,hR.wide fun k hF'=>?_,(hr _ (by rw[hM0.rbb];intro e;cases e)).trans hM0.rbb,(hr _ (by rw[hM0.rnb];intro e;cases e)).trans hM0.rnb,?_,?_,hg,hM0.ids,hM0.ass⟩
 ·rcases hF k hF' with h3|h3
  ·exact(hr k (by rw[h3];intro e;cases e)).trans h3
  ·exact extP_new h3.1 hF'
 ·obtain⟨L,hL⟩:=hM0.bests;exact⟨L,hL.kept hr hk (ne _ (.inr (.inl hM0.rbb))) fun k _ hF=>ne k (.inr (.inr (.inr hF)))⟩
 ·obtain⟨N,hN⟩:=hM0.news;exact⟨N,hN.kept hk (ne _ (.inr (.inr (.inl hM0.rnb))))⟩
end
open Go.RowKit
theorem sz_msgS:(Tryz.prog.info? 46).map (·.size)=some 20:=by kernel_rfl
theorem ps_nilS (W:World):PsAt W (.slice none 0 0) []:=⟨none,0,rfl,Nat.le_refl _,Nat.zero_le _,fun h=>absurd h (Nat.lt_irrefl _)⟩
theorem updP_get {own most:Int} {R:Rts} {kind:Int} {gone nets:List Pf} {a b:At} {p:Pf} (h:getL (updP own most R kind gone nets a).2.2 p=some b):getL R p=some b∨b=a:=by
 unfold updP at h;split at h
 ·split at h
  ·split at h
   ·exact .inl h
   ·simp only at h;rw[getL_putAll,getL_dropAll] at h;split at h
    ·injection h with h;exact .inr h.symm
    ·split at h
     ·cases h
     ·exact .inl h
  ·exact .inl h
 ·exact .inl h
theorem setR_same {S:Sv} {i:Nat} {m:Pm} (hm:S.ms[i]? =some m):setR S i m.R=S:=by
 have e:(setR S i m.R).ms=S.ms:=by
  apply List.ext_getElem?;intro j;rw[setR_get];cases hj:S.ms[j]? with
  |none=>rfl
  |some n=>
   rw[Option.map_some];by_cases e:j=i
   ·subst e;rw[hm] at hj;injection hj with hj;subst hj;rw[if_pos rfl]
   ·rw[if_neg e]
 unfold setR at e ⊢;simp only at e;rw[e]
theorem right_of {gone nets:List Pf} (h:rights (gone++nets)=true) (hg:∀p∈gone,OkP p) (hn:∀p∈nets,OkP p):(∀p∈gone,RgtP p)∧∀p∈nets,RgtP p:=by
 unfold rights at h;rw[List.all_eq_true] at h;exact⟨fun p hp=>⟨hg p hp,h p (List.mem_append_left _ hp)⟩,fun p hp=>⟨hn p hp,h p (List.mem_append_right _ hp)⟩⟩
theorem sv_Update {W:World} {rho:Nat→Role} {sb fb:Nat} {ls:List Pl} {S:Sv} (h:SrvM W rho sb fb ls S) {i:Nat} {m:Pm} (hm:S.ms[i]? =some m) (hth:m.there=true) (x:Ms) (hx:On (fun k=>rho k=.no) W (fun W=>MsAt W x)) (hg:GoodA x.a) (hz:x.gone.length+x.nets.length≤656):
  Calls Tryz.prog 20 #[.pointer (some ⟨sb,0,none⟩),.int .i64 i,x.m.V] W fun e w'=>∃rho' v,e=.returned (.tuple #[v,.int .i64 (updP S.own S.most m.R x.m.kind x.gone x.nets x.a).1])∧SrvM w' rho' sb fb ls (updS S i m x.m.kind x.gone x.nets x.a)∧Step rho rho' W w'∧
   On (fun k=>rho' k=.no) w' (fun W=>PsAt W v (updP S.own S.most m.R x.m.kind x.gone x.nets x.a).2.1):=by
 obtain⟨l,hl,hM⟩:=h.get hm;have HS:=jh h;have HM:=jh hm;have HL:=jh hl;have HX:=jh hx;have HG:=jh hg;have RGS:Hid (∀p∈x.gone,OkP p):=jh (ps_ok hx.self.gone);have RNS:Hid (∀p∈x.nets,OkP p):=jh (ps_ok hx.self.nets);have GD:Hid (∀p b,getL (updP S.own S.most m.R x.m.kind x.gone x.nets x.a).2.2 p=some b→GoodA b):=jh fun p b hb=>by
  rcases updP_get hb with h|h
  ·exact hM.good p b h
  ·rw[h];exact hg
 have UP:=jh (fun w' (hb:Below W.heap.size W w')=>ad_Update x.m x.gone x.nets x.a w' (hM.rib.below hb) (hx.self.gone.below hb) (hx.self.nets.below hb) (fun W' hk=>(((hx.below hb).kept hk fun k _ h1 h2=>by rw[h1] at h2;cases h2).self).a) hz hg.sz);have m2:W.cell? ⟨l.mb,2,none⟩=some (.bool true):=by rw[←hth];exact jB hM.row 2
 have m3:W.cell? ⟨l.mb,3,none⟩=some (.pointer (some ⟨l.rb,0,none⟩)):=jB hM.row 3;have NMB:Hid (¬rho l.mb=.rib i):=jh (by rw[hM.rmb];intro e;cases e);obtain⟨r,hr⟩:∃r,updP S.own S.most m.R x.m.kind x.gone x.nets x.a=r:=⟨_,rfl⟩
 have HRR:=jh hr;rw[hr] at UP GD ⊢;have US:Hid (updS S i m x.m.kind x.gone x.nets x.a=if r.1=0 then turnS (turnS (setR S i r.2.2) x.gone) x.nets else S):=jh (by unfold updS;rw[hr]);clear h hm hl hM hx hg hth hr hz;obtain⟨T,hT⟩:∃T,updS S i m x.m.kind x.gone x.nets x.a=T:=⟨_,rfl⟩
 rw[hT] at US ⊢;clear hT;go_enter Tryz.func20,Tryz.ntmps20;go_upto_region 1 with (fail)
 obtain⟨W0,hW0,q0,hB,-⟩:=box_msg W x.m;rw[←hW0];obtain⟨pb,hpb⟩:∃pb,pb=W.heap.size:=⟨_,rfl⟩
 have NPB:Hid (rho pb=.no):=jh (by
  cases hr:rho pb with
  |no=>rfl
  |_=>exact absurd (HS.out.dom pb (by rw[hr];intro e;cases e)) (by omega))
 rw[←hpb] at q0 ⊢;have Q0:=jh q0;have B0:=jh hB;have m2:=jA m2 hB;have m3:=jA m3 hB;have HS0:=jh (HS.out.below hB);have MB:=jh (sv_member HS0.out HL.out);have UP0:=jh (fun w' (hb:Below W0.heap.size W0 w')=>UP.out w' (jC B0.out hb));clear hW0 hB q0 hpb UP;go_wp2_with fail;refine MB.out.mono ?_;rintro e w1 ⟨rfl,rfl⟩;have BD:=Below.refl W0.heap.size W0;go_wp2_with fail;go_upto_region 6 with (fail)
 have BDD:=BD.drew;go_cut [9,10] from 21 to 29 (fun v9 v10 wx=>∃(rho1:Nat→Role) (s8:Option Addr) (c8:Nat),v9=.slice s8 r.2.1.length c8∧v10=.int .i64 r.1∧Hid (SrvM wx rho1 sb fb ls (setR S i r.2.2)∧Step rho rho1 W0 wx∧On (fun k=>rho1 k=.no) wx (fun W=>PsAt W (.slice s8 r.2.1.length c8) r.2.1)))
 case first=>
  refine wp_region_held_drew (S:=fun w'=>Kept (fun k=>rho k=.rib i) W0 w') (by kernel_rfl) ?_ (fun hHeld=>?_)
  ·exact(Kept.refl _ _).drew
  generalize World.drew W0=wd at BDD hHeld ⊢;refine qz 0 hHeld ?_;refine qz 4 hHeld ?_ (hy:=by intro w' hSw;refine exec_ld 46 (.tmp 5) ?_ pb ?_ 46 x.m.C (0,0) _ ((hSw.block _ (jE Q0.out) (by rw[NPB.out];intro e;cases e)).trans Q0.out) Tryz.underlying46 rfl sz_msgS<;>rfl);refine jr 1 fun K hK=>?_;(try clear hb);go_simp;go_wp2_with fail;refine hK.out _ _ hHeld fun hHeld=>?_;clear hK K;(try simp only[jz]);refine qz 2 hHeld ?_;refine qz 3 hHeld ?_ (hy:=by intro w' hSw;have m3:=hSw.cell m3 NMB.out;(try clear hHeld);go_simp;try with_reducible rfl);refine jr 5 fun K hK=>?_;(try clear hb);go_simp;refine(UP0.out _ BDD).mono ?_;intro e wq hpost;obtain⟨v8,F',rfl,ow,hrb,hF',hv8,hk8⟩:=hpost;obtain⟨s8,c8,hs8,-⟩:=jV ow.1;subst hs8;have OW:=jh ow;have NV:=jh hv8;have SR:=jh ((HS0.out.below BDD).setRib HM.out HL.out hrb hF' hk8 GD.out);have DD:=jh (HS0.out.below BDD).dom;clear ow hrb hF' hv8;go_wp2_with fail;refine hK.out _ _ ?_ (fun hHeld=>?_);(·exact hHeld.trans hk8);clear hK K;(try simp only[jz]);refine qz 6 hHeld ?_;refine qz 7 hHeld ?_;refine qz 8 hHeld ?_;refine qz 9 hHeld ?_;refine qz 10 hHeld ?_;refine wpAnyH_done (by kernel_rfl) ?_ _;have NO:Hid (On (fun k=>extP rho wd F' (.rib i) k=.no) wq (fun W=>PsAt W (.slice s8 r.2.1.length c8) r.2.1)):=jh (((own_on OW.out.1).wide (G:=fun k=>extP rho wd F' (.rib i) k=.no) fun k hk _=>extP_no (jJ OW.out.1 k hk) (NV.out k hk)).imp fun W h=>OwnPs.at ⟨h,OW.out.2⟩);have ST:=jh ((Step.below (rho:=rho) BDD).trans SR.out.2);clear hHeld hk8;go_wp2_with fail;go_meet;exact⟨_,s8,c8,rfl,rfl,jh ⟨SR.out.1,ST.out,NO.out⟩⟩
 case rest=>
  obtain⟨rho1,s8,c8,rfl,rfl,D⟩:=hcut;obtain⟨w2,hw2⟩:∃w2:World,w2=wc:=⟨_,rfl⟩
  rw[←hw2] at D ⊢;have ST0:=jh ((Step.below (rho:=rho) B0.out).trans D.out.2.1);have Q2:=jh ((D.out.2.1.block (jE Q0.out) NPB.out).trans Q0.out);clear hw2 m3 UP0 HS0 MB BD BDD;by_cases hz:r.1=0
  ·have HRG:=jh (right_of (updP_ok (by rw[HRR.out];exact hz)) RGS.out RNS.out);have TE:Hid (T=turnS (turnS (setR S i r.2.2) x.gone) x.nets):=jh (by rw[US.out,if_pos hz]);have HZ:=jh hz;rw[hz];clear hz;have T1:=jh (sv_turn D.out.1 (.slice x.m.gs x.m.gn x.m.gc) x.gone ((ST0.out.free HX.out).imp fun W h=>h.gone) HRG.out.1);have y5:w2.cell? ⟨pb,5,none⟩=some (.slice x.m.gs x.m.gn x.m.gc):=jB Q2.out 5;go_wp2_with fail;refine T1.out.mono ?_;rintro e w3 ⟨rho3,rfl,hs3,st3⟩;have ST3:=jh (ST0.out.trans st3);have NO3:=jh (st3.free D.out.2.2);have HS3:=jh hs3;have NP1:Hid (rho1 pb=.no):=jh ((D.out.2.1.same pb (jE Q0.out)).trans NPB.out);have Q3:=jh ((st3.block (jE Q2.out) NP1.out).trans Q2.out);have T2:=jh (sv_turn HS3.out (.slice x.m.ns x.m.nn x.m.nc) x.nets ((ST3.out.free HX.out).imp fun W h=>h.nets) HRG.out.2);have y16:w3.cell? ⟨pb,16,none⟩=some (.slice x.m.ns x.m.nn x.m.nc):=jB Q3.out 16;clear hs3 st3 T1 y5 D Q2 ST0 NP1;go_wp2_with fail;refine T2.out.mono ?_;rintro e w4 ⟨rho4,rfl,hs4,st4⟩;have ST4:=jh (ST3.out.trans st4);have NO4:=jh (st4.free NO3.out);have HS4:=jh hs4;clear hs4 st4 T2 y16 Q3 ST3 NO3 HS3;go_wp2_with fail;refine bodyPost_ret (v:=.tuple #[.slice s8 r.2.1.length c8,.int .i64 0]) (by simp[results,Tryz.results20,go_sem]) rfl ⟨rho4,_,by rw[HZ.out],by rw[TE.out];exact HS4.out,ST4.out,NO4.out⟩
  ·have e1:(r.1 !=0)=true:=by simpa using hz
   have TE:Hid (T=S):=jh (by rw[US.out,if_neg hz]);have RE:Hid (r.2=([],m.R)):=jh (by rw[←HRR.out];exact updP_no (by rw[HRR.out];exact hz));have HE:Hid (SrvM w2 rho1 sb fb ls S):=jh (by
    have:=D.out.1;rw[RE.out] at this;rw[setR_same HM.out] at this;exact this)
   obtain⟨r1,r2⟩:=r;obtain rfl:r2=([],m.R):=RE.out;go_wp2_with fail;refine bodyPost_ret (v:=.tuple #[.slice none 0 0,.int .i64 r1]) (by simp[results,Tryz.results20,go_sem]) rfl ⟨rho1,_,rfl,by rw[TE.out];exact HE.out,ST0.out,fun W _=>ps_nilS W⟩
open Go.RowKit
section
variable {W:World} {rho:Nat→Role} {sb fb:Nat} {ls:List Pl} {S:Sv}
theorem sv_There (h:SrvM W rho sb fb ls S) {i:Nat} {m:Pm} (hm:S.ms[i]? =some m):Calls Tryz.prog 28 #[.pointer (some ⟨sb,0,none⟩),.int .i64 i] W fun e w'=>e=.returned (.bool m.there)∧W=w':=by
 obtain⟨l,hl,hM⟩:=h.get hm;have m2:W.cell? ⟨l.mb,2,none⟩=some (.bool m.there):=jB hM.row 2;have MB:=jh (sv_member h hl);clear h hm hl hM;go_enter Tryz.func28,Tryz.ntmps28;go_wp2_with fail;refine MB.out.mono ?_;rintro e w1 ⟨rfl,rfl⟩;go_wp2_with fail;go_ret;exact⟨rfl,rfl⟩
theorem sv_Update_no (h:SrvM W rho sb fb ls S) {n:Int} (hn:¬(0≤n∧n<(S.ms.length:Int))) (x:MV):Calls Tryz.prog 20 #[.pointer (some ⟨sb,0,none⟩),.int .i64 n,x.V] W fun e w'=>e=.returned (.tuple #[.slice none 0 0,.int .i64 1])∧Below W.heap.size W w':=by
 have MB:=jh (fun w' (hb:Below W.heap.size W w')=>sv_member_no (h.below hb) hn);clear h hn;go_enter Tryz.func20,Tryz.ntmps20;go_upto_region 1 with (fail)
 obtain⟨W0,hW0,q0,hB,-⟩:=box_msg W x;rw[←hW0];have B0:=jh hB;clear hW0 q0 hB;go_wp2_with fail;refine(MB.out W0 B0.out).mono ?_;rintro e w1 ⟨rfl,rfl⟩;go_wp2_with fail;refine bodyPost_ret (v:=.tuple #[.slice none 0 0,.int .i64 1]) (by simp[results,Tryz.results20,go_sem]) rfl ⟨rfl,B0.out⟩
theorem sv_Update_off (h:SrvM W rho sb fb ls S) {i:Nat} {m:Pm} (hm:S.ms[i]? =some m) (hth:m.there=false) (x:MV):Calls Tryz.prog 20 #[.pointer (some ⟨sb,0,none⟩),.int .i64 i,x.V] W fun e w'=>e=.returned (.tuple #[.slice none 0 0,.int .i64 7])∧Below W.heap.size W w':=by
 obtain⟨l,hl,hM⟩:=h.get hm;have m2:W.cell? ⟨l.mb,2,none⟩=some (.bool false):=by rw[←hth];exact jB hM.row 2
 have MB:=jh (fun w' (hb:Below W.heap.size W w')=>sv_member (h.below hb) hl);clear h hm hl hM hth;go_enter Tryz.func20,Tryz.ntmps20;go_upto_region 1 with (fail)
 obtain⟨W0,hW0,q0,hB,-⟩:=box_msg W x;rw[←hW0];have B0:=jh hB;have m2:=jA m2 hB;clear hW0 q0 hB;go_wp2_with fail;refine(MB.out W0 B0.out).mono ?_;rintro e w1 ⟨rfl,rfl⟩;go_wp2_with fail;refine bodyPost_ret (v:=.tuple #[.slice none 0 0,.int .i64 7]) (by simp[results,Tryz.results20,go_sem]) rfl ⟨rfl,B0.out⟩
end
open Go.RowKit
def mark1 (i:Nat) (S:Sv) (p:Pf):Sv:=if rightB p.1 p.2 then markS S i p true else S
def marksS (S:Sv) (i:Nat) (ps:List Pf):Sv:=ps.foldl (mark1 i) S
theorem marksS_snoc (S:Sv) (i:Nat) (ps:List Pf) (p:Pf):marksS S i (ps++[p])=mark1 i (marksS S i ps) p:=by unfold marksS;rw[List.foldl_append];rfl
theorem kin_marks (i:Nat):∀(ps:List Pf) (S:Sv),SvKin S (marksS S i ps)
 |[],S=>SvKin.refl S
 |p::ps,S=>by
  refine SvKin.trans ?_ (kin_marks i ps (mark1 i S p));unfold mark1;split
  ·exact kin_mark ..
  ·exact SvKin.refl S
theorem sv_Mark {W:World} {rho:Nat→Role} {sb fb:Nat} {ls:List Pl} {S:Sv} (h:SrvM W rho sb fb ls S) {i:Nat} {m:Pm} (hm:S.ms[i]? =some m) (hth:m.there=true) (v:Value) (ps:List Pf) (hps:On (fun k=>rho k=.no) W (fun W=>PsAt W v ps)):
  Calls Tryz.prog 16 #[.pointer (some ⟨sb,0,none⟩),.int .i64 i,v] W fun e w'=>∃rho',e=.returned (.tuple #[])∧SrvM w' rho' sb fb ls (marksS S i ps)∧Step rho rho' W w':=by
 obtain⟨sp,cp,rfl,hl1,hl2,-⟩:=id hps.self;have pl:ps.length≤9223372036854775807:=Nat.le_trans hl1 hl2;obtain⟨l,hl,hM⟩:=h.get hm;have m2:W.cell? ⟨l.mb,2,none⟩=some (.bool true):=by rw[←hth];exact jB hM.row 2
 have MB:=jh (sv_member h hl);have HPS:=jh hps;have HL:=jh hl;have HM:=jh hm;have HT:=jh hth;have H0:Hid (SrvM W rho sb fb ls (marksS S i (ps.take 0))):=jh h;clear hps hl1 hl2 h hm hl hM hth;go_enter Tryz.func16,Tryz.ntmps16;go_wp2_with fail;refine MB.out.mono ?_;rintro e w1 ⟨rfl,rfl⟩;go_wp2_with fail;clear m2;go_loopw [23] (fun t23 wr=>∃(k:Nat) (rho1:Nat→Role),k≤ps.length∧t23=.int .i64 k∧Hid (SrvM wr rho1 sb fb ls (marksS S i (ps.take k)))∧Hid (Step rho rho1 W wr)) (fun t23 _=>ps.length - (intOf t23).toNat)
 case atStart=>exact⟨0,rho,by omega,rfl,H0,jh Step.refl⟩
 case round=>
  clear H0;obtain⟨k,rho1,hk,rfl,HS,ST⟩:=hrel;by_cases hkl:k<ps.length
  ·obtain⟨p,hp⟩:∃p,ps[k]? =some p:=⟨_,List.getElem?_eq_getElem hkl⟩
   have MN:Hid (marksS S i (ps.take (k+1))=mark1 i (marksS S i (ps.take k)) p):=jh (by rw[take_snoc hp,marksS_snoc]);obtain⟨T,hT⟩:∃T,marksS S i (ps.take k)=T:=⟨_,rfl⟩
   rw[hT] at HS MN;obtain⟨m',hm',hth'⟩:∃m',T.ms[i]? =some m'∧m'.there=true:=by
    obtain⟨n,h1,-,-,h2,-⟩:=(kin_marks i (ps.take k) S).mem i m HM.out;rw[hT] at h1;exact⟨n,h1,h2.trans HT.out⟩
   have HM':=jh hm';have HT':=jh hth';obtain⟨g2,o2,d0',d1',rfl,⟨hpc,hok⟩,p0,p1⟩:=ps_pair (ST.out.free HPS.out).self hp;injection hpc with q1 q2;injection q2 with q2 _;subst q1;subst q2;have HOK:=jh hok;have CK:=jh (fun W=>ip_Check p.1 p.2 W hok.1 hok.2);have k0:(0:Int)≤(k:Int):=by omega
   have k1:(k:Int)<(ps.length:Int):=by omega
   clear hp hT hok hm' hth';go_upto_region 5 with (fail)
   obtain⟨v1,hv1,c0,c1,hb1⟩:=box2 wr (.int .u32 p.1) (.int .i64 p.2) 53;rw[←hv1];obtain⟨pb,hpb⟩:∃pb,pb=wr.heap.size:=⟨_,rfl⟩
   rw[←hpb] at c0 c1 ⊢;have HS1:=jh (HS.out.below hb1);have ST1:=jh (ST.out.grow hb1);clear hv1 hb1 HS ST p0 p1 hpb;rcases hr:rightB p.1 p.2 with _|_
   ·rw[hr] at CK;have MS:Hid (marksS S i (ps.take (k+1))=T):=jh (by rw[MN.out];unfold mark1;rw[hr];rfl);clear hr;go_wp2_with fail;refine(CK.out _).mono ?_;rintro e v2 ⟨rfl,hb2⟩;have HS2:Hid (SrvM v2 rho1 sb fb ls (marksS S i (ps.take (k+1)))):=jh (by rw[MS.out];exact HS1.out.below hb2);have ST2:=jh (ST1.out.grow hb2);clear hb2 HS1 ST1 c0 c1;go_wp2_with fail;exact⟨⟨k+1,rho1,by omega,by go_num,HS2,ST2⟩,by simp[intOf];omega⟩
   ·rw[hr] at CK;have MS:Hid (marksS S i (ps.take (k+1))=markS T i p true):=jh (by rw[MN.out];unfold mark1;rw[hr];rfl);have RG:Hid (RgtP p):=jh ⟨HOK.out,hr⟩;clear hr;go_wp2_with fail;refine(CK.out _).mono ?_;rintro e v2 ⟨rfl,hb2⟩;have HS2:=jh (HS1.out.below hb2);have ST2:=jh (ST1.out.grow hb2);replace c0:=jA c0 hb2;replace c1:=jA c1 hb2;have hM:=HS2.out.bod.mem i m' l HM'.out HL.out;have mb5:v2.cell? ⟨l.mb,5,none⟩=some (.map (some l.nb)):=jB hM.row 5;obtain⟨N,hN⟩:=hM.news;obtain⟨o2,hs2,hm2⟩:=hN.map.store pf_enc Tryz.underlying128 p RG.out.key () (rgt_short hN.map.apart hN.rgt) v2.drew rfl;have hk2:Kept (fun k=>k=l.nb) v2 (ChangeMaps.setBlock v2.drew l.nb o2):=(Kept.refl _ v2).drew.trans (Kept.setBlock o2 rfl);have PN:=jh (HS2.out.putN HM'.out HL.out hN RG.out (c:=true) (by rw[HT'.out];rfl) hk2 hm2);clear hm2 hk2 hM hN hb2 HS1 ST1;go_upto_region 6 with (fail)
    refine region_tailR 6 (by kernel_rfl) (by kernel_rfl) ?_;simp only[List.take_succ_cons,List.take_zero,List.drop_succ_cons,List.drop_zero]
    repeat still_step
    refine wpStill_nil ?_;have HE:Hid (SrvM (ChangeMaps.setBlock v2.drew l.nb o2) rho1 sb fb ls (marksS S i (ps.take (k+1)))):=jh (by rw[MS.out];exact PN.out.1);have SE:=jh (ST2.out.trans PN.out.2);go_wp2_with fail;exact⟨⟨k+1,rho1,by omega,by go_num,HE,SE⟩,by simp[intOf];omega⟩
  ·obtain rfl:k=ps.length:=by omega
   have HE:Hid (SrvM wr rho1 sb fb ls (marksS S i ps)):=jh (by have:=HS.out;rw[List.take_length] at this;exact this);clear HS;go_wp2_with fail
   go_end0
   exact⟨rho1,rfl,HE.out,ST.out⟩
open Go.RowKit
def BestPost (b:Option (Int×At)) (p:Pf) (W:World) (e:Ending) (w':World):Prop:=
 (b=none∧e=.returned (.tuple #[.agg (rtC 0 (0,0) av0),.bool false])∧Below W.heap.size W w')∨
 ∃(peer:Int) (a:At) (u:AV),b=some (peer,a)∧e=.returned (.tuple #[.agg (rtC peer p u),.bool true])∧GoodA a∧Fresh W.heap.size w' (fun W=>AvU W a u)∧Below W.heap.size W w'
theorem results_BestOf (tmps:Array Value) (W:World) (b:Nat) (C:Array Value) (hC:C.size=13) (c:Bool) (h4:tmps.getD 6 undef=.pointer (some ⟨b,0,none⟩)) (h5:tmps.getD 7 undef=.bool c) (hb:W.heap[b]? =some (.cells C 61 (0,0))):
  (results Tryz.f27 tmps).run Tryz.prog W=.ok (.tuple #[.agg C,.bool c]) W:=by
 have hl:=run_loadVar_row (P:=Tryz.prog) W b 61 61 C (0,0) _ hb Tryz.underlying61 rfl (by rw[hC];kernel_rfl);unfold results;rw[Tryz.results27];simp[h4,h5,hl,asAddr,-Array.getD_eq_getD_getElem?]
open Go.RowKit
section
variable {κ υ:Type} {P:Program} {kt et t:TypeId} {ek:κ→Value} {ev:υ→Value} {ok:κ→Prop} {W:World} {b:Nat} {l:List (κ×υ)}
theorem MapT.empty (h:MapT ek ev ok W b l) (ht:P.underlying t=some (.map kt et)) (w:World) (hw:w.heap[b]? =W.heap[b]?):
  ∃o,(∀ty,(Builtin.clear_ #[t] ty #[.map (some b)]).run P w=.ok (.tuple #[]) (ChangeMaps.setBlock w b o))∧MapT ek ev ok (ChangeMaps.setBlock w b o) b ([]:List (κ×υ)):=by
 obtain⟨es,ck,hb,hst,hsz,hl,hok⟩:=h;rw[←hw] at hb;refine⟨.map #[] ck,?_,⟨#[],ck,ChangeMaps.heap_setBlock_same hb _,MapKept.stamped_empty ck,by simp,rfl,by simp⟩⟩;intro ty;simp[Builtin.clear_,run_underlying ht,MapKept.run_getObj_map hb,MapKept.run_setObj_map _ hb,Result.andThen,ChangeMaps.setBlock]
end
def modS (S:Sv) (i:Nat) (f:Pm→Pm):Sv:={S with ms:=S.ms.modify i f}
theorem modS_get (S:Sv) (i:Nat) (f:Pm→Pm) (j:Nat):(modS S i f).ms[j]? =(S.ms[j]?).map fun m=>if j=i then f m else m:=by
 unfold modS;simp only[List.getElem?_modify];cases S.ms[j]? with
 |none=>rfl
 |some m=>simp only[Option.map_some,Option.map_eq_map,eq_comm (a:=i)]
theorem modS_len (S:Sv) (i:Nat) (f:Pm→Pm):(modS S i f).ms.length=S.ms.length:=by unfold modS;simp
theorem modS_mod (S:Sv) (i:Nat) (f g:Pm→Pm):modS (modS S i f) i g=modS S i (g ∘ f):=by
 have e:(modS (modS S i f) i g).ms=(modS S i (g ∘ f)).ms:=by
  apply List.ext_getElem?;intro j;rw[modS_get,modS_get,modS_get];cases S.ms[j]? with
  |none=>rfl
  |some m=>
   by_cases h:j=i
   ·simp[h]
   ·simp[h]
 unfold modS at e ⊢;simp only at e ⊢;rw[e]
theorem modS_congr {S:Sv} {i:Nat} {m:Pm} (hm:S.ms[i]? =some m) {f g:Pm→Pm} (h:f m=g m):modS S i f=modS S i g:=by
 have e:(modS S i f).ms=(modS S i g).ms:=by
  apply List.ext_getElem?;intro j;rw[modS_get,modS_get];cases hj:S.ms[j]? with
  |none=>rfl
  |some n=>
   by_cases e:j=i
   ·subst e;rw[hm] at hj;injection hj with hj;subst hj;simp[h]
   ·simp[e]
 unfold modS at e ⊢;simp only at e ⊢;rw[e]
def withNews (f:Pf→Bool) (m:Pm):Pm:={m with news:=f}
def withThere (b:Bool) (m:Pm):Pm:={m with there:=b}
def joinS (S:Sv) (i:Nat):Sv:=modS S i fun m=>{m with there:=true,news:=fun p=>m.news p||(S.best i p).isSome}
def hushS (S:Sv) (i:Nat):Sv:=modS S i (withNews fun _=>false)
def awayS (S:Sv) (i:Nat):Sv:=modS S i fun m=>{m with there:=false,news:=fun _=>false}
def leaveS (S:Sv) (i:Nat) (had:List Pf):Sv:=turnS (setR (awayS S i) i []) had
theorem Step.more {rho rho':Nat→Role} {W W1 W2:World} {G:Nat→Prop} (h:Step rho rho' W W1) (hk:Kept G W1 W2) (hG:∀k,G k→W.heap.size≤k∨rho k≠.no):Step rho rho' W W2:=
 ⟨h.same,⟨hk.os.trans h.kept.os,hk.tape.trans h.kept.tape,hk.output.trans h.kept.output,Nat.le_trans h.kept.size hk.size,fun k hl hf=>
  (hk.block k (Nat.lt_of_lt_of_le hl h.kept.size) (fun hg=>(hG k hg).elim (fun e=>by omega) hf)).trans (h.kept.block k hl hf)⟩⟩
theorem SrvM.newNo {W:World} {rho:Nat→Role} {sb fb:Nat} {ls:List Pl} {S:Sv} (h:SrvM W rho sb fb ls S) {k:Nat} (hk:W.heap.size≤k):rho k=.no:=by
 cases hr:rho k with
 |no=>rfl
 |_=>exact absurd (h.dom k (by rw[hr];intro e;cases e)) (by omega)
section
variable {W W2:World} {rho:Nat→Role} {sb fb:Nat} {ls:List Pl} {S:Sv} {i:Nat} {m:Pm} {l:Pl}
theorem SrvM.setT (h:SrvM W rho sb fb ls S) (hm:S.ms[i]? =some m) (hl:ls[i]? =some l) (b:Bool) (hk0:Kept (fun k=>k=l.mb) W W2) (hrow:W2.heap[l.mb]? =some (.cells (mbC {m with there:=b} l) 130 (0,0))):
  SrvM W2 rho sb fb ls (modS S i (withThere b))∧Step rho rho W W2:=by
 have hM0:=h.bod.mem i m l hm hl;have s2:=hk0.size;refine⟨h.one (m':={m with there:=b}) hl (fun _ _=>rfl) (fun k hk=>Nat.lt_of_lt_of_le (h.dom k hk) s2) hk0 (fun k _ e=>by subst e;exact .inl hM0.rmb) rfl rfl rfl (modS_len ..) (by rw[modS_get,hm];simp[withThere]) (fun j hj=>by rw[modS_get];simp[hj]) (fun _ _=>rfl) ?_,⟨fun _ _=>rfl,hk0.imp fun k e=>by subst e;rw[hM0.rmb];intro e;cases e⟩⟩;have ne:∀k,rho k=.best i∨rho k=.news i∨rho k=.rib i∨rho k=.att→¬k=l.mb:=fun k hr e=>by
  subst e;rw[hM0.rmb] at hr;simp at hr
 refine⟨hrow,hM0.rmb,hM0.rib.kept hk0 fun k _ hF=>ne k (.inr (.inr (.inl hF))),hM0.rbb,hM0.rnb,?_,?_,hM0.good,hM0.ids,hM0.ass⟩
 ·obtain⟨L,hL⟩:=hM0.bests;exact⟨L,hL.kept (fun _ _=>rfl) hk0 (ne _ (.inl hM0.rbb)) fun k _ hF=>ne k (.inr (.inr (.inr hF)))⟩
 ·obtain⟨N,hN⟩:=hM0.news;exact⟨N,hN.kept hk0 (ne _ (.inr (.inl hM0.rnb)))⟩
theorem SrvM.setN (h:SrvM W rho sb fb ls S) (hm:S.ms[i]? =some m) (hl:ls[i]? =some l) (news':Pf→Bool) {N':List (Pf×Unit)} (hg:∀p,(getL N' p).isSome=news' p) (hr:∀x∈N',RgtP x.1) (hk0:Kept (fun k=>k=l.nb) W W2) (hM:NewsT W2 l.nb N'):
  SrvM W2 rho sb fb ls (modS S i (withNews news'))∧Step rho rho W W2:=by
 have hM0:=h.bod.mem i m l hm hl;have s2:=hk0.size;refine⟨h.one (m':={m with news:=news'}) hl (fun _ _=>rfl) (fun k hk=>Nat.lt_of_lt_of_le (h.dom k hk) s2) hk0 (fun k _ e=>by subst e;exact .inr (.inr (.inl hM0.rnb))) rfl rfl rfl (modS_len ..) (by rw[modS_get,hm];simp[withNews]) (fun j hj=>by rw[modS_get];simp[hj]) (fun _ _=>rfl) ?_,⟨fun _ _=>rfl,hk0.imp fun k e=>by subst e;rw[hM0.rnb];intro e;cases e⟩⟩;have ne:∀k,rho k=.mem i∨rho k=.best i∨rho k=.rib i∨rho k=.att→¬k=l.nb:=fun k hr e=>by
  subst e;rw[hM0.rnb] at hr;simp at hr
 refine⟨(hk0.block _ (jE hM0.row) (ne _ (.inl hM0.rmb))).trans hM0.row,hM0.rmb,hM0.rib.kept hk0 fun k _ hF=>ne k (.inr (.inr (.inl hF))),hM0.rbb,hM0.rnb,?_,⟨N',hM,hg,hr⟩,hM0.good,hM0.ids,hM0.ass⟩;obtain⟨L,hL⟩:=hM0.bests;exact⟨L,hL.kept (fun _ _=>rfl) hk0 (ne _ (.inr (.inl hM0.rbb))) fun k _ hF=>ne k (.inr (.inr (.inr hF)))⟩
end
open Go.RowKit Go.Maps Go.ChangeMaps Go.MapKept
section
variable {κ υ:Type}
def RangeT (ek:κ→Value) (ev:υ→Value) (ok:κ→Prop) (W:World) (b r:Nat) (l left:List (κ×υ)):Prop:=
 ∃es clock since seen c0,W.heap[b]? =some (.map es clock)∧Stamped es clock∧es.size≤maxLen∧es.toList.map (fun e=>(e.key,e.val))=l.map (fun p=>(ek p.1,ev p.2))∧(∀p∈l,ok p.1)∧
  W.heap[r]? =some (.mapIter (some b) since seen c0)∧(∀x∈es.toList,x.born<since)∧since≤c0∧since≤clock∧(∀p∈left,p∈l)∧
  (es.toList.filter (fun e=>!seen.contains e.born)).map (fun e=>(e.key,e.val))=left.map (fun p=>(ek p.1,ev p.2))
variable {P:Program} {kt et t:TypeId} {ek:κ→Value} {ev:υ→Value} {ok:κ→Prop} {W W':World} {b r:Nat} {l left:List (κ×υ)}
theorem RangeT.map (h:RangeT ek ev ok W b r l left):MapT ek ev ok W b l:=by
 obtain⟨es,c,_,_,_,h1,h2,h3,h4,h5,_⟩:=h;exact⟨es,c,h1,h2,h3,h4,h5⟩
theorem RangeT.lt (h:RangeT ek ev ok W b r l left):r<W.heap.size:=by
 obtain⟨es,c,_,_,_,_,_,_,_,_,hr,_⟩:=h;exact(Array.getElem?_eq_some_iff.1 hr).1
theorem RangeT.ne (h:RangeT ek ev ok W b r l left):r≠b:=by
 obtain⟨es,c,_,_,_,hb,_,_,_,_,hr,_⟩:=h;intro e;rw[e,hb] at hr;cases hr
theorem RangeT.of_block (h:RangeT ek ev ok W b r l left) (hb:W'.heap[b]? =W.heap[b]?) (hr:W'.heap[r]? =W.heap[r]?):RangeT ek ev ok W' b r l left:=by
 obtain⟨es,c,s,sn,c0,h1,h2,h3,h4,h5,h6,hh⟩:=h;exact⟨es,c,s,sn,c0,hb.trans h1,h2,h3,h4,h5,hr.trans h6,hh⟩
theorem RangeT.below (h:RangeT ek ev ok W b r l left) (hb:Below W.heap.size W W'):RangeT ek ev ok W' b r l left:=h.of_block (hb.block b h.map.lt) (hb.block r h.lt)
theorem RangeT.kept {F:Nat→Prop} (h:RangeT ek ev ok W b r l left) (hk:Kept F W W') (hb:¬F b) (hr:¬F r):RangeT ek ev ok W' b r l left:=h.of_block (hk.block b h.map.lt hb) (hk.block r h.lt hr)
theorem leftOf_list (es:Array MapEntry) (seen:Array Nat):(leftOf es seen).toList=es.toList.filter (fun e=>!seen.contains e.born):=by
 unfold leftOf;simp
theorem RangeT.left_eq (h:RangeT ek ev ok W b r l left):W.rangeLeft b r=left.length:=by
 obtain⟨es,c,s,sn,c0,h1,h2,h3,h4,h5,h6,_,_,_,_,hl⟩:=h;simp only[World.rangeLeft,h1,h6];have:=congrArg List.length hl;simp only[List.length_map,←leftOf_list,Array.length_toList] at this;exact this
theorem MapT.range (h:MapT ek ev ok W b l) (ht:P.underlying t=some (.map kt et)):
  ∃W',(Instr.range t (.map (some b))).run P W=.ok (.pointer (some ⟨W.heap.size,0,none⟩)) W'∧RangeT ek ev ok W' b W.heap.size l l∧Below W.heap.size W W'∧W'.heap.size=W.heap.size+1:=by
 have hlt:=h.lt;obtain⟨es,c,hb,hst,hs,hl,hok⟩:=h;refine⟨_,run_range_map W t kt et b es c ht hb,⟨es,c,c,#[],c,((MapKept.heap_alloc W _).2 b hlt).trans hb,hst,hs,hl,hok,(MapKept.heap_alloc W _).1,hst.1,Nat.le_refl _,Nat.le_refl _,fun _ h=>h,?_⟩,(Below.refl _ _).alloc (Nat.le_refl _) _,by simp⟩;rw[List.filter_eq_self.2 (by simp)];exact hl
theorem RangeT.next (h:RangeT ek ev ok W b r l left) (ty:TypeId):
  (left=[]∧(Instr.next (.pointer (some ⟨r,0,none⟩)) false ty).run P W=.ok (.tuple #[.bool false]) W)∨
  ∃i p W',left[i]? =some p∧p∈l∧(Instr.next (.pointer (some ⟨r,0,none⟩)) false ty).run P W=.ok (.tuple #[.bool true,ek p.1,ev p.2]) W'∧
   RangeT ek ev ok W' b r l (left.eraseIdx i)∧Kept (fun k=>k=r) W W'∧W'.heap.size=W.heap.size∧(Instr.entry (.pointer (some ⟨r,0,none⟩))).run P W'=.ok (.tuple #[ek p.1,ev p.2]) W':=by
 have hne:=h.ne;obtain⟨es,clock,since,seen,c0,hb,hst,hs,hl,hok,hr,hold,hsc,hsk,hlm,hlf⟩:=h;rcases run_next_at (P:=P) W ty r b since c0 seen es clock hr hb hold hsc with⟨h0,hrun⟩|⟨e,he,w1,hal,hrun⟩
 ·refine .inl ⟨?_,hrun⟩;have h1:(leftOf es seen).toList.length=0:=by simpa using h0
  have h2:=congrArg List.length hlf;rw[←leftOf_list,List.length_map,List.length_map,h1] at h2;exact List.length_eq_zero_iff.1 h2.symm
 ·obtain⟨hem,hes⟩:=mem_left he;rw[leftOf_list] at he;obtain⟨i,hi⟩:=List.getElem?_of_mem he;have hmi:(left.map (fun p=>(ek p.1,ev p.2)))[i]? =some (e.key,e.val):=by rw[←hlf,List.getElem?_map,hi];rfl
  rw[List.getElem?_map] at hmi;cases hli:left[i]? with
  |none=>rw[hli] at hmi;cases hmi
  |some p=>
   rw[hli] at hmi;simp at hmi;have hr1:w1.heap[r]? =some (.mapIter (some b) since seen c0):=by rcases hal with rfl|rfl<;>exact hr
   have hb1:w1.heap[b]? =some (.map es clock):=by rcases hal with rfl|rfl<;>exact hb
   have hset:=heap_set (o':=.mapIter (some b) since (seen.push e.born) clock) hr1;have hb':(setBlock w1 r (.mapIter (some b) since (seen.push e.born) clock)).heap[b]? =some (.map es clock):=(hset.2 b (fun e1=>hne e1.symm)).trans hb1;have hborn:=((stamped_iff es clock).1 hst).2.1;have hrun2:=run_entry_at (P:=P) _ r b since seen es clock e hset.1 hb' hem hborn;rw[←hmi.1,←hmi.2] at hrun hrun2;refine .inr ⟨i,p,_,hli,hlm p (List.mem_of_getElem? hli),hrun,⟨es,clock,since,seen.push e.born,clock,hb',hst,hs,hl,hok,hset.1,hold,hsk,hsk,fun q hq=>hlm q ((List.eraseIdx_sublist _ _).subset hq),?_⟩,?_,?_,hrun2⟩
   ·rw[map_eraseIdx,←hlf,←map_eraseIdx];congr 1;have hap:(es.toList.filter fun x=>!seen.contains x.born).Pairwise fun x y=>¬((x.born==e.born)=true∧(y.born==e.born)=true):=by
     have h1:es.toList.Pairwise fun x y=>x.born≠y.born:=by
      have:=hborn;unfold List.Nodup at this;rwa [List.pairwise_map] at this
     exact(h1.filter _).imp fun {x y} hne ⟨e1,e2⟩=>hne ((beq_iff_eq.1 e1).trans (beq_iff_eq.1 e2).symm)
    rw[←filter_eq_eraseIdx (fun x:MapEntry=>x.born==e.born) _ i e hi (by simp) hap,List.filter_filter];congr 1;funext x;rw[contains_push];cases seen.contains x.born<;>cases (x.born==e.born)<;>rfl
   ·rcases hal with rfl|rfl<;>exact⟨rfl,rfl,rfl,by simp[setBlock],fun k hk hf=>hset.2 k hf⟩
   ·rcases hal with rfl|rfl<;>simp[setBlock]
theorem filter_alike {α β γ:Type} (f:α→γ) (g:β→γ) (q:α→Bool) (q':β→Bool):∀(L:List α) (M:List β),L.map f=M.map g→(∀x∈L,∀p∈M,f x=g p→q x=q' p)→(L.filter q).map f=(M.filter q').map g
 |[],[],_,_=>rfl
 |[],_::_,h,_=>by simp at h
 |_::_,[],h,_=>by simp at h
 |x::L,p::M,h,hq=>by
  simp only[List.map_cons,List.cons.injEq] at h;have ih:=filter_alike f g q q' L M h.2 fun x hx p hp=>hq x (List.mem_cons_of_mem _ hx) p (List.mem_cons_of_mem _ hp);have e:=hq x (by simp) p (by simp) h.1;simp only[List.filter_cons];rw[e];cases q' p
  ·simpa using ih
  ·simpa [h.1] using ih
theorem RangeT.drop [DecidableEq κ] (E:KeyEnc P kt ek ok) (h:RangeT ek ev ok W b r l left) (ht:P.underlying t=some (.map kt et)) (a:κ) (ha:ok a):
  ∃W',(∀ty,(Builtin.delete_ #[t,kt] ty #[.map (some b),ek a]).run P W=.ok (.tuple #[]) W')∧RangeT ek ev ok W' b r (delL l a) (delL left a)∧Kept (fun k=>k=b) W W'∧W'.heap.size=W.heap.size:=by
 have hne:=h.ne;have hd:=h.map.apart;obtain⟨es,clock,since,seen,c0,hb,hst,hs,hl,hok,hr,hold,hsc,hsk,hlm,hlf⟩:=h;obtain⟨x,hx⟩:=E.lit a ha;have hpok:∀p∈delL l a,ok p.1:=fun p hp=>hok p (mem_del.1 hp).1;have hlm':∀p∈delL left a,p∈delL l a:=fun p hp=>mem_del.2 ⟨hlm p (mem_del.1 hp).1,(mem_del.1 hp).2⟩;rcases find_at E hl hok hd a ha W with⟨h1,h2,h3⟩|⟨v0,j,e,h1,h2,h3,h4,h5,h6⟩
 ·have el:delL l a=l:=by
   unfold delL;rw[List.filter_eq_self];intro p hp;simpa using getL_none.1 h1 p hp
  have el2:delL left a=left:=by
   unfold delL;rw[List.filter_eq_self];intro p hp;simpa using getL_none.1 h1 p (hlm p hp)
  refine⟨setBlock W b (.map es clock),?_,⟨es,clock,since,seen,c0,heap_setBlock_same hb _,hst,hs,by rw[el];exact hl,hpok,(heap_setBlock_other hb _ hne).trans hr,hold,hsc,hsk,hlm',by rw[el2];exact hlf⟩,Kept.setBlock _ rfl,by simp[setBlock]⟩;intro ty;simp[Builtin.delete_,run_underlying ht,MapKept.run_getObj_map hb,E.K.check W _ hx,h2,MapKept.run_setObj_map _ hb,Result.andThen,setBlock]
 ·have hjl:j<es.toList.length:=(List.getElem?_eq_some_iff.1 h3).1;have hjs:j<es.size:=by simpa using hjl
  have hem:e∈es.toList:=List.mem_of_getElem? h3;have hsub:(es.eraseIdxIfInBounds j).toList=es.toList.eraseIdx j:=by
   unfold Array.eraseIdxIfInBounds;rw[dif_pos hjs];simp
  have hborn:=((stamped_iff es clock).1 hst).2.1;have hkeys:=((stamped_iff es clock).1 hst).2.2;have hfe:es.toList.eraseIdx j=es.toList.filter (fun x=>!(x.born==e.born)):=by
   refine(filter_eq_eraseIdx (fun x:MapEntry=>x.born==e.born) _ j e h3 (by simp) ?_).symm;have h1:es.toList.Pairwise fun x y=>x.born≠y.born:=by
    have:=hborn;unfold List.Nodup at this;rwa [List.pairwise_map] at this
   exact h1.imp fun {x y} hne ⟨e1,e2⟩=>hne ((beq_iff_eq.1 e1).trans (beq_iff_eq.1 e2).symm)
  have hq:∀x∈es.toList,∀p:κ×υ,(x.key,x.val)=(ek p.1,ev p.2)→(!(x.born==e.born))=!decide (p.1=a):=by
   intro x hx p hxp;simp at hxp;by_cases hpa:p.1=a
   ·have hk:x.key=e.key:=by rw[hxp.1,hpa,h4]
    have:x=e:=entry_eq_of_key hkeys hx hem hk;simp[this,hpa]
   ·have:x.born≠e.born:=fun hbe=>hpa (E.inj _ _ (by rw[←hxp.1,born_inj hborn hx hem hbe,h4]));simp[this,hpa]
  refine⟨setBlock W b (.map (es.eraseIdxIfInBounds j) clock),?_,⟨_,clock,since,seen,c0,heap_setBlock_same hb _,stamped_erase hst j,Nat.le_trans (MapFrom.size_erase es j) hs,?_,hpok,(heap_setBlock_other hb _ hne).trans hr,fun x hx=>hold x ?_,hsc,hsk,hlm',?_⟩,Kept.setBlock _ rfl,by simp[setBlock]⟩
  ·intro ty;simp[Builtin.delete_,run_underlying ht,MapKept.run_getObj_map hb,E.K.check W _ hx,h2,MapKept.run_setObj_map _ hb,Result.andThen,setBlock]
  ·rw[hsub,hfe];exact filter_alike _ _ _ _ _ _ hl fun x hx p _=>hq x hx p
  ·rw[hsub] at hx;exact(List.eraseIdx_sublist _ _).subset hx
  ·rw[hsub,hfe,List.filter_filter];have:(fun x:MapEntry=>!seen.contains x.born&&!(x.born==e.born))=fun x=>!(x.born==e.born)&&!seen.contains x.born:=by funext x;rw[Bool.and_comm]
   rw[this,←List.filter_filter];exact filter_alike _ _ _ _ _ _ hlf fun x hx p _=>hq x (List.mem_filter.1 hx).1 p
end
open Go.RowKit
theorem mem_erase_iff {α:Type} {l:List α} {i:Nat} {x:α} (h:l[i]? =some x) (y:α):y∈l↔y=x∨y∈l.eraseIdx i:=by
 induction l generalizing i with
 |nil=>simp at h
 |cons z l ih=>
  cases i with
  |zero=>simp at h;subst h;simp
  |succ i=>
   simp at h;rw[List.eraseIdx_cons_succ,List.mem_cons,List.mem_cons,ih h];constructor
   ·rintro (h|h|h)
    ·exact .inr (.inl h)
    ·exact .inl h
    ·exact .inr (.inr h)
   ·rintro (h|h|h)
    ·exact .inr (.inl h)
    ·exact .inl h
    ·exact .inr (.inr h)
def JoinOn (m:Pm) (best:Pf→Option (Int×At)) (left:List (Pf×BV)) (nw:Pf→Bool):Prop:=
 (∀p,(nw p=true∨∃x∈left,x.1=p)↔(m.news p=true∨(best p).isSome=true))
theorem joinOn_start {W:World} {rho:Nat→Role} {bb:Nat} {m:Pm} {best:Pf→Option (Int×At)} {L:List (Pf×BV)} (h:BestAt W rho bb best L):JoinOn m best L m.news:=by
 intro p;have e:(best p).isSome=(getL L p).isSome:=by rw[←h.get p];cases getL L p<;>rfl
 rw[e];constructor
 ·rintro (h1|⟨x,hx,rfl⟩)
  ·exact .inl h1
  ·right;have:=getL_of_mem h.map.apart (a:=x.1) (v:=x.2) hx;rw[this];rfl
 ·rintro (h1|h1)
  ·exact .inl h1
  ·right;obtain⟨v,hv⟩:=Option.isSome_iff_exists.1 h1;exact⟨_,getL_mem hv,rfl⟩
theorem joinOn_step {m:Pm} {best:Pf→Option (Int×At)} {left:List (Pf×BV)} {nw:Pf→Bool} (h:JoinOn m best left nw) {i:Nat} {x:Pf×BV} (hx:left[i]? =some x):JoinOn m best (left.eraseIdx i) (fun q=>nw q||decide (q=x.1)):=by
 intro p;rw[←h p];simp only[Bool.or_eq_true,decide_eq_true_eq];constructor
 ·rintro ((h1|rfl)|⟨y,hy,rfl⟩)
  ·exact .inl h1
  ·exact .inr ⟨x,List.mem_of_getElem? hx,rfl⟩
  ·exact .inr ⟨y,(mem_erase_iff hx y).2 (.inr hy),rfl⟩
 ·rintro (h1|⟨y,hy,rfl⟩)
  ·exact .inl (.inl h1)
  ·rcases (mem_erase_iff hx y).1 hy with rfl|hy
   ·exact .inl (.inr rfl)
   ·exact .inr ⟨y,hy,rfl⟩
theorem joinOn_end {m:Pm} {best:Pf→Option (Int×At)} {nw:Pf→Bool} (h:JoinOn m best [] nw):nw=fun p=>m.news p||(best p).isSome:=by
 funext p;have:=h p;rw[Bool.eq_iff_iff];simpa using this
theorem join_end {S:Sv} {i:Nat} {m:Pm} (hm:S.ms[i]? =some m) {nw:Pf→Bool} (h:JoinOn m (S.best i) [] nw):modS (modS S i (withThere true)) i (withNews nw)=joinS S i:=by
 rw[modS_mod];unfold joinS;refine modS_congr hm ?_;simp only[Function.comp,withThere,withNews];rw[joinOn_end h]
theorem put_news (nw:Pf→Bool) {N:List (Pf×Unit)} (h:∀p,(getL N p).isSome=nw p) (q p:Pf):(getL (putL N q ()) p).isSome=(nw p||decide (p=q)):=by
 rw[getL_put,←h p];by_cases e:p=q<;>simp[e]
section
variable {W:World} {rho:Nat→Role} {sb fb:Nat} {ls:List Pl} {S:Sv}
theorem sv_Join_no (h:SrvM W rho sb fb ls S) {n:Int} (hn:¬(0≤n∧n<(S.ms.length:Int))):Calls Tryz.prog 18 #[.pointer (some ⟨sb,0,none⟩),.int .i64 n] W fun e w'=>e=.returned (.int .i64 1)∧W=w':=by
 have MB:=jh (sv_member_no h hn);clear h hn;go_enter Tryz.func18,Tryz.ntmps18;go_wp2_with fail;refine MB.out.mono ?_;rintro e w1 ⟨rfl,rfl⟩;go_wp2_with fail;go_ret;exact⟨rfl,rfl⟩
theorem sv_Join_have (h:SrvM W rho sb fb ls S) {i:Nat} {m:Pm} (hm:S.ms[i]? =some m) (hth:m.there=true):Calls Tryz.prog 18 #[.pointer (some ⟨sb,0,none⟩),.int .i64 i] W fun e w'=>e=.returned (.int .i64 5)∧W=w':=by
 obtain⟨l,hl,hM⟩:=h.get hm;have m2:W.cell? ⟨l.mb,2,none⟩=some (.bool true):=by rw[←hth];exact jB hM.row 2
 have MB:=jh (sv_member h hl);clear h hm hl hM hth;go_enter Tryz.func18,Tryz.ntmps18;go_wp2_with fail;refine MB.out.mono ?_;rintro e w1 ⟨rfl,rfl⟩;go_wp2_with fail;go_ret;exact⟨rfl,rfl⟩
theorem sv_Join (h:SrvM W rho sb fb ls S) {i:Nat} {m:Pm} (hm:S.ms[i]? =some m) (hth:m.there=false):
  Calls Tryz.prog 18 #[.pointer (some ⟨sb,0,none⟩),.int .i64 i] W fun e w'=>e=.returned (.int .i64 0)∧SrvM w' rho sb fb ls (joinS S i)∧Step rho rho W w':=by
 obtain⟨l,hl,hM⟩:=h.get hm;have m2:W.cell? ⟨l.mb,2,none⟩=some (.bool false):=by rw[←hth];exact jB hM.row 2
 have m2f:W.frozen? ⟨l.mb,2,none⟩=false:=jN hM.row 2;have MB:=jh (sv_member h hl);have HS:=jh h;have HL:=jh hl;have HM:=jh hm;have ROW:=jh hM.row;clear h hm hl hM hth;go_enter Tryz.func18,Tryz.ntmps18;go_wp2_with fail;refine MB.out.mono ?_;rintro e w1 ⟨rfl,rfl⟩;have X1:=jh (HS.out.setT HM.out HL.out true (Kept.setCell ⟨l.mb,2,none⟩ (.bool true) rfl) (jO ROW.out 2 (.bool true)));go_upto_region 7 with (fail)
 obtain⟨w2,hw2⟩:∃w2:World,w2=W.setCell ⟨l.mb,2,none⟩ (.bool true):=⟨_,rfl⟩
 rw[←hw2] at X1 ⊢;have HM2:Hid ((modS S i (withThere true)).ms[i]? =some (withThere true m)):=jh (by rw[modS_get,HM.out];simp);have hM2:=X1.out.1.bod.mem i _ l HM2.out HL.out;have b4:w2.cell? ⟨l.mb,4,none⟩=some (.map (some l.bb)):=jB hM2.row 4;obtain⟨L,hL⟩:=hM2.bests;obtain⟨N,hN⟩:=hM2.news;obtain⟨w3,hr,hR,hB,hz⟩:=hL.map.range Tryz.underlying64;obtain⟨rb,hrb⟩:∃rb,rb=w2.heap.size:=⟨_,rfl⟩
 rw[←hrb] at hr hR;have NRB:Hid (rho rb=.no):=jh (X1.out.1.newNo (by omega));have HR:=jh hR;have RBW:Hid (W.heap.size≤rb):=jh (by rw[hrb,hw2];exact(Kept.setCell (F:=fun _=>True) ⟨l.mb,2,none⟩ (.bool true) trivial).size);have VAL:Hid (∀x∈L,RgtP x.1):=jh fun x hx=>(hL.val x hx).2.1;have J0:=jh (joinOn_start (m:=m) hL);have N0:Hid (SrvM w3 rho sb fb ls (modS (modS S i (withThere true)) i (withNews m.news))∧Step rho rho W w3):=jh (by
  have e:modS (modS S i (withThere true)) i (withNews m.news)=modS S i (withThere true):=by
   rw[modS_mod];exact modS_congr HM.out rfl
  rw[e];exact⟨X1.out.1.below hB,X1.out.2.grow hB⟩)
 clear hw2 hM2 hL hN hR hB hz m2 m2f X1 hrb;go_wp2_with fail;clear hr b4;go_loopw [] (fun wr=>∃(left:List (Pf×BV)) (nw:Pf→Bool),Hid (JoinOn m (S.best i) left nw)∧Hid (SrvM wr rho sb fb ls (modS (modS S i (withThere true)) i (withNews nw))∧Step rho rho W wr)∧Hid (RangeT pfV bvV KOk wr l.bb rb L left)) (fun wr=>wr.rangeLeft l.bb rb)
 case atStart=>exact⟨L,m.news,J0,N0,HR⟩
 case round=>
  clear J0 N0 HR;obtain⟨left,nw,JO,D,RT⟩:=hrel;rcases RT.out.next (P:=Tryz.prog) 0 with⟨rfl,hn⟩|⟨k,q,w4,hi,hq,hn,hR1,hk1,hz1,hen⟩
  ·have hn':∀ty,(Instr.next (.pointer (some ⟨rb,0,none⟩)) false ty).run Tryz.prog wr=.ok (.tuple #[.bool false]) wr:=fun _=>hn;clear hn;have FIN:Hid (SrvM wr rho sb fb ls (joinS S i)∧Step rho rho W wr):=jh (by have:=D.out;rw[join_end HM.out JO.out] at this;exact this);clear D JO RT;go_wp2_with fail;go_ret;exact⟨rfl,FIN.out.1,FIN.out.2⟩
  ·have hrl:=jh RT.out.left_eq;have hle:Hid ((left.eraseIdx k).length+1=left.length):=jh (by
    have:=(List.getElem?_eq_some_iff.1 hi).1;rw[List.length_eraseIdx_of_lt this];omega)
   have JN:=jh (joinOn_step JO.out hi);have K1:Kept (fun k=>rho k=.no) wr w4:=hk1.imp fun k e=>by subst e;exact NRB.out
   have hz4:=jh hz1;have D4:=jh (D.out.1.out K1);have S4:=jh (D.out.2.more hk1 (fun k e=>.inl (by have:=RBW.out;have e:k=rb:=e;omega)));have RT4:=jh hR1;have RGT:Hid (RgtP q.1):=jh (by
    have hM4:=HM.out;exact(VAL.out q hq))
   clear hi hq hk1 hz1 K1 D RT JO hR1;obtain⟨⟨p1,p2⟩,bv⟩:=q;obtain⟨p,hp⟩:∃p:Pf,p=(p1,p2):=⟨_,rfl⟩
   have hn':∀ty,(Instr.next (.pointer (some ⟨rb,0,none⟩)) false ty).run Tryz.prog wr=.ok (.tuple #[.bool true,.agg #[.int .u32 p1,.int .i64 p2],bvV bv]) w4:=fun _=>hn;have he':(Instr.entry (.pointer (some ⟨rb,0,none⟩))).run Tryz.prog w4=.ok (.tuple #[.agg #[.int .u32 p1,.int .i64 p2],bvV bv]) w4:=hen;clear hn hen;go_upto_region 9 with (fail)
   clear hn';go_upto_region 10 with (fail)
   obtain⟨v1,hv1,c0,c1,hb1⟩:=box2 w4 (.int .u32 p1) (.int .i64 p2) 53;rw[←hv1];obtain⟨pb,hpb⟩:∃pb,pb=w4.heap.size:=⟨_,rfl⟩
   rw[←hpb] at c0 c1 ⊢;have D1:=jh (D4.out.below hb1);have S1:=jh (S4.out.grow hb1);have RT1:=jh (RT4.out.below hb1);have HMN:Hid ((modS (modS S i (withThere true)) i (withNews nw)).ms[i]? =some (withNews nw (withThere true m))):=jh (by rw[modS_get,modS_get,HM.out];simp);have hM1:=D1.out.bod.mem i _ l HMN.out HL.out;have mb5:v1.cell? ⟨l.mb,5,none⟩=some (.map (some l.nb)):=jB hM1.row 5;have NNB:Hid (rho l.nb=.news i):=jh hM1.rnb;have NBB:Hid (rho l.bb=.best i):=jh hM1.rbb;obtain⟨N1,hN1⟩:=hM1.news;have KO:KOk (p1,p2):=RGT.out.key;obtain⟨o2,hs2,hm2⟩:=hN1.map.store pf_enc Tryz.underlying128 (p1,p2) KO () (rgt_short hN1.map.apart hN1.rgt) v1.drew rfl;have hk2:Kept (fun k=>k=l.nb) v1 (ChangeMaps.setBlock v1.drew l.nb o2):=(Kept.refl _ v1).drew.trans (Kept.setBlock o2 rfl);have PN:=jh (D1.out.setN HMN.out HL.out (fun q=>nw q||decide (q=(p1,p2))) (put_news nw hN1.get (p1,p2)) (fun x hx=>(mem_put hx).elim (fun h=>hN1.rgt x h.1) (fun h=>by rw[h];exact RGT.out)) hk2 hm2);have RT2:=jh (RT1.out.kept hk2 (fun e=>by have h1:=NNB.out;rw[←e,NBB.out] at h1;cases h1) (fun e=>by have h1:=NNB.out;rw[←e,NRB.out] at h1;cases h1));clear hm2 hk2 hM1 hN1 hb1 hv1 he' D4 S4 RT4 D1 RT1 hpb;refine region_tailR 6 (by kernel_rfl) (by kernel_rfl) ?_;simp only[List.take_succ_cons,List.take_zero,List.drop_succ_cons,List.drop_zero]
   repeat still_step
   refine wpStill_nil ?_;have EM:Hid (modS (modS (modS S i (withThere true)) i (withNews nw)) i (withNews fun q=>nw q||decide (q=(p1,p2)))=modS (modS S i (withThere true)) i (withNews fun q=>nw q||decide (q=(p1,p2)))):=jh (by rw[modS_mod];rfl);have HE:Hid (SrvM (ChangeMaps.setBlock v1.drew l.nb o2) rho sb fb ls (modS (modS S i (withThere true)) i (withNews fun q=>nw q||decide (q=(p1,p2))))∧Step rho rho W (ChangeMaps.setBlock v1.drew l.nb o2)):=jh ⟨by rw[←EM.out];exact PN.out.1,S1.out.trans PN.out.2⟩;have RL:Hid ((ChangeMaps.setBlock v1.drew l.nb o2).rangeLeft l.bb rb<wr.rangeLeft l.bb rb):=jh (by rw[RT2.out.left_eq,hrl.out];have:=hle.out;omega);clear PN S1 EM hp;go_wp2_with fail;exact⟨⟨left.eraseIdx k,_,JN,HE,RT2⟩,RL.out⟩
end
open Go.RowKit
theorem perm_len {α:Type} [DecidableEq α]:∀(xs ys:List α),xs.Nodup→(∀p∈xs,p∈ys)→ys.length≤xs.length→xs.Perm ys
 |[],ys,_,_,h=>by
  have:ys=[]:=List.length_eq_zero_iff.1 (by simpa using h);rw[this]
 |x::xs,ys,hn,hm,hl=>by
  have hx:=hm x (List.mem_cons_self ..);obtain⟨h1,h2⟩:=List.nodup_cons.1 hn;have e:=List.perm_cons_erase hx;refine List.Perm.trans ((perm_len xs (ys.erase x) h2 (fun p hp=>?_) ?_).cons x) e.symm
  ·refine(List.mem_erase_of_ne ?_).2 (hm p (List.mem_cons_of_mem _ hp));rintro rfl;exact h1 hp
  ·have:=e.length_eq;simp at this hl;omega
theorem erase_perm {α:Type}:∀{l:List α} {i:Nat} {x:α},l[i]? =some x→(x::l.eraseIdx i).Perm l
 |[],_,_,h=>by simp at h
 |y::l,0,x,h=>by simp at h;subst h;exact List.Perm.refl _
 |y::l,i+1,x,h=>by
  simp at h;rw[List.eraseIdx_cons_succ];exact(List.Perm.swap y x _).trans ((erase_perm h).cons y)
theorem rgt_few {υ:Type} {l:List (Pf×υ)} (h:KeysApart l) (hr:∀x∈l,RgtP x.1):l.length≤2^33:=by
 have h1:(l.map fun x=>pKey x.1).Nodup:=by
  rw[List.nodup_iff_pairwise_ne,List.pairwise_map];exact h.imp_of_mem fun {x y} hx hy hne e=>hne (pKey_inj (hr x hx) (hr y hy) e)
 have h2:=nodup_lt (2^33) _ h1 (by
  intro k hk;obtain⟨x,hx,rfl⟩:=List.mem_map.1 hk;obtain⟨a,n,e,ha,hn,-⟩:=(hr x hx).nat;rw[e];exact keyN_deep a n ha hn)
 rwa [List.length_map] at h2
theorem keysU_nodup {υ:Type} {l:List (Pf×υ)} (h:KeysApart l):(l.map (·.1)).Nodup:=by
 rw[List.nodup_iff_pairwise_ne,List.pairwise_map];exact h
theorem keysU_mem {υ:Type} {l:List (Pf×υ)} (h:KeysApart l) (p:Pf):p∈l.map (·.1)↔(getL l p).isSome=true:=by
 constructor
 ·intro hp;obtain⟨x,hx,rfl⟩:=List.mem_map.1 hp;rw[getL_of_mem h (a:=x.1) (v:=x.2) hx];rfl
 ·intro hp;obtain⟨v,hv⟩:=Option.isSome_iff_exists.1 hp;exact List.mem_map.2 ⟨_,getL_mem hv,rfl⟩
theorem srt_strict {ys:List Pf} (h:ys.Pairwise fun x y=>¬plt y x) (hn:ys.Nodup):ys.Pairwise plt:=by
 rw[List.nodup_iff_pairwise_ne] at hn;refine(h.and hn).imp fun {x y} hxy=>?_;by_cases e:plt x y
 ·exact e
 ·exact absurd (plt_total e hxy.1) hxy.2
section
variable {W:World} {rho:Nat→Role} {sb fb:Nat} {ls:List Pl} {S:Sv}
theorem sv_News_no (h:SrvM W rho sb fb ls S) {n:Int} (hn:¬(0≤n∧n<(S.ms.length:Int))):Calls Tryz.prog 17 #[.pointer (some ⟨sb,0,none⟩),.int .i64 n] W fun e w'=>e=.returned (.slice none 0 0)∧W=w':=by
 have MB:=jh (sv_member_no h hn);clear h hn;go_enter Tryz.func17,Tryz.ntmps17;go_wp2_with fail;refine MB.out.mono ?_;rintro e w1 ⟨rfl,rfl⟩;go_wp2_with fail;go_ret;exact⟨rfl,rfl⟩
def NewsPost (sb fb:Nat) (ls:List Pl) (S:Sv) (i:Nat) (m:Pm) (rho:Nat→Role) (W:World) (e:Ending) (w':World):Prop:=
 ∃(s:Option Addr) (c:Nat) (L:List Pf),e=.returned (.slice s L.length c)∧OwnPs w' W.heap.size (.slice s L.length c) L∧L.Pairwise plt∧(∀p,p∈L↔m.news p=true)∧(∀p∈L,RgtP p)∧SrvM w' rho sb fb ls (hushS S i)∧Step rho rho W w'
theorem sv_News (h:SrvM W rho sb fb ls S) {i:Nat} {m:Pm} (hm:S.ms[i]? =some m):
  Calls Tryz.prog 17 #[.pointer (some ⟨sb,0,none⟩),.int .i64 i] W (NewsPost sb fb ls S i m rho W):=by
 obtain⟨l,hl,hM⟩:=h.get hm;have MB:=jh (sv_member h hl);have HS:=jh h;have HL:=jh hl;have HM:=jh hm;have m5:W.cell? ⟨l.mb,5,none⟩=some (.map (some l.nb)):=jB hM.row 5;obtain⟨N,hN⟩:=hM.news;obtain⟨w3,hr,hR,hB,hz⟩:=hN.map.range Tryz.underlying128;obtain⟨rb,hrb⟩:∃rb,rb=W.heap.size:=⟨_,rfl⟩
 rw[←hrb] at hr hR;have NRB:Hid (rho rb=.no):=jh (h.newNo (by omega));have RBW:Hid (W.heap.size≤rb):=jh (by omega);have HR:=jh hR;have HN:=jh hN;have FEW:=jh (rgt_few hN.map.apart hN.rgt);have RNB:Hid (rho l.nb=.news i):=jh hM.rnb;have D0:=jh (And.intro (h.below hB) (Step.below (rho:=rho) hB));have O0:=jh (ownPs_nil w3 W.heap.size);clear h hm hl hM hN hR hB hz hrb;go_enter Tryz.func17,Tryz.ntmps17;go_wp2_with fail;refine MB.out.mono ?_;rintro e w1 ⟨rfl,rfl⟩;go_wp2_with fail;clear hr m5;go_loopw [6] (fun t6 wr=>∃(left:List (Pf×Unit)) (s:Option Addr) (c:Nat) (xs:List Pf),t6=.slice s xs.length c∧Hid ((xs++left.map (·.1)).Perm (N.map (·.1)))∧Hid (OwnPs wr W.heap.size (.slice s xs.length c) xs)∧Hid (SrvM wr rho sb fb ls S∧Step rho rho W wr)∧Hid (RangeT pfV unV KOk wr l.nb rb N left)∧Hid (∀g,(Value.slice s xs.length c).ownBlock=some g→g≠rb)) (fun _ wr=>wr.rangeLeft l.nb rb)
 case atStart=>exact⟨N,none,0,[],rfl,jh (List.Perm.refl _),O0,D0,HR,jh (fun g hg=>by cases hg)⟩
 case round=>
  clear D0 HR O0;obtain⟨left,s,c,xs,rfl,PM,OP,D,RT,NE⟩:=hrel;have XL:Hid (xs.length≤2^33):=jh (by
   have h1:=PM.out.length_eq;have h2:=FEW.out;simp at h1;omega)
  rcases RT.out.next (P:=Tryz.prog) 0 with⟨rfl,hn⟩|⟨k,q,w4,hi,hq,hn,hR1,hk1,hz1,hen⟩
  ·have hn':∀ty,(Instr.next (.pointer (some ⟨rb,0,none⟩)) false ty).run Tryz.prog wr=.ok (.tuple #[.bool false]) wr:=fun _=>hn;clear hn;have hM1:=D.out.1.bod.mem i m l HM.out HL.out;have mb5:wr.cell? ⟨l.mb,5,none⟩=some (.map (some l.nb)):=jB hM1.row 5;obtain⟨o2,hs2,hm2⟩:=RT.out.map.empty Tryz.underlying128 wr rfl;have hk2:Kept (fun k=>k=l.nb) wr (ChangeMaps.setBlock wr l.nb o2):=Kept.setBlock o2 rfl;have PN:=jh (D.out.1.setN HM.out HL.out (fun _=>false) (N':=[]) (fun p=>rfl) (fun x hx=>by cases hx) hk2 hm2);have OW2:=jh (OP.out.kept hk2 (fun g hg e=>by
    have h1:=jJ OP.out.1 g hg;have h2:=HS.out.newNo h1;have e:g=l.nb:=e;rw[e,RNB.out] at h2;cases h2))
   have XN:Hid (xs.Nodup):=jh (by
    have h1:=PM.out;simp at h1;exact(h1.nodup_iff).2 (keysU_nodup HN.out.map.apart))
   have XM:Hid (∀p,p∈xs↔m.news p=true):=jh (fun p=>by
    have h1:=PM.out;simp only[List.map_nil,List.append_nil] at h1;rw[h1.mem_iff,keysU_mem HN.out.map.apart,HN.out.get])
   have XR:Hid (∀p∈xs,RgtP p):=jh (fun p hp=>by
    have h1:=PM.out;simp only[List.map_nil,List.append_nil] at h1;obtain⟨x,hx,rfl⟩:=List.mem_map.1 (h1.mem_iff.1 hp);exact HN.out.rgt x hx)
   have ST:=jh (D.out.2.trans PN.out.2);have SO:=jh (fun (w:World) (h:OwnPs w W.heap.size (.slice s xs.length c) xs)=>ps_Sort W.heap.size (.slice s xs.length c) xs w h (by have:=XL.out;omega));clear D RT PM OP hm2 hk2 hM1 NE;go_wp2_with fail;refine(SO.out _ OW2.out).mono ?_;rintro e w5 ⟨ys,rfl,yl,ym,ys1,yo,yk⟩;have YP:=jh (perm_len xs ys XN.out (fun p hp=>(ym p).2 hp) (by omega));have FIN:Hid (NewsPost sb fb ls S i m rho W (.returned (.slice s xs.length c)) w5):=jh (by
    refine⟨s,c,ys,by rw[yl],by rw[yl];exact yo,srt_strict ys1 ((YP.out.nodup_iff).1 XN.out),fun p=>(ym p).trans (XM.out p),fun p hp=>XR.out p ((ym p).1 hp),?_,?_⟩
    ·refine PN.out.1.out (yk.imp fun g hg=>?_);exact HS.out.newNo (jJ OW2.out.1 g hg)
    ·exact ST.out.more yk fun g hg=>.inl (jJ OW2.out.1 g hg))
   clear yl ym ys1 yo yk YP SO PN ST OW2;go_wp2_with fail;go_ret;exact FIN.out
  ·have hrl:=jh RT.out.left_eq;have hle:Hid ((left.eraseIdx k).length+1=left.length):=jh (by
    have:=(List.getElem?_eq_some_iff.1 hi).1;rw[List.length_eraseIdx_of_lt this];omega)
   have PM2:Hid (((xs++[q.1])++(left.eraseIdx k).map (·.1)).Perm (N.map (·.1))):=jh (by
    refine List.Perm.trans ?_ PM.out;rw[List.append_assoc];exact List.Perm.append_left xs (by simpa using (erase_perm hi).map Prod.fst))
   have RG:Hid (RgtP q.1):=jh (HN.out.rgt q hq);have K1:Kept (fun k=>rho k=.no) wr w4:=hk1.imp fun k e=>by have e:k=rb:=e;subst e;exact NRB.out
   have D4:=jh (D.out.1.out K1);have S4:=jh (D.out.2.more hk1 (fun k e=>.inl (by have:=RBW.out;have e:k=rb:=e;omega)));have OP4:=jh (OP.out.kept hk1 (fun g hg e=>NE.out g hg e));have RT4:=jh hR1;have XL2:Hid (xs.length+1≤2^33):=jh (by
    have h1:=PM2.out.length_eq;have h2:=FEW.out;simp at h1;omega)
   clear hi hq hk1 hz1 K1 D RT OP PM hR1 XL;obtain⟨⟨p1,p2⟩,bv⟩:=q;have hn':∀ty,(Instr.next (.pointer (some ⟨rb,0,none⟩)) false ty).run Tryz.prog wr=.ok (.tuple #[.bool true,.agg #[.int .u32 p1,.int .i64 p2],unV bv]) w4:=fun _=>hn;have he':(Instr.entry (.pointer (some ⟨rb,0,none⟩))).run Tryz.prog w4=.ok (.tuple #[.agg #[.int .u32 p1,.int .i64 p2],unV bv]) w4:=hen;clear hn hen;go_upto_region 7 with (fail)
   clear hn';go_upto_region 8 with (fail)
   obtain⟨v1,hv1,c0,c1,hb1⟩:=box2 w4 (.int .u32 p1) (.int .i64 p2) 53;rw[←hv1];obtain⟨pb,hpb⟩:∃pb,pb=w4.heap.size:=⟨_,rfl⟩
   rw[←hpb] at c0 c1 ⊢;obtain⟨i0,hii,hz0,hz1,hz2⟩:=info_parts info_pref;have hal:Below v1.heap.size v1 (v1.alloc (.cells #[.int .u32 p1,.int .i64 p2] 53)):=(Below.refl _ _).alloc (Nat.le_refl _) _;have D1:=jh ((D4.out.below hb1).below hal);have S1:=jh ((S4.out.grow hb1).grow hal);have RT1:=jh ((RT4.out.below hb1).below hal);have OA:=jh ((OP4.out.below hb1).below hal);have NC:=jh (new_cells v1 #[.int .u32 p1,.int .i64 p2] 53);have WB:Hid (W.heap.size≤(v1.alloc (.cells #[.int .u32 p1,.int .i64 p2] 53)).heap.size):=jh S1.out.kept.size;have OKp:Hid (OkP (p1,p2)):=jh RG.out.1;have RBL:Hid (rb<(v1.alloc (.cells #[.int .u32 p1,.int .i64 p2] 53)).heap.size):=jh RT1.out.lt;clear hb1 hv1 he' D4 S4 RT4 hpb hal OP4;go_wp2_with (at_builtin;refine wpList_append_own_at _ rfl _ _ 23 rfl W.heap.size 53 i0 _ 2 16 Tryz.underlying23 hii hz0 hz1 hz2 rfl (by decide) (.slice s xs.length c) xs.length (xs.flatMap encP) rfl OA.out.1 ⟨v1.heap.size,0,none⟩ 1 1 [.int .u32 p1,.int .i64 p2] rfl rfl NC.out (encP_one (p1,p2)) (by have:=XL2.out;unfold maxLen;omega) (by have:=XL2.out;omega) (by have:=WB.out;omega) ?_);intro v3 w5 h2 h3 _ hat;obtain⟨s3,c3,hv3,-⟩:=jV h2;subst hv3;have hk3:Kept (fun k=>Value.ownBlock (.slice s xs.length c)=some k) (v1.alloc (.cells #[.int .u32 p1,.int .i64 p2] 53)) w5:=⟨h3.os,h3.tape,h3.output,h3.size,fun k hk hne=>h3.block k hk (fun e=>hne e.symm)⟩
   have OX:Hid (OwnPs w5 W.heap.size (.slice s3 (xs++[(p1,p2)]).length c3) (xs++[(p1,p2)])):=jh (by
    refine⟨?_,?_⟩
    ·rw[List.length_append,List.flatMap_append];simpa [encP] using h2
    ·intro q hq;rcases List.mem_append.1 hq with hq|hq
     ·exact OA.out.2 q hq
     ·simp at hq;subst hq;exact OKp.out)
   have nog:∀g,Value.ownBlock (.slice s xs.length c)=some g→rho g=.no:=fun g hg=>HS.out.newNo (jJ OA.out.1 g hg);have D5:=jh (D1.out.out (hk3.imp nog));have S5:=jh (S1.out.more hk3 fun g hg=>.inl (jJ OA.out.1 g hg));have RT5:=jh (RT1.out.kept hk3 (fun e=>by have:=nog _ e;rw[RNB.out] at this;cases this) (fun e=>NE.out _ e rfl));have NE5:Hid (∀g,(Value.slice s3 (xs++[(p1,p2)]).length c3).ownBlock=some g→g≠rb):=jh (fun g hg e=>by
    have hg':(Value.slice s3 (xs.length+1) c3).ownBlock=some g:=by simpa using hg
    rcases hat with h|h
    ·rw[h] at hg';exact NE.out g hg' e
    ·rw[h] at hg';injection hg' with hg';have:=RBL.out;simp at this hg';omega)
   have RL:Hid (w5.rangeLeft l.nb rb<wr.rangeLeft l.nb rb):=jh (by rw[RT5.out.left_eq,hrl.out];have:=hle.out;omega);have EL:Hid (xs.length+1=(xs++[(p1,p2)]).length):=jh (by simp);have D6:=jh (And.intro D5.out S5.out);clear h2 h3 hat hk3 nog OA NC D1 S1 RT1 c0 c1 D5 S5;rw[EL.out];go_wp2_with fail;exact⟨⟨left.eraseIdx k,s3,c3,xs++[(p1,p2)],rfl,PM2,OX,D6,RT5,NE5⟩,RL.out⟩
end
end Go.Proofs.YtkoidahgbbabiaaGreat
