/- Texts of one proof, one behind another. -/
import Derived.Test.YtkoidahgbbabiaaGreatSr16
import Derived.Test.YtkoidahgbbabiaaGreatSr7
import Derived.Test.YtkoidahgbbabiaaGreatSr15
import Derived.Test.YtkoidahgbbabiaaGreatSr4
import Derived.Lib.SliceRun
import Derived.Test.YtkoidahgbbabiaaGreatSr3
import Derived.Test.YtkoidahgbbabiaaGreatSr6
import Derived.Test.YtkoidahgbbabiaaGreatSr1
set_option maxRecDepth 100000
set_option maxHeartbeats 100000000
namespace Go.Proofs.YtkoidahgbbabiaaGreat
open Go.RowKit
def sdsN (n:Nat):List Sd:=(List.range n).map fun (i:Nat)=>(((65001+(i:Int)),i+1):Sd)
theorem sdsN_len (n:Nat):(sdsN n).length=n:=by simp[sdsN]
theorem sdsN_succ (n:Nat):sdsN (n+1)=sdsN n++[((65001+(n:Int)),n+1)]:=by simp[sdsN,List.range_succ]
theorem sdsN_get {n i:Nat} (h:i<n):(sdsN n)[i]? =some ((65001+(i:Int)),i+1):=by simp[sdsN,h]
theorem info_side:(Tryz.prog.info? 75).map (fun i=>(i.zero,i.size,i.bytes))=some (some (.agg #[.int .i64 0,.int .u32 0]),2,16):=by kernel_rfl
theorem sd_one (x:Sd):∀u∈sdL x,u.oneCell'=true:=by
 intro u hu;unfold sdL at hu;simp at hu;rcases hu with rfl|rfl<;>rfl
theorem l_sides14 (n:Nat) (hn:n≤16) (w:World):Calls Tryz.prog 15 #[.int .i64 n] w fun e w'=>∃(s:Option Addr) (c:Nat),e=.returned (.slice s n c)∧w'.ownsRow w.heap.size 75 2 (.slice s n c) n ((sdsN n).flatMap sdL)∧Below w.heap.size w w':=by
 obtain⟨i0,hii,hz0,hz1,hz2⟩:=info_parts info_side;have O0:Hid ((w.alloc (.cells #[] 75)).ownsRow w.heap.size 75 2 (.slice (some ⟨w.heap.size,0,none⟩) 0 0) 0 ((sdsN 0).flatMap sdL)):=jh (own_empty (Nat.le_refl _));have B0:Hid (Below w.heap.size w (w.alloc (.cells #[] 75))):=jh ((Below.refl _ _).alloc (Nat.le_refl _) _);go_enter Tryz.func15,Tryz.ntmps15;go_wp2_with fail;go_loopw [3,4] (fun t3 t4 wr=>∃(k:Nat) (s:Option Addr) (c:Nat),k≤n∧t4=.int .i64 k∧t3=.slice s k c∧Hid (wr.ownsRow w.heap.size 75 2 (.slice s k c) k ((sdsN k).flatMap sdL))∧Hid (Below w.heap.size w wr)) (fun _ t4 _=>n - (intOf t4).toNat)
 case atStart=>exact⟨0,_,0,by omega,rfl,rfl,O0,B0⟩
 case round=>
  clear O0 B0;obtain⟨k,s,c,hk,rfl,rfl,OW,BV⟩:=hrel;by_cases hkn:k<n
  ·have d0:decide ((k:Int)<(n:Int))=true:=by simp;omega
   have z1:IntKind.i64.wrap ((65001:Int)+(k:Int))=65001+(k:Int):=by rw[IntWalk.i64_in _ (by omega)]
   have z2:IntKind.i64.wrap ((k:Int)+1)=(k:Int)+1:=by rw[IntWalk.i64_in _ (by omega)]
   have z3:IntKind.u32.wrap ((k:Int)+1)=(k:Int)+1:=by unfold IntKind.wrap IntKind.bits IntKind.signed;simp;omega
   obtain⟨ab,hab⟩:∃ab,ab=wr.heap.size:=⟨_,rfl⟩
   have hal:Below wr.heap.size wr (wr.alloc (.cells #[.int .i64 (65001+(k:Int)),.int .u32 ((k:Int)+1)] 75)):=(Below.refl _ _).alloc (Nat.le_refl _) _;have OA:=jh (jQ OW.out hal);have NC:=jh (new_cells wr #[.int .i64 (65001+(k:Int)),.int .u32 ((k:Int)+1)] 75);have BA:=jh (jC BV.out hal);clear hal OW BV hab;go_wp2_with (at_builtin;refine wpList_append_own_at _ rfl _ _ 29 rfl w.heap.size 75 i0 _ 2 16 Tryz.underlying29 hii hz0 hz1 hz2 rfl (by decide) (.slice s k c) k ((sdsN k).flatMap sdL) rfl OA.out ⟨wr.heap.size,0,none⟩ 1 1 [.int .i64 (65001+(k:Int)),.int .u32 ((k:Int)+1)] rfl rfl NC.out (sd_one (65001+(k:Int),k+1)) (by unfold maxLen;omega) (by omega) (by have:=BA.out.size;omega) ?_);intro v3 w5 h2 h3 _ hat;obtain⟨s3,c3,hv3,-⟩:=jV h2;subst hv3;have O3:Hid (w5.ownsRow w.heap.size 75 2 (.slice s3 (k+1) c3) (k+1) ((sdsN (k+1)).flatMap sdL)):=jh (by rw[sdsN_succ,List.flatMap_append];exact h2);have B3:Hid (Below w.heap.size w w5):=jh (BA.out.trans ((kept_gr h3).below BA.out.size fun g hg=>jJ OA.out g hg));clear h2 h3 hat OA NC BA;go_wp2_with fail;exact⟨⟨k+1,s3,c3,by omega,by go_num,rfl,O3,B3⟩,by simp[intOf];omega⟩
  ·obtain rfl:k=n:=by omega
   have d0:decide ((k:Int)<(k:Int))=false:=by simp
   have O1:=jh OW.out;have B1:=jh BV.out;clear OW BV;go_wp2_with fail;go_ret;exact⟨s,c,rfl,O1.out,B1.out⟩
def netP (n:Nat):Pf:=((n*16777216:Nat),8)
theorem netP_ok {n:Nat} (h:n<256):OkP (netP n):=by unfold netP OkP;simp only;omega
theorem netP_right (n:Nat):rightB (netP n).1 (netP n).2=true:=by
 unfold netP;have:rightB ((n*16777216:Nat):Int) ((8:Nat):Int)=true:=right_mod.2 ⟨by simp,by decide⟩;exact this
theorem netP_rgt {n:Nat} (h:n<256):RgtP (netP n):=⟨netP_ok h,netP_right n⟩
theorem l_net14 (n:Nat) (h:n<256) (w:World):Calls Tryz.prog 32 #[.int .i64 n] w fun e w'=>e=.returned (.agg #[.int .u32 (netP n).1,.int .i64 (netP n).2])∧Below w.heap.size w w':=by
 have z1:IntKind.u32.wrap (n:Int)=n:=by unfold IntKind.wrap IntKind.bits IntKind.signed;simp;omega
 go_enter Tryz.func32,Tryz.ntmps32;go_wp2_with fail;exact bodyPost_ret (v:=.agg #[.int .u32 ((n:Int)*16777216),.int .i64 8]) (by simp[results,Tryz.results32,go_sem]) rfl ⟨by unfold netP;simp,(Below.refl _ _).alloc (Nat.le_refl _) _⟩
def hopL (n:Nat):List Int:=(List.range n).map fun (i:Nat)=>(100:Int)+(i:Int)
theorem hopL_succ (n:Nat):hopL (n+1)=hopL n++[(100:Int)+(n:Int)]:=by simp[hopL,List.range_succ]
def iL14 (x:Int):List Value:=[.int .i64 x]
theorem i_one14 (x:Int):∀u∈iL14 x,u.oneCell'=true:=by
 intro u hu;simp[iL14] at hu;subst hu;rfl
def atP (n:Nat):At:=⟨14,0,[(false,hopL n)],167772161,0,0,0,0,[],[]⟩
def avP (b:Nat):AV:=⟨14,0,some ⟨b,0,none⟩,1,1,167772161,0,0,0,0,none,0,0,none,0,0⟩
theorem info_intP:(Tryz.prog.info? 3).map (fun i=>(i.zero,i.size,i.bytes))=some (some (.int .i64 0),1,8):=by kernel_rfl
theorem path_at {W:World} {b n B:Nat} {s:Option Addr} {c:Nat} (h1:W.heap[b]? =some (.cells #[.bool false,.slice s n c] 121 (0,0))) (h2:W.ownsRow B 3 1 (.slice s n c) n ((hopL n).flatMap iL14)) (hn:n≤100:=by omega):AvAt W (atP n) (avP b):=by
 refine⟨some ⟨b,0,none⟩,1,none,0,none,0,rfl,?_,SlAt.nil,SlAt.nil⟩;refine⟨_,1,rfl,Nat.le_refl _,by simp[maxLen],fun _=>⟨b,0,rfl,fun i x hx=>?_⟩⟩;obtain⟨rfl,rfl⟩:i=0∧x=(false,hopL n):=by
  have h:=(List.getElem?_eq_some_iff.1 hx).1;simp[atP] at h;subst h;simp[atP] at hx;exact⟨rfl,hx.symm⟩
 refine⟨[.bool false,.slice s n c],rfl,⟨_,rfl,?_⟩,fun j u hu=>?_⟩
 ·have e:(hopL n).length=n:=by simp[hopL]
  have h3:W.ownsRow B 3 1 (.slice s n c) (hopL n).length ((hopL n).flatMap iL14):=by rw[e];exact h2
  have:=own_slat (C:=iL14) (fun _=>rfl) h3;refine this.imp fun y cs hy hc=>⟨hc,?_⟩
  obtain⟨i,hi,rfl⟩:=List.mem_map.1 hy;have:=List.mem_range.1 hi;unfold I64r;omega
 ·rw[jB h1];simpa using hu
theorem box_avz (w:World):∃W0,W0=w.alloc (.cells #[.int .i64 0,.int .i64 0,.slice none 0 0,.int .u32 0,.int .i64 0,.int .i64 0,.int .i64 0,.int .u32 0,.slice none 0 0,.slice none 0 0] 42)∧W0.heap[w.heap.size]? =some (.cells av0.C 42 (0,0))∧Below w.heap.size w W0∧W0.heap.size=w.heap.size+1:=box1 w av0.C 42
theorem l_path14 (n:Nat) (hn:n≤100) (w:World):Calls Tryz.prog 55 #[.int .i64 n] w fun e w'=>∃b:Nat,e=.returned (avP b).V∧Fresh w.heap.size w' (fun W=>AvAt W (atP n) (avP b))∧Below w.heap.size w w':=by
 obtain⟨i0,hii,hz0,hz1,hz2⟩:=info_parts info_intP;go_enter Tryz.func55,Tryz.ntmps55;go_upto_region 1 with (fail)
 obtain⟨W0,hW0,q0,hB,hz⟩:=box_avz w;have SZ0:Hid (W0.heap.size=w.heap.size+1):=jh hz;clear hz;rw[←hW0];have Q0:=jh q0;have B0:=jh hB;have O0:Hid ((W0.alloc (.cells #[] 3)).ownsRow (w.heap.size+1) 3 1 (.slice (some ⟨W0.heap.size,0,none⟩) 0 0) 0 ((hopL 0).flatMap iL14)):=jh (own_empty (by have h1:=jE q0;omega));have B1:Hid (Below W0.heap.size W0 (W0.alloc (.cells #[] 3))):=jh ((Below.refl _ _).alloc (Nat.le_refl _) _);clear hW0 q0 hB;go_wp2_with fail;go_loopw [3,4] (fun t3 t4 wr=>∃(k:Nat) (s:Option Addr) (c:Nat),k≤n∧t4=.int .i64 k∧t3=.slice s k c∧Hid (wr.ownsRow (w.heap.size+1) 3 1 (.slice s k c) k ((hopL k).flatMap iL14))∧Hid (Below W0.heap.size W0 wr)) (fun _ t4 _=>n - (intOf t4).toNat)
 case atStart=>exact⟨0,_,0,by omega,rfl,rfl,O0,B1⟩
 case round=>
  clear O0 B1;obtain⟨k,s,c,hk,rfl,rfl,OW,BV⟩:=hrel;by_cases hkn:k<n
  ·have d0:decide ((k:Int)<(n:Int))=true:=by simp;omega
   have z1:IntKind.i64.wrap ((100:Int)+(k:Int))=100+(k:Int):=by rw[IntWalk.i64_in _ (by omega)]
   have hal:Below wr.heap.size wr (wr.alloc (.cells #[.int .i64 (100+(k:Int))] 3)):=(Below.refl _ _).alloc (Nat.le_refl _) _;have OA:=jh (jQ OW.out hal);have NC:=jh (new_cells wr #[.int .i64 (100+(k:Int))] 3);have BA:=jh (jC BV.out hal);have WB:Hid (w.heap.size+1≤(wr.alloc (.cells #[.int .i64 (100+(k:Int))] 3)).heap.size):=jh (by have h1:=jE Q0.out;have h2:=BA.out.size;omega);clear hal OW BV;go_wp2_with (at_builtin;refine wpList_append_own_at _ rfl _ _ 39 rfl (w.heap.size+1) 3 i0 _ 1 8 Tryz.underlying39 hii hz0 hz1 hz2 rfl (by decide) (.slice s k c) k ((hopL k).flatMap iL14) rfl OA.out ⟨wr.heap.size,0,none⟩ 1 1 [.int .i64 (100+(k:Int))] rfl rfl NC.out (i_one14 (100+(k:Int))) (by unfold maxLen;omega) (by omega) WB.out ?_);intro v3 w5 h2 h3 _ hat;obtain⟨s3,c3,hv3,-⟩:=jV h2;subst hv3;have O3:Hid (w5.ownsRow (w.heap.size+1) 3 1 (.slice s3 (k+1) c3) (k+1) ((hopL (k+1)).flatMap iL14)):=jh (by rw[hopL_succ,List.flatMap_append];exact h2);have B3:Hid (Below W0.heap.size W0 w5):=jh (BA.out.trans ((kept_gr h3).below BA.out.size fun g hg=>by have:=jJ OA.out g hg;have h1:=SZ0.out;omega));clear h2 h3 hat OA NC BA;go_wp2_with fail;exact⟨⟨k+1,s3,c3,by omega,by go_num,rfl,O3,B3⟩,by simp[intOf];omega⟩
  ·obtain rfl:k=n:=by omega
   have d0:decide ((k:Int)<(k:Int))=false:=by simp
   have O1:=jh OW.out;have B1:=jh BV.out;clear OW BV;go_wp2_with ((with_reducible refine jM (X:=.store 42 (.tmp 2) (.tmp 19)) ?_ ?_);(·rfl));unfold Halt;obtain⟨w2,hw2,q2,hb2,hz2⟩:=box1 wr #[.bool false,.slice s k c] 121;rw[←hw2];obtain⟨sgb,hsgb⟩:∃b,b=wr.heap.size:=⟨_,rfl⟩
   rw[←hsgb] at q2 ⊢;have Q2:=jh q2;have O2:=jh (jQ O1.out hb2);have B2:=jh (jC B1.out hb2);have Q02:=jh ((B2.out.block _ (jE Q0.out)).trans Q0.out);have LSG:Hid (w.heap.size+1≤sgb):=jh (by rw[hsgb];have h1:=B1.out.size;have h2:=SZ0.out;omega);clear hw2 q2 hb2 hz2 hsgb O1 B1;refine st_row rfl 42 _ _ rfl w.heap.size rfl 42 av0.C (avP sgb).C rfl Q02.out (by kernel_rfl) rfl (AV.one _) ?_;have Q3:=jh (setRow_heap _ _ _ (avP sgb).C _ _ Q02.out);have K3:=jh (kept_setRow (w:=w2) (F:=fun k=>k=w.heap.size) w.heap.size (avP sgb).C rfl);have LT:=jh (jE Q2.out);generalize w2.setRow w.heap.size (avP sgb).C=w3 at Q3 K3 ⊢;go_wp2_with fail;refine bodyPost_ret (v:=.agg (avP sgb).C) (results_cell_row Tryz.results55 _ w3 w.heap.size 42 (avP sgb).C (0,0) _ rfl Q3.out Tryz.underlying42 rfl sz_avS) rfl ⟨sgb,rfl,?_,?_⟩
   ·have h2:Fresh (w.heap.size+1) w3 (fun W=>W.ownsRow (w.heap.size+1) 3 1 (.slice s k c) k ((hopL k).flatMap iL14)):=
     (((own_on O2.out).kept K3.out (fun g _ hg e=>by have:=jJ O2.out g hg;omega)).wide fun g hg _=>jJ O2.out g hg)
    have h1:Fresh (w.heap.size+1) w3 (fun W=>W.heap[sgb]? =some (.cells #[.bool false,.slice s k c] 121 (0,0))):=fun V hV=>by
     have h3:=LSG.out;have h4:=LT.out;have h5:=K3.out.size;show V.heap[sgb]? =_;rw[hV sgb h3 (by omega),K3.out.block sgb h4 (by omega)];exact Q2.out
    exact((h1.and h2).imp fun W h=>path_at h.1 h.2).wide fun k hk _=>by omega
   ·exact(jC B0.out B2.out).trans (K3.out.below (by have h1:=B0.out.size;have h2:=B2.out.size;omega) (by rintro j rfl;exact Nat.le_refl _))
open Go.RowKit
structure LSv (w W:World) (rho:Nat→Role) (sb fb:Nat) (ls:List Pl) (A:Ab):Prop where
 srv:∃S,SrvM W rho sb fb ls S∧IsAb S A
 low:∀k,rho k≠.no→w.heap.size≤k
 bel:Below w.heap.size w W
section
variable {w W W':World} {rho rho':Nat→Role} {sb fb:Nat} {ls:List Pl} {A A':Ab}
theorem LSv.step (h:LSv w W rho sb fb ls A) {S':Sv} (hs:SrvM W' rho' sb fb ls S') (ha:IsAb S' A') (st:Step rho rho' W W'):LSv w W' rho' sb fb ls A':=
 ⟨⟨S',hs,ha⟩,fun k hk=>by
  have hb:=h.bel.size;by_cases hl:k<W.heap.size
  ·rw[st.same k hl] at hk;exact h.low k hk
  ·omega,h.bel.trans (st.kept.below h.bel.size h.low)⟩
theorem LSv.below (h:LSv w W rho sb fb ls A) (hb:Below W.heap.size W W'):LSv w W' rho sb fb ls A:=by
 obtain⟨S,h1,h2⟩:=h.srv;exact h.step (h1.below hb) h2 (Step.below hb)
theorem LSv.out {G:Nat→Prop} (h:LSv w W rho sb fb ls A) (hk:Kept G W W') (hG:∀k,G k→rho k=.no) (hw:∀k,G k→w.heap.size≤k):LSv w W' rho sb fb ls A:=by
 obtain⟨S,h1,h2⟩:=h.srv;exact⟨⟨S,h1.out (hk.imp hG),h2⟩,h.low,h.bel.trans (hk.below h.bel.size hw)⟩
theorem LSv.new (h:LSv w W rho sb fb ls A) {k:Nat} (hk:W.heap.size≤k):rho k=.no:=by
 obtain⟨S,h1,-⟩:=h.srv;exact h1.newNo hk
theorem LSv.old (h:LSv w W rho sb fb ls A) {k:Nat} (hk:k<w.heap.size):rho k=.no:=by
 cases hr:rho k with
 |no=>rfl
 |_=>exact absurd (h.low k (by rw[hr];intro e;cases e)) (by omega)
theorem LSv.few (h:LSv w W rho sb fb ls A):A.V.length≤16:=by
 obtain⟨S,h1,h2⟩:=h.srv;rw[←h2.len];exact h1.bod.few
theorem LSv.handed {Q:World→Prop} (h:LSv w W rho sb fb ls A) (hq:On (fun k=>k<w.heap.size) w Q):On (fun k=>rho k=.no) W Q:=fun V hV=>
 hq V fun k hk _=>(hV k (h.old hk) (Nat.lt_of_lt_of_le hk h.bel.size)).trans (h.bel.block k hk)
theorem ls_New (own most:Int) (v:Value) (xs:List Sd) (w W:World) (hB:Below w.heap.size w W) (hxs:SdsAt W v xs) (hc:newCd own xs=0):
  Calls Tryz.prog 14 #[.int .i64 own,v,.int .i64 most] W fun e w'=>∃(rho:Nat→Role) (sb fb:Nat) (ls:List Pl),e=.returned (.tuple #[.pointer (some ⟨sb,0,none⟩),.int .i64 0])∧LSv w w' rho sb fb ls (newA own most xs)∧(∀k,rho k≠.no→W.heap.size≤k)∧Below W.heap.size W w':=by
 refine(sv_New own most v xs W hxs).mono ?_;rintro e w' (⟨h0,-⟩|⟨-,rho,sb,fb,ls,rfl,hs,hl,hb⟩)
 ·exact absurd hc h0
 ·exact⟨rho,sb,fb,ls,rfl,⟨⟨_,hs,newA_is own most xs⟩,fun k hk=>Nat.le_trans hB.size (hl k hk),jC hB hb⟩,hl,hb⟩
theorem ls_Join (h:LSv w W rho sb fb ls A) {i:Nat} (hi:i<A.V.length) (ht:A.th i=false):
  Calls Tryz.prog 18 #[.pointer (some ⟨sb,0,none⟩),.int .i64 i] W fun e w'=>e=.returned (.int .i64 0)∧LSv w w' rho sb fb ls (A.join i)∧Step rho rho W w':=by
 obtain⟨S,h1,h2⟩:=h.srv;obtain⟨m,hm⟩:=h2.at hi;refine(sv_Join h1 hm ((h2.mem i m hm).1.trans ht)).mono ?_;rintro e w' ⟨rfl,hs,st⟩;exact⟨rfl,h.step hs (h2.join hi) st,st⟩
theorem ls_Join_have (h:LSv w W rho sb fb ls A) {i:Nat} (hi:i<A.V.length) (ht:A.th i=true):
  Calls Tryz.prog 18 #[.pointer (some ⟨sb,0,none⟩),.int .i64 i] W fun e w'=>e=.returned (.int .i64 5)∧W=w':=by
 obtain⟨S,h1,h2⟩:=h.srv;obtain⟨m,hm⟩:=h2.at hi;exact sv_Join_have h1 hm ((h2.mem i m hm).1.trans ht)
theorem ls_Join_no (h:LSv w W rho sb fb ls A) {n:Int} (hn:¬(0≤n∧n<(A.V.length:Int))):Calls Tryz.prog 18 #[.pointer (some ⟨sb,0,none⟩),.int .i64 n] W fun e w'=>e=.returned (.int .i64 1)∧W=w':=by
 obtain⟨S,h1,h2⟩:=h.srv;exact sv_Join_no h1 (by rw[h2.len];exact hn)
theorem ls_There (h:LSv w W rho sb fb ls A) {i:Nat} (hi:i<A.V.length):Calls Tryz.prog 28 #[.pointer (some ⟨sb,0,none⟩),.int .i64 i] W fun e w'=>e=.returned (.bool (A.th i))∧W=w':=by
 obtain⟨S,h1,h2⟩:=h.srv;obtain⟨m,hm⟩:=h2.at hi;rw[←(h2.mem i m hm).1];exact sv_There h1 hm
def PsOn (rho:Nat→Role) (W:World) (s:Option Addr) (c:Nat) (L:List Pf):Prop:=On (fun k=>rho k=.no) W fun W=>PsAt W (.slice s L.length c) L
theorem ls_Mark (h:LSv w W rho sb fb ls A) {i:Nat} (hi:i<A.V.length) (ht:A.th i=true) (v:Value) (ps:List Pf) (hps:On (fun k=>rho k=.no) W (fun W=>PsAt W v ps)):
  Calls Tryz.prog 16 #[.pointer (some ⟨sb,0,none⟩),.int .i64 i,v] W fun e w'=>∃rho',e=.returned (.tuple #[])∧LSv w w' rho' sb fb ls (A.mark i ps)∧Step rho rho' W w':=by
 obtain⟨S,h1,h2⟩:=h.srv;obtain⟨m,hm⟩:=h2.at hi;refine(sv_Mark h1 hm ((h2.mem i m hm).1.trans ht) v ps hps).mono ?_;rintro e w' ⟨rho',rfl,hs,st⟩;exact⟨rho',rfl,h.step hs (h2.mark ht ps) st,st⟩
def Ab.updI (A:Ab) (n:Int) (kind:Int) (gone nets:List Pf) (a:At):Ab:=if (0≤n∧n<(A.V.length:Int))∧A.th n.toNat=true then A.upd n.toNat kind gone nets a else A
theorem ls_Update (h:LSv w W rho sb fb ls A) {i:Nat} (hi:i<A.V.length) (ht:A.th i=true) (x:Ms) (hx:On (fun k=>rho k=.no) W (fun W=>MsAt W x)) (hg:GoodA x.a) (hz:x.gone.length+x.nets.length≤656):
  Calls Tryz.prog 20 #[.pointer (some ⟨sb,0,none⟩),.int .i64 i,x.m.V] W fun e w'=>∃(rho':Nat→Role) (s:Option Addr) (c:Nat),e=.returned (.tuple #[.slice s (A.updR i x.m.kind x.gone x.nets x.a).2.1.length c,.int .i64 (A.updR i x.m.kind x.gone x.nets x.a).1])∧
   LSv w w' rho' sb fb ls (A.upd i x.m.kind x.gone x.nets x.a)∧Step rho rho' W w'∧PsOn rho' w' s c (A.updR i x.m.kind x.gone x.nets x.a).2.1:=by
 obtain⟨S,h1,h2⟩:=h.srv;obtain⟨m,hm⟩:=h2.at hi;have e:updP S.own S.most m.R x.m.kind x.gone x.nets x.a=A.updR i x.m.kind x.gone x.nets x.a:=by
  unfold Ab.updR;rw[h2.own,h2.most,(h2.get hm).2]
 have hU:=sv_Update h1 hm ((h2.mem i m hm).1.trans ht) x hx hg hz;rw[e] at hU;refine hU.mono ?_;rintro e w' ⟨rho',v,rfl,hs,st,hp⟩;obtain⟨s,c,rfl,-⟩:=id hp.self;exact⟨rho',s,c,rfl,h.step hs (h2.upd hm ..) st,st,hp⟩
theorem ls_Update_off (h:LSv w W rho sb fb ls A) {i:Nat} (hi:i<A.V.length) (ht:A.th i=false) (x:MV):
  Calls Tryz.prog 20 #[.pointer (some ⟨sb,0,none⟩),.int .i64 i,x.V] W fun e w'=>e=.returned (.tuple #[.slice none 0 0,.int .i64 7])∧Below W.heap.size W w':=by
 obtain⟨S,h1,h2⟩:=h.srv;obtain⟨m,hm⟩:=h2.at hi;exact sv_Update_off h1 hm ((h2.mem i m hm).1.trans ht) x
theorem ls_Update_no (h:LSv w W rho sb fb ls A) {n:Int} (hn:¬(0≤n∧n<(A.V.length:Int))) (x:MV):Calls Tryz.prog 20 #[.pointer (some ⟨sb,0,none⟩),.int .i64 n,x.V] W fun e w'=>e=.returned (.tuple #[.slice none 0 0,.int .i64 1])∧Below W.heap.size W w':=by
 obtain⟨S,h1,h2⟩:=h.srv;exact sv_Update_no h1 (by rw[h2.len];exact hn) x
theorem ls_Leave (h:LSv w W rho sb fb ls A) {i:Nat} (hi:i<A.V.length) (ht:A.th i=true):
  Calls Tryz.prog 24 #[.pointer (some ⟨sb,0,none⟩),.int .i64 i] W fun e w'=>∃(rho':Nat→Role) (s:Option Addr) (c:Nat) (L:List Pf),e=.returned (.tuple #[.slice s L.length c,.int .i64 0])∧L.Pairwise plt∧(∀p,p∈L↔(getL (A.R i) p).isSome=true)∧LSv w w' rho' sb fb ls (A.leave i)∧Step rho rho' W w'∧PsOn rho' w' s c L:=by
 obtain⟨S,h1,h2⟩:=h.srv;obtain⟨m,hm⟩:=h2.at hi;refine(sv_Leave h1 hm ((h2.mem i m hm).1.trans ht)).mono ?_;rintro e w' ⟨rho',s,c,L,rfl,hp,hL,hs,st,ho⟩;rw[←(h2.get hm).2] at hL;exact⟨rho',s,c,L,rfl,hp,hL,h.step hs (h2.leave i L hL) st,st,ho⟩
theorem ls_Leave_off (h:LSv w W rho sb fb ls A) {i:Nat} (hi:i<A.V.length) (ht:A.th i=false):Calls Tryz.prog 24 #[.pointer (some ⟨sb,0,none⟩),.int .i64 i] W fun e w'=>e=.returned (.tuple #[.slice none 0 0,.int .i64 4])∧W=w':=by
 obtain⟨S,h1,h2⟩:=h.srv;obtain⟨m,hm⟩:=h2.at hi;exact sv_Leave_off h1 hm ((h2.mem i m hm).1.trans ht)
theorem ls_Leave_no (h:LSv w W rho sb fb ls A) {n:Int} (hn:¬(0≤n∧n<(A.V.length:Int))):Calls Tryz.prog 24 #[.pointer (some ⟨sb,0,none⟩),.int .i64 n] W fun e w'=>e=.returned (.tuple #[.slice none 0 0,.int .i64 1])∧W=w':=by
 obtain⟨S,h1,h2⟩:=h.srv;exact sv_Leave_no h1 (by rw[h2.len];exact hn)
theorem ls_Best (h:LSv w W rho sb fb ls A) {i:Nat} (hi:i<A.V.length) (p:Pf) (hp:KOk p):
  Calls Tryz.prog 27 #[.pointer (some ⟨sb,0,none⟩),.int .i64 i,.agg #[.int .u32 p.1,.int .i64 p.2]] W (BestPost (A.best i p) p W):=by
 obtain⟨S,h1,h2⟩:=h.srv;obtain⟨m,hm⟩:=h2.at hi;rw[←h2.best i p (by rw[h2.len];exact hi)];exact sv_Best h1 hm p hp
end
open Go.RowKit
def OldOf (w V:World):Prop:=∀k,k<w.heap.size→V.heap[k]? =w.heap[k]?
theorem OldOf.cell {w V:World} (h:OldOf w V) {a:Addr} {c:Value} (hc:w.cell? a=some c):V.cell? a=some c:=by
 rw[World.cell?_of_block (h a.block (World.block_lt_of_cell? w a hc))];exact hc
theorem slat_old {α:Type} {w V:World} {k:Nat} {R R':α→List Value→Prop} {v:Value} {xs:List α} (h:SlAt w k R v xs) (ho:OldOf w V) (hR:∀x cs,R x cs→R' x cs):SlAt V k R' v xs:=by
 obtain⟨sa,cap,h1,h2,h3,h4⟩:=h;refine⟨sa,cap,h1,h2,h3,fun h0=>?_⟩;obtain⟨b,off,h5,h6⟩:=h4 h0;refine⟨b,off,h5,fun i x hx=>?_⟩;obtain⟨cs,c1,c2,c3⟩:=h6 i x hx;exact⟨cs,c1,hR _ _ c2,fun j c hc=>ho.cell (c3 j c hc)⟩
theorem atl_old {w V:World} {a:At} {vp vc vo:Value} (h:AtL w a vp vc vo) (ho:OldOf w V):AtL V a vp vc vo:=
 ⟨slat_old h.1 ho fun s cs hs=>by obtain⟨u,h1,h2⟩:=hs;exact⟨u,h1,slat_old h2 ho fun _ _ h=>h⟩,slat_old h.2.1 ho fun _ _ h=>h,slat_old h.2.2 ho fun s cs hs=>by obtain⟨u,h1,h2,h3⟩:=hs;exact⟨u,h1,h2,slat_old h3 ho fun _ _ h=>h⟩⟩
theorem avat_old {w V:World} {a:At} {v:AV} (h:AvAt w a v) (ho:OldOf w V):AvAt V a v:=by
 obtain⟨ps,pc,cs,cc,os,oc,rfl,h⟩:=h;exact⟨ps,pc,cs,cc,os,oc,rfl,atl_old h ho⟩
theorem msat_old {w V:World} {x:Ms} (h:MsAt w x) (ho:OldOf w V):MsAt V x:=⟨slat_old h.gone ho fun _ _ h=>h,slat_old h.nets ho fun _ _ h=>h,avat_old h.a ho⟩
section
variable {w W:World} {rho:Nat→Role} {sb fb:Nat} {ls:List Pl} {A:Ab}
theorem LSv.oldOf (h:LSv w W rho sb fb ls A) {V:World} (hV:∀k,rho k=.no→k<W.heap.size→V.heap[k]? =W.heap[k]?):OldOf w V:=fun k hk=>(hV k (h.old hk) (Nat.lt_of_lt_of_le hk h.bel.size)).trans (h.bel.block k hk)
theorem LSv.ms (h:LSv w W rho sb fb ls A) {x:Ms} (hx:MsAt w x):On (fun k=>rho k=.no) W fun W=>MsAt W x:=fun _ hV=>msat_old hx (h.oldOf hV)
theorem LSv.ps (h:LSv w W rho sb fb ls A) {v:Value} {ps:List Pf} (hx:PsAt w v ps):On (fun k=>rho k=.no) W fun W=>PsAt W v ps:=fun _ hV=>slat_old hx (h.oldOf hV) fun _ _ h=>h
theorem LSv.fresh {W':World} {Q:World→Prop} (h:LSv w W rho sb fb ls A) (hq:Fresh W.heap.size W' Q):On (fun k=>rho k=.no) W' Q:=hq.wide fun _ hk _=>h.new hk
end
abbrev msN (s:Option Addr) (c:Nat) (a:AV) (p:Pf) (t:At):Ms:=⟨⟨2,0,0,0,none,0,0,none,0,0,a,s,1,c,0,0,⟨#[]⟩⟩,[],[p],t⟩
theorem new_one (W:World) (x:Pf) (T:TypeId) (hx:OkP x):PsAt (W.alloc (.cells #[.int .u32 x.1,.int .i64 x.2] T)) (.slice (some ⟨W.heap.size,0,none⟩) 1 1) [x]:=by
 refine⟨_,1,rfl,Nat.le_refl _,by simp[maxLen],fun _=>⟨W.heap.size,0,rfl,fun i z hz=>?_⟩⟩
 match i,hz with
 |0,hz=>
  simp at hz;subst hz;refine⟨encP x,rfl,⟨rfl,hx⟩,fun j c hc=>?_⟩;rw[jB (heap_alloc_new W _)]
  match j,hc with
  |0,hc=>simpa [encP] using hc
  |1,hc=>simpa [encP] using hc
theorem good_atP (n:Nat) (hn:n≤100):GoodA (atP n):=by
 refine⟨?_,?_,?_⟩
 ·have:(hopL n).length=n:=by simp[hopL]
  simp only[atP,hopsN,this];simp;omega
 ·refine⟨?_,?_,?_,?_,?_,?_,?_⟩<;>simp[atP,I64r]
 ·refine⟨?_,?_,?_,?_,?_⟩<;>simp[atP,hopL,SgSz]<;>omega
theorem sds_own {w:World} {B n:Nat} {s:Option Addr} {c:Nat} (h:w.ownsRow B 75 2 (.slice s n c) n ((sdsN n).flatMap sdL)) (hn:n≤16:=by decide):SdsAt w (.slice s n c) (sdsN n):=by
 have e:=sdsN_len n;have h3:w.ownsRow B 75 2 (.slice s n c) (sdsN n).length ((sdsN n).flatMap sdL):=by rw[e];exact h
 have:=own_slat (C:=sdL) (fun _=>rfl) h3;refine this.imp fun y cs hy hc=>⟨hc,?_⟩
 obtain⟨i,hi,rfl⟩:=List.mem_map.1 hy;have:=List.mem_range.1 hi;unfold I64r;simp only;omega
def hA0:Ab:=newA 65000 9 (sdsN 3)
def hA1:Ab:=((hA0.join 0).join 1).join 2
def hA2:Ab:=hA1.upd 0 2 [] [netP 9] (atP 2)
def hA3:Ab:=hA2.upd 1 2 [] [netP 9] (atP 1)
def hA4:Ab:=hA3.leave 1
theorem one_fresh (W:World) (x:Pf) (T:TypeId) (hx:OkP x):Fresh W.heap.size (W.alloc (.cells #[.int .u32 x.1,.int .i64 x.2] T)) (fun V=>PsAt V (.slice (some ⟨W.heap.size,0,none⟩) 1 1) [x]):=fun V hV=>by
 have h:=new_one W x T hx;have q:V.heap[W.heap.size]? =some (.cells #[.int .u32 x.1,.int .i64 x.2] T (0,0)):=by
  rw[hV _ (Nat.le_refl _) (by simp)];exact heap_alloc_new W _
 refine⟨_,1,rfl,Nat.le_refl _,by simp[maxLen],fun _=>⟨W.heap.size,0,rfl,fun i z hz=>?_⟩⟩
 match i,hz with
 |0,hz=>
  simp at hz;subst hz;refine⟨encP x,rfl,⟨rfl,hx⟩,fun j c hc=>?_⟩;rw[jB q]
  match j,hc with
  |0,hc=>simpa [encP] using hc
  |1,hc=>simpa [encP] using hc
theorem hd_upd {w W:World} {rho:Nat→Role} {sb fb:Nat} {ls:List Pl} {A:Ab} (h:LSv w W rho sb fb ls A) {i n:Nat} (hi:i<A.V.length) (ht:A.th i=true) (s:Option Addr) (c b:Nat) (hs:On (fun k=>rho k=.no) W (fun W=>PsAt W (.slice s 1 c) [netP 9])) (ha:On (fun k=>rho k=.no) W (fun W=>AvAt W (atP n) (avP b))) (hn:n≤100) {R:Rts} (r:A.updR i 2 [] [netP 9] (atP n)=(0,[netP 9],R)):
  Calls Tryz.prog 20 #[.pointer (some ⟨sb,0,none⟩),.int .i64 i,(msN s c (avP b) (netP 9) (atP n)).m.V] W fun e w'=>∃(rho':Nat→Role) (s':Option Addr) (c':Nat),e=.returned (.tuple #[.slice s' 1 c',.int .i64 0])∧LSv w w' rho' sb fb ls (A.upd i 2 [] [netP 9] (atP n))∧Step rho rho' W w':=by
 have hU:=ls_Update h hi ht (msN s c (avP b) (netP 9) (atP n)) (fun V hV=>⟨SlAt.nil,hs V hV,ha V hV⟩) (good_atP n hn) (by simp);refine hU.mono ?_;rintro e w' ⟨rho',s',c',rfl,hl,st,-⟩;have e2:A.updR i (msN s c (avP b) (netP 9) (atP n)).m.kind (msN s c (avP b) (netP 9) (atP n)).gone (msN s c (avP b) (netP 9) (atP n)).nets (msN s c (avP b) (netP 9) (atP n)).a=(0,[netP 9],R):=r;exact⟨rho',s',c',by rw[e2];rfl,hl,st⟩
theorem setOf_one (a:Pf):setOf [a]=[a]:=setOf_is (by simp[Srt]) (fun p=>by simp)
theorem h_upd (n:Nat) (hn:passB (atP n).path 65000=false):updP 65000 9 [] 2 [] [netP 9] (atP n)=(0,[netP 9],[(netP 9,atP n)]):=by
 have h1:saidP [] [netP 9]=[netP 9]:=setOf_one _;have h2:netsP 65000 [netP 9] (atP n)=[netP 9]:=by unfold netsP;rw[hn];exact setOf_one _
 unfold updP;rw[h1,h2];rfl
theorem h_r1:hA1.updR 0 2 [] [netP 9] (atP 2)=(0,[netP 9],[(netP 9,atP 2)]):=h_upd 2 (by decide+kernel)
theorem hA2_is:hA2=hA1.turn hA1.bl (setV hA1.V 0 [(netP 9,atP 2)]):=by
 unfold hA2 Ab.upd;rw[h_r1];rfl
theorem h_r2:hA2.updR 1 2 [] [netP 9] (atP 1)=(0,[netP 9],[(netP 9,atP 1)]):=by
 rw[hA2_is];exact h_upd 1 (by decide+kernel)
theorem hA3_is:hA3=hA2.turn hA2.bl (setV hA2.V 1 [(netP 9,atP 1)]):=by
 unfold hA3 Ab.upd;rw[h_r2];rfl
theorem hA3_V:hA3.V=[(65001,1,[(netP 9,atP 2)]),(65002,2,[(netP 9,atP 1)]),(65003,3,[])]:=by
 rw[hA3_is,hA2_is];rfl
theorem hA3_th:hA3.th 1=true:=by rw[hA3_is,hA2_is];rfl
theorem hA2_th:hA2.th 1=true:=by rw[hA2_is];rfl
theorem hA2_len:hA2.V.length=3:=by rw[hA2_is];rfl
theorem hA3_best:hA3.best 2 (netP 9)=some (1,atP 1):=by
 unfold Ab.best;rw[hA3_V];have e:hA3.own=65000∧hA3.bl=fun _=>false:=by rw[hA3_is,hA2_is];exact⟨rfl,rfl⟩
 rw[e.1,e.2];rfl
theorem hA4_best:hA4.best 2 (netP 9)=some (0,atP 2):=by
 unfold Ab.best hA4 Ab.leave Ab.turn Ab.away;simp only;rw[hA3_V];have e:hA3.own=65000∧hA3.bl=fun _=>false:=by rw[hA3_is,hA2_is];exact⟨rfl,rfl⟩
 rw[e.1,e.2];rfl
theorem hA4_len:hA4.V.length=3:=by
 unfold hA4 Ab.leave Ab.turn Ab.away;simp only;rw[hA3_V];rfl
theorem law_head (w:World):Calls Tryz.prog 13 #[] w fun e w'=>e=.returned (.bool true)∧Below w.heap.size w w':=by
 have n9:=jh (l_net14 9 (by decide));go_enter Tryz.func13,Tryz.ntmps13;go_wp2_with fail;refine(l_sides14 3 (by decide) w).mono ?_;rintro e w1 ⟨s1,c1,rfl,ow,hb⟩;have NW:=jh (ls_New 65000 9 (.slice s1 3 c1) (sdsN 3) w w1 hb (sds_own ow) (by decide+kernel));clear ow hb;go_wp2_with fail;refine NW.out.mono ?_;rintro e w2 ⟨rho,sb,fb,ls,rfl,L0,-,-⟩;have L0:Hid (LSv w w2 rho sb fb ls hA0):=jh L0;clear NW;go_wp2_with fail;refine wp_loop_rounds 4 ?_;rw[rounds_succ];go_wp2_with fail;refine(ls_Join L0.out (i:=0) (by decide+kernel) rfl).mono ?_;rintro e w3 ⟨rfl,L1,-⟩;have L1:=jh L1;clear L0;go_wp2_with fail;rw[rounds_succ];go_wp2_with fail;refine(ls_Join L1.out (i:=1) (by decide+kernel) rfl).mono ?_;rintro e w4 ⟨rfl,L2,-⟩;have L2:=jh L2;clear L1;go_wp2_with fail;rw[rounds_succ];go_wp2_with fail;refine(ls_Join L2.out (i:=2) (by decide+kernel) rfl).mono ?_;rintro e w5 ⟨rfl,L3,-⟩;have L3:Hid (LSv w w5 rho sb fb ls hA1):=jh L3;clear L2;go_wp2_with fail;rw[rounds_succ];go_wp2_with fail;refine wp_loop_rounds 3 ?_;rw[rounds_succ];go_wp2_with fail;refine(n9.out w5).mono ?_;rintro e w6 ⟨rfl,hb6⟩;have L4:=jh (L3.out.below hb6);clear hb6 L3;go_wp2_with fail;obtain⟨W7,hW7⟩:∃W7,W7=w6.alloc (.cells #[.int .u32 (netP 9).1,.int .i64 (netP 9).2] 53):=⟨_,rfl⟩
 have hb7:Below w6.heap.size w6 W7:=by rw[hW7];exact(Below.refl _ _).alloc (Nat.le_refl _) _
 have P7:=one_fresh w6 (netP 9) 53 (netP_ok (by decide));rw[←hW7] at P7 ⊢;have O7:=jh (L4.out.fresh P7);have L5:=jh (L4.out.below hb7);clear hW7 hb7 P7 L4;refine(l_path14 2 (by decide) W7).mono ?_;rintro e w8 ⟨b8,rfl,fr,hb8⟩;have A8:=jh (L5.out.fresh fr);have O8:=jh (O7.out.below hb8);have L6:=jh (L5.out.below hb8);clear fr hb8 O7 L5;go_wp2_with fail;refine(hd_upd L6.out (i:=0) (by decide+kernel) rfl _ _ _ O8.out A8.out (by decide) h_r1).mono ?_;rintro e w9 ⟨rho9,s9,c9,rfl,L7,st9⟩;have L7:Hid (LSv w w9 rho9 sb fb ls hA2):=jh L7;clear O8 A8 L6 st9;go_wp2_with fail;rw[rounds_succ];go_wp2_with fail;refine(n9.out w9).mono ?_;rintro e w10 ⟨rfl,hb10⟩;have L8:=jh (L7.out.below hb10);clear hb10 L7;go_wp2_with fail;obtain⟨W11,hW11⟩:∃W11,W11=w10.alloc (.cells #[.int .u32 (netP 9).1,.int .i64 (netP 9).2] 53):=⟨_,rfl⟩
 have hb11:Below w10.heap.size w10 W11:=by rw[hW11];exact(Below.refl _ _).alloc (Nat.le_refl _) _
 have P11:=one_fresh w10 (netP 9) 53 (netP_ok (by decide));rw[←hW11] at P11 ⊢;have O11:=jh (L8.out.fresh P11);have L9:=jh (L8.out.below hb11);clear hW11 hb11 P11 L8;refine(l_path14 1 (by decide) W11).mono ?_;rintro e w12 ⟨b12,rfl,fr,hb12⟩;have A12:=jh (L9.out.fresh fr);have O12:=jh (O11.out.below hb12);have L10:=jh (L9.out.below hb12);clear fr hb12 O11 L9;go_wp2_with fail;refine(hd_upd L10.out (i:=1) (by rw[hA2_len];decide) hA2_th _ _ _ O12.out A12.out (by decide) h_r2).mono ?_;rintro e w13 ⟨rho13,s13,c13,rfl,L11,-⟩;have L11:Hid (LSv w w13 rho13 sb fb ls hA3):=jh L11;clear O12 A12 L10;go_wp2_with fail;rw[rounds_succ];go_wp2_with fail;refine(n9.out w13).mono ?_;rintro e w14 ⟨rfl,hb14⟩;have L12:=jh (L11.out.below hb14);clear hb14 L11;go_wp2_with fail;refine(ls_Best L12.out (i:=2) (by rw[hA3_V];decide) (netP 9) (netP_rgt (by decide)).key).mono ?_;rintro e w15 (⟨hn,-⟩|⟨peer,a,u,hn,rfl,-,-,hb15⟩)
 ·rw[hA3_best] at hn;cases hn
 have PE:Hid (peer=1):=jh (by rw[hA3_best] at hn;injection hn with hn;injection hn with hn;exact hn.symm);have L13:=jh (L12.out.below hb15);clear hn hb15 L12;go_upto_region 16 with (fail)
 obtain⟨W16,hW16,q16,hb16,-⟩:=box1 w15 (rtC peer (netP 9) u) 61;rw[←hW16];have cp:W16.cell? ⟨w15.heap.size,0,none⟩=some (.int .i64 peer):=jB q16 0;obtain⟨rb1,hrb1⟩:∃b,b=w15.heap.size:=⟨_,rfl⟩
 rw[←hrb1] at cp ⊢;have L14:=jh (L13.out.below hb16);have NRB:=jh (L13.out.new (Nat.le_of_eq hrb1.symm));clear hW16 q16 hb16 L13 hrb1;rw[PE.out] at cp;go_wp2_with fail;refine(ls_Leave L14.out (i:=1) (by rw[hA3_V];decide) hA3_th).mono ?_;rintro e w17 ⟨rho17,s17,c17,LL,rfl,-,-,L15,st,-⟩;have L15:Hid (LSv w w17 rho17 sb fb ls hA4):=jh L15;have CP:=jh (st.cell cp NRB.out);clear st L14 cp;go_wp2_with fail;refine(n9.out w17).mono ?_;rintro e w18 ⟨rfl,hb18⟩;have L16:=jh (L15.out.below hb18);have CP2:=jh (jA CP.out hb18);clear hb18 L15 CP;go_wp2_with fail;refine(ls_Best L16.out (i:=2) (by rw[hA4_len];decide) (netP 9) (netP_rgt (by decide)).key).mono ?_;rintro e w19 (⟨hn,-⟩|⟨peer2,a2,u2,hn,rfl,-,-,hb19⟩)
 ·rw[hA4_best] at hn;cases hn
 have PE2:Hid (peer2=0):=jh (by rw[hA4_best] at hn;injection hn with hn;injection hn with hn;exact hn.symm);have L17:=jh (L16.out.below hb19);have CP3:=jh (jA CP2.out hb19);clear hn hb19 L16 CP2;go_upto_region 18 with (fail)
 obtain⟨W20,hW20,q20,hb20,-⟩:=box1 w19 (rtC peer2 (netP 9) u2) 61;rw[←hW20];have cp1:=jA CP3.out hb20;have cp2:W20.cell? ⟨w19.heap.size,0,none⟩=some (.int .i64 peer2):=jB q20 0;rw[PE2.out] at cp2;have BB:=jh (L17.out.below hb20).bel;clear hW20 q20 hb20 L17 CP3;go_wp2_with fail;go_ret;exact⟨rfl,BB.out⟩
open Go.RowKit
def bigM (x:Ms):Bool:=decide (20<x.gone.length)||(decide (20<x.nets.length)||(decide (6<x.a.path.length)||(decide (40<x.a.comms.length)||(decide (5<x.a.others.length)||checkI x.a !=0))))
theorem hops_le:∀(p:List Sg) (B:Nat),(∀s∈p,s.2.length≤B)→1≤B→hopsN p≤p.length*B
 |[],_,_,_=>by simp[hopsN]
 |s::p,B,h,hB=>by
  have h1:=hops_le p B (fun t ht=>h t (List.mem_cons_of_mem _ ht)) hB;have h2:=h s (List.mem_cons_self ..);unfold hopsN;rw[List.length_cons,Nat.add_mul,Nat.one_mul];split<;>omega
theorem bigM_no {x:Ms} (h:bigM x=false) (hz:MsSz x):GoodA x.a∧x.gone.length+x.nets.length≤656:=by
 unfold bigM at h;simp only[Bool.or_eq_false_iff,decide_eq_false_iff_not] at h;obtain⟨h1,h2,h3,-⟩:=h;refine⟨⟨?_,hz.rng,hz.a⟩,by omega⟩;have:=hops_le x.a.path 17592186043904 (fun s hs=>by have:=hz.a.segs s hs;unfold SgSz at this;omega) (by decide);have h4:x.a.path.length*17592186043904≤6*17592186043904:=Nat.mul_le_mul_right _ (by omega);omega
theorem av_Check (a:At) (v:AV) (w:World) (hA:AvAt w a v):Calls Tryz.prog 60 #[v.V] w fun e w'=>e=.returned (.int .i64 (checkI a))∧Below w.heap.size w w':=by
 obtain⟨vp,vc,vo,e,h⟩:=hA.form;rw[e];exact at_Check a vp vc vo w h
theorem dgt (n k:Nat) {b:Bool} (h:decide (k<n)=b):decide ((n:Int)>(k:Int))=b:=by
 rw[←h];by_cases e:k<n
 ·simp[e]
 ·simp[e]
theorem l_big14 (x:Ms) (w:World) (hx:MsAt w x):Calls Tryz.prog 19 #[x.m.V] w fun e w'=>e=.returned (.bool (bigM x))∧Below w.heap.size w w':=by
 obtain⟨s1,c1,e1,-⟩:=id hx.gone;obtain⟨s2,c2,e2,-⟩:=id hx.nets;obtain⟨ps,pc,cs,cc,os,oc,ea,-⟩:=id hx.a;have CK:=jh (fun W (hb:Below w.heap.size w W)=>av_Check x.a x.m.a W (hx.a.below hb));have G1:x.m.gn=x.gone.length:=by injection e1
 have G2:x.m.nn=x.nets.length:=by injection e2
 have G3:x.m.a.pn=x.a.path.length:=by rw[ea];rfl
 have G4:x.m.a.cn=x.a.comms.length:=by rw[ea];rfl
 have G5:x.m.a.on=x.a.others.length:=by rw[ea];rfl
 have H:=jh (And.intro G1 (And.intro G2 (And.intro G3 (And.intro G4 G5))));clear hx e1 e2 ea G1 G2 G3 G4 G5;go_enter Tryz.func19,Tryz.ntmps19;go_upto_region 1 with (fail)
 obtain⟨W0,hW0,q0,hB,-⟩:=box_msg w x.m;rw[←hW0];have c5:W0.cell? ⟨w.heap.size,5,none⟩=some (.slice x.m.gs x.m.gn x.m.gc):=jB q0 5;have c16:W0.cell? ⟨w.heap.size,16,none⟩=some (.slice x.m.ns x.m.nn x.m.nc):=jB q0 16;have c8:W0.cell? ⟨w.heap.size,8,none⟩=some (.slice x.m.a.ps x.m.a.pn x.m.a.pc):=jB q0 8;have c14:W0.cell? ⟨w.heap.size,14,none⟩=some (.slice x.m.a.cs x.m.a.cn x.m.a.cc):=jB q0 14;have c15:W0.cell? ⟨w.heap.size,15,none⟩=some (.slice x.m.a.os x.m.a.on x.m.a.oc):=jB q0 15;have RG:=jh (msg_range q0);have B0:=jh hB;obtain⟨mb,hmb⟩:∃mb,mb=w.heap.size:=⟨_,rfl⟩
 rw[H.out.1,←hmb] at c5;rw[H.out.2.1,←hmb] at c16;rw[H.out.2.2.1,←hmb] at c8;rw[H.out.2.2.2.1,←hmb] at c14;rw[H.out.2.2.2.2,←hmb] at c15;rw[←hmb] at RG ⊢;have CK0:=jh (CK.out W0 B0.out);clear hW0 hB q0 hmb H CK;obtain⟨b1,hb1⟩:∃b,decide (20<x.gone.length)=b:=⟨_,rfl⟩
 obtain⟨b2,hb2⟩:∃b,decide (20<x.nets.length)=b:=⟨_,rfl⟩
 obtain⟨b3,hb3⟩:∃b,decide (6<x.a.path.length)=b:=⟨_,rfl⟩
 obtain⟨b4,hb4⟩:∃b,decide (40<x.a.comms.length)=b:=⟨_,rfl⟩
 obtain⟨b5,hb5⟩:∃b,decide (5<x.a.others.length)=b:=⟨_,rfl⟩
 have BE:Hid (bigM x=(b1||(b2||(b3||(b4||(b5||checkI x.a !=0)))))):=jh (by unfold bigM;rw[hb1,hb2,hb3,hb4,hb5]);have d1:decide ((x.gone.length:Int)>20)=b1:=dgt _ 20 hb1;have d2:decide ((x.nets.length:Int)>20)=b2:=dgt _ 20 hb2;have d3:decide ((x.a.path.length:Int)>6)=b3:=dgt _ 6 hb3;have d4:decide ((x.a.comms.length:Int)>40)=b4:=dgt _ 40 hb4;have d5:decide ((x.a.others.length:Int)>5)=b5:=dgt _ 5 hb5;clear hb1 hb2 hb3 hb4 hb5;rcases b1 with _|_
 ·rcases b2 with _|_
  ·rcases b3 with _|_
   ·rcases b4 with _|_
    ·rcases b5 with _|_
     ·go_wp2_with ((with_reducible refine jM (X:=.load 42 (.tmp 35)) ?_ ?_);(·rfl));unfold Halt;refine ldm_at (by rfl) 42 (.tmp 35) rfl mb 6 rfl x.m.a.C.toList _ RG.out Tryz.underlying42 rfl sz_avS ?_;go_wp2_with fail;refine CK0.out.mono ?_;rintro e w1 ⟨rfl,hb⟩;have B1:=jh (jC B0.out hb);clear hb CK0 c5 c16 c8 c14 c15;go_wp2_with fail;go_ret;exact⟨by rw[BE.out];rfl,B1.out⟩
     ·go_wp2_with fail;go_ret;exact⟨by rw[BE.out];rfl,B0.out⟩
    ·go_wp2_with fail;go_ret;exact⟨by rw[BE.out];rfl,B0.out⟩
   ·go_wp2_with fail;go_ret;exact⟨by rw[BE.out];rfl,B0.out⟩
  ·go_wp2_with fail;go_ret;exact⟨by rw[BE.out];rfl,B0.out⟩
 ·go_wp2_with fail;go_ret;exact⟨by rw[BE.out];rfl,B0.out⟩
section
variable {w W:World} {rho:Nat→Role} {sb fb:Nat} {ls:List Pl} {A:Ab} {S:Sv}
theorem sv_Mark_off (h:SrvM W rho sb fb ls S) {i:Nat} {m:Pm} (hm:S.ms[i]? =some m) (hth:m.there=false) (v:Value):Calls Tryz.prog 16 #[.pointer (some ⟨sb,0,none⟩),.int .i64 i,v] W fun e w'=>e=.returned (.tuple #[])∧W=w':=by
 obtain⟨l,hl,hM⟩:=h.get hm;have m2:W.cell? ⟨l.mb,2,none⟩=some (.bool false):=by rw[←hth];exact jB hM.row 2
 have MB:=jh (sv_member h hl);clear h hm hl hM hth;go_enter Tryz.func16,Tryz.ntmps16;go_wp2_with fail;refine MB.out.mono ?_;rintro e w1 ⟨rfl,rfl⟩;go_wp2_with fail;exact bodyPost_ret (v:=.tuple #[]) (by simp[results,Tryz.results16,go_sem]) rfl ⟨rfl,rfl⟩
theorem sv_Mark_no (h:SrvM W rho sb fb ls S) {n:Int} (hn:¬(0≤n∧n<(S.ms.length:Int))) (v:Value):Calls Tryz.prog 16 #[.pointer (some ⟨sb,0,none⟩),.int .i64 n,v] W fun e w'=>e=.returned (.tuple #[])∧W=w':=by
 have MB:=jh (sv_member_no h hn);clear h hn;go_enter Tryz.func16,Tryz.ntmps16;go_wp2_with fail;refine MB.out.mono ?_;rintro e w1 ⟨rfl,rfl⟩;go_wp2_with fail;exact bodyPost_ret (v:=.tuple #[]) (by simp[results,Tryz.results16,go_sem]) rfl ⟨rfl,rfl⟩
theorem ls_Mark_off (h:LSv w W rho sb fb ls A) {i:Nat} (hi:i<A.V.length) (ht:A.th i=false) (v:Value):Calls Tryz.prog 16 #[.pointer (some ⟨sb,0,none⟩),.int .i64 i,v] W fun e w'=>e=.returned (.tuple #[])∧W=w':=by
 obtain⟨S,h1,h2⟩:=h.srv;obtain⟨m,hm⟩:=h2.at hi;exact sv_Mark_off h1 hm ((h2.mem i m hm).1.trans ht) v
end
open Go.RowKit Go.ChangeShapes Go.WideShapes
structure Stp where
 k:Int
 n:Int
 to_:Int
 on:Bool
 x:Ms
abbrev Stp.C (s:Stp):Array Value:=#[.int .i64 s.k,.int .i64 s.n,.int .i64 s.to_,.bool s.on,.int .i64 s.x.m.kind,.int .i64 s.x.m.as_,.int .i64 s.x.m.hold,.int .u32 s.x.m.id,.slice s.x.m.ks s.x.m.kn s.x.m.kc,.slice s.x.m.gs s.x.m.gn s.x.m.gc,
 .int .i64 s.x.m.a.has,.int .i64 s.x.m.a.origin,.slice s.x.m.a.ps s.x.m.a.pn s.x.m.a.pc,.int .u32 s.x.m.a.hop,.int .i64 s.x.m.a.med,.int .i64 s.x.m.a.loc,.int .i64 s.x.m.a.aggrAs,.int .u32 s.x.m.a.aggrId,.slice s.x.m.a.cs s.x.m.a.cn s.x.m.a.cc,.slice s.x.m.a.os s.x.m.a.on s.x.m.a.oc,
 .slice s.x.m.ns s.x.m.nn s.x.m.nc,.int .i64 s.x.m.fc,.int .i64 s.x.m.fs,.string s.x.m.fd]
structure StpOk (s:Stp):Prop where
 k:I64r s.k
 n:I64r s.n
 to_:I64r s.to_
def StpC (W:World) (s:Stp) (cs:List Value):Prop:=cs=s.C.toList∧StpOk s∧MsAt W s.x
section
variable {H:Type} {enc:TypeId×Value→H} {w:World} {base:Nat} {spare:Nat→Bool} {held:Bool}
theorem sl_step_sz {f:Nat} {cs:List Value} {x:DataW H×List MemPlace} (h:DataW.trod enc Tryz.prog w base spare held f 48 cs=some x) (hz:Sz Tryz.prog 48 x.1):∃s:Stp,StpC w s cs∧MsSz s.x:=by
 obtain⟨xs,n,_,hxe,hl,hxl,hf⟩:=DataW.trod_struct Tryz.underlying48 h;rw[hxe] at hz;have hc:Tryz.prog.cellsOf 48=24:=by kernel_rfl
 have hc0:Tryz.prog.cellsOf 3=1:=by kernel_rfl
 have hc1:Tryz.prog.cellsOf 4=1:=by kernel_rfl
 have hc2:Tryz.prog.cellsOf 46=20:=by kernel_rfl
 rw[hc] at hl
 match cs,hl with
 |[c0,c1,c2,c3,c4,c5,c6,c7,c8,c9,c10,c11,c12,c13,c14,c15,c16,c17,c18,c19,c20,c21,c22,c23],_=>
  match xs,hxl with
  |[x0,x1,x2,x3,x4],_=>
   have e0:=hf 0 _ rfl;have e1:=hf 1 _ rfl;have e2:=hf 2 _ rfl;have e3:=hf 3 _ rfl;have e4:=hf 4 _ rfl;simp[hc0,hc1,hc2] at e0 e1 e2 e3 e4;obtain⟨k,q0,i0⟩:=sl_i64 e0;obtain⟨n,q1,i1⟩:=sl_i64 e1;obtain⟨t,q2,i2⟩:=sl_i64 e2;obtain⟨b,q3,-⟩:=DataW.trod_bool Tryz.underlying4 e3;obtain⟨m,⟨q4,hm⟩,hz4⟩:=sl_msg_sz e4 (sz_field Tryz.underlying48 hz (j:=4) rfl rfl);simp at q0 q1 q2 q3;subst q0;subst q1;subst q2;subst q3;refine⟨⟨k,n,t,b,m⟩,⟨?_,⟨i0,i1,i2⟩,hm⟩,hz4⟩;simp at q4;obtain⟨r0,r1,r2,r3,r4,r5,r6,r7,r8,r9,r10,r11,r12,r13,r14,r15,r16,r17,r18,r19⟩:=q4;subst r0;subst r1;subst r2;subst r3;subst r4;subst r5;subst r6;subst r7;subst r8;subst r9;subst r10;subst r11;subst r12;subst r13;subst r14;subst r15;subst r16;subst r17;subst r18;subst r19;rfl
abbrev StpsAt (w:World) (v:Value) (xs:List Stp):Prop:=SlAt w 24 (StpC w) v xs
theorem open_steps_sz {v:Value} {d:DataW H} {p:List MemPlace} {r:Reach} {b0:Nat} (hv:Value.okWide Tryz.prog w r b0 22 v) (h:DataW.Trod enc Tryz.prog w base spare held 22 v d p) (hz:Sz Tryz.prog 22 d):∃xs:List Stp,StpsAt w v xs∧∀x∈xs,MsSz x.x:=by
 obtain⟨fuel,h⟩:=h;have hvc:v.cells.toList=[v]:=by
  simp only[Value.okWide,Tryz.underlying22] at hv;cases v<;>first|rfl|(simp[Cell.okWide,Cell.ok,Tryz.underlying22] at hv)
 rw[hvc] at h;obtain⟨v',xs,e,hs,_,hx⟩:=open_sl_sz (k:=24) (bs:=Tryz.prog.bytesOf 48) (R:=StpC w) (S:=fun s=>MsSz s.x) Tryz.underlying22 (by kernel_rfl) rfl (by decide) (fun _ _ _ h hz=>sl_step_sz h hz) h hz;injection e with e _;subst e;exact⟨xs,hs,hx⟩
end
open Go.RowKit
def Ab.say (A:Ab) (s:Stp):Ab:=if bigM s.x then A else A.updI s.n s.x.m.kind s.x.gone s.x.nets s.x.a
def Ab.says (A:Ab) (xs:List Stp):Ab:=xs.foldl Ab.say A
structure SameTh (A B:Ab):Prop where
 len:B.V.length=A.V.length
 th:B.th=A.th
 own:B.own=A.own
 most:B.most=A.most
 bl:B.bl=A.bl
theorem SameTh.refl (A:Ab):SameTh A A:=⟨rfl,rfl,rfl,rfl,rfl⟩
theorem SameTh.trans {A B C:Ab} (h:SameTh A B) (k:SameTh B C):SameTh A C:=⟨k.len.trans h.len,k.th.trans h.th,k.own.trans h.own,k.most.trans h.most,k.bl.trans h.bl⟩
theorem same_upd (A:Ab) (i:Nat) (kind:Int) (gone nets:List Pf) (a:At):SameTh A (A.upd i kind gone nets a):=by
 unfold Ab.upd;split
 ·exact⟨setV_len ..,rfl,rfl,rfl,rfl⟩
 ·exact SameTh.refl A
theorem nodup_len {α:Type} [DecidableEq α] {xs ys:List α} (hx:xs.Nodup) (hy:ys.Nodup) (h:∀p,p∈xs↔p∈ys):xs.length=ys.length:=((List.perm_ext_iff_of_nodup hx hy).2 h).length_eq
theorem plt_nodup {L:List Pf} (h:L.Pairwise plt):L.Nodup:=by
 rw[List.nodup_iff_pairwise_ne];refine h.imp ?_;intro x y hxy e;subst e;exact plt_irrefl x hxy
theorem newA_len (own most:Int) (n:Nat):(newA own most (sdsN n)).V.length=n:=by simp[newA,sdsN]
theorem newCd_sds {n:Nat} (h0:0<n) (h:n≤16):newCd 65000 (sdsN n)=0:=by
 refine newCd_ok ?_ (by rw[sdsN_len];omega) (all_ok fun i x hi hx=>?_)
 ·rw[sdsN_len];rintro (h1|h1)
  ·revert h1;decide
  ·omega
 ·rw[sdsN_len] at hi;rw[sdsN_get hi] at hx;injection hx with hx;subst hx;unfold sdB sysB;simp;omega
theorem stp_range {W:World} {g o:Nat} {s:Stp} (h:W.rangeAt g o s.C.toList):W.rangeAt g (o+4) s.x.m.C.toList:=by
 intro j v hv;have hj:j<20:=by have:=(List.getElem?_eq_some_iff.1 hv).1;simpa using this
 have h4:=h (4+j) v (by
  rw[←hv]
  match j,hj with
  |0,_=>rfl
  |1,_=>rfl
  |2,_=>rfl
  |3,_=>rfl
  |4,_=>rfl
  |5,_=>rfl
  |6,_=>rfl
  |7,_=>rfl
  |8,_=>rfl
  |9,_=>rfl
  |10,_=>rfl
  |11,_=>rfl
  |12,_=>rfl
  |13,_=>rfl
  |14,_=>rfl
  |15,_=>rfl
  |16,_=>rfl
  |17,_=>rfl
  |18,_=>rfl
  |19,_=>rfl)
 rw[←h4];congr 2;omega
theorem stps_at {w:World} {s:Option Addr} {n c:Nat} {xs:List Stp} (h:StpsAt w (.slice s n c) xs) {i:Nat} {x:Stp} (hx:xs[i]? =some x):∃g o,s=some ⟨g,o,none⟩∧w.rangeAt g (o+i*24) x.C.toList∧StpOk x∧MsAt w x.x:=by
 obtain⟨s',c',e,h1,h2,h3⟩:=h;injection e with e _ _;subst e;have hi:=(List.getElem?_eq_some_iff.1 hx).1;obtain⟨b,off,rfl,h4⟩:=h3 (by omega);obtain⟨cs,l,⟨rfl,hR,hm⟩,hc⟩:=h4 i x hx;exact⟨b,off,rfl,fun j v hv=>hc j v hv,hR,hm⟩
theorem range_below {W W':World} {g o:Nat} {l:List Value} (h:W.rangeAt g o l) (hb:Below W.heap.size W W'):W'.rangeAt g o l:=fun j v hv=>jA (h j v hv) hb
open Go.RowKit
section
variable {w W:World} {rho:Nat→Role} {sb fb:Nat} {ls:List Pl} {S:Sv} {A:Ab}
theorem sv_Routes (h:SrvM W rho sb fb ls S) {i:Nat} {m:Pm} (hm:S.ms[i]? =some m):Calls Tryz.prog 23 #[.pointer (some ⟨sb,0,none⟩),.int .i64 i] W (AllPost i m.R W):=by
 obtain⟨l,hl,hM⟩:=h.get hm;have m3:W.cell? ⟨l.mb,3,none⟩=some (.pointer (some ⟨l.rb,0,none⟩)):=jB hM.row 3;have MB:=jh (sv_member h hl);have AL:=jh (ad_All W hM.rib);clear h hm hl hM;go_enter Tryz.func23,Tryz.ntmps23;go_wp2_with fail;refine MB.out.mono ?_;rintro e w1 ⟨rfl,rfl⟩;go_wp2_with fail;refine AL.out.mono ?_;rintro e w2 ⟨v,vs,rfl,hr⟩;obtain⟨s,c,rfl,-⟩:=jV hr.1.own;have FIN:Hid (AllPost i m.R W (.returned (.slice s vs.length c)) w2):=jh ⟨_,vs,rfl,hr⟩;clear hr AL;go_wp2_with fail;go_ret;exact FIN.out
theorem ls_Routes (h:LSv w W rho sb fb ls A) {i:Nat} (hi:i<A.V.length):Calls Tryz.prog 23 #[.pointer (some ⟨sb,0,none⟩),.int .i64 i] W (AllPost i (A.R i) W):=by
 obtain⟨S,h1,h2⟩:=h.srv;obtain⟨m,hm⟩:=h2.at hi;rw[(h2.get hm).2];exact sv_Routes h1 hm
theorem ls_Bests (h:LSv w W rho sb fb ls A) {i:Nat} (hi:i<A.V.length):Calls Tryz.prog 25 #[.pointer (some ⟨sb,0,none⟩),.int .i64 i] W (BestsPost (A.best i) W):=by
 obtain⟨S,h1,h2⟩:=h.srv;obtain⟨m,hm⟩:=h2.at hi;have e:A.best i=S.best i:=by
  funext p;exact(h2.best i p (by rw[h2.len];exact hi)).symm
 rw[e];exact sv_Bests h1 hm
end
open Go.RowKit
theorem filter_step {α:Type} (q:α→Bool) {l:List α} {k:Nat} {x:α} (h:l[k]? =some x):(l.take (k+1)).filter q=(l.take k).filter q++(if q x then [x] else []):=by
 obtain⟨h1,h2⟩:=List.getElem?_eq_some_iff.1 h;rw[List.take_succ_eq_append_getElem h1,List.filter_append,h2];congr 1;cases hb:q x<;>simp[List.filter,hb]
theorem ch_del (r:Rk) (tb:Nat) (t:Int) (w:World) (ht:w.cell? ⟨tb,0,none⟩=some (.int .i64 t)):Calls Tryz.prog 123 #[.agg (rkA r),.pointer (some ⟨tb,0,none⟩)] w fun e w'=>e=.returned (.bool (r.place==t))∧Below w.heap.size w w':=by
 go_enter Tryz.func123,Tryz.ntmps123;go_upto_region 1 with (fail)
 obtain⟨W0,hW0,q0,hb0,-⟩:=boxK w r;rw[←hW0];clear hW0;have c0:W0.cell? ⟨w.heap.size,0,none⟩=some (.int .i64 r.place):=jB q0 0;have t0:=jA ht hb0;clear q0 ht;go_wp2_with fail;go_ret;exact⟨rfl,hb0⟩
def idxF (t:Int):List Rk→Nat→Int
 |[],_=>-1
 |r::rs,k=>if r.place=t then (k:Int) else idxF t rs (k+1)
theorem idxF_step {t:Int} {rs:List Rk} {k:Nat} {r:Rk} (h:rs[k]? =some r):idxF t (rs.drop k) k=if r.place=t then (k:Int) else idxF t (rs.drop (k+1)) (k+1):=by
 obtain⟨h1,h2⟩:=List.getElem?_eq_some_iff.1 h;rw[List.drop_eq_getElem_cons h1,h2];rfl
theorem ch_Index (v:Value) (rs:List Rk) (tb:Nat) (t:Int) (w:World) (h:RksAt w v rs) (ht:w.cell? ⟨tb,0,none⟩=some (.int .i64 t)):
  Calls Tryz.prog 167 #[v,.func (.func 123) #[] #[.pointer (some ⟨tb,0,none⟩)]] w fun e w'=>e=.returned (.int .i64 (idxF t rs 0))∧Below w.heap.size w w':=by
 obtain⟨sa,cap,rfl,hlc,hcm,hV⟩:=h;have HV:=jh hV;have HT:=jh ht;have DL:=jh (fun r W h=>ch_del r tb t W h);unfold maxLen at hcm;clear hV ht;go_enter Tryz.func167,Tryz.ntmps167;go_wp2_with fail;go_loopw [8] (fun i wr=>∃k:Nat,k≤rs.length∧i=.int .i64 k∧Hid (idxF t rs 0=idxF t (rs.drop k) k)∧Hid (Below w.heap.size w wr)) (fun i _=>rs.length - (intOf i).toNat)
 case atStart=>exact⟨0,by omega,rfl,jh rfl,jh (Below.refl _ _)⟩
 case round=>
  obtain⟨k,hk,rfl,E,B⟩:=hrel;by_cases hlt:k<rs.length
  ·obtain⟨r,hr⟩:∃r,rs[k]? =some r:=⟨_,List.getElem?_eq_getElem hlt⟩
   obtain⟨b,off,hsa,hP⟩:=HV.out (by omega);subst hsa;obtain⟨cs,_,hR,hc⟩:=hP k r hr;obtain⟨x0,x1,x2,x3,x4,x5,x6,x7⟩:=rk_cells hR hc;have x0:=(B.out.cell (jH x0)).trans x0;have x1:=(B.out.cell (jH x1)).trans x1;have x2:=(B.out.cell (jH x2)).trans x2;have x3:=(B.out.cell (jH x3)).trans x3;have x4:=(B.out.cell (jH x4)).trans x4;have x5:=(B.out.cell (jH x5)).trans x5;have x6:=(B.out.cell (jH x6)).trans x6;have x7:=(B.out.cell (jH x7)).trans x7;have t0:=jh ((B.out.cell (jH HT.out)).trans HT.out);have E2:Hid (idxF t rs 0=if r.place=t then (k:Int) else idxF t (rs.drop (k+1)) (k+1)):=jh (by rw[E.out,idxF_step hr]);have j0:(0:Int)≤(k:Int):=by omega
   have j1:(k:Int)<(rs.length:Int):=by omega
   clear hP hR hc hr E;go_wp2_with fail;refine(DL.out r _ t0.out).mono ?_;rintro e w2 ⟨rfl,hb2⟩;have B2:=jh (jC B.out hb2);clear hb2 B x0 x1 x2 x3 x4 x5 x6 x7 t0;by_cases hp:r.place=t
   ·have z:(r.place==t)=true:=by simpa using hp
    have E3:Hid (idxF t rs 0=(k:Int)):=jh (by rw[E2.out,if_pos hp]);clear hp E2;go_wp2_with fail;go_ret;exact⟨jU E3.out.symm,B2.out⟩
   ·have z:(r.place==t)=false:=by simpa using hp
    have E3:Hid (idxF t rs 0=idxF t (rs.drop (k+1)) (k+1)):=jh (by rw[E2.out,if_neg hp]);clear hp E2;go_wp2_with fail;exact⟨⟨k+1,by omega,by go_num,E3,B2⟩,by simp[intOf];omega⟩
  ·obtain rfl:rs.length=k:=by omega
   have E3:Hid (idxF t rs 0= -1):=jh (by rw[E.out,List.drop_length];rfl);clear E;go_wp2_with fail;go_ret;exact⟨jU E3.out.symm,B.out⟩
theorem run_clear_ranks (w:World) (g o n c:Nat) (hn:0<n) (ht:w.there g o (n*8)):
  ∃L:List Value,L.length=n*8∧∀ty,(Builtin.clear_ #[197] ty #[.slice (some ⟨g,o,none⟩) n c]).run Tryz.prog w=.ok (.tuple #[]) (w.setCells g o L):=by
 have hlen:(Builtin.zeroCells rkZA n).toList.length=n*8:=by rw[Array.length_toList,size_zeroCells];rfl
 refine⟨(Builtin.zeroCells rkZA n).toList,hlen,fun ty=>?_⟩;have hst:=run_storeCells_cells (P:=Tryz.prog) g o (Builtin.zeroCells rkZA n).toList 0 w (fun j hj=>by rw[Nat.add_zero];exact(ht j (by rw[hlen] at hj;exact hj)).1) (fun j hj=>by rw[Nat.add_zero];exact(ht j (by rw[hlen] at hj;exact hj)).2)
  (zeroCells_one rkZA (by intro v hv;simp at hv;rcases hv with rfl|rfl|rfl<;>rfl) (by decide) n)
 simp only[Nat.add_zero] at hst;obtain⟨m,rfl⟩:∃m,n=m+1:=⟨n - 1,by omega⟩
 simp[Builtin.clear_,run_underlying Tryz.underlying197,Value.cells,hst]
theorem kept_cells {F:Nat→Prop} {g:Nat} (hF:F g):∀(vs:List Value) (o:Nat) (w:World),Kept F w (w.setCells g o vs)
 |[],_,_=>Kept.refl F _
 |v::r,o,_=>(Kept.setCell ⟨g,o,none⟩ v hF).trans (kept_cells hF r (o+1) _)
theorem there_from {w:World} {g n k:Nat} (h:w.there g 0 (n*8)) (hk:k≤n):w.there g (k*8) ((n - k)*8):=by
 intro j hj;have:=h (k*8+j) (by omega);rw[Nat.zero_add] at this;exact this
def keepP (t:Int) (r:Rk):Bool:=!(r.place==t)
def kpL (t:Int) (rs:List Rk) (j:Nat):List Rk:=(rs.take j).filter (keepP t)
theorem kpL_step (t:Int) {rs:List Rk} {j:Nat} {r:Rk} (h:rs[j]? =some r):kpL t rs (j+1)=kpL t rs j++(if keepP t r then [r] else []):=filter_step _ h
theorem idx_none {t:Int}:∀(rs:List Rk) (k:Nat),idxF t rs k= -1→∀r∈rs,keepP t r=true
 |[],_,_,r,hr=>by simp at hr
 |x::rs,k,h,r,hr=>by
  unfold idxF at h;split at h
  ·omega
  ·next hx=>
   rcases List.mem_cons.1 hr with rfl|hr
   ·unfold keepP;simpa using hx
   ·exact idx_none rs (k+1) h r hr
theorem idx_some {t:Int}:∀(rs:List Rk) (k:Nat),idxF t rs k≠ -1→∃i,idxF t rs k=((k+i:Nat):Int)∧i<rs.length∧(rs.take i).filter (keepP t)=rs.take i∧∃r,rs[i]? =some r∧keepP t r=false
 |[],_,h=>absurd rfl h
 |x::rs,k,h=>by
  unfold idxF at h ⊢;by_cases hx:x.place=t
  ·rw[if_pos hx];exact⟨0,rfl,by simp,by simp,x,rfl,by unfold keepP;simpa using hx⟩
  ·rw[if_neg hx] at h ⊢;obtain⟨i,h1,h2,h3,r,h4,h5⟩:=idx_some rs (k+1) h;refine⟨i+1,by rw[h1];congr 1;omega,by simp;omega,?_,r,by simpa using h4,h5⟩;rw[List.take_succ_cons,List.filter_cons_of_pos (by unfold keepP;simpa using hx),h3]
theorem ch_Delete (g n:Nat) (rs:List Rk) (tb:Nat) (t:Int) (w:World) (R:RkRow w g n rs) (hln:rs.length≤n) (hn:n≤100000) (ht:w.cell? ⟨tb,0,none⟩=some (.int .i64 t)) (hne:tb≠g):
  Calls Tryz.prog 122 #[.slice (some ⟨g,0,none⟩) rs.length n,.func (.func 123) #[] #[.pointer (some ⟨tb,0,none⟩)]] w fun e w'=>e=.returned (.slice (some ⟨g,0,none⟩) (rs.filter (keepP t)).length n)∧RkRow w' g n (rs.filter (keepP t))∧Kept (fun b=>b=g) w w':=by
 have hat:RksAt w (.slice (some ⟨g,0,none⟩) rs.length n) rs:=⟨_,_,rfl,hln,by unfold maxLen;omega,fun _=>⟨g,0,rfl,fun i x hx=>⟨rkL x,rfl,rfl,fun j c hc=>by rw[Nat.zero_add];exact R.1 i x hx j c hc⟩⟩⟩
 have IX:=jh (ch_Index _ rs tb t w hat ht);have HR:=jh R;have HT:=jh ht;have DL:=jh (fun r W h=>ch_del r tb t W h);have NG:=jh hne;clear hat R ht hne;by_cases hi:idxF t rs 0= -1
 ·have E:Hid (rs.filter (keepP t)=rs):=jh (List.filter_eq_self.2 (idx_none rs 0 hi));rw[hi] at IX;rw[E.out];clear hi E;go_enter Tryz.func122,Tryz.ntmps122;go_wp2_with fail;refine IX.out.mono ?_;rintro e w1 ⟨rfl,hb1⟩;have R1:=jh (HR.out.below hb1);have K1:=jh (Kept.of_below (F:=fun b=>b=g) hb1);clear hb1 IX HR;go_wp2_with fail;go_ret;exact⟨rfl,R1.out,K1.out⟩
 ·obtain⟨i,h1,h2,h3,r0,h4,h5⟩:=idx_some rs 0 hi;rw[Nat.zero_add] at h1;rw[h1] at IX;have KI:Hid (kpL t rs (i+1)=rs.take i):=jh (by
   rw[kpL_step t h4,h5];unfold kpL;rw[h3];simp)
  have H4:=jh h4;clear hi h1 h3 h4 h5;have n1:((i:Int)== -1)=false:=by rw[beq_eq_false_iff_ne];omega
  go_enter Tryz.func122,Tryz.ntmps122;go_wp2_with fail;refine IX.out.mono ?_;rintro e w1 ⟨rfl,hb1⟩;have R1:=HR.out.below hb1;have K1:=jh (Kept.of_below (F:=fun b=>b=g) hb1);have F1:Hid (Filled w1 g 8 rkL (kpL t rs (i+1))):=jh (by
   rw[KI.out];intro q x hx;have hq:=(List.getElem?_eq_some_iff.1 hx).1;rw[List.getElem?_take_of_lt (by simp at hq;omega)] at hx;exact R1.1 q x hx)
  have T1:=jh R1.2;have S1:Hid (∀(q:Nat) (x:Rk),i+1≤q→rs[q]? =some x→w1.rangeAt g (q*8) (rkL x)):=jh (fun q x _ hx=>R1.1 q x hx);have LK:Hid ((kpL t rs (i+1)).length+1≤i+1):=jh (by rw[KI.out,List.length_take];omega);have E0:Hid ((kpL t rs (i+1)).length=i):=jh (by rw[KI.out,List.length_take];omega);clear hb1 R1 IX HR H4 KI;go_wp2_with fail;go_loopw [5,6] (fun vi vj wr=>∃j:Nat,i+1≤j∧j≤rs.length∧vj=.int .i64 j∧vi=.int .i64 ((kpL t rs j).length:Nat)∧Hid (Filled wr g 8 rkL (kpL t rs j))∧Hid (wr.there g 0 (n*8))∧Hid (∀(q:Nat) (x:Rk),j≤q→rs[q]? =some x→wr.rangeAt g (q*8) (rkL x))∧Hid (Kept (fun b=>b=g) w wr)∧Hid ((kpL t rs j).length+1≤j)) (fun _ vj _=>rs.length - (intOf vj).toNat)
  case atStart=>exact⟨i+1,by omega,by omega,by go_num,by rw[E0.out],F1,T1,S1,K1,LK⟩
  case round=>
   clear F1 T1 S1 K1 LK E0;obtain⟨j,hj1,hj2,rfl,rfl,F,T,S,K,LK⟩:=hrel;by_cases hlt:j<rs.length
   ·obtain⟨r,hr⟩:∃r,rs[j]? =some r:=⟨_,List.getElem?_eq_getElem hlt⟩
    have hc:=S.out j r (Nat.le_refl _) hr;have x0:wr.cell? ⟨g,j*8,none⟩=some (.int .i64 r.place):=hc 0 _ rfl;have x1:wr.cell? ⟨g,j*8+1,none⟩=some (.int .i64 r.loc):=hc 1 _ rfl;have x2:wr.cell? ⟨g,j*8+2,none⟩=some (.int .i64 r.hops):=hc 2 _ rfl;have x3:wr.cell? ⟨g,j*8+3,none⟩=some (.int .i64 r.origin):=hc 3 _ rfl;have x4:wr.cell? ⟨g,j*8+4,none⟩=some (.int .i64 r.first):=hc 4 _ rfl;have x5:wr.cell? ⟨g,j*8+5,none⟩=some (.int .i64 r.med):=hc 5 _ rfl;have x6:wr.cell? ⟨g,j*8+6,none⟩=some (.int .u32 r.id):=hc 6 _ rfl;have x7:wr.cell? ⟨g,j*8+7,none⟩=some (.int .i64 r.peer):=hc 7 _ rfl;have TC:=jh (K.out.cell HT.out NG.out);have ST:=jh (kpL_step t hr);have j0:(0:Int)≤(j:Int):=by omega
    have j1:(j:Int)<(rs.length:Int):=by omega
    have GL:Hid (g<wr.heap.size):=jh (jH x0);clear hc hr;go_upto_region 8 with (fail)
    obtain⟨W4,hW4,q4,hb4,-⟩:=boxK wr r;rw[←hW4];clear hW4 x0 x1 x2 x3 x4 x5 x6 x7;have F4:=jh (F.out.below hb4);have T4:=jh (there_below T.out hb4);have S4:Hid (∀(q:Nat) (x:Rk),j≤q→rs[q]? =some x→W4.rangeAt g (q*8) (rkL x)):=jh (fun q x h1 h2 k v hv=>jA (S.out q x h1 h2 k v hv) hb4);have K4:=jh (K.out.trans (Kept.of_below hb4));have TC4:=jh (jA TC.out hb4);have NB:Hid (wr.heap.size≠g):=jh (by have:=GL.out;omega);have Q4:=jh q4;obtain⟨y0,y1,y2,y3,y4,y5,y6,y7⟩:=rk_row q4;clear q4 hb4 F T S K TC GL;generalize wr.heap.size=rb at Q4 NB y0 y1 y2 y3 y4 y5 y6 y7 ⊢;go_wp2_with fail;refine(DL.out r _ TC4.out).mono ?_;rintro e w5 ⟨rfl,hb5⟩;have F5:=jh (F4.out.below hb5);have T5:=jh (there_below T4.out hb5);have S5:Hid (∀(q:Nat) (x:Rk),j≤q→rs[q]? =some x→w5.rangeAt g (q*8) (rkL x)):=jh (fun q x h1 h2 k v hv=>jA (S4.out q x h1 h2 k v hv) hb5);have K5:=jh (K4.out.trans (Kept.of_below hb5));have Q5:=jh ((hb5.block _ (jE Q4.out)).trans Q4.out);clear hb5 F4 T4 S4 K4 TC4 Q4 y0 y1 y2 y3 y4 y5 y6 y7;obtain⟨y0,y1,y2,y3,y4,y5,y6,y7⟩:=rk_row Q5.out;by_cases hp:(r.place==t)=true
    ·have ST2:Hid (kpL t rs (j+1)=kpL t rs j):=jh (by rw[ST.out];unfold keepP;rw[hp];simp);have LK2:Hid ((kpL t rs (j+1)).length+1≤j+1):=jh (by rw[ST2.out];have:=LK.out;omega);rw[←ST2.out] at F5;have EV:Hid (Value.int .i64 ((kpL t rs j).length:Nat)=.int .i64 ((kpL t rs (j+1)).length:Nat)):=jh (by rw[ST2.out]);have S6:Hid (∀(q:Nat) (x:Rk),j+1≤q→rs[q]? =some x→w5.rangeAt g (q*8) (rkL x)):=jh (fun q x h1 h2=>S5.out q x (by omega) h2);clear ST ST2 S5 LK;go_wp2_with fail;exact⟨⟨j+1,by omega,by omega,by go_num,EV.out,F5,T5,S6,K5,LK2⟩,by simp[intOf];omega⟩
    ·have hp2:(r.place==t)=false:=by simpa using hp
     have ST2:Hid (kpL t rs (j+1)=kpL t rs j++[r]):=jh (by rw[ST.out];unfold keepP;rw[hp2];rfl);have LK2:Hid ((kpL t rs (j+1)).length+1≤j+1):=jh (by rw[ST2.out,List.length_append];have:=LK.out;simp;omega);have lk:=LK.out;have EV:Hid (Value.int .i64 ((kpL t rs j).length+1:Nat)=.int .i64 ((kpL t rs (j+1)).length:Nat)):=jh (by rw[ST2.out,List.length_append];rfl);have Fss:=jh (Filled.set (C:=rkL) rkL_len F5.out T5.out (show (kpL t rs j).length<n by omega) r);have S6:Hid (∀(q:Nat) (x:Rk),j+1≤q→rs[q]? =some x→(w5.setCells g ((kpL t rs j).length*8) (rkL r)).rangeAt g (q*8) (rkL x)):=jh (fun q x h1 h2=>World.rangeAt_setCells_apart (S5.out q x (by omega) h2) _ _ _ (.inr (.inr (by show _+8≤_;omega))));rw[←ST2.out] at Fss;clear ST ST2 S5 LK hp;generalize hm:(kpL t rs j).length=m at*;clear hm;have m0:(0:Int)≤(m:Int):=by omega
     have m1:(m:Int)<(rs.length:Int):=by omega
     go_wp2_with (with_reducible refine jM (X:=.store 200 (.tmp 33) (.tmp 32)) ?_ ?_;(·rfl));unfold Halt;refine wpList_store_mid rfl 200 (.tmp 33) (.tmp 32) rfl g (m*8) (rkA r) rfl rfl (there_part T5.out (show m<n by omega)) (by kernel_rfl) (rk_one _) ?_;have K6:=jh (K5.out.trans (kept_cells (F:=fun b=>b=g) rfl (rkL r) (m*8) w5));obtain⟨W6,hW6⟩:∃W6,W6=w5.setCells g (m*8) (rkL r):=⟨_,rfl⟩
     have hW7:w5.setCells g (m*8) (rkA r).toList=W6:=hW6.symm;rw[hW7];rw[←hW6] at Fss S6 K6;clear hW6 hW7 K5 T5 F5 Q5 y0 y1 y2 y3 y4 y5 y6 y7 lk;go_wp2_with fail;exact⟨⟨j+1,by omega,by omega,by go_num,EV.out,jh Fss.out.1,jh Fss.out.2,S6,K6,LK2⟩,by simp[intOf];omega⟩
   ·obtain rfl:j=rs.length:=by omega
    have EF:Hid (kpL t rs rs.length=rs.filter (keepP t)):=jh (by unfold kpL;rw[List.take_length]);have lk:=LK.out;rw[EF.out] at F LK lk;rw[EF.out];clear EF S hlt LK;generalize hm:(rs.filter (keepP t)).length=m at*;have m0:(0:Int)≤(m:Int):=by omega
    have m1:(m:Int)≤(rs.length:Int):=by omega
    obtain⟨L,hL,hcl⟩:=run_clear_ranks wr g (m*8) (rs.length - m) (n - m) (by omega) (fun q hq=>there_from T.out (show m≤n by omega) q (by omega));have K6:=jh (K.out.trans (kept_cells (F:=fun b=>b=g) rfl L (m*8) wr));have R6:Hid (RkRow (wr.setCells g (m*8) L) g n (rs.filter (keepP t))):=jh ⟨fun q x hx=>World.rangeAt_setCells_apart (F.out q x hx) _ _ _ (.inr (.inl (by
     have:=(List.getElem?_eq_some_iff.1 hx).1;show q*8+8≤m*8;omega))),World.there_setCells T.out _ _ _⟩
    clear hL F T K;go_wp2_with (simp only[hcl]);go_ret;exact⟨by rw[hm];rfl,R6.out,K6.out⟩
open Go.RowKit
theorem own_type {w:World} {B k n rb:Nat} {e T:TypeId} {v:Value} {xs:List Value} {C:Array Value} {fr:Nat×Nat} (h:w.ownsRow B e k v n xs) (q:w.heap[rb]? =some (.cells C T fr)) (hne:T≠e):v.ownBlock≠some rb:=by
 obtain⟨_,⟨rfl,_⟩|⟨g,cap,cur,rfl,_,hg,_⟩⟩:=h
 ·intro h;cases h
 ·intro h';cases h'
  rw[hg] at q;injection q with q;injection q with _ q _;exact hne q.symm
def leftOf (R:List Rk) (gone:List Int):List Rk:=R.filter fun r=>!gone.contains r.place
structure OrdSt (R left:List Rk) (out:List Int):Prop where
 eq:left=leftOf R out
 len:left.length+out.length=R.length
 best:∀(p:Nat) (k:Int),out[p]? =some k→∃r,r.place=k∧IsBest (leftOf R (out.take p)) r
theorem OrdSt.init (R:List Rk):OrdSt R R []:=⟨(List.filter_eq_self.2 fun _ _=>rfl).symm,by simp,fun p k h=>by simp at h⟩
theorem filter_one {T:Rk}:∀{l:List Rk},l.Pairwise (fun a b=>a.place≠b.place)→T∈l→(l.filter (keepP T.place)).length+1=l.length
 |[],_,h=>by simp at h
 |x::l,hp,h=>by
  obtain⟨h1,h2⟩:=List.pairwise_cons.1 hp;rcases List.mem_cons.1 h with rfl|h
  ·rw[List.filter_cons_of_neg (by unfold keepP;simp),List.filter_eq_self.2 (fun y hy=>by unfold keepP;have:=h1 y hy;simpa using fun e=>this e.symm)];rfl
  ·rw[List.filter_cons_of_pos (by unfold keepP;simpa using h1 T h),List.length_cons,filter_one h2 h];rfl
theorem left_snoc (R:List Rk) (out:List Int) (t:Int):leftOf R (out++[t])=(leftOf R out).filter (keepP t):=by
 unfold leftOf;rw[List.filter_filter];congr 1;funext r;unfold keepP;rw[Bool.and_comm];by_cases h:r.place=t<;>simp[h]
theorem OrdSt.step {R rs:List Rk} {r:Rk} {out:List Int} (hR:R.Pairwise (fun a b=>a.place≠b.place)) (h:OrdSt R (r::rs) out):
  OrdSt R ((r::rs).filter (keepP (bestR r rs).place)) (out++[(bestR r rs).place]):=by
 have hb:=best_spec r rs;have h1:=h.eq;have hp:(r::rs).Pairwise (fun a b=>a.place≠b.place):=by rw[h1];exact hR.filter _
 have hl:=filter_one hp hb.mem;refine⟨by rw[left_snoc,←h1],by have:=h.len;rw[List.length_append];simp only[List.length_cons,List.length_nil] at*;omega,fun p k hk=>?_⟩;by_cases hlt:p<out.length
 ·rw[List.getElem?_append_left hlt] at hk;rw[List.take_append_of_le_length (by omega)];exact h.best p k hk
 ·rw[List.getElem?_append_right (by omega)] at hk;have e:p=out.length:=by
   have:=(List.getElem?_eq_some_iff.1 hk).1;simp at this;omega
  subst e;simp at hk;rw[List.take_left];exact⟨_,hk,h1▸hb⟩
theorem rks_apart (xs:List Cd):(rksOf xs).Pairwise (fun a b=>a.place≠b.place):=by
 rw[List.pairwise_iff_getElem];intro i j hi hj hij;unfold rksOf at*;simp only[List.getElem_mapIdx];show (i:Int)≠(j:Int);omega
theorem RkRow.belowB {w w':World} {B g n:Nat} {rs:List Rk} (h:RkRow w g n rs) (hb:Below B w w') (hg:g<B):RkRow w' g n rs:=by
 refine⟨fun i x hx j v hv=>?_,fun j hj=>?_⟩
 ·rw[hb.cell hg];exact h.1 i x hx j v hv
 ·obtain⟨h1,h2⟩:=h.2 j hj;exact⟨by rw[hb.cell hg];exact h1,(hb.frozen (p:=⟨g,0+j,none⟩) hg).trans h2⟩
theorem RkRow.rks {w:World} {g n:Nat} {rs:List Rk} (h:RkRow w g n rs) (hl:rs.length≤n) (hm:n≤maxLen):RksAt w (.slice (some ⟨g,0,none⟩) rs.length n) rs:=
 ⟨_,_,rfl,hl,hm,fun _=>⟨g,0,rfl,fun i x hx=>⟨rkL x,rfl,rfl,fun j c hc=>by rw[Nat.zero_add];exact h.1 i x hx j c hc⟩⟩⟩
theorem own_kept {F:Nat→Prop} {w w':World} {B k:Nat} {e:TypeId} {n:Nat} {v:Value} {xs:List Value} (h:w.ownsRow B e k v n xs) (hk:Kept F w w') (hne:∀g,v.ownBlock=some g→¬F g):w'.ownsRow B e k v n xs:=by
 obtain⟨h1,h2⟩:=h;refine⟨h1,h2.imp_right ?_⟩;rintro⟨g,cap,cur,h3,h4,h5,h6⟩;exact⟨g,cap,cur,h3,h4,(hk.block g (jE h5) (hne g (by rw[h3];rfl))).trans h5,h6⟩
theorem Kept.on {F:Nat→Prop} {a b c:World} (h:Kept F a b) (k:Below a.heap.size b c):Kept F a c:=
 ⟨k.os.trans h.os,k.tape.trans h.tape,k.output.trans h.output,Nat.le_trans h.size k.size,fun i hi hf=>(k.block i hi).trans (h.block i hi hf)⟩
theorem own_nil {w:World} {B k:Nat} {e:TypeId}:w.ownsRow B e k (.slice none 0 0) 0 []:=⟨by simp,.inl ⟨rfl,rfl⟩⟩
def sliceLen:Value→Nat|.slice _ n _=>n|_=>0
def OrderPost (w:World) (R:List Rk) (e:Ending) (w':World):Prop:=∃v' out,e=.returned v'∧OrdSt R [] out∧SlAt w' 1 (fun x cs=>cs=intL x) v' out∧Below w.heap.size w w'
theorem ch_Order (v:Value) (xs:List Cd) (w:World) (h:CdsAt w v xs) (hn:xs.length≤100000) (hh:∀c∈xs,hopsN c.a.path≤4611686018427387904):Calls Tryz.prog 74 #[v] w (OrderPost w (rksOf xs)):=by
 obtain⟨i0,hii,hz0,hz1,hz2⟩:=info_parts info_int;have RK:=jh (ch_ranks v xs w h hn hh);have FI:=jh (cds_first h);have HF:Hid (∀q∈rksOf xs,I64r q.first):=jh (fun q hq=>by
  obtain⟨i,d,hi,rfl⟩:=rksOf_mem.1 hq;exact FI.out d (List.mem_of_getElem? hi))
 have HL:=jh (rksOf_len xs);have AP:=jh (rks_apart xs);have I0:=jh (OrdSt.init (rksOf xs));generalize rksOf xs=R at RK HF HL AP I0 ⊢;generalize xs.length=n at hn RK HL;clear h hh FI;have n0:((n:Int)>0)∨n=0:=by omega
 go_enter Tryz.func74,Tryz.ntmps74;go_wp2_with fail;refine RK.out.mono ?_;rintro e w1 ⟨g,rfl,R1,hg,hb1⟩;by_cases hz:n=0
 ·subst hz;have e0:R=[]:=List.length_eq_zero_iff.1 HL.out;subst e0;clear RK R1;go_wp2_with fail;go_loopw [3,4] (fun vl vo wr=>vl=.slice (some ⟨g,0,none⟩) 0 0∧vo=.slice none 0 0∧wr=w1) (fun _ _ _=>0)
  case atStart=>exact⟨rfl,rfl,rfl⟩
  case round=>
   obtain⟨rfl,rfl,rfl⟩:=hrel;go_wp2_with fail;go_ret;exact⟨_,[],rfl,I0.out,SlAt.nil,hb1⟩
 ·have GL:Hid (g<w1.heap.size):=jh (by
   obtain⟨h1,_⟩:=R1.2 0 (by omega);obtain⟨u,hu⟩:=Option.isSome_iff_exists.1 h1;exact jH hu)
  have R1:=jh R1;have B1:=jh hb1;have GG:=jh hg;clear RK hb1 hg n0;go_wp2_with fail;go_loopw [3,4] (fun vl vo wr=>∃left out,vl=.slice (some ⟨g,0,none⟩) left.length n∧left.length≤n∧out.length≤n∧Hid (OrdSt R left out)∧Hid (RkRow wr g n left)∧Hid (wr.ownsRow w1.heap.size 3 1 vo out.length (out.flatMap intL))∧Hid (Kept (fun b=>b=g) w1 wr)) (fun vl _ _=>sliceLen vl)
  case atStart=>exact⟨R,[],by rw[HL.out],by rw[HL.out];omega,by simp,I0,R1,jh own_nil,jh (Kept.refl _ _)⟩
  case round=>
   clear I0 R1;obtain⟨left,out,rfl,hl1,hl2,OS,RR,O,K⟩:=hrel;cases left with
   |nil=>
    have SL:=jh (own_slat (C:=intL) (xs:=out) intL_len O.out);have BB:=jh (B1.out.trans (K.out.below B1.out.size (fun k hk=>by rw[hk];exact GG.out)));clear RR O K;go_wp2_with fail;go_ret;exact⟨_,out,rfl,OS.out,SL.out,BB.out⟩
   |cons r rs=>
    have hlr:rs.length≤100000:=by simp only[List.length_cons] at hl1;omega
    have OK:∀q∈r::rs,I64r q.first:=fun q hq=>by
     rw[OS.out.eq] at hq;exact HF.out q (List.mem_filter.1 hq).1
    have BE:=jh (ch_best _ r rs wr (RR.out.rks hl1 (by unfold maxLen;omega)) hlr OK (left_ne r rs));have OS2:=jh (OS.out.step AP.out);have T1:(bestR r rs)∈r::rs:=(best_spec r rs).mem;have HD:=jh (fun tb W R ht hne=>ch_Delete g n (r::rs) tb (bestR r rs).place W R hl1 hn ht hne);have HL2:Hid (((r::rs).filter (keepP (bestR r rs).place)).length+1=(r::rs).length):=jh (by
     have a:=OS2.out.len;have b:=OS.out.len;rw[List.length_append] at a;simp only[List.length_cons,List.length_nil] at*;omega)
    have OL:Hid (out.length+1≤n):=jh (by
     have b:=OS.out.len;have:=HL.out;simp only[List.length_cons] at b;omega)
    generalize (r::rs).filter (keepP (bestR r rs).place)=lf at OS2 HD HL2;generalize bestR r rs=T at BE OS2 HD;have m0:(((r::rs).length:Nat):Int)>0:=by simp only[List.length_cons];omega
    generalize hm:(r::rs).length=m at*;clear OK T1 OS hlr;go_wp2_with fail;refine BE.out.mono ?_;rintro e w2 ⟨rfl,hb2⟩;have RR2:=jh (RR.out.below hb2);have O2:=jh (jQ O.out hb2);have K2:=jh (K.out.trans (Kept.of_below hb2));clear BE hb2 RR O K;go_upto_region 5 with (fail)
    obtain⟨W4,hW4,q4,hb4,hs4⟩:=boxK w2 T;rw[←hW4];clear hW4;have NB:Hid (w2.heap.size≠g):=jh (by have:=GL.out;have:=K2.out.size;omega);have GE:Hid (w1.heap.size≤w2.heap.size):=jh K2.out.size;have RR4:=jh (RR2.out.below hb4);have O4:=jh (jQ O2.out hb4);have K4:=jh (K2.out.trans (Kept.of_below hb4));have Q4:=jh q4;have OB:=jh (own_type O4.out q4 (by decide));obtain⟨x0,-⟩:=rk_row q4;have X4:=jh x0;clear q4 hb4 hs4 RR2 O2 K2;generalize w2.heap.size=tb at Q4 NB GE OB X4 x0 ⊢;go_wp2_with (at_builtin;refine wpList_append_own_at _ rfl _ _ 39 rfl w1.heap.size 3 i0 _ 1 8 Tryz.underlying39 hii hz0 hz1 hz2 rfl (by decide) _ out.length (out.flatMap intL) rfl (O4.out.alloc _) ⟨W4.heap.size,0,none⟩ 1 1 (intL T.place) rfl ?ar1 ?br1 ?cr1 ?dr1 ?er1 ?fr1 ?_)
    case ar1=>rfl
    case br1=>exact new_cells _ _ _
    case cr1=>intro u hu;simp at hu;subst hu;rfl
    case dr1=>have:=OL.out;unfold maxLen;omega
    case er1=>have:=OL.out;omega
    case fr1=>have:=K4.out.size;simp;omega
    intro v' w5 hown hgrow _ _;have O5:Hid (w5.ownsRow w1.heap.size 3 1 v' (out++[T.place]).length ((out++[T.place]).flatMap intL)):=jh (by
     rw[List.length_append,flat_snoc];exact hown)
    have B5:Below w1.heap.size W4 w5:=((Below.refl _ _).alloc K4.out.size _).grown hgrow (by have:=K4.out.size;simp;omega) (jJ O4.out);have RR5:=jh (RR4.out.belowB B5 GL.out);have K5:=jh (K4.out.on B5);have tl:tb<W4.heap.size:=jE Q4.out;have X5:w5.cell? ⟨tb,0,none⟩=some (.int .i64 T.place):=by
     rw[World.cell?_of_block (hgrow.block tb (by simp;omega) (Ne.symm OB.out))];exact jA X4.out ((Below.refl _ _).alloc (Nat.le_refl _) _)
    have HD2:=jh (HD.out tb w5 RR5.out X5 NB.out);clear hown hgrow B5 tl X5 X4 x0 Q4 RR4 O4 K4 OB HD RR5;go_wp2_with fail;refine HD2.out.mono ?_;rintro e w6 ⟨rfl,RR6,K6⟩;have O6:=jh (own_kept O5.out K6 (fun j hj hjg=>by
     have a:=jJ O5.out j hj;have b:=GL.out;omega))
    have K7:=jh (K5.out.trans K6);have RR6:=jh RR6;clear HD2 O5 K5 K6;go_wp2_with fail;exact⟨⟨lf,out++[T.place],rfl,by have:=HL2.out;omega,by rw[List.length_append];exact OL.out,OS2,RR6,O6,K7⟩,by have:=HL2.out;unfold sliceLen;simp only;omega⟩
end Go.Proofs.YtkoidahgbbabiaaGreat
