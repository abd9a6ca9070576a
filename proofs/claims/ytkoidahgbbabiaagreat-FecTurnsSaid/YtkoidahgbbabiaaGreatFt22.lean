/- Texts of one proof, one behind another. -/
import Derived.Test.YtkoidahgbbabiaaGreatFt21
import Derived.Test.YtkoidahgbbabiaaGreatFt5
import Derived.Test.YtkoidahgbbabiaaGreatFt18
import Derived.Test.YtkoidahgbbabiaaGreatFt1
namespace Go.Proofs.YtkoidahgbbabiaaGreat
open Go.RowKit
def setBl (S : Sv) (i j : Nat) (b : Bool) : Sv := { S with bl := setWay S.bl (i * 16 + j) b }
def renew1 (j : Nat) (S : Sv) (p : Pf) : Sv := renewP S j p (saidS S.ms p)
def blockL (S : Sv) (j : Nat) (ps : List Pf) : Sv := ps.foldl (renew1 j) S
theorem blockL_snoc (S : Sv) (j : Nat) (ps : List Pf) (p : Pf) : blockL S j (ps ++ [p]) = renew1 j (blockL S j ps) p := by unfold blockL; rw [List.foldl_append]; rfl
theorem kin_block (j : Nat) : ∀ (ps : List Pf) (S : Sv), SvKin S (blockL S j ps)
 | [], S => SvKin.refl S
 | p :: ps, S => (kin_renew S j p _).trans (kin_block j ps (renew1 j S p))
theorem renewP_best (S : Sv) (j : Nat) (p : Pf) (l : List Cd) (k : Nat) (q : Pf) : (renewP S j p l).best k q = if k = j ∧ q = p then newBest S j l else S.best k q := rfl
theorem blockL_best (j : Nat) : ∀ (ps : List Pf) (S : Sv) (k : Nat) (q : Pf), (blockL S j ps).best k q = if k = j ∧ q ∈ ps then bestIn S j q else S.best k q
 | [], S, k, q => by rw [if_neg (by simp)]; rfl
 | p :: ps, S, k, q => by
  show (blockL (renew1 j S p) j ps).best k q = _
  rw [blockL_best j ps]
  have hk : SvKin S (renew1 j S p) := kin_renew S j p _
  rw [hk.bestIn]
  unfold renew1
  rw [renewP_best, newBest_said]
  by_cases e1 : k = j
  ·by_cases e2 : q ∈ ps
   ·rw [if_pos ⟨e1, e2⟩, if_pos ⟨e1, List.mem_cons_of_mem _ e2⟩]
   ·rw [if_neg (fun h => e2 h.2)]
    by_cases e3 : q = p
    ·subst e3; rw [if_pos ⟨e1, rfl⟩, if_pos ⟨e1, List.mem_cons_self ..⟩]
    ·rw [if_neg (fun h => e3 h.2), if_neg (by simp [e2, e3])]
  ·rw [if_neg (fun h => e1 h.1), if_neg (fun h => e1 h.1), if_neg (fun h => e1 h.1)]
theorem renewP_ms (S : Sv) (j : Nat) (p : Pf) (l : List Cd) (k : Nat) : (renewP S j p l).ms[k]? = (S.ms[k]?).map fun m => if k = j then m.mark p (m.there && !sameB (S.best j p) (newBest S j l)) else m := by
 unfold renewP
 rw [markS_get]
 rfl
theorem blockL_news (j : Nat) : ∀ (ps : List Pf) (S : Sv) (k : Nat) (m : Pm), S.ms[k]? = some m → ∃ n, (blockL S j ps).ms[k]? = some n ∧ n.there = m.there ∧ ∀ q, n.news q = (m.news q || (decide (k = j) && (m.there && (decide (q ∈ ps) && !sameB (S.best j q) (bestIn S j q)))))
 | [], S, k, m, hm => ⟨m, hm, rfl, fun q => by simp⟩
 | p :: ps, S, k, m, hm => by
  have h1 := renewP_ms S j p (saidS S.ms p) k
  rw [hm] at h1
  simp only [Option.map_some] at h1
  obtain ⟨n, n1, n2, n3⟩ := blockL_news j ps (renew1 j S p) k _ h1
  refine ⟨n, n1, ?_, fun q => ?_⟩
  ·rw [n2]; split <;> rfl
  ·rw [n3 q]
   have hk : SvKin S (renew1 j S p) := kin_renew S j p _
   rw [hk.bestIn]
   have hb : (renew1 j S p).best j q = if q = p then bestIn S j q else S.best j q := by
    unfold renew1
    rw [renewP_best, newBest_said]
    by_cases e : q = p
    ·subst e; rw [if_pos ⟨rfl, rfl⟩, if_pos rfl]
    ·rw [if_neg (fun h => e h.2), if_neg e]
   rw [hb]
   by_cases e : k = j
   ·simp only [e, if_true, decide_true, Bool.true_and]
    rw [mark_news, newBest_said]
    have hth : (m.mark p (m.there && !sameB (S.best j p) (bestIn S j p))).there = m.there := rfl
    rw [hth]
    by_cases e2 : q = p
    ·subst e2
     have : sameB (bestIn S j q) (bestIn S j q) = true := (sameB_iff _ _).2 rfl
     simp [this]
    ·have h3 : decide (q ∈ p :: ps) = decide (q ∈ ps) := by simp [e2]
     rw [if_neg e2, h3]
     simp [e2]
   ·simp [e]
theorem rt_at {w : World} {s : Option Addr} {n c i : Nat} {xs : List RE} (h : SlAt w 13 (fun x cs => cs = rtL i x) (.slice s n c) xs) {k : Nat} {x : RE} (hx : xs[k]? = some x) : ∃ g o, s = some ⟨g, o, none⟩ ∧ w.rangeAt g (o + k * 13) (rtL i x) := by
 obtain ⟨s', c', e, h1, h2, h3⟩ := h
 injection e with e _ _
 subst e
 have hi := (List.getElem?_eq_some_iff.1 hx).1
 obtain ⟨b, off, rfl, h4⟩ := h3 (by omega)
 obtain ⟨cs, -, rfl, hc⟩ := h4 k x hx
 exact ⟨b, off, rfl, fun j v hv => hc j v hv⟩
section
variable {w W W2 : World} {rho : Nat → Role} {sb fb : Nat} {ls : List Pl} {S : Sv} {A : Ab}
theorem IsAb.block (h : IsAb S A) (few : A.V.length ≤ 16) {i j : Nat} (hi : i < A.V.length) (hj : j < A.V.length) (b : Bool) (ps : List Pf) (hps : ∀ p, p ∈ ps ↔ (getL (A.R i) p).isSome = true) : IsAb (blockL (setBl S i j b) j ps) (A.block i j b) := by
 have hk := kin_block j ps (setBl S i j b)
 have hV : RV (blockL (setBl S i j b) j ps) = A.V := by rw [hk.RV]; exact h.V
 have hin : ∀ k q, bestIn (setBl S i j b) k q = bestV A.own (setWay A.bl (i * 16 + j) b) A.V k q := fun k q => by
  rw [bestIn_V]
  show bestV S.own (setWay S.bl (i * 16 + j) b) (RV S) k q = _
  rw [h.own, h.bl, h.V]
 have hold : ∀ k q, k < A.V.length → ¬ (k = j ∧ q ∈ ps) → A.best k q = bestV A.own (setWay A.bl (i * 16 + j) b) A.V k q := fun k q hkl hq => by
  refine bestV_congr rfl (fun n v v' hv hv' => ?_) fun n v a hv hg => ?_
  ·rw [hv] at hv'; injection hv' with hv'; subst hv'; exact ⟨rfl, rfl, rfl⟩
  ·unfold setWay
   rw [if_neg]
   intro e
   have hn := (List.getElem?_eq_some_iff.1 hv).1
   have e1 : n = i := by omega
   have e2 : k = j := by omega
   subst e1
   refine hq ⟨e2, (hps q).2 ?_⟩
   unfold Ab.R
   rw [hv]
   show (getL v.2.2 q).isSome = true
   rw [hg]; rfl
 have hbl : (blockL (setBl S i j b) j ps).bl = setWay A.bl (i * 16 + j) b := by
  rw [hk.bl]
  show setWay S.bl (i * 16 + j) b = _
  rw [h.bl]
 refine ⟨hk.own.trans h.own, hk.most.trans h.most, hbl, hV, ?_, ?_⟩
 ·intro k n hn
  obtain ⟨m, hm, -⟩ := hk.back hn
  obtain ⟨n', g1, g2, g3⟩ := blockL_news j ps _ k m hm
  rw [hn] at g1; injection g1 with g1; subst g1
  have hm : S.ms[k]? = some m := hm
  obtain ⟨h1, h2⟩ := h.mem k m hm
  refine ⟨g2.trans h1, fun q => ?_⟩
  rw [g3 q, h2 q, h1]
  unfold Ab.block Ab.turn
  simp only
  have hkl : k < A.V.length := by rw [← h.len]; exact (List.getElem?_eq_some_iff.1 hm).1
  by_cases e : k = j ∧ q ∈ ps
  ·obtain ⟨rfl, hq⟩ := e
   have hb : (setBl S i k b).best k q = A.best k q := h.best k q (by rw [h.len]; exact hkl)
   rw [hb, hin]
   simp [hq]
  ·have e2 : sameB (A.best k q) (bestV A.own (setWay A.bl (i * 16 + j) b) A.V k q) = true := (sameB_iff _ _).2 (hold k q hkl e)
   rw [e2]
   by_cases e3 : k = j
   ·have : ¬ q ∈ ps := fun h => e ⟨e3, h⟩
    simp [this]
   ·simp [e3]
 ·intro k q hkl
  rw [hk.len] at hkl
  have hkl : k < S.ms.length := hkl
  rw [blockL_best]
  show _ = bestV A.own (setWay A.bl (i * 16 + j) b) A.V k q
  by_cases e : k = j ∧ q ∈ ps
  ·rw [if_pos e, hin, e.1]
  ·rw [if_neg e]
   exact (h.best k q hkl).trans (hold k q (by rw [← h.len]; exact hkl) e)
theorem SrvM.setFil (h : SrvM W rho sb fb ls S) {bl' : Nat → Bool} (hk : Kept (fun k => k = fb) W W2) (hf : FilAt W2 fb S.own bl') : SrvM W2 rho sb fb ls { S with bl := bl' } ∧ Step rho rho W W2 := by
 have rf := h.bod.rfb
 refine ⟨⟨(h.top.kept hk fun k _ hF e => by
  have e : k = fb := e
  rw [e, rf] at hF; cases hF), ⟨hf, rf, h.bod.len, h.bod.few, ?_, fun k hk' => Nat.lt_of_lt_of_le (h.dom k hk') hk.size, h.bod.own1⟩, h.rsb⟩, ⟨fun _ _ => rfl, hk.imp fun k e => by
  have e : k = fb := e
  rw [e, rf]; intro e; cases e⟩⟩
 intro i m l hm hl
 exact (h.bod.mem i m l hm hl).kept (fun _ _ => rfl) hk fun k _ ho e => by
  have e : k = fb := e
  rw [e, rf] at ho
  rcases ho with e | e | e | e | e <;> cases e
set_option maxRecDepth 100000 in
theorem sv_Block_no (h : SrvM W rho sb fb ls S) {n k : Int} (hn : ¬ ((0 ≤ n ∧ n < (S.ms.length : Int)) ∧ (0 ≤ k ∧ k < (S.ms.length : Int)))) (b : Bool) : Calls Tryz.prog 26 #[.pointer (some ⟨sb, 0, none⟩), .int .i64 n, .int .i64 k, .bool b] W fun e w' => e = .returned (.int .i64 1) ∧ W = w' := by
 by_cases h1 : 0 ≤ n ∧ n < (S.ms.length : Int)
 ·obtain ⟨i, rfl⟩ := Int.eq_ofNat_of_zero_le h1.1
  obtain ⟨m, hm⟩ : ∃ m, S.ms[i]? = some m := ⟨_, List.getElem?_eq_getElem (by omega)⟩
  obtain ⟨l, hl, -⟩ := h.get hm
  have MB := jh (sv_member h hl)
  have MB2 := jh (sv_member_no h (n := k) (fun h2 => hn ⟨h1, h2⟩))
  clear h hn h1 hm hl
  go_enter Tryz.func26, Tryz.ntmps26
  go_wp2_with fail
  refine MB.out.mono ?_
  rintro e w1 ⟨rfl, rfl⟩
  go_wp2_with fail
  refine MB2.out.mono ?_
  rintro e w1 ⟨rfl, rfl⟩
  go_wp2_with fail
  go_ret
  exact ⟨rfl, rfl⟩
 ·have MB := jh (sv_member_no h h1)
  clear h hn h1
  go_enter Tryz.func26, Tryz.ntmps26
  go_wp2_with fail
  refine MB.out.mono ?_
  rintro e w1 ⟨rfl, rfl⟩
  go_wp2_with fail
  go_ret
  exact ⟨rfl, rfl⟩
def BlockPost (sb fb : Nat) (ls : List Pl) (S : Sv) (i j : Nat) (m : Pm) (b : Bool) (rho : Nat → Role) (W : World) (e : Ending) (w' : World) : Prop :=
 ∃ (rho' : Nat → Role) (ps : List Pf), e = .returned (.int .i64 0) ∧ (∀ p, p ∈ ps ↔ (getL m.R p).isSome = true) ∧ SrvM w' rho' sb fb ls (blockL (setBl S i j b) j ps) ∧ Step rho rho' W w'
set_option maxHeartbeats 6400000 in
set_option maxRecDepth 100000 in
theorem sv_Block (h : SrvM W rho sb fb ls S) {i j : Nat} {m n : Pm} (hm : S.ms[i]? = some m) (hn : S.ms[j]? = some n) (b : Bool) :
  Calls Tryz.prog 26 #[.pointer (some ⟨sb, 0, none⟩), .int .i64 i, .int .i64 j, .bool b] W (BlockPost sb fb ls S i j m b rho W) := by
 obtain ⟨l, hl, hM⟩ := h.get hm
 obtain ⟨l2, hl2, -⟩ := h.get hn
 obtain ⟨s, cap, -, cf, -⟩ := h.cells
 have few := h.bod.few
 have hi : i < 16 := by have := (List.getElem?_eq_some_iff.1 hm).1; omega
 have hj : j < 16 := by have := (List.getElem?_eq_some_iff.1 hn).1; omega
 have HS := jh h
 have HM := jh hm
 have HN := jh hn
 have HL := jh hl
 have MB := jh (sv_member h hl)
 have MB2 := jh (sv_member h hl2)
 have Fss := jh (ex_Set fb S.own S.bl i j b hi hj W h.bod.fil)
 clear h hm hn hl hl2 hM hi hj few
 go_enter Tryz.func26, Tryz.ntmps26
 go_wp2_with fail
 refine MB.out.mono ?_
 rintro e w1 ⟨rfl, rfl⟩
 go_wp2_with fail
 refine MB2.out.mono ?_
 rintro e w1 ⟨rfl, rfl⟩
 go_wp2_with fail
 refine Fss.out.mono ?_
 rintro e w2 ⟨rfl, hf, hk⟩
 have D := jh (HS.out.setFil hk hf)
 clear hf hk Fss cf MB MB2
 obtain ⟨S1, hS1⟩ : ∃ S1, setBl S i j b = S1 := ⟨_, rfl⟩
 have D1 : Hid (SrvM w2 rho sb fb ls S1 ∧ Step rho rho W w2) := jh (by rw [← hS1]; exact D.out)
 have HM1 : Hid (S1.ms[i]? = some m) := jh (by rw [← hS1]; exact HM.out)
 have HN1 : Hid (S1.ms[j]? = some n) := jh (by rw [← hS1]; exact HN.out)
 have E1 := jh hS1
 clear D hS1
 have hM1 := D1.out.1.bod.mem i m l HM1.out HL.out
 have m3 : w2.cell? ⟨l.mb, 3, none⟩ = some (.pointer (some ⟨l.rb, 0, none⟩)) := jB hM1.row 3
 have AL := jh (ad_All w2 hM1.rib)
 have RGT : Hid (∀ p, (getL m.R p).isSome = true → RgtP p) := jh (fun p hp => rts_right hM1.rib hp)
 clear hM1
 go_wp2_with fail
 refine AL.out.mono ?_
 rintro e w3 ⟨v, vs, rfl, re, -, rm, hb3⟩
 obtain ⟨sv, cv, rfl, -⟩ := jV re.own
 have D3 := jh (And.intro (D1.out.1.below hb3) (D1.out.2.grow hb3))
 have RW : Hid (On (fun k => rho k = .no) w3 (fun W => SlAt W 13 (fun x cs => cs = rtL i x) (.slice sv vs.length cv) vs)) := jh (((own_fresh re.own).wide (G := fun k => rho k = .no) fun k hk _ => D1.out.1.newNo hk).imp fun V hV => own_slat (rtL_len i) hV)
 have RM := jh rm
 have vl : vs.length ≤ 9223372036854775807 := by
  obtain ⟨sa, cap, -, g1, g2, -⟩ := RW.out.self
  exact Nat.le_trans g1 g2
 have S0 : Hid (SrvM w3 rho sb fb ls (blockL S1 j ((vs.map (·.p)).take 0))) := jh D3.out.1
 have T0 := jh D3.out.2
 clear re rm hb3 AL m3 D3
 go_wp2_with fail
 go_loopw [41] (fun t41 wr => ∃ (k : Nat) (rho1 : Nat → Role), k ≤ vs.length ∧ t41 = .int .i64 k ∧ Hid (SrvM wr rho1 sb fb ls (blockL S1 j ((vs.map (·.p)).take k))) ∧ Hid (Step rho rho1 W wr) ∧ Hid (Step rho rho1 w3 wr)) (fun t41 _ => vs.length - (intOf t41).toNat)
 case atStart => exact ⟨0, rho, by omega, rfl, S0, T0, jh Step.refl⟩
 case round =>
  clear S0 T0
  obtain ⟨k, rho1, hk, rfl, SK, TK, T3⟩ := hrel
  by_cases hkl : k < vs.length
  ·obtain ⟨x, hx⟩ : ∃ x, vs[k]? = some x := ⟨_, List.getElem?_eq_getElem hkl⟩
   obtain ⟨g, o, rfl, hrg⟩ := rt_at (T3.out.free RW.out).self hx
   have RG := jh hrg
   have HP := jh (RGT.out x.p ((RM.out x.p).1 (List.mem_map.2 ⟨x, List.mem_of_getElem? hx, rfl⟩)))
   have NX : Hid (blockL S1 j ((vs.map (·.p)).take (k + 1)) = renew1 j (blockL S1 j ((vs.map (·.p)).take k)) x.p) := jh (by
    rw [take_snoc (x := x.p) (by rw [List.getElem?_map, hx]; rfl), blockL_snoc])
   obtain ⟨T, hT⟩ : ∃ T, blockL S1 j ((vs.map (·.p)).take k) = T := ⟨_, rfl⟩
   rw [hT] at SK NX
   obtain ⟨n', hn'⟩ : ∃ n', T.ms[j]? = some n' := by
    obtain ⟨n', h1, -⟩ := (kin_block j ((vs.map (·.p)).take k) S1).mem j n HN1.out
    rw [hT] at h1
    exact ⟨n', h1⟩
   have HN2 := jh hn'
   have k0 : (0 : Int) ≤ (k : Int) := by omega
   have k1 : (k : Int) < (vs.length : Int) := by omega
   clear hx hrg hT hn'
   go_wp2_with ((with_reducible refine jM (X := .load 61 (.tmp 43)) ?_ ?_); (· rfl))
   unfold Halt
   refine ldm_at (by rfl) 61 (.tmp 43) rfl g (o + k * 13) rfl (rtL i x) _ RG.out Tryz.underlying61 rfl sz_rt ?_
   go_wp2_with ((with_reducible refine jM (X := .store 61 (.tmp 12) (.tmp 44)) ?_ ?_); (· rfl))
   unfold Halt
   refine st_fresh rfl 61 (.tmp 12) (.tmp 44) rfl rfl _ (rtC i x.p x.v) rfl sz_rt rfl (rt_one _ _ _) ?_
   obtain ⟨w4, hw4, q4, hb4, -⟩ := box1 wr (rtC i x.p x.v) 61
   rw [← hw4]
   obtain ⟨pb, hpb⟩ : ∃ pb, pb = wr.heap.size := ⟨_, rfl⟩
   rw [← hpb] at q4 ⊢
   have c0 : w4.cell? ⟨pb, 1, none⟩ = some (.int .u32 x.p.1) := jB q4 1
   have c1 : w4.cell? ⟨pb, 2, none⟩ = some (.int .i64 x.p.2) := jB q4 2
   have SK4 := jh (SK.out.below hb4)
   have TK4 := jh (TK.out.grow hb4)
   have T34 := jh (T3.out.grow hb4)
   have NPB : Hid (¬ (rho1 pb ≠ .no)) := jh (fun h => h (SK.out.newNo (Nat.le_of_eq hpb.symm)))
   have SKD := jh (SK4.out.below (Below.refl w4.heap.size w4).drew)
   clear hw4 q4 hb4 SK TK T3 RG hpb
   simp only [Act.put]
   go_upto_region 10 with (fail)
   refine wp_region_held_drew (S := fun w' => Kept (fun k => rho1 k ≠ .no) w4 w') (by kernel_rfl) ?_ (fun hHeld => ?_)
   ·exact (Kept.refl _ _).drew
   generalize World.drew w4 = wd at SKD hHeld ⊢
   refine qy 0 ?_ ?_ ?_ hHeld ?_; rotate_left 1; (· rfl); (· intro w' hSw; (try clear hHeld); go_simp; try with_reducible rfl)
   try simp only [jz]
   refine qy 1 ?_ ?_ ?_ hHeld ?_; rotate_left 1; (· rfl); (· intro w' hSw; (try clear hHeld); go_simp; try with_reducible rfl)
   try simp only [jz]
   refine qy 2 ?_ ?_ ?_ hHeld ?_; rotate_left 1; (· rfl); (· intro w' hSw; (try clear hHeld); go_simp; try with_reducible rfl)
   try simp only [jz]
   refine qy 3 ?_ ?_ ?_ hHeld ?_; rotate_left 1; (· rfl); (· intro w' hSw; have c0 := hSw.cell c0 NPB.out; have c1 := hSw.cell c1 NPB.out; (try clear hHeld); go_simp; try with_reducible rfl)
   try simp only [jz]
   refine qy 4 ?_ ?_ ?_ hHeld ?_; rotate_left 1; (· rfl); (· intro w' hSw; (try clear hHeld); go_simp; try with_reducible rfl)
   try simp only [jz]
   refine qy 5 ?_ ?_ ?_ hHeld ?_; rotate_left 1; (· rfl); (· intro w' hSw; (try clear hHeld); go_simp; try with_reducible rfl)
   try simp only [jz]
   refine qy 6 ?_ ?_ ?_ hHeld ?_; rotate_left 1; (· rfl); (· intro w' hSw; have c0 := hSw.cell c0 NPB.out; have c1 := hSw.cell c1 NPB.out; (try clear hHeld); go_simp; try with_reducible rfl)
   try simp only [jz]
   refine jr 7 ?_ fun K hK => ?_; (· rfl); (try clear hb); go_simp; refine (sv_said SKD.out x.p HP.out.1).mono ?_; rintro e wq ⟨sx, cx, xs, A, rfl, ox, xe, hbq⟩; have SKQ := jh (SKD.out.below hbq); have AC := jh (said_all SKQ.out HP.out xe); have XE := jh xe; have XN := jh (ox.fresh.wide (G := fun k => rho1 k = .no) fun k hk _ => SKD.out.newNo hk); have STD := jh (hHeld.grow hbq); go_wp2_with fail; refine hK.out _ _ ?_ (fun hHeld => ?_); (· exact hHeld.grow hbq); clear hK K
   try simp only [jz]
   refine jr 8 ?_ fun K hK => ?_; (· rfl); (try clear hb); go_simp; refine (sv_renew SKQ.out HN2.out x.p HP.out (.slice sx xs.length cx) xs XN.out AC.out).mono ?_; rintro e wz ⟨rho3, rfl, hs3, st3⟩; go_wp2_with fail; refine hK.out _ _ ?_ (fun hHeld => ?_); (· exact hHeld.trans st3.kept); clear hK K
   try simp only [jz]
   refine wpAnyH_done (by kernel_rfl) ?_ _
   have SF : Hid (SrvM wz rho3 sb fb ls (blockL S1 j ((vs.map (·.p)).take (k + 1)))) := jh (by
    rw [NX.out]
    unfold renew1
    rw [← XE.out]
    exact hs3)
   have SD : Hid (Step rho1 rho3 w4 wz) := jh ⟨fun k hk => st3.same k (Nat.lt_of_lt_of_le hk STD.out.size), STD.out.trans st3.kept⟩
   have TF := jh (TK4.out.trans SD.out)
   have TF3 := jh (T34.out.trans SD.out)
   clear hHeld hs3 st3 SD STD XN SKQ SKD c0 c1
   go_wp2_with fail
   exact ⟨⟨k + 1, rho3, by omega, by go_num, SF, TF, TF3⟩, by simp [intOf]; omega⟩
  ·obtain rfl : k = vs.length := by omega
   have e : (vs.map (·.p)).take vs.length = vs.map (·.p) := List.take_of_length_le (by rw [List.length_map]; exact Nat.le_refl _)
   rw [e] at SK
   have SF := jh SK.out
   clear SK hk hkl
   go_wp2_with fail
   refine bodyPost_ret (v := .int .i64 0) (by simp [results, Tryz.results26, go_sem]) rfl ⟨rho1, _, rfl, fun p => RM.out p, by rw [E1.out]; exact SF.out, TK.out⟩
end
open Go.RowKit
def Ab.as_ (A : Ab) (j : Nat) : Int := ((A.V[j]?).map (·.1)).getD 0
def Ab.goes (A : Ab) (i j : Nat) (p : Pf) : Bool := goesS A.own A.bl (A.R i) i j (A.as_ j) p
section
variable {w W : World} {rho : Nat → Role} {sb fb : Nat} {ls : List Pl} {S : Sv} {A : Ab}
theorem IsAb.asO (h : IsAb S A) {j : Nat} {m : Pm} (hm : S.ms[j]? = some m) : A.as_ j = m.as_ := by
 unfold Ab.as_
 rw [(h.get hm).1]
 rfl
theorem ls_Offers (h : LSv w W rho sb fb ls A) {i : Nat} (hi : i < A.V.length) (p : Pf) (hp : KOk p) : Calls Tryz.prog 30 #[.pointer (some ⟨sb, 0, none⟩), .int .i64 i, .agg #[.int .u32 p.1, .int .i64 p.2]] W (OffersPost (A.offs i p) p W) := by
 obtain ⟨S, h1, h2⟩ := h.srv
 obtain ⟨m, hm⟩ := h2.at hi
 have := sv_Offers h1 hm p hp
 rw [off_V, h2.own, h2.bl, h2.V] at this
 exact this
theorem ls_Offers_no (h : LSv w W rho sb fb ls A) {n : Int} (hn : ¬ (0 ≤ n ∧ n < (A.V.length : Int))) (p : Pf) : Calls Tryz.prog 30 #[.pointer (some ⟨sb, 0, none⟩), .int .i64 n, .agg #[.int .u32 p.1, .int .i64 p.2]] W fun e w' => e = .returned (.slice none 0 0) ∧ Below W.heap.size W w' := by
 obtain ⟨S, h1, h2⟩ := h.srv
 exact sv_Offers_no h1 (by rw [h2.len]; exact hn) p
theorem ls_Goes (h : LSv w W rho sb fb ls A) {i j : Nat} (hi : i < A.V.length) (hj : j < A.V.length) (p : Pf) (hp : OkP p) :
  Calls Tryz.prog 31 #[.pointer (some ⟨sb, 0, none⟩), .int .i64 i, .int .i64 j, .agg #[.int .u32 p.1, .int .i64 p.2]] W fun e w' => e = .returned (.bool (A.goes i j p)) ∧ Below W.heap.size W w' := by
 obtain ⟨S, h1, h2⟩ := h.srv
 obtain ⟨m, hm⟩ := h2.at hi
 obtain ⟨n, hn⟩ := h2.at hj
 have := sv_Goes h1 hm hn p hp
 rw [h2.own, h2.bl, ← (h2.get hm).2, ← h2.asO hn] at this
 exact this
theorem ls_Block (h : LSv w W rho sb fb ls A) {i j : Nat} (hi : i < A.V.length) (hj : j < A.V.length) (b : Bool) :
  Calls Tryz.prog 26 #[.pointer (some ⟨sb, 0, none⟩), .int .i64 i, .int .i64 j, .bool b] W fun e w' => ∃ rho' : Nat → Role, e = .returned (.int .i64 0) ∧ LSv w w' rho' sb fb ls (A.block i j b) ∧ Step rho rho' W w' := by
 obtain ⟨S, h1, h2⟩ := h.srv
 obtain ⟨m, hm⟩ := h2.at hi
 obtain ⟨n, hn⟩ := h2.at hj
 refine (sv_Block h1 hm hn b).mono ?_
 rintro e w' ⟨rho', ps, rfl, hps, hs, st⟩
 exact ⟨rho', rfl, h.step hs (h2.block h.few hi hj b ps (fun p => by rw [(h2.get hm).2]; exact hps p)) st, st⟩
theorem ls_Block_no (h : LSv w W rho sb fb ls A) {n k : Int} (hn : ¬ ((0 ≤ n ∧ n < (A.V.length : Int)) ∧ (0 ≤ k ∧ k < (A.V.length : Int)))) (b : Bool) : Calls Tryz.prog 26 #[.pointer (some ⟨sb, 0, none⟩), .int .i64 n, .int .i64 k, .bool b] W fun e w' => e = .returned (.int .i64 1) ∧ W = w' := by
 obtain ⟨S, h1, h2⟩ := h.srv
 exact sv_Block_no h1 (by rw [h2.len]; exact hn) b
end
theorem asV (A : Ab) (j : Nat) : asOf (A.V.map pmV) j = A.as_ j := by
 unfold asOf Ab.as_
 rw [List.getElem?_map]
 cases A.V[j]? <;> rfl
theorem offs_mem {A : Ab} {r : Nat} {p : Pf} {c : Cd} (h : c ∈ A.offs r p) : ∃ (n : Nat) (v : VM), c.peer = (n : Int) ∧ A.V[n]? = some v ∧ getL v.2.2 p = some c.a ∧ goesB A.own A.bl c.a n r (A.as_ r) = true := by
 unfold Ab.offs offV offS offL at h
 obtain ⟨h4, h5⟩ := List.mem_filter.1 h
 obtain ⟨n, m, b, g1, g2, rfl⟩ := saidS_mem h4
 rw [List.getElem?_map] at g1
 cases hv : A.V[n]? with
 | none => rw [hv] at g1; simp at g1
 | some v =>
  rw [hv] at g1; simp at g1; subst g1
  refine ⟨n, v, rfl, hv, g2, ?_⟩
  unfold goesC at h5
  rw [asV] at h5
  simpa [cdOf] using h5
theorem saidF_get {p : Pf} : ∀ {ms : List Pm} {i k : Nat} {m : Pm} {a : At}, ms[k]? = some m → getL m.R p = some a → cdOf (i + k) p m.id a ∈ saidF p i ms
 | [], _, _, _, _, h, _ => by simp at h
 | m :: ms, i, 0, m', a, h, hg => by
  simp at h; subst h
  rw [saidF, List.mem_append]
  left
  unfold saidOne
  rw [hg]
  simp
 | m :: ms, i, k + 1, m', a, h, hg => by
  simp at h
  rw [saidF, List.mem_append]
  right
  have := saidF_get (i := i + 1) h hg
  rw [show i + 1 + k = i + (k + 1) by omega] at this
  exact this
theorem offs_in {A : Ab} {r n : Nat} {p : Pf} {v : VM} {a : At} (hv : A.V[n]? = some v) (hg : getL v.2.2 p = some a) (hb : goesB A.own A.bl a n r (A.as_ r) = true) : ∃ c ∈ A.offs r p, c.peer = (n : Int) ∧ c.a = a := by
 refine ⟨cdOf n p v.2.1 a, ?_, rfl, rfl⟩
 unfold Ab.offs offV offS offL
 rw [List.mem_filter]
 constructor
 ·have := saidF_get (p := p) (ms := A.V.map pmV) (i := 0) (k := n) (m := pmV v) (a := a) (by rw [List.getElem?_map, hv]; rfl) hg
  rw [Nat.zero_add] at this
  exact this
 ·unfold goesC
  rw [asV]
  simpa [cdOf] using hb
theorem goes_iff {A : Ab} {i r : Nat} {p : Pf} : A.goes i r p = true ↔ ∃ c ∈ A.offs r p, c.peer = (i : Int) := by
 constructor
 ·intro h
  unfold Ab.goes goesS at h
  cases hg : getL (A.R i) p with
  | none => rw [hg] at h; cases h
  | some a =>
   rw [hg] at h
   unfold Ab.R at hg
   cases hv : A.V[i]? with
   | none => rw [hv] at hg; simp [getL] at hg
   | some v =>
    rw [hv] at hg
    obtain ⟨c, h1, h2, -⟩ := offs_in hv (by simpa using hg) h
    exact ⟨c, h1, h2⟩
 ·rintro ⟨c, hc, hp⟩
  obtain ⟨n, v, h1, h2, h3, h4⟩ := offs_mem hc
  have : n = i := by omega
  subst this
  unfold Ab.goes goesS
  have : A.R n = v.2.2 := by unfold Ab.R; rw [h2]; rfl
  rw [this, h3]
  exact h4
theorem best_offs (A : Ab) (r : Nat) (p : Pf) : A.best r p = pickB (A.offs r p) := rfl
structure ToldOf (A : Ab) (r : Nat) (p : Pf) (L : List BE) : Prop where
 perm : (L.map beC).Perm ((A.offs r p).map fun c => (c.peer, c.a))
 net : ∀ x ∈ L, x.p = p
theorem ToldOf.of {A : Ab} {r : Nat} {p : Pf} {L : List BE} (h : ToldOf A r p L) {x : BE} (hx : x ∈ L) : ∃ c ∈ A.offs r p, c.peer = x.peer ∧ c.a = x.a := by
 have := h.perm.mem_iff.1 (List.mem_map.2 ⟨x, hx, rfl⟩)
 obtain ⟨c, hc, e⟩ := List.mem_map.1 this
 injection e with e1 e2
 exact ⟨c, hc, e1, e2⟩
theorem ToldOf.all {A : Ab} {r : Nat} {p : Pf} {L : List BE} (h : ToldOf A r p L) {c : Cd} (hc : c ∈ A.offs r p) : ∃ x ∈ L, x.peer = c.peer ∧ x.a = c.a := by
 have := h.perm.mem_iff.2 (List.mem_map.2 ⟨c, hc, rfl⟩)
 obtain ⟨x, hx, e⟩ := List.mem_map.1 this
 injection e with e1 e2
 exact ⟨x, hx, e1, e2⟩
theorem ToldOf.none {A : Ab} {r : Nat} {p : Pf} {L : List BE} (h : ToldOf A r p L) : A.best r p = .none ↔ L = [] := by
 rw [best_offs, pickB_none]
 have := h.perm.length_eq
 rw [List.length_map, List.length_map] at this
 constructor
 ·intro e; rw [e] at this; exact List.length_eq_zero_iff.1 this
 ·intro e; rw [e] at this; exact List.length_eq_zero_iff.1 this.symm
def blocks (A : Ab) (r : Nat) (L : List BE) : Ab := L.foldl (fun A x => A.block x.peer.toNat r true) A
open Go.RowKit
section
variable {w W : World} {rho : Nat → Role} {sb fb : Nat} {ls : List Pl} {A : Ab} {S : Sv}
end
open Go.RowKit
def mayN (L : List Nat) : Nat := L.foldl (fun m n => m ||| 2 ^ n) 0
theorem mayN_snoc (L : List Nat) (n : Nat) : mayN (L ++ [n]) = mayN L ||| 2 ^ n := by unfold mayN; rw [List.foldl_append]; rfl
theorem may_fold (L : List Nat) : ∀ m i : Nat, (L.foldl (fun m n => m ||| 2 ^ n) m).testBit i = (m.testBit i || decide (i ∈ L)) := by
 induction L with
 | nil => intro m i; simp
 | cons n L ih =>
  intro m i
  rw [List.foldl_cons, ih, Nat.testBit_or, Nat.testBit_two_pow]
  by_cases h : n = i
  ·subst h; simp
  ·have h2 : ¬ i = n := fun e => h e.symm
   simp [h, h2]
theorem mayN_bit (L : List Nat) (i : Nat) : (mayN L).testBit i = decide (i ∈ L) := by
 unfold mayN
 rw [may_fold]; simp
theorem mayN_lt {L : List Nat} {k : Nat} (h : ∀ n ∈ L, n < k) : mayN L < 2 ^ k := by
 refine Nat.lt_pow_two_of_testBit _ fun i hi => ?_
 rw [mayN_bit]
 simp only [decide_eq_false_iff_not]
 intro hm
 have := h i hm
 omega
theorem bit_pow (n : Nat) : (2 : Int) ^ n = ((2 ^ n : Nat) : Int) := by simp
structure Ky where
 from_ : Int
 best : Int
 may : Int
deriving DecidableEq, Inhabited
abbrev kyC (k : Ky) : Array Value := #[.int .i64 k.from_, .int .i64 k.best, .int .i64 k.may]
abbrev kyV (k : Ky) : Value := .agg (kyC k)
def ky0 : Ky := ⟨0, 0, 0⟩
def Ab.may (A : Ab) (i : Nat) (p : Pf) : Nat := mayN ((A.offs i p).map (·.peer.toNat))
def Ab.key (A : Ab) (i : Nat) (p : Pf) : Option Ky := (A.best i p).map fun b => ⟨i, b.1, A.may i p⟩
def Ab.keyI (A : Ab) (n : Int) (p : Pf) : Option Ky := if 0 ≤ n ∧ n < (A.V.length : Int) then A.key n.toNat p else none
theorem keyI_at (A : Ab) {i : Nat} (hi : i < A.V.length) (p : Pf) : A.keyI i p = A.key i p := by
 unfold Ab.keyI
 rw [if_pos (by omega)]; simp
theorem keyI_no (A : Ab) {n : Int} (hn : ¬ (0 ≤ n ∧ n < (A.V.length : Int))) (p : Pf) : A.keyI n p = none := if_neg hn
theorem offs_small {A : Ab} (hf : A.V.length ≤ 16) {i : Nat} {p : Pf} {c : Cd} (hc : c ∈ A.offs i p) : ∃ n : Nat, c.peer = (n : Int) ∧ n < A.V.length ∧ n < 16 := by
 obtain ⟨n, v, h1, h2, -⟩ := offs_mem hc
 have := (List.getElem?_eq_some_iff.1 h2).1
 exact ⟨n, h1, this, by omega⟩
theorem may_bit {A : Ab} (hf : A.V.length ≤ 16) (i : Nat) (p : Pf) (n : Nat) : (A.may i p).testBit n = (decide (n < A.V.length) && A.goes n i p) := by
 unfold Ab.may
 rw [mayN_bit, Bool.eq_iff_iff]
 simp only [decide_eq_true_eq, Bool.and_eq_true]
 constructor
 ·intro h
  obtain ⟨c, hc, e⟩ := List.mem_map.1 h
  obtain ⟨m, h1, h2, -⟩ := offs_small hf hc
  rw [h1, Int.toNat_natCast] at e
  subst e
  exact ⟨h2, goes_iff.2 ⟨c, hc, h1⟩⟩
 ·rintro ⟨-, h⟩
  obtain ⟨c, hc, e⟩ := goes_iff.1 h
  exact List.mem_map.2 ⟨c, hc, by rw [e, Int.toNat_natCast]⟩
theorem may_lt {A : Ab} (hf : A.V.length ≤ 16) (i : Nat) (p : Pf) : A.may i p < 65536 := by
 have := mayN_lt (L := (A.offs i p).map (·.peer.toNat)) (k := 16) fun n hn => by
  obtain ⟨c, hc, rfl⟩ := List.mem_map.1 hn
  obtain ⟨m, h1, -, h3⟩ := offs_small hf hc
  rw [h1, Int.toNat_natCast]; exact h3
 unfold Ab.may
 omega
theorem mayN_perm {L M : List Nat} (h : L.Perm M) : mayN L = mayN M := by
 apply Nat.eq_of_testBit_eq
 intro i
 rw [mayN_bit, mayN_bit]
 exact decide_eq_decide.2 h.mem_iff
open Go.RowKit
def knV (l : List (Pf × BE)) (p : Pf) : Option (Int × At) := (getL l p).map fun x => (x.peer, x.a)
structure KnT (l : List (Pf × BE)) : Prop where
 apart : KeysApart l
 net : ∀ x ∈ l, x.2.p = x.1
 rgt : ∀ x ∈ l, RgtP x.1
def KnOk (A : Ab) (i : Nat) (l : List (Pf × BE)) : Prop := A.th i = true → ∀ p, A.nw i p = false → knV l p = A.best i p
theorem KnOk.turn {A : Ab} {i : Nat} {l : List (Pf × BE)} (h : KnOk A i l) (bl : Nat → Bool) (V : List VM) : KnOk (A.turn bl V) i l := by
 intro ht p hn
 have ht' : A.th i = true := ht
 have hn' : (A.nw i p || (A.th i && !sameB (A.best i p) (bestV A.own bl V i p))) = false := hn
 rw [ht', Bool.or_eq_false_iff] at hn'
 have h2 : sameB (A.best i p) (bestV A.own bl V i p) = true := by simpa using hn'.2
 exact (h ht' p hn'.1).trans ((sameB_iff _ _).1 h2)
theorem KnOk.join {A : Ab} {k : Nat} {l : List (Pf × BE)} (h : KnOk A k l) {i : Nat} (hk : k ≠ i) : KnOk (A.join i) k l := by
 intro ht p hn
 have ht' : setF A.th i true k = true := ht
 have hn' : setF A.nw i (fun p => A.nw i p || (A.best i p).isSome) k p = false := hn
 rw [setF_other _ hk] at ht' hn'
 exact h ht' p hn'
theorem KnOk.upd {A : Ab} {k : Nat} {l : List (Pf × BE)} (h : KnOk A k l) (i : Nat) (kind : Int) (gone nets : List Pf) (a : At) : KnOk (A.upd i kind gone nets a) k l := by
 unfold Ab.upd
 split
 ·exact h.turn _ _
 ·exact h
theorem KnOk.updI {A : Ab} {k : Nat} {l : List (Pf × BE)} (h : KnOk A k l) (n : Int) (kind : Int) (gone nets : List Pf) (a : At) : KnOk (A.updI n kind gone nets a) k l := by
 unfold Ab.updI
 split
 ·exact h.upd _ kind gone nets a
 ·exact h
theorem KnOk.block {A : Ab} {k : Nat} {l : List (Pf × BE)} (h : KnOk A k l) (i j : Nat) (b : Bool) : KnOk (A.block i j b) k l := h.turn _ _
theorem KnOk.hush {A : Ab} {k : Nat} {l : List (Pf × BE)} (h : KnOk A k l) {i : Nat} (hk : k ≠ i) : KnOk (A.hush i) k l := by
 intro ht p hn
 have hn' : setF A.nw i (fun _ => false) k p = false := hn
 rw [setF_other _ hk] at hn'
 exact h ht p hn'
theorem KnOk.new (own most : Int) (xs : List Sd) (i : Nat) : KnOk (newA own most xs) i [] := fun ht => by cases ht
def tell1 (l : List (Pf × BE)) (p : Pf) (b : Option BE) : List (Pf × BE) := match b with
 | some x => putL l p x
 | none => delL l p
theorem KnT.nil : KnT [] := ⟨List.Pairwise.nil, fun x hx => (by cases hx), fun x hx => by cases hx⟩
theorem KnT.tell1 {l : List (Pf × BE)} (h : KnT l) (p : Pf) (hp : RgtP p) (b : Option BE) (hb : ∀ x, b = some x → x.p = p) : KnT (tell1 l p b) := by
 cases b with
 | none => exact ⟨apart_del h.apart p, fun x hx => h.net x (mem_del.1 hx).1, fun x hx => h.rgt x (mem_del.1 hx).1⟩
 | some y =>
  refine ⟨apart_put h.apart p y, fun x hx => ?_, fun x hx => ?_⟩
  ·rcases mem_put hx with ⟨h1, -⟩ | rfl
   ·exact h.net x h1
   ·exact hb y rfl
  ·rcases mem_put hx with ⟨h1, -⟩ | rfl
   ·exact h.rgt x h1
   ·exact hp
theorem KnOk.told {A : Ab} {i : Nat} {l l' : List (Pf × BE)} (h : KnOk A i l) {L : List Pf} (hL : ∀ p, p ∈ L ↔ A.nw i p = true) (hk : ∀ p, knV l' p = if p ∈ L then A.best i p else knV l p) : KnOk (A.hush i) i l' := by
 intro ht p _
 show knV l' p = A.best i p
 rw [hk p]
 by_cases hp : p ∈ L
 ·rw [if_pos hp]
 ·rw [if_neg hp]
  refine h ht p ?_
  cases hn : A.nw i p with
  | false => rfl
  | true => exact absurd ((hL p).2 hn) hp
theorem KnOk.all {A : Ab} {i : Nat} {l : List (Pf × BE)} (h : KnOk A i l) (ht : A.th i = true) (hn : ∀ p, A.nw i p = false) (p : Pf) : knV l p = A.best i p := h ht p (hn p)
open Go.RowKit
abbrev beV (x : BE) : Value := .agg (rtC x.peer x.p x.v)
def mpV (b : Nat) : Value := .map (some b)
structure KnM (W : World) (rho : Nat → Role) (B g c : Nat) (T : TypeId) (bs : List Nat) (ls : List (List (Pf × BE))) (D : Nat → Prop) : Prop where
 own : W.ownsRow B T 1 (.slice (some ⟨g, 0, none⟩) bs.length c) bs.length (bs.map mpV)
 len : ls.length = bs.length
 map : ∀ (i b : Nat) l, bs[i]? = some b → ls[i]? = some l → MapT pfV beV KOk W b l ∧ KnT l
 val : On D W (fun W => ∀ l ∈ ls, ∀ x ∈ l, AvAt W x.2.a x.2.v)
 apt : (g :: bs).Nodup
 hi : ∀ k ∈ g :: bs, B ≤ k
 no : ∀ k, (k ∈ g :: bs ∨ D k) → rho k = .no ∧ k < W.heap.size
 dis : ∀ k, D k → k ∉ g :: bs
section
variable {W W1 W2 : World} {rho rho' : Nat → Role} {B g c : Nat} {T : TypeId} {bs : List Nat} {ls : List (List (Pf × BE))} {D : Nat → Prop}
theorem KnM.step (h : KnM W rho B g c T bs ls D) (st : Step rho rho' W W1) : KnM W1 rho' B g c T bs ls D := by
 have hno : ∀ k, (k ∈ g :: bs ∨ D k) → W1.heap[k]? = W.heap[k]? := fun k hk => st.block (h.no k hk).2 (h.no k hk).1
 refine ⟨own_on h.own W1 (fun k hk _ => by injection hk with hk; subst hk; exact hno _ (.inl (List.mem_cons_self ..))), h.len, fun i b l h1 h2 => ?_, ?_, h.apt, h.hi, fun k hk => ?_, h.dis⟩
 ·obtain ⟨m1, m2⟩ := h.map i b l h1 h2
  exact ⟨m1.of_block (hno b (.inl (List.mem_cons_of_mem _ (List.mem_of_getElem? h1)))), m2⟩
 ·exact h.val.kept st.kept fun k _ hD hn => hn (h.no k (.inr hD)).1
 ·exact ⟨(st.same k (h.no k hk).2).trans (h.no k hk).1, Nat.lt_of_lt_of_le (h.no k hk).2 st.kept.size⟩
theorem KnM.below (h : KnM W rho B g c T bs ls D) (hb : Below W.heap.size W W1) : KnM W1 rho B g c T bs ls D := h.step (Step.below hb)
theorem KnM.out {G : Nat → Prop} (h : KnM W rho B g c T bs ls D) (hk : Kept G W W1) (hG : ∀ k, (k ∈ g :: bs ∨ D k) → ¬ G k) : KnM W1 rho B g c T bs ls D := by
 have hno : ∀ k, (k ∈ g :: bs ∨ D k) → W1.heap[k]? = W.heap[k]? := fun k hk' => hk.block k (h.no k hk').2 (hG k hk')
 refine ⟨own_on h.own W1 (fun k hk _ => by injection hk with hk; subst hk; exact hno _ (.inl (List.mem_cons_self ..))), h.len, fun i b l h1 h2 => ?_, ?_, h.apt, h.hi, fun k hk' => ?_, h.dis⟩
 ·obtain ⟨m1, m2⟩ := h.map i b l h1 h2
  exact ⟨m1.of_block (hno b (.inl (List.mem_cons_of_mem _ (List.mem_of_getElem? h1)))), m2⟩
 ·exact h.val.kept hk fun k _ hD => hG k (.inr hD)
 ·exact ⟨(h.no k hk').1, Nat.lt_of_lt_of_le (h.no k hk').2 hk.size⟩
theorem KnM.at (h : KnM W rho B g c T bs ls D) {i : Nat} (hi : i < bs.length) : ∃ (b : Nat) (l : List (Pf × BE)), bs[i]? = some b ∧ ls[i]? = some l ∧ (W.cell? ⟨g, i, none⟩ = some (.map (some b)) ∧ W.frozen? ⟨g, i, none⟩ = false) ∧ MapT pfV beV KOk W b l ∧ KnT l ∧ b ≠ g := by
 have h1 : bs[i]? = some bs[i] := List.getElem?_eq_getElem hi
 have h2 : ls[i]? = some (ls[i]'(by rw [h.len]; exact hi)) := List.getElem?_eq_getElem _
 have hc := own_row_cell h.own rfl (j := i) (u := mpV bs[i]) (by rw [List.getElem?_map, h1]; rfl)
 refine ⟨_, _, h1, h2, ⟨hc.1, hc.2.1⟩, (h.map i _ _ h1 h2).1, (h.map i _ _ h1 h2).2, fun e => ?_⟩
 have := (List.nodup_cons.1 h.apt).1
 exact this (e ▸ List.getElem_mem hi)
theorem KnM.change (h : KnM W rho B g c T bs ls D) {i b : Nat} {l' : List (Pf × BE)} {D' : Nat → Prop} (hb : bs[i]? = some b) (hk : Kept (fun k => k = b) W W2) (hm : MapT pfV beV KOk W2 b l') (ht : KnT l')
  (hv : On D' W2 (fun W => ∀ x ∈ l', AvAt W x.2.a x.2.v)) (hD : ∀ k, D' k → rho k = .no ∧ k < W2.heap.size ∧ k ∉ g :: bs) : KnM W2 rho B g c T bs (ls.set i l') (fun k => D k ∨ D' k) := by
 have hmem : b ∈ bs := List.mem_of_getElem? hb
 have hi : i < bs.length := (List.getElem?_eq_some_iff.1 hb).1
 have gne : g ≠ b := fun e => (List.nodup_cons.1 h.apt).1 (e ▸ hmem)
 refine ⟨((own_on h.own).kept hk fun k _ e e2 => by injection e with e; exact gne (e.trans e2)).self, by simp [h.len], fun j c l hj hl => ?_, ?_, h.apt, h.hi, fun k hk' => ?_, fun k hk' => ?_⟩
 ·rw [List.getElem?_set] at hl
  by_cases e : i = j
  ·subst e
   rw [if_pos rfl, if_pos (by rw [h.len]; exact hi)] at hl
   rw [hb] at hj
   injection hj with hj; subst hj
   injection hl with hl; subst hl
   exact ⟨hm, ht⟩
  ·rw [if_neg e] at hl
   obtain ⟨m1, m2⟩ := h.map j c l hj hl
   refine ⟨m1.kept hk fun e2 => ?_, m2⟩
   subst e2
   have hnd := (List.nodup_cons.1 h.apt).2
   exact e ((List.getElem?_inj hi hnd).1 (hb.trans hj.symm))
 ·have h1 := h.val.kept hk fun k _ hDk e => h.dis k hDk (e ▸ List.mem_cons_of_mem _ hmem)
  refine ((h1.wide (G := fun k => D k ∨ D' k) fun _ h _ => .inl h).and (hv.wide fun _ h _ => .inr h)).imp fun W hW l hl x hx => ?_
  rcases List.mem_or_eq_of_mem_set hl with hl | rfl
  ·exact hW.1 l hl x hx
  ·exact hW.2 x hx
 ·rcases hk' with hk' | hk' | hk'
  ·exact ⟨(h.no k (.inl hk')).1, Nat.lt_of_lt_of_le (h.no k (.inl hk')).2 hk.size⟩
  ·exact ⟨(h.no k (.inr hk')).1, Nat.lt_of_lt_of_le (h.no k (.inr hk')).2 hk.size⟩
  ·exact ⟨(hD k hk').1, (hD k hk').2.1⟩
 ·rcases hk' with hk' | hk'
  ·exact h.dis k hk'
  ·exact (hD k hk').2.2
end
open Go.RowKit
structure MadeM (W : World) (B : Nat) (v : Value) (bs : List Nat) : Prop where
 own : W.ownsRow B 64 1 v bs.length (bs.map mpV)
 map : ∀ b ∈ bs, MapT pfV beV KOk W b ([] : List (Pf × BE)) ∧ B ≤ b ∧ v.ownBlock ≠ some b
 nd : bs.Nodup
theorem MadeM.below {W W' : World} {B : Nat} {v : Value} {bs : List Nat} (h : MadeM W B v bs) (hb : Below W.heap.size W W') : MadeM W' B v bs :=
 ⟨jQ h.own hb, fun b hm => ⟨(h.map b hm).1.below hb, (h.map b hm).2⟩, h.nd⟩
theorem MadeM.more {W W1 W2 : World} {B : Nat} {v v' : Value} {bs : List Nat} (h : MadeM W B v bs) (hB : B ≤ W.heap.size) (hb : Below W.heap.size W W1) (hm : MapT pfV beV KOk W1 W.heap.size ([] : List (Pf × BE)))
  (ho : W2.ownsRow B 64 1 v' (bs.length + 1) (bs.map mpV ++ [mpV W.heap.size])) (hk : Kept (fun b => v.ownBlock = some b) W1 W2) (hat : v'.ownBlock = v.ownBlock ∨ v'.ownBlock = some W1.heap.size) : MadeM W2 B v' (bs ++ [W.heap.size]) := by
 have ol := own_lt h.own
 have hm1 := hm.lt
 refine ⟨by simpa using ho, fun b hmem => ?_, ?_⟩
 ·rcases List.mem_append.1 hmem with hmem | hmem
  ·obtain ⟨m1, m2, m3⟩ := h.map b hmem
   have := m1.lt
   refine ⟨(m1.below hb).kept hk m3, m2, fun e => ?_⟩
   rcases hat with e2 | e2
   ·exact m3 (e2.symm.trans e)
   ·rw [e2] at e; injection e with e; have := hb.size; omega
  ·rw [List.mem_singleton] at hmem
   subst hmem
   refine ⟨hm.kept hk fun e => ?_, hB, fun e => ?_⟩
   ·have := ol _ e; omega
   ·rcases hat with e2 | e2
    ·rw [e2] at e; have := ol _ e; omega
    ·rw [e2] at e; injection e with e; omega
 ·rw [List.nodup_append]
  refine ⟨h.nd, by simp, fun a ha b hb' e => ?_⟩
  rw [List.mem_singleton] at hb'
  have := (h.map a ha).1.lt
  omega
theorem MadeM.kn {W : World} {B c : Nat} {s : Option Addr} {bs : List Nat} (h : MadeM W B (.slice s bs.length c) bs) (hn : 0 < bs.length) {rho : Nat → Role} (hr : ∀ k, B ≤ k → rho k = .no) :
  ∃ g, s = some ⟨g, 0, none⟩ ∧ KnM W rho B g c 64 bs (List.replicate bs.length []) (fun _ => False) := by
 obtain ⟨j, hj⟩ : ∃ j, bs.length = j + 1 := ⟨bs.length - 1, by omega⟩
 obtain ⟨g, c', e⟩ : ∃ g c', Value.slice s bs.length c = .slice (some ⟨g, 0, none⟩) bs.length c' := by
  have ho := h.own
  obtain ⟨_, ⟨e, _⟩ | ⟨g, cap, cur, e, _⟩⟩ := ho
  ·injection e with _ e _; omega
  ·exact ⟨g, cap, e⟩
 injection e with e1 _ e3
 subst e1
 have hrow := own_row_cell h.own rfl (j := 0) (u := mpV (bs[0]'hn)) (by rw [List.getElem?_map, List.getElem?_eq_getElem hn]; rfl)
 refine ⟨g, rfl, h.own, by simp, fun i b l hb hl => ?_, fun W' _ l hl x hx => ?_, ?_, fun k hk => ?_, fun k hk => ?_, fun k hk => hk.elim⟩
 ·rw [List.getElem?_replicate] at hl
  split at hl
  ·injection hl with hl; subst hl
   exact ⟨(h.map b (List.mem_of_getElem? hb)).1, KnT.nil⟩
  ·cases hl
 ·rw [List.mem_replicate] at hl
  rw [hl.2] at hx; cases hx
 ·rw [List.nodup_cons]
  exact ⟨fun hg => (h.map g hg).2.2 rfl, h.nd⟩
 ·rcases List.mem_cons.1 hk with rfl | hk
  ·exact hrow.2.2.1
  ·exact (h.map k hk).2.1
 ·rcases hk with hk | hk
  ·rcases List.mem_cons.1 hk with rfl | hk
   ·exact ⟨hr _ hrow.2.2.1, hrow.2.2.2⟩
   ·exact ⟨hr _ (h.map k hk).2.1, (h.map k hk).1.lt⟩
  ·exact hk.elim
open Go.RowKit
section
variable {W W1 W2 : World} {rho : Nat → Role} {B g c : Nat} {T : TypeId} {bs : List Nat} {ls : List (List (Pf × BE))} {D : Nat → Prop} {i b : Nat} {l : List (Pf × BE)} {p : Pf}
theorem KnM.bno (h : KnM W rho B g c T bs ls D) (hb : bs[i]? = some b) : rho b = .no ∧ b < W.heap.size ∧ B ≤ b :=
 ⟨(h.no b (.inl (List.mem_cons_of_mem _ (List.mem_of_getElem? hb)))).1, (h.no b (.inl (List.mem_cons_of_mem _ (List.mem_of_getElem? hb)))).2, h.hi b (List.mem_cons_of_mem _ (List.mem_of_getElem? hb))⟩
theorem KnM.valK (h : KnM W rho B g c T bs ls D) (hb : bs[i]? = some b) (hl : ls[i]? = some l) (hk : Kept (fun k => k = b) W W2) : On D W2 (fun W => ∀ x ∈ l, AvAt W x.2.a x.2.v) :=
 (h.val.kept hk fun k _ hD e => h.dis k hD (e ▸ List.mem_cons_of_mem _ (List.mem_of_getElem? hb))).imp fun _ hW x hx => hW l (List.mem_of_getElem? hl) x hx
theorem KnM.put (h : KnM W rho B g c T bs ls D) (hb : bs[i]? = some b) (hl : ls[i]? = some l) (hp : RgtP p) {y : BE} (hy : y.p = p) (b01 : Below W.heap.size W W1) (fr : Fresh W.heap.size W1 (fun W => AvAt W y.a y.v)) (hr : ∀ k, W.heap.size ≤ k → rho k = .no)
  (hk : Kept (fun k => k = b) W1 W2) (hm : MapT pfV beV KOk W2 b (putL l p y)) :
  KnM W2 rho B g c T bs (ls.set i (tell1 l p (some y))) (fun k => D k ∨ (D k ∨ (W.heap.size ≤ k ∧ k < W1.heap.size))) := by
 have hm' : MapT pfV beV KOk W2 b (tell1 l p (some y)) := hm
 have h1 := h.below b01
 have bl := (h.bno hb).2.1
 refine h1.change (D' := fun k => D k ∨ (W.heap.size ≤ k ∧ k < W1.heap.size)) hb hk hm' ((h.map i b l hb hl).2.tell1 p hp (some y) fun x hx => by injection hx with hx; rw [← hx]; exact hy) ?_ fun k hk' => ?_
 ·have v1 := (h1.valK hb hl hk).wide (G := fun k => D k ∨ (W.heap.size ≤ k ∧ k < W1.heap.size)) fun _ h _ => .inl h
  have v2 := ((fresh_hi fr).kept hk fun k _ hF e => by omega).wide (G := fun k => D k ∨ (W.heap.size ≤ k ∧ k < W1.heap.size)) fun _ h _ => .inr h
  refine (v1.and v2).imp fun _ hW x hx => ?_
  rcases mem_put hx with ⟨h2, -⟩ | rfl
  ·exact hW.1 x h2
  ·exact hW.2
 ·rcases hk' with hk' | hk'
  ·exact ⟨(h1.no k (.inr hk')).1, Nat.lt_of_lt_of_le (h1.no k (.inr hk')).2 hk.size, h.dis k hk'⟩
  ·refine ⟨hr k hk'.1, Nat.lt_of_lt_of_le hk'.2 hk.size, fun hm => ?_⟩
   have := (h.no k (.inl hm)).2
   omega
end
section
variable {w W : World} {rho : Nat → Role} {sb fb : Nat} {ls : List Pl} {A : Ab}
theorem be_at {w : World} {s : Option Addr} {n c : Nat} {xs : List BE} (h : SlAt w 13 (fun x cs => cs = beL x) (.slice s n c) xs) {i : Nat} {x : BE} (hx : xs[i]? = some x) : ∃ g o, s = some ⟨g, o, none⟩ ∧ w.rangeAt g (o + i * 13) (beL x) := by
 obtain ⟨s', c', e, h1, h2, h3⟩ := h
 injection e with e _ _
 subst e
 have hi := (List.getElem?_eq_some_iff.1 hx).1
 obtain ⟨b, off, rfl, h4⟩ := h3 (by omega)
 obtain ⟨cs, -, rfl, hc⟩ := h4 i x hx
 exact ⟨b, off, rfl, fun j v hv => hc j v hv⟩
end
open Go.RowKit
theorem or_nat (a b : Nat) (ha : a < 65536) (hb : b < 65536) : bits .or .i64 (a : Int) (b : Int) = ((a ||| b : Nat) : Int) := by
 show IntKind.i64.wrap ((BitVec.ofInt 64 (a : Int) ||| BitVec.ofInt 64 (b : Int)).toNat : Int) = _
 rw [BitVec.toNat_or, ofInt64_nat, ofInt64_nat]
 have e1 : ((a : Int) % 18446744073709551616).toNat = a := by omega
 have e2 : ((b : Int) % 18446744073709551616).toNat = b := by omega
 rw [e1, e2]
 have : a ||| b < 2 ^ 16 := Nat.or_lt_two_pow (by omega) (by omega)
 rw [IntWalk.i64_in _ (by omega)]
theorem pow_le16 {n : Nat} (h : n < 16) : 2 ^ n ≤ 32768 := Nat.pow_le_pow_right (n := 2) (by decide) (show n ≤ 15 by omega)
theorem sz_key : (Tryz.prog.info? 102).map (·.size) = some 3 := by kernel_rfl
theorem ky_one (k : Ky) : (kyC k).all (·.oneCell') = true := by simp [Value.oneCell']
theorem fk_Can (a b : Int) (m : Nat) (n : Int) (w : World) : Calls Tryz.prog 54 #[.agg #[.int .i64 a, .int .i64 b, .int .i64 m], .int .i64 n] w fun e w' => e = .returned (.bool (decide (0 ≤ n ∧ n < 16) && m.testBit n.toNat)) ∧ Below w.heap.size w w' := by
 by_cases h0 : 0 ≤ n
 ·obtain ⟨k, rfl⟩ := Int.eq_ofNat_of_zero_le h0
  have d0 : decide ((k : Int) ≥ 0) = true := by simp
  by_cases h1 : k < 16
  ·have n1 : (k : Int) < 16 := by omega
   have e : Hid ((bits .and .i64 ((m : Int) / 2 ^ k) 1 == 1) = (decide ((0 : Int) ≤ (k : Int) ∧ (k : Int) < 16) && m.testBit (k : Int).toNat)) := jh (by
    have h2 := and_low_i64 ((m : Int) / 2 ^ k) 1 (by decide)
    rw [show bits .and .i64 ((m : Int) / 2 ^ k) 1 = _ from h2, Int.toNat_natCast, bit_pow, ← Int.natCast_ediv, Nat.testBit_eq_decide_div_mod_eq]
    rw [show decide ((0 : Int) ≤ (k : Int) ∧ (k : Int) < 16) = true from decide_eq_true ⟨by omega, by omega⟩, Bool.true_and]
    rw [Bool.eq_iff_iff, beq_iff_eq, decide_eq_true_eq]
    omega)
   clear h1
   go_enter Tryz.func54, Tryz.ntmps54
   go_wp2_with fail
   go_ret
   exact ⟨jL e.out, (Below.refl _ _).alloc (Nat.le_refl _) _⟩
  ·have d1 : decide ((k : Int) < 16) = false := by simp; omega
   have d2 : decide (k < 16) = false := by simp; omega
   have e : Hid (false = (decide ((0 : Int) ≤ (k : Int) ∧ (k : Int) < 16) && m.testBit (k : Int).toNat)) := jh (by
    rw [show decide ((0 : Int) ≤ (k : Int) ∧ (k : Int) < 16) = false from decide_eq_false (by omega)]; rfl)
   clear h1
   go_enter Tryz.func54, Tryz.ntmps54
   go_wp2_with fail
   go_ret
   exact ⟨jL e.out, (Below.refl _ _).alloc (Nat.le_refl _) _⟩
 ·have d0 : decide (n ≥ 0) = false := by simpa using h0
  have e : Hid (false = (decide (0 ≤ n ∧ n < 16) && m.testBit n.toNat)) := jh (by
   rw [show decide (0 ≤ n ∧ n < 16) = false from decide_eq_false (fun h => h0 h.1)]; rfl)
  clear h0
  go_enter Tryz.func54, Tryz.ntmps54
  go_wp2_with fail
  go_ret
  exact ⟨jL e.out, (Below.refl _ _).alloc (Nat.le_refl _) _⟩
theorem results_Of (tmps : Array Value) (W : World) (b : Nat) (C : Array Value) (hC : C.size = 3) (c : Bool) (h4 : tmps.getD 6 undef = .pointer (some ⟨b, 0, none⟩)) (h5 : tmps.getD 7 undef = .bool c) (hb : W.heap[b]? = some (.cells C 102 (0, 0))) :
  (results Tryz.f48 tmps).run Tryz.prog W = .ok (.tuple #[.agg C, .bool c]) W := by
 have hl := run_loadVar_row (P := Tryz.prog) W b 102 102 C (0, 0) _ hb Tryz.underlying102 rfl (by rw [hC]; kernel_rfl)
 unfold results
 rw [Tryz.results48]
 simp [h4, h5, hl, asAddr, -Array.getD_eq_getD_getElem?]
def OfPostK (k : Option Ky) (W : World) (e : Ending) (w' : World) : Prop := e = .returned (.tuple #[kyV (k.getD ky0), .bool k.isSome]) ∧ Below W.heap.size W w'
set_option maxHeartbeats 1600000 in
set_option maxRecDepth 100000 in
theorem of_none (sv : Value) (n : Int) (p : Pf) (W : World) (OF : ∀ w', Below W.heap.size W w' → Calls Tryz.prog 30 #[sv, .int .i64 n, .agg #[.int .u32 p.1, .int .i64 p.2]] w' fun e w2 => e = .returned (.slice none 0 0) ∧ Below w'.heap.size w' w2) :
  Calls Tryz.prog 48 #[sv, .int .i64 n, .agg #[.int .u32 p.1, .int .i64 p.2]] W (OfPostK none W) := by
 have OF := jh OF
 go_enter Tryz.func48, Tryz.ntmps48
 go_upto_region 1 with (fail)
 obtain ⟨W0, hW0, q0, q1, hB⟩ := boxTwo W #[.int .u32 p.1, .int .i64 p.2] 53 (kyC ky0) 102
 have p0 : W0.cell? ⟨W.heap.size, 0, none⟩ = some (.int .u32 p.1) := jB q0 0
 have p1 : W0.cell? ⟨W.heap.size, 1, none⟩ = some (.int .i64 p.2) := jB q0 1
 have Q1 := jh q1
 have B0 := jh hB
 rw [show (W.alloc (.cells #[.int .u32 p.1, .int .i64 p.2] 53)).alloc (.cells #[.int .i64 0, .int .i64 0, .int .i64 0] 102) = W0 from hW0.symm]
 clear hW0 q0 q1 hB
 go_wp2_with fail
 refine (OF.out W0 B0.out).mono ?_
 rintro e w1 ⟨rfl, hb⟩
 have Q2 := jh ((hb.block _ (jE Q1.out)).trans Q1.out)
 have B1 := jh (jC B0.out hb)
 clear hb p0 p1 Q1 OF
 go_wp2_with ((with_reducible refine jM (X := .store 102 (.tmp 6) (.tmp 19)) ?_ ?_); (· rfl))
 unfold Halt
 refine st_row rfl 102 _ _ rfl (W.heap.size + 1) rfl 102 (kyC ky0) (kyC ky0) rfl Q2.out sz_key rfl (ky_one _) ?_
 have Q3 := jh (setRow_heap _ _ _ (kyC ky0) _ _ Q2.out)
 have B3 := jh (B1.out.trans ((kept_setRow (F := fun k => k = W.heap.size + 1) (w := w1) (W.heap.size + 1) (kyC ky0) rfl).below B1.out.size (by rintro k rfl; omega)))
 generalize w1.setRow (W.heap.size + 1) (kyC ky0) = w2 at Q3 B3 ⊢
 go_wp2_with fail
 exact bodyPost_ret (results_Of _ _ (W.heap.size + 1) _ rfl _ rfl rfl Q3.out) rfl ⟨rfl, B3.out⟩
section
variable {w W : World} {rho : Nat → Role} {sb fb : Nat} {ls : List Pl} {A : Ab}
theorem fc_Of_no (h : LSv w W rho sb fb ls A) {n : Int} (hn : ¬ (0 ≤ n ∧ n < (A.V.length : Int))) (p : Pf) : Calls Tryz.prog 48 #[.pointer (some ⟨sb, 0, none⟩), .int .i64 n, .agg #[.int .u32 p.1, .int .i64 p.2]] W (OfPostK none W) := of_none _ n p W fun _ hb => ls_Offers_no (h.below hb) hn p
set_option maxHeartbeats 3200000 in
set_option maxRecDepth 100000 in
theorem fc_Of (h : LSv w W rho sb fb ls A) {i : Nat} (hi : i < A.V.length) (p : Pf) (hp : KOk p) : Calls Tryz.prog 48 #[.pointer (some ⟨sb, 0, none⟩), .int .i64 i, .agg #[.int .u32 p.1, .int .i64 p.2]] W (OfPostK (A.key i p) W) := by
 have OF := jh (fun w' (hb : Below W.heap.size W w') => ls_Offers (h.below hb) hi p hp)
 have FEW := jh h.few
 clear h hp
 go_enter Tryz.func48, Tryz.ntmps48
 go_upto_region 1 with (fail)
 obtain ⟨W0, hW0, q0, q1, hB⟩ := boxTwo W #[.int .u32 p.1, .int .i64 p.2] 53 (kyC ky0) 102
 have p0 : W0.cell? ⟨W.heap.size, 0, none⟩ = some (.int .u32 p.1) := jB q0 0
 have p1 : W0.cell? ⟨W.heap.size, 1, none⟩ = some (.int .i64 p.2) := jB q0 1
 have Q1 := jh q1
 have B0 := jh hB
 rw [show (W.alloc (.cells #[.int .u32 p.1, .int .i64 p.2] 53)).alloc (.cells #[.int .i64 0, .int .i64 0, .int .i64 0] 102) = W0 from hW0.symm]
 clear hW0 q0 q1 hB
 go_wp2_with fail
 refine (OF.out W0 B0.out).mono ?_
 rintro e w1 ⟨s, c, L, AO, rfl, ob, pm, net, fst, hb⟩
 have Q2 := jh ((hb.block _ (jE Q1.out)).trans Q1.out)
 have B1 := jh (jC B0.out hb)
 have TO : Hid (ToldOf A i p L) := jh ⟨pm, net⟩
 have SM : Hid (∀ x ∈ L, ∃ n : Nat, x.peer = (n : Int) ∧ n < 16) := jh (fun x hx => by
  obtain ⟨c, hc, e, -⟩ := TO.out.of hx
  obtain ⟨n, h1, -, h3⟩ := offs_small FEW.out hc
  exact ⟨n, e.symm.trans h1, h3⟩)
 have MY : Hid (A.may i p = mayN (L.map (·.peer.toNat))) := jh (by
  unfold Ab.may
  have h1 := pm.map (fun y : Int × At => y.1.toNat)
  rw [List.map_map, List.map_map] at h1
  exact (mayN_perm h1).symm)
 have Fss := jh fst
 have SB := jh (own_slat beL_len ob.own)
 have lbl : L.length ≤ 9223372036854775807 := by
  obtain ⟨sa, cap, -, g1, g2, -⟩ := SB.out
  exact Nat.le_trans g1 g2
 clear hb p0 p1 Q1 OF ob pm net fst
 rcases hL : L with _ | ⟨x, L'⟩
 ·subst hL
  have KE : Hid (A.key i p = none) := jh (by unfold Ab.key; rw [TO.out.none.2 rfl]; rfl)
  clear SM MY Fss SB TO
  go_wp2_with ((with_reducible refine jM (X := .store 102 (.tmp 6) (.tmp 19)) ?_ ?_); (· rfl))
  unfold Halt
  refine st_row rfl 102 _ _ rfl (W.heap.size + 1) rfl 102 (kyC ky0) (kyC ky0) rfl Q2.out sz_key rfl (ky_one _) ?_
  have Q3 := jh (setRow_heap _ _ _ (kyC ky0) _ _ Q2.out)
  have B3 := jh (B1.out.trans ((kept_setRow (F := fun k => k = W.heap.size + 1) (w := w1) (W.heap.size + 1) (kyC ky0) rfl).below B1.out.size (by rintro k rfl; omega)))
  generalize w1.setRow (W.heap.size + 1) (kyC ky0) = w2 at Q3 B3 ⊢
  go_wp2_with fail
  exact bodyPost_ret (results_Of _ _ (W.heap.size + 1) _ rfl _ rfl rfl Q3.out) rfl ⟨by rw [KE.out]; rfl, B3.out⟩
 ·have hx0 : L[0]? = some x := by rw [hL]; rfl
  have n0 : ((L.length : Int) == 0) = false := by rw [hL]; simp; omega
  have L0 : Hid (0 < L.length) := jh (by rw [hL]; simp)
  have LL : Hid (L = x :: L') := jh hL
  have BE : Hid (A.best i p = some (x.peer, x.a)) := jh (Fss.out x hx0)
  obtain ⟨n, hn, hn16⟩ := SM.out x (List.mem_of_getElem? hx0)
  have HN := jh hn
  obtain ⟨g, o, rfl, hrg⟩ := be_at SB.out hx0
  have c0 : w1.cell? ⟨g, o, none⟩ = some (.int .i64 (n : Int)) := by have := hrg 0 _ rfl; rw [Nat.zero_mul, Nat.add_zero] at this; rw [← hn]; exact this
  have i0 : (0 : Int) < (L.length : Int) := by have := L0.out; omega
  rw [← hL]
  clear hL hx0 hrg hn hn16
  go_upto_region 5 with (fail)
  obtain ⟨w2, hw2, q2, hb2, -⟩ := box1 w1 (kyC ⟨i, n, 0⟩) 102
  rw [show w1.alloc (.cells #[.int .i64 (i : Int), .int .i64 (n : Int), .int .i64 0] 102) = w2 from hw2.symm]
  obtain ⟨kb, hkb⟩ : ∃ kb, kb = w1.heap.size := ⟨_, rfl⟩
  rw [← hkb] at q2 ⊢
  have HKB := jh hkb
  have B12 := jh hb2
  have Q22 := jh ((hb2.block _ (jE Q2.out)).trans Q2.out)
  have LKB : Hid (W.heap.size + 1 < kb) := jh (by rw [hkb]; exact jE Q2.out)
  have KQ : Hid (w2.heap[kb]? = some (.cells (kyC ⟨i, n, (mayN ((L.take 0).map (·.peer.toNat)) : Nat)⟩) 102 (0, 0))) := jh q2
  have KK : Hid (Kept (fun k => k = kb) w2 w2) := jh (Kept.refl _ _)
  have B2 := jh (jC B1.out hb2)
  clear hw2 q2 hb2 Q2 B1 c0 i0 n0 hkb
  go_wp2_with fail
  go_loopw [28] (fun t28 wr => ∃ z : Nat, z ≤ L.length ∧ t28 = .int .i64 z ∧ Hid (wr.heap[kb]? = some (.cells (kyC ⟨i, n, (mayN ((L.take z).map (·.peer.toNat)) : Nat)⟩) 102 (0, 0))) ∧ Hid (Kept (fun k => k = kb) w2 wr)) (fun t28 _ => L.length - (intOf t28).toNat)
  case atStart => exact ⟨0, by omega, rfl, KQ, KK⟩
  case round =>
   clear KQ KK
   obtain ⟨z, hz, rfl, KQ, KK⟩ := hrel
   by_cases hzl : z < L.length
   ·obtain ⟨y, hy⟩ : ∃ y, L[z]? = some y := ⟨_, List.getElem?_eq_getElem hzl⟩
    obtain ⟨m, hm, hm16⟩ := SM.out y (List.mem_of_getElem? hy)
    obtain ⟨g2, o2, hgo, hrg⟩ := be_at SB.out hy
    injection hgo with hgo
    injection hgo with e1 e2 _
    subst e1; subst e2
    have RG : Hid (wr.rangeAt g (o + z * 13) (beL y)) := jh (fun j v hv => KK.out.cell (jA (hrg j v hv) B12.out) (fun e => by
     have h1 := jH (hrg j v hv)
     have h2 := HKB.out
     simp only at e h1
     omega))
    obtain ⟨M, hM⟩ : ∃ M, mayN ((L.take z).map (·.peer.toNat)) = M := ⟨_, rfl⟩
    have MN : Hid (mayN ((L.take (z + 1)).map (·.peer.toNat)) = M ||| 2 ^ m) := jh (by
     rw [take_snoc hy, List.map_append, List.map_cons, List.map_nil, mayN_snoc, hM, hm, Int.toNat_natCast])
    have M16 : M < 65536 := by
     rw [← hM]
     have := mayN_lt (L := (L.take z).map (·.peer.toNat)) (k := 16) fun q hq => by
      obtain ⟨x', hx', rfl⟩ := List.mem_map.1 hq
      obtain ⟨q2, h1, h2⟩ := SM.out x' (List.mem_of_mem_take hx')
      rw [h1, Int.toNat_natCast]; exact h2
     omega
    rw [hM] at KQ
    have z0 : (0 : Int) ≤ (z : Int) := by omega
    have z1 : (z : Int) < (L.length : Int) := by omega
    have P16 := jh (pow_le16 hm16)
    obtain ⟨P, hP⟩ : ∃ P, 2 ^ m = P := ⟨_, rfl⟩
    have OR0 := or_nat M P M16 (by have := P16.out; omega)
    obtain ⟨R, hR⟩ : ∃ R, M ||| P = R := ⟨_, rfl⟩
    have OR : bits .or .i64 (M : Int) (P : Int) = (R : Int) := by rw [← hR]; exact OR0
    have sw : IntKind.i64.wrap ((2 : Int) ^ m) = (P : Int) := by rw [bit_pow, hP, IntWalk.i64_in _ (by have := P16.out; omega)]
    rw [hP, hR] at MN
    clear OR0 hP hR P16
    have HM := jh hm
    clear hy hrg hM
    go_wp2_with ((with_reducible refine jM (X := .load 61 (.tmp 30)) ?_ ?_); (· rfl))
    unfold Halt
    refine ldm_at (by rfl) 61 (.tmp 30) rfl g (o + z * 13) rfl (beL y) _ RG.out Tryz.underlying61 rfl sz_rt ?_
    go_wp2_with ((with_reducible refine jM (X := .store 61 (.tmp 11) (.tmp 31)) ?_ ?_); (· rfl))
    unfold Halt
    refine st_fresh rfl 61 (.tmp 11) (.tmp 31) rfl rfl _ (rtC y.peer y.p y.v) rfl sz_rt rfl (rt_one _ _ _) ?_
    obtain ⟨w3, hw3, q3, hb3, -⟩ := box1 wr (rtC y.peer y.p y.v) 61
    rw [← hw3]
    obtain ⟨xb, hxb⟩ : ∃ xb, xb = wr.heap.size := ⟨_, rfl⟩
    rw [← hxb] at q3 ⊢
    have c0 : w3.cell? ⟨xb, 0, none⟩ = some (.int .i64 (m : Int)) := by rw [← hm]; exact jB q3 0
    have Q3 := jh ((hb3.block _ (jE KQ.out)).trans KQ.out)
    have c2 : w3.cell? ⟨kb, 2, none⟩ = some (.int .i64 (M : Int)) := jB Q3.out 2
    have f2 : w3.frozen? ⟨kb, 2, none⟩ = false := jN Q3.out 2
    have K3 := jh (KK.out.trans (Kept.of_below hb3))
    have ZL := jh hzl
    have m0 : (0 : Int) ≤ (m : Int) := by omega
    have m1 : (m : Int) < 64 := by omega
    clear hw3 q3 hb3 hxb KK KQ RG hm
    simp only [Act.put]
    go_upto_region 8 with (fail)
    refine region_tailR 7 (by kernel_rfl) (by kernel_rfl) ?_
    simp only [List.take_succ_cons, List.take_zero, List.drop_succ_cons, List.drop_zero]
    repeat still_step
    refine wpStill_nil ?_
    have KQ4 : Hid ((w3.drew.setCell ⟨kb, 2, none⟩ (.int .i64 (R : Int))).heap[kb]? = some (.cells (kyC ⟨i, n, (mayN ((L.take (z + 1)).map (·.peer.toNat)) : Nat)⟩) 102 (0, 0))) := jh (by
     rw [MN.out]
     exact jO (W := w3.drew) (show w3.drew.heap[kb]? = _ from Q3.out) 2 (.int .i64 (R : Int)))
    have K4 : Hid (Kept (fun k => k = kb) w2 (w3.drew.setCell ⟨kb, 2, none⟩ (.int .i64 (R : Int)))) := jh (K3.out.drew.trans (Kept.setCell _ _ rfl))
    clear Q3 K3 c0 MN
    go_wp2_with fail
    exact ⟨⟨z + 1, by have := ZL.out; omega, by go_num, KQ4, K4⟩, by have := ZL.out; simp [intOf]; omega⟩
   ·obtain rfl : z = L.length := by omega
    rw [List.take_length, ← MY.out] at KQ
    have KE : Hid (A.key i p = some ⟨i, n, (A.may i p : Nat)⟩) := jh (by unfold Ab.key; rw [BE.out, HN.out]; rfl)
    have Q5 := jh ((KK.out.block _ (jE Q22.out) (fun e => by have := LKB.out; omega)).trans Q22.out)
    have B5 := jh (B2.out.trans (KK.out.below B2.out.size (by rintro k rfl; have := LKB.out; omega)))
    clear hz hzl KK Q22 B2
    go_wp2_with ((with_reducible refine jM (X := .load 102 (.tmp 9)) ?_ ?_); (· rfl))
    unfold Halt
    refine ld_at (by rfl) 102 (.tmp 9) rfl kb rfl 102 (kyC ⟨i, n, (A.may i p : Nat)⟩) (0, 0) _ KQ.out Tryz.underlying102 rfl sz_key ?_
    go_wp2_with ((with_reducible refine jM (X := .store 102 (.tmp 6) (.tmp 40)) ?_ ?_); (· rfl))
    unfold Halt
    refine st_row rfl 102 _ _ rfl (W.heap.size + 1) rfl 102 (kyC ky0) (kyC ⟨i, n, (A.may i p : Nat)⟩) rfl Q5.out sz_key rfl (ky_one _) ?_
    have Q6 := jh (setRow_heap _ _ _ (kyC ⟨i, n, (A.may i p : Nat)⟩) _ _ Q5.out)
    have B6 := jh (B5.out.trans ((kept_setRow (F := fun k => k = W.heap.size + 1) (w := wr) (W.heap.size + 1) (kyC ⟨i, n, (A.may i p : Nat)⟩) rfl).below B5.out.size (by rintro k rfl; omega)))
    generalize wr.setRow (W.heap.size + 1) (kyC ⟨i, n, (A.may i p : Nat)⟩) = w6 at Q6 B6 ⊢
    go_wp2_with fail
    exact bodyPost_ret (results_Of _ _ (W.heap.size + 1) _ rfl _ rfl rfl Q6.out) rfl ⟨by rw [KE.out]; rfl, B6.out⟩
end
open Go.RowKit
def kcmp (k l : Ky) : Int := or3 (cmpIc k.from_ l.from_) (cmpIc k.best l.best) (cmpIc k.may l.may)
def klt (k l : Ky) : Prop := k.from_ < l.from_ ∨ k.from_ = l.from_ ∧ (k.best < l.best ∨ k.best = l.best ∧ k.may < l.may)
theorem kcmp_lt {k l : Ky} : kcmp k l < 0 ↔ klt k l := by
 unfold kcmp klt or3 cmpIc
 rcases Int.lt_trichotomy k.from_ l.from_ with h1 | h1 | h1 <;> rcases Int.lt_trichotomy k.best l.best with h2 | h2 | h2 <;> rcases Int.lt_trichotomy k.may l.may with h3 | h3 | h3 <;>
  (repeat' split) <;> omega
theorem klt_irrefl (k : Ky) : ¬ klt k k := by unfold klt; omega
theorem klt_trans {x y z : Ky} (h1 : klt x y) (h2 : klt y z) : klt x z := by unfold klt at *; omega
theorem klt_tri (x y : Ky) : klt x y ∨ x = y ∨ klt y x := by
 obtain ⟨a, b, c⟩ := x
 obtain ⟨d, e, f⟩ := y
 unfold klt
 simp only [Ky.mk.injEq]
 omega
set_option maxHeartbeats 3200000 in
set_option maxRecDepth 100000 in
theorem fk_Cmp (k l : Ky) (w : World) : Calls Tryz.prog 50 #[kyV k, kyV l] w fun e w' => e = .returned (.int .i64 (kcmp k l)) ∧ Dr w w' := by
 go_enter Tryz.func50, Tryz.ntmps50
 go_upto_region 1 with (fail)
 obtain ⟨W0, hW0, q0, q1, -⟩ := boxTwo w (kyC k) 102 (kyC l) 102
 have hB : Dr w W0 := by rw [hW0]; exact ((Dr.refl _).alloc _).alloc _
 have c0 : W0.cell? ⟨w.heap.size, 0, none⟩ = some (.int .i64 k.from_) := jB q0 0
 have c1 : W0.cell? ⟨w.heap.size, 1, none⟩ = some (.int .i64 k.best) := jB q0 1
 have c2 : W0.cell? ⟨w.heap.size, 2, none⟩ = some (.int .i64 k.may) := jB q0 2
 have d0 : W0.cell? ⟨w.heap.size + 1, 0, none⟩ = some (.int .i64 l.from_) := jB q1 0
 have d1 : W0.cell? ⟨w.heap.size + 1, 1, none⟩ = some (.int .i64 l.best) := jB q1 1
 have d2 : W0.cell? ⟨w.heap.size + 1, 2, none⟩ = some (.int .i64 l.may) := jB q1 2
 rw [show (w.alloc (.cells #[.int .i64 k.from_, .int .i64 k.best, .int .i64 k.may] 102)).alloc (.cells #[.int .i64 l.from_, .int .i64 l.best, .int .i64 l.may] 102) = W0 from hW0.symm]
 clear hW0 q0 q1
 refine wp_region_held_drew (S := fun w' => Dr W0 w') (by kernel_rfl) ?_ (fun hHeld => ?_)
 ·exact Dr.drew _
 (refine qy 0 ?_ ?_ ?_ hHeld ?_; rotate_left 1; (· rfl); (· intro w' hSw; (try clear hHeld); go_simp; try with_reducible rfl)); try simp only [jz]
 (refine qy 1 ?_ ?_ ?_ hHeld ?_; rotate_left 1; (· rfl); (· intro w' hSw; have c0 := jA c0 hSw.below; have c1 := jA c1 hSw.below; have c2 := jA c2 hSw.below; have d0 := jA d0 hSw.below; have d1 := jA d1 hSw.below; have d2 := jA d2 hSw.below; (try clear hHeld); go_simp; try with_reducible rfl)); try simp only [jz]
 (refine qy 2 ?_ ?_ ?_ hHeld ?_; rotate_left 1; (· rfl); (· intro w' hSw; (try clear hHeld); go_simp; try with_reducible rfl)); try simp only [jz]
 (refine qy 3 ?_ ?_ ?_ hHeld ?_; rotate_left 1; (· rfl); (· intro w' hSw; have c0 := jA c0 hSw.below; have c1 := jA c1 hSw.below; have c2 := jA c2 hSw.below; have d0 := jA d0 hSw.below; have d1 := jA d1 hSw.below; have d2 := jA d2 hSw.below; (try clear hHeld); go_simp; try with_reducible rfl)); try simp only [jz]
 (refine qy 5 ?_ ?_ ?_ hHeld ?_; rotate_left 1; (· rfl); (· intro w' hSw; (try clear hHeld); go_simp; try with_reducible rfl)); try simp only [jz]
 (refine qy 6 ?_ ?_ ?_ hHeld ?_; rotate_left 1; (· rfl); (· intro w' hSw; have c0 := jA c0 hSw.below; have c1 := jA c1 hSw.below; have c2 := jA c2 hSw.below; have d0 := jA d0 hSw.below; have d1 := jA d1 hSw.below; have d2 := jA d2 hSw.below; (try clear hHeld); go_simp; try with_reducible rfl)); try simp only [jz]
 (refine qy 7 ?_ ?_ ?_ hHeld ?_; rotate_left 1; (· rfl); (· intro w' hSw; (try clear hHeld); go_simp; try with_reducible rfl)); try simp only [jz]
 (refine qy 8 ?_ ?_ ?_ hHeld ?_; rotate_left 1; (· rfl); (· intro w' hSw; have c0 := jA c0 hSw.below; have c1 := jA c1 hSw.below; have c2 := jA c2 hSw.below; have d0 := jA d0 hSw.below; have d1 := jA d1 hSw.below; have d2 := jA d2 hSw.below; (try clear hHeld); go_simp; try with_reducible rfl)); try simp only [jz]
 (refine qy 10 ?_ ?_ ?_ hHeld ?_; rotate_left 1; (· rfl); (· intro w' hSw; (try clear hHeld); go_simp; try with_reducible rfl)); try simp only [jz]
 (refine qy 11 ?_ ?_ ?_ hHeld ?_; rotate_left 1; (· rfl); (· intro w' hSw; have c0 := jA c0 hSw.below; have c1 := jA c1 hSw.below; have c2 := jA c2 hSw.below; have d0 := jA d0 hSw.below; have d1 := jA d1 hSw.below; have d2 := jA d2 hSw.below; (try clear hHeld); go_simp; try with_reducible rfl)); try simp only [jz]
 (refine qy 12 ?_ ?_ ?_ hHeld ?_; rotate_left 1; (· rfl); (· intro w' hSw; (try clear hHeld); go_simp; try with_reducible rfl)); try simp only [jz]
 (refine qy 13 ?_ ?_ ?_ hHeld ?_; rotate_left 1; (· rfl); (· intro w' hSw; have c0 := jA c0 hSw.below; have c1 := jA c1 hSw.below; have c2 := jA c2 hSw.below; have d0 := jA d0 hSw.below; have d1 := jA d1 hSw.below; have d2 := jA d2 hSw.below; (try clear hHeld); go_simp; try with_reducible rfl)); try simp only [jz]
 (refine jr 4 ?_ fun K hK => ?_; (· rfl); (try clear hb); go_simp; (refine (calls_dr (cmpc_CompareInt k.from_ l.from_ _)).mono ?_; rintro e w1 ⟨rfl, hb⟩); go_wp2_with fail; refine hK.out _ _ ?_ (fun hHeld => ?_); (· first | exact hHeld.on hb | exact hHeld.alloc _); clear hK K); try simp only [jz]
 (refine jr 9 ?_ fun K hK => ?_; (· rfl); (try clear hb); go_simp; (refine (calls_dr (cmpc_CompareInt k.best l.best _)).mono ?_; rintro e w1 ⟨rfl, hb⟩); go_wp2_with fail; refine hK.out _ _ ?_ (fun hHeld => ?_); (· first | exact hHeld.on hb | exact hHeld.alloc _); clear hK K); try simp only [jz]
 (refine jr 14 ?_ fun K hK => ?_; (· rfl); (try clear hb); go_simp; (refine (calls_dr (cmpc_CompareInt k.may l.may _)).mono ?_; rintro e w1 ⟨rfl, hb⟩); go_wp2_with fail; refine hK.out _ _ ?_ (fun hHeld => ?_); (· first | exact hHeld.on hb | exact hHeld.alloc _); clear hK K); try simp only [jz]
 (refine jr 15 ?_ fun K hK => ?_; (· rfl); (try clear hb); go_simp; go_wp2_with fail; refine hK.out _ _ ?_ (fun hHeld => ?_); (· first | exact hHeld.on hb | exact hHeld.alloc _); clear hK K); try simp only [jz]
 (refine jr 16 ?_ fun K hK => ?_; (· rfl); (try clear hb); go_simp; (refine (calls_dr (cmp_OrInt3 _ 3 (cmpIc k.from_ l.from_) (cmpIc k.best l.best) (cmpIc k.may l.may) _ (by simp) (by simp) (by simp))).mono ?_; rintro e w1 ⟨rfl, hb⟩); go_wp2_with fail; refine hK.out _ _ ?_ (fun hHeld => ?_); (· first | exact hHeld.on hb | exact hHeld.alloc _); clear hK K); try simp only [jz]
 (refine qy 17 ?_ ?_ ?_ hHeld ?_; rotate_left 1; (· rfl); (· intro w' hSw; (try clear hHeld); go_simp; try with_reducible rfl)); try simp only [jz]
 refine wpAnyH_done (by kernel_rfl) ?_ _
 have hB' := hB.on hHeld
 clear hHeld hb
 go_wp2
 go_ret
 exact ⟨jU rfl, hB'⟩
end Go.Proofs.YtkoidahgbbabiaaGreat
