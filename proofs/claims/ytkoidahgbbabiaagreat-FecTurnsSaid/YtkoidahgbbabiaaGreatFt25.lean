/- Texts of one proof, one behind another. -/
import Derived.Test.YtkoidahgbbabiaaGreatFt23
import Derived.Test.YtkoidahgbbabiaaGreatFt22
import Derived.Test.YtkoidahgbbabiaaGreatFt9
import Derived.Test.YtkoidahgbbabiaaGreatFt8
import Derived.Test.YtkoidahgbbabiaaGreatFt1
namespace Go.Proofs.YtkoidahgbbabiaaGreat
open Go.RowKit
def saysK (ms : List Pm) (k : Nat) (p : Pf) : Prop := ∃ (i : Nat) (m : Pm), i < k ∧ ms[i]? = some m ∧ (getL m.R p).isSome = true
theorem saysK_succ {ms : List Pm} {k : Nat} {m : Pm} (hm : ms[k]? = some m) (p : Pf) : saysK ms (k + 1) p ↔ saysK ms k p ∨ (getL m.R p).isSome = true := by
 constructor
 ·rintro ⟨i, n, h1, h2, h3⟩
  rcases Nat.lt_or_ge i k with h | h
  ·exact .inl ⟨i, n, h, h2, h3⟩
  ·obtain rfl : i = k := by omega
   rw [hm] at h2
   injection h2 with h2
   subst h2
   exact .inr h3
 ·rintro (⟨i, n, h1, h2, h3⟩ | h)
  ·exact ⟨i, n, by omega, h2, h3⟩
  ·exact ⟨k, m, by omega, hm, h⟩
def NetsPost (ms : List Pm) (W : World) (e : Ending) (w' : World) : Prop :=
 ∃ (v : Value) (ps : List Pf), e = .returned v ∧ OwnPs w' W.heap.size v ps ∧ Srt ps ∧ (∀ p, p ∈ ps ↔ saysK ms ms.length p) ∧ (∀ p ∈ ps, RgtP p) ∧ ps.length ≤ 4096 ∧ Below W.heap.size W w'
section
variable {W : World} {rho : Nat → Role} {sb fb : Nat} {ls : List Pl} {S : Sv}
theorem SrvM.room (h : SrvM W rho sb fb ls S) {k : Nat} {m : Pm} (hm : S.ms[k]? = some m) : m.R.length ≤ 256 := by
 obtain ⟨l, -, hM⟩ := h.get hm
 obtain ⟨tb, N, E, hI, he⟩ := hM.rib
 have r1 := hI.room
 have r2 := hI.most1
 have : m.R.length = E.length := by rw [he]; simp [rts]
 omega
set_option maxHeartbeats 6400000 in
set_option maxRecDepth 100000 in
theorem sv_Nets (h : SrvM W rho sb fb ls S) : Calls Tryz.prog 34 #[.pointer (some ⟨sb, 0, none⟩)] W (NetsPost S.ms W) := by
 obtain ⟨s, cap, c0, -, cm⟩ := h.cells
 obtain ⟨i0, hii, hz0, hz1, hz2⟩ := info_parts info_prefK
 have few := h.bod.few
 have len := h.bod.len
 have HS := jh h
 have CM := jh cm
 have LEN := jh len
 have O0 : Hid (OwnPs W W.heap.size (.slice none 0 0) []) := jh ⟨World.ownsRow_nil _ _ _ _, fun p hp => by cases hp⟩
 have N0 : Hid (∀ p, p ∈ ([] : List Pf) ↔ saysK S.ms 0 p) := jh (fun p => by
  constructor
  ·intro hp; cases hp
  ·rintro ⟨i, m, hi, -⟩; omega)
 clear h cm len
 go_enter Tryz.func34, Tryz.ntmps34
 go_wp2_with fail
 go_loopw [3, 15] (fun t3 t15 wr => ∃ (k : Nat) (s3 : Option Addr) (c3 : Nat) (xs : List Pf), k ≤ S.ms.length ∧ t15 = .int .i64 k ∧ t3 = .slice s3 xs.length c3 ∧ Hid (OwnPs wr W.heap.size (.slice s3 xs.length c3) xs) ∧ Hid (∀ p, p ∈ xs ↔ saysK S.ms k p) ∧ Hid (∀ p ∈ xs, RgtP p) ∧ Hid (xs.length ≤ k * 256) ∧ Hid (Below W.heap.size W wr)) (fun _ t15 _ => S.ms.length - (intOf t15).toNat)
 case atStart => exact ⟨0, none, 0, [], by omega, rfl, rfl, O0, N0, jh (fun p hp => by cases hp), jh (by simp), jh (Below.refl _ _)⟩
 case round =>
  clear O0 N0
  obtain ⟨k, s3, c3, xs, hk, rfl, rfl, OX, MX, RX, LX, BX⟩ := hrel
  by_cases hkl : k < S.ms.length
  ·obtain ⟨m, hm⟩ : ∃ m, S.ms[k]? = some m := ⟨_, List.getElem?_eq_getElem hkl⟩
   obtain ⟨l, hl, hM⟩ := HS.out.get hm
   obtain ⟨g, o, rfl, cl⟩ := CM.out k l hl
   have SW := HS.out.below BX.out
   obtain ⟨l', hl', hM'⟩ := SW.get hm
   rw [hl] at hl'
   injection hl' with hl'
   subst hl'
   have c1 := jA c0 BX.out
   have c2 := jA cl BX.out
   have m3 : wr.cell? ⟨l.mb, 3, none⟩ = some (.pointer (some ⟨l.rb, 0, none⟩)) := jB hM'.row 3
   have AL := jh (ad_All wr hM'.rib)
   have RGT : Hid (∀ p, (getL m.R p).isSome = true → RgtP p) := jh (fun p hp => rts_right hM'.rib hp)
   have R256 := jh (HS.out.room hm)
   have SK := jh (saysK_succ hm)
   have k0 : (0 : Int) ≤ (k : Int) := by omega
   have k1 : (k : Int) < (S.ms.length : Int) := by omega
   have KL := jh hkl
   clear hm hl hM hM' SW cl hk hkl
   go_wp2_with fail
   refine AL.out.mono ?_
   rintro e w3 ⟨v, vs, rfl, re, up, rm, hb3⟩
   have VR : vs.length ≤ 256 := by
    have h1 := nodup_sub (vs.map (·.p)) (m.R.map (·.1)) (srt_nodup up) (fun p hp => by
     obtain ⟨a, ha⟩ := Option.isSome_iff_exists.1 ((rm p).1 hp)
     exact List.mem_map.2 ⟨_, getL_mem ha, rfl⟩)
    rw [List.length_map, List.length_map] at h1
    have := R256.out
    omega
   have HAS := jh re.has
   have OR := jh (own_base re.own BX.out.size)
   obtain ⟨sv, cv, rfl, -⟩ := jV re.own
   have RM : Hid (∀ p, p ∈ vs.map (·.p) ↔ (getL m.R p).isSome = true) := jh rm
   have OX3 := jh (OX.out.below hb3)
   have B3 := jh (jC BX.out hb3)
   clear re up rm hb3 AL OX BX c1 c2 m3
   go_wp2_with fail
   go_loopw [3, 25] (fun t3 t25 wz => ∃ (z : Nat) (s4 : Option Addr) (c4 : Nat) (ys : List Pf), z ≤ vs.length ∧ t25 = .int .i64 z ∧ t3 = .slice s4 ys.length c4 ∧ Hid (ys = xs ++ (vs.take z).map (·.p)) ∧ Hid (OwnPs wz W.heap.size (.slice s4 ys.length c4) ys) ∧ Hid (wz.ownsRow W.heap.size 61 13 (.slice sv vs.length cv) vs.length (vs.flatMap (rtL k))) ∧ Hid (Below W.heap.size W wz)) (fun _ t25 _ => vs.length - (intOf t25).toNat)
   case atStart => exact ⟨0, s3, c3, xs, by omega, rfl, rfl, jh (by simp), OX3, OR, B3⟩
   case round =>
    clear OX3 OR B3
    obtain ⟨z, s4, c4, ys, hz, rfl, rfl, EY, OY, OR, BZ⟩ := hrel
    by_cases hzl : z < vs.length
    ·obtain ⟨x, hx⟩ : ∃ x, vs[z]? = some x := ⟨_, List.getElem?_eq_getElem hzl⟩
     obtain ⟨g', o', hsv, hrg⟩ := rt_at (own_slat (rtL_len k) OR.out) hx
     subst hsv
     have RG := jh hrg
     have XM := List.mem_of_getElem? hx
     have OKX := jh (HAS.out x XM).2
     have TZ : Hid (vs.take (z + 1) = vs.take z ++ [x]) := jh (take_snoc hx)
     have YL : ys.length ≤ 16 * 256 := by
      have h1 := congrArg List.length EY.out
      have h2 := LX.out
      have h3 := KL.out
      have h4 := Nat.mul_le_mul_right 256 (show k + 1 ≤ 16 by omega)
      rw [List.length_append, List.length_map, List.length_take] at h1
      omega
     have z0 : (0 : Int) ≤ (z : Int) := by omega
     have z1 : (z : Int) < (vs.length : Int) := by omega
     have ZL := jh hzl
     clear hx hrg XM hz hzl
     go_wp2_with ((with_reducible refine jM (X := .load 61 (.tmp 27)) ?_ ?_); (· rfl))
     unfold Halt
     refine ldm_at (by rfl) 61 (.tmp 27) rfl g' (o' + z * 13) rfl (rtL k x) _ RG.out Tryz.underlying61 rfl sz_rt ?_
     go_wp2_with ((with_reducible refine jM (X := .store 61 (.tmp 7) (.tmp 28)) ?_ ?_); (· rfl))
     unfold Halt
     refine st_fresh rfl 61 (.tmp 7) (.tmp 28) rfl rfl _ (rtC k x.p x.v) rfl sz_rt rfl (rt_one _ _ _) ?_
     obtain ⟨w4, hw4, q4, hb4, -⟩ := box1 wr (rtC k x.p x.v) 61
     rw [← hw4]
     obtain ⟨pb, hpb⟩ : ∃ pb, pb = wr.heap.size := ⟨_, rfl⟩
     rw [← hpb] at q4 ⊢
     have e0 : w4.cell? ⟨pb, 1, none⟩ = some (.int .u32 x.p.1) := jB q4 1
     have e1 : w4.cell? ⟨pb, 2, none⟩ = some (.int .i64 x.p.2) := jB q4 2
     have OY4 := jh (OY.out.below hb4)
     have OR4 := jh (jQ OR.out hb4)
     have B4 := jh (jC BZ.out hb4)
     clear hw4 q4 hb4 hpb OY OR BZ
     simp only [Act.put]
     have BA4 : Hid (W.heap.size ≤ w4.heap.size) := jh B4.out.size
     have PA := jh (new_cells w4 #[.int .u32 x.p.1, .int .i64 x.p.2] 53)
     have BA5 : Below w4.heap.size w4 (w4.alloc (.cells #[.int .u32 x.p.1, .int .i64 x.p.2] 53)) := (Below.refl _ _).alloc (Nat.le_refl _) _
     have OY5 := jh (OY4.out.below BA5)
     have OR5 := jh (jQ OR4.out BA5)
     have B5 := jh (jC B4.out BA5)
     clear BA5 OY4 OR4 B4
     go_wp2_with (at_builtin; refine wpList_append_own_at _ rfl _ _ 23 rfl W.heap.size 53 i0 _ 2 16 Tryz.underlying23 hii hz0 hz1 hz2 rfl (by decide) (.slice s4 ys.length c4) ys.length (ys.flatMap encP) rfl OY5.out.1 ⟨w4.heap.size, 0, none⟩ 1 1 [.int .u32 x.p.1, .int .i64 x.p.2] rfl rfl PA.out (encP_one x.p) (by unfold maxLen; omega) (by omega) B5.out.size ?_)
     intro v3 w10 h2 h3 _ hat
     obtain ⟨s5, c5, hv3, -⟩ := jV h2
     subst hv3
     have K10 := kept_gr h3
     have OYN : Hid (OwnPs w10 W.heap.size (.slice s5 (ys ++ [x.p]).length c5) (ys ++ [x.p])) := jh (by
      refine ⟨?_, fun p hp => ?_⟩
      ·rw [List.length_append, List.flatMap_append]
       exact h2
      ·rcases List.mem_append.1 hp with hp | hp
       ·exact OY5.out.2 p hp
       ·rw [List.mem_singleton] at hp; subst hp; exact OKX.out)
     have ORN : Hid (w10.ownsRow W.heap.size 61 13 (.slice (some ⟨g', o', none⟩) vs.length cv) vs.length (vs.flatMap (rtL k))) := jh ((own_on OR5.out).kept K10 (fun b _ hb e => own_kindsK OR5.out OY5.out.1 (by decide) b hb e)).self
     have BN : Hid (Below W.heap.size W w10) := jh (B5.out.trans (K10.below B5.out.size fun g hg => jJ OY5.out.1 g hg))
     have EN : Hid (ys ++ [x.p] = xs ++ (vs.take (z + 1)).map (·.p)) := jh (by rw [TZ.out, EY.out]; simp)
     have LN : Hid ((ys ++ [x.p]).length = ys.length + 1) := jh (by simp)
     have V256 := jh VR
     clear h2 h3 hat K10 OY5 OR5 B5 PA BA4 EY e0 e1 TZ
     have zw : IntKind.i64.wrap ((z : Int) + 1) = ((z + 1 : Nat) : Int) := by
      have := ZL.out
      have := V256.out
      rw [IntWalk.i64_in _ (by omega)]; omega
     go_wp2_with fail
     exact ⟨⟨z + 1, s5, c5, _, by have := ZL.out; omega, rfl, by rw [LN.out], EN, OYN, ORN, BN⟩, by have := ZL.out; simp only [intOf]; omega⟩
    ·obtain rfl : z = vs.length := by omega
     have TL : (vs.take vs.length).map (·.p) = vs.map (·.p) := by rw [List.take_length]
     have EY2 : ys = xs ++ vs.map (·.p) := by rw [EY.out, TL]
     have MN : Hid (∀ p, p ∈ ys ↔ saysK S.ms (k + 1) p) := jh (fun p => by
      rw [EY2, List.mem_append, MX.out p, RM.out p, SK.out p])
     have RN : Hid (∀ p ∈ ys, RgtP p) := jh (fun p hp => by
      rw [EY2] at hp
      rcases List.mem_append.1 hp with hp | hp
      ·exact RX.out p hp
      ·exact RGT.out p ((RM.out p).1 hp))
     have LN : Hid (ys.length ≤ (k + 1) * 256) := jh (by
      have := LX.out
      rw [EY2, List.length_append, List.length_map]; omega)
     have kw : IntKind.i64.wrap ((k : Int) + 1) = ((k + 1 : Nat) : Int) := by
      have := KL.out
      rw [IntWalk.i64_in _ (by omega)]; omega
     clear TL EY2 EY OR hz hzl
     go_wp2_with fail
     exact ⟨⟨k + 1, s4, c4, ys, by have := KL.out; omega, rfl, rfl, OY, MN, RN, LN, BZ⟩, by have := KL.out; simp only [intOf]; omega⟩
  ·obtain rfl : k = S.ms.length := by omega
   have X4 : Hid (xs.length ≤ 4096) := jh (by have h1 := LX.out; have h2 := Nat.mul_le_mul_right 256 few; omega)
   have SO := jh (ps_Sort W.heap.size (.slice s3 xs.length c3) xs wr OX.out (by have := X4.out; omega))
   clear hk hkl OX LX
   go_wp2_with fail
   refine SO.out.mono ?_
   rintro e w2 ⟨ys, rfl, yl, ym, yp, yo, yk⟩
   have B2 : Hid (Below W.heap.size W w2) := jh (BX.out.trans (yk.below BX.out.size fun g hg => jJ yo.1 g hg))
   have CO := jh (ps_Compact W.heap.size _ ys w2 yo (by have := X4.out; omega))
   have CS := jh (comp_srt yp)
   have YM := jh ym
   have YL := jh yl
   have YO := jh yo
   clear yl ym yp yo yk SO BX
   go_wp2_with fail
   refine CO.out.mono ?_
   rintro e w5 ⟨v', rfl, vo, vk⟩
   obtain ⟨s6, c6, rfl, -⟩ := jV vo.1
   have FIN : Hid (NetsPost S.ms W (.returned (.slice s6 (comp ys).length c6)) w5) := jh (by
    refine ⟨_, comp ys, rfl, vo, CS.out.1, fun p => ?_, fun p hp => ?_, ?_, B2.out.trans (vk.below B2.out.size fun g hg => jJ YO.out.1 g hg)⟩
    ·rw [CS.out.2, YM.out, MX.out]
    ·exact RX.out p ((YM.out p).1 ((CS.out.2 p).1 hp))
    ·have := comp_len ys
     have := YL.out
     have := X4.out
     omega)
   clear vo vk CO
   go_wp2_with fail
   go_ret
   exact FIN.out
theorem ls_Nets {w : World} {A : Ab} (h : LSv w W rho sb fb ls A) : Calls Tryz.prog 34 #[.pointer (some ⟨sb, 0, none⟩)] W fun e w' => ∃ (v : Value) (ps : List Pf), e = .returned v ∧ OwnPs w' W.heap.size v ps ∧ (∀ p ∈ ps, RgtP p) ∧ ps.length ≤ 4096 ∧ Below W.heap.size W w' := by
 obtain ⟨S, h1, h2⟩ := h.srv
 refine (sv_Nets h1).mono ?_
 rintro e w' ⟨v, ps, g1, g2, -, -, g5, g6, g7⟩
 exact ⟨v, ps, g1, g2, g5, g6, g7⟩
end
end Go.Proofs.YtkoidahgbbabiaaGreat
