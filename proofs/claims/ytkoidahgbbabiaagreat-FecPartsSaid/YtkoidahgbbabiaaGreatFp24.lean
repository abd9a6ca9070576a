/- Texts of one proof, one behind another. -/
import Derived.Test.YtkoidahgbbabiaaGreatFp23
import Derived.Test.YtkoidahgbbabiaaGreatFp21
import Derived.Test.YtkoidahgbbabiaaGreatFp8
import Derived.Test.YtkoidahgbbabiaaGreatFp1
namespace Go.Proofs.YtkoidahgbbabiaaGreat
open Go.RowKit
theorem info_key : (Tryz.prog.info? 102).map (fun i => (i.zero, i.size, i.bytes)) = some (some (.agg #[.int .i64 0, .int .i64 0, .int .i64 0]), 3, 24) := by kernel_rfl
theorem info_class : (Tryz.prog.info? 115).map (fun i => (i.zero, i.size, i.bytes)) = some (some (.agg #[.int .i64 0, .int .i64 0, .int .i64 0, .slice none 0 0]), 4, 48) := by kernel_rfl
theorem info_prefK : (Tryz.prog.info? 53).map (fun i => (i.zero, i.size, i.bytes)) = some (some (.agg #[.int .u32 0, .int .i64 0]), 2, 16) := by kernel_rfl
structure Cls where
 key : Ky
 ps : List Pf
 v : Value
def clL (x : Cls) : List Value := [.int .i64 x.key.from_, .int .i64 x.key.best, .int .i64 x.key.may, x.v]
theorem clL_len (x : Cls) : (clL x).length = 4 := rfl
abbrev OwnCl := OwnR 115 4 clL (fun x W => PsAt W x.v x.ps)
def AllPostK (best : Pf → Option (Int × At)) (kf : Pf → Ky) (W : World) (e : Ending) (w' : World) : Prop :=
 ∃ (s : Option Addr) (c : Nat) (L : List Cls) (Q : Nat → Prop) (ps : List Pf), e = .returned (.slice s L.length c) ∧ OwnCl w' W.heap.size (.slice s L.length c) L Q ∧ Srt ps ∧ (∀ p, p ∈ ps ↔ (best p).isSome = true) ∧ (∀ p ∈ ps, RgtP p) ∧
  (L.map (·.key)).Pairwise klt ∧ (∀ x ∈ L, x.ps = psOf kf x.key ps ∧ x.ps ≠ []) ∧ (∀ p ∈ ps, kf p ∈ L.map (·.key)) ∧ Below W.heap.size W w'
theorem StampAt.of_block {κ : Type} {ek : κ → Value} {W W' : World} {b : Nat} {a : κ} {s : Nat} (h : StampAt ek W b a s) (hb : W'.heap[b]? = W.heap[b]?) : StampAt ek W' b a s := by
 obtain ⟨es, ck, h1, h2⟩ := h
 exact ⟨es, ck, hb.trans h1, h2⟩
theorem Kept.up {F G : Nat → Prop} {a b c : World} (h : Kept F a b) (k : Kept G b c) (hG : ∀ i, G i → a.heap.size ≤ i ∨ F i) : Kept F a c :=
 ⟨k.os.trans h.os, k.tape.trans h.tape, k.output.trans h.output, Nat.le_trans h.size k.size, fun i hi hf => (k.block i (Nat.lt_of_lt_of_le hi h.size) (fun g => (hG i g).elim (fun h2 => by omega) hf)).trans (h.block i hi hf)⟩
theorem cl_one (k : Ky) (s : Option Addr) (n c : Nat) : ∀ u ∈ [Value.int .i64 k.from_, .int .i64 k.best, .int .i64 k.may, .slice s n c], u.oneCell' = true := by
 intro u hu
 simp at hu
 rcases hu with rfl | rfl | rfl | rfl <;> rfl
theorem ky_at {w : World} {s : Option Addr} {n c : Nat} {xs : List Ky} (h : SlAt w 3 (fun x cs => cs = kyL x) (.slice s n c) xs) {i : Nat} {x : Ky} (hx : xs[i]? = some x) : ∃ g o, s = some ⟨g, o, none⟩ ∧ w.cell? ⟨g, o + i * 3, none⟩ = some (.int .i64 x.from_) ∧ w.cell? ⟨g, o + i * 3 + 1, none⟩ = some (.int .i64 x.best) ∧ w.cell? ⟨g, o + i * 3 + 2, none⟩ = some (.int .i64 x.may) := by
 obtain ⟨s', c', e, h1, h2, h3⟩ := h
 injection e with e _ _
 subst e
 have hi := (List.getElem?_eq_some_iff.1 hx).1
 obtain ⟨b, off, rfl, h4⟩ := h3 (by omega)
 obtain ⟨cs, -, rfl, hc⟩ := h4 i x hx
 exact ⟨b, off, rfl, hc 0 _ rfl, hc 1 _ rfl, hc 2 _ rfl⟩
theorem key_cells {W : World} {b : Nat} {k : Ky} (q : W.heap[b]? = some (.cells (kyC k) 102 (0, 0))) : W.cell? ⟨b, 0, none⟩ = some (.int .i64 k.from_) ∧ W.cell? ⟨b, 1, none⟩ = some (.int .i64 k.best) ∧ W.cell? ⟨b, 2, none⟩ = some (.int .i64 k.may) := ⟨jB q 0, jB q 1, jB q 2⟩
set_option maxHeartbeats 6400000 in
set_option maxRecDepth 100000 in
theorem fc_AllG (sv : Value) (n : Int) (best : Pf → Option (Int × At)) (kf : Pf → Ky) (W : World) (BS : ∀ w', Below W.heap.size W w' → Calls Tryz.prog 25 #[sv, .int .i64 n] w' (BestsPost best w'))
  (OF : ∀ w', Below W.heap.size W w' → ∀ p, (best p).isSome = true → KOk p → Calls Tryz.prog 48 #[sv, .int .i64 n, .agg #[.int .u32 p.1, .int .i64 p.2]] w' (OfPostK (some (kf p)) w'))
  (few : ∀ ps : List Pf, ps.Nodup → (∀ p ∈ ps, (best p).isSome = true) → ps.length ≤ 4096) (kok : ∀ p, (best p).isSome = true → KyOk (kf p)) :
  Calls Tryz.prog 51 #[sv, .int .i64 n] W (AllPostK best kf W) := by
 have BS := jh BS
 have OF := jh OF
 have FEW := jh few
 have KOF := jh kok
 have hmm := @run_makeMap Tryz.prog
 obtain ⟨i0, hii, hz0, hz1, hz2⟩ := info_parts info_key
 obtain ⟨j0, hjj, hy0, hy1, hy2⟩ := info_parts info_prefK
 obtain ⟨k0, hkk, hx0, hx1, hx2⟩ := info_parts info_class
 clear few kok
 go_enter Tryz.func51, Tryz.ntmps51
 go_upto_region 3 with (fail)
 obtain ⟨W1, hW1⟩ : ∃ W1, W1 = W.alloc (.map #[] 0) := ⟨_, rfl⟩
 have hb1 : Below W.heap.size W W1 := by rw [hW1]; exact (Below.refl _ _).alloc (Nat.le_refl _) _
 have M1 : Hid (KMap W1 W.heap.size []) := jh (by rw [hW1]; exact MapT.made W)
 rw [← hW1]
 have B1 := jh hb1
 obtain ⟨mb, hmb⟩ : ∃ mb, W.heap.size = mb := ⟨_, rfl⟩
 have MB := jh hmb
 rw [hmb] at M1 ⊢
 clear hW1 hb1 hmb
 go_wp2_with fail
 refine (BS.out W1 B1.out).mono ?_
 rintro e w2 ⟨s, c, LB, AB, rfl, ob, sbp, vb, ab, hb2⟩
 have M2 := jh (M1.out.below hb2)
 have B2 := jh (jC B1.out hb2)
 have OB := jh ob
 obtain ⟨ps, hps⟩ : ∃ ps, LB.map (·.p) = ps := ⟨_, rfl⟩
 rw [hps] at sbp ab
 have PL : Hid (ps.length = LB.length) := jh (by rw [← hps, List.length_map])
 have PG : Hid (∀ (z : Nat) x, LB[z]? = some x → ps[z]? = some x.p) := jh (fun z x hx => by rw [← hps, List.getElem?_map, hx]; rfl)
 have PB : Hid (∀ p, p ∈ ps ↔ (best p).isSome = true) := jh (fun p => by
  constructor
  ·intro hp
   rw [← hps] at hp
   obtain ⟨x, hx, rfl⟩ := List.mem_map.1 hp
   rw [(vb x hx).1]; rfl
  ·intro hp
   obtain ⟨b, hb⟩ := Option.isSome_iff_exists.1 hp
   exact ab p b hb)
 have PR : Hid (∀ p ∈ ps, RgtP p) := jh (fun p hp => by
  rw [← hps] at hp
  obtain ⟨x, hx, rfl⟩ := List.mem_map.1 hp
  exact (vb x hx).2.1)
 have SP : Hid (Srt ps) := jh sbp
 have L4 : LB.length ≤ 4096 := by rw [← PL.out]; exact FEW.out ps (plt_nodup sbp) (fun p hp => (PB.out p).1 hp)
 have LMB : Hid (mb < W1.heap.size) := jh M1.out.lt
 have BW2 : Hid (W1.heap.size ≤ w2.heap.size) := jh hb2.size
 have G0 : Hid (GrK kf (ps.take 0) [] w2 w2.heap.size) := jh (GrK.nil _ _)
 have O0 : Hid (w2.ownsRow w2.heap.size 102 3 (.slice none ([] : List (Ky × Value)).length 0) ([] : List (Ky × Value)).length ((([] : List (Ky × Value)).map (·.1)).flatMap kyL)) := jh ⟨rfl, .inl ⟨rfl, rfl⟩⟩
 have K0 : Hid (Kept (fun b => b = mb) w2 w2) := jh (Kept.refl _ _)
 clear ob sbp vb ab hb2 hps M1 B1 BS
 go_wp2_with fail
 go_loopw [6, 23] (fun t6 t23 wr => ∃ (z : Nat) (M : List (Ky × Value)) (s6 : Option Addr) (c6 : Nat), z ≤ LB.length ∧ t23 = .int .i64 z ∧ t6 = .slice s6 M.length c6 ∧ Hid (GrK kf (ps.take z) M wr w2.heap.size) ∧ Hid (KMap wr mb M) ∧ Hid (wr.ownsRow w2.heap.size 102 3 (.slice s6 M.length c6) M.length ((M.map (·.1)).flatMap kyL)) ∧ Hid (Kept (fun b => b = mb) w2 wr)) (fun _ t23 _ => LB.length - (intOf t23).toNat)
 case atStart => exact ⟨0, [], none, 0, by omega, rfl, rfl, G0, M2, O0, K0⟩
 case round =>
  clear G0 M2 O0 K0
  obtain ⟨z, M, s6, c6, hz, rfl, rfl, GK, MM, OK, KK⟩ := hrel
  by_cases hzl : z < LB.length
  ·obtain ⟨x, hx⟩ : ∃ x, LB[z]? = some x := ⟨_, List.getElem?_eq_getElem hzl⟩
   have hpx := PG.out z x hx
   have XB := jh ((PB.out x.p).1 (List.mem_of_getElem? hpx))
   have XR := jh (PR.out x.p (List.mem_of_getElem? hpx))
   have TK : Hid (ps.take (z + 1) = ps.take z ++ [x.p]) := jh (take_snoc hpx)
   obtain ⟨g, o, rfl, hrg⟩ := be_at (own_slat beL_len OB.out.own) hx
   have LG := jh (jJ OB.out.own g rfl)
   have RG : Hid (wr.rangeAt g (o + z * 13) (beL x)) := jh (fun j v hv => KK.out.cell (hrg j v hv) (fun e => by
    have h1 := LG.out
    have h2 := LMB.out
    simp only at e
    omega))
   have BR : Hid (Below W.heap.size W wr) := jh (B2.out.trans (KK.out.below B2.out.size (by rintro b rfl; have := MB.out; omega)))
   obtain ⟨k, hk⟩ : ∃ k, kf x.p = k := ⟨_, rfl⟩
   have KX : Hid (KyOk k) := jh (by rw [← hk]; exact KOF.out x.p XB.out)
   have HK := jh hk
   have z0 : (0 : Int) ≤ (z : Int) := by omega
   have z1 : (z : Int) < (LB.length : Int) := by omega
   have ML4 : M.length ≤ 4096 := by have h1 := GK.out.short; rw [List.length_take] at h1; omega
   clear hx hpx hrg hk
   go_wp2_with ((with_reducible refine jM (X := .load 61 (.tmp 25)) ?_ ?_); (· rfl))
   unfold Halt
   refine ldm_at (by rfl) 61 (.tmp 25) rfl g (o + z * 13) rfl (beL x) _ RG.out Tryz.underlying61 rfl sz_rt ?_
   go_wp2_with ((with_reducible refine jM (X := .store 61 (.tmp 8) (.tmp 26)) ?_ ?_); (· rfl))
   unfold Halt
   refine st_fresh rfl 61 (.tmp 8) (.tmp 26) rfl rfl _ (rtC x.peer x.p x.v) rfl sz_rt rfl (rt_one _ _ _) ?_
   obtain ⟨w3, hw3, q3, hb3, -⟩ := box1 wr (rtC x.peer x.p x.v) 61
   rw [← hw3]
   obtain ⟨xb, hxb⟩ : ∃ xb, xb = wr.heap.size := ⟨_, rfl⟩
   rw [← hxb] at q3 ⊢
   have XWR : Hid (xb ≤ wr.heap.size) := jh (Nat.le_of_eq hxb)
   have OLT : Hid (∀ q, (Value.slice s6 M.length c6).ownBlock = some q → q < xb) := jh (fun q hq => by rw [hxb]; exact own_lt OK.out q hq)
   have c1 : w3.cell? ⟨xb, 1, none⟩ = some (.int .u32 x.p.1) := jB q3 1
   have c2 : w3.cell? ⟨xb, 2, none⟩ = some (.int .i64 x.p.2) := jB q3 2
   have Q3 := jh q3
   have B3 := jh hb3
   have OFX : Hid (Calls Tryz.prog 48 #[sv, .int .i64 n, .agg #[.int .u32 x.p.1, .int .i64 x.p.2]] w3 fun e w' => e = .returned (.tuple #[kyV k, .bool true]) ∧ Below w3.heap.size w3 w') := jh (by rw [← HK.out]; exact OF.out w3 (jC BR.out hb3) x.p XB.out XR.out.key)
   clear hw3 q3 hb3 hxb RG BR
   simp only [Act.put]
   go_wp2_with fail
   refine OFX.out.mono ?_
   rintro e w4 ⟨rfl, hb4⟩
   have B4 := jh (jC B3.out hb4)
   have Q4 := jh ((hb4.block _ (jE Q3.out)).trans Q3.out)
   clear hb4 Q3 c1 c2 OFX B3
   go_wp2_with ((with_reducible refine jM (X := .store 102 (.tmp 9) (.tmp 33)) ?_ ?_); (· rfl))
   unfold Halt
   refine st_fresh rfl 102 (.tmp 9) (.tmp 33) rfl rfl _ (kyC k) rfl sz_key rfl (ky_one k) ?_
   obtain ⟨w5, hw5, q5, hb5, -⟩ := box1 w4 (kyC k) 102
   rw [← hw5]
   obtain ⟨kb, hkb⟩ : ∃ kb, kb = w4.heap.size := ⟨_, rfl⟩
   rw [← hkb] at q5 ⊢
   have XKB : Hid (xb ≤ kb) := jh (by rw [hkb]; exact Nat.le_trans XWR.out B4.out.size)
   have Q5 := jh ((hb5.block _ (jE Q4.out)).trans Q4.out)
   have QK := jh q5
   have B5 := jh (jC B4.out hb5)
   have GK5 := jh (GK.out.below B5.out)
   have MM5 := jh (MM.out.below B5.out)
   have OK5 := jh (jQ OK.out B5.out)
   have KK5 := jh (KK.out.trans (Kept.of_below B5.out))
   obtain ⟨y0, y1, y2⟩ := key_cells q5
   have hl := MM5.out.look ky_enc Tryz.underlying184 k KX.out zero_pfs w5 rfl true
   clear hw5 q5 hb5 hkb B4 B5 Q4 GK MM OK KK
   simp only [Act.put]
   obtain ⟨had, hhad⟩ : ∃ had, (getL M k).isSome = had := ⟨_, rfl⟩
   obtain ⟨u0, hu0⟩ : ∃ u0, ((getL M k).map idV).getD nilS = u0 := ⟨_, rfl⟩
   have HH := jh hhad
   simp only [if_true, hhad, hu0] at hl
   clear hhad hu0
   go_upto_if 44 with (fail)
   clear hl
   obtain ⟨KL, hKL⟩ : ∃ KL, (putL M k nilS).map (·.1) = KL := ⟨_, rfl⟩
   have LKL : Hid (∀ v, KL = (putL M k v).map (·.1) ∧ KL.length = (putL M k v).length) := jh (fun v => by
    have e : (putL M k v).map (·.1) = KL := by rw [← hKL, keys_put, keys_put]
    exact ⟨e.symm, by rw [← e, List.length_map]⟩)
   have KLE : Hid (KL = if had then M.map (·.1) else M.map (·.1) ++ [k]) := jh (by rw [← hKL, keys_put, HH.out])
   clear hKL
   go_cut [6] from 45 to 48 (fun s6' wx => ∃ (s : Option Addr) (c : Nat), s6' = .slice s KL.length c ∧ Hid (wx.ownsRow w2.heap.size 102 3 (.slice s KL.length c) KL.length (KL.flatMap kyL) ∧ GrK kf (ps.take z) M wx w2.heap.size ∧ KMap wx mb M ∧ Kept (fun b => b = mb) w2 wx ∧ wx.heap[xb]? = some (.cells (rtC x.peer x.p x.v) 61 (0, 0)) ∧ wx.heap[kb]? = some (.cells (kyC k) 102 (0, 0))))
   case first =>
    rcases had with _ | _
    ·have LM : Hid (KL = M.map (·.1) ++ [k] ∧ KL.length = M.length + 1) := jh (by
      have := KLE.out
      simp only [if_false, Bool.false_eq_true] at this
      exact ⟨this, by rw [this]; simp⟩)
     have hal : Below w5.heap.size w5 (w5.alloc (.cells #[.int .i64 k.from_, .int .i64 k.best, .int .i64 k.may] 102)) := (Below.refl _ _).alloc (Nat.le_refl _) _
     have OA := jh (jQ OK5.out hal)
     have NC := jh (new_cells w5 #[.int .i64 k.from_, .int .i64 k.best, .int .i64 k.may] 102)
     have BA : Hid (w2.heap.size ≤ (w5.alloc (.cells #[.int .i64 k.from_, .int .i64 k.best, .int .i64 k.may] 102)).heap.size) := jh (Nat.le_trans KK5.out.size hal.size)
     have GA := jh (GK5.out.below hal)
     have MA := jh (MM5.out.below hal)
     have KA := jh (KK5.out.trans (Kept.of_below hal))
     have QA := jh ((hal.block _ (jE Q5.out)).trans Q5.out)
     have QB := jh ((hal.block _ (jE QK.out)).trans QK.out)
     have NXB : Hid (∀ q, (Value.slice s6 M.length c6).ownBlock = some q → q ≠ xb ∧ q ≠ kb) := jh (fun q hq => by have h1 := OLT.out q hq; have h2 := XKB.out; omega)
     clear hal OK5 GK5 MM5 KK5 Q5 QK
     go_wp2_with (at_builtin; refine wpList_append_own_at _ rfl _ _ 185 rfl w2.heap.size 102 i0 _ 3 24 Tryz.underlying185 hii hz0 hz1 hz2 rfl (by decide) (.slice s6 M.length c6) M.length ((M.map (·.1)).flatMap kyL) rfl OA.out ⟨w5.heap.size, 0, none⟩ 1 1 [.int .i64 k.from_, .int .i64 k.best, .int .i64 k.may] rfl rfl NC.out (kyL_one k) (by unfold maxLen; omega) (by omega) BA.out ?_)
     intro v3 w6 h2 h3 _ hat
     obtain ⟨s3, c3, hv3, -⟩ := jV h2
     subst hv3
     have K6 := kept_gr h3
     have HO : Hid (w6.ownsRow w2.heap.size 102 3 (.slice s3 KL.length c3) KL.length (KL.flatMap kyL)) := jh (by rw [LM.out.2, LM.out.1, List.flatMap_append, List.flatMap_cons, List.flatMap_nil, List.append_nil]; exact h2)
     have HG := jh (GA.out.kept K6 (fun y hy b hb e => own_kindsK OA.out (GA.out.own y hy) (by decide) b e hb))
     have HM := jh (MA.out.kept K6 (fun e => own_ne_mapK OA.out MA.out e))
     have HK2 := jh (KA.out.up K6 (fun i hi => .inl (jJ OA.out i hi)))
     have HX := jh ((K6.block _ (jE QA.out) (fun e => (NXB.out _ e).1 rfl)).trans QA.out)
     have HY := jh ((K6.block _ (jE QB.out) (fun e => (NXB.out _ e).2 rfl)).trans QB.out)
     have hln : M.length + 1 = KL.length := LM.out.2.symm
     rw [hln]
     clear h2 h3 hat K6 OA NC GA MA KA QA QB hln y0 y1 y2
     go_wp2_with fail
     go_meet
     exact ⟨s3, c3, rfl, jh ⟨HO.out, HG.out, HM.out, HK2.out, HX.out, HY.out⟩⟩
    ·have LM : Hid (KL = M.map (·.1) ∧ KL.length = M.length) := jh (by
      have := KLE.out
      simp only [if_true] at this
      exact ⟨this, by rw [this]; simp⟩)
     have HO : Hid (w5.ownsRow w2.heap.size 102 3 (.slice s6 KL.length c6) KL.length (KL.flatMap kyL)) := jh (by rw [LM.out.2, LM.out.1]; exact OK5.out)
     have hln : M.length = KL.length := LM.out.2.symm
     go_wp2_with fail
     go_meet
     exact ⟨s6, c6, by rw [LM.out.2], jh ⟨HO.out, GK5.out, MM5.out, KK5.out, Q5.out, QK.out⟩⟩
   case rest =>
    obtain ⟨s7, c7, rfl, HH7⟩ := hcut
    obtain ⟨w7, hw7⟩ : ∃ w7 : World, w7 = wc := ⟨_, rfl⟩
    rw [← hw7] at HH7 ⊢
    clear hw7 OK5 GK5 MM5 KK5 Q5 QK y0 y1 y2
    obtain ⟨y0, y1, y2⟩ := key_cells HH7.out.2.2.2.2.2
    have c1 : w7.cell? ⟨xb, 1, none⟩ = some (.int .u32 x.p.1) := jB HH7.out.2.2.2.2.1 1
    have c2 : w7.cell? ⟨xb, 2, none⟩ = some (.int .i64 x.p.2) := jB HH7.out.2.2.2.2.1 2
    obtain ⟨W8, hW8⟩ : ∃ W8, W8 = w7.alloc (.cells #[.int .u32 x.p.1, .int .i64 x.p.2] 53) := ⟨_, rfl⟩
    have hb8 : Below w7.heap.size w7 W8 := by rw [hW8]; exact (Below.refl _ _).alloc (Nat.le_refl _) _
    have nc8 : ∀ (j : Nat) (u : Value), [Value.int .u32 x.p.1, .int .i64 x.p.2][j]? = some u → W8.cell? ((⟨w7.heap.size, 0, none⟩ : Addr).add j) = some u := by rw [hW8]; exact new_cells w7 #[.int .u32 x.p.1, .int .i64 x.p.2] 53
    have m8 := HH7.out.2.2.1.below hb8
    obtain ⟨o1, st, he, hm1, hsa⟩ := m8.entry ky_enc Tryz.underlying184 k KX.out nilS zero_pfs (by unfold maxLen; omega) W8 rfl
    have k89 : Kept (fun b => b = mb) W8 (ChangeMaps.setBlock W8 mb o1) := Kept.setBlock o1 rfl
    have gk9 := (HH7.out.2.1.below hb8).mapKept m8 k89
    have ok9 : (ChangeMaps.setBlock W8 mb o1).ownsRow w2.heap.size 102 3 (.slice s7 KL.length c7) KL.length (KL.flatMap kyL) := ((own_on (jQ HH7.out.1 hb8)).kept k89 (fun b _ hb e => own_ne_mapK (jQ HH7.out.1 hb8) m8 (by rw [hb, e]))).self
    have o9 := gk9.at k
    have hap := HH7.out.2.2.1.apart
    obtain ⟨v0, hv0⟩ : ∃ v0, (getL M k).getD nilS = v0 := ⟨_, rfl⟩
    have GP := jh (fun (w1 : World) (v' : Value) => gk9.put (w1 := w1) (v' := v') hap (p := x.p))
    rw [HK.out, hv0] at GP
    rw [hv0] at he hm1 o9
    have nl : (psOf kf k (ps.take z)).length ≤ 4096 := Nat.le_trans (psOf_len _ _ _) (by rw [List.length_take]; omega)
    obtain ⟨sv0, cv0, hv1, -⟩ := jV o9
    subst hv1
    obtain ⟨n0, hn0⟩ : ∃ n0, (psOf kf k (ps.take z)).length = n0 := ⟨_, rfl⟩
    rw [hn0] at he hm1 o9 GP nl hv0
    have nc9 : ∀ (j : Nat) (u : Value), [Value.int .u32 x.p.1, .int .i64 x.p.2][j]? = some u → (ChangeMaps.setBlock W8 mb o1).cell? ((⟨w7.heap.size, 0, none⟩ : Addr).add j) = some u := fun j u hu => k89.cell (nc8 j u hu) (fun e => by
     have h1 : mb < w7.heap.size := HH7.out.2.2.1.lt
     have e2 : ((⟨w7.heap.size, 0, none⟩ : Addr).add j).block = w7.heap.size := by unfold Addr.add; split <;> rfl
     rw [e2] at e
     omega)
    have MB7 : Hid (mb < w7.heap.size) := jh HH7.out.2.2.1.lt
    have BA9 : Hid (w2.heap.size ≤ (ChangeMaps.setBlock W8 mb o1).heap.size) := jh (Nat.le_trans HH7.out.2.2.2.1.size (Nat.le_trans hb8.size k89.size))
    have KK9 : Hid (Kept (fun b => b = mb) w2 (ChangeMaps.setBlock W8 mb o1)) := jh ((HH7.out.2.2.2.1.trans (Kept.of_below hb8)).trans k89)
    have SA9 := jh hsa
    have O9 := jh o9
    have OK9 := jh ok9
    have NC9 := jh nc9
    have HM9 := jh hm1
    subst hW8
    clear hb8 nc8 m8 k89 gk9 hap hm1 hsa o9 ok9 nc9 HH7 hn0 hv0
    go_wp2_with (at_builtin; refine wpList_append_own_at _ rfl _ _ 23 rfl w2.heap.size 53 j0 _ 2 16 Tryz.underlying23 hjj hy0 hy1 hy2 rfl (by decide) (.slice sv0 n0 cv0) n0 ((psOf kf k (ps.take z)).flatMap encP) rfl O9.out ⟨w7.heap.size, 0, none⟩ 1 1 [.int .u32 x.p.1, .int .i64 x.p.2] rfl rfl NC9.out (encP_one x.p) (by unfold maxLen; omega) (by omega) BA9.out ?_)
    intro v3 w10 h2 h3 _ hat
    obtain ⟨s3, c3, hv3, -⟩ := jV h2
    subst hv3
    have K10 := kept_gr h3
    have nmb : (Value.slice sv0 n0 cv0).ownBlock ≠ some mb := own_ne_mapK O9.out HM9.out
    have hm10 := HM9.out.kept K10 nmb
    have hs10 := SA9.out.of_block (K10.block mb HM9.out.lt nmb)
    obtain ⟨o2, he2, hm2⟩ := hm10.entryStore (P := Tryz.prog) (t := 184) ky_enc.inj k st hs10 (.slice s3 (n0 + 1) c3) w10 rfl
    have he3 : (Instr.entryStore 184 (.map (some mb)) (.int .i64 (st : Int)) (.slice s3 (n0 + 1) c3)).run Tryz.prog w10 = .ok () (ChangeMaps.setBlock w10 mb o2) := he2
    rw [putL_twice] at hm2
    have k1011 : Kept (fun b => b = mb) w10 (ChangeMaps.setBlock w10 mb o2) := Kept.setBlock o2 rfl
    have gp := GP.out w10 (.slice s3 (n0 + 1) c3) h2 K10 (by
     rcases hat with h | h
     ·exact .inl h
     ·refine .inr ⟨_, h, Nat.le_of_eq ?_⟩
      rfl) KX.out
    have GK11 : Hid (GrK kf (ps.take (z + 1)) (putL M k (.slice s3 (n0 + 1) c3)) (ChangeMaps.setBlock w10 mb o2) w2.heap.size) := jh (by rw [TK.out]; exact gp.mapKept hm10 k1011)
    have ok10 := ((own_on OK9.out).kept K10 (fun b _ hb e => own_kindsK OK9.out O9.out (by decide) b hb e)).self
    have OK11 : Hid ((ChangeMaps.setBlock w10 mb o2).ownsRow w2.heap.size 102 3 (.slice s7 KL.length c7) KL.length (KL.flatMap kyL)) := jh ((own_on ok10).kept k1011 (fun b _ hb e => own_ne_mapK ok10 hm10 (by rw [hb, e]))).self
    have KK11 : Hid (Kept (fun b => b = mb) w2 (ChangeMaps.setBlock w10 mb o2)) := jh ((KK9.out.up K10 (fun i hi => .inl (jJ O9.out i hi))).trans k1011)
    have HM11 := jh hm2
    have LK11 := jh (LKL.out (.slice s3 (n0 + 1) c3))
    have ZL := jh hzl
    clear h2 h3 hat K10 hm10 hs10 hm2 k1011 gp ok10 GP O9 OK9 NC9 BA9 SA9 HM9 KK9 he he2 y0 y1 y2 c1 c2
    go_wp2_with fail
    refine ⟨⟨z + 1, putL M k (.slice s3 (n0 + 1) c3), s7, c7, by have := ZL.out; omega, by go_num, by rw [LK11.out.2], GK11, HM11, ?_, KK11⟩, by have := ZL.out; simp [intOf]; omega⟩
    rw [← LK11.out.2, ← LK11.out.1]
    exact OK11
  ·obtain rfl : z = LB.length := by omega
   have TL : ps.take LB.length = ps := by rw [← PL.out, List.take_length]
   rw [TL] at GK
   obtain ⟨K, hK⟩ : ∃ K, M.map (·.1) = K := ⟨_, rfl⟩
   have hln : M.length = K.length := by rw [← hK, List.length_map]
   have K4 : K.length ≤ 4096 := by have h1 := GK.out.short; rw [hln, PL.out] at h1; omega
   have BR : Hid (Below W.heap.size W wr) := jh (B2.out.trans (KK.out.below B2.out.size (by rintro b rfl; have := MB.out; omega)))
   have ND : Hid K.Nodup := jh (by
    rw [← hK, List.nodup_iff_pairwise_ne, List.pairwise_map]
    exact MM.out.apart)
   rw [hK, hln] at OK
   have HK := jh hK
   have SO := jh (fk_Sort w2.heap.size (.slice s6 K.length c6) K wr OK.out (by omega))
   rw [hln]
   clear TL hK hln hz hzl KK
   go_wp2_with fail
   refine SO.out.mono ?_
   rintro e w4 ⟨K', rfl, pK, sK, oK, kK⟩
   have hl' : K'.length = K.length := pK.length_eq
   rw [hl'] at oK
   have PK := jh pK
   have RK := jh (keys_rise pK ND.out sK)
   have HL := jh hl'
   have GK4 := jh (GK.out.kept kK (fun y hy b hb e => own_kindsK OK.out (GK.out.own y hy) (by decide) b e hb))
   have MM4 := jh (MM.out.kept kK (fun e => own_ne_mapK OK.out MM.out e))
   have OK4 := jh oK
   have BR4 : Hid (Below W.heap.size W w4) := jh (BR.out.trans (kK.below BR.out.size (fun b hb => Nat.le_trans B2.out.size (jJ OK.out b hb))))
   obtain ⟨w5, hmk, hown, hgrow⟩ := run_make_own (P := Tryz.prog) w4 w4.heap.size 107 115 k0 _ 4 Tryz.underlying107 hkk hx0 hx1 .i64 .i64 K.length (by rw [hx2]; omega) (by unfold maxLen; omega) (Nat.le_refl _)
   have B5 : Hid (Below w4.heap.size w4 w5) := jh ((Below.refl _ _).grown hgrow (Nat.le_refl _) (fun g hg => by cases hg))
   have O5 : Hid (OwnCl w5 w4.heap.size (.slice (some ⟨w4.heap.size, 0, none⟩) ([] : List Cls).length K.length) [] (fun _ => False)) := jh ⟨hown, fun _ _ x hx => (by cases hx), fun _ h => h.elim, fun _ _ h => h⟩
   have LE0 : Hid (([] : List Cls).map (·.key) = K'.take 0) := jh rfl
   have LP0 : Hid (∀ x ∈ ([] : List Cls), x.ps = psOf kf x.key ps) := jh (fun x hx => by cases hx)
   clear pK sK oK kK hl' GK MM OK SO hown hgrow BR
   go_wp2_with fail
   clear hmk
   go_loopw [13, 66] (fun t13 t66 wr => ∃ (y : Nat) (L : List Cls) (s13 : Option Addr) (c13 : Nat) (Q : Nat → Prop), y ≤ K.length ∧ t66 = .int .i64 y ∧ t13 = .slice s13 L.length c13 ∧ Hid (OwnCl wr w4.heap.size (.slice s13 L.length c13) L Q) ∧ Hid (L.map (·.key) = K'.take y) ∧ Hid (∀ x ∈ L, x.ps = psOf kf x.key ps) ∧ Hid (Below w4.heap.size w4 wr)) (fun _ t66 _ => K.length - (intOf t66).toNat)
   case atStart => exact ⟨0, [], _, _, _, by omega, rfl, rfl, O5, LE0, LP0, B5⟩
   case round =>
    clear O5 LE0 LP0 B5
    obtain ⟨y, L, s13, c13, Q, hy, rfl, rfl, OC, LE, LP, BC⟩ := hrel
    by_cases hyl : y < K.length
    ·obtain ⟨k, hk⟩ : ∃ k, K'[y]? = some k := ⟨_, List.getElem?_eq_getElem (by rw [HL.out]; exact hyl)⟩
     have kmem : k ∈ M.map (·.1) := by rw [HK.out]; exact PK.out.mem_iff.1 (List.mem_of_getElem? hk)
     have TK : Hid (K'.take (y + 1) = K'.take y ++ [k]) := jh (take_snoc hk)
     obtain ⟨⟨k', v⟩, hv, hkk'⟩ := List.mem_map.1 kmem
     have hkk' : k' = k := hkk'
     subst hkk'
     have LL : L.length ≤ 4096 := by
      have h1 := congrArg List.length LE.out
      rw [List.length_map, List.length_take] at h1; omega
     have hg : getL M k' = some v := getL_of_mem MM4.out.apart hv
     have ow : w4.ownsRow w2.heap.size 53 2 v (psOf kf k' ps).length ((psOf kf k' ps).flatMap encP) := GK4.out.own (k', v) hv
     have KX : Hid (KyOk k') := jh (GK4.out.oks (k', v) hv)
     have nl : (psOf kf k' ps).length ≤ 4096 := Nat.le_trans (psOf_len _ _ _) (by rw [PL.out]; exact L4)
     obtain ⟨s0, c0, rfl, -⟩ := jV ow
     have PO : Hid (∀ p ∈ psOf kf k' ps, OkP p) := jh (fun p hp => (PR.out p (psOf_mem.1 hp).1).1)
     have OFK := jh (fun w' (hb : Below w4.heap.size w4 w') => ps_Of (.slice s0 (psOf kf k' ps).length c0) (psOf kf k' ps) w' ((OwnPs.at ⟨jQ ow hb, PO.out⟩)))
     have OE := jh (ofE_right nl (fun p hp => PR.out p (psOf_mem.1 hp).1) (psOf_srt SP.out))
     have RW := jh (own_slat kyL_len (show w4.ownsRow w2.heap.size 102 3 (.slice s6 K.length c6) K'.length (K'.flatMap kyL) by rw [HL.out]; exact OK4.out))
     obtain ⟨g6, o6, rfl, e0, e1, e2⟩ := ky_at RW.out hk
     have f0 := jA e0 BC.out
     have f1 := jA e1 BC.out
     have f2 := jA e2 BC.out
     have hl := fun w' (hb : Below w4.heap.size w4 w') => (MM4.out.below hb).look ky_enc Tryz.underlying184 k' KX.out zero_pfs w' rfl false
     simp only [if_false, Bool.false_eq_true, hg, Option.map_some, Option.getD_some] at hl
     have HLK := jh hl
     have y0 : (0 : Int) ≤ (y : Int) := by omega
     have y1 : (y : Int) < (K.length : Int) := by omega
     clear hk kmem hv hg ow e0 e1 e2 hl
     go_upto_region 18 with (fail)
     obtain ⟨w6, hw6, q6, hb6, -⟩ := box1 wr (kyC k') 102
     rw [show wr.alloc (.cells #[.int .i64 k'.from_, .int .i64 k'.best, .int .i64 k'.may] 102) = w6 from hw6.symm]
     obtain ⟨kb, hkb⟩ : ∃ kb, kb = wr.heap.size := ⟨_, rfl⟩
     rw [← hkb] at q6 ⊢
     have hl6 := HLK.out w6 (jC BC.out hb6)
     obtain ⟨t0, t1, t2⟩ := key_cells q6
     have B6 := jh hb6
     have Q6 := jh q6
     have OFX : Hid (Calls Tryz.prog 105 #[.slice s0 (psOf kf k' ps).length c0] w6 fun e w' => ∃ v', e = .returned (.tuple #[.agg #[v'], .int .i64 0]) ∧ OwnPs w' w6.heap.size v' (psOf kf k' ps) ∧ Below w6.heap.size w6 w') := jh (by
      refine (OFK.out w6 (jC BC.out hb6)).mono ?_
      rintro e w' ⟨v', h1, h2, h3⟩
      rw [OE.out.1] at h1
      rw [OE.out.2] at h2
      exact ⟨v', h1, h2, h3⟩)
     clear hw6 q6 hb6 hkb f0 f1 f2 OFK OE
     go_wp2_with fail
     refine OFX.out.mono ?_
     rintro e w7 ⟨v', rfl, op, hb7⟩
     have FR : Hid (Fresh w6.heap.size w7 fun W => PsAt W v' (psOf kf k' ps)) := jh ((own_fresh op.1).imp fun _ h => OwnPs.at ⟨h, op.2⟩)
     obtain ⟨s8, c8, rfl, -⟩ := jV op.1
     have B67 := jh hb7
     have Q7 := (hb7.block _ (jE Q6.out)).trans Q6.out
     clear hl6 t0 t1 t2 op hb7 OFX HLK
     obtain ⟨t0, t1, t2⟩ := key_cells Q7
     clear Q7
     obtain ⟨w8, hw8, q8, -, hb8, -⟩ := box1c w7 (.slice s8 (psOf kf k' ps).length c8) 113
     have B78 := jh hb8
     replace t0 := jA t0 hb8
     replace t1 := jA t1 hb8
     replace t2 := jA t2 hb8
     have ZL := jh hyl
     go_upto_region 20 with (fail)
     rw [← hw8]
     obtain ⟨sb8, hsb8⟩ : ∃ b, b = w7.heap.size := ⟨_, rfl⟩
     rw [← hsb8] at q8 ⊢
     obtain ⟨m8, hm8⟩ : ∃ m, (psOf kf k' ps).length = m := ⟨_, rfl⟩
     have HM8 := jh hm8
     rw [hm8] at q8 FR ⊢
     have hal : Below w8.heap.size w8 (w8.alloc (.cells #[.int .i64 k'.from_, .int .i64 k'.best, .int .i64 k'.may, .slice s8 m8 c8] 115)) := (Below.refl _ _).alloc (Nat.le_refl _) _
     have B17 := jh (jC B6.out B67.out)
     have B79 := jh (jC B78.out hal)
     have OA := jh (OC.out.below (jC B17.out B79.out))
     have NC := jh (new_cells w8 #[.int .i64 k'.from_, .int .i64 k'.best, .int .i64 k'.may, .slice s8 m8 c8] 115)
     have BA : Hid (w4.heap.size ≤ (w8.alloc (.cells #[.int .i64 k'.from_, .int .i64 k'.best, .int .i64 k'.may, .slice s8 m8 c8] 115)).heap.size) := jh (Nat.le_trans BC.out.size (jC B17.out B79.out).size)
     clear hal hw8 hb8 hsb8 hm8 B67 B78 Q6
     go_wp2_with (at_builtin; refine wpList_append_own_at _ rfl _ _ 107 rfl w4.heap.size 115 k0 _ 4 48 Tryz.underlying107 hkk hx0 hx1 hx2 rfl (by decide) (.slice s13 L.length c13) L.length (L.flatMap clL) rfl OA.out.own ⟨w8.heap.size, 0, none⟩ 1 1 [.int .i64 k'.from_, .int .i64 k'.best, .int .i64 k'.may, .slice s8 m8 c8] rfl rfl NC.out (cl_one k' s8 m8 c8) (by unfold maxLen; omega) (by omega) BA.out ?_)
     intro v3 w10 h2 h3 _ hat
     obtain ⟨s3, c3, hv3, -⟩ := jV h2
     subst hv3
     have OS : Hid (OwnCl w10 w4.heap.size (.slice s3 (L ++ [(⟨k', psOf kf k' ps, .slice s8 m8 c8⟩ : Cls)]).length c3) (L ++ [⟨k', psOf kf k' ps, .slice s8 m8 c8⟩]) _) := jh (by
      rw [List.length_append]
      exact OC.out.step (x := ⟨k', psOf kf k' ps, .slice s8 m8 c8⟩) (v' := .slice s3 (L.length + 1) c3) B17.out B6.out.size BC.out.size FR.out B79.out h2 (kept_gr h3) (by simpa using hat))
     have BN : Hid (Below w4.heap.size w4 w10) := jh ((jC BC.out (jC B17.out B79.out)).trans ((kept_gr h3).below BA.out fun g hg => jJ OA.out.own g hg))
     have LEN : Hid ((L ++ [(⟨k', psOf kf k' ps, .slice s8 m8 c8⟩ : Cls)]).map (·.key) = K'.take (y + 1)) := jh (by rw [List.map_append, LE.out, TK.out]; rfl)
     have LPN : Hid (∀ x ∈ L ++ [(⟨k', psOf kf k' ps, .slice s8 m8 c8⟩ : Cls)], x.ps = psOf kf x.key ps) := jh (fun x hx => by
      rcases List.mem_append.1 hx with hx | hx
      ·exact LP.out x hx
      ·rw [List.mem_singleton] at hx; subst hx; rfl)
     have LLN : Hid ((L ++ [(⟨k', psOf kf k' ps, .slice s8 m8 c8⟩ : Cls)]).length = L.length + 1) := jh (by simp)
     clear h2 h3 hat OA NC BA FR OC LE LP BC B6 B17 B79 t0 t1 t2 q8
     go_wp2_with fail
     exact ⟨⟨y + 1, _, s3, c3, _, by have := ZL.out; omega, by go_num, by rw [LLN.out], OS, LEN, LPN, BN⟩, by have := ZL.out; simp [intOf]; omega⟩
    ·obtain rfl : y = K.length := by omega
     have LE2 : Hid (L.map (·.key) = K') := jh (by rw [LE.out, ← HL.out, List.take_length])
     have OC2 := jh (OC.out.base (B' := W.heap.size) BR4.out.size)
     have FB : Hid (Below W.heap.size W wr) := jh (jC BR4.out BC.out)
     have KM : Hid (∀ k, k ∈ K' ↔ k ∈ M.map (·.1)) := jh (fun k => by rw [HK.out]; exact PK.out.mem_iff)
     clear OC LE BC hy hyl
     go_wp2_with fail
     go_ret
     refine ⟨s13, c13, L, Q, ps, rfl, OC2.out, SP.out, PB.out, PR.out, by rw [LE2.out]; exact RK.out, fun x hx => ⟨LP.out x hx, ?_⟩, fun p hp => ?_, FB.out⟩
     ·rw [LP.out x hx]
      have h1 : x.key ∈ M.map (·.1) := (KM.out _).1 (by rw [← LE2.out]; exact List.mem_map_of_mem hx)
      obtain ⟨y, hy, e⟩ := List.mem_map.1 h1
      rw [← e]
      exact GK4.out.non y hy
     ·rw [LE2.out, KM.out]
      exact GK4.out.cov p hp
open Go.RowKit
theorem nodup_sub {α : Type} [DecidableEq α] : ∀ (l m : List α), l.Nodup → (∀ x ∈ l, x ∈ m) → l.length ≤ m.length
 | [], _, _, _ => Nat.zero_le _
 | x :: l, m, hn, hs => by
  have hx := hs x (List.mem_cons_self ..)
  obtain ⟨h1, h2⟩ := List.nodup_cons.1 hn
  have := nodup_sub l (m.erase x) h2 fun y hy => by
   have hne : y ≠ x := fun e => h1 (e ▸ hy)
   exact (List.mem_erase_of_ne hne).2 (hs y (List.mem_cons_of_mem _ hy))
  rw [List.length_erase_of_mem hx] at this
  have hp : 0 < m.length := List.length_pos_of_mem hx
  rw [List.length_cons]
  omega
theorem flat_le {α β : Type} (f : α → List β) (B : Nat) : ∀ (l : List α), (∀ x ∈ l, (f x).length ≤ B) → (l.flatMap f).length ≤ l.length * B
 | [], _ => by simp
 | x :: l, h => by
  have h1 := flat_le f B l fun y hy => h y (List.mem_cons_of_mem _ hy)
  have h2 := h x (List.mem_cons_self ..)
  rw [List.flatMap_cons, List.length_append, List.length_cons, Nat.add_mul]
  omega
def Ab.bestI (A : Ab) (n : Int) (p : Pf) : Option (Int × At) := if 0 ≤ n ∧ n < (A.V.length : Int) then A.best n.toNat p else none
def Ab.kf (A : Ab) (n : Int) (p : Pf) : Ky := (A.keyI n p).getD ky0
theorem key_of {A : Ab} {n : Int} {p : Pf} (h : (A.bestI n p).isSome = true) : A.keyI n p = some (A.kf n p) := by
 unfold Ab.bestI at h
 split at h
 ·rename_i hn
  obtain ⟨i, rfl⟩ := Int.eq_ofNat_of_zero_le hn.1
  unfold Ab.kf
  rw [keyI_at A (by omega)]
  unfold Ab.key
  obtain ⟨b, hb⟩ := Option.isSome_iff_exists.1 h
  rw [Int.toNat_natCast] at hb
  rw [hb]; rfl
 ·cases h
section
variable {w W : World} {rho : Nat → Role} {sb fb : Nat} {ls : List Pl} {A : Ab}
theorem LSv.short (h : LSv w W rho sb fb ls A) {n : Nat} {v : VM} (hv : A.V[n]? = some v) : v.2.2.length ≤ 256 := by
 obtain ⟨S, h1, h2⟩ := h.srv
 have hn : n < S.ms.length := by rw [h2.len]; exact (List.getElem?_eq_some_iff.1 hv).1
 obtain ⟨m, hm⟩ : ∃ m, S.ms[n]? = some m := ⟨_, List.getElem?_eq_getElem hn⟩
 obtain ⟨l, -, hM⟩ := h1.get hm
 have e := (h2.get hm).1
 rw [hv] at e
 injection e with e
 subst e
 obtain ⟨tb, N, E, hI, he⟩ := hM.rib
 have r1 := hI.room
 have r2 := hI.most1
 have : m.R.length = E.length := by rw [he]; simp [rts]
 show m.R.length ≤ 256
 omega
theorem LSv.fewB (h : LSv w W rho sb fb ls A) (n : Int) {ps : List Pf} (hn : ps.Nodup) (hb : ∀ p ∈ ps, (A.bestI n p).isSome = true) : ps.length ≤ 4096 := by
 have h1 := nodup_sub ps (A.V.flatMap fun v => v.2.2.map (·.1)) hn fun p hp => by
  have h2 := hb p hp
  unfold Ab.bestI at h2
  split at h2
  ·obtain ⟨b, hb2⟩ := Option.isSome_iff_exists.1 h2
   obtain ⟨k, v, -, hv, hg, -⟩ := best_from (A := A) (i := n.toNat) (p := p) (j := b.1) (a := b.2) hb2
   exact List.mem_flatMap.2 ⟨v, List.mem_of_getElem? hv, List.mem_map.2 ⟨_, getL_mem hg, rfl⟩⟩
  ·cases h2
 have h2 := flat_le (fun v : VM => v.2.2.map (·.1)) 256 A.V fun v hv => by
  obtain ⟨i, hi⟩ := List.getElem?_of_mem hv
  rw [List.length_map]
  exact h.short hi
 have h3 := h.few
 have h4 : A.V.length * 256 ≤ 16 * 256 := Nat.mul_le_mul_right _ h3
 omega
theorem LSv.kyok (h : LSv w W rho sb fb ls A) (n : Int) {p : Pf} (hb : (A.bestI n p).isSome = true) : KyOk (A.kf n p) := by
 have hk := key_of hb
 unfold Ab.bestI at hb
 split at hb
 ·rename_i hn
  obtain ⟨i, rfl⟩ := Int.eq_ofNat_of_zero_le hn.1
  rw [keyI_at A (by omega)] at hk
  unfold Ab.key at hk
  obtain ⟨b, hb2⟩ := Option.isSome_iff_exists.1 hb
  rw [Int.toNat_natCast] at hb2
  rw [hb2] at hk
  injection hk with hk
  rw [← hk]
  obtain ⟨k, v, h1, hv, -⟩ := best_from (A := A) (i := i) (p := p) (j := b.1) (a := b.2) hb2
  have h3 := h.few
  have h4 := (List.getElem?_eq_some_iff.1 hv).1
  have h5 := may_lt h.few i p
  refine ⟨?_, ?_, ?_⟩
  ·show I64r (i : Int); unfold I64r; omega
  ·show I64r b.1; rw [h1]; unfold I64r; omega
  ·show I64r (A.may i p : Int); unfold I64r; omega
 ·cases hb
theorem ls_OfI (h : LSv w W rho sb fb ls A) (n : Int) (p : Pf) (hp : KOk p) : Calls Tryz.prog 48 #[.pointer (some ⟨sb, 0, none⟩), .int .i64 n, .agg #[.int .u32 p.1, .int .i64 p.2]] W (OfPostK (A.keyI n p) W) := by
 by_cases hn : 0 ≤ n ∧ n < (A.V.length : Int)
 ·obtain ⟨i, rfl⟩ := Int.eq_ofNat_of_zero_le hn.1
  rw [keyI_at A (by omega)]
  exact fc_Of h (by omega) p hp
 ·rw [keyI_no A hn]
  exact fc_Of_no h hn p
theorem ls_BestsI (h : LSv w W rho sb fb ls A) (n : Int) : Calls Tryz.prog 25 #[.pointer (some ⟨sb, 0, none⟩), .int .i64 n] W (BestsPost (A.bestI n) W) := by
 by_cases hn : 0 ≤ n ∧ n < (A.V.length : Int)
 ·obtain ⟨i, rfl⟩ := Int.eq_ofNat_of_zero_le hn.1
  have e : A.bestI (i : Int) = A.best i := by
   funext p
   unfold Ab.bestI
   rw [if_pos hn, Int.toNat_natCast]
  rw [e]
  exact ls_Bests h (by omega)
 ·obtain ⟨S, h1, h2⟩ := h.srv
  refine (sv_Bests_no h1 (by rw [h2.len]; exact hn)).mono ?_
  rintro e w' ⟨rfl, rfl⟩
  refine ⟨none, 0, [], _, rfl, OwnR.nil _ _, List.Pairwise.nil, fun x hx => (by cases hx), fun p b hb => ?_, Below.refl _ _⟩
  unfold Ab.bestI at hb
  rw [if_neg hn] at hb
  cases hb
theorem ls_All (h : LSv w W rho sb fb ls A) (n : Int) : Calls Tryz.prog 51 #[.pointer (some ⟨sb, 0, none⟩), .int .i64 n] W (AllPostK (A.bestI n) (A.kf n) W) :=
 fc_AllG _ n _ _ W (fun w' hb => ls_BestsI (h.below hb) n) (fun w' hb p hs hk => by
  have := ls_OfI (h.below hb) n p hk
  rw [key_of hs] at this
  exact this) (fun ps hn hb => h.fewB n hn hb) (fun p hb => h.kyok n hb)
end
open Go.RowKit
theorem and_3f (x : Int) : bits .and .i64 x 3 = x % 4 := and_low_i64 x 2 (by decide)
def Ab.blockI (A : Ab) (n k : Int) (b : Bool) : Ab := if (0 ≤ n ∧ n < (A.V.length : Int)) ∧ (0 ≤ k ∧ k < (A.V.length : Int)) then A.block n.toNat k.toNat b else A
section
variable {w W : World} {rho : Nat → Role} {sb fb : Nat} {ls : List Pl} {A : Ab}
theorem ls_BlockI (h : LSv w W rho sb fb ls A) (n k : Int) (b : Bool) :
  Calls Tryz.prog 26 #[.pointer (some ⟨sb, 0, none⟩), .int .i64 n, .int .i64 k, .bool b] W fun e w' => ∃ (rho' : Nat → Role) (c : Int), e = .returned (.int .i64 c) ∧ LSv w w' rho' sb fb ls (A.blockI n k b) ∧ Step rho rho' W w' := by
 by_cases hn : (0 ≤ n ∧ n < (A.V.length : Int)) ∧ (0 ≤ k ∧ k < (A.V.length : Int))
 ·obtain ⟨i, rfl⟩ := Int.eq_ofNat_of_zero_le hn.1.1
  obtain ⟨j, rfl⟩ := Int.eq_ofNat_of_zero_le hn.2.1
  refine (ls_Block h (i := i) (j := j) (by omega) (by omega) b).mono ?_
  rintro e w' ⟨rho', rfl, hl, st⟩
  refine ⟨rho', _, rfl, ?_, st⟩
  unfold Ab.blockI
  rw [if_pos hn]
  exact hl
 ·refine (ls_Block_no h hn b).mono ?_
  rintro e w' ⟨rfl, rfl⟩
  refine ⟨rho, _, rfl, ?_, Step.refl⟩
  unfold Ab.blockI
  rw [if_neg hn]
  exact h
end
def Ab.say21 (A : Ab) (s : Stp) : Ab := if bigM s.x then A else if s.on then A.blockI (s.n % 4) (s.to_ % 4) (bits .and .i64 s.n 4 == 0) else A.updI (s.n % 4) s.x.m.kind s.x.gone s.x.nets s.x.a
def Ab.says21 (A : Ab) (xs : List Stp) : Ab := xs.foldl Ab.say21 A
theorem says21_snoc (A : Ab) (xs : List Stp) (s : Stp) : A.says21 (xs ++ [s]) = (A.says21 xs).say21 s := by unfold Ab.says21; rw [List.foldl_append]; rfl
structure SameIn (A B : Ab) : Prop where
 len : B.V.length = A.V.length
 th : B.th = A.th
 own : B.own = A.own
 most : B.most = A.most
theorem SameIn.trans {A B C : Ab} (h : SameIn A B) (k : SameIn B C) : SameIn A C := ⟨k.len.trans h.len, k.th.trans h.th, k.own.trans h.own, k.most.trans h.most⟩
def toldA (n : Nat) (xs : List Stp) : Ab := (joinN (newA 65000 40 (sdsN n)) n).says21 (xs.take 20)
theorem saids_at {w : World} {s : Option Addr} {n c : Nat} {xs : List Stp} (h : SaidsAt w (.slice s n c) xs) {i : Nat} {x : Stp} (hx : xs[i]? = some x) : ∃ g o, s = some ⟨g, o, none⟩ ∧ w.rangeAt g (o + i * 23) x.C21.toList ∧ StpOk x ∧ MsAt w x.x := by
 obtain ⟨s', c', e, h1, h2, h3⟩ := h
 injection e with e _ _
 subst e
 have hi := (List.getElem?_eq_some_iff.1 hx).1
 obtain ⟨b, off, rfl, h4⟩ := h3 (by omega)
 obtain ⟨cs, l, ⟨rfl, hR, hm⟩, hc⟩ := h4 i x hx
 exact ⟨b, off, rfl, fun j v hv => hc j v hv, hR, hm⟩
theorem said_range {W : World} {g o : Nat} {s : Stp} (h : W.rangeAt g o s.C21.toList) : W.rangeAt g (o + 3) s.x.m.C.toList := by
 intro j v hv
 have hj : j < 20 := by have := (List.getElem?_eq_some_iff.1 hv).1; simpa using this
 have h4 := h (3 + j) v (by
  rw [← hv]
  match j, hj with
  | 0, _ => rfl
  | 1, _ => rfl
  | 2, _ => rfl
  | 3, _ => rfl
  | 4, _ => rfl
  | 5, _ => rfl
  | 6, _ => rfl
  | 7, _ => rfl
  | 8, _ => rfl
  | 9, _ => rfl
  | 10, _ => rfl
  | 11, _ => rfl
  | 12, _ => rfl
  | 13, _ => rfl
  | 14, _ => rfl
  | 15, _ => rfl
  | 16, _ => rfl
  | 17, _ => rfl
  | 18, _ => rfl
  | 19, _ => rfl)
 rw [← h4]
 congr 2; omega
theorem sz_sai : (Tryz.prog.info? 183).map (·.size) = some 23 := by kernel_rfl
theorem sai_one (x : Stp) : x.C21.all (·.oneCell') = true := by simp [Value.oneCell']
set_option maxHeartbeats 6400000 in
set_option maxRecDepth 100000 in
theorem l_told (n : Nat) (h1 : 1 ≤ n) (h16 : n ≤ 16) (v : Value) (xs : List Stp) (w : World) (hv : SaidsAt w v xs) (hz : ∀ x ∈ xs, MsSz x.x) :
  Calls Tryz.prog 52 #[.int .i64 n, v] w fun e w' => ∃ (rho : Nat → Role) (sb fb : Nat) (ls : List Pl), e = .returned (.pointer (some ⟨sb, 0, none⟩)) ∧ LSv w w' rho sb fb ls (toldA n xs) := by
 obtain ⟨s0, c0, rfl, hl1, hl2, -⟩ := id hv
 have xl : xs.length ≤ 9223372036854775807 := Nat.le_trans hl1 hl2
 have HV := jh hv
 have HZ := jh hz
 have SD := jh (l_sides21 n h16)
 have NC := jh (newCd_sds (n := n) (by omega) h16)
 clear hv hz hl1 hl2
 go_enter Tryz.func52, Tryz.ntmps52
 go_wp2_with fail
 refine (SD.out w).mono ?_
 rintro e w2 ⟨s1, c1, rfl, ow, hb2⟩
 have NW := jh (ls_New 65000 40 (.slice s1 n c1) (sdsN n) w w2 hb2 (sds_own ow h16) NC.out)
 clear ow hb2
 go_wp2_with fail
 refine NW.out.mono ?_
 rintro e w3 ⟨rho, sb, fb, ls, rfl, L0, -, -⟩
 obtain ⟨A1, hA1⟩ : ∃ A1, newA 65000 40 (sdsN n) = A1 := ⟨_, rfl⟩
 have V1 : Hid (A1.V.length = n) := jh (by rw [← hA1]; exact newA_len ..)
 have T1 : Hid (∀ i, A1.th i = false) := jh (by rw [← hA1]; exact fun _ => rfl)
 have TA : Hid (toldA n xs = (joinN A1 n).says21 (xs.take 20)) := jh (by unfold toldA; rw [hA1])
 rw [hA1] at L0
 have J0 : Hid (LSv w w3 rho sb fb ls (joinN A1 0)) := jh L0
 clear hA1 L0 NW SD NC
 go_wp2_with fail
 go_loopw [7] (fun t7 wr => ∃ k : Nat, k ≤ n ∧ t7 = .int .i64 k ∧ Hid (LSv w wr rho sb fb ls (joinN A1 k))) (fun t7 _ => n - (intOf t7).toNat)
 case atStart => exact ⟨0, by omega, rfl, J0⟩
 case round =>
  clear J0
  obtain ⟨k, hk, rfl, LJ⟩ := hrel
  by_cases hkn : k < n
  ·have dk : decide ((k : Int) < (n : Int)) = true := by simp; omega
   have JN := jh (ls_Join LJ.out (i := k) (by rw [(joinN_V A1 k).1, V1.out]; exact hkn) (by rw [joinN_th, if_neg (by omega)]; exact T1.out k))
   clear LJ
   go_wp2_with fail
   refine JN.out.mono ?_
   rintro e w6 ⟨rfl, hl, -⟩
   have LJ2 : Hid (LSv w w6 rho sb fb ls (joinN A1 (k + 1))) := jh (by rw [joinN_succ]; exact hl)
   clear hl JN
   go_wp2_with fail
   exact ⟨⟨k + 1, by omega, by go_num, LJ2⟩, by simp [intOf]; omega⟩
  ·obtain rfl : k = n := by omega
   have dk : decide ((k : Int) < (k : Int)) = false := by simp
   obtain ⟨A2, hA2⟩ : ∃ A2, joinN A1 k = A2 := ⟨_, rfl⟩
   rw [hA2] at LJ TA
   have U0 : Hid (LSv w wr rho sb fb ls (A2.says21 (xs.take 0))) := LJ
   clear hA2 LJ V1 T1 hkn hk
   go_wp2_with fail
   clear dk
   go_loopw [8] (fun t8 wr => ∃ (j : Nat) (rho2 : Nat → Role), j ≤ xs.length ∧ j ≤ 20 ∧ t8 = .int .i64 j ∧ Hid (LSv w wr rho2 sb fb ls (A2.says21 (xs.take j)))) (fun t8 _ => xs.length - (intOf t8).toNat)
   case atStart => exact ⟨0, rho, by omega, by omega, rfl, U0⟩
   case round =>
    clear U0
    obtain ⟨j, rho2, hj, hj20, rfl, LU⟩ := hrel
    by_cases hjl : j < xs.length ∧ j < 20
    ·obtain ⟨x, hx⟩ : ∃ x, xs[j]? = some x := ⟨_, List.getElem?_eq_getElem hjl.1⟩
     have j1 : decide ((j : Int) < (xs.length : Int)) = true := by simp; omega
     have j2 : decide ((j : Int) < 20) = true := by simp; omega
     have i0 : (0 : Int) ≤ (j : Int) := by omega
     have i1 : (j : Int) < (xs.length : Int) := by omega
     have SN : Hid (A2.says21 (xs.take (j + 1)) = (A2.says21 (xs.take j)).say21 x) := jh (by rw [take_snoc hx, says21_snoc])
     have JL := jh hjl
     have MZ := jh (HZ.out x (List.mem_of_getElem? hx))
     obtain ⟨g, o, rfl, hrg, hok, hms⟩ := saids_at HV.out hx
     have RG := jh (range_below hrg LU.out.bel)
     have MS := jh hms
     clear hx hrg hok hms hjl hj hj20
     go_wp2_with ((with_reducible refine jM (X := .load 183 (.tmp 38)) ?_ ?_); (· rfl))
     unfold Halt
     refine ldm_at (by rfl) 183 (.tmp 38) rfl g (o + j * 23) rfl x.C21.toList _ RG.out Tryz.underlying183 rfl sz_sai ?_
     go_wp2_with ((with_reducible refine jM (X := .store 183 (.tmp 9) (.tmp 39)) ?_ ?_); (· rfl))
     unfold Halt
     refine st_fresh rfl 183 (.tmp 9) (.tmp 39) rfl rfl _ x.C21 rfl sz_sai rfl (sai_one x) ?_
     obtain ⟨w4, hw4, q4, hb4, -⟩ := box1 wr x.C21 183
     rw [← hw4]
     obtain ⟨tb, htb⟩ : ∃ tb, tb = wr.heap.size := ⟨_, rfl⟩
     rw [← htb] at q4 ⊢
     have d0 : w4.cell? ⟨tb, 0, none⟩ = some (.int .i64 x.n) := jB q4 0
     have d1 : w4.cell? ⟨tb, 1, none⟩ = some (.int .i64 x.to_) := jB q4 1
     have d2 : w4.cell? ⟨tb, 2, none⟩ = some (.bool x.on) := jB q4 2
     have RM : Hid (w4.rangeAt tb 3 x.x.m.C.toList) := jh (by
      have := said_range (W := w4) (g := tb) (o := 0) (s := x) (fun j v hv => by
       rw [jB q4 (0 + j), Nat.zero_add]
       simpa using hv)
      simpa using this)
     have LU4 := jh (LU.out.below hb4)
     have BG := jh (l_big21 x.x w4 (MS.out.below LU4.out.bel))
     clear hw4 q4 hb4 htb RG LU
     simp only [Act.put]
     go_wp2_with ((with_reducible refine jM (X := .load 46 (.tmp 40)) ?_ ?_); (· rfl))
     unfold Halt
     refine ldm_at (by rfl) 46 (.tmp 40) rfl tb 3 rfl x.x.m.C.toList _ RM.out Tryz.underlying46 rfl sz_msgS ?_
     go_wp2_with fail
     refine BG.out.mono ?_
     rintro e w5 ⟨rfl, hb5⟩
     have LU5 := jh (LU4.out.below hb5)
     have RM5 := jh (range_below RM.out hb5)
     replace d0 := jA d0 hb5
     replace d1 := jA d1 hb5
     replace d2 := jA d2 hb5
     clear hb5 BG LU4 RM
     rcases hbg : bigM x.x with _ | _
     ·have GA := jh (bigM_no hbg MZ.out)
      have a3 : bits .and .i64 x.n 3 = x.n % 4 := and_3f x.n
      rcases hon : x.on with _ | _
      ·rw [hon] at d2
       have SE : Hid (A2.says21 (xs.take (j + 1)) = (A2.says21 (xs.take j)).updI (x.n % 4) x.x.m.kind x.x.gone x.x.nets x.x.a) := jh (by rw [SN.out]; unfold Ab.say21; rw [hbg, hon]; rfl)
       have UP := jh (ls_UpdateI LU5.out (x.n % 4) x.x (LU5.out.ms MS.out) GA.out.1 GA.out.2)
       clear hbg hon SN LU5 d1
       go_wp2_with ((with_reducible refine jM (X := .load 46 (.tmp 61)) ?_ ?_); (· rfl))
       unfold Halt
       refine ldm_at (by rfl) 46 (.tmp 61) rfl tb 3 rfl x.x.m.C.toList _ RM5.out Tryz.underlying46 rfl sz_msgS ?_
       go_wp2_with fail
       refine UP.out.mono ?_
       rintro e w6 ⟨rho3, v6, c6, rfl, l6, -⟩
       have LU6 : Hid (LSv w w6 rho3 sb fb ls (A2.says21 (xs.take (j + 1)))) := jh (by rw [SE.out]; exact l6)
       clear l6 UP d0 d2 RM5 a3
       go_wp2_with fail
       exact ⟨⟨j + 1, rho3, by have := JL.out; omega, by have := JL.out; omega, by go_num, LU6⟩, by have := JL.out; simp [intOf]; omega⟩
      ·rw [hon] at d2
       have a3t : bits .and .i64 x.to_ 3 = x.to_ % 4 := and_3f x.to_
       obtain ⟨z, hz⟩ : ∃ z, (bits .and .i64 x.n 4 == 0) = z := ⟨_, rfl⟩
       have SE : Hid (A2.says21 (xs.take (j + 1)) = (A2.says21 (xs.take j)).blockI (x.n % 4) (x.to_ % 4) z) := jh (by rw [SN.out]; unfold Ab.say21; rw [hbg, hon, hz]; rfl)
       have BK := jh (ls_BlockI LU5.out (x.n % 4) (x.to_ % 4) z)
       clear hbg hon SN LU5 RM5
       go_wp2_with fail
       refine BK.out.mono ?_
       rintro e w6 ⟨rho3, c6, rfl, l6, -⟩
       have LU6 : Hid (LSv w w6 rho3 sb fb ls (A2.says21 (xs.take (j + 1)))) := jh (by rw [SE.out]; exact l6)
       clear l6 BK d0 d1 d2 a3 a3t hz
       go_wp2_with fail
       exact ⟨⟨j + 1, rho3, by have := JL.out; omega, by have := JL.out; omega, by go_num, LU6⟩, by have := JL.out; simp [intOf]; omega⟩
     ·have LU8 : Hid (LSv w w5 rho2 sb fb ls (A2.says21 (xs.take (j + 1)))) := jh (by rw [SN.out]; unfold Ab.say21; rw [hbg]; exact LU5.out)
      clear hbg SN d0 d1 d2 LU5 RM5
      go_wp2_with fail
      exact ⟨⟨j + 1, rho2, by have := JL.out; omega, by have := JL.out; omega, by go_num, LU8⟩, by have := JL.out; simp [intOf]; omega⟩
    ·have TK : xs.take j = xs.take 20 := by
      by_cases h : j < 20
      ·have : j = xs.length := by omega
       subst this
       rw [List.take_length, List.take_of_length_le (by omega)]
      ·have : j = 20 := by omega
       rw [this]
     have F0 : Hid (LSv w wr rho2 sb fb ls (toldA k xs)) := jh (by rw [TA.out, ← TK]; exact LU.out)
     clear LU TK
     by_cases hj1 : j < xs.length
     ·have hj2 : ¬ j < 20 := fun h => hjl ⟨hj1, h⟩
      have j1 : decide ((j : Int) < (xs.length : Int)) = true := by simp; omega
      have j2 : decide ((j : Int) < 20) = false := by simp; omega
      have j3 : decide (j < 20) = false := by simp; omega
      have j4 : decide (j < xs.length) = true := by simp; omega
      clear hj1 hj2 hjl
      go_wp2_with fail
      go_ret
      exact ⟨rho2, sb, fb, ls, rfl, F0.out⟩
     ·have j1 : decide ((j : Int) < (xs.length : Int)) = false := by simp; omega
      have j4 : decide (j < xs.length) = false := by simp; omega
      clear hj1 hjl
      go_wp2_with fail
      go_ret
      exact ⟨rho2, sb, fb, ls, rfl, F0.out⟩
open Go.RowKit
theorem klt_ext : ∀ {l m : List Ky}, l.Pairwise klt → m.Pairwise klt → (∀ p, p ∈ l ↔ p ∈ m) → l = m
 | [], [], _, _, _ => rfl
 | [], q :: m, _, _, h => by have := (h q).2 (List.mem_cons_self ..); simp at this
 | p :: l, [], _, _, h => by have := (h p).1 (List.mem_cons_self ..); simp at this
 | p :: l, q :: m, hl, hm, h => by
  rw [List.pairwise_cons] at hl hm
  have e : p = q := by
   have h1 := (h p).1 (List.mem_cons_self ..)
   have h2 := (h q).2 (List.mem_cons_self ..)
   rcases List.mem_cons.1 h1 with h1 | h1
   ·exact h1
   ·rcases List.mem_cons.1 h2 with h2 | h2
    ·exact h2.symm
    ·exact absurd (klt_trans (hl.1 q h2) (hm.1 p h1)) (klt_irrefl _)
  subst e
  have := klt_ext hl.2 hm.2 fun x => by
   have hx := h x
   rw [List.mem_cons, List.mem_cons] at hx
   constructor
   ·intro k
    rcases hx.1 (.inr k) with e | e
    ·subst e; exact absurd (hl.1 _ k) (klt_irrefl _)
    ·exact e
   ·intro k
    rcases hx.2 (.inr k) with e | e
    ·subst e; exact absurd (hm.1 _ k) (klt_irrefl _)
    ·exact e
  rw [this]
def at7 : At := ⟨14, 0, [(false, [7])], 167772161, 0, 0, 0, 0, [], []⟩
abbrev avH (b : Nat) : AV := ⟨14, 0, some ⟨b, 0, none⟩, 1, 1, 167772161, 0, 0, 0, 0, none, 0, 0, none, 0, 0⟩
abbrev hX0 (s : Option Addr) (c b : Nat) : Stp := ⟨0, 0, 0, false, ⟨⟨2, 0, 0, 0, none, 0, 0, none, 0, 0, avH b, s, 2, c, 0, 0, ⟨#[]⟩⟩, [], [netP 1, netP 2], at7⟩⟩
abbrev hX1 (s : Option Addr) (c b : Nat) : Stp := ⟨0, 1, 0, false, ⟨⟨2, 0, 0, 0, none, 0, 0, none, 0, 0, avH b, s, 1, c, 0, 0, ⟨#[]⟩⟩, [], [netP 2], at7⟩⟩
def hB0 : Ab := joinN (newA 65000 40 (sdsN 3)) 3
def hB1 : Ab := hB0.upd 0 2 [] [netP 1, netP 2] at7
def hB2 : Ab := hB1.upd 1 2 [] [netP 2] at7
theorem h_set2 : setOf [netP 1, netP 2] = [netP 1, netP 2] := setOf_is (by simp [Srt, netP, plt]) (fun p => by simp)
theorem h_set1 : setOf [netP 2] = [netP 2] := setOf_is (by simp [Srt]) (fun p => by simp)
theorem h_own : passB at7.path 65000 = false := by decide +kernel
theorem hB_r1 : hB0.updR 0 2 [] [netP 1, netP 2] at7 = (0, [netP 1, netP 2], [(netP 1, at7), (netP 2, at7)]) := by
 show updP 65000 40 [] 2 [] [netP 1, netP 2] at7 = _
 have h1 : saidP [] [netP 1, netP 2] = [netP 1, netP 2] := h_set2
 have h2 : netsP 65000 [netP 1, netP 2] at7 = [netP 1, netP 2] := by unfold netsP; rw [h_own]; exact h_set2
 unfold updP
 rw [h1, h2]
 rfl
theorem hB1_is : hB1 = hB0.turn hB0.bl (setV hB0.V 0 [(netP 1, at7), (netP 2, at7)]) := by
 unfold hB1 Ab.upd
 rw [hB_r1]
 rfl
theorem hB_r2 : hB1.updR 1 2 [] [netP 2] at7 = (0, [netP 2], [(netP 2, at7)]) := by
 rw [hB1_is]
 show updP 65000 40 [] 2 [] [netP 2] at7 = _
 have h1 : saidP [] [netP 2] = [netP 2] := h_set1
 have h2 : netsP 65000 [netP 2] at7 = [netP 2] := by unfold netsP; rw [h_own]; exact h_set1
 unfold updP
 rw [h1, h2]
 rfl
theorem hB2_is : hB2 = hB1.turn hB1.bl (setV hB1.V 1 [(netP 2, at7)]) := by
 unfold hB2 Ab.upd
 rw [hB_r2]
 rfl
theorem hB2_V : hB2.V = [(65001, 1, [(netP 1, at7), (netP 2, at7)]), (65002, 2, [(netP 2, at7)]), (65003, 3, [])] := by
 rw [hB2_is, hB1_is]; rfl
theorem hB2_own : hB2.own = 65000 ∧ hB2.bl = fun _ => false := by rw [hB2_is, hB1_is]; exact ⟨rfl, rfl⟩
theorem big7 (m : MV) (n : List Pf) (h : n.length ≤ 20) : bigM ⟨m, [], n, at7⟩ = false := by
 unfold bigM
 have h1 : decide (20 < n.length) = false := by simp; omega
 have h2 : (decide (6 < at7.path.length) || (decide (40 < at7.comms.length) || (decide (5 < at7.others.length) || checkI at7 != 0))) = false := by decide +kernel
 simp only [h1, h2]
 rfl
theorem told_head (s s' : Option Addr) (c c' b b' : Nat) : toldA 3 [hX0 s c b, hX1 s' c' b'] = hB2 := by
 unfold toldA
 show ((hB0.say21 (hX0 s c b)).say21 (hX1 s' c' b')) = hB2
 have e1 : hB0.say21 (hX0 s c b) = hB1 := by
  unfold Ab.say21
  rw [big7 _ _ (by decide)]
  rfl
 rw [e1]
 unfold Ab.say21
 rw [big7 _ _ (by decide)]
 show hB1.updI 1 2 [] [netP 2] at7 = hB2
 unfold Ab.updI
 rw [if_pos (by rw [hB1_is]; decide +kernel)]
 rfl
theorem hB2_best1 : hB2.best 2 (netP 1) = some (0, at7) := by
 unfold Ab.best
 rw [hB2_V, hB2_own.1, hB2_own.2]
 rfl
theorem hB2_best2 : hB2.best 2 (netP 2) = some (0, at7) := by
 unfold Ab.best
 rw [hB2_V, hB2_own.1, hB2_own.2]
 rfl
theorem hB2_may1 : hB2.may 2 (netP 1) = 1 := by
 unfold Ab.may Ab.offs
 rw [hB2_V, hB2_own.1, hB2_own.2]
 rfl
theorem hB2_may2 : hB2.may 2 (netP 2) = 3 := by
 unfold Ab.may Ab.offs
 rw [hB2_V, hB2_own.1, hB2_own.2]
 rfl
theorem hB2_len : hB2.V.length = 3 := by rw [hB2_V]; rfl
theorem hB2_bestI (p : Pf) : hB2.bestI 2 p = hB2.best 2 p := by
 unfold Ab.bestI
 rw [hB2_len]; rfl
theorem hB2_some (p : Pf) : (hB2.bestI 2 p).isSome = true ↔ p ∈ [netP 1, netP 2] := by
 rw [hB2_bestI]
 constructor
 ·intro h
  obtain ⟨b, hb⟩ := Option.isSome_iff_exists.1 h
  obtain ⟨k, v, -, hv, hg, -⟩ := best_from (A := hB2) (i := 2) (p := p) (j := b.1) (a := b.2) hb
  rw [hB2_V] at hv
  have hm := getL_mem hg
  match k, hv with
  | 0, hv => simp at hv; subst hv; simp at hm; simp; rcases hm with h | h <;> simp [h.1]
  | 1, hv => simp at hv; subst hv; simp at hm; simp [hm.1]
  | 2, hv => simp at hv; subst hv; simp at hm
 ·intro h
  simp at h
  rcases h with rfl | rfl
  ·rw [hB2_best1]; rfl
  ·rw [hB2_best2]; rfl
theorem hB2_kf1 : hB2.kf 2 (netP 1) = ⟨2, 0, 1⟩ := by
 have e : hB2.keyI 2 (netP 1) = hB2.key 2 (netP 1) := keyI_at hB2 (i := 2) (by rw [hB2_len]; decide) _
 unfold Ab.kf
 rw [e]
 unfold Ab.key
 rw [hB2_best1, hB2_may1]; rfl
theorem hB2_kf2 : hB2.kf 2 (netP 2) = ⟨2, 0, 3⟩ := by
 have e : hB2.keyI 2 (netP 2) = hB2.key 2 (netP 2) := keyI_at hB2 (i := 2) (by rw [hB2_len]; decide) _
 unfold Ab.kf
 rw [e]
 unfold Ab.key
 rw [hB2_best2, hB2_may2]; rfl
theorem hB2_all {L : List Cls} {ps : List Pf} (h1 : Srt ps) (h2 : ∀ p, p ∈ ps ↔ (hB2.bestI 2 p).isSome = true) (h3 : (L.map (·.key)).Pairwise klt) (h4 : ∀ x ∈ L, x.ps = psOf (hB2.kf 2) x.key ps ∧ x.ps ≠ []) (h5 : ∀ p ∈ ps, hB2.kf 2 p ∈ L.map (·.key)) :
  ∃ x y, L = [x, y] ∧ x.key = ⟨2, 0, 1⟩ ∧ y.key = ⟨2, 0, 3⟩ ∧ y.ps = [netP 2] := by
 have e : ps = [netP 1, netP 2] := srt_ext h1 (by simp [Srt, netP, plt]) fun p => (h2 p).trans (hB2_some p)
 subst e
 have hk : L.map (·.key) = [⟨2, 0, 1⟩, ⟨2, 0, 3⟩] := klt_ext h3 (by simp [klt]) fun k => by
  constructor
  ·intro hk
   obtain ⟨x, hx, rfl⟩ := List.mem_map.1 hk
   obtain ⟨g1, g2⟩ := h4 x hx
   obtain ⟨p, hp⟩ := List.exists_mem_of_ne_nil _ g2
   rw [g1] at hp
   obtain ⟨q1, q2⟩ := psOf_mem.1 hp
   rw [← q2]
   simp at q1
   rcases q1 with rfl | rfl
   ·rw [hB2_kf1]; simp
   ·rw [hB2_kf2]; simp
  ·intro hk
   simp at hk
   rcases hk with rfl | rfl
   ·rw [← hB2_kf1]; exact h5 _ (by simp)
   ·rw [← hB2_kf2]; exact h5 _ (by simp)
 have hl : L.length = 2 := by have := congrArg List.length hk; simpa using this
 match L, hl, h4, hk with
 | [x, y], _, h4, hk =>
  simp at hk
  refine ⟨x, y, rfl, hk.1, hk.2, ?_⟩
  rw [(h4 y (by simp)).1, hk.2]
  unfold psOf
  rw [List.filter_cons, List.filter_cons, hB2_kf1, hB2_kf2]
  rfl
open Go.RowKit
theorem boxC (w : World) (C : Array Value) (T : TypeId) : ∃ W0, W0 = w.alloc (.cells C T) ∧ W0.heap[w.heap.size]? = some (.cells C T (0, 0)) ∧ Below w.heap.size w W0 ∧ W0.heap.size = w.heap.size + 1 :=
 ⟨_, rfl, heap_alloc_new w _, (Below.refl _ _).alloc (Nat.le_refl _) _, by simp⟩
theorem boxCC (w : World) (C : Array Value) (T : TypeId) (Z : Array Value) (U : TypeId) : ∃ W0, W0 = (w.alloc (.cells C T)).alloc (.cells Z U) ∧ W0.heap[w.heap.size]? = some (.cells C T (0, 0)) ∧ W0.heap[w.heap.size + 1]? = some (.cells Z U (0, 0)) ∧ Below w.heap.size w W0 := by
 refine ⟨_, rfl, ?_, ?_, ((Below.refl _ _).alloc (Nat.le_refl _) _).alloc (by simp) _⟩
 ·have h1 := heap_alloc_new w (.cells C T)
  have h2 : Below (w.alloc (.cells C T)).heap.size (w.alloc (.cells C T)) ((w.alloc (.cells C T)).alloc (.cells Z U)) := (Below.refl _ _).alloc (Nat.le_refl _) _
  exact (h2.block _ (jE h1)).trans h1
 ·have h1 := heap_alloc_new (w.alloc (.cells C T)) (.cells Z U)
  simpa using h1
set_option maxRecDepth 100000 in
theorem ps_Len (v : Value) (xs : List Pf) (w : World) (h : PsAt w v xs) : Calls Tryz.prog 103 #[.agg #[v]] w fun e w' => e = .returned (.int .i64 xs.length) ∧ Below w.heap.size w w' := by
 obtain ⟨sa, cap, rfl, -⟩ := h
 go_enter Tryz.func103, Tryz.ntmps103
 go_wp2_with fail
 go_ret
 exact ⟨rfl, (Below.refl _ _).alloc (Nat.le_refl _) _⟩
set_option maxRecDepth 100000 in
theorem ps_List (v : Value) (xs : List Pf) (w : World) (h : PsAt w v xs) (hb : xs.length * 16 ≤ 140737488351232) :
  Calls Tryz.prog 53 #[.agg #[v]] w fun e w' => ∃ v', e = .returned v' ∧ PsAt w' v' xs ∧ Below w.heap.size w w' := by
 have HA := jh h
 obtain ⟨sa, cap, rfl, -⟩ := h
 go_enter Tryz.func53, Tryz.ntmps53
 go_upto_region 1 with (fail)
 obtain ⟨W0, hW0, q0, hB, -⟩ := boxC w #[.slice sa xs.length cap] 113
 rw [← hW0]
 clear hW0
 have c0 : W0.cell? ⟨w.heap.size, 0, none⟩ = some (.slice sa xs.length cap) := jB q0 0
 have CL := jh (ps_Clone _ xs W0 (HA.out.below hB) hb)
 have HB := jh hB
 clear q0 hB
 go_wp2_with fail
 refine CL.out.mono ?_
 rintro e w2 ⟨v2, rfl, o2, hb2⟩
 have P2 := jh o2.at
 have B2 := jh (jC HB.out hb2)
 rcases own_slice o2.1 with ⟨rfl, h0⟩ | ⟨g, c, rfl⟩
 ·clear o2 hb2 c0 h0
  go_wp2_with fail
  go_ret
  exact ⟨_, rfl, P2.out, B2.out⟩
 ·clear o2 hb2 c0
  go_wp2_with fail
  go_ret
  exact ⟨_, rfl, P2.out, B2.out⟩
set_option maxRecDepth 100000 in
theorem ps_Has (v : Value) (xs : List Pf) (p : Pf) (w : World) (h : PsAt w v xs) (hs : Srt xs) : Calls Tryz.prog 102 #[.agg #[v], .agg #[.int .u32 p.1, .int .i64 p.2]] w fun e w' => e = .returned (.bool (decide (p ∈ xs))) ∧ Below w.heap.size w w' := by
 have HA := jh h
 obtain ⟨sa, cap, rfl, -⟩ := h
 have HS := jh hs
 clear hs
 go_enter Tryz.func102, Tryz.ntmps102
 go_upto_region 1 with (fail)
 obtain ⟨W0, hW0, q0, q1, hB⟩ := boxCC w #[.slice sa xs.length cap] 113 #[.int .u32 p.1, .int .i64 p.2] 53
 rw [← hW0]
 clear hW0
 have c0 : W0.cell? ⟨w.heap.size, 0, none⟩ = some (.slice sa xs.length cap) := jB q0 0
 have c1 : W0.cell? ⟨w.heap.size + 1, 0, none⟩ = some (.int .u32 p.1) := jB q1 0
 have c2 : W0.cell? ⟨w.heap.size + 1, 1, none⟩ = some (.int .i64 p.2) := jB q1 1
 have SE := jh (ps_Search _ xs p W0 (HA.out.below hB) HS.out)
 have HB := jh hB
 clear q0 q1 hB
 go_wp2_with fail
 refine SE.out.mono ?_
 rintro e w2 ⟨i, rfl, -, -, hb2⟩
 have B2 := jh (jC HB.out hb2)
 clear hb2 c0 c1 c2 SE
 generalize hd : decide (p ∈ xs) = d
 have HD := jh hd
 clear hd
 go_wp2_with fail
 go_ret
 exact ⟨jL HD.out.symm, B2.out⟩
end Go.Proofs.YtkoidahgbbabiaaGreat
