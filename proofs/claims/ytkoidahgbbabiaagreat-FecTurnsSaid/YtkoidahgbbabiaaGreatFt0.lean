/-
  FecTurns: proved of every number of participants, whatever they were told, every sender and every prefix: who says another route of a prefix turns that prefix's key alone.
-/
import Derived.Test.YtkoidahgbbabiaaGreatFt24
import Derived.Test.YtkoidahgbbabiaaGreatFt25
import Derived.Test.YtkoidahgbbabiaaGreatFt1
namespace Go.Proofs.YtkoidahgbbabiaaGreat
open Go.RowKit Go.ChangeShapes Go.WideShapes
theorem and_1f (x : Int) : bits .and .i64 x 1 = x % 2 := and_low_i64 x 1 (by decide)
abbrev WasM (W : World) (b : Nat) (l : List (Pf × Ky)) : Prop := MapT pfV kyV KOk W b l
theorem put_len {κ υ : Type} [DecidableEq κ] (l : List (κ × υ)) (a : κ) (v : υ) : (putL l a v).length ≤ l.length + 1 := by
 unfold putL
 split
 ·rw [List.length_map]; omega
 ·rw [List.length_append]; exact Nat.le_refl _
theorem pf1_at {V : World} {g : Nat} {T : TypeId} (x : Pf) (hx : OkP x) (q : V.heap[g]? = some (.cells #[.int .u32 x.1, .int .i64 x.2] T (0, 0))) : PsAt V (.slice (some ⟨g, 0, none⟩) 1 1) [x] := by
 refine ⟨_, 1, rfl, Nat.le_refl _, by simp [maxLen], fun _ => ⟨g, 0, rfl, fun i z hz => ?_⟩⟩
 match i, hz with
 | 0, hz =>
  simp at hz
  subst hz
  refine ⟨encP x, rfl, ⟨rfl, hx⟩, fun j c hc => ?_⟩
  rw [jB q]
  match j, hc with
  | 0, hc => simpa [encP] using hc
  | 1, hc => simpa [encP] using hc
/-- what is said: one prefix. -/
def msT (p : Pf) (g b : Nat) : Ms := ⟨⟨2, 0, 0, 0, none, 0, 0, none, 0, 0, avH b, some ⟨g, 0, none⟩, 1, 1, 0, 0, ⟨#[]⟩⟩, [], [p], at7⟩
theorem ms_made {W W6 : World} (p : Pf) (hp : OkP p) (h6 : W6 = ((W.alloc (.cells #[.int .u32 p.1, .int .i64 p.2] 53)).alloc (.cells #[.int .i64 7] 3)).alloc (.cells #[.bool false, .slice (some ⟨W.heap.size + 1, 0, none⟩) 1 1] 121)) :
  Fresh W.heap.size W6 (fun V => MsAt V (msT p W.heap.size (W.heap.size + 1 + 1))) ∧ Below W.heap.size W W6 := by
 have b1 : Below W.heap.size W (W.alloc (.cells #[.int .u32 p.1, .int .i64 p.2] 53)) := (Below.refl _ _).alloc (Nat.le_refl _) _
 have q1 := heap_alloc_new W (.cells #[.int .u32 p.1, .int .i64 p.2] 53)
 generalize hW1 : W.alloc (.cells #[.int .u32 p.1, .int .i64 p.2] 53) = W1 at *
 have z1 : W1.heap.size = W.heap.size + 1 := by rw [← hW1]; simp
 have b2 : Below W1.heap.size W1 (W1.alloc (.cells #[.int .i64 7] 3)) := (Below.refl _ _).alloc (Nat.le_refl _) _
 have q2 := heap_alloc_new W1 (.cells #[.int .i64 7] 3)
 generalize hW2 : W1.alloc (.cells #[.int .i64 7] 3) = W2 at *
 have z2 : W2.heap.size = W.heap.size + 1 + 1 := by rw [← hW2]; simp [z1]
 have b3 : Below W2.heap.size W2 (W2.alloc (.cells #[.bool false, .slice (some ⟨W.heap.size + 1, 0, none⟩) 1 1] 121)) := (Below.refl _ _).alloc (Nat.le_refl _) _
 have q3 := heap_alloc_new W2 (.cells #[.bool false, .slice (some ⟨W.heap.size + 1, 0, none⟩) 1 1] 121)
 rw [← h6] at b3 q3
 have z6 : W6.heap.size = W.heap.size + 1 + 1 + 1 := by rw [h6]; simp [z2]
 rw [z1] at q2
 rw [z2] at q3
 have q2' := (b3.block _ (by omega)).trans q2
 have q1' := (b3.block _ (by omega)).trans ((b2.block _ (by omega)).trans q1)
 refine ⟨fun V hV => ?_, jC (jC b1 b2) b3⟩
 have r1 := (hV W.heap.size (Nat.le_refl _) (by omega)).trans q1'
 have r2 := (hV (W.heap.size + 1) (by omega) (by omega)).trans q2'
 have r3 := (hV (W.heap.size + 1 + 1) (by omega) (by omega)).trans q3
 exact ⟨SlAt.nil, pf1_at p hp r1, at7_at r3 r2⟩
theorem good7 : GoodA at7 := ⟨by decide, by
  refine ⟨?_, ?_, ?_, ?_, ?_, ?_, ?_⟩ <;> simp [at7, I64r], by
  refine ⟨?_, ?_, ?_, ?_, ?_⟩ <;> simp [at7, SgSz]⟩
set_option maxHeartbeats 6400000 in
set_option maxRecDepth 100000 in
theorem law_FecTurns (n : Int) (v : Value) (xs : List Stp) (fr : Int) (p : Pf) (w : World) (hv : SaidsAt w v xs) (hz : ∀ x ∈ xs, MsSz x.x) (hp : KOk p) :
  Calls Tryz.prog 12 #[.int .i64 n, v, .int .i64 fr, .agg #[.int .u32 p.1, .int .i64 p.2]] w fun e w' => e = .returned (.bool true) ∧ Below w.heap.size w w' := by
 obtain ⟨k2, hk2⟩ : ∃ k : Nat, n % 2 = k := Int.eq_ofNat_of_zero_le (by omega)
 have hand : bits .and .i64 n 1 = (k2 : Int) := by rw [and_1f, hk2]
 obtain ⟨N, hN⟩ : ∃ N : Nat, N = k2 + 2 := ⟨_, rfl⟩
 have zN : IntKind.i64.wrap ((2 : Int) + (k2 : Int)) = (N : Int) := by rw [IntWalk.i64_in _ (by omega)]; omega
 have hN2 : 2 ≤ N := by omega
 have hN3 : N ≤ 3 := by omega
 obtain ⟨k4, hk4⟩ : ∃ k : Nat, fr % 4 = k := Int.eq_ofNat_of_zero_le (by omega)
 have hand2 : bits .and .i64 fr 3 = (k4 : Int) := by rw [and_3f, hk4]
 obtain ⟨f, hf⟩ : ∃ f : Nat, f = k4 % N := ⟨_, rfl⟩
 have hfN : f < N := by rw [hf]; exact Nat.mod_lt _ (by omega)
 have zf : ((k4 : Int)).tmod (N : Int) = (f : Int) := by rw [hf]; rfl
 obtain ⟨g, hg⟩ : ∃ g : Nat, g = (f + 1) % N := ⟨_, rfl⟩
 have hgN : g < N := by rw [hg]; exact Nat.mod_lt _ (by omega)
 have zg0 : IntKind.i64.wrap ((f : Int) + 1) = ((f + 1 : Nat) : Int) := by rw [IntWalk.i64_in _ (by omega)]; omega
 have zg : (((f + 1 : Nat) : Int)).tmod (N : Int) = (g : Int) := by rw [hg]; rfl
 have zg2 : ((f : Int) + 1) % (N : Int) = (g : Int) := by rw [hg]; exact (Int.natCast_emod (f + 1) N).symm
 have n0 : ((N : Int) == 0) = false := by simp; omega
 have hmm := @run_makeMap Tryz.prog
 have HD := jh (fun w => law_head21 w)
 have HZ := jh hz
 have HV := jh hv
 have HP := jh hp
 have HF := jh hf
 obtain ⟨s0, c0, rfl, -⟩ := hv
 clear hz hk2 hk4 hN hf hg hp
 go_enter Tryz.func12, Tryz.ntmps12
 go_upto_region 1 with (fail)
 obtain ⟨w0, hw0, p0, p1, hb0⟩ := box2 w (.int .u32 p.1) (.int .i64 p.2) 53
 rw [← hw0]
 obtain ⟨pb, hpb⟩ : ∃ pb, pb = w.heap.size := ⟨_, rfl⟩
 rw [← hpb] at p0 p1 ⊢
 have B0 := jh hb0
 clear hw0 hb0 hpb
 go_wp2_with fail
 refine (HD.out w0).mono ?_
 rintro e w1 ⟨rfl, hb1⟩
 have B1 := jh (jC B0.out hb1)
 have P1 := jh (And.intro (jA p0 hb1) (jA p1 hb1))
 have TD := jh (l_told N (by omega) (by omega) _ xs w1 (SlAt.below HV.out B1.out fun _ _ h => ⟨h.1, h.2.1, h.2.2.below B1.out⟩) HZ.out)
 clear hb1 B0 HD p0 p1
 go_wp2_with fail
 refine TD.out.mono ?_
 rintro e w2 ⟨rho, sb, fb, ls, rfl, hl⟩
 obtain ⟨A, hA⟩ : ∃ A, toldA N xs = A := ⟨_, rfl⟩
 have VL : Hid (A.V.length = N) := jh (by rw [← hA]; exact toldA_len N xs)
 rw [hA] at hl
 have p0 := jA P1.out.1 hl.bel
 have p1 := jA P1.out.2 hl.bel
 have LV := jh hl
 have CK := jh (fun w => ip_Check p.1 p.2 w HP.out.1.1 HP.out.1.2)
 clear hA hl TD HV HZ
 rcases hr : rightB p.1 p.2 with _ | _
 ·have CK2 : Hid (∀ W, Calls Tryz.prog 21 #[.agg #[.int .u32 p.1, .int .i64 p.2]] W fun e w' => e = .returned (.int .i64 1) ∧ Below W.heap.size W w') := jh (fun W => by have := CK.out W; rw [hr] at this; exact this)
  clear hr CK
  go_wp2_with fail
  refine (CK2.out _).mono ?_
  rintro e w3 ⟨rfl, hb3⟩
  have FB := jh (jC (jC B1.out LV.out.bel) hb3)
  clear hb3
  go_wp2_with fail
  go_ret
  exact ⟨rfl, FB.out⟩
 ·have CK2 : Hid (∀ W, Calls Tryz.prog 21 #[.agg #[.int .u32 p.1, .int .i64 p.2]] W fun e w' => e = .returned (.int .i64 0) ∧ Below W.heap.size W w') := jh (fun W => by have := CK.out W; rw [hr] at this; exact this)
  have RP : Hid (RgtP p) := jh ⟨HP.out.1, hr⟩
  clear hr CK
  go_wp2_with fail
  refine (CK2.out _).mono ?_
  rintro e w3 ⟨rfl, hb3⟩
  have L3 := jh (LV.out.below hb3)
  clear hb3 LV p0 p1
  go_upto_region 9 with (fail)
  obtain ⟨w4, hw4⟩ : ∃ w4, w4 = w3.alloc (.map #[] 0) := ⟨_, rfl⟩
  have hb4 : Below w3.heap.size w3 w4 := by rw [hw4]; exact (Below.refl _ _).alloc (Nat.le_refl _) _
  have M4 : Hid (WasM w4 w3.heap.size []) := jh (by rw [hw4]; exact MapT.made w3)
  rw [← hw4]
  obtain ⟨mb, hmb⟩ : ∃ mb, w3.heap.size = mb := ⟨_, rfl⟩
  have RMB : Hid (rho mb = .no ∧ w1.heap.size ≤ mb) := jh ⟨L3.out.new (Nat.le_of_eq hmb), by rw [← hmb]; exact L3.out.bel.size⟩
  rw [hmb] at M4 ⊢
  have L4 := jh (L3.out.below hb4)
  clear hw4 hb4 hmb L3
  have NE := jh (ls_Nets L4.out)
  go_wp2_with fail
  refine NE.out.mono ?_
  rintro e w5 ⟨v5, ns, rfl, o5, r5, n5, hb5⟩
  obtain ⟨s5, c5, rfl, -⟩ := jV o5.1
  have M5 := jh (M4.out.below hb5)
  have L5 := jh (L4.out.below hb5)
  have O5 := jh o5
  have R5 := jh r5
  have N5 := jh n5
  have MB5 : Hid (mb < w4.heap.size) := jh M4.out.lt
  clear o5 r5 n5 hb5 NE M4 L4 hmm
  go_wp2_with fail
  go_loopw [49] (fun t49 wr => ∃ (z : Nat) (M : List (Pf × Ky)), z ≤ ns.length ∧ t49 = .int .i64 z ∧ Hid (WasM wr mb M) ∧ Hid (∀ x ∈ M, A.keyI f x.1 = some x.2) ∧ Hid (M.length ≤ z) ∧ Hid (Kept (fun b => b = mb) w5 wr)) (fun t49 _ => ns.length - (intOf t49).toNat)
  case atStart => exact ⟨0, [], by omega, rfl, M5, jh (fun x hx => by cases hx), jh (Nat.le_refl _), jh (Kept.refl _ _)⟩
  case round =>
   clear M5
   obtain ⟨z, M, hz, rfl, MZ, VM, ML, KZ⟩ := hrel
   by_cases hzl : z < ns.length
   ·obtain ⟨q, hq⟩ : ∃ q, ns[z]? = some q := ⟨_, List.getElem?_eq_getElem hzl⟩
    have KQ := jh (right_key (R5.out q (List.mem_of_getElem? hq)).1 (R5.out q (List.mem_of_getElem? hq)).2)
    have OZ := O5.out.kept KZ.out (fun g hg e => by have h1 := jJ O5.out.1 g hg; have h2 := MB5.out; omega)
    obtain ⟨sq, cq, eq, -, -, hP⟩ := OZ.at
    injection eq with e1 e2 e3
    subst e1
    obtain ⟨b, off, rfl, hP2⟩ := hP (by omega)
    obtain ⟨q0, q1⟩ := ps_two hP2 hq
    have LZ := jh (L5.out.out KZ.out (by rintro k rfl; exact RMB.out.1) (by rintro k rfl; exact RMB.out.2))
    have z0 : (0 : Int) ≤ (z : Int) := by omega
    have z1 : (z : Int) < (ns.length : Int) := by omega
    have ZL := jh hzl
    clear hq OZ hP hP2 e2 e3 hz hzl
    go_upto_region 12 with (fail)
    obtain ⟨w6, hw6, u0, u1, hb6⟩ := box2 wr (.int .u32 q.1) (.int .i64 q.2) 53
    rw [← hw6]
    obtain ⟨qb, hqb⟩ : ∃ qb, qb = wr.heap.size := ⟨_, rfl⟩
    rw [← hqb] at u0 u1 ⊢
    have OF := jh (ls_OfI (LZ.out.below hb6) (f : Int) q KQ.out)
    have M6 := jh (MZ.out.below hb6)
    have K6 : Hid (Kept (fun b => b = mb) w5 w6) := jh (KZ.out.trans (Kept.of_below hb6))
    clear hw6 hqb hb6 q0 q1 MZ KZ LZ
    go_wp2_with fail
    refine OF.out.mono ?_
    rintro e w7 ⟨rfl, hb7⟩
    replace u0 := jA u0 hb7
    replace u1 := jA u1 hb7
    have M7 := jh (M6.out.below hb7)
    have K7 : Hid (Kept (fun b => b = mb) w5 w7) := jh (K6.out.trans (Kept.of_below hb7))
    obtain ⟨ko, hko⟩ : ∃ ko, A.keyI f q = ko := ⟨_, rfl⟩
    have HKO := jh hko
    rw [hko]
    clear hb7 hko OF M6 K6
    have zw : IntKind.i64.wrap ((z : Int) + 1) = ((z + 1 : Nat) : Int) := by
     have := ZL.out
     have := N5.out
     rw [IntWalk.i64_in _ (by omega)]; omega
    rcases ko with _ | k
    ·go_upto_region 13 with (fail)
     obtain ⟨w8, hw8, -, hb8, -⟩ := box1 w7 (kyC ky0) 102
     rw [show w7.alloc (.cells #[.int .i64 ky0.from_, .int .i64 ky0.best, .int .i64 ky0.may] 102) = w8 from hw8.symm]
     have M8 := jh (M7.out.below hb8)
     have K8 : Hid (Kept (fun b => b = mb) w5 w8) := jh (K7.out.trans (Kept.of_below hb8))
     have ML8 : Hid (M.length ≤ z + 1) := jh (Nat.le_succ_of_le ML.out)
     clear hw8 hb8 M7 K7 u0 u1
     go_wp2_with fail
     exact ⟨⟨z + 1, M, by have := ZL.out; omega, rfl, M8, VM, ML8, K8⟩, by have := ZL.out; simp only [intOf]; omega⟩
    ·go_upto_region 13 with (fail)
     obtain ⟨w8, hw8, q8, hb8, -⟩ := box1 w7 (kyC k) 102
     rw [show w7.alloc (.cells #[.int .i64 k.from_, .int .i64 k.best, .int .i64 k.may] 102) = w8 from hw8.symm]
     obtain ⟨kb, hkb⟩ : ∃ kb, kb = w7.heap.size := ⟨_, rfl⟩
     rw [← hkb] at q8 ⊢
     obtain ⟨k0, k1, k2⟩ := key_cells q8
     replace u0 := jA u0 hb8
     replace u1 := jA u1 hb8
     obtain ⟨o, hrun, hm⟩ := (M7.out.below hb8).store pf_enc Tryz.underlying119 q KQ.out k (by have := ML.out; have := ZL.out; have := N5.out; unfold maxLen; omega) w8 rfl
     have hrun' : (Instr.mapUpdate 119 (.map (some mb)) (.agg #[.int .u32 q.1, .int .i64 q.2]) (.agg #[.int .i64 k.from_, .int .i64 k.best, .int .i64 k.may])).run Tryz.prog w8 = .ok () (ChangeMaps.setBlock w8 mb o) := hrun
     have M9 := jh hm
     have K9 : Hid (Kept (fun b => b = mb) w5 (ChangeMaps.setBlock w8 mb o)) := jh ((K7.out.trans (Kept.of_below hb8)).trans (Kept.setBlock o rfl))
     have ML9 : Hid ((putL M q k).length ≤ z + 1) := jh (by have := ML.out; have := put_len M q k; omega)
     have VM9 : Hid (∀ x ∈ putL M q k, A.keyI f x.1 = some x.2) := jh (fun x hx => by
      rcases mem_put hx with ⟨hx, -⟩ | rfl
      ·exact VM.out x hx
      ·exact HKO.out)
     clear hw8 hkb hb8 q8 M7 K7 hrun hm
     go_wp2_with fail
     exact ⟨⟨z + 1, _, by have := ZL.out; omega, rfl, M9, VM9, ML9, K9⟩, by have := ZL.out; simp only [intOf]; omega⟩
   ·obtain rfl : z = ns.length := by omega
    have L6 := jh (L5.out.out KZ.out (by rintro k rfl; exact RMB.out.1) (by rintro k rfl; exact RMB.out.2))
    have q0 : wr.cell? ⟨pb, 0, none⟩ = some (.int .u32 p.1) := jA P1.out.1 L6.out.bel
    have q1 : wr.cell? ⟨pb, 1, none⟩ = some (.int .i64 p.2) := jA P1.out.2 L6.out.bel
    clear hz hzl ML KZ O5 R5 N5 L5
    obtain ⟨w6, hw6⟩ : ∃ w6, w6 = ((wr.alloc (.cells #[.int .u32 p.1, .int .i64 p.2] 53)).alloc (.cells #[.int .i64 7] 3)).alloc (.cells #[.bool false, .slice (some ⟨wr.heap.size + 1, 0, none⟩) 1 1] 121) := ⟨_, rfl⟩
    obtain ⟨hms, hb6⟩ := ms_made p HP.out.1 hw6
    have HW6 := jh hw6
    have UP := jh (ls_UpdateI (L6.out.below hb6) (g : Int) (msT p wr.heap.size (wr.heap.size + 1 + 1)) (L6.out.fresh hms) good7 (by simp [msT]))
    have M6 := jh (MZ.out.below hb6)
    have L7 := jh (L6.out.below hb6)
    have mbl := msg_built (wr.heap.size + 1 + 1) (some ⟨wr.heap.size, 0, none⟩) 1 1
    clear hms hb6 hw6 MZ L6
    go_wp2_with fail
    rw [← HW6.out]
    refine UP.out.mono ?_
    rintro e w7 ⟨rho', v7, c7, rfl, l7, st⟩
    obtain ⟨A2, hA2⟩ : ∃ A2, A.updI (g : Int) 2 [] [p] at7 = A2 := ⟨_, rfl⟩
    have KE : Hid (∀ q, q ≠ p → A2.keyI f q = A.keyI f q) := jh (fun q hq => by rw [← hA2]; exact updI_key A g 2 p q at7 hq f)
    have VL2 : Hid (A2.V.length = N) := jh (by rw [← hA2, updI_len]; exact VL.out)
    have l7' : LSv w1 w7 rho' sb fb ls A2 := by rw [← hA2]; exact l7
    have M7 := M6.out.kept st.kept (fun h => h RMB.out.1)
    obtain ⟨w8, hr, hR, hB, -⟩ := M7.range Tryz.underlying119
    obtain ⟨rb, hrb⟩ : ∃ rb, rb = w7.heap.size := ⟨_, rfl⟩
    rw [← hrb] at hr hR
    have L8 := jh (l7'.below hB)
    have RRB : Hid (rho' rb = .no ∧ w1.heap.size ≤ rb) := jh ⟨l7'.new (Nat.le_of_eq hrb.symm), by rw [hrb]; exact l7'.bel.size⟩
    have R8 := jh hR
    clear hA2 l7 l7' st M7 hR hB hrb UP M6 q0 q1 mbl L7 HW6
    go_wp2_with fail
    clear hr
    go_loopw [18] (fun _ wr => ∃ left : List (Pf × Ky), Hid (RangeT pfV kyV KOk wr mb rb M left) ∧ Hid (Kept (fun b => b = rb) w8 wr)) (fun _ wr => wr.rangeLeft mb rb)
    case atStart => exact ⟨M, R8, jh (Kept.refl _ _)⟩
    case round =>
     clear R8
     obtain ⟨left, RT, KR⟩ := hrel
     have LR := jh (L8.out.out KR.out (by rintro k rfl; exact RRB.out.1) (by rintro k rfl; exact RRB.out.2))
     rcases RT.out.next (P := Tryz.prog) 0 with ⟨rfl, hn⟩ | ⟨k, q, w9, hi, hq, hn, hR1, hk1, hz1, hen⟩
     ·have hn' : ∀ ty, (Instr.next (.pointer (some ⟨rb, 0, none⟩)) false ty).run Tryz.prog wr = .ok (.tuple #[.bool false]) wr := fun _ => hn
      have r0 : wr.cell? ⟨pb, 0, none⟩ = some (.int .u32 p.1) := jA P1.out.1 LR.out.bel
      have r1 : wr.cell? ⟨pb, 1, none⟩ = some (.int .i64 p.2) := jA P1.out.2 LR.out.bel
      have OF := jh (ls_OfI LR.out (f : Int) p HP.out)
      clear hn RT KR
      go_wp2_with fail
      clear hn'
      refine OF.out.mono ?_
      rintro e w9 ⟨rfl, hb9⟩
      obtain ⟨ko, hko⟩ : ∃ ko, A2.keyI f p = ko := ⟨_, rfl⟩
      have HKO := jh hko
      rw [hko]
      obtain ⟨K, hK⟩ : ∃ K, ko.getD ky0 = K := ⟨_, rfl⟩
      obtain ⟨ok, hok⟩ : ∃ ok, ko.isSome = ok := ⟨_, rfl⟩
      have KO := jh (And.intro hK hok)
      rw [hK, hok]
      have L9 := jh (LR.out.below hb9)
      clear hko hK hok hb9 OF LR r0 r1
      go_upto_region 25 with (fail)
      obtain ⟨w10, hw10, q10, hb10, -⟩ := box1 w9 (kyC K) 102
      rw [show w9.alloc (.cells #[.int .i64 K.from_, .int .i64 K.best, .int .i64 K.may] 102) = w10 from hw10.symm]
      obtain ⟨kb, hkb⟩ : ∃ kb, kb = w9.heap.size := ⟨_, rfl⟩
      rw [← hkb] at q10 ⊢
      have Q10 := jh q10
      have L10 := jh (L9.out.below hb10)
      have r0 : w10.cell? ⟨pb, 0, none⟩ = some (.int .u32 p.1) := jA P1.out.1 L10.out.bel
      have r1 : w10.cell? ⟨pb, 1, none⟩ = some (.int .i64 p.2) := jA P1.out.2 L10.out.bel
      clear hw10 q10 hb10 hkb L9
      by_cases hc : c7 = 0
      ·subst hc
       obtain ⟨z, hz⟩ : ∃ z, A2.goes g f p = z := ⟨_, rfl⟩
       have GO := jh (fun w' (hb : Below w10.heap.size w10 w') => ls_Goes (L10.out.below hb) (i := g) (j := f) (by rw [VL2.out]; exact hgN) (by rw [VL2.out]; exact hfN) p HP.out.1)
       have GZ : Hid (∀ w', Below w10.heap.size w10 w' → Calls Tryz.prog 31 #[.pointer (some ⟨sb, 0, none⟩), .int .i64 g, .int .i64 f, .agg #[.int .u32 p.1, .int .i64 p.2]] w' fun e w2 => e = .returned (.bool z) ∧ Below w'.heap.size w' w2) := jh (fun w' hb => by rw [← hz]; exact GO.out w' hb)
       have ZI : Hid (z = true → ok = true) := jh (fun h => by
        rw [← KO.out.2, ← HKO.out]
        exact key_goes (by rw [VL2.out]; exact hfN) (hz.trans h))
       clear hz GO
       rcases z with _ | _
       ·rcases ok with _ | _
        ·clear ZI
         go_wp2_with fail
         refine (GZ.out w10 (Below.refl _ _)).mono ?_
         rintro e w11 ⟨rfl, hb11⟩
         have FB := jh (jC B1.out (jC L10.out.bel hb11))
         clear hb11 r0 r1
         go_wp2_with fail
         go_ret
         exact ⟨rfl, FB.out⟩
        ·clear ZI
         obtain ⟨nb, M, e1, e2, e3⟩ := key_can (by rw [VL2.out]; omega) (show A2.keyI f p = some K by
          rw [HKO.out]
          have h1 := KO.out.1
          have h2 := KO.out.2
          cases ko with
          | none => cases h2
          | some x => rw [← h1]; rfl)
         obtain ⟨K0, K1, K2⟩ := K
         have e1 : K1 = (nb : Int) := e1
         have e2 : K2 = (M : Int) := e2
         subst e1
         subst e2
         have CN := jh (fun w => fk_Can K0 (nb : Int) M (nb : Int) w)
         rw [e3] at CN
         clear e3 KO HKO
         obtain ⟨y0, y1, y2⟩ := key_cells Q10.out
         go_wp2_with fail
         refine (GZ.out w10 (Below.refl _ _)).mono ?_
         rintro e w11 ⟨rfl, hb11⟩
         have B11 := jh hb11
         replace r0 := jA r0 hb11
         replace r1 := jA r1 hb11
         replace y0 := jA y0 hb11
         replace y1 := jA y1 hb11
         replace y2 := jA y2 hb11
         clear hb11
         go_wp2_with fail
         refine (GZ.out w11 B11.out).mono ?_
         rintro e w12 ⟨rfl, hb12⟩
         have B12 := jh (jC B11.out hb12)
         replace y0 := jA y0 hb12
         replace y1 := jA y1 hb12
         replace y2 := jA y2 hb12
         clear hb12 r0 r1 B11
         go_wp2_with fail
         refine (CN.out w12).mono ?_
         rintro e w13 ⟨rfl, hb13⟩
         have FB := jh (jC B1.out (jC L10.out.bel (jC B12.out hb13)))
         clear hb13 y0 y1 y2
         go_wp2_with fail
         go_ret
         exact ⟨rfl, FB.out⟩
       ·have h := ZI.out rfl
        subst h
        clear ZI
        go_wp2_with fail
        refine (GZ.out w10 (Below.refl _ _)).mono ?_
        rintro e w11 ⟨rfl, hb11⟩
        have FB := jh (jC B1.out (jC L10.out.bel hb11))
        clear hb11 r0 r1
        go_wp2_with fail
        go_ret
        exact ⟨rfl, FB.out⟩
      ·have e0 : (c7 != 0) = true := by simpa using hc
       have FB := jh (jC B1.out L10.out.bel)
       clear hc
       go_wp2_with fail
       go_ret
       exact ⟨rfl, FB.out⟩
     ·have hrl := jh RT.out.left_eq
      have hle : Hid ((left.eraseIdx k).length + 1 = left.length) := jh (by
       have := (List.getElem?_eq_some_iff.1 hi).1
       rw [List.length_eraseIdx_of_lt this]; omega)
      have KQ := jh (RT.out.map.oks q hq)
      have VQ := jh (VM.out q hq)
      have R9 := jh hR1
      have K9 : Hid (Kept (fun b => b = rb) w8 w9) := jh (KR.out.trans hk1)
      have L9 := jh (LR.out.out hk1 (by rintro k rfl; exact RRB.out.1) (by rintro k rfl; exact RRB.out.2))
      clear hi hq hk1 hz1 hR1 RT KR LR
      obtain ⟨⟨y1, y2⟩, ⟨ka, kb, kc⟩⟩ := q
      have hn' : ∀ ty, (Instr.next (.pointer (some ⟨rb, 0, none⟩)) false ty).run Tryz.prog wr = .ok (.tuple #[.bool true, .agg #[.int .u32 y1, .int .i64 y2], .agg #[.int .i64 ka, .int .i64 kb, .int .i64 kc]]) w9 := fun _ => hn
      have he' : (Instr.entry (.pointer (some ⟨rb, 0, none⟩))).run Tryz.prog w9 = .ok (.tuple #[.agg #[.int .u32 y1, .int .i64 y2], .agg #[.int .i64 ka, .int .i64 kb, .int .i64 kc]]) w9 := hen
      clear hn hen
      go_upto_region 21 with (fail)
      clear hn' he'
      obtain ⟨w10, hw10, q10, q11, hb10⟩ := boxTwo w9 #[.int .u32 y1, .int .i64 y2] 53 #[.int .i64 ka, .int .i64 kb, .int .i64 kc] 102
      rw [← hw10]
      obtain ⟨yb, hyb⟩ : ∃ yb, yb = w9.heap.size := ⟨_, rfl⟩
      rw [← hyb] at q10 q11 ⊢
      have Q10 := jh q10
      have Q11 := jh q11
      have y0 : w10.cell? ⟨yb, 0, none⟩ = some (.int .u32 y1) := jB q10 0
      have y1' : w10.cell? ⟨yb, 1, none⟩ = some (.int .i64 y2) := jB q10 1
      have L10 := jh (L9.out.below hb10)
      have R10 := jh (R9.out.below hb10)
      have K10 : Hid (Kept (fun b => b = rb) w8 w10) := jh (K9.out.trans (Kept.of_below hb10))
      have OF := jh (ls_OfI L10.out (f : Int) (y1, y2) KQ.out)
      clear hw10 hyb q10 q11 hb10 L9 R9 K9
      go_wp2_with fail
      refine OF.out.mono ?_
      rintro e w11 ⟨rfl, hb11⟩
      obtain ⟨ko, hko⟩ : ∃ ko, A2.keyI f (y1, y2) = ko := ⟨_, rfl⟩
      have HKO := jh hko
      rw [hko]
      obtain ⟨K, hK⟩ : ∃ K, ko.getD ky0 = K := ⟨_, rfl⟩
      obtain ⟨ok, hok⟩ : ∃ ok, ko.isSome = ok := ⟨_, rfl⟩
      have KO := jh (And.intro hK hok)
      rw [hK, hok]
      have L11 := jh (L10.out.below hb11)
      have R11 := jh (R10.out.below hb11)
      have K11 : Hid (Kept (fun b => b = rb) w8 w11) := jh (K10.out.trans (Kept.of_below hb11))
      have QA := jh ((hb11.block _ (jE Q10.out)).trans Q10.out)
      have QB := jh ((hb11.block _ (jE Q11.out)).trans Q11.out)
      clear hko hK hok hb11 OF L10 R10 K10 Q10 Q11 y0 y1'
      go_upto_region 22 with (fail)
      obtain ⟨w12, hw12, q12, hb12, -⟩ := box1 w11 (kyC K) 102
      rw [show w11.alloc (.cells #[.int .i64 K.from_, .int .i64 K.best, .int .i64 K.may] 102) = w12 from hw12.symm]
      obtain ⟨kb', hkb⟩ : ∃ kb', kb' = w11.heap.size := ⟨_, rfl⟩
      rw [← hkb] at q12 ⊢
      have L12 := jh (L11.out.below hb12)
      have R12 := jh (R11.out.below hb12)
      have K12 : Hid (Kept (fun b => b = rb) w8 w12) := jh (K11.out.trans (Kept.of_below hb12))
      have qa := (hb12.block _ (jE QA.out)).trans QA.out
      have qc := (hb12.block _ (jE QB.out)).trans QB.out
      have y0 : w12.cell? ⟨yb, 0, none⟩ = some (.int .u32 y1) := jB qa 0
      have y1' : w12.cell? ⟨yb, 1, none⟩ = some (.int .i64 y2) := jB qa 1
      have x0 : w12.cell? ⟨yb + 1, 0, none⟩ = some (.int .i64 ka) := jB qc 0
      have x1 : w12.cell? ⟨yb + 1, 1, none⟩ = some (.int .i64 kb) := jB qc 1
      have x2 : w12.cell? ⟨yb + 1, 2, none⟩ = some (.int .i64 kc) := jB qc 2
      obtain ⟨v0, v1, v2⟩ := key_cells q12
      have r0 : w12.cell? ⟨pb, 0, none⟩ = some (.int .u32 p.1) := jA P1.out.1 L12.out.bel
      have r1 : w12.cell? ⟨pb, 1, none⟩ = some (.int .i64 p.2) := jA P1.out.2 L12.out.bel
      have RL : Hid (w12.rangeLeft mb rb < wr.rangeLeft mb rb) := jh (by rw [R12.out.left_eq, hrl.out]; have := hle.out; omega)
      clear hw12 hkb q12 hb12 L11 R11 K11 QA QB qa qc
      by_cases hyp : ((y1, y2) : Pf) = p
      ·subst hyp
       have d0 : ((y1 : Int) == y1 && (y2 : Int) == y2) = true := by simp
       go_wp2_with fail
       exact ⟨⟨_, R12, K12⟩, RL.out⟩
      ·have d0 : ((y1 : Int) == p.1 && (y2 : Int) == p.2) = false := by
        by_cases h1 : y1 = p.1 <;> by_cases h2 : y2 = p.2 <;> simp [h1, h2]
        exact hyp (by rw [h1, h2])
       have hks : ko = some ⟨ka, kb, kc⟩ := by rw [← HKO.out, KE.out _ hyp]; exact VQ.out
       subst hks
       obtain ⟨e1, e2⟩ := KO.out
       have e1 : (⟨ka, kb, kc⟩ : Ky) = K := e1
       have e2 : true = ok := e2
       subst e1
       subst e2
       clear hyp KO HKO
       go_wp2_with fail
       exact ⟨⟨_, R12, K12⟩, RL.out⟩
namespace fecTurns
open Go.ChangeShapes Go.WideShapes Go.ChangeAt Go.RowKit
set_option linter.unusedVariables false
set_option maxRecDepth 100000 in
theorem lifted (os : Os) (started : os.Started) (H : Type) (enc : TypeId × Value → H) :
  ReturnsInHanded {} Tryz.checked os 12 .any (Rows.fecTurnsSpec.pre6 enc Tryz.prog Tryz.f12 Rows.fecTurnsRow.domain false) (Rows.fecTurnsSpec.post enc Tryz.prog Tryz.f12 false true false false) := by
 refine returnsInHanded_of_change_sized (C := Tryz.checked) fr_own started (by kernel_rfl) Tryz.func12
  (ChangeSpec.witness6 (enc := enc) (C := Tryz.checked) false ⟨#[], #[.int .i64 0, .slice none 0 0, .int .i64 0, .agg #[.int .u32 0, .int .i64 0]], []⟩ 8 (by kernel_rfl) (by kernel_rfl) (by kernel_rfl) (by kernel_rfl)) ?_
 intro W base args ds gs before hval0 hW hcnd hsz0 _
 have hval : ∀ (j : Nat) t v, Tryz.f12.params[j]? = some t → args[j]? = some v → Value.okWide Tryz.prog W .any base t v := hval0
 have hW' := hW
 obtain ⟨p, q, hA0, hV, rfl, hfz, hnd⟩ := hW
 have hA : DataW.TrodAll enc Tryz.prog W 0 (fun _ => true) true Tryz.f12.params.toList args.toList ds p := hA0
 rw [Tryz.params12] at hA hval
 obtain ⟨v0, vs0, d0, ds0, p0, q0, hargs, rfl, rfl, h0, r0⟩ := trodAll_cons hA
 obtain ⟨v1, vs1, d1, ds1, p1, q1, rfl, rfl, rfl, h1, r1⟩ := trodAll_cons r0
 obtain ⟨v2, vs2, d2, ds2, p2, q2, rfl, rfl, rfl, h2, r2⟩ := trodAll_cons r1
 obtain ⟨v3, vs3, d3, ds3, p3, q3, rfl, rfl, rfl, h3, r3⟩ := trodAll_cons r2
 obtain ⟨rfl, rfl, rfl⟩ := trodAll_nil r3
 obtain rfl : args = #[v0, v1, v2, v3] := by cases args; simp_all
 obtain ⟨rfl, rfl⟩ := trodVars_none hV
 have lt0 : ∀ x ∈ p0, x.block < W.heap.size := by obtain ⟨m, hm⟩ := h0; exact DataW.trod_lt m _ _ _ hm
 have lt1 : ∀ x ∈ p1, x.block < W.heap.size := by obtain ⟨m, hm⟩ := h1; exact DataW.trod_lt m _ _ _ hm
 have lt2 : ∀ x ∈ p2, x.block < W.heap.size := by obtain ⟨m, hm⟩ := h2; exact DataW.trod_lt m _ _ _ hm
 have lt3 : ∀ x ∈ p3, x.block < W.heap.size := by obtain ⟨m, hm⟩ := h3; exact DataW.trod_lt m _ _ _ hm
 have hsz : (DataW.weightsEach Tryz.prog [3, 110, 3, 53] [d0, d1, d2, d3]).all (· ≤ reachBytes) = true := hsz0
 obtain ⟨n, rfl, nl, nh⟩ := open_i64 (hval 0 3 v0 rfl rfl)
 obtain ⟨xs, hxs, hxz⟩ := open_saids_sz (hval 1 110 v1 rfl rfl) h1 (sz_of hsz (j := 1) rfl rfl)
 obtain ⟨fr, rfl, wl, wh⟩ := open_i64 (hval 2 3 v2 rfl rfl)
 obtain ⟨a1, n1, rfl, z0, z1, z2, z3⟩ := open_pref (hval 3 53 v3 rfl rfl)
 clear hA0 hval0 hsz0 hsz
 refine (law_FecTurns n v1 xs fr (a1, n1) W hxs hxz ⟨⟨z0, z1⟩, ⟨z2, z3⟩⟩).mono fun e W' ⟨he, bel⟩ => ?_
 subst he
 exact ⟨_, rfl, _, _, _, [], _, [], hW', trodAll_mk1 (shut_bool Tryz.underlying4 _), (trodAll_cons_mk (Below.trod fr_laidOut (by kernel_rfl) (of_decide_eq_true (by kernel_rfl)) h0 bel lt0) (trodAll_cons_mk (Below.trod fr_laidOut (by kernel_rfl) (of_decide_eq_true (by kernel_rfl)) h1 bel lt1) (trodAll_cons_mk (Below.trod fr_laidOut (by kernel_rfl) (of_decide_eq_true (by kernel_rfl)) h2 bel lt2) (trodAll_cons_mk (Below.trod fr_laidOut (by kernel_rfl) (of_decide_eq_true (by kernel_rfl)) h3 bel lt3) trodAll_mk0)))), rfl, bel.frame _, fun h => by cases h⟩
theorem over : Rows.fecTurnsRow.holds Tryz.pinned (OpenSpec.ofChange Rows.fecTurnsSpec) :=
 OpenClaim.holds_of_wide 12 Tryz.f12 rfl rfl rfl rfl rfl rfl rfl ⟨rfl, rfl, rfl, rfl, rfl⟩ rfl rfl rfl rfl rfl (by kernel_rfl) Tryz.func12 (by kernel_rfl)
  (of_decide_eq_true (by kernel_rfl)) (by unfold Func.isWrapper; first | (rw [if_pos (by decide +kernel)]; kernel_rfl) | (rw [if_neg (by decide +kernel)]; exact ⟨rfl, rfl⟩))
  (fun os started H enc _ => lifted os started H enc)
/-- THE STATEMENT FecTurns. -/
theorem proved : Rows.FecTurnsSaid := over
#print axioms proved
end fecTurns
end Go.Proofs.YtkoidahgbbabiaaGreat
