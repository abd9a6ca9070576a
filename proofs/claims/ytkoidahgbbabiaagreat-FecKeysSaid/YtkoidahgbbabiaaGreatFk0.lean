/-
  FecKeys: proved of every number of participants, whatever they were told, every sender and every prefix: the key of a sender's frames to a prefix, by who offers a route.
-/
import Derived.Test.YtkoidahgbbabiaaGreatFk25
import Derived.Test.YtkoidahgbbabiaaGreatFk1
namespace Go.Proofs.YtkoidahgbbabiaaGreat
open Go.RowKit Go.ChangeShapes Go.WideShapes
/-- whether a participant's route goes to another one, whoever these are. -/
def Ab.goesI (A : Ab) (n k : Int) (p : Pf) : Bool := if (0 ≤ n ∧ n < (A.V.length : Int)) ∧ (0 ≤ k ∧ k < (A.V.length : Int)) then A.goes n.toNat k.toNat p else false
section
variable {w W : World} {rho : Nat → Role} {sb fb : Nat} {ls : List Pl} {A : Ab}
set_option maxHeartbeats 1600000 in
set_option maxRecDepth 100000 in
theorem sv_Goes_off (x y : Value) (n k : Int) (p : Pf) (W : World) (M1 : ∀ w', Below W.heap.size W w' → Calls Tryz.prog 58 #[x, .int .i64 n] w' fun e w2 => e = .returned y ∧ w' = w2) (M2 : ∀ w', Below W.heap.size W w' → Calls Tryz.prog 58 #[x, .int .i64 k] w' fun e w2 => e = .returned (.pointer none) ∧ w' = w2) (hy : y = .pointer none ∨ ∃ b, y = .pointer (some ⟨b, 0, none⟩)) :
  Calls Tryz.prog 31 #[x, .int .i64 n, .int .i64 k, .agg #[.int .u32 p.1, .int .i64 p.2]] W fun e w' => e = .returned (.bool false) ∧ Below W.heap.size W w' := by
 have M1 := zh M1
 have M2 := zh M2
 go_enter Tryz.func31, Tryz.ntmps31
 go_upto_region 1 with (fail)
 have B0 := zh ((Below.refl W.heap.size W).alloc (Nat.le_refl _) (.cells #[.int .u32 p.1, .int .i64 p.2] 53))
 go_wp2_with fail
 refine (M1.out _ B0.out).mono ?_
 rintro e w1 ⟨rfl, rfl⟩
 go_wp2_with fail
 refine (M2.out _ B0.out).mono ?_
 rintro e w1 ⟨rfl, rfl⟩
 rcases hy with rfl | ⟨b, rfl⟩
 ·go_wp2_with fail
  go_ret
  exact ⟨rfl, B0.out⟩
 ·go_wp2_with fail
  go_ret
  exact ⟨rfl, B0.out⟩
theorem ls_GoesI (h : LSv w W rho sb fb ls A) {i : Nat} (hi : i < A.V.length) (k : Int) (p : Pf) (hp : OkP p) :
  Calls Tryz.prog 31 #[.pointer (some ⟨sb, 0, none⟩), .int .i64 i, .int .i64 k, .agg #[.int .u32 p.1, .int .i64 p.2]] W fun e w' => e = .returned (.bool (A.goesI i k p)) ∧ Below W.heap.size W w' := by
 by_cases hk : 0 ≤ k ∧ k < (A.V.length : Int)
 ·obtain ⟨j, rfl⟩ := Int.eq_ofNat_of_zero_le hk.1
  have e : A.goesI i j p = A.goes i j p := by
   unfold Ab.goesI
   rw [if_pos ⟨by omega, hk⟩]; simp
  rw [e]
  exact ls_Goes h hi (by omega) p hp
 ·have e : A.goesI i k p = false := if_neg fun h2 => hk h2.2
  rw [e]
  obtain ⟨S, h1, h2⟩ := h.srv
  obtain ⟨m, hm⟩ := h2.at hi
  obtain ⟨l, hl, -⟩ := h1.get hm
  exact sv_Goes_off _ _ i k p W (fun w' hb => sv_member (h1.below hb) hl) (fun w' hb => sv_member_no (h1.below hb) (by rw [h2.len]; exact hk)) (.inr ⟨_, rfl⟩)
end
theorem goesI_at (A : Ab) {i j : Nat} (hi : i < A.V.length) (hj : j < A.V.length) (p : Pf) : A.goesI i j p = A.goes i j p := by
 unfold Ab.goesI
 rw [if_pos (by omega)]; simp
theorem best_goes {A : Ab} {r : Nat} {p : Pf} {b : Int × At} (h : A.best r p = some b) : ∃ n : Nat, b.1 = (n : Int) ∧ n < A.V.length ∧ A.goes n r p = true := by
 rw [best_offs] at h
 have hne : A.offs r p ≠ [] := fun e => by rw [e] at h; cases h
 obtain ⟨i, c, hi, -, hp⟩ := pickB_some hne
 rw [hp] at h
 injection h with h
 have hm := List.mem_of_getElem? hi
 obtain ⟨n, v, h1, h2, -⟩ := offs_mem hm
 exact ⟨n, by rw [← h]; exact h1, (List.getElem?_eq_some_iff.1 h2).1, goes_iff.2 ⟨c, hm, h1⟩⟩
theorem goes_none {A : Ab} {r : Nat} {p : Pf} (h : A.best r p = none) (n : Nat) : A.goes n r p = false := by
 cases hg : A.goes n r p with
 | false => rfl
 | true =>
  obtain ⟨c, hc, -⟩ := goes_iff.1 hg
  rw [best_offs, pickB_none] at h
  rw [h] at hc; cases hc
/-- the sum over all who may: what the key says. -/
theorem sum_key {A : Ab} (hf : A.V.length ≤ 16) (from_ : Int) (p : Pf) : (mayS (fun i => A.goesI i from_ p) A.V.length : Int) = ((A.keyI from_ p).getD ky0).may := by
 by_cases hn : 0 ≤ from_ ∧ from_ < (A.V.length : Int)
 ·obtain ⟨j, rfl⟩ := Int.eq_ofNat_of_zero_le hn.1
  rw [keyI_at A (by omega)]
  have e : mayS (fun i => A.goesI i j p) A.V.length = mayS (fun i => A.goes i j p) A.V.length := by
   apply Nat.eq_of_testBit_eq
   intro i
   rw [mayS_bit, mayS_bit]
   by_cases hi : i < A.V.length
   ·simp only [hi, decide_true, Bool.true_and]
    exact goesI_at A hi (by omega) p
   ·simp [hi]
  rw [e]
  unfold Ab.key
  cases hb : A.best j p with
  | none =>
   have : mayS (fun i => A.goes i j p) A.V.length = 0 := by
    apply Nat.eq_of_testBit_eq
    intro i
    rw [mayS_bit, goes_none hb]; simp
   rw [this]; rfl
  | some b =>
   show _ = (A.may j p : Int)
   rw [may_sum hf]
 ·rw [keyI_no A hn]
  have : mayS (fun i => A.goesI i from_ p) A.V.length = 0 := by
   apply Nat.eq_of_testBit_eq
   intro i
   rw [mayS_bit]
   have : A.goesI i from_ p = false := if_neg fun h => hn h.2
   rw [this]; simp
  rw [this]; rfl
theorem keyI_some {A : Ab} {from_ : Int} {p : Pf} {k : Ky} (h : A.keyI from_ p = some k) : ∃ (j n : Nat) (b : Int × At), from_ = (j : Int) ∧ j < A.V.length ∧ A.best j p = some b ∧ b.1 = (n : Int) ∧ n < A.V.length ∧ A.goes n j p = true ∧ k = ⟨j, n, A.may j p⟩ := by
 unfold Ab.keyI at h
 split at h
 ·rename_i hn
  obtain ⟨j, rfl⟩ := Int.eq_ofNat_of_zero_le hn.1
  rw [Int.toNat_natCast] at h
  unfold Ab.key at h
  cases hb : A.best j p with
  | none => rw [hb] at h; cases h
  | some b =>
   rw [hb] at h
   injection h with h
   obtain ⟨n, h1, h2, h3⟩ := best_goes hb
   exact ⟨j, n, b, rfl, by omega, hb, h1, h2, h3, by rw [← h, ← h1]⟩
 ·cases h
set_option maxHeartbeats 6400000 in
set_option maxRecDepth 100000 in
theorem law_FecKeys (n : Int) (v : Value) (xs : List Stp) (fr : Int) (p : Pf) (w : World) (hv : SaidsAt w v xs) (hz : ∀ x ∈ xs, MsSz x.x) (hp : KOk p) :
  Calls Tryz.prog 11 #[.int .i64 n, v, .int .i64 fr, .agg #[.int .u32 p.1, .int .i64 p.2]] w fun e w' => e = .returned (.bool true) ∧ Below w.heap.size w w' := by
 obtain ⟨k4, hk4⟩ : ∃ k : Nat, n % 4 = k := Int.eq_ofNat_of_zero_le (by omega)
 have hand : bits .and .i64 n 3 = (k4 : Int) := by rw [and_3f, hk4]
 obtain ⟨N, hN⟩ : ∃ N : Nat, N = k4 + 1 := ⟨_, rfl⟩
 have zN : IntKind.i64.wrap ((1 : Int) + (k4 : Int)) = (N : Int) := by rw [IntWalk.i64_in _ (by omega)]; omega
 have hN1 : 1 ≤ N := by omega
 have hN4 : N ≤ 4 := by omega
 have HD := zh (fun w => law_head21 w)
 have HZ := zh hz
 have HV := zh hv
 have HP := zh hp
 obtain ⟨s0, c0, rfl, -⟩ := hv
 clear hz hk4 hN hp
 go_enter Tryz.func11, Tryz.ntmps11
 go_upto_region 1 with (fail)
 obtain ⟨w0, hw0, p0, p1, hb0⟩ := box2 w (.int .u32 p.1) (.int .i64 p.2) 53
 rw [← hw0]
 obtain ⟨pb, hpb⟩ : ∃ pb, pb = w.heap.size := ⟨_, rfl⟩
 rw [← hpb] at p0 p1 ⊢
 have B0 := zh hb0
 clear hw0 hb0 hpb
 go_wp2_with fail
 refine (HD.out w0).mono ?_
 rintro e w1 ⟨rfl, hb1⟩
 have B1 := zh (zC B0.out hb1)
 replace p0 := zA p0 hb1
 replace p1 := zA p1 hb1
 have TD := zh (l_told N hN1 (by omega) _ xs w1 (SlAt.below HV.out B1.out fun _ _ h => ⟨h.1, h.2.1, h.2.2.below B1.out⟩) HZ.out)
 clear hb1 B0 HD
 go_wp2_with fail
 refine TD.out.mono ?_
 rintro e w2 ⟨rho, sb, fb, ls, rfl, hl⟩
 obtain ⟨A, hA⟩ : ∃ A, toldA N xs = A := ⟨_, rfl⟩
 have VL : Hid (A.V.length = N) := zh (by rw [← hA]; exact toldA_len N xs)
 rw [hA] at hl
 replace p0 := zA p0 hl.bel
 replace p1 := zA p1 hl.bel
 have B2 := zh (zC B1.out hl.bel)
 have LV := zh hl
 have OF := zh (ls_OfI hl fr p HP.out)
 clear hA hl TD B1 HV HZ
 go_wp2_with fail
 refine OF.out.mono ?_
 rintro e w3 ⟨rfl, hb3⟩
 obtain ⟨ko, hko⟩ : ∃ ko, A.keyI fr p = ko := ⟨_, rfl⟩
 have HKO := zh hko
 rw [hko]
 obtain ⟨K, hK⟩ : ∃ K, ko.getD ky0 = K := ⟨_, rfl⟩
 obtain ⟨ok, hok⟩ : ∃ ok, ko.isSome = ok := ⟨_, rfl⟩
 have SUM : Hid ((mayS (fun i => A.goesI i fr p) N : Int) = K.may) := zh (by
  have := sum_key LV.out.few fr p
  rw [VL.out, hko, hK] at this
  exact this)
 have KE := zh (And.intro hK hok)
 rw [hK, hok]
 have L3 := zh (LV.out.below hb3)
 replace p0 := zA p0 hb3
 replace p1 := zA p1 hb3
 have B3 := zh (zC B2.out hb3)
 clear hko hK hok hb3 LV B2 OF
 go_upto_region 8 with (fail)
 obtain ⟨w4, hw4, q4, hb4, -⟩ := box1 w3 (kyC K) 102
 rw [show w3.alloc (.cells #[.int .i64 K.from_, .int .i64 K.best, .int .i64 K.may] 102) = w4 from hw4.symm]
 obtain ⟨kb, hkb⟩ : ∃ kb, kb = w3.heap.size := ⟨_, rfl⟩
 rw [← hkb] at q4 ⊢
 have QK := zh q4
 have L4 := zh (L3.out.below hb4)
 replace p0 := zA p0 hb4
 replace p1 := zA p1 hb4
 have B4 := zh (zC B3.out hb4)
 have P0 := zh p0
 have P1 := zh p1
 clear hw4 q4 hb4 hkb L3 B3 p0 p1
 go_wp2_with fail
 go_loopw [12, 13] (fun t12 t13 wr => ∃ i : Nat, i ≤ N ∧ t13 = .int .i64 i ∧ t12 = .int .i64 (mayS (fun i => A.goesI i fr p) i : Nat) ∧ Hid (Below w4.heap.size w4 wr)) (fun _ t13 _ => N - (intOf t13).toNat)
 case atStart => exact ⟨0, by omega, rfl, rfl, zh (Below.refl _ _)⟩
 case round =>
  obtain ⟨i, hi, rfl, rfl, BR⟩ := hrel
  by_cases hil : i < N
  ·have dk : decide ((i : Int) < (N : Int)) = true := by simp; omega
   have p0 := zA P0.out BR.out
   have p1 := zA P1.out BR.out
   have LR := zh (L4.out.below BR.out)
   have GO := zh (ls_GoesI LR.out (i := i) (by rw [VL.out]; exact hil) fr p HP.out.1)
   obtain ⟨z, hz⟩ : ∃ z, A.goesI i fr p = z := ⟨_, rfl⟩
   have NX : Hid (mayS (fun i => A.goesI i fr p) (i + 1) = mayS (fun i => A.goesI i fr p) i + if z then 2 ^ i else 0) := zh (by rw [← hz]; rfl)
   have ML : mayS (fun i => A.goesI i fr p) i < 2 ^ i := mayS_lt _ i
   obtain ⟨M, hM⟩ : ∃ M, mayS (fun i => A.goesI i fr p) i = M := ⟨_, rfl⟩
   have P16 := pow_le16 (n := i) (by omega)
   obtain ⟨P, hP⟩ : ∃ P, 2 ^ i = P := ⟨_, rfl⟩
   have sw : IntKind.i64.wrap ((2 : Int) ^ i) = (P : Int) := by rw [bit_pow, hP, IntWalk.i64_in _ (by rw [hP] at P16; omega)]
   have ad : IntKind.i64.wrap ((M : Int) + (P : Int)) = ((M + P : Nat) : Int) := by rw [hM, hP] at ML; rw [hP] at P16; rw [IntWalk.i64_in _ (by omega)]; omega
   have cu : IntKind.u64.wrap (i : Int) = (i : Int) := by rw [IntWalk.u64_in _ (by omega)]
   obtain ⟨R, hR⟩ : ∃ R, M + P = R := ⟨_, rfl⟩
   rw [hz] at GO
   rw [hM, hP] at NX
   rw [hR] at ad
   have HR := zh hR
   rw [hM]
   have IL := zh hil
   clear hz hM hP hR ML P16 hi hil
   go_wp2_with fail
   refine GO.out.mono ?_
   rintro e w5 ⟨rfl, hb5⟩
   have B5 := zh (zC BR.out hb5)
   clear hb5 GO p0 p1 BR LR
   rcases z with _ | _
   ·have E : Hid (mayS (fun i => A.goesI i fr p) (i + 1) = M) := zh (by rw [NX.out]; simp)
    clear NX ad sw cu
    go_wp2_with fail
    exact ⟨⟨i + 1, by have := IL.out; omega, by go_num, by rw [E.out], B5⟩, by have := IL.out; simp [intOf]; omega⟩
   ·have E : Hid (mayS (fun i => A.goesI i fr p) (i + 1) = R) := zh (by rw [NX.out, if_pos rfl]; exact HR.out)
    have i64 : (i : Int) < 64 := by have := IL.out; omega
    clear NX
    go_wp2_with fail
    exact ⟨⟨i + 1, by have := IL.out; omega, by go_num, by rw [E.out], B5⟩, by have := IL.out; simp [intOf]; omega⟩
  ·obtain rfl : i = N := by omega
   have dk : decide ((i : Int) < (i : Int)) = false := by simp
   rw [SUM.out]
   have QR := zh ((BR.out.block _ (zE QK.out)).trans QK.out)
   have LR := zh (L4.out.below BR.out)
   have p0 := zA P0.out BR.out
   have p1 := zA P1.out BR.out
   have FB := zh (zC B4.out BR.out)
   clear BR hi hil SUM L4 P0 P1 QK B4
   rcases ok with _ | _
   ·have e : K = ky0 := by
     have h1 := KE.out.1
     have h2 := KE.out.2
     cases ko with
     | none => exact h1.symm
     | some x => cases h2
    subst e
    have k0 : wr.cell? ⟨kb, 0, none⟩ = some (.int .i64 0) := zB QR.out 0
    have k1 : wr.cell? ⟨kb, 1, none⟩ = some (.int .i64 0) := zB QR.out 1
    have k2 : wr.cell? ⟨kb, 2, none⟩ = some (.int .i64 0) := zB QR.out 2
    have my : ky0.may = 0 := rfl
    rw [my]
    go_wp2_with fail
    go_ret
    exact ⟨rfl, FB.out⟩
   ·obtain ⟨j, m, b, rfl, hj, hb, hbn, hm, hgo, rfl⟩ := keyI_some (A := A) (k := K) (from_ := fr) (p := p) (by
     rw [HKO.out]
     have h1 := KE.out.1
     have h2 := KE.out.2
     cases ko with
     | none => cases h2
     | some x => rw [← h1]; rfl)
    obtain ⟨My, hMy⟩ : ∃ My, A.may j p = My := ⟨_, rfl⟩
    have MB : Hid (∀ q : Nat, My.testBit q = (decide (q < i) && A.goes q j p)) := zh (fun q => by rw [← hMy, may_bit LR.out.few, VL.out])
    have HBN := zh (And.intro hbn (And.intro hm hgo))
    have HJ := zh hj
    have HBB := zh hb
    have BS := zh (ls_Best LR.out (i := j) hj p HP.out)
    rw [hMy] at QR ⊢
    clear hMy hj hb hbn hm hgo HKO KE
    have y0 : wr.cell? ⟨kb, 0, none⟩ = some (.int .i64 (j : Int)) := zB QR.out 0
    go_wp2_with fail
    refine BS.out.mono ?_
    rintro e w6 (⟨hn, -⟩ | ⟨pe, a, u, hn, rfl, -, -, hb6⟩)
    ·rw [HBB.out] at hn; cases hn
    have PE : Hid (pe = (m : Int)) := zh (by rw [HBB.out] at hn; injection hn with hn; rw [← HBN.out.1, hn])
    have L6 := zh (LR.out.below hb6)
    have QK6 := zh ((hb6.block _ (zE QR.out)).trans QR.out)
    have FB6 := zh (zC FB.out hb6)
    replace p0 := zA p0 hb6
    replace p1 := zA p1 hb6
    clear hn hb6 BS LR QR FB y0
    go_wp2_with ((with_reducible refine zM (X := .store 61 (.tmp 14) (.tmp 63)) ?_ ?_); (· rfl))
    unfold Halt
    refine st_fresh rfl 61 (.tmp 14) (.tmp 63) rfl rfl _ (rtC pe p u) rfl sz_rt rfl (rt_one _ _ _) ?_
    obtain ⟨w7, hw7, q7, hb7, -⟩ := box1 w6 (rtC pe p u) 61
    rw [← hw7]
    obtain ⟨rb, hrb⟩ : ∃ rb, rb = w6.heap.size := ⟨_, rfl⟩
    rw [← hrb] at q7 ⊢
    have c0 : w7.cell? ⟨rb, 0, none⟩ = some (.int .i64 (m : Int)) := by rw [← PE.out]; exact zB q7 0
    have L7 := zh (L6.out.below hb7)
    have QK7 := zh ((hb7.block _ (zE QK6.out)).trans QK6.out)
    have FB7 := zh (zC FB6.out hb7)
    replace p0 := zA p0 hb7
    replace p1 := zA p1 hb7
    obtain ⟨y0, y1, y2⟩ := key_cells QK7.out
    clear hw7 q7 hb7 hrb L6 QK6 FB6
    have CN := zh (fk_Can (j : Int) (m : Int) My (m : Int) w7)
    have e1 : Hid ((decide ((0 : Int) ≤ (m : Int) ∧ (m : Int) < 16) && My.testBit (m : Int).toNat) = true) := zh (by
     have h1 := HBN.out.2.1
     have h2 := L7.out.few
     rw [Int.toNat_natCast, MB.out, HBN.out.2.2]
     rw [VL.out] at h1 h2
     rw [show decide ((0 : Int) ≤ (m : Int) ∧ (m : Int) < 16) = true from decide_eq_true ⟨by omega, by omega⟩, decide_eq_true h1]
     rfl)
    rw [e1.out] at CN
    simp only [Act.put]
    go_wp2_with fail
    refine CN.out.mono ?_
    rintro e w8 ⟨rfl, hb8⟩
    have L8 := zh (L7.out.below hb8)
    have QK8 := zh ((hb8.block _ (zE QK7.out)).trans QK7.out)
    have FB8 := zh (zC FB7.out hb8)
    have P0 := zh (zA p0 hb8)
    have P1 := zh (zA p1 hb8)
    clear p0 p1 y0 y1 y2 c0 hb8 CN L7 QK7 FB7
    go_wp2_with fail
    go_loopw [16] (fun t16 wr => ∃ x : Int, -1 ≤ x ∧ x ≤ 17 ∧ t16 = .int .i64 x ∧ Hid (Below w8.heap.size w8 wr)) (fun t16 _ => (17 - intOf t16).toNat)
    case atStart => exact ⟨-1, by omega, by omega, rfl, zh (Below.refl _ _)⟩
    case round =>
     obtain ⟨x, hx1, hx2, rfl, BR⟩ := hrel
     by_cases hx : x < 17
     ·have dx : decide (x < 17) = true := by simpa using hx
      have wx : IntKind.i64.wrap (x + 1) = x + 1 := by rw [IntWalk.i64_in _ (by omega)]
      have QR := zh ((BR.out.block _ (zE QK8.out)).trans QK8.out)
      have LR := zh (L8.out.below BR.out)
      obtain ⟨y0, y1, y2⟩ := key_cells QR.out
      have p0 := zA P0.out BR.out
      have p1 := zA P1.out BR.out
      have CN := zh (fk_Can (j : Int) (m : Int) My x wr)
      obtain ⟨z, hz⟩ : ∃ z, (decide (0 ≤ x ∧ x < 16) && My.testBit x.toNat) = z := ⟨_, rfl⟩
      rw [hz] at CN
      have XL := zh (And.intro hx1 hx)
      clear hx2 QR
      go_wp2_with fail
      refine CN.out.mono ?_
      rintro e w9 ⟨rfl, hb9⟩
      have B9 := zh (zC BR.out hb9)
      replace p0 := zA p0 hb9
      replace p1 := zA p1 hb9
      have L9 := zh (LR.out.below hb9)
      clear hb9 CN BR LR y0 y1 y2
      by_cases h0 : 0 ≤ x
      ·obtain ⟨q, rfl⟩ := Int.eq_ofNat_of_zero_le h0
       have d0 : decide ((q : Int) ≥ 0) = true := by simp
       by_cases hq : q < i
       ·have d1 : decide ((q : Int) < (i : Int)) = true := by simp; omega
        have d2 : decide (q < i) = true := by simp; omega
        have GO := zh (ls_GoesI L9.out (i := q) (by rw [VL.out]; exact hq) (j : Int) p HP.out.1)
        have e2 : A.goesI q j p = z := by
         rw [goesI_at A (by rw [VL.out]; exact hq) HJ.out, ← hz, Int.toNat_natCast, MB.out, decide_eq_true hq, Bool.true_and]
         have h2 := L9.out.few
         rw [VL.out] at h2
         rw [show decide ((0 : Int) ≤ (q : Int) ∧ (q : Int) < 16) = true from decide_eq_true ⟨by omega, by omega⟩, Bool.true_and]
        rw [e2] at GO
        clear hz h0 hx1 hx e2 hq
        go_wp2_with fail
        refine GO.out.mono ?_
        rintro e w10 ⟨rfl, hb10⟩
        have B10 := zh (zC B9.out hb10)
        clear hb10 GO B9 L9 p0 p1
        have ez : (z != z) = false := by cases z <;> rfl
        go_wp2_with fail
        exact ⟨⟨(q : Int) + 1, by omega, by have := XL.out; omega, rfl, B10⟩, by have := XL.out; simp [intOf]; omega⟩
       ·have d1 : decide ((q : Int) < (i : Int)) = false := by simp; omega
        have d2 : decide (q < i) = false := by simp; omega
        obtain rfl : z = false := by
         rw [← hz, Int.toNat_natCast, MB.out, d2]; simp
        clear hz h0 hx1 hx hq L9
        go_wp2_with fail
        exact ⟨⟨(q : Int) + 1, by omega, by have := XL.out; omega, rfl, B9⟩, by have := XL.out; simp [intOf]; omega⟩
      ·have d0 : decide (x ≥ 0) = false := by simpa using h0
       obtain rfl : z = false := by
        rw [← hz, show decide (0 ≤ x ∧ x < 16) = false from decide_eq_false (fun h => h0 h.1)]; rfl
       clear hz h0 hx1 hx L9
       go_wp2_with fail
       exact ⟨⟨x + 1, by have := XL.out; omega, by have := XL.out; omega, rfl, B9⟩, by have := XL.out; simp [intOf]; omega⟩
     ·have dx : decide (x < 17) = false := by simpa using hx
      have FF := zh (zC FB8.out BR.out)
      clear BR hx hx1 hx2
      go_wp2_with fail
      go_ret
      exact ⟨rfl, FF.out⟩
namespace fecKeys
open Go.ChangeShapes Go.WideShapes Go.ChangeAt Go.RowKit
set_option linter.unusedVariables false
set_option maxRecDepth 100000 in
theorem lifted (os : Os) (started : os.Started) (H : Type) (enc : TypeId × Value → H) :
  ReturnsInHanded {} Tryz.checked os 11 .any (Rows.fecKeysSpec.pre6 enc Tryz.prog Tryz.f11 Rows.fecKeysRow.domain false) (Rows.fecKeysSpec.post enc Tryz.prog Tryz.f11 false true false false) := by
 refine returnsInHanded_of_change_sized (C := Tryz.checked) fr_own started (by kernel_rfl) Tryz.func11
  (ChangeSpec.witness6 (enc := enc) (C := Tryz.checked) false ⟨#[], #[.int .i64 0, .slice none 0 0, .int .i64 0, .agg #[.int .u32 0, .int .i64 0]], []⟩ 8 (by kernel_rfl) (by kernel_rfl) (by kernel_rfl) (by kernel_rfl)) ?_
 intro W base args ds gs before hval0 hW hcnd hsz0 _
 have hval : ∀ (j : Nat) t v, Tryz.f11.params[j]? = some t → args[j]? = some v → Value.okWide Tryz.prog W .any base t v := hval0
 have hW' := hW
 obtain ⟨p, q, hA0, hV, rfl, hfz, hnd⟩ := hW
 have hA : DataW.TrodAll enc Tryz.prog W 0 (fun _ => true) true Tryz.f11.params.toList args.toList ds p := hA0
 rw [Tryz.params11] at hA hval
 obtain ⟨v0, vs0, d0, ds0, p0, q0, hargs, rfl, rfl, h0, r0⟩ := trodAll_cons hA
 obtain ⟨v1, vs1, d1, ds1, p1, q1, rfl, rfl, rfl, h1, r1⟩ := trodAll_cons r0
 obtain ⟨v2, vs2, d2, ds2, p2, q2, rfl, rfl, rfl, h2, r2⟩ := trodAll_cons r1
 obtain ⟨v3, vs3, d3, ds3, p3, q3, rfl, rfl, rfl, h3, r3⟩ := trodAll_cons r2
 obtain ⟨rfl, rfl, rfl⟩ := trodAll_nil r3
 obtain rfl : args = #[v0, v1, v2, v3] := by cases args; simp_all
 obtain ⟨rfl, rfl⟩ := trodVars_none hV
 have lt0 : ∀ x ∈ p0, x.block < W.heap.size := by obtain ⟨m, hm⟩ := h0; exact DataW.trod_lt m _ _ _ hm
 have lt1 : ∀ x ∈ p1, x.block < W.heap.size := by obtain ⟨m, hm⟩ := h1; exact DataW.trod_lt m _ _ _ hm
 have lt2 : ∀ x ∈ p2, x.block < W.heap.size := by obtain ⟨m, hm⟩ := h2; exact DataW.trod_lt m _ _ _ hm
 have lt3 : ∀ x ∈ p3, x.block < W.heap.size := by obtain ⟨m, hm⟩ := h3; exact DataW.trod_lt m _ _ _ hm
 have hsz : (DataW.weightsEach Tryz.prog [3, 110, 3, 53] [d0, d1, d2, d3]).all (· ≤ reachBytes) = true := hsz0
 obtain ⟨n, rfl, nl, nh⟩ := open_i64 (hval 0 3 v0 rfl rfl)
 obtain ⟨xs, hxs, hxz⟩ := open_saids_sz (hval 1 110 v1 rfl rfl) h1 (sz_of hsz (j := 1) rfl rfl)
 obtain ⟨fr, rfl, wl, wh⟩ := open_i64 (hval 2 3 v2 rfl rfl)
 obtain ⟨a1, n1, rfl, z0, z1, z2, z3⟩ := open_pref (hval 3 53 v3 rfl rfl)
 clear hA0 hval0 hsz0 hsz
 refine (law_FecKeys n v1 xs fr (a1, n1) W hxs hxz ⟨⟨z0, z1⟩, ⟨z2, z3⟩⟩).mono fun e W' ⟨he, bel⟩ => ?_
 subst he
 exact ⟨_, rfl, _, _, _, [], _, [], hW', trodAll_mk1 (shut_bool Tryz.underlying4 _), (trodAll_cons_mk (Below.trod fr_laidOut (by kernel_rfl) (of_decide_eq_true (by kernel_rfl)) h0 bel lt0) (trodAll_cons_mk (Below.trod fr_laidOut (by kernel_rfl) (of_decide_eq_true (by kernel_rfl)) h1 bel lt1) (trodAll_cons_mk (Below.trod fr_laidOut (by kernel_rfl) (of_decide_eq_true (by kernel_rfl)) h2 bel lt2) (trodAll_cons_mk (Below.trod fr_laidOut (by kernel_rfl) (of_decide_eq_true (by kernel_rfl)) h3 bel lt3) trodAll_mk0)))), rfl, bel.frame _, fun h => by cases h⟩
theorem over : Rows.fecKeysRow.holds Tryz.pinned (OpenSpec.ofChange Rows.fecKeysSpec) :=
 OpenClaim.holds_of_wide 11 Tryz.f11 rfl rfl rfl rfl rfl rfl rfl ⟨rfl, rfl, rfl, rfl, rfl⟩ rfl rfl rfl rfl rfl (by kernel_rfl) Tryz.func11 (by kernel_rfl)
  (of_decide_eq_true (by kernel_rfl)) (by unfold Func.isWrapper; first | (rw [if_pos (by decide +kernel)]; kernel_rfl) | (rw [if_neg (by decide +kernel)]; exact ⟨rfl, rfl⟩))
  (fun os started H enc _ => lifted os started H enc)
/-- THE STATEMENT FecKeys. -/
theorem proved : Rows.FecKeysSaid := over
#print axioms proved
end fecKeys
end Go.Proofs.YtkoidahgbbabiaaGreat
