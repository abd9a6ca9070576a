/- Texts of one proof, one behind another. -/
import Derived.Test.YtkoidahgbbabiaaGreatFo22
import Derived.Test.YtkoidahgbbabiaaGreatFo19
import Derived.Test.YtkoidahgbbabiaaGreatFo1
import Derived.Test.YtkoidahgbbabiaaGreatFo9
import Derived.Test.YtkoidahgbbabiaaGreatFo18
/-
 CLASSES: the key of a sender's frames to a prefix; whether somebody may be chosen.
-/
namespace Go.Proofs.YtkoidahgbbabiaaGreat
open Go.RowKit
theorem or_nat (a b : Nat) (ha : a < 65536) (hb : b < 65536) : bits .or .i64 (a : Int) (b : Int) = ((a ||| b : Nat) : Int) := by
 show IntKind.i64.wrap ((BitVec.ofInt 64 (a : Int) ||| BitVec.ofInt 64 (b : Int)).toNat : Int) = _
 rw [BitVec.toNat_or, ofInt64_nat, ofInt64_nat]
 have e1 : ((a : Int) % 18446744073709551616).toNat = a := by omega
 have e2 : ((b : Int) % 18446744073709551616).toNat = b := by omega
 rw [e1, e2]
 have : a ||| b < 2 ^ 16 := Nat.or_lt_two_pow (by omega) (by omega)
 rw [IntWalk.i64_in _ (by omega)]
theorem pow_le16 {n : Nat} (h : n < 16) : 2 ^ n ≤ 32768 := Nat.pow_le_pow_right (n := 2) (by decide) (show n ≤ 15 by omega)
theorem sz_key : (Tryz.prog.info? 102).map (·.size) = some 3 := by kernel_rfl
theorem ky_one (k : Ky) : (kyC k).all (·.oneCell') = true := by simp [Value.oneCell']
theorem results_Of (tmps : Array Value) (W : World) (b : Nat) (C : Array Value) (hC : C.size = 3) (c : Bool) (h4 : tmps.getD 6 undef = .pointer (some ⟨b, 0, none⟩)) (h5 : tmps.getD 7 undef = .bool c) (hb : W.heap[b]? = some (.cells C 102 (0, 0))) :
  (results Tryz.f48 tmps).run Tryz.prog W = .ok (.tuple #[.agg C, .bool c]) W := by
 have hl := run_loadVar_row (P := Tryz.prog) W b 102 102 C (0, 0) _ hb Tryz.underlying102 rfl (by rw [hC]; kernel_rfl)
 unfold results
 rw [Tryz.results48]
 simp [h4, h5, hl, asAddr, -Array.getD_eq_getD_getElem?]
def OfPostK (k : Option Ky) (W : World) (e : Ending) (w' : World) : Prop := e = .returned (.tuple #[kyV (k.getD ky0), .bool k.isSome]) ∧ Below W.heap.size W w'
set_option maxHeartbeats 1600000 in
set_option maxRecDepth 100000 in
theorem of_none (sv : Value) (n : Int) (p : Pf) (W : World) (OF : ∀ w', Below W.heap.size W w' → Calls Tryz.prog 30 #[sv, .int .i64 n, .agg #[.int .u32 p.1, .int .i64 p.2]] w' fun e w2 => e = .returned (.slice none 0 0) ∧ Below w'.heap.size w' w2) :
  Calls Tryz.prog 48 #[sv, .int .i64 n, .agg #[.int .u32 p.1, .int .i64 p.2]] W (OfPostK none W) := by
 have OF := Lib.hid OF
 go_enter Tryz.func48, Tryz.ntmps48
 go_upto_region 1 with (fail)
 obtain ⟨W0, hW0, q0, q1, hB⟩ := boxTwo W #[.int .u32 p.1, .int .i64 p.2] 53 (kyC ky0) 102
 have p0 : W0.cell? ⟨W.heap.size, 0, none⟩ = some (.int .u32 p.1) := row_cell q0 0
 have p1 : W0.cell? ⟨W.heap.size, 1, none⟩ = some (.int .i64 p.2) := row_cell q0 1
 have Q1 := Lib.hid q1
 have B0 := Lib.hid hB
 rw [show (W.alloc (.cells #[.int .u32 p.1, .int .i64 p.2] 53)).alloc (.cells #[.int .i64 0, .int .i64 0, .int .i64 0] 102) = W0 from hW0.symm]
 clear hW0 q0 q1 hB
 go_wp2_with fail
 refine (OF.out W0 B0.out).mono ?_
 rintro e w1 ⟨rfl, hb⟩
 have Q2 := Lib.hid ((hb.block _ (row_lt Q1.out)).trans Q1.out)
 have B1 := Lib.hid (below_on B0.out hb)
 clear hb p0 p1 Q1 OF
 go_wp2_with ((with_reducible refine halt_at (X := .store 102 (.tmp 6) (.tmp 19)) ?_ ?_); (· rfl))
 unfold Halt
 refine st_row rfl 102 _ _ rfl (W.heap.size + 1) rfl 102 (kyC ky0) (kyC ky0) rfl Q2.out sz_key rfl (ky_one _) ?_
 have Q3 := Lib.hid (setRow_heap _ _ _ (kyC ky0) _ _ Q2.out)
 have B3 := Lib.hid (B1.out.trans ((kept_setRow (F := fun k => k = W.heap.size + 1) (w := w1) (W.heap.size + 1) (kyC ky0) rfl).below B1.out.size (by rintro k rfl; omega)))
 generalize w1.setRow (W.heap.size + 1) (kyC ky0) = w2 at Q3 B3 ⊢
 go_wp2_with fail
 exact bodyPost_ret (results_Of _ _ (W.heap.size + 1) _ rfl _ rfl rfl Q3.out) rfl ⟨rfl, B3.out⟩
section
variable {w W : World} {rho : Nat → Role} {sb fb : Nat} {ls : List Pl} {A : Ab}
theorem fc_Of_nil (n : Int) (p : Pf) (W : World) : Calls Tryz.prog 48 #[.pointer none, .int .i64 n, .agg #[.int .u32 p.1, .int .i64 p.2]] W (OfPostK none W) := of_none _ n p W fun w' _ => sv_Offers_nil n w' p
theorem fc_Of_no (h : LSv w W rho sb fb ls A) {n : Int} (hn : ¬ (0 ≤ n ∧ n < (A.V.length : Int))) (p : Pf) : Calls Tryz.prog 48 #[.pointer (some ⟨sb, 0, none⟩), .int .i64 n, .agg #[.int .u32 p.1, .int .i64 p.2]] W (OfPostK none W) := of_none _ n p W fun _ hb => ls_Offers_no (h.below hb) hn p
set_option maxHeartbeats 3200000 in
set_option maxRecDepth 100000 in
theorem fc_Of (h : LSv w W rho sb fb ls A) {i : Nat} (hi : i < A.V.length) (p : Pf) (hp : KOk p) : Calls Tryz.prog 48 #[.pointer (some ⟨sb, 0, none⟩), .int .i64 i, .agg #[.int .u32 p.1, .int .i64 p.2]] W (OfPostK (A.key i p) W) := by
 have OF := Lib.hid (fun w' (hb : Below W.heap.size W w') => ls_Offers (h.below hb) hi p hp)
 have FEW := Lib.hid h.few
 clear h hp
 go_enter Tryz.func48, Tryz.ntmps48
 go_upto_region 1 with (fail)
 obtain ⟨W0, hW0, q0, q1, hB⟩ := boxTwo W #[.int .u32 p.1, .int .i64 p.2] 53 (kyC ky0) 102
 have p0 : W0.cell? ⟨W.heap.size, 0, none⟩ = some (.int .u32 p.1) := row_cell q0 0
 have p1 : W0.cell? ⟨W.heap.size, 1, none⟩ = some (.int .i64 p.2) := row_cell q0 1
 have Q1 := Lib.hid q1
 have B0 := Lib.hid hB
 rw [show (W.alloc (.cells #[.int .u32 p.1, .int .i64 p.2] 53)).alloc (.cells #[.int .i64 0, .int .i64 0, .int .i64 0] 102) = W0 from hW0.symm]
 clear hW0 q0 q1 hB
 go_wp2_with fail
 refine (OF.out W0 B0.out).mono ?_
 rintro e w1 ⟨s, c, L, AO, rfl, ob, pm, net, fst, hb⟩
 have Q2 := Lib.hid ((hb.block _ (row_lt Q1.out)).trans Q1.out)
 have B1 := Lib.hid (below_on B0.out hb)
 have TO : Hid (ToldOf A i p L) := Lib.hid ⟨pm, net⟩
 have SM : Hid (∀ x ∈ L, ∃ n : Nat, x.peer = (n : Int) ∧ n < 16) := Lib.hid (fun x hx => by
  obtain ⟨c, hc, e, -⟩ := TO.out.of hx
  obtain ⟨n, h1, -, h3⟩ := offs_small FEW.out hc
  exact ⟨n, e.symm.trans h1, h3⟩)
 have MY : Hid (A.may i p = mayN (L.map (·.peer.toNat))) := Lib.hid (by
  unfold Ab.may
  have h1 := pm.map (fun y : Int × At => y.1.toNat)
  rw [List.map_map, List.map_map] at h1
  exact (mayN_perm h1).symm)
 have Fss := Lib.hid fst
 have SB := Lib.hid (own_slat beL_len ob.own)
 have lbl : L.length ≤ 9223372036854775807 := by
  obtain ⟨sa, cap, -, g1, g2, -⟩ := SB.out
  exact Nat.le_trans g1 g2
 clear hb p0 p1 Q1 OF ob pm net fst
 rcases hL : L with _ | ⟨x, L'⟩
 ·subst hL
  have KE : Hid (A.key i p = none) := Lib.hid (by unfold Ab.key; rw [TO.out.none.2 rfl]; rfl)
  clear SM MY Fss SB TO
  go_wp2_with ((with_reducible refine halt_at (X := .store 102 (.tmp 6) (.tmp 19)) ?_ ?_); (· rfl))
  unfold Halt
  refine st_row rfl 102 _ _ rfl (W.heap.size + 1) rfl 102 (kyC ky0) (kyC ky0) rfl Q2.out sz_key rfl (ky_one _) ?_
  have Q3 := Lib.hid (setRow_heap _ _ _ (kyC ky0) _ _ Q2.out)
  have B3 := Lib.hid (B1.out.trans ((kept_setRow (F := fun k => k = W.heap.size + 1) (w := w1) (W.heap.size + 1) (kyC ky0) rfl).below B1.out.size (by rintro k rfl; omega)))
  generalize w1.setRow (W.heap.size + 1) (kyC ky0) = w2 at Q3 B3 ⊢
  go_wp2_with fail
  exact bodyPost_ret (results_Of _ _ (W.heap.size + 1) _ rfl _ rfl rfl Q3.out) rfl ⟨by rw [KE.out]; rfl, B3.out⟩
 ·have hx0 : L[0]? = some x := by rw [hL]; rfl
  have n0 : ((L.length : Int) == 0) = false := by rw [hL]; simp; omega
  have L0 : Hid (0 < L.length) := Lib.hid (by rw [hL]; simp)
  have LL : Hid (L = x :: L') := Lib.hid hL
  have BE : Hid (A.best i p = some (x.peer, x.a)) := Lib.hid (Fss.out x hx0)
  obtain ⟨n, hn, hn16⟩ := SM.out x (List.mem_of_getElem? hx0)
  have HN := Lib.hid hn
  obtain ⟨g, o, rfl, hrg⟩ := be_at SB.out hx0
  have c0 : w1.cell? ⟨g, o, none⟩ = some (.int .i64 (n : Int)) := by have := hrg 0 _ rfl; rw [Nat.zero_mul, Nat.add_zero] at this; rw [← hn]; exact this
  have i0 : (0 : Int) < (L.length : Int) := by have := L0.out; omega
  rw [← hL]
  clear hL hx0 hrg hn hn16
  go_upto_region 5 with (fail)
  obtain ⟨w2, hw2, q2, hb2, -⟩ := box1 w1 (kyC ⟨i, n, 0⟩) 102
  rw [show w1.alloc (.cells #[.int .i64 (i : Int), .int .i64 (n : Int), .int .i64 0] 102) = w2 from hw2.symm]
  obtain ⟨kb, hkb⟩ : ∃ kb, kb = w1.heap.size := ⟨_, rfl⟩
  rw [← hkb] at q2 ⊢
  have HKB := Lib.hid hkb
  have B12 := Lib.hid hb2
  have Q22 := Lib.hid ((hb2.block _ (row_lt Q2.out)).trans Q2.out)
  have LKB : Hid (W.heap.size + 1 < kb) := Lib.hid (by rw [hkb]; exact row_lt Q2.out)
  have KQ : Hid (w2.heap[kb]? = some (.cells (kyC ⟨i, n, (mayN ((L.take 0).map (·.peer.toNat)) : Nat)⟩) 102 (0, 0))) := Lib.hid q2
  have KK : Hid (Kept (fun k => k = kb) w2 w2) := Lib.hid (Kept.refl _ _)
  have B2 := Lib.hid (below_on B1.out hb2)
  clear hw2 q2 hb2 Q2 B1 c0 i0 n0 hkb
  go_wp2_with fail
  go_loopw [28] (fun t28 wr => ∃ z : Nat, z ≤ L.length ∧ t28 = .int .i64 z ∧ Hid (wr.heap[kb]? = some (.cells (kyC ⟨i, n, (mayN ((L.take z).map (·.peer.toNat)) : Nat)⟩) 102 (0, 0))) ∧ Hid (Kept (fun k => k = kb) w2 wr)) (fun t28 _ => L.length - (intOf t28).toNat)
  case atStart => exact ⟨0, by omega, rfl, KQ, KK⟩
  case round =>
   clear KQ KK
   obtain ⟨z, hz, rfl, KQ, KK⟩ := hrel
   by_cases hzl : z < L.length
   ·obtain ⟨y, hy⟩ : ∃ y, L[z]? = some y := ⟨_, List.getElem?_eq_getElem hzl⟩
    obtain ⟨m, hm, hm16⟩ := SM.out y (List.mem_of_getElem? hy)
    obtain ⟨g2, o2, hgo, hrg⟩ := be_at SB.out hy
    injection hgo with hgo
    injection hgo with e1 e2 _
    subst e1; subst e2
    have RG : Hid (wr.rangeAt g (o + z * 13) (beL y)) := Lib.hid (fun j v hv => KK.out.cell (cell_below (hrg j v hv) B12.out) (fun e => by
     have h1 := size_lt (hrg j v hv)
     have h2 := HKB.out
     simp only at e h1
     omega))
    obtain ⟨M, hM⟩ : ∃ M, mayN ((L.take z).map (·.peer.toNat)) = M := ⟨_, rfl⟩
    have MN : Hid (mayN ((L.take (z + 1)).map (·.peer.toNat)) = M ||| 2 ^ m) := Lib.hid (by
     rw [take_snoc hy, List.map_append, List.map_cons, List.map_nil, mayN_snoc, hM, hm, Int.toNat_natCast])
    have M16 : M < 65536 := by
     rw [← hM]
     have := mayN_lt (L := (L.take z).map (·.peer.toNat)) (k := 16) fun q hq => by
      obtain ⟨x', hx', rfl⟩ := List.mem_map.1 hq
      obtain ⟨q2, h1, h2⟩ := SM.out x' (List.mem_of_mem_take hx')
      rw [h1, Int.toNat_natCast]; exact h2
     omega
    rw [hM] at KQ
    have z0 : (0 : Int) ≤ (z : Int) := by omega
    have z1 : (z : Int) < (L.length : Int) := by omega
    have P16 := Lib.hid (pow_le16 hm16)
    obtain ⟨P, hP⟩ : ∃ P, 2 ^ m = P := ⟨_, rfl⟩
    have OR0 := or_nat M P M16 (by have := P16.out; omega)
    obtain ⟨R, hR⟩ : ∃ R, M ||| P = R := ⟨_, rfl⟩
    have OR : bits .or .i64 (M : Int) (P : Int) = (R : Int) := by rw [← hR]; exact OR0
    have sw : IntKind.i64.wrap ((2 : Int) ^ m) = (P : Int) := by rw [bit_pow, hP, IntWalk.i64_in _ (by have := P16.out; omega)]
    rw [hP, hR] at MN
    clear OR0 hP hR P16
    have HM := Lib.hid hm
    clear hy hrg hM
    go_wp2_with ((with_reducible refine halt_at (X := .load 61 (.tmp 30)) ?_ ?_); (· rfl))
    unfold Halt
    refine ldm_at (by rfl) 61 (.tmp 30) rfl g (o + z * 13) rfl (beL y) _ RG.out Tryz.underlying61 rfl sz_rt ?_
    go_wp2_with ((with_reducible refine halt_at (X := .store 61 (.tmp 11) (.tmp 31)) ?_ ?_); (· rfl))
    unfold Halt
    refine st_fresh rfl 61 (.tmp 11) (.tmp 31) rfl rfl _ (rtC y.peer y.p y.v) rfl sz_rt rfl (rt_one _ _ _) ?_
    obtain ⟨w3, hw3, q3, hb3, -⟩ := box1 wr (rtC y.peer y.p y.v) 61
    rw [← hw3]
    obtain ⟨xb, hxb⟩ : ∃ xb, xb = wr.heap.size := ⟨_, rfl⟩
    rw [← hxb] at q3 ⊢
    have c0 : w3.cell? ⟨xb, 0, none⟩ = some (.int .i64 (m : Int)) := by rw [← hm]; exact row_cell q3 0
    have Q3 := Lib.hid ((hb3.block _ (row_lt KQ.out)).trans KQ.out)
    have c2 : w3.cell? ⟨kb, 2, none⟩ = some (.int .i64 (M : Int)) := row_cell Q3.out 2
    have f2 : w3.frozen? ⟨kb, 2, none⟩ = false := row_free Q3.out 2
    have K3 := Lib.hid (KK.out.trans (Kept.of_below hb3))
    have ZL := Lib.hid hzl
    have m0 : (0 : Int) ≤ (m : Int) := by omega
    have m1 : (m : Int) < 64 := by omega
    clear hw3 q3 hb3 hxb KK KQ RG hm
    simp only [Act.put]
    go_upto_region 8 with (fail)
    refine region_tailR 7 (by kernel_rfl) (by kernel_rfl) ?_
    simp only [List.take_succ_cons, List.take_zero, List.drop_succ_cons, List.drop_zero]
    repeat still_step
    refine wpStill_nil ?_
    have KQ4 : Hid ((w3.drew.setCell ⟨kb, 2, none⟩ (.int .i64 (R : Int))).heap[kb]? = some (.cells (kyC ⟨i, n, (mayN ((L.take (z + 1)).map (·.peer.toNat)) : Nat)⟩) 102 (0, 0))) := Lib.hid (by
     rw [MN.out]
     exact set_same (W := w3.drew) (show w3.drew.heap[kb]? = _ from Q3.out) 2 (.int .i64 (R : Int)))
    have K4 : Hid (Kept (fun k => k = kb) w2 (w3.drew.setCell ⟨kb, 2, none⟩ (.int .i64 (R : Int)))) := Lib.hid (K3.out.drew.trans (Kept.setCell _ _ rfl))
    clear Q3 K3 c0 MN
    go_wp2_with fail
    exact ⟨⟨z + 1, by have := ZL.out; omega, by go_num, KQ4, K4⟩, by have := ZL.out; simp [intOf]; omega⟩
   ·obtain rfl : z = L.length := by omega
    rw [List.take_length, ← MY.out] at KQ
    have KE : Hid (A.key i p = some ⟨i, n, (A.may i p : Nat)⟩) := Lib.hid (by unfold Ab.key; rw [BE.out, HN.out]; rfl)
    have Q5 := Lib.hid ((KK.out.block _ (row_lt Q22.out) (fun e => by have := LKB.out; omega)).trans Q22.out)
    have B5 := Lib.hid (B2.out.trans (KK.out.below B2.out.size (by rintro k rfl; have := LKB.out; omega)))
    clear hz hzl KK Q22 B2
    go_wp2_with ((with_reducible refine halt_at (X := .load 102 (.tmp 9)) ?_ ?_); (· rfl))
    unfold Halt
    refine ld_at (by rfl) 102 (.tmp 9) rfl kb rfl 102 (kyC ⟨i, n, (A.may i p : Nat)⟩) (0, 0) _ KQ.out Tryz.underlying102 rfl sz_key ?_
    go_wp2_with ((with_reducible refine halt_at (X := .store 102 (.tmp 6) (.tmp 40)) ?_ ?_); (· rfl))
    unfold Halt
    refine st_row rfl 102 _ _ rfl (W.heap.size + 1) rfl 102 (kyC ky0) (kyC ⟨i, n, (A.may i p : Nat)⟩) rfl Q5.out sz_key rfl (ky_one _) ?_
    have Q6 := Lib.hid (setRow_heap _ _ _ (kyC ⟨i, n, (A.may i p : Nat)⟩) _ _ Q5.out)
    have B6 := Lib.hid (B5.out.trans ((kept_setRow (F := fun k => k = W.heap.size + 1) (w := wr) (W.heap.size + 1) (kyC ⟨i, n, (A.may i p : Nat)⟩) rfl).below B5.out.size (by rintro k rfl; omega)))
    generalize wr.setRow (W.heap.size + 1) (kyC ⟨i, n, (A.may i p : Nat)⟩) = w6 at Q6 B6 ⊢
    go_wp2_with fail
    exact bodyPost_ret (results_Of _ _ (W.heap.size + 1) _ rfl _ rfl rfl Q6.out) rfl ⟨by rw [KE.out]; rfl, B6.out⟩
end
end Go.Proofs.YtkoidahgbbabiaaGreat
/-
 CLASSES: the order of keys; keys sorted.
-/
namespace Go.Proofs.YtkoidahgbbabiaaGreat
open Go.RowKit
def kcmp (k l : Ky) : Int := or3 (cmpIc k.from_ l.from_) (cmpIc k.best l.best) (cmpIc k.may l.may)
def klt (k l : Ky) : Prop := k.from_ < l.from_ ∨ k.from_ = l.from_ ∧ (k.best < l.best ∨ k.best = l.best ∧ k.may < l.may)
theorem kcmp_lt {k l : Ky} : kcmp k l < 0 ↔ klt k l := by
 unfold kcmp klt or3 cmpIc
 rcases Int.lt_trichotomy k.from_ l.from_ with h1 | h1 | h1 <;> rcases Int.lt_trichotomy k.best l.best with h2 | h2 | h2 <;> rcases Int.lt_trichotomy k.may l.may with h3 | h3 | h3 <;>
  (repeat' split) <;> omega
theorem klt_irrefl (k : Ky) : ¬ klt k k := by unfold klt; omega
theorem klt_trans {x y z : Ky} (h1 : klt x y) (h2 : klt y z) : klt x z := by unfold klt at *; omega
theorem klt_tri (x y : Ky) : klt x y ∨ x = y ∨ klt y x := by
 obtain ⟨a, b, c⟩ := x
 obtain ⟨d, e, f⟩ := y
 unfold klt
 simp only [Ky.mk.injEq]
 omega
theorem kcmp_swap (k l : Ky) : kcmp l k = -(kcmp k l) := by
 unfold kcmp or3 cmpIc
 (repeat' split) <;> omega
set_option maxHeartbeats 3200000 in
set_option maxRecDepth 100000 in
theorem fk_Cmp (k l : Ky) (w : World) : Calls Tryz.prog 50 #[kyV k, kyV l] w fun e w' => e = .returned (.int .i64 (kcmp k l)) ∧ Dr w w' := by
 go_enter Tryz.func50, Tryz.ntmps50
 go_upto_region 1 with (fail)
 obtain ⟨W0, hW0, q0, q1, -⟩ := boxTwo w (kyC k) 102 (kyC l) 102
 have hB : Dr w W0 := by rw [hW0]; exact ((Dr.refl _).alloc _).alloc _
 have c0 : W0.cell? ⟨w.heap.size, 0, none⟩ = some (.int .i64 k.from_) := row_cell q0 0
 have c1 : W0.cell? ⟨w.heap.size, 1, none⟩ = some (.int .i64 k.best) := row_cell q0 1
 have c2 : W0.cell? ⟨w.heap.size, 2, none⟩ = some (.int .i64 k.may) := row_cell q0 2
 have d0 : W0.cell? ⟨w.heap.size + 1, 0, none⟩ = some (.int .i64 l.from_) := row_cell q1 0
 have d1 : W0.cell? ⟨w.heap.size + 1, 1, none⟩ = some (.int .i64 l.best) := row_cell q1 1
 have d2 : W0.cell? ⟨w.heap.size + 1, 2, none⟩ = some (.int .i64 l.may) := row_cell q1 2
 rw [show (w.alloc (.cells #[.int .i64 k.from_, .int .i64 k.best, .int .i64 k.may] 102)).alloc (.cells #[.int .i64 l.from_, .int .i64 l.best, .int .i64 l.may] 102) = W0 from hW0.symm]
 clear hW0 q0 q1
 refine wp_region_held_drew (S := fun w' => Dr W0 w') (by kernel_rfl) ?_ (fun hHeld => ?_)
 ·exact Dr.drew _
 (refine qy 0 ?_ ?_ ?_ hHeld ?_; rotate_left 1; (· rfl); (· intro w' hSw; (try clear hHeld); go_simp; try with_reducible rfl)); try simp only [zp1, zp3, zp4, zp5]
 (refine qy 1 ?_ ?_ ?_ hHeld ?_; rotate_left 1; (· rfl); (· intro w' hSw; have c0 := cell_below c0 hSw.below; have c1 := cell_below c1 hSw.below; have c2 := cell_below c2 hSw.below; have d0 := cell_below d0 hSw.below; have d1 := cell_below d1 hSw.below; have d2 := cell_below d2 hSw.below; (try clear hHeld); go_simp; try with_reducible rfl)); try simp only [zp1, zp3, zp4, zp5]
 (refine qy 2 ?_ ?_ ?_ hHeld ?_; rotate_left 1; (· rfl); (· intro w' hSw; (try clear hHeld); go_simp; try with_reducible rfl)); try simp only [zp1, zp3, zp4, zp5]
 (refine qy 3 ?_ ?_ ?_ hHeld ?_; rotate_left 1; (· rfl); (· intro w' hSw; have c0 := cell_below c0 hSw.below; have c1 := cell_below c1 hSw.below; have c2 := cell_below c2 hSw.below; have d0 := cell_below d0 hSw.below; have d1 := cell_below d1 hSw.below; have d2 := cell_below d2 hSw.below; (try clear hHeld); go_simp; try with_reducible rfl)); try simp only [zp1, zp3, zp4, zp5]
 (refine qy 5 ?_ ?_ ?_ hHeld ?_; rotate_left 1; (· rfl); (· intro w' hSw; (try clear hHeld); go_simp; try with_reducible rfl)); try simp only [zp1, zp3, zp4, zp5]
 (refine qy 6 ?_ ?_ ?_ hHeld ?_; rotate_left 1; (· rfl); (· intro w' hSw; have c0 := cell_below c0 hSw.below; have c1 := cell_below c1 hSw.below; have c2 := cell_below c2 hSw.below; have d0 := cell_below d0 hSw.below; have d1 := cell_below d1 hSw.below; have d2 := cell_below d2 hSw.below; (try clear hHeld); go_simp; try with_reducible rfl)); try simp only [zp1, zp3, zp4, zp5]
 (refine qy 7 ?_ ?_ ?_ hHeld ?_; rotate_left 1; (· rfl); (· intro w' hSw; (try clear hHeld); go_simp; try with_reducible rfl)); try simp only [zp1, zp3, zp4, zp5]
 (refine qy 8 ?_ ?_ ?_ hHeld ?_; rotate_left 1; (· rfl); (· intro w' hSw; have c0 := cell_below c0 hSw.below; have c1 := cell_below c1 hSw.below; have c2 := cell_below c2 hSw.below; have d0 := cell_below d0 hSw.below; have d1 := cell_below d1 hSw.below; have d2 := cell_below d2 hSw.below; (try clear hHeld); go_simp; try with_reducible rfl)); try simp only [zp1, zp3, zp4, zp5]
 (refine qy 10 ?_ ?_ ?_ hHeld ?_; rotate_left 1; (· rfl); (· intro w' hSw; (try clear hHeld); go_simp; try with_reducible rfl)); try simp only [zp1, zp3, zp4, zp5]
 (refine qy 11 ?_ ?_ ?_ hHeld ?_; rotate_left 1; (· rfl); (· intro w' hSw; have c0 := cell_below c0 hSw.below; have c1 := cell_below c1 hSw.below; have c2 := cell_below c2 hSw.below; have d0 := cell_below d0 hSw.below; have d1 := cell_below d1 hSw.below; have d2 := cell_below d2 hSw.below; (try clear hHeld); go_simp; try with_reducible rfl)); try simp only [zp1, zp3, zp4, zp5]
 (refine qy 12 ?_ ?_ ?_ hHeld ?_; rotate_left 1; (· rfl); (· intro w' hSw; (try clear hHeld); go_simp; try with_reducible rfl)); try simp only [zp1, zp3, zp4, zp5]
 (refine qy 13 ?_ ?_ ?_ hHeld ?_; rotate_left 1; (· rfl); (· intro w' hSw; have c0 := cell_below c0 hSw.below; have c1 := cell_below c1 hSw.below; have c2 := cell_below c2 hSw.below; have d0 := cell_below d0 hSw.below; have d1 := cell_below d1 hSw.below; have d2 := cell_below d2 hSw.below; (try clear hHeld); go_simp; try with_reducible rfl)); try simp only [zp1, zp3, zp4, zp5]
 (refine rg_call (i := 4) (atN rfl) (by kernel_rfl) ?_ (fun K hK => ?_); (· rfl); (try clear hb); go_simp; (refine (calls_dr (cmpc_CompareInt k.from_ l.from_ _)).mono ?_; rintro e w1 ⟨rfl, hb⟩); go_wp2_with fail; refine hK.out _ _ ?_ (fun hHeld => ?_); (· first | exact hHeld.on hb | exact hHeld.alloc _); clear hK K); try simp only [zp1, zp3, zp4, zp5]
 (refine rg_call (i := 9) (atN rfl) (by kernel_rfl) ?_ (fun K hK => ?_); (· rfl); (try clear hb); go_simp; (refine (calls_dr (cmpc_CompareInt k.best l.best _)).mono ?_; rintro e w1 ⟨rfl, hb⟩); go_wp2_with fail; refine hK.out _ _ ?_ (fun hHeld => ?_); (· first | exact hHeld.on hb | exact hHeld.alloc _); clear hK K); try simp only [zp1, zp3, zp4, zp5]
 (refine rg_call (i := 14) (atN rfl) (by kernel_rfl) ?_ (fun K hK => ?_); (· rfl); (try clear hb); go_simp; (refine (calls_dr (cmpc_CompareInt k.may l.may _)).mono ?_; rintro e w1 ⟨rfl, hb⟩); go_wp2_with fail; refine hK.out _ _ ?_ (fun hHeld => ?_); (· first | exact hHeld.on hb | exact hHeld.alloc _); clear hK K); try simp only [zp1, zp3, zp4, zp5]
 (refine rg_call (i := 15) (atN rfl) (by kernel_rfl) ?_ (fun K hK => ?_); (· rfl); (try clear hb); go_simp; go_wp2_with fail; refine hK.out _ _ ?_ (fun hHeld => ?_); (· first | exact hHeld.on hb | exact hHeld.alloc _); clear hK K); try simp only [zp1, zp3, zp4, zp5]
 (refine rg_call (i := 16) (atN rfl) (by kernel_rfl) ?_ (fun K hK => ?_); (· rfl); (try clear hb); go_simp; (refine (calls_dr (cmp_OrInt3 _ 3 (cmpIc k.from_ l.from_) (cmpIc k.best l.best) (cmpIc k.may l.may) _ (by simp) (by simp) (by simp))).mono ?_; rintro e w1 ⟨rfl, hb⟩); go_wp2_with fail; refine hK.out _ _ ?_ (fun hHeld => ?_); (· first | exact hHeld.on hb | exact hHeld.alloc _); clear hK K); try simp only [zp1, zp3, zp4, zp5]
 (refine qy 17 ?_ ?_ ?_ hHeld ?_; rotate_left 1; (· rfl); (· intro w' hSw; (try clear hHeld); go_simp; try with_reducible rfl)); try simp only [zp1, zp3, zp4, zp5]
 refine wpAnyH_done (by kernel_rfl) ?_ _
 have hB' := hB.on hHeld
 clear hHeld hb
 go_wp2
 go_ret
 exact ⟨ret_int rfl, hB'⟩
end Go.Proofs.YtkoidahgbbabiaaGreat
/-
 SETS OF PREFIXES: Of: the set of some prefixes, or why there is none.
-/
namespace Go.Proofs.YtkoidahgbbabiaaGreat
open Go.RowKit
def ofE (ps : List Pf) : Int := if 16384 < ps.length then 3 else if rights ps then (if 4096 < (setOf ps).length then 3 else 0) else 1
def ofL (ps : List Pf) : List Pf := if ofE ps = 0 then setOf ps else []
def OfPost (ps : List Pf) (w : World) (e : Ending) (w' : World) : Prop := ∃ v', e = .returned (.tuple #[.agg #[v'], .int .i64 (ofE ps)]) ∧ OwnPs w' w.heap.size v' (ofL ps) ∧ Below w.heap.size w w'
theorem ofPost_no {ps : List Pf} {w w' : World} (hE : ofE ps ≠ 0) (hb : Below w.heap.size w w') {n : Int} (hn : n = ofE ps) : OfPost ps w (.returned (.tuple #[.agg #[.slice none 0 0], .int .i64 n])) w' :=
 ⟨_, by rw [hn], by unfold ofL; rw [if_neg hE]; exact ownPs_nil _ _, hb⟩
theorem ofE_many {ps : List Pf} (h : 16384 < ps.length) : ofE ps = 3 := by unfold ofE; rw [if_pos h]
theorem ofE_bad {ps : List Pf} {k : Nat} {x : Pf} (h : ¬ 16384 < ps.length) (hx : ps[k]? = some x) (hr : rightB x.1 x.2 = false) : ofE ps = 1 := by
 unfold ofE
 have : rights ps = false := by
  unfold rights
  rw [List.all_eq_false]
  exact ⟨x, List.mem_of_getElem? hx, by rw [hr]; decide⟩
 rw [if_neg h, this]; rfl
set_option maxHeartbeats 6400000 in
set_option maxRecDepth 100000 in
theorem ps_Of (v : Value) (ps : List Pf) (w : World) (h : PsAt w v ps) : Calls Tryz.prog 105 #[v] w (OfPost ps w) := by
 have HA := Lib.hid h
 have hlm := ps_len h
 unfold maxLen at hlm
 by_cases hmany : 16384 < ps.length
 ·have HP : Hid (∀ w', Below w.heap.size w w' → OfPost ps w (.returned (.tuple #[.agg #[.slice none 0 0], .int .i64 3])) w') := Lib.hid fun w' hb => ofPost_no (by rw [ofE_many hmany]; decide) hb (ofE_many hmany).symm
  have j0 : decide ((ps.length : Int) > 16384) = true := by simp; omega
  obtain ⟨sa, cap, rfl, -⟩ := h
  clear hmany
  go_enter Tryz.func105, Tryz.ntmps105
  go_wp2_with fail
  refine bodyPost_ret (v := .tuple #[.agg #[.slice none 0 0], .int .i64 3]) (by simp [results, Tryz.results105, go_sem]) rfl (HP.out _ ((Below.refl _ _).alloc (Nat.le_refl _) _))
 ·have j0 : decide ((ps.length : Int) > 16384) = false := by simp; omega
  have HM := Lib.hid hmany
  obtain ⟨sa, cap, rfl, hlc, hcm, hV⟩ := h
  have HV := Lib.hid hV
  clear hV hmany
  go_enter Tryz.func105, Tryz.ntmps105
  go_upto_region 3 with (fail)
  obtain ⟨W0, hW0, r0, f0, hB, -⟩ := box1c w (.slice none 0 0) 113
  rw [← hW0]
  clear hW0 j0
  have R0 := Lib.hid r0
  have F0 := Lib.hid f0
  have HB := Lib.hid hB
  clear r0 f0 hB
  go_wp2_with fail
  go_loopw [14] (fun k14 wr => ∃ k : Nat, k ≤ ps.length ∧ k14 = .int .i64 k ∧ Hid (AllR ps k) ∧ Hid (Below W0.heap.size W0 wr)) (fun k14 _ => ps.length - (intOf k14).toNat)
  case atStart => exact ⟨0, by omega, rfl, Lib.hid (fun i x hi => by omega), Lib.hid (Below.refl _ _)⟩
  case round =>
   obtain ⟨k, hk, rfl, AR, B⟩ := hrel
   by_cases hlt : k < ps.length
   ·obtain ⟨x, hx⟩ : ∃ x, ps[k]? = some x := ⟨_, List.getElem?_eq_getElem hlt⟩
    obtain ⟨bb, off, hsa, hP⟩ := HV.out (by omega)
    subst hsa
    obtain ⟨x0, x1⟩ := ps_two hP hx
    have x0 := (B.out.cell (size_lt (cell_below x0 HB.out))).trans (cell_below x0 HB.out)
    have x1 := (B.out.cell (size_lt (cell_below x1 HB.out))).trans (cell_below x1 HB.out)
    have i0 : (0 : Int) ≤ (k : Int) := by omega
    have i1 : (k : Int) < (ps.length : Int) := by omega
    have HX := Lib.hid hx
    have OX := Lib.hid (ps_ok HA.out x (List.mem_of_getElem? hx))
    clear hP hx
    go_upto_region 6 with (fail)
    obtain ⟨W1, hW1, y0, y1, hB1⟩ := box2 wr (.int .u32 x.1) (.int .i64 x.2) 53
    rw [← hW1]
    clear hW1 x0 x1
    have CK := Lib.hid (ip_Check x.1 x.2 W1 OX.out.1 OX.out.2)
    cases hR : rightB x.1 x.2
    ·have HP : Hid (∀ w', Below w.heap.size w w' → OfPost ps w (.returned (.tuple #[.agg #[.slice none 0 0], .int .i64 1])) w') := Lib.hid fun w' hb => ofPost_no (by rw [ofE_bad HM.out HX.out hR]; decide) hb (ofE_bad HM.out HX.out hR).symm
     have CK1 : Hid (Calls Tryz.prog 21 #[.agg #[.int .u32 x.1, .int .i64 x.2]] W1 fun e w' => e = .returned (.int .i64 1) ∧ Below W1.heap.size W1 w') := Lib.hid (by have := CK.out; rw [hR] at this; exact this)
     have B2 := Lib.hid (below_on B.out hB1)
     clear CK hR
     go_wp2_with fail
     refine CK1.out.mono ?_
     rintro e w2 ⟨rfl, hb2⟩
     have B3 := Lib.hid (below_on B2.out hb2)
     have r0 := cell_below R0.out B3.out
     have f0 := frozen_below (size_lt R0.out) F0.out B3.out
     clear hb2 y0 y1 hB1
     go_wp2_with fail
     refine bodyPost_ret (v := .tuple #[.agg #[.slice none 0 0], .int .i64 1]) (by simp [results, Tryz.results105, go_sem, r0]) rfl (HP.out _ ((below_on HB.out B3.out).setCell (Nat.le_refl _) _))
    ·have CK1 : Hid (Calls Tryz.prog 21 #[.agg #[.int .u32 x.1, .int .i64 x.2]] W1 fun e w' => e = .returned (.int .i64 0) ∧ Below W1.heap.size W1 w') := Lib.hid (by have := CK.out; rw [hR] at this; exact this)
     have AR2 := Lib.hid (allR_step AR.out HX.out hR)
     have B2 := Lib.hid (below_on B.out hB1)
     clear CK hR
     go_wp2_with fail
     refine CK1.out.mono ?_
     rintro e w2 ⟨rfl, hb2⟩
     have B3 := Lib.hid (below_on B2.out hb2)
     clear hb2 y0 y1 hB1
     go_wp2_with fail
     exact ⟨⟨k + 1, by omega, by go_num, AR2, B3⟩, by simp [intOf]; omega⟩
   ·obtain rfl : k = ps.length := by omega
    have RT := Lib.hid (allR_all AR.out)
    have BW := Lib.hid (below_on HB.out B.out)
    have CL := Lib.hid (ps_Clone (.slice sa ps.length cap) ps wr (HA.out.below BW.out) (by have := HM.out; omega))
    have r0 := Lib.hid (cell_below R0.out B.out)
    have f0 := Lib.hid (frozen_below (size_lt R0.out) F0.out B.out)
    clear HV AR
    go_wp2_with fail
    refine CL.out.mono ?_
    rintro e w2 ⟨v2, rfl, o2, hb2⟩
    have O2 := Lib.hid o2
    have B2 := Lib.hid (below_on BW.out hb2)
    have r2 := Lib.hid (cell_below r0.out hb2)
    have f2 := Lib.hid (frozen_below (size_lt r0.out) f0.out hb2)
    have WS := Lib.hid (Nat.lt_of_lt_of_le (size_lt R0.out) B.out.size)
    have OW : Hid (∀ b, v2.ownBlock = some b → wr.heap.size ≤ b) := Lib.hid (own_form_le o2.1)
    clear o2 hb2 r0 f0 CL
    have ST := Lib.hid (ps_Sort wr.heap.size v2 ps w2 O2.out (by have := HM.out; omega))
    go_wp2_with fail
    refine ST.out.mono ?_
    rintro e w3 ⟨ys, rfl, hyl, hym, hys, o3, k3⟩
    have O3 := Lib.hid o3
    have K3 := Lib.hid k3
    have YS : Hid (ys.length = ps.length ∧ setOf ps = comp ys) := Lib.hid ⟨hyl, setOf_is (comp_srt hys).1 fun p => ((comp_srt hys).2 p).trans (hym p)⟩
    clear hyl hym hys o3 k3 ST
    have CP := Lib.hid (ps_Compact wr.heap.size v2 ys w3 O3.out (by rw [YS.out.1]; have := HM.out; omega))
    go_wp2_with fail
    refine CP.out.mono ?_
    rintro e w4 ⟨v4, rfl, o4, k4⟩
    have O4 := Lib.hid o4
    have B4 : Hid (Below w.heap.size w w4) := Lib.hid (Kept.below (B := w.heap.size) ((Kept.of_below B2.out).trans (K3.out.trans k4)) (Nat.le_refl _) (fun b hb => Nat.le_trans BW.out.size (OW.out b hb)))
    have r4 := Lib.hid (k4.cell (K3.out.cell r2.out (fun h => by have h1 := OW.out _ h; have h2 := WS.out; simp only at h1; omega)) (fun h => by have h1 := OW.out _ h; have h2 := WS.out; simp only at h1; omega))
    have f4 : Hid (w4.frozen? ⟨w.heap.size, 0, none⟩ = false) := Lib.hid (by
     have hne : ¬ v2.ownBlock = some w.heap.size := fun h => by have := OW.out _ h; have := WS.out; omega
     exact (World.frozen?_of_block (w := w3) (k4.block w.heap.size (size_lt (K3.out.cell r2.out hne)) hne)).trans ((World.frozen?_of_block (w := w2) (K3.out.block w.heap.size (size_lt r2.out) hne)).trans f2.out))
    have LS : Hid ((comp ys).length = (setOf ps).length) := Lib.hid (by rw [YS.out.2])
    have O5 : Hid (OwnPs w4 wr.heap.size v4 (setOf ps)) := Lib.hid (by rw [YS.out.2]; exact o4)
    clear o4 k4 CP O2 B2 r2 f2 O3 K3
    have hlm2 : (comp ys).length ≤ 16384 := by rw [LS.out]; exact Nat.le_trans (setOf_len ps) (by have := HM.out; omega)
    by_cases hL : 4096 < (comp ys).length
    ·have EE : Hid (ofE ps = 3) := Lib.hid (by unfold ofE; rw [if_neg HM.out, if_pos RT.out, if_pos (by rw [← LS.out]; exact hL)])
     have HP : Hid (∀ w', Below w.heap.size w w' → OfPost ps w (.returned (.tuple #[.agg #[.slice none 0 0], .int .i64 3])) w') := Lib.hid fun w' hb => ofPost_no (by rw [EE.out]; decide) hb EE.out.symm
     have j1 : decide (((comp ys).length : Int) > 4096) = true := by simp; omega
     have r5 := r4.out
     have f5 := f4.out
     rcases own_slice O4.out.1 with ⟨rfl, h0⟩ | ⟨g, c, rfl⟩
     ·omega
     ·go_wp2_with fail
      refine bodyPost_ret (v := .tuple #[.agg #[.slice none 0 0], .int .i64 3]) (by simp [results, Tryz.results105, go_sem, r5]) rfl (HP.out _ (B4.out.setCell (Nat.le_refl _) _))
    ·have EE : Hid (ofE ps = 0) := Lib.hid (by unfold ofE; rw [if_neg HM.out, if_pos RT.out, if_neg (by rw [← LS.out]; exact hL)])
     have OO : Hid (ofL ps = setOf ps) := Lib.hid (by unfold ofL; rw [if_pos EE.out])
     have j1 : decide (((comp ys).length : Int) > 4096) = false := by simp; omega
     have r5 := r4.out
     have f5 := f4.out
     rcases own_slice O4.out.1 with ⟨rfl, h0⟩ | ⟨g, c, rfl⟩
     ·have j2 : decide ((0 : Int) > 4096) = false := by decide
      go_wp2_with fail
      refine bodyPost_ret (v := .tuple #[.agg #[.slice none 0 0], .int .i64 0]) (by simp [results, Tryz.results105, go_sem, r5]) rfl ⟨_, by rw [EE.out], by rw [OO.out]; exact O5.out.setElder WS.out BW.out.size _, B4.out.setCell (Nat.le_refl _) _⟩
     ·go_wp2_with fail
      refine bodyPost_ret (v := .tuple #[.agg #[.slice (some ⟨g, 0, none⟩) (comp ys).length c], .int .i64 0]) (by simp [results, Tryz.results105, go_sem, r5]) rfl ⟨_, by rw [EE.out], by rw [OO.out]; exact O5.out.setElder WS.out BW.out.size _, B4.out.setCell (Nat.le_refl _) _⟩
end Go.Proofs.YtkoidahgbbabiaaGreat
/-
 m[k]++ ON A MAP THAT IS A LIST OF PAIRS: the entry is laid first, its element is stored by its stamp.
-/
namespace Go.Proofs.YtkoidahgbbabiaaGreat
open Go.RowKit Go.Maps Go.ChangeMaps Go.MapKept
section
variable {κ υ : Type} [DecidableEq κ] {P : Program} {kt et t : TypeId} {ek : κ → Value} {ev : υ → Value} {ok : κ → Prop} {W W' : World} {b : Nat} {l : List (κ × υ)}
def StampAt (ek : κ → Value) (W : World) (b : Nat) (a : κ) (s : Nat) : Prop := ∃ es clock, W.heap[b]? = some (.map es clock) ∧ ∃ e ∈ es.toList, e.born = s ∧ e.key = ek a
theorem putL_twice (l : List (κ × υ)) (a : κ) (v w : υ) : putL (putL l a v) a w = putL l a w := by
 have h : (getL (putL l a v) a).isSome = true := by rw [getL_put, if_pos rfl]; rfl
 unfold putL at h ⊢
 rw [if_pos h]
 split
 ·rename_i h1
  rw [List.map_map]
  refine List.map_congr_left fun p _ => ?_
  simp only [Function.comp]
  by_cases hp : p.1 = a <;> simp [hp]
 ·rename_i h1
  have hn : getL l a = none := by cases hg : getL l a with
   | none => rfl
   | some x => rw [hg] at h1; exact absurd rfl h1
  rw [List.map_append]
  congr 1
  ·have : l.map (fun p => if p.1 = a then (a, w) else p) = l := by
    have e : ∀ p ∈ l, (fun p : κ × υ => if p.1 = a then (a, w) else p) p = id p := fun p hp => if_neg (getL_none.1 hn p hp)
    rw [List.map_congr_left e, List.map_id]
   exact this
  ·simp
theorem putL_same {l : List (κ × υ)} {a : κ} {v : υ} (hd : KeysApart l) (h : getL l a = some v) : putL l a v = l := by
 unfold putL
 have e : ∀ p ∈ l, (fun p : κ × υ => if p.1 = a then (a, v) else p) p = id p := by
  intro p hp
  by_cases e : p.1 = a
  ·have := getL_of_mem hd (a := p.1) (v := p.2) hp
   rw [e, h] at this
   injection this with this
   show (if p.1 = a then (a, v) else p) = p
   rw [if_pos e, this, ← e]
  ·exact if_neg e
 rw [h, if_pos (by rfl : (some v).isSome = true), List.map_congr_left e, List.map_id]
theorem MapT.entry (E : KeyEnc P kt ek ok) (h : MapT ek ev ok W b l) (ht : P.underlying t = some (.map kt et)) (a : κ) (ha : ok a) (z : υ) (hz : ∀ w, (zeroValue et).run P w = .ok (ev z) w) (hroom : l.length < maxLen) (w : World) (hw : w.heap[b]? = W.heap[b]?) :
  ∃ (o : Obj) (s : Nat), (Instr.mapEntry t (.map (some b)) (ek a)).run P w = .ok (.tuple #[ev ((getL l a).getD z), goInt (s : Int)]) (setBlock w b o) ∧ MapT ek ev ok (setBlock w b o) b (putL l a ((getL l a).getD z)) ∧ StampAt ek (setBlock w b o) b a s := by
 have hd := h.apart
 obtain ⟨es, ck, hb, hst, hsz, hl, hok⟩ := h
 rw [← hw] at hb
 obtain ⟨x, hx⟩ := E.lit a ha
 have hlen := congrArg List.length hl
 simp at hlen
 rcases find_at E hl hok hd a ha w with ⟨h1, h2, h3⟩ | ⟨v0, j, e, h1, h2, h3, h4, h5, h6⟩
 ·rw [h1]
  have hpok : ∀ p ∈ putL l a z, ok p.1 := by
   intro p hp
   rcases mem_put hp with ⟨hp, _⟩ | rfl
   ·exact hok p hp
   ·exact ha
  refine ⟨.map (es.push ⟨ek a, ev z, ck⟩) (ck + 1), ck, ?_, ⟨_, _, heap_setBlock_same hb _, stamped_push hst h3, by simp; omega, ?_, hpok⟩, ⟨_, _, heap_setBlock_same hb _, ⟨ek a, ev z, ck⟩, by simp, rfl, rfl⟩⟩
  ·unfold Instr.mapEntry
   simp [run_underlying ht, MapKept.run_getObj_map hb, E.K.check w _ hx, h2, hz, MapKept.run_setObj_map _ hb, Result.andThen, setBlock]
  ·unfold putL; rw [h1]; simp [hl]
 ·rw [h1]
  have hj : es[j]? = some e := by simpa using h3
  have hsame : es.modify j (fun e' => { e' with key := ek a }) = es := by
   apply Array.toList_inj.1
   rw [Array.toList_modify, modify_eq_set _ _ _ _ h3]
   apply List.ext_getElem?
   intro i
   rw [List.getElem?_set]
   by_cases hij : j = i
   ·subst hij
    have hlt := (List.getElem?_eq_some_iff.1 h3).1
    rw [if_pos rfl, if_pos hlt, h3]
    congr 1
    cases e
    simp at h4
    simp [h4]
   ·rw [if_neg hij]
  refine ⟨.map es ck, e.born, ?_, ⟨_, _, heap_setBlock_same hb _, hst, hsz, ?_, ?_⟩, ⟨_, _, heap_setBlock_same hb _, e, List.mem_of_getElem? h3, rfl, h4⟩⟩
  ·unfold Instr.mapEntry
   have hcl : ∀ q : Value, (Instr.keyThatStays q q).run P w = .ok q w → True := fun _ _ => trivial
   simp [run_underlying ht, MapKept.run_getObj_map hb, E.K.check w _ hx, h2, hj, h4, E.K.stays w hx, MapKept.run_setObj_map _ hb, Result.andThen, setBlock, hsame, h5]
  ·show _ = (putL l a v0).map _
   rw [putL_same hd h1]; exact hl
  ·intro p hp
   have : p ∈ putL l a v0 := hp
   rw [putL_same hd h1] at this
   exact hok p this
theorem MapT.entryStore (h : MapT ek ev ok W b l) (inj : ∀ a b, ek a = ek b → a = b) (a : κ) (s : Nat) (hs : StampAt ek W b a s) (v : υ) (w : World) (hw : w.heap[b]? = W.heap[b]?) :
  ∃ o, (Instr.entryStore t (.map (some b)) (goInt s) (ev v)).run P w = .ok () (setBlock w b o) ∧ MapT ek ev ok (setBlock w b o) b (putL l a v) := by
 have hd := h.apart
 obtain ⟨es, ck, hb, hst, hsz, hl, hok⟩ := h
 obtain ⟨es', ck', hb', e, he, hes, hek⟩ := hs
 rw [hb] at hb'
 injection hb' with hb'
 injection hb' with e1 e2
 subst e1; subst e2
 rw [← hw] at hb
 obtain ⟨j, hj⟩ := List.getElem?_of_mem he
 have hja : es[j]? = some e := by simpa using hj
 have hborn := ((stamped_iff es ck).1 hst).2.1
 have hlj : ∃ v0, l[j]? = some (a, v0) := by
  have hq : (es.toList.map (fun e => (e.key, e.val)))[j]? = some (e.key, e.val) := by rw [List.getElem?_map, hj]; rfl
  rw [hl, List.getElem?_map] at hq
  cases hp : l[j]? with
  | none => rw [hp] at hq; cases hq
  | some p =>
   rw [hp] at hq; simp at hq
   have := inj _ _ (hq.1.trans hek)
   exact ⟨p.2, by rw [← this]⟩
 obtain ⟨v0, hv0⟩ := hlj
 have hga : getL l a = some v0 := getL_of_mem hd (List.mem_of_getElem? hv0)
 have hfind : es.findIdx? (fun x => (x.born : Int) == (s : Int)) = some j := by
  have hjl : j < es.size := (Array.getElem?_eq_some_iff.1 hja).1
  have hje : es[j] = e := (Array.getElem?_eq_some_iff.1 hja).2
  rw [Array.findIdx?_eq_some_iff_getElem]
  refine ⟨hjl, by rw [hje, hes]; simp, fun i hi => ?_⟩
  have hil : i < es.size := by omega
  intro hc
  have hbi0 : ((es[i]'hil).born : Int) = (s : Int) := by simpa using hc
  have hbi : (es[i]'hil).born = s := Int.ofNat_inj.mp hbi0
  have hpw := List.pairwise_iff_getElem.1 hborn i j (by simpa using hil) (by simpa using hjl) hi
  simp only [List.getElem_map, Array.getElem_toList] at hpw
  exact hpw (by rw [hbi, hje, hes])
 refine ⟨.map (es.modify j fun e' => { e' with val := ev v }) ck, ?_, ⟨_, _, heap_setBlock_same hb _, stamped_modify hst _ _ (fun _ _ => rfl) (fun _ _ _ => rfl), by simpa using hsz, ?_, ?_⟩⟩
 ·have hai : (asInt (goInt (s : Int))).run P w = .ok (s : Int) w := rfl
  unfold Instr.entryStore
  simp [MapKept.run_getObj_map hb, hai, hfind, MapKept.run_setObj_map _ hb, Result.andThen, setBlock]
 ·rw [Array.toList_modify, modify_eq_set _ _ _ _ hj, List.map_set, hl]
  unfold putL
  rw [hga, if_pos (by rfl : (some v0).isSome = true), List.map_map]
  apply List.ext_getElem?
  intro i
  rw [List.getElem?_set, List.getElem?_map, List.getElem?_map]
  by_cases hij : j = i
  ·subst hij
   have hjl : j < l.length := (List.getElem?_eq_some_iff.1 hv0).1
   rw [if_pos rfl, hv0]
   simp [hjl, hek]
  ·rw [if_neg hij]
   cases hi : l[i]? with
   | none => simp
   | some p =>
    have : p.1 ≠ a := by
     intro e1
     have hpw := List.pairwise_iff_getElem.1 hd
     obtain ⟨hjl, hje⟩ := List.getElem?_eq_some_iff.1 hv0
     obtain ⟨hil, hie⟩ := List.getElem?_eq_some_iff.1 hi
     rcases Nat.lt_or_gt_of_ne hij with hlt | hgt
     ·exact hpw j i hjl hil hlt (by rw [hje, hie, e1])
     ·exact hpw i j hil hjl hgt (by rw [hje, hie, e1])
    simp [this]
 ·intro p hp
  rcases mem_put hp with ⟨hp, _⟩ | rfl
  ·exact hok p hp
  ·exact hok (a, v0) (List.mem_of_getElem? hv0)
end
section
variable {P : Program} {o : Oper} {a : Act} {w w' : World} {K : Act → World → Prop} {Q : Exit → Act → World → Prop}
end
end Go.Proofs.YtkoidahgbbabiaaGreat
/-
 CLASSES: prefixes by their keys: plain, and in memory (a map of rows of one's own).
-/
namespace Go.Proofs.YtkoidahgbbabiaaGreat
open Go.RowKit
def psOf (kf : Pf → Ky) (k : Ky) (l : List Pf) : List Pf := l.filter fun p => decide (kf p = k)
theorem psOf_snoc_same {kf : Pf → Ky} (l : List Pf) (p : Pf) : psOf kf (kf p) (l ++ [p]) = psOf kf (kf p) l ++ [p] := by unfold psOf; rw [List.filter_append]; simp
theorem psOf_snoc_other {kf : Pf → Ky} {k : Ky} (l : List Pf) {p : Pf} (h : kf p ≠ k) : psOf kf k (l ++ [p]) = psOf kf k l := by unfold psOf; rw [List.filter_append]; simp [h]
theorem psOf_mem {kf : Pf → Ky} {k : Ky} {l : List Pf} {p : Pf} : p ∈ psOf kf k l ↔ p ∈ l ∧ kf p = k := by unfold psOf; simp
theorem psOf_len (kf : Pf → Ky) (k : Ky) (l : List Pf) : (psOf kf k l).length ≤ l.length := List.length_filter_le _ _
theorem psOf_srt {kf : Pf → Ky} {k : Ky} {l : List Pf} (h : Srt l) : Srt (psOf kf k l) := List.Pairwise.filter _ h
theorem ofE_right {ps : List Pf} (h : ps.length ≤ 4096) (hr : ∀ p ∈ ps, RgtP p) (hs : Srt ps) : ofE ps = 0 ∧ ofL ps = ps := by
 have e : setOf ps = ps := srt_ext (setOf_srt ps).1 hs (setOf_srt ps).2
 have h1 : rights ps = true := by
  unfold rights
  rw [List.all_eq_true]
  exact fun p hp => (hr p hp).2
 have h2 : ofE ps = 0 := by
  unfold ofE
  rw [if_neg (by omega), h1, if_pos rfl, e, if_neg (by omega)]
 exact ⟨h2, by unfold ofL; rw [if_pos h2, e]⟩
def KyOk (k : Ky) : Prop := I64r k.from_ ∧ I64r k.best ∧ I64r k.may
theorem ky_lit (k : Ky) (h : KyOk k) : ∃ l, keyOf Tryz.prog 102 (kyV k) = some l := by
 refine ⟨.string (keyBytes [.int .i64 k.from_, .int .i64 k.best, .int .i64 k.may]), ?_⟩
 obtain ⟨m, hsz⟩ : ∃ m, Tryz.prog.types.size = m + 1 := ⟨Tryz.prog.types.size - 1, by kernel_rfl⟩
 have hkt : Tryz.prog.keyType 102 = true := by kernel_rfl
 have hc : Tryz.prog.cellsOf 102 = 3 := by kernel_rfl
 have h1 : Tryz.prog.cellsOf 3 = 1 := by kernel_rfl
 unfold keyOf
 simp only [Tryz.underlying102]
 rw [if_pos (by simp [hkt, Value.formed, Tryz.underlying102, hc]), hsz]
 unfold Program.keyLits
 simp only [Tryz.underlying102, Value.cells]
 rw [if_pos (by rw [hc]; exact ⟨rfl, by kernel_rfl⟩)]
 have hn : ∀ n : Int, I64r n → Tryz.prog.keyLits (m + 1) 3 [.int .i64 n] = some [.int .i64 n] := fun n hn => by
  unfold I64r at hn
  unfold Program.keyLits; simp [Tryz.underlying3, WalkArith.wf_i64 (show _ by omega)]
 simp only [h1, List.mapM_cons, List.mapM_nil, List.drop_zero, List.drop_succ_cons, List.take_succ_cons, List.take_zero, hn _ h.1, hn _ h.2.1, hn _ h.2.2]
 rfl
theorem ky_enc : KeyEnc Tryz.prog 102 kyV KyOk where
 K := Maps.Keyed.of_law (deep_law_laid (by kernel_rfl) (m := 3) (by decide) (of_decide_eq_true (by kernel_rfl)) (by kernel_rfl) (by kernel_rfl))
 lit := ky_lit
 inj a b h := by
  obtain ⟨a1, a2, a3⟩ := a
  obtain ⟨b1, b2, b3⟩ := b
  simp at h
  obtain ⟨h1, h2, h3⟩ := h
  rw [h1, h2, h3]
theorem zero_pfs : ∀ w, (zeroValue 23).run Tryz.prog w = .ok (.slice none 0 0) w := fun w => by kernel_rfl
abbrev idV (v : Value) : Value := v
abbrev KMap (w : World) (mb : Nat) (M : List (Ky × Value)) : Prop := MapT kyV idV KyOk w mb M
def kyL (k : Ky) : List Value := (kyC k).toList
theorem kyL_len (k : Ky) : (kyL k).length = 3 := rfl
theorem kyL_one (k : Ky) : ∀ u ∈ kyL k, u.oneCell' = true := by
 intro u hu
 simp [kyL] at hu
 rcases hu with rfl | rfl | rfl <;> rfl
abbrev nilS : Value := .slice none 0 0
structure GrK (kf : Pf → Ky) (done : List Pf) (M : List (Ky × Value)) (w : World) (B : Nat) : Prop where
 own : ∀ x ∈ M, w.ownsRow B 53 2 x.2 (psOf kf x.1 done).length ((psOf kf x.1 done).flatMap encP)
 sep : ∀ x ∈ M, ∀ y ∈ M, x.1 ≠ y.1 → ∀ b, x.2.ownBlock = some b → y.2.ownBlock ≠ some b
 cov : ∀ p ∈ done, kf p ∈ M.map (·.1)
 non : ∀ x ∈ M, psOf kf x.1 done ≠ []
 short : M.length ≤ done.length
 oks : ∀ x ∈ M, KyOk x.1
theorem own_kindsK {w : World} {B B' k k' n n' : Nat} {e e' : TypeId} {v v' : Value} {xs xs' : List Value} (h : w.ownsRow B e k v n xs) (h' : w.ownsRow B' e' k' v' n' xs') (hne : e ≠ e') : ∀ b, v.ownBlock = some b → v'.ownBlock ≠ some b := by
 obtain ⟨_, ⟨rfl, _⟩ | ⟨g, cap, cur, rfl, hB, hg, _⟩⟩ := h
 ·intro b hb; cases hb
 ·obtain ⟨_, ⟨rfl, _⟩ | ⟨g', cap', cur', rfl, hB', hg', _⟩⟩ := h'
  ·intro b _ hb; cases hb
  ·intro b h1 h2
   injection h1 with h1
   injection h2 with h2
   simp only at h1 h2
   rw [h1] at hg
   rw [h2] at hg'
   rw [hg] at hg'
   injection hg' with hg'
   injection hg' with _ hg' _
   exact hne hg'
theorem own_ne_mapK {κ υ : Type} {ek : κ → Value} {ev : υ → Value} {ok : κ → Prop} {W : World} {B k n : Nat} {e : TypeId} {v : Value} {xs : List Value} {b : Nat} {l : List (κ × υ)} (h : W.ownsRow B e k v n xs) (hm : MapT ek ev ok W b l) : v.ownBlock ≠ some b := by
 obtain ⟨_, ⟨rfl, _⟩ | ⟨g, cap, cur, rfl, hB, hg, _⟩⟩ := h
 ·intro e; cases e
 ·intro e
  injection e with e
  simp only at e
  obtain ⟨es, ck, hb, -⟩ := hm
  rw [e, hb] at hg
  cases hg
section
variable {kf : Pf → Ky} {done : List Pf} {M : List (Ky × Value)} {w w1 w2 : World} {B mb : Nat}
theorem GrK.nil (w : World) (B : Nat) : GrK kf [] [] w B := ⟨fun x h => (by cases h), fun x h => (by cases h), fun x h => (by cases h), fun x h => (by cases h), Nat.le_refl _, fun x h => by cases h⟩
theorem GrK.below (h : GrK kf done M w B) (hb : Below w.heap.size w w1) : GrK kf done M w1 B := ⟨fun x hx => own_below (h.own x hx) hb, h.sep, h.cov, h.non, h.short, h.oks⟩
theorem GrK.kept {F : Nat → Prop} (h : GrK kf done M w B) (hk : Kept F w w1) (hF : ∀ x ∈ M, ∀ b, x.2.ownBlock = some b → ¬ F b) : GrK kf done M w1 B :=
 ⟨fun x hx => ((own_on (h.own x hx)).kept hk fun b _ hb => hF x hx b hb).self, h.sep, h.cov, h.non, h.short, h.oks⟩
theorem GrK.mapKept {M' : List (Ky × Value)} (h : GrK kf done M w B) (hm : KMap w mb M') (hk : Kept (fun b => b = mb) w w1) : GrK kf done M w1 B :=
 h.kept hk fun x hx b hb e => own_ne_mapK (h.own x hx) hm (by rw [hb, e])
theorem GrK.at (h : GrK kf done M w B) (k : Ky) : w.ownsRow B 53 2 ((getL M k).getD nilS) (psOf kf k done).length ((psOf kf k done).flatMap encP) := by
 cases hg : getL M k with
 | some v => exact h.own (k, v) (getL_mem hg)
 | none =>
  have e : psOf kf k done = [] := by
   rw [List.eq_nil_iff_forall_not_mem]
   intro p hp
   obtain ⟨h1, h2⟩ := psOf_mem.1 hp
   obtain ⟨x, hx, e⟩ := List.mem_map.1 (h.cov p h1)
   exact getL_none.1 hg x hx (e.trans h2)
  rw [e]
  exact ⟨rfl, .inl ⟨rfl, rfl⟩⟩
theorem GrK.put (h : GrK kf done M w B) (hap : KeysApart M) {p : Pf} {v' : Value} (ho : w1.ownsRow B 53 2 v' ((psOf kf (kf p) done).length + 1) ((psOf kf (kf p) done).flatMap encP ++ encP p)) (hk : Kept (fun b => ((getL M (kf p)).getD nilS).ownBlock = some b) w w1)
  (hat : v'.ownBlock = ((getL M (kf p)).getD nilS).ownBlock ∨ ∃ b, v'.ownBlock = some b ∧ w.heap.size ≤ b) (hok : KyOk (kf p)) : GrK kf (done ++ [p]) (putL M (kf p) v') w1 B := by
 have hv0 : ∀ x ∈ M, x.1 ≠ kf p → ∀ b, x.2.ownBlock = some b → ((getL M (kf p)).getD nilS).ownBlock ≠ some b := by
  intro x hx hne b hb
  cases hg : getL M (kf p) with
  | none => intro e; cases e
  | some v => exact h.sep x hx (kf p, v) (getL_mem hg) hne b hb
 have olt : ∀ x ∈ M, ∀ b, x.2.ownBlock = some b → b < w.heap.size := fun x hx b hb => by
  obtain ⟨_, ⟨e, _⟩ | ⟨g, cap, cur, e, _, hg, _⟩⟩ := h.own x hx
  ·rw [e] at hb; cases hb
  ·rw [e] at hb
   injection hb with hb
   simp only at hb
   rw [← hb]
   exact row_lt hg
 have hne' : ∀ x ∈ M, x.1 ≠ kf p → ∀ b, x.2.ownBlock = some b → v'.ownBlock ≠ some b := by
  intro x hx hne b hb e
  rcases hat with h1 | ⟨c, h1, h2⟩
  ·exact hv0 x hx hne b hb (h1.symm.trans e)
  ·rw [h1] at e; injection e with e
   have := olt x hx b hb; omega
 refine ⟨fun x hx => ?_, fun x hx y hy hne b hb => ?_, fun q hq => ?_, fun x hx => ?_, ?_, fun x hx => ?_⟩
 ·rcases mem_put hx with ⟨h1, h2⟩ | rfl
  ·rw [psOf_snoc_other done (fun e => h2 e.symm)]
   exact ((own_on (h.own x h1)).kept hk fun b _ hb e => hv0 x h1 h2 b hb e).self
  ·show w1.ownsRow B 53 2 v' (psOf kf (kf p) (done ++ [p])).length _
   rw [psOf_snoc_same, List.length_append, List.flatMap_append]
   simpa using ho
 ·rcases mem_put hx with ⟨h1, h2⟩ | rfl
  ·rcases mem_put hy with ⟨h3, h4⟩ | rfl
   ·exact h.sep x h1 y h3 hne b hb
   ·exact hne' x h1 h2 b hb
  ·rcases mem_put hy with ⟨h3, h4⟩ | rfl
   ·exact fun e => hne' y h3 h4 b e hb
   ·exact absurd rfl hne
 ·have hk' : ∀ k, k ∈ M.map (·.1) → k ∈ (putL M (kf p) v').map (·.1) := by
   intro k hk'
   obtain ⟨x, hx, rfl⟩ := List.mem_map.1 hk'
   have : getL (putL M (kf p) v') x.1 ≠ none := by
    rw [getL_put]
    split
    ·simp
    ·rw [getL_of_mem hap (a := x.1) (v := x.2) hx]; simp
   cases hg : getL (putL M (kf p) v') x.1 with
   | none => exact absurd hg this
   | some u => exact List.mem_map.2 ⟨_, getL_mem hg, rfl⟩
  rcases List.mem_append.1 hq with hq | hq
  ·exact hk' _ (h.cov q hq)
  ·rw [List.mem_singleton] at hq
   subst hq
   have : getL (putL M (kf q) v') (kf q) = some v' := by rw [getL_put, if_pos rfl]
   exact List.mem_map.2 ⟨_, getL_mem this, rfl⟩
 ·rcases mem_put hx with ⟨h1, h2⟩ | rfl
  ·rw [psOf_snoc_other done (fun e => h2 e.symm)]
   exact h.non x h1
  ·show psOf kf (kf p) (done ++ [p]) ≠ []
   rw [psOf_snoc_same]; simp
 ·rw [len_put, List.length_append]
  have := h.short
  split
  ·simp; omega
  ·simp; omega
 ·rcases mem_put hx with ⟨h1, -⟩ | rfl
  ·exact h.oks x h1
  ·exact hok
theorem keys_put {k : Ky} {v' : Value} : (putL M k v').map (·.1) = if (getL M k).isSome then M.map (·.1) else M.map (·.1) ++ [k] := by
 unfold putL
 split
 ·rename_i hs
  rw [List.map_map]
  refine List.map_congr_left fun x _ => ?_
  simp only [Function.comp]
  split
  ·rename_i e; exact e.symm
  ·rfl
 ·simp
end
end Go.Proofs.YtkoidahgbbabiaaGreat
/-
 CLASSES: keys sorted.
-/
namespace Go.Proofs.YtkoidahgbbabiaaGreat
open Go.RowKit
instance (x y : Ky) : Decidable (klt x y) := by unfold klt; infer_instance
theorem ltOf_ky (x y : Ky) : Go.Proofs.ltOf kcmp x y = decide (klt x y) := by
 unfold Go.Proofs.ltOf
 by_cases h : klt x y
 ·simp [h, kcmp_lt.2 h]
 ·have h2 : ¬ kcmp x y < 0 := fun k => h (kcmp_lt.1 k)
  simp [h, h2]
theorem swo_ky : Sort.SWO (Go.Proofs.ltOf kcmp) where
 irrefl x := by rw [ltOf_ky]; simpa using klt_irrefl x
 trans x y z h1 h2 := by
  rw [ltOf_ky] at *
  simp only [decide_eq_true_eq] at *
  exact klt_trans h1 h2
 ntrans x y z h1 h2 := by
  rw [ltOf_ky] at *
  simp only [decide_eq_false_iff_not] at *
  unfold klt at *; omega
theorem cmp_laysK (blk off size : Nat) (w : World) : CmpLays Tryz.prog 50 #[] kyL 3 kcmp blk off size w := by
 intro m os dk _ x y
 exact (fk_Cmp x y _).mono fun e w' ⟨he, hd⟩ => ⟨he, hd.grow⟩
theorem flatK_ky (xs : List Ky) : Sort.flatK kyL 3 xs.toArray = (xs.flatMap kyL).toArray := by
 apply Sort.ext_get!
 ·rw [Sort.size_flatK]
  simp [flat_len kyL_len]
 ·intro t ht
  rw [Sort.size_flatK] at ht
  have ht' : t < xs.length * 3 := by simpa using ht
  rw [Sort.get_flatK _ _ _ _ ht]
  have hi : t / 3 < xs.length := by omega
  have hf := flat_get kyL_len xs (t / 3) _ (List.getElem?_eq_getElem hi) (t % 3) (by omega)
  rw [show t / 3 * 3 + t % 3 = t by omega] at hf
  have h1 : xs.toArray[t / 3]! = xs[t / 3] := by simp [hi]
  rw [h1]
  have hl : (xs.flatMap kyL).length = xs.length * 3 := flat_len kyL_len xs
  have hm : t % 3 < (kyL xs[t / 3]).length := by rw [kyL_len]; omega
  rw [List.getElem?_eq_getElem hm, List.getElem?_eq_getElem (by rw [hl]; exact ht')] at hf
  have hf := Option.some.inj hf
  rw [getElem!_pos (xs.flatMap kyL).toArray t (by simpa [hl] using ht'), getElem!_pos (kyL xs[t / 3]) (t % 3) hm]
  simpa using hf.symm
theorem isAgg_ky : ∀ w, (isAgg 102).run Tryz.prog w = .ok true w := Tryz.isAgg102
theorem sizeOf_ky : ∀ w, (Go.sizeOf 102).run Tryz.prog w = .ok 3 w := Tryz.sizeOf102
theorem fk_Sort (lo : Nat) (v : Value) (L : List Ky) (w : World) (h : w.ownsRow lo 102 3 v L.length (L.flatMap kyL)) (hn : L.length ≤ 8589934592) :
  Calls Tryz.prog 104 #[v, .func (.func 50) #[] #[]] w fun e w' => ∃ L' : List Ky, e = .returned (.tuple #[]) ∧ L'.Perm L ∧ L'.Pairwise (fun x y => ¬ klt y x) ∧ w'.ownsRow lo 102 3 v L'.length (L'.flatMap kyL) ∧ Kept (fun b => v.ownBlock = some b) w w' := by
 rcases own_cur h with ⟨rfl, h0⟩ | ⟨g, c, cur, rfl, hg, hsz, htk, hnc⟩
 ·obtain rfl := List.length_eq_zero_iff.1 h0
  refine (AnyF.slices_SortFunc_none Tryz.sortK none 0 _ w).mono ?_
  rintro e w' ⟨rfl, rfl⟩
  exact ⟨[], rfl, List.Perm.refl _, List.Pairwise.nil, h, Kept.refl _ _⟩
 ·have eg : ∀ args w, (callFunc 50 args).run Tryz.prog w = .ok (.enter 50 args) w := enters_of Tryz.func50 (by kernel_rfl) rfl
  have hH : Sort.HoldsK kyL 3 w g 0 L.toArray := by
   unfold Sort.HoldsK
   rw [flatK_ky]
   intro j hj
   rw [List.size_toArray, flat_len kyL_len] at hj
   have hl : (L.flatMap kyL)[j]? = cur[j]? := by
    rw [← htk, List.getElem?_take_of_lt hj, Array.getElem?_toList]
   rw [Nat.zero_add]
   refine ⟨?_, row_free hg j⟩
   rw [row_cell hg, ← hl, List.getElem?_eq_getElem (by rw [flat_len kyL_len]; exact hj)]
   rw [getElem!_pos _ _ (by simpa [flat_len kyL_len] using hj)]
   simp
  have hcon := AnyQ.slices_SortFunc Tryz.sortK 3 isAgg_ky sizeOf_ky kyL kyL_len kyL_one kcmp swo_ky 50 #[] g 0 c L.toArray w eg (cmp_laysK g 0 L.toArray.size w) hH (row_lt hg) (by simp; omega)
  rw [List.size_toArray] at hcon
  refine hcon.mono ?_
  rintro e w' ⟨rfl, d', n, os, ⟨hp1, -, hp3⟩, hso, rfl⟩
  have hlen : d'.size = L.length := by rw [hp1]; simp
  have hperm : d'.toList.Perm L := by
   have e1 : d'.extract 0 L.length = d' := by rw [← hlen]; simp
   have e2 : L.toArray.extract 0 L.length = L.toArray := by simp
   rw [e1, e2] at hp3
   simpa using hp3
  have hsort : d'.toList.Pairwise (fun x y => ¬ klt y x) := by
   rw [List.pairwise_iff_getElem]
   intro i j hi hj hij
   have := hso i j (Nat.zero_le _) hij (by simpa [hlen] using hj)
   rw [ltOf_ky] at this
   simp only [Array.length_toList] at hi hj
   rw [getElem!_pos d' j hj, getElem!_pos d' i hi] at this
   simpa using this
  have hl3 : d'.toList.length = L.length := Array.length_toList.trans hlen
  have hp := own_put h (ys := d'.toList.flatMap kyL) (by rw [flat_len kyL_len, hl3]) n os
  refine ⟨d'.toList, rfl, hperm, hsort, ?_, ?_⟩
  ·rw [hl3]
   unfold Go.Proofs.sortWorldK Sort.putRowK
   have : Sort.flatK kyL 3 d' = (d'.toList.flatMap kyL).toArray := by rw [← flatK_ky]
   rw [this]
   exact hp.1
  ·unfold Go.Proofs.sortWorldK Sort.putRowK
   have : Sort.flatK kyL 3 d' = (d'.toList.flatMap kyL).toArray := by rw [← flatK_ky]
   rw [this]
   exact hp.2.imp fun b hb => by rw [hb]; rfl
theorem keys_rise {K K' : List Ky} (hp : K'.Perm K) (hn : K.Nodup) (hs : K'.Pairwise (fun x y => ¬ klt y x)) : K'.Pairwise klt := by
 have hn' : K'.Nodup := hp.nodup_iff.2 hn
 rw [List.nodup_iff_pairwise_ne] at hn'
 refine (hs.and hn').imp ?_
 rintro x y ⟨h1, h2⟩
 rcases klt_tri x y with h | h | h
 ·exact h
 ·exact absurd h h2
 ·exact absurd h h1
end Go.Proofs.YtkoidahgbbabiaaGreat
