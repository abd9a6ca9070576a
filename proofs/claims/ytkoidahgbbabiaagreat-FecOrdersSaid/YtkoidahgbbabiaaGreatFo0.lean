/-
  FecOrders: proved of all keys: the order of keys; one of any two is first, unless they are one.
-/
import Derived.Test.YtkoidahgbbabiaaGreatFo25
import Derived.Test.YtkoidahgbbabiaaGreatFo1
namespace Go.Proofs.YtkoidahgbbabiaaGreat
open Go.RowKit Go.ChangeShapes Go.WideShapes

set_option maxRecDepth 100000 in
theorem open_key {w : World} {r : Reach} {b : Nat} {v : Value} (h : Value.okWide Tryz.prog w r b 102 v) : ∃ x y z, v = .agg #[.int .i64 x, .int .i64 y, .int .i64 z] ∧ I64r x ∧ I64r y ∧ I64r z := by
 simp only [Value.okWide, Tryz.underlying102] at h
 obtain ⟨cs, rfl, hsz, ts, hts, _, hc⟩ := h
 have e : Tryz.prog.cellTypes Tryz.prog.depth 102 = some [3, 3, 3] := by kernel_rfl
 rw [e] at hts
 obtain rfl := Option.some.inj hts
 have hn : Tryz.prog.cellsOf 102 = 3 := by kernel_rfl
 rw [hn] at hsz
 match cs, hsz with
 | ⟨[x, y, z]⟩, _ =>
  obtain ⟨u0, hu0, h0⟩ := hc 0 x (by simp)
  obtain ⟨u1, hu1, h1⟩ := hc 1 y (by simp)
  obtain ⟨u2, hu2, h2⟩ := hc 2 z (by simp)
  simp at hu0 hu1 hu2
  subst hu0; subst hu1; subst hu2
  obtain ⟨a, rfl, ha⟩ := cell_int Tryz.underlying3 h0
  obtain ⟨n, rfl, hn⟩ := cell_int Tryz.underlying3 h1
  obtain ⟨m, rfl, hm⟩ := cell_int Tryz.underlying3 h2
  have r1 := has_i64 ha
  have r2 := has_i64 hn
  have r3 := has_i64 hm
  refine ⟨a, n, m, rfl, ?_, ?_, ?_⟩ <;> unfold I64r <;> omega
def prK (k l : Ky) : Nat → Int × Int
 | 0 => (k.from_, l.from_)
 | 1 => (k.best, l.best)
 | _ => (k.may, l.may)
def wantN (k l : Ky) : Nat → Int
 | 0 => 0
 | i + 1 => if wantN k l i = 0 then cmpIc (prK k l i).1 (prK k l i).2 else wantN k l i
theorem wantN_three (k l : Ky) : wantN k l 3 = kcmp k l := by
 unfold kcmp or3
 simp only [wantN, prK]
 repeat' split
 all_goals simp_all
theorem kcmp_rng (k l : Ky) : -1 ≤ kcmp k l ∧ kcmp k l ≤ 1 := by
 unfold kcmp or3 cmpIc
 (repeat' split) <;> omega
theorem all_none {L : List Cls} {ps : List Pf} (h1 : ∀ p, p ∈ ps ↔ ((fun _ => none : Pf → Option (Int × At)) p).isSome = true) (h2 : ∀ x ∈ L, x.ps = psOf (fun _ => ky0) x.key ps ∧ x.ps ≠ []) : L = [] := by
 have e : ps = [] := List.eq_nil_iff_forall_not_mem.2 fun p hp => by have := (h1 p).1 hp; cases this
 subst e
 refine List.eq_nil_iff_forall_not_mem.2 fun x hx => ?_
 obtain ⟨g1, g2⟩ := h2 x hx
 exact g2 (by rw [g1]; rfl)
set_option maxHeartbeats 6400000 in
set_option maxRecDepth 100000 in
theorem law_FecOrders (a b : Ky) (w : World) : Calls Tryz.prog 9 #[kyV a, kyV b] w fun e w' => e = .returned (.bool true) ∧ Below w.heap.size w w' := by
 have HD := Lib.hid (fun w => law_head21 w)
 have N1 := Lib.hid (l_net21 1 (by decide))
 go_enter Tryz.func9, Tryz.ntmps9
 go_upto_region 1 with (fail)
 obtain ⟨w0, hw0, q0, q1, hb0⟩ := boxTwo w (kyC a) 102 (kyC b) 102
 rw [show (w.alloc (.cells #[.int .i64 a.from_, .int .i64 a.best, .int .i64 a.may] 102)).alloc (.cells #[.int .i64 b.from_, .int .i64 b.best, .int .i64 b.may] 102) = w0 from hw0.symm]
 have QA := Lib.hid q0
 have QB := Lib.hid q1
 have B0 := Lib.hid hb0
 clear hw0 q0 q1 hb0
 go_wp2_with fail
 refine (HD.out w0).mono ?_
 rintro e w1 ⟨rfl, hb1⟩
 have QA1 := Lib.hid ((hb1.block _ (row_lt QA.out)).trans QA.out)
 have QB1 := Lib.hid ((hb1.block _ (row_lt QB.out)).trans QB.out)
 have B1 := Lib.hid (below_on B0.out hb1)
 obtain ⟨a0, a1, a2⟩ := key_cells QA1.out
 obtain ⟨b0, b1, b2⟩ := key_cells QB1.out
 clear hb1 QA QB B0
 go_upto_region 5 with (fail)
 obtain ⟨w2, hw2, q2, hb2, -⟩ := box1 w1 #[.int .i64 a.from_, .int .i64 b.from_, .int .i64 a.best, .int .i64 b.best, .int .i64 a.may, .int .i64 b.may] 95
 rw [← hw2]
 obtain ⟨g, hg⟩ : ∃ g, g = w1.heap.size := ⟨_, rfl⟩
 rw [← hg] at q2 ⊢
 have CE : Hid (∀ i, i < 3 → w2.cell? ⟨g, i * 2, none⟩ = some (.int .i64 (prK a b i).1) ∧ w2.cell? ⟨g, i * 2 + 1, none⟩ = some (.int .i64 (prK a b i).2)) := Lib.hid (fun i hi => by
  match i, hi with
  | 0, _ => exact ⟨row_cell q2 0, row_cell q2 1⟩
  | 1, _ => exact ⟨row_cell q2 2, row_cell q2 3⟩
  | 2, _ => exact ⟨row_cell q2 4, row_cell q2 5⟩)
 have QA2 := Lib.hid ((hb2.block _ (row_lt QA1.out)).trans QA1.out)
 have QB2 := Lib.hid ((hb2.block _ (row_lt QB1.out)).trans QB1.out)
 have B2 := Lib.hid (below_on B1.out hb2)
 clear hw2 q2 hb2 hg QA1 QB1 B1 a0 a1 a2 b0 b1 b2
 go_loopw [5, 29] (fun t5 t29 wr => ∃ i : Nat, i ≤ 3 ∧ t29 = .int .i64 i ∧ t5 = .int .i64 (wantN a b i) ∧ Hid (Below w2.heap.size w2 wr)) (fun _ t29 _ => 3 - (intOf t29).toNat)
 case atStart => exact ⟨0, by omega, rfl, rfl, Lib.hid (Below.refl _ _)⟩
 case round =>
  obtain ⟨i, hi, rfl, rfl, BR⟩ := hrel
  by_cases hil : i < 3
  ·obtain ⟨c0, c1⟩ := CE.out i hil
   replace c0 := cell_below c0 BR.out
   replace c1 := cell_below c1 BR.out
   have NX : Hid (wantN a b (i + 1) = if wantN a b i = 0 then cmpIc (prK a b i).1 (prK a b i).2 else wantN a b i) := Lib.hid rfl
   obtain ⟨x, hx⟩ : ∃ x, (prK a b i).1 = x := ⟨_, rfl⟩
   obtain ⟨y, hy⟩ : ∃ y, (prK a b i).2 = y := ⟨_, rfl⟩
   obtain ⟨v, hv⟩ : ∃ v, wantN a b i = v := ⟨_, rfl⟩
   rw [hx] at c0 NX
   rw [hy] at c1 NX
   rw [hv] at NX ⊢
   have i0 : (0 : Int) ≤ (i : Int) := by omega
   have i1 : (i : Int) < 3 := by omega
   have IL := Lib.hid hil
   clear hx hy hv hil hi
   go_upto_region 7 with (fail)
   obtain ⟨w3, hw3, d0, d1, hb3⟩ := box2 wr (.int .i64 x) (.int .i64 y) 95
   rw [← hw3]
   obtain ⟨tb, htb⟩ : ∃ tb, tb = wr.heap.size := ⟨_, rfl⟩
   rw [← htb] at d0 d1 ⊢
   have B3 := Lib.hid (below_on BR.out hb3)
   clear hw3 hb3 htb BR c0 c1
   by_cases hv0 : v = 0
   ·subst hv0
    rcases Int.lt_trichotomy x y with h | h | h
    ·have e1 : decide (x < y) = true := by simpa using h
     have E : Hid (wantN a b (i + 1) = -1) := Lib.hid (by rw [NX.out]; simp [cmpIc, h])
     clear NX h
     go_wp2_with fail
     exact ⟨⟨i + 1, by have := IL.out; omega, by go_num, by rw [E.out], B3⟩, by have := IL.out; simp [intOf]; omega⟩
    ·subst h
     have e1 : decide (x < x) = false := by simp
     have e2 : decide (x > x) = false := by simp
     have E : Hid (wantN a b (i + 1) = 0) := Lib.hid (by rw [NX.out]; simp [cmpIc])
     clear NX
     go_wp2_with fail
     exact ⟨⟨i + 1, by have := IL.out; omega, by go_num, by rw [E.out], B3⟩, by have := IL.out; simp [intOf]; omega⟩
    ·have e1 : decide (x < y) = false := by simp; omega
     have e2 : decide (x > y) = true := by simpa using h
     have E : Hid (wantN a b (i + 1) = 1) := Lib.hid (by rw [NX.out]; unfold cmpIc; rw [if_pos rfl, if_neg (by omega), if_pos h])
     clear NX h
     go_wp2_with fail
     exact ⟨⟨i + 1, by have := IL.out; omega, by go_num, by rw [E.out], B3⟩, by have := IL.out; simp [intOf]; omega⟩
   ·have e0 : (v == 0) = false := by simpa using hv0
    have E : Hid (wantN a b (i + 1) = v) := Lib.hid (by rw [NX.out, if_neg hv0])
    clear NX hv0
    go_wp2_with fail
    exact ⟨⟨i + 1, by have := IL.out; omega, by go_num, by rw [E.out], B3⟩, by have := IL.out; simp [intOf]; omega⟩
  ·obtain rfl : i = 3 := by omega
   rw [wantN_three]
   obtain ⟨z, hz⟩ : ∃ z, kcmp a b = z := ⟨_, rfl⟩
   obtain ⟨z', hz'⟩ : ∃ z', kcmp b a = z' := ⟨_, rfl⟩
   have CA : Hid (∀ W, Calls Tryz.prog 50 #[kyV a, kyV b] W fun e w' => e = .returned (.int .i64 z) ∧ Below W.heap.size W w') := Lib.hid (fun W => by rw [← hz]; exact (fk_Cmp a b W).mono fun e w' ⟨h1, h2⟩ => ⟨h1, h2.below⟩)
   have CB : Hid (∀ W, Calls Tryz.prog 50 #[kyV b, kyV a] W fun e w' => e = .returned (.int .i64 z') ∧ Below W.heap.size W w') := Lib.hid (fun W => by rw [← hz']; exact (fk_Cmp b a W).mono fun e w' ⟨h1, h2⟩ => ⟨h1, h2.below⟩)
   have nk : IntKind.i64.wrap (-z) = z' := by
    have h1 := kcmp_rng a b
    have h2 := kcmp_swap a b
    rw [hz] at h1 h2
    rw [hz'] at h2
    rw [IntWalk.i64_in _ (by omega), h2]
   have OF := Lib.hid (fun W => fc_Of_nil 0 (netP 1) W)
   have AL := Lib.hid (fun W => fc_All_nil 0 W)
   have QA3 := Lib.hid ((BR.out.block _ (row_lt QA2.out)).trans QA2.out)
   have QB3 := Lib.hid ((BR.out.block _ (row_lt QB2.out)).trans QB2.out)
   have B3 := Lib.hid (below_on B2.out BR.out)
   rw [hz]
   clear hz hz' hi hil BR QA2 QB2 B2 CE
   go_wp2_with fail
   refine (N1.out wr).mono ?_
   rintro e w4 ⟨rfl, hb4⟩
   have QA4 := Lib.hid ((hb4.block _ (row_lt QA3.out)).trans QA3.out)
   have QB4 := Lib.hid ((hb4.block _ (row_lt QB3.out)).trans QB3.out)
   have B4 := Lib.hid (below_on B3.out hb4)
   clear hb4 QA3 QB3 B3
   go_wp2_with fail
   refine (OF.out w4).mono ?_
   rintro e w5 ⟨rfl, hb5⟩
   have QA5 := Lib.hid ((hb5.block _ (row_lt QA4.out)).trans QA4.out)
   have QB5 := Lib.hid ((hb5.block _ (row_lt QB4.out)).trans QB4.out)
   have B5 := Lib.hid (below_on B4.out hb5)
   clear hb5 QA4 QB4 B4 OF
   go_upto_region 13 with (fail)
   obtain ⟨w6, hw6, q6, hb6, -⟩ := box1 w5 (kyC ky0) 102
   rw [show w5.alloc (.cells #[.int .i64 ky0.from_, .int .i64 ky0.best, .int .i64 ky0.may] 102) = w6 from hw6.symm]
   obtain ⟨kb, hkb⟩ : ∃ kb, kb = w5.heap.size := ⟨_, rfl⟩
   rw [← hkb] at q6 ⊢
   have QA6 := Lib.hid ((hb6.block _ (row_lt QA5.out)).trans QA5.out)
   have QB6 := Lib.hid ((hb6.block _ (row_lt QB5.out)).trans QB5.out)
   have QK6 := Lib.hid q6
   have B6 := Lib.hid (below_on B5.out hb6)
   obtain ⟨a0, a1, a2⟩ := key_cells QA6.out
   obtain ⟨b0, b1, b2⟩ := key_cells QB6.out
   clear hw6 q6 hb6 hkb QA5 QB5 B5
   go_wp2_with fail
   refine (CA.out w6).mono ?_
   rintro e w7 ⟨rfl, hb7⟩
   have QA7 := Lib.hid ((hb7.block _ (row_lt QA6.out)).trans QA6.out)
   have QB7 := Lib.hid ((hb7.block _ (row_lt QB6.out)).trans QB6.out)
   have QK7 := Lib.hid ((hb7.block _ (row_lt QK6.out)).trans QK6.out)
   have B7 := Lib.hid (below_on B6.out hb7)
   clear a0 a1 a2 b0 b1 b2 hb7 QA6 QB6 QK6 B6 CA
   obtain ⟨a0, a1, a2⟩ := key_cells QA7.out
   obtain ⟨b0, b1, b2⟩ := key_cells QB7.out
   go_wp2_with fail
   refine (CB.out w7).mono ?_
   rintro e w8 ⟨rfl, hb8⟩
   have QK8 := Lib.hid ((hb8.block _ (row_lt QK7.out)).trans QK7.out)
   have B8 := Lib.hid (below_on B7.out hb8)
   clear a0 a1 a2 b0 b1 b2 hb8 QA7 QB7 QK7 B7 CB
   have k0 : w8.cell? ⟨kb, 0, none⟩ = some (.int .i64 0) := row_cell QK8.out 0
   have k1 : w8.cell? ⟨kb, 1, none⟩ = some (.int .i64 0) := row_cell QK8.out 1
   have k2 : w8.cell? ⟨kb, 2, none⟩ = some (.int .i64 0) := row_cell QK8.out 2
   go_wp2_with fail
   refine (AL.out w8).mono ?_
   rintro e w9 ⟨s, c, L, Q, ps, rfl, -, -, h2, -, -, h5, -, hb9⟩
   have e9 := all_none h2 h5
   subst e9
   have B9 := Lib.hid (below_on B8.out hb9)
   clear h2 h5 hb9 k0 k1 k2 AL
   go_wp2_with fail
   go_ret
   exact ⟨rfl, B9.out⟩
namespace fecOrders
open Go.ChangeShapes Go.WideShapes Go.ChangeAt Go.RowKit
set_option linter.unusedVariables false
set_option maxRecDepth 100000 in
theorem lifted (os : Os) (started : os.Started) (H : Type) (enc : TypeId × Value → H) :
  ReturnsInHanded {} Tryz.checked os 9 .any (Rows.fecOrdersSpec.pre6 enc Tryz.prog Tryz.f9 Rows.fecOrdersRow.domain false) (Rows.fecOrdersSpec.post enc Tryz.prog Tryz.f9 false true false false) := by
 refine returnsInHanded_of_change (C := Tryz.checked) fr_own started (by kernel_rfl) Tryz.func9
  (ChangeSpec.witness6 (enc := enc) (C := Tryz.checked) false ⟨#[], #[.agg #[.int .i64 0, .int .i64 0, .int .i64 0], .agg #[.int .i64 0, .int .i64 0, .int .i64 0]], []⟩ 8 (by kernel_rfl) (by kernel_rfl) (by kernel_rfl) (by kernel_rfl)) ?_
 intro W base args ds gs before hval0 hW hcnd _
 have hval : ∀ (j : Nat) t v, Tryz.f9.params[j]? = some t → args[j]? = some v → Value.okWide Tryz.prog W .any base t v := hval0
 have hW' := hW
 obtain ⟨p, q, hA0, hV, rfl, hfz, hnd⟩ := hW
 have hA : DataW.TrodAll enc Tryz.prog W 0 (fun _ => true) true Tryz.f9.params.toList args.toList ds p := hA0
 rw [Tryz.params9] at hA hval
 obtain ⟨v0, vs0, d0, ds0, p0, q0, hargs, rfl, rfl, h0, r0⟩ := trodAll_cons hA
 obtain ⟨v1, vs1, d1, ds1, p1, q1, rfl, rfl, rfl, h1, r1⟩ := trodAll_cons r0
 obtain ⟨rfl, rfl, rfl⟩ := trodAll_nil r1
 obtain rfl : args = #[v0, v1] := by cases args; simp_all
 obtain ⟨rfl, rfl⟩ := trodVars_none hV
 have lt0 : ∀ x ∈ p0, x.block < W.heap.size := by obtain ⟨m, hm⟩ := h0; exact DataW.trod_lt m _ _ _ hm
 have lt1 : ∀ x ∈ p1, x.block < W.heap.size := by obtain ⟨m, hm⟩ := h1; exact DataW.trod_lt m _ _ _ hm
 obtain ⟨a1, b1, c1, rfl, _, _, _⟩ := open_key (hval 0 102 v0 rfl rfl)
 obtain ⟨a2, b2, c2, rfl, _, _, _⟩ := open_key (hval 1 102 v1 rfl rfl)
 clear hA0 hval0
 refine (law_FecOrders ⟨a1, b1, c1⟩ ⟨a2, b2, c2⟩ W).mono fun e W' ⟨he, bel⟩ => ?_
 subst he
 exact ⟨_, rfl, _, _, _, [], _, [], hW', trodAll_mk1 (shut_bool Tryz.underlying4 _), (trodAll_cons_mk (Below.trod fr_laidOut (by kernel_rfl) (of_decide_eq_true (by kernel_rfl)) h0 bel lt0) (trodAll_cons_mk (Below.trod fr_laidOut (by kernel_rfl) (of_decide_eq_true (by kernel_rfl)) h1 bel lt1) trodAll_mk0)), rfl, bel.frame _, fun h => by cases h⟩
theorem over : Rows.fecOrdersRow.holds Tryz.pinned (OpenSpec.ofChange Rows.fecOrdersSpec) :=
 OpenClaim.holds_of_wide 9 Tryz.f9 rfl rfl rfl rfl rfl rfl rfl ⟨rfl, rfl, rfl, rfl, rfl⟩ rfl rfl rfl rfl rfl (by kernel_rfl) Tryz.func9 (by kernel_rfl)
  (of_decide_eq_true (by kernel_rfl)) (by unfold Func.isWrapper; first | (rw [if_pos (by decide +kernel)]; kernel_rfl) | (rw [if_neg (by decide +kernel)]; exact ⟨rfl, rfl⟩))
  (fun os started H enc _ => lifted os started H enc)
/-- THE STATEMENT FecOrders. -/
theorem proved : Rows.FecOrdersSaid := over
#print axioms proved
end fecOrders
end Go.Proofs.YtkoidahgbbabiaaGreat
