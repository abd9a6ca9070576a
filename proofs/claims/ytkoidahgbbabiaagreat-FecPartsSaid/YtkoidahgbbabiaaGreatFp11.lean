/- Texts of one proof, one behind another. -/
import Derived.Test.YtkoidahgbbabiaaGreatFp10
import Derived.Test.YtkoidahgbbabiaaGreatFp6
import Derived.ChangeKeysEq
import Derived.Test.YtkoidahgbbabiaaGreatFp5
import Derived.Test.YtkoidahgbbabiaaGreatFp1
namespace Go.Proofs.YtkoidahgbbabiaaGreat
open Go.RowKit
theorem eqF_cons {P : Program} {w : World} {d : Nat} {xs ys : Array Value} {f : Field} {fs : List Field} {a b : Value} {r rr : Bool} (hn : f.name ≠ "_") (ha : (part f.type xs f.offset).run P w = .ok a w) (hb : (part f.type ys f.offset).run P w = .ok b w)
  (hr : (Op.equalIn d f.type a b).run P w = .ok r w) (hrr : (Op.eqFields d xs ys fs).run P w = .ok rr w) : (Op.eqFields d xs ys (f :: fs)).run P w = .ok (r && rr) w := by
 simp only [Op.eqFields, hn, ne_eq, not_false_eq_true, if_true, Sem.run_bind, ha, hb, hr, Result.andThen_ok]
 cases r
 ·simp
 ·simpa using hrr
theorem eqF_nil {P : Program} {w : World} {d : Nat} {xs ys : Array Value} : (Op.eqFields d xs ys []).run P w = .ok true w := by simp [Op.eqFields]
theorem undPlain : Tryz.prog.underlying 151 = some (.struct (Tryz.prog.fieldsOf 151)) := by kernel_rfl
theorem stoPlain : Tryz.prog.stoodInHeld 151 = false := by kernel_rfl
def plB (a b : At) : Bool := a.has == b.has && (a.origin == b.origin && (a.med == b.med && (a.loc == b.loc && (a.aggrAs == b.aggrAs && ((a.hop : Int) == (b.hop : Int) && ((a.aggrId : Int) == (b.aggrId : Int) && true))))))
abbrev plV (a : At) : Value := .agg #[.int .i64 a.has, .int .i64 a.origin, .int .i64 a.med, .int .i64 a.loc, .int .i64 a.aggrAs, .int .u32 a.hop, .int .u32 a.aggrId]
set_option maxRecDepth 100000 in
theorem run_eql_plain (a b : At) (w : World) : (binOp .eql 151 (plV a) (plV b)).run Tryz.prog w = .ok (.bool (plB a b)) w := by
 rw [run_eql_struct, run_equalIn_struct w 9999 151 _ _ undPlain stoPlain]
 rw [show (Tryz.prog.fieldsOf 151).toList = _ from by rw [Program.fieldsOf, Tryz.underlying151]]
 have h : ∀ x : Result Bool, x = .ok (plB a b) w → (x.andThen fun b w' => .ok (.bool b) w') = Result.ok (Value.bool (plB a b)) w := fun x hx => by rw [hx]; rfl
 refine h _ ?_
 unfold plB
 refine eqF_cons (by decide) (by kernel_rfl) (by kernel_rfl) (run_equalIn_int w 9998 3 .i64 .i64 _ _ Tryz.underlying3) ?_
 refine eqF_cons (by decide) (by kernel_rfl) (by kernel_rfl) (run_equalIn_int w 9998 3 .i64 .i64 _ _ Tryz.underlying3) ?_
 refine eqF_cons (by decide) (by kernel_rfl) (by kernel_rfl) (run_equalIn_int w 9998 3 .i64 .i64 _ _ Tryz.underlying3) ?_
 refine eqF_cons (by decide) (by kernel_rfl) (by kernel_rfl) (run_equalIn_int w 9998 3 .i64 .i64 _ _ Tryz.underlying3) ?_
 refine eqF_cons (by decide) (by kernel_rfl) (by kernel_rfl) (run_equalIn_int w 9998 3 .i64 .i64 _ _ Tryz.underlying3) ?_
 refine eqF_cons (by decide) (by kernel_rfl) (by kernel_rfl) (run_equalIn_int w 9998 36 .u32 .u32 _ _ Tryz.underlying36) ?_
 refine eqF_cons (by decide) (by kernel_rfl) (by kernel_rfl) (run_equalIn_int w 9998 36 .u32 .u32 _ _ Tryz.underlying36) ?_
 exact eqF_nil
theorem results_Plain (tmps : Array Value) (W : World) (b : Nat) (C : Array Value) (hC : C.size = 7) (h4 : tmps.getD 2 undef = .pointer (some ⟨b, 0, none⟩)) (hb : W.heap[b]? = some (.cells C 151 (0, 0))) :
  (results Tryz.f78 tmps).run Tryz.prog W = .ok (.agg C) W := results_cell_row Tryz.results78 tmps W b 151 C (0, 0) _ h4 hb Tryz.underlying151 rfl (by rw [hC]; kernel_rfl)
set_option maxHeartbeats 1600000 in
set_option maxRecDepth 100000 in
theorem at_plain (a : At) (vp vc vo : Value) (w : World) : Calls Tryz.prog 78 #[.agg (atV a vp vc vo).toArray] w fun e w' => e = .returned (plV a) ∧ Below w.heap.size w w' := by
 show Calls Tryz.prog 78 #[.agg #[.int .i64 a.has, .int .i64 a.origin, vp, .int .u32 a.hop, .int .i64 a.med, .int .i64 a.loc, .int .i64 a.aggrAs, .int .u32 a.aggrId, vc, vo]] w _
 go_enter Tryz.func78, Tryz.ntmps78
 go_upto_region 1 with (fail)
 obtain ⟨W0, hW0, q0, q1, hb0⟩ := boxTwo w #[.int .i64 a.has, .int .i64 a.origin, vp, .int .u32 a.hop, .int .i64 a.med, .int .i64 a.loc, .int .i64 a.aggrAs, .int .u32 a.aggrId, vc, vo] 42 #[.int .i64 0, .int .i64 0, .int .i64 0, .int .i64 0, .int .i64 0, .int .u32 0, .int .u32 0] 151
 rw [← hW0]
 clear hW0
 have c0 : W0.cell? ⟨w.heap.size, 0, none⟩ = some (.int .i64 a.has) := jB q0 0
 have c1 : W0.cell? ⟨w.heap.size, 1, none⟩ = some (.int .i64 a.origin) := jB q0 1
 have c3 : W0.cell? ⟨w.heap.size, 3, none⟩ = some (.int .u32 a.hop) := jB q0 3
 have c4 : W0.cell? ⟨w.heap.size, 4, none⟩ = some (.int .i64 a.med) := jB q0 4
 have c5 : W0.cell? ⟨w.heap.size, 5, none⟩ = some (.int .i64 a.loc) := jB q0 5
 have c6 : W0.cell? ⟨w.heap.size, 6, none⟩ = some (.int .i64 a.aggrAs) := jB q0 6
 have c7 : W0.cell? ⟨w.heap.size, 7, none⟩ = some (.int .u32 a.aggrId) := jB q0 7
 have Q1 := jh q1
 have HB := jh hb0
 clear q0 q1 hb0
 go_wp2_with (with_reducible refine jM (X := .store 151 (.tmp 2) (.tmp 17)) ?_ ?_; (· rfl))
 unfold Halt
 refine st_row rfl 151 _ _ rfl (w.heap.size + 1) rfl 151 #[.int .i64 0, .int .i64 0, .int .i64 0, .int .i64 0, .int .i64 0, .int .u32 0, .int .u32 0] #[.int .i64 a.has, .int .i64 a.origin, .int .i64 a.med, .int .i64 a.loc, .int .i64 a.aggrAs, .int .u32 a.hop, .int .u32 a.aggrId] rfl Q1.out (by kernel_rfl) rfl (by simp [Value.oneCell']) ?_
 go_wp2_with fail
 refine bodyPost_ret (results_Plain _ _ (w.heap.size + 1) _ ?_ ?_ (setRow_heap _ _ _ _ _ _ Q1.out)) rfl ⟨rfl, below_setRow HB.out (Nat.le_succ _) _⟩ <;> rfl
theorem dec_and {α β : Type} [DecidableEq α] [DecidableEq β] (x y : α) (l m : β) : decide ((x, l) = (y, m)) = (decide (x = y) && decide (l = m)) := by
 by_cases h1 : x = y <;> by_cases h2 : l = m <;> simp [h1, h2]
set_option maxHeartbeats 1600000 in
set_option maxRecDepth 100000 in
theorem at_same1 (x y : Sg) (u v : Value) (w : World) (hu : IntsAt w u x.2) (hv : IntsAt w v y.2) :
  Calls Tryz.prog 81 #[.agg #[.bool x.1, u], .agg #[.bool y.1, v]] w fun e w' => e = .returned (.bool (decide (x = y))) ∧ Below w.heap.size w w' := by
 obtain ⟨x, l⟩ := x
 obtain ⟨y, m⟩ := y
 simp only at hu hv ⊢
 rw [dec_and]
 obtain ⟨su, cu, hu1, -⟩ := id hu
 obtain ⟨sv, cv, hv1, -⟩ := id hv
 subst hu1
 subst hv1
 have EI := jh (fun W (hb : Below w.heap.size w W) => sl_EqI _ _ l m W (hu.below hb) (hv.below hb))
 clear hu hv
 generalize hd : decide (l = m) = d at EI ⊢
 clear hd
 generalize he0 : decide (x = y) = e0
 have HE := jh he0
 clear he0
 go_enter Tryz.func81, Tryz.ntmps81
 go_upto_region 1 with (fail)
 obtain ⟨W0, hW0, q0, q1, hb0⟩ := boxTwo w #[.bool x, .slice su l.length cu] 121 #[.bool y, .slice sv m.length cv] 121
 rw [← hW0]
 clear hW0
 have c0 : W0.cell? ⟨w.heap.size, 0, none⟩ = some (.bool x) := jB q0 0
 have c1 : W0.cell? ⟨w.heap.size, 1, none⟩ = some (.slice su l.length cu) := jB q0 1
 have d0 : W0.cell? ⟨w.heap.size + 1, 0, none⟩ = some (.bool y) := jB q1 0
 have d1 : W0.cell? ⟨w.heap.size + 1, 1, none⟩ = some (.slice sv m.length cv) := jB q1 1
 have HB := jh hb0
 clear q0 q1 hb0
 cases e0 with
 | true =>
  obtain rfl : x = y := of_decide_eq_true HE.out
  have e1 : (x == x) = true := by simp
  go_wp2_with (go_at_call 79; refine (EI.out _ HB.out).mono ?_; rintro e w1 ⟨rfl, hb⟩)
  go_ret
  exact ⟨by simp, jC HB.out hb⟩
 | false =>
  have e2 : ¬ (x = y) := of_decide_eq_false HE.out
  have e1 : (x == y) = false := by simpa using e2
  go_wp2_with fail
  go_ret
  exact ⟨rfl, HB.out⟩
set_option maxHeartbeats 1600000 in
set_option maxRecDepth 100000 in
theorem at_same2 (x y : Oth) (u v : Value) (w : World) (hu : BytesAt w u x.2) (hv : BytesAt w v y.2) :
  Calls Tryz.prog 83 #[.agg #[.int .i64 x.1, u], .agg #[.int .i64 y.1, v]] w fun e w' => e = .returned (.bool (decide (x = y))) ∧ Below w.heap.size w w' := by
 obtain ⟨x, l⟩ := x
 obtain ⟨y, m⟩ := y
 simp only at hu hv ⊢
 rw [dec_and]
 obtain ⟨su, cu, hu1, -⟩ := id hu
 obtain ⟨sv, cv, hv1, -⟩ := id hv
 subst hu1
 subst hv1
 have EI := jh (fun W (hb : Below w.heap.size w W) => sl_EqB _ _ l m W (hu.below hb) (hv.below hb))
 clear hu hv
 generalize hd : decide (l = m) = d at EI ⊢
 clear hd
 generalize he0 : decide (x = y) = e0
 have HE := jh he0
 clear he0
 go_enter Tryz.func83, Tryz.ntmps83
 go_upto_region 1 with (fail)
 obtain ⟨W0, hW0, q0, q1, hb0⟩ := boxTwo w #[.int .i64 x, .slice su l.length cu] 159 #[.int .i64 y, .slice sv m.length cv] 159
 rw [← hW0]
 clear hW0
 have c0 : W0.cell? ⟨w.heap.size, 0, none⟩ = some (.int .i64 x) := jB q0 0
 have c1 : W0.cell? ⟨w.heap.size, 1, none⟩ = some (.slice su l.length cu) := jB q0 1
 have d0 : W0.cell? ⟨w.heap.size + 1, 0, none⟩ = some (.int .i64 y) := jB q1 0
 have d1 : W0.cell? ⟨w.heap.size + 1, 1, none⟩ = some (.slice sv m.length cv) := jB q1 1
 have HB := jh hb0
 clear q0 q1 hb0
 cases e0 with
 | true =>
  obtain rfl : x = y := of_decide_eq_true HE.out
  have e1 : (x == x) = true := by simp
  go_wp2_with (go_at_call 84; refine (EI.out _ HB.out).mono ?_; rintro e w1 ⟨rfl, hb⟩)
  go_ret
  exact ⟨by simp, jC HB.out hb⟩
 | false =>
  have e2 : ¬ (x = y) := of_decide_eq_false HE.out
  have e1 : (x == y) = false := by simpa using e2
  go_wp2_with fail
  go_ret
  exact ⟨rfl, HB.out⟩
set_option maxHeartbeats 3200000 in
set_option maxRecDepth 100000 in
theorem at_equalS (v u : Value) (xs ys : List Sg) (w : World) (h : PathAt w v xs) (k : PathAt w u ys) : Calls Tryz.prog 80 #[v, u, .func (.func 81) #[] #[]] w fun e w' => e = .returned (.bool (decide (xs = ys))) ∧ Below w.heap.size w w' := by
 obtain ⟨sa, cap, rfl, hlc, hcm, hV⟩ := h
 obtain ⟨sb, cap2, rfl, hlc2, hcm2, hU⟩ := k
 have HV := jh hV
 have HU := jh hU
 unfold maxLen at hcm hcm2
 clear hV hU
 by_cases hl : xs.length = ys.length
 ·have HL := jh hl
  have j0 : ((xs.length : Int) != (ys.length : Int)) = false := by simp [hl]
  clear hl
  go_enter Tryz.func80, Tryz.ntmps80
  go_wp2_with fail
  clear j0
  go_loopw [17] (fun k13 wr => ∃ k : Nat, k ≤ xs.length ∧ k13 = .int .i64 k ∧ Hid (xs.take k = ys.take k) ∧ Hid (Below w.heap.size w wr)) (fun k13 _ => xs.length - (intOf k13).toNat)
  case atStart => exact ⟨0, by omega, rfl, jh rfl, jh (Below.refl _ _)⟩
  case round =>
   obtain ⟨k, hk, rfl, E, B⟩ := hrel
   by_cases hlt : k < xs.length
   ·obtain ⟨x, hx⟩ : ∃ x, xs[k]? = some x := ⟨_, List.getElem?_eq_getElem hlt⟩
    obtain ⟨y, hy⟩ : ∃ y, ys[k]? = some y := ⟨_, List.getElem?_eq_getElem (by rw [← HL.out]; exact hlt)⟩
    obtain ⟨b1, off1, hsa, hP⟩ := HV.out (by omega)
    obtain ⟨b2, off2, hsb, hQ⟩ := HU.out (by rw [← HL.out]; omega)
    subst hsa
    subst hsb
    obtain ⟨c1, _, ⟨u1, rfl, a1⟩, k1⟩ := hP k x hx
    obtain ⟨c2, _, ⟨u2, rfl, a2⟩, k2⟩ := hQ k y hy
    have SM := jh (fun W (hb : Below w.heap.size w W) => at_same1 x y u1 u2 W (a1.below hb) (a2.below hb))
    obtain ⟨su, cu, rfl, -⟩ := id a1
    obtain ⟨sv, cv, rfl, -⟩ := id a2
    have x0 := k1 0 _ rfl
    have x1 := k1 1 _ rfl
    have y0 := k2 0 _ rfl
    have y1 := k2 1 _ rfl
    simp only [Nat.add_zero] at x0 y0
    have x0 := (B.out.cell (jH x0)).trans x0
    have y0 := (B.out.cell (jH y0)).trans y0
    have x1 := (B.out.cell (jH x1)).trans x1
    have y1 := (B.out.cell (jH y1)).trans y1
    have i0 : (0 : Int) ≤ (k : Int) := by omega
    have i1 : (k : Int) < (xs.length : Int) := by omega
    have i2 : (k : Int) < (ys.length : Int) := by have := HL.out; omega
    have HX := jh hx
    have HY := jh hy
    clear hP hQ hx hy k1 k2 a1 a2
    generalize hd : decide (x = y) = d at SM
    have HD := jh hd
    clear hd
    go_upto_region 6 with (fail)
    obtain ⟨W3, hW3, r3, hb3, -⟩ := box1 wr #[.bool x.1, .slice su x.2.length cu] 121
    rw [← hW3]
    clear hW3
    have R30 : W3.cell? ⟨wr.heap.size, 0, none⟩ = some (.bool x.1) := jB r3 0
    have R31 : W3.cell? ⟨wr.heap.size, 1, none⟩ = some (.slice su x.2.length cu) := jB r3 1
    have y0 := jA y0 hb3
    have y1 := jA y1 hb3
    have B3 := jh (jC B.out hb3)
    clear x0 x1 r3 hb3
    go_upto_region 7 with (fail)
    obtain ⟨W4, hW4, r4, hb4, -⟩ := box1 W3 #[.bool y.1, .slice sv y.2.length cv] 121
    rw [← hW4]
    clear hW4
    have R30 := jA R30 hb4
    have R31 := jA R31 hb4
    have R40 : W4.cell? ⟨W3.heap.size, 0, none⟩ = some (.bool y.1) := jB r4 0
    have R41 : W4.cell? ⟨W3.heap.size, 1, none⟩ = some (.slice sv y.2.length cv) := jB r4 1
    have B4 := jh (jC B3.out hb4)
    clear y0 y1 r4 hb4
    go_wp2_with fail
    refine (SM.out _ B4.out).mono ?_
    rintro e w5 ⟨rfl, hb⟩
    have B5 := jh (jC B4.out hb)
    clear hb R30 R31 R40 R41
    cases d
    ·have NE : Hid (decide (xs = ys) = false) := jh (by simp only [decide_eq_false_iff_not]; intro e; subst e; have := HX.out.symm.trans HY.out; have := Option.some.inj this; simpa [this] using HD.out)
     go_wp2_with fail
     go_ret
     exact ⟨jL NE.out.symm, B5.out⟩
    ·have E2 : Hid (xs.take (k + 1) = ys.take (k + 1)) := jh (by rw [List.take_add_one, List.take_add_one, E.out, HX.out, HY.out, of_decide_eq_true HD.out])
     go_wp2_with fail
     exact ⟨⟨k + 1, by omega, by go_num, E2, B5⟩, by simp [intOf]; omega⟩
   ·obtain rfl : xs.length = k := by omega
    have E3 : Hid (decide (xs = ys) = true) := jh (by
     have := E.out
     rw [List.take_length, HL.out, List.take_length] at this
     simpa using this)
    clear E
    go_wp2_with fail
    go_ret
    exact ⟨jL E3.out.symm, B.out⟩
 ·have j0 : ((xs.length : Int) != (ys.length : Int)) = true := by simp; omega
  have NE : Hid (decide (xs = ys) = false) := jh (by simp only [decide_eq_false_iff_not]; intro e; exact hl (by rw [e]))
  clear hl
  go_enter Tryz.func80, Tryz.ntmps80
  go_wp2_with fail
  go_ret
  exact ⟨jL NE.out.symm, Below.refl _ _⟩
set_option maxHeartbeats 3200000 in
set_option maxRecDepth 100000 in
theorem at_equalO (v u : Value) (xs ys : List Oth) (w : World) (h : OthersAt w v xs) (k : OthersAt w u ys) : Calls Tryz.prog 82 #[v, u, .func (.func 83) #[] #[]] w fun e w' => e = .returned (.bool (decide (xs = ys))) ∧ Below w.heap.size w w' := by
 obtain ⟨sa, cap, rfl, hlc, hcm, hV⟩ := h
 obtain ⟨sb, cap2, rfl, hlc2, hcm2, hU⟩ := k
 have HV := jh hV
 have HU := jh hU
 unfold maxLen at hcm hcm2
 clear hV hU
 by_cases hl : xs.length = ys.length
 ·have HL := jh hl
  have j0 : ((xs.length : Int) != (ys.length : Int)) = false := by simp [hl]
  clear hl
  go_enter Tryz.func82, Tryz.ntmps82
  go_wp2_with fail
  clear j0
  go_loopw [17] (fun k13 wr => ∃ k : Nat, k ≤ xs.length ∧ k13 = .int .i64 k ∧ Hid (xs.take k = ys.take k) ∧ Hid (Below w.heap.size w wr)) (fun k13 _ => xs.length - (intOf k13).toNat)
  case atStart => exact ⟨0, by omega, rfl, jh rfl, jh (Below.refl _ _)⟩
  case round =>
   obtain ⟨k, hk, rfl, E, B⟩ := hrel
   by_cases hlt : k < xs.length
   ·obtain ⟨x, hx⟩ : ∃ x, xs[k]? = some x := ⟨_, List.getElem?_eq_getElem hlt⟩
    obtain ⟨y, hy⟩ : ∃ y, ys[k]? = some y := ⟨_, List.getElem?_eq_getElem (by rw [← HL.out]; exact hlt)⟩
    obtain ⟨b1, off1, hsa, hP⟩ := HV.out (by omega)
    obtain ⟨b2, off2, hsb, hQ⟩ := HU.out (by rw [← HL.out]; omega)
    subst hsa
    subst hsb
    obtain ⟨c1, _, ⟨u1, rfl, _, a1⟩, k1⟩ := hP k x hx
    obtain ⟨c2, _, ⟨u2, rfl, _, a2⟩, k2⟩ := hQ k y hy
    have SM := jh (fun W (hb : Below w.heap.size w W) => at_same2 x y u1 u2 W (a1.below hb) (a2.below hb))
    obtain ⟨su, cu, rfl, -⟩ := id a1
    obtain ⟨sv, cv, rfl, -⟩ := id a2
    have x0 := k1 0 _ rfl
    have x1 := k1 1 _ rfl
    have y0 := k2 0 _ rfl
    have y1 := k2 1 _ rfl
    simp only [Nat.add_zero] at x0 y0
    have x0 := (B.out.cell (jH x0)).trans x0
    have y0 := (B.out.cell (jH y0)).trans y0
    have x1 := (B.out.cell (jH x1)).trans x1
    have y1 := (B.out.cell (jH y1)).trans y1
    have i0 : (0 : Int) ≤ (k : Int) := by omega
    have i1 : (k : Int) < (xs.length : Int) := by omega
    have i2 : (k : Int) < (ys.length : Int) := by have := HL.out; omega
    have HX := jh hx
    have HY := jh hy
    clear hP hQ hx hy k1 k2 a1 a2
    generalize hd : decide (x = y) = d at SM
    have HD := jh hd
    clear hd
    go_upto_region 6 with (fail)
    obtain ⟨W3, hW3, r3, hb3, -⟩ := box1 wr #[.int .i64 x.1, .slice su x.2.length cu] 159
    rw [← hW3]
    clear hW3
    have R30 : W3.cell? ⟨wr.heap.size, 0, none⟩ = some (.int .i64 x.1) := jB r3 0
    have R31 : W3.cell? ⟨wr.heap.size, 1, none⟩ = some (.slice su x.2.length cu) := jB r3 1
    have y0 := jA y0 hb3
    have y1 := jA y1 hb3
    have B3 := jh (jC B.out hb3)
    clear x0 x1 r3 hb3
    go_upto_region 7 with (fail)
    obtain ⟨W4, hW4, r4, hb4, -⟩ := box1 W3 #[.int .i64 y.1, .slice sv y.2.length cv] 159
    rw [← hW4]
    clear hW4
    have R30 := jA R30 hb4
    have R31 := jA R31 hb4
    have R40 : W4.cell? ⟨W3.heap.size, 0, none⟩ = some (.int .i64 y.1) := jB r4 0
    have R41 : W4.cell? ⟨W3.heap.size, 1, none⟩ = some (.slice sv y.2.length cv) := jB r4 1
    have B4 := jh (jC B3.out hb4)
    clear y0 y1 r4 hb4
    go_wp2_with fail
    refine (SM.out _ B4.out).mono ?_
    rintro e w5 ⟨rfl, hb⟩
    have B5 := jh (jC B4.out hb)
    clear hb R30 R31 R40 R41
    cases d
    ·have NE : Hid (decide (xs = ys) = false) := jh (by simp only [decide_eq_false_iff_not]; intro e; subst e; have := HX.out.symm.trans HY.out; have := Option.some.inj this; simpa [this] using HD.out)
     go_wp2_with fail
     go_ret
     exact ⟨jL NE.out.symm, B5.out⟩
    ·have E2 : Hid (xs.take (k + 1) = ys.take (k + 1)) := jh (by rw [List.take_add_one, List.take_add_one, E.out, HX.out, HY.out, of_decide_eq_true HD.out])
     go_wp2_with fail
     exact ⟨⟨k + 1, by omega, by go_num, E2, B5⟩, by simp [intOf]; omega⟩
   ·obtain rfl : xs.length = k := by omega
    have E3 : Hid (decide (xs = ys) = true) := jh (by
     have := E.out
     rw [List.take_length, HL.out, List.take_length] at this
     simpa using this)
    clear E
    go_wp2_with fail
    go_ret
    exact ⟨jL E3.out.symm, B.out⟩
 ·have j0 : ((xs.length : Int) != (ys.length : Int)) = true := by simp; omega
  have NE : Hid (decide (xs = ys) = false) := jh (by simp only [decide_eq_false_iff_not]; intro e; exact hl (by rw [e]))
  clear hl
  go_enter Tryz.func82, Tryz.ntmps82
  go_wp2_with fail
  go_ret
  exact ⟨jL NE.out.symm, Below.refl _ _⟩
open Go.RowKit
def sameA (a b : At) : Bool := ((plB a b && decide (a.comms = b.comms)) && decide (a.path = b.path)) && decide (a.others = b.others)
theorem plB_iff (a b : At) : plB a b = true ↔ a.has = b.has ∧ a.origin = b.origin ∧ a.med = b.med ∧ a.loc = b.loc ∧ a.aggrAs = b.aggrAs ∧ a.hop = b.hop ∧ a.aggrId = b.aggrId := by
 unfold plB
 simp only [Bool.and_eq_true, beq_iff_eq, Bool.and_true]
 omega
theorem sameA_iff (a b : At) : sameA a b = true ↔ a = b := by
 unfold sameA
 simp only [Bool.and_eq_true, plB_iff, decide_eq_true_eq]
 constructor
 ·rintro ⟨⟨⟨⟨h1, h2, h3, h4, h5, h6, h7⟩, h8⟩, h9⟩, h10⟩
  cases a; cases b
  simp_all
 ·rintro rfl
  simp
theorem ret_same {a b : At} {c0 c1 c2 c3 : Bool} (h0 : plB a b = c0) (h1 : decide (a.comms = b.comms) = c1) (h2 : decide (a.path = b.path) = c2) (h3 : decide (a.others = b.others) = c3) : sameA a b = (((c0 && c1) && c2) && c3) := by
 unfold sameA
 rw [h0, h1, h2, h3]
set_option maxHeartbeats 3200000 in
set_option maxRecDepth 100000 in
theorem at_Same (a b : At) (vp vc vo up uc uo : Value) (w : World) (ha : AtL w a vp vc vo) (hb : AtL w b up uc uo) :
  Calls Tryz.prog 37 #[.agg (atV a vp vc vo).toArray, .agg (atV b up uc uo).toArray] w fun e w' => e = .returned (.bool (sameA a b)) ∧ Below w.heap.size w w' := by
 show Calls Tryz.prog 37 #[.agg #[.int .i64 a.has, .int .i64 a.origin, vp, .int .u32 a.hop, .int .i64 a.med, .int .i64 a.loc, .int .i64 a.aggrAs, .int .u32 a.aggrId, vc, vo], .agg #[.int .i64 b.has, .int .i64 b.origin, up, .int .u32 b.hop, .int .i64 b.med, .int .i64 b.loc, .int .i64 b.aggrAs, .int .u32 b.aggrId, uc, uo]] w _
 obtain ⟨W0, hW0, q0, q1, hB⟩ := boxTwo w #[.int .i64 a.has, .int .i64 a.origin, vp, .int .u32 a.hop, .int .i64 a.med, .int .i64 a.loc, .int .i64 a.aggrAs, .int .u32 a.aggrId, vc, vo] 42 #[.int .i64 b.has, .int .i64 b.origin, up, .int .u32 b.hop, .int .i64 b.med, .int .i64 b.loc, .int .i64 b.aggrAs, .int .u32 b.aggrId, uc, uo] 42
 have PL := run_eql_plain a b
 have EI := jh (fun W (h : Below W0.heap.size W0 W) => sl_EqI vc uc _ _ W ((ha.2.1.below hB).below h) ((hb.2.1.below hB).below h))
 have ES := jh (fun W (h : Below W0.heap.size W0 W) => at_equalS vp up _ _ W ((ha.1.below hB).below h) ((hb.1.below hB).below h))
 have EO := jh (fun W (h : Below W0.heap.size W0 W) => at_equalO vo uo _ _ W ((ha.2.2.below hB).below h) ((hb.2.2.below hB).below h))
 have RS := jh (fun c0 c1 c2 c3 => ret_same (a := a) (b := b) (c0 := c0) (c1 := c1) (c2 := c2) (c3 := c3))
 obtain ⟨sp, kp, hvp, -⟩ := id ha.1
 obtain ⟨sc, kc, hvc, -⟩ := id ha.2.1
 obtain ⟨so, ko, hvo, -⟩ := id ha.2.2
 obtain ⟨tp, lp, hup, -⟩ := id hb.1
 obtain ⟨tc, lc, huc, -⟩ := id hb.2.1
 obtain ⟨tt, lo, huo, -⟩ := id hb.2.2
 subst hvp hvc hvo hup huc huo
 clear ha hb
 generalize h0 : plB a b = c0 at PL
 generalize h1 : decide (a.comms = b.comms) = c1 at EI
 generalize h2 : decide (a.path = b.path) = c2 at ES
 generalize h3 : decide (a.others = b.others) = c3 at EO
 have R := jh (RS.out c0 c1 c2 c3 h0 h1 h2 h3)
 clear h0 h1 h2 h3 RS
 generalize sameA a b = z at R ⊢
 go_enter Tryz.func37, Tryz.ntmps37
 go_upto_region 1 with (fail)
 rw [← hW0]
 clear hW0
 have cc : W0.cell? ⟨w.heap.size, 8, none⟩ = some (.slice sc a.comms.length kc) := jB q0 8
 have dc : W0.cell? ⟨w.heap.size + 1, 8, none⟩ = some (.slice tc b.comms.length lc) := jB q1 8
 have cp : W0.cell? ⟨w.heap.size, 2, none⟩ = some (.slice sp a.path.length kp) := jB q0 2
 have dp : W0.cell? ⟨w.heap.size + 1, 2, none⟩ = some (.slice tp b.path.length lp) := jB q1 2
 have co : W0.cell? ⟨w.heap.size, 9, none⟩ = some (.slice so a.others.length ko) := jB q0 9
 have do_ : W0.cell? ⟨w.heap.size + 1, 9, none⟩ = some (.slice tt b.others.length lo) := jB q1 9
 have Q0 := jh q0
 have Q1 := jh q1
 have HB := jh hB
 clear q0 q1 hB
 cases c0 with
 | false =>
  refine wp_region_held_drew (S := fun w' => Below W0.heap.size W0 w') (by kernel_rfl) ?_ (fun hHeld => ?_)
  ·exact (Below.refl _ _).drew
  refine qy 0 ?_ ?_ ?_ hHeld ?_; rotate_left 1; (· rfl); (· intro w' hSw; refine exec_ld 42 (.tmp 2) ?_ w.heap.size ?_ 42 _ (0, 0) _ ((hSw.block _ (jE Q0.out)).trans Q0.out) Tryz.underlying42 rfl (by kernel_rfl) <;> rfl)
  try simp only [jz]
  refine qy 2 ?_ ?_ ?_ hHeld ?_; rotate_left 1; (· rfl); (· intro w' hSw; refine exec_ld 42 (.tmp 3) ?_ (w.heap.size + 1) ?_ 42 _ (0, 0) _ ((hSw.block _ (jE Q1.out)).trans Q1.out) Tryz.underlying42 rfl (by kernel_rfl) <;> rfl)
  try simp only [jz]
  refine jr 1 ?_ fun K hK => ?_; (· rfl); (try clear hb); go_simp; (refine (at_plain a _ _ _ _).mono ?_; rintro e w1 ⟨rfl, hb⟩); go_wp2_with fail; refine hK.out _ _ ?_ (fun hHeld => ?_); (· exact hHeld.trans (hb.mono hHeld.size)); clear hK K
  try simp only [jz]
  refine jr 3 ?_ fun K hK => ?_; (· rfl); (try clear hb); go_simp; (refine (at_plain b _ _ _ _).mono ?_; rintro e w1 ⟨rfl, hb⟩); go_wp2_with fail; refine hK.out _ _ ?_ (fun hHeld => ?_); (· exact hHeld.trans (hb.mono hHeld.size)); clear hK K
  try simp only [jz]
  refine qy 4 ?_ ?_ ?_ hHeld ?_; rotate_left 1; (· rfl); (· intro w' hSw; (try clear hHeld); go_simp; try with_reducible rfl)
  try simp only [jz]
  refine qy 5 ?_ ?_ ?_ hHeld ?_; rotate_left 1; (· rfl); (· intro w' hSw; (try clear hHeld); go_simp; try with_reducible rfl)
  try simp only [jz]
  first | (refine rgn (i := 6) (atN rfl) (by kernel_rfl) (fun _ _ _ h => h) ?_ hHeld ?_; (· rfl)) | (refine qy 6 ?_ ?_ ?_ hHeld ?_; rotate_left 1; (· rfl); (· intro w' hSw; (try clear hHeld); go_simp; try with_reducible rfl))
  try simp only [jz]
  first | (refine rgn (i := 7) (atN rfl) (by kernel_rfl) (fun _ _ _ h => h) ?_ hHeld ?_; (· rfl)) | (refine qy 7 ?_ ?_ ?_ hHeld ?_; rotate_left 1; (· rfl); (· intro w' hSw; have cc := jA cc hSw; have dc := jA dc hSw; have cp := jA cp hSw; have dp := jA dp hSw; have co := jA co hSw; have do_ := jA do_ hSw; (try clear hHeld); go_simp; try with_reducible rfl))
  try simp only [jz]
  first | (refine rgn (i := 8) (atN rfl) (by kernel_rfl) (fun _ _ _ h => h) ?_ hHeld ?_; (· rfl)) | (refine qy 8 ?_ ?_ ?_ hHeld ?_; rotate_left 1; (· rfl); (· intro w' hSw; (try clear hHeld); go_simp; try with_reducible rfl))
  try simp only [jz]
  first | (refine rgn (i := 9) (atN rfl) (by kernel_rfl) (fun _ _ _ h => h) ?_ hHeld ?_; (· rfl)) | (refine qy 9 ?_ ?_ ?_ hHeld ?_; rotate_left 1; (· rfl); (· intro w' hSw; have cc := jA cc hSw; have dc := jA dc hSw; have cp := jA cp hSw; have dp := jA dp hSw; have co := jA co hSw; have do_ := jA do_ hSw; (try clear hHeld); go_simp; try with_reducible rfl))
  try simp only [jz]
  first | (refine rgn (i := 10) (atN rfl) (by kernel_rfl) (fun _ _ _ h => h) ?_ hHeld ?_; (· rfl)) | (refine jr 10 ?_ fun K hK => ?_; (· rfl); (try clear hb); go_simp; (refine (EI.out _ hHeld).mono ?_; rintro e w1 ⟨rfl, hb⟩); go_wp2_with fail; refine hK.out _ _ ?_ (fun hHeld => ?_); (· exact hHeld.trans (hb.mono hHeld.size)); clear hK K)
  try simp only [jz]
  refine qy 11 ?_ ?_ ?_ hHeld ?_; rotate_left 1; (· rfl); (· intro w' hSw; (try clear hHeld); go_simp; try with_reducible rfl)
  try simp only [jz]
  refine qy 12 ?_ ?_ ?_ hHeld ?_; rotate_left 1; (· rfl); (· intro w' hSw; (try clear hHeld); go_simp; try with_reducible rfl)
  try simp only [jz]
  first | (refine rgn (i := 13) (atN rfl) (by kernel_rfl) (fun _ _ _ h => h) ?_ hHeld ?_; (· rfl)) | (refine qy 13 ?_ ?_ ?_ hHeld ?_; rotate_left 1; (· rfl); (· intro w' hSw; (try clear hHeld); go_simp; try with_reducible rfl))
  try simp only [jz]
  first | (refine rgn (i := 14) (atN rfl) (by kernel_rfl) (fun _ _ _ h => h) ?_ hHeld ?_; (· rfl)) | (refine qy 14 ?_ ?_ ?_ hHeld ?_; rotate_left 1; (· rfl); (· intro w' hSw; have cc := jA cc hSw; have dc := jA dc hSw; have cp := jA cp hSw; have dp := jA dp hSw; have co := jA co hSw; have do_ := jA do_ hSw; (try clear hHeld); go_simp; try with_reducible rfl))
  try simp only [jz]
  first | (refine rgn (i := 15) (atN rfl) (by kernel_rfl) (fun _ _ _ h => h) ?_ hHeld ?_; (· rfl)) | (refine qy 15 ?_ ?_ ?_ hHeld ?_; rotate_left 1; (· rfl); (· intro w' hSw; (try clear hHeld); go_simp; try with_reducible rfl))
  try simp only [jz]
  first | (refine rgn (i := 16) (atN rfl) (by kernel_rfl) (fun _ _ _ h => h) ?_ hHeld ?_; (· rfl)) | (refine qy 16 ?_ ?_ ?_ hHeld ?_; rotate_left 1; (· rfl); (· intro w' hSw; have cc := jA cc hSw; have dc := jA dc hSw; have cp := jA cp hSw; have dp := jA dp hSw; have co := jA co hSw; have do_ := jA do_ hSw; (try clear hHeld); go_simp; try with_reducible rfl))
  try simp only [jz]
  first | (refine rgn (i := 17) (atN rfl) (by kernel_rfl) (fun _ _ _ h => h) ?_ hHeld ?_; (· rfl)) | (refine jr 17 ?_ fun K hK => ?_; (· rfl); (try clear hb); go_simp; (refine (ES.out _ hHeld).mono ?_; rintro e w1 ⟨rfl, hb⟩); go_wp2_with fail; refine hK.out _ _ ?_ (fun hHeld => ?_); (· exact hHeld.trans (hb.mono hHeld.size)); clear hK K)
  try simp only [jz]
  refine qy 18 ?_ ?_ ?_ hHeld ?_; rotate_left 1; (· rfl); (· intro w' hSw; (try clear hHeld); go_simp; try with_reducible rfl)
  try simp only [jz]
  refine qy 19 ?_ ?_ ?_ hHeld ?_; rotate_left 1; (· rfl); (· intro w' hSw; (try clear hHeld); go_simp; try with_reducible rfl)
  try simp only [jz]
  first | (refine rgn (i := 20) (atN rfl) (by kernel_rfl) (fun _ _ _ h => h) ?_ hHeld ?_; (· rfl)) | (refine qy 20 ?_ ?_ ?_ hHeld ?_; rotate_left 1; (· rfl); (· intro w' hSw; (try clear hHeld); go_simp; try with_reducible rfl))
  try simp only [jz]
  first | (refine rgn (i := 21) (atN rfl) (by kernel_rfl) (fun _ _ _ h => h) ?_ hHeld ?_; (· rfl)) | (refine qy 21 ?_ ?_ ?_ hHeld ?_; rotate_left 1; (· rfl); (· intro w' hSw; have cc := jA cc hSw; have dc := jA dc hSw; have cp := jA cp hSw; have dp := jA dp hSw; have co := jA co hSw; have do_ := jA do_ hSw; (try clear hHeld); go_simp; try with_reducible rfl))
  try simp only [jz]
  first | (refine rgn (i := 22) (atN rfl) (by kernel_rfl) (fun _ _ _ h => h) ?_ hHeld ?_; (· rfl)) | (refine qy 22 ?_ ?_ ?_ hHeld ?_; rotate_left 1; (· rfl); (· intro w' hSw; (try clear hHeld); go_simp; try with_reducible rfl))
  try simp only [jz]
  first | (refine rgn (i := 23) (atN rfl) (by kernel_rfl) (fun _ _ _ h => h) ?_ hHeld ?_; (· rfl)) | (refine qy 23 ?_ ?_ ?_ hHeld ?_; rotate_left 1; (· rfl); (· intro w' hSw; have cc := jA cc hSw; have dc := jA dc hSw; have cp := jA cp hSw; have dp := jA dp hSw; have co := jA co hSw; have do_ := jA do_ hSw; (try clear hHeld); go_simp; try with_reducible rfl))
  try simp only [jz]
  first | (refine rgn (i := 24) (atN rfl) (by kernel_rfl) (fun _ _ _ h => h) ?_ hHeld ?_; (· rfl)) | (refine jr 24 ?_ fun K hK => ?_; (· rfl); (try clear hb); go_simp; (refine (EO.out _ hHeld).mono ?_; rintro e w1 ⟨rfl, hb⟩); go_wp2_with fail; refine hK.out _ _ ?_ (fun hHeld => ?_); (· exact hHeld.trans (hb.mono hHeld.size)); clear hK K)
  try simp only [jz]
  refine qy 25 ?_ ?_ ?_ hHeld ?_; rotate_left 1; (· rfl); (· intro w' hSw; (try clear hHeld); go_simp; try with_reducible rfl)
  try simp only [jz]
  refine qy 26 ?_ ?_ ?_ hHeld ?_; rotate_left 1; (· rfl); (· intro w' hSw; (try clear hHeld); go_simp; try with_reducible rfl)
  try simp only [jz]
  refine wpAnyH_done (by kernel_rfl) ?_ _
  go_wp2_with fail
  go_ret
  exact ⟨jL (by rw [R.out]; rfl), jC HB.out hHeld⟩
 | true =>
  cases c1 with
  | false =>
   refine wp_region_held_drew (S := fun w' => Below W0.heap.size W0 w') (by kernel_rfl) ?_ (fun hHeld => ?_)
   ·exact (Below.refl _ _).drew
   refine qy 0 ?_ ?_ ?_ hHeld ?_; rotate_left 1; (· rfl); (· intro w' hSw; refine exec_ld 42 (.tmp 2) ?_ w.heap.size ?_ 42 _ (0, 0) _ ((hSw.block _ (jE Q0.out)).trans Q0.out) Tryz.underlying42 rfl (by kernel_rfl) <;> rfl)
   try simp only [jz]
   refine qy 2 ?_ ?_ ?_ hHeld ?_; rotate_left 1; (· rfl); (· intro w' hSw; refine exec_ld 42 (.tmp 3) ?_ (w.heap.size + 1) ?_ 42 _ (0, 0) _ ((hSw.block _ (jE Q1.out)).trans Q1.out) Tryz.underlying42 rfl (by kernel_rfl) <;> rfl)
   try simp only [jz]
   refine jr 1 ?_ fun K hK => ?_; (· rfl); (try clear hb); go_simp; (refine (at_plain a _ _ _ _).mono ?_; rintro e w1 ⟨rfl, hb⟩); go_wp2_with fail; refine hK.out _ _ ?_ (fun hHeld => ?_); (· exact hHeld.trans (hb.mono hHeld.size)); clear hK K
   try simp only [jz]
   refine jr 3 ?_ fun K hK => ?_; (· rfl); (try clear hb); go_simp; (refine (at_plain b _ _ _ _).mono ?_; rintro e w1 ⟨rfl, hb⟩); go_wp2_with fail; refine hK.out _ _ ?_ (fun hHeld => ?_); (· exact hHeld.trans (hb.mono hHeld.size)); clear hK K
   try simp only [jz]
   refine qy 4 ?_ ?_ ?_ hHeld ?_; rotate_left 1; (· rfl); (· intro w' hSw; (try clear hHeld); go_simp; try with_reducible rfl)
   try simp only [jz]
   refine qy 5 ?_ ?_ ?_ hHeld ?_; rotate_left 1; (· rfl); (· intro w' hSw; (try clear hHeld); go_simp; try with_reducible rfl)
   try simp only [jz]
   first | (refine rgn (i := 6) (atN rfl) (by kernel_rfl) (fun _ _ _ h => h) ?_ hHeld ?_; (· rfl)) | (refine qy 6 ?_ ?_ ?_ hHeld ?_; rotate_left 1; (· rfl); (· intro w' hSw; (try clear hHeld); go_simp; try with_reducible rfl))
   try simp only [jz]
   first | (refine rgn (i := 7) (atN rfl) (by kernel_rfl) (fun _ _ _ h => h) ?_ hHeld ?_; (· rfl)) | (refine qy 7 ?_ ?_ ?_ hHeld ?_; rotate_left 1; (· rfl); (· intro w' hSw; have cc := jA cc hSw; have dc := jA dc hSw; have cp := jA cp hSw; have dp := jA dp hSw; have co := jA co hSw; have do_ := jA do_ hSw; (try clear hHeld); go_simp; try with_reducible rfl))
   try simp only [jz]
   first | (refine rgn (i := 8) (atN rfl) (by kernel_rfl) (fun _ _ _ h => h) ?_ hHeld ?_; (· rfl)) | (refine qy 8 ?_ ?_ ?_ hHeld ?_; rotate_left 1; (· rfl); (· intro w' hSw; (try clear hHeld); go_simp; try with_reducible rfl))
   try simp only [jz]
   first | (refine rgn (i := 9) (atN rfl) (by kernel_rfl) (fun _ _ _ h => h) ?_ hHeld ?_; (· rfl)) | (refine qy 9 ?_ ?_ ?_ hHeld ?_; rotate_left 1; (· rfl); (· intro w' hSw; have cc := jA cc hSw; have dc := jA dc hSw; have cp := jA cp hSw; have dp := jA dp hSw; have co := jA co hSw; have do_ := jA do_ hSw; (try clear hHeld); go_simp; try with_reducible rfl))
   try simp only [jz]
   first | (refine rgn (i := 10) (atN rfl) (by kernel_rfl) (fun _ _ _ h => h) ?_ hHeld ?_; (· rfl)) | (refine jr 10 ?_ fun K hK => ?_; (· rfl); (try clear hb); go_simp; (refine (EI.out _ hHeld).mono ?_; rintro e w1 ⟨rfl, hb⟩); go_wp2_with fail; refine hK.out _ _ ?_ (fun hHeld => ?_); (· exact hHeld.trans (hb.mono hHeld.size)); clear hK K)
   try simp only [jz]
   refine qy 11 ?_ ?_ ?_ hHeld ?_; rotate_left 1; (· rfl); (· intro w' hSw; (try clear hHeld); go_simp; try with_reducible rfl)
   try simp only [jz]
   refine qy 12 ?_ ?_ ?_ hHeld ?_; rotate_left 1; (· rfl); (· intro w' hSw; (try clear hHeld); go_simp; try with_reducible rfl)
   try simp only [jz]
   first | (refine rgn (i := 13) (atN rfl) (by kernel_rfl) (fun _ _ _ h => h) ?_ hHeld ?_; (· rfl)) | (refine qy 13 ?_ ?_ ?_ hHeld ?_; rotate_left 1; (· rfl); (· intro w' hSw; (try clear hHeld); go_simp; try with_reducible rfl))
   try simp only [jz]
   first | (refine rgn (i := 14) (atN rfl) (by kernel_rfl) (fun _ _ _ h => h) ?_ hHeld ?_; (· rfl)) | (refine qy 14 ?_ ?_ ?_ hHeld ?_; rotate_left 1; (· rfl); (· intro w' hSw; have cc := jA cc hSw; have dc := jA dc hSw; have cp := jA cp hSw; have dp := jA dp hSw; have co := jA co hSw; have do_ := jA do_ hSw; (try clear hHeld); go_simp; try with_reducible rfl))
   try simp only [jz]
   first | (refine rgn (i := 15) (atN rfl) (by kernel_rfl) (fun _ _ _ h => h) ?_ hHeld ?_; (· rfl)) | (refine qy 15 ?_ ?_ ?_ hHeld ?_; rotate_left 1; (· rfl); (· intro w' hSw; (try clear hHeld); go_simp; try with_reducible rfl))
   try simp only [jz]
   first | (refine rgn (i := 16) (atN rfl) (by kernel_rfl) (fun _ _ _ h => h) ?_ hHeld ?_; (· rfl)) | (refine qy 16 ?_ ?_ ?_ hHeld ?_; rotate_left 1; (· rfl); (· intro w' hSw; have cc := jA cc hSw; have dc := jA dc hSw; have cp := jA cp hSw; have dp := jA dp hSw; have co := jA co hSw; have do_ := jA do_ hSw; (try clear hHeld); go_simp; try with_reducible rfl))
   try simp only [jz]
   first | (refine rgn (i := 17) (atN rfl) (by kernel_rfl) (fun _ _ _ h => h) ?_ hHeld ?_; (· rfl)) | (refine jr 17 ?_ fun K hK => ?_; (· rfl); (try clear hb); go_simp; (refine (ES.out _ hHeld).mono ?_; rintro e w1 ⟨rfl, hb⟩); go_wp2_with fail; refine hK.out _ _ ?_ (fun hHeld => ?_); (· exact hHeld.trans (hb.mono hHeld.size)); clear hK K)
   try simp only [jz]
   refine qy 18 ?_ ?_ ?_ hHeld ?_; rotate_left 1; (· rfl); (· intro w' hSw; (try clear hHeld); go_simp; try with_reducible rfl)
   try simp only [jz]
   refine qy 19 ?_ ?_ ?_ hHeld ?_; rotate_left 1; (· rfl); (· intro w' hSw; (try clear hHeld); go_simp; try with_reducible rfl)
   try simp only [jz]
   first | (refine rgn (i := 20) (atN rfl) (by kernel_rfl) (fun _ _ _ h => h) ?_ hHeld ?_; (· rfl)) | (refine qy 20 ?_ ?_ ?_ hHeld ?_; rotate_left 1; (· rfl); (· intro w' hSw; (try clear hHeld); go_simp; try with_reducible rfl))
   try simp only [jz]
   first | (refine rgn (i := 21) (atN rfl) (by kernel_rfl) (fun _ _ _ h => h) ?_ hHeld ?_; (· rfl)) | (refine qy 21 ?_ ?_ ?_ hHeld ?_; rotate_left 1; (· rfl); (· intro w' hSw; have cc := jA cc hSw; have dc := jA dc hSw; have cp := jA cp hSw; have dp := jA dp hSw; have co := jA co hSw; have do_ := jA do_ hSw; (try clear hHeld); go_simp; try with_reducible rfl))
   try simp only [jz]
   first | (refine rgn (i := 22) (atN rfl) (by kernel_rfl) (fun _ _ _ h => h) ?_ hHeld ?_; (· rfl)) | (refine qy 22 ?_ ?_ ?_ hHeld ?_; rotate_left 1; (· rfl); (· intro w' hSw; (try clear hHeld); go_simp; try with_reducible rfl))
   try simp only [jz]
   first | (refine rgn (i := 23) (atN rfl) (by kernel_rfl) (fun _ _ _ h => h) ?_ hHeld ?_; (· rfl)) | (refine qy 23 ?_ ?_ ?_ hHeld ?_; rotate_left 1; (· rfl); (· intro w' hSw; have cc := jA cc hSw; have dc := jA dc hSw; have cp := jA cp hSw; have dp := jA dp hSw; have co := jA co hSw; have do_ := jA do_ hSw; (try clear hHeld); go_simp; try with_reducible rfl))
   try simp only [jz]
   first | (refine rgn (i := 24) (atN rfl) (by kernel_rfl) (fun _ _ _ h => h) ?_ hHeld ?_; (· rfl)) | (refine jr 24 ?_ fun K hK => ?_; (· rfl); (try clear hb); go_simp; (refine (EO.out _ hHeld).mono ?_; rintro e w1 ⟨rfl, hb⟩); go_wp2_with fail; refine hK.out _ _ ?_ (fun hHeld => ?_); (· exact hHeld.trans (hb.mono hHeld.size)); clear hK K)
   try simp only [jz]
   refine qy 25 ?_ ?_ ?_ hHeld ?_; rotate_left 1; (· rfl); (· intro w' hSw; (try clear hHeld); go_simp; try with_reducible rfl)
   try simp only [jz]
   refine qy 26 ?_ ?_ ?_ hHeld ?_; rotate_left 1; (· rfl); (· intro w' hSw; (try clear hHeld); go_simp; try with_reducible rfl)
   try simp only [jz]
   refine wpAnyH_done (by kernel_rfl) ?_ _
   go_wp2_with fail
   go_ret
   exact ⟨jL (by rw [R.out]; rfl), jC HB.out hHeld⟩
  | true =>
   cases c2 with
   | false =>
    refine wp_region_held_drew (S := fun w' => Below W0.heap.size W0 w') (by kernel_rfl) ?_ (fun hHeld => ?_)
    ·exact (Below.refl _ _).drew
    refine qy 0 ?_ ?_ ?_ hHeld ?_; rotate_left 1; (· rfl); (· intro w' hSw; refine exec_ld 42 (.tmp 2) ?_ w.heap.size ?_ 42 _ (0, 0) _ ((hSw.block _ (jE Q0.out)).trans Q0.out) Tryz.underlying42 rfl (by kernel_rfl) <;> rfl)
    try simp only [jz]
    refine qy 2 ?_ ?_ ?_ hHeld ?_; rotate_left 1; (· rfl); (· intro w' hSw; refine exec_ld 42 (.tmp 3) ?_ (w.heap.size + 1) ?_ 42 _ (0, 0) _ ((hSw.block _ (jE Q1.out)).trans Q1.out) Tryz.underlying42 rfl (by kernel_rfl) <;> rfl)
    try simp only [jz]
    refine jr 1 ?_ fun K hK => ?_; (· rfl); (try clear hb); go_simp; (refine (at_plain a _ _ _ _).mono ?_; rintro e w1 ⟨rfl, hb⟩); go_wp2_with fail; refine hK.out _ _ ?_ (fun hHeld => ?_); (· exact hHeld.trans (hb.mono hHeld.size)); clear hK K
    try simp only [jz]
    refine jr 3 ?_ fun K hK => ?_; (· rfl); (try clear hb); go_simp; (refine (at_plain b _ _ _ _).mono ?_; rintro e w1 ⟨rfl, hb⟩); go_wp2_with fail; refine hK.out _ _ ?_ (fun hHeld => ?_); (· exact hHeld.trans (hb.mono hHeld.size)); clear hK K
    try simp only [jz]
    refine qy 4 ?_ ?_ ?_ hHeld ?_; rotate_left 1; (· rfl); (· intro w' hSw; (try clear hHeld); go_simp; try with_reducible rfl)
    try simp only [jz]
    refine qy 5 ?_ ?_ ?_ hHeld ?_; rotate_left 1; (· rfl); (· intro w' hSw; (try clear hHeld); go_simp; try with_reducible rfl)
    try simp only [jz]
    first | (refine rgn (i := 6) (atN rfl) (by kernel_rfl) (fun _ _ _ h => h) ?_ hHeld ?_; (· rfl)) | (refine qy 6 ?_ ?_ ?_ hHeld ?_; rotate_left 1; (· rfl); (· intro w' hSw; (try clear hHeld); go_simp; try with_reducible rfl))
    try simp only [jz]
    first | (refine rgn (i := 7) (atN rfl) (by kernel_rfl) (fun _ _ _ h => h) ?_ hHeld ?_; (· rfl)) | (refine qy 7 ?_ ?_ ?_ hHeld ?_; rotate_left 1; (· rfl); (· intro w' hSw; have cc := jA cc hSw; have dc := jA dc hSw; have cp := jA cp hSw; have dp := jA dp hSw; have co := jA co hSw; have do_ := jA do_ hSw; (try clear hHeld); go_simp; try with_reducible rfl))
    try simp only [jz]
    first | (refine rgn (i := 8) (atN rfl) (by kernel_rfl) (fun _ _ _ h => h) ?_ hHeld ?_; (· rfl)) | (refine qy 8 ?_ ?_ ?_ hHeld ?_; rotate_left 1; (· rfl); (· intro w' hSw; (try clear hHeld); go_simp; try with_reducible rfl))
    try simp only [jz]
    first | (refine rgn (i := 9) (atN rfl) (by kernel_rfl) (fun _ _ _ h => h) ?_ hHeld ?_; (· rfl)) | (refine qy 9 ?_ ?_ ?_ hHeld ?_; rotate_left 1; (· rfl); (· intro w' hSw; have cc := jA cc hSw; have dc := jA dc hSw; have cp := jA cp hSw; have dp := jA dp hSw; have co := jA co hSw; have do_ := jA do_ hSw; (try clear hHeld); go_simp; try with_reducible rfl))
    try simp only [jz]
    first | (refine rgn (i := 10) (atN rfl) (by kernel_rfl) (fun _ _ _ h => h) ?_ hHeld ?_; (· rfl)) | (refine jr 10 ?_ fun K hK => ?_; (· rfl); (try clear hb); go_simp; (refine (EI.out _ hHeld).mono ?_; rintro e w1 ⟨rfl, hb⟩); go_wp2_with fail; refine hK.out _ _ ?_ (fun hHeld => ?_); (· exact hHeld.trans (hb.mono hHeld.size)); clear hK K)
    try simp only [jz]
    refine qy 11 ?_ ?_ ?_ hHeld ?_; rotate_left 1; (· rfl); (· intro w' hSw; (try clear hHeld); go_simp; try with_reducible rfl)
    try simp only [jz]
    refine qy 12 ?_ ?_ ?_ hHeld ?_; rotate_left 1; (· rfl); (· intro w' hSw; (try clear hHeld); go_simp; try with_reducible rfl)
    try simp only [jz]
    first | (refine rgn (i := 13) (atN rfl) (by kernel_rfl) (fun _ _ _ h => h) ?_ hHeld ?_; (· rfl)) | (refine qy 13 ?_ ?_ ?_ hHeld ?_; rotate_left 1; (· rfl); (· intro w' hSw; (try clear hHeld); go_simp; try with_reducible rfl))
    try simp only [jz]
    first | (refine rgn (i := 14) (atN rfl) (by kernel_rfl) (fun _ _ _ h => h) ?_ hHeld ?_; (· rfl)) | (refine qy 14 ?_ ?_ ?_ hHeld ?_; rotate_left 1; (· rfl); (· intro w' hSw; have cc := jA cc hSw; have dc := jA dc hSw; have cp := jA cp hSw; have dp := jA dp hSw; have co := jA co hSw; have do_ := jA do_ hSw; (try clear hHeld); go_simp; try with_reducible rfl))
    try simp only [jz]
    first | (refine rgn (i := 15) (atN rfl) (by kernel_rfl) (fun _ _ _ h => h) ?_ hHeld ?_; (· rfl)) | (refine qy 15 ?_ ?_ ?_ hHeld ?_; rotate_left 1; (· rfl); (· intro w' hSw; (try clear hHeld); go_simp; try with_reducible rfl))
    try simp only [jz]
    first | (refine rgn (i := 16) (atN rfl) (by kernel_rfl) (fun _ _ _ h => h) ?_ hHeld ?_; (· rfl)) | (refine qy 16 ?_ ?_ ?_ hHeld ?_; rotate_left 1; (· rfl); (· intro w' hSw; have cc := jA cc hSw; have dc := jA dc hSw; have cp := jA cp hSw; have dp := jA dp hSw; have co := jA co hSw; have do_ := jA do_ hSw; (try clear hHeld); go_simp; try with_reducible rfl))
    try simp only [jz]
    first | (refine rgn (i := 17) (atN rfl) (by kernel_rfl) (fun _ _ _ h => h) ?_ hHeld ?_; (· rfl)) | (refine jr 17 ?_ fun K hK => ?_; (· rfl); (try clear hb); go_simp; (refine (ES.out _ hHeld).mono ?_; rintro e w1 ⟨rfl, hb⟩); go_wp2_with fail; refine hK.out _ _ ?_ (fun hHeld => ?_); (· exact hHeld.trans (hb.mono hHeld.size)); clear hK K)
    try simp only [jz]
    refine qy 18 ?_ ?_ ?_ hHeld ?_; rotate_left 1; (· rfl); (· intro w' hSw; (try clear hHeld); go_simp; try with_reducible rfl)
    try simp only [jz]
    refine qy 19 ?_ ?_ ?_ hHeld ?_; rotate_left 1; (· rfl); (· intro w' hSw; (try clear hHeld); go_simp; try with_reducible rfl)
    try simp only [jz]
    first | (refine rgn (i := 20) (atN rfl) (by kernel_rfl) (fun _ _ _ h => h) ?_ hHeld ?_; (· rfl)) | (refine qy 20 ?_ ?_ ?_ hHeld ?_; rotate_left 1; (· rfl); (· intro w' hSw; (try clear hHeld); go_simp; try with_reducible rfl))
    try simp only [jz]
    first | (refine rgn (i := 21) (atN rfl) (by kernel_rfl) (fun _ _ _ h => h) ?_ hHeld ?_; (· rfl)) | (refine qy 21 ?_ ?_ ?_ hHeld ?_; rotate_left 1; (· rfl); (· intro w' hSw; have cc := jA cc hSw; have dc := jA dc hSw; have cp := jA cp hSw; have dp := jA dp hSw; have co := jA co hSw; have do_ := jA do_ hSw; (try clear hHeld); go_simp; try with_reducible rfl))
    try simp only [jz]
    first | (refine rgn (i := 22) (atN rfl) (by kernel_rfl) (fun _ _ _ h => h) ?_ hHeld ?_; (· rfl)) | (refine qy 22 ?_ ?_ ?_ hHeld ?_; rotate_left 1; (· rfl); (· intro w' hSw; (try clear hHeld); go_simp; try with_reducible rfl))
    try simp only [jz]
    first | (refine rgn (i := 23) (atN rfl) (by kernel_rfl) (fun _ _ _ h => h) ?_ hHeld ?_; (· rfl)) | (refine qy 23 ?_ ?_ ?_ hHeld ?_; rotate_left 1; (· rfl); (· intro w' hSw; have cc := jA cc hSw; have dc := jA dc hSw; have cp := jA cp hSw; have dp := jA dp hSw; have co := jA co hSw; have do_ := jA do_ hSw; (try clear hHeld); go_simp; try with_reducible rfl))
    try simp only [jz]
    first | (refine rgn (i := 24) (atN rfl) (by kernel_rfl) (fun _ _ _ h => h) ?_ hHeld ?_; (· rfl)) | (refine jr 24 ?_ fun K hK => ?_; (· rfl); (try clear hb); go_simp; (refine (EO.out _ hHeld).mono ?_; rintro e w1 ⟨rfl, hb⟩); go_wp2_with fail; refine hK.out _ _ ?_ (fun hHeld => ?_); (· exact hHeld.trans (hb.mono hHeld.size)); clear hK K)
    try simp only [jz]
    refine qy 25 ?_ ?_ ?_ hHeld ?_; rotate_left 1; (· rfl); (· intro w' hSw; (try clear hHeld); go_simp; try with_reducible rfl)
    try simp only [jz]
    refine qy 26 ?_ ?_ ?_ hHeld ?_; rotate_left 1; (· rfl); (· intro w' hSw; (try clear hHeld); go_simp; try with_reducible rfl)
    try simp only [jz]
    refine wpAnyH_done (by kernel_rfl) ?_ _
    go_wp2_with fail
    go_ret
    exact ⟨jL (by rw [R.out]; rfl), jC HB.out hHeld⟩
   | true =>
    refine wp_region_held_drew (S := fun w' => Below W0.heap.size W0 w') (by kernel_rfl) ?_ (fun hHeld => ?_)
    ·exact (Below.refl _ _).drew
    refine qy 0 ?_ ?_ ?_ hHeld ?_; rotate_left 1; (· rfl); (· intro w' hSw; refine exec_ld 42 (.tmp 2) ?_ w.heap.size ?_ 42 _ (0, 0) _ ((hSw.block _ (jE Q0.out)).trans Q0.out) Tryz.underlying42 rfl (by kernel_rfl) <;> rfl)
    try simp only [jz]
    refine qy 2 ?_ ?_ ?_ hHeld ?_; rotate_left 1; (· rfl); (· intro w' hSw; refine exec_ld 42 (.tmp 3) ?_ (w.heap.size + 1) ?_ 42 _ (0, 0) _ ((hSw.block _ (jE Q1.out)).trans Q1.out) Tryz.underlying42 rfl (by kernel_rfl) <;> rfl)
    try simp only [jz]
    refine jr 1 ?_ fun K hK => ?_; (· rfl); (try clear hb); go_simp; (refine (at_plain a _ _ _ _).mono ?_; rintro e w1 ⟨rfl, hb⟩); go_wp2_with fail; refine hK.out _ _ ?_ (fun hHeld => ?_); (· exact hHeld.trans (hb.mono hHeld.size)); clear hK K
    try simp only [jz]
    refine jr 3 ?_ fun K hK => ?_; (· rfl); (try clear hb); go_simp; (refine (at_plain b _ _ _ _).mono ?_; rintro e w1 ⟨rfl, hb⟩); go_wp2_with fail; refine hK.out _ _ ?_ (fun hHeld => ?_); (· exact hHeld.trans (hb.mono hHeld.size)); clear hK K
    try simp only [jz]
    refine qy 4 ?_ ?_ ?_ hHeld ?_; rotate_left 1; (· rfl); (· intro w' hSw; (try clear hHeld); go_simp; try with_reducible rfl)
    try simp only [jz]
    refine qy 5 ?_ ?_ ?_ hHeld ?_; rotate_left 1; (· rfl); (· intro w' hSw; (try clear hHeld); go_simp; try with_reducible rfl)
    try simp only [jz]
    first | (refine rgn (i := 6) (atN rfl) (by kernel_rfl) (fun _ _ _ h => h) ?_ hHeld ?_; (· rfl)) | (refine qy 6 ?_ ?_ ?_ hHeld ?_; rotate_left 1; (· rfl); (· intro w' hSw; (try clear hHeld); go_simp; try with_reducible rfl))
    try simp only [jz]
    first | (refine rgn (i := 7) (atN rfl) (by kernel_rfl) (fun _ _ _ h => h) ?_ hHeld ?_; (· rfl)) | (refine qy 7 ?_ ?_ ?_ hHeld ?_; rotate_left 1; (· rfl); (· intro w' hSw; have cc := jA cc hSw; have dc := jA dc hSw; have cp := jA cp hSw; have dp := jA dp hSw; have co := jA co hSw; have do_ := jA do_ hSw; (try clear hHeld); go_simp; try with_reducible rfl))
    try simp only [jz]
    first | (refine rgn (i := 8) (atN rfl) (by kernel_rfl) (fun _ _ _ h => h) ?_ hHeld ?_; (· rfl)) | (refine qy 8 ?_ ?_ ?_ hHeld ?_; rotate_left 1; (· rfl); (· intro w' hSw; (try clear hHeld); go_simp; try with_reducible rfl))
    try simp only [jz]
    first | (refine rgn (i := 9) (atN rfl) (by kernel_rfl) (fun _ _ _ h => h) ?_ hHeld ?_; (· rfl)) | (refine qy 9 ?_ ?_ ?_ hHeld ?_; rotate_left 1; (· rfl); (· intro w' hSw; have cc := jA cc hSw; have dc := jA dc hSw; have cp := jA cp hSw; have dp := jA dp hSw; have co := jA co hSw; have do_ := jA do_ hSw; (try clear hHeld); go_simp; try with_reducible rfl))
    try simp only [jz]
    first | (refine rgn (i := 10) (atN rfl) (by kernel_rfl) (fun _ _ _ h => h) ?_ hHeld ?_; (· rfl)) | (refine jr 10 ?_ fun K hK => ?_; (· rfl); (try clear hb); go_simp; (refine (EI.out _ hHeld).mono ?_; rintro e w1 ⟨rfl, hb⟩); go_wp2_with fail; refine hK.out _ _ ?_ (fun hHeld => ?_); (· exact hHeld.trans (hb.mono hHeld.size)); clear hK K)
    try simp only [jz]
    refine qy 11 ?_ ?_ ?_ hHeld ?_; rotate_left 1; (· rfl); (· intro w' hSw; (try clear hHeld); go_simp; try with_reducible rfl)
    try simp only [jz]
    refine qy 12 ?_ ?_ ?_ hHeld ?_; rotate_left 1; (· rfl); (· intro w' hSw; (try clear hHeld); go_simp; try with_reducible rfl)
    try simp only [jz]
    first | (refine rgn (i := 13) (atN rfl) (by kernel_rfl) (fun _ _ _ h => h) ?_ hHeld ?_; (· rfl)) | (refine qy 13 ?_ ?_ ?_ hHeld ?_; rotate_left 1; (· rfl); (· intro w' hSw; (try clear hHeld); go_simp; try with_reducible rfl))
    try simp only [jz]
    first | (refine rgn (i := 14) (atN rfl) (by kernel_rfl) (fun _ _ _ h => h) ?_ hHeld ?_; (· rfl)) | (refine qy 14 ?_ ?_ ?_ hHeld ?_; rotate_left 1; (· rfl); (· intro w' hSw; have cc := jA cc hSw; have dc := jA dc hSw; have cp := jA cp hSw; have dp := jA dp hSw; have co := jA co hSw; have do_ := jA do_ hSw; (try clear hHeld); go_simp; try with_reducible rfl))
    try simp only [jz]
    first | (refine rgn (i := 15) (atN rfl) (by kernel_rfl) (fun _ _ _ h => h) ?_ hHeld ?_; (· rfl)) | (refine qy 15 ?_ ?_ ?_ hHeld ?_; rotate_left 1; (· rfl); (· intro w' hSw; (try clear hHeld); go_simp; try with_reducible rfl))
    try simp only [jz]
    first | (refine rgn (i := 16) (atN rfl) (by kernel_rfl) (fun _ _ _ h => h) ?_ hHeld ?_; (· rfl)) | (refine qy 16 ?_ ?_ ?_ hHeld ?_; rotate_left 1; (· rfl); (· intro w' hSw; have cc := jA cc hSw; have dc := jA dc hSw; have cp := jA cp hSw; have dp := jA dp hSw; have co := jA co hSw; have do_ := jA do_ hSw; (try clear hHeld); go_simp; try with_reducible rfl))
    try simp only [jz]
    first | (refine rgn (i := 17) (atN rfl) (by kernel_rfl) (fun _ _ _ h => h) ?_ hHeld ?_; (· rfl)) | (refine jr 17 ?_ fun K hK => ?_; (· rfl); (try clear hb); go_simp; (refine (ES.out _ hHeld).mono ?_; rintro e w1 ⟨rfl, hb⟩); go_wp2_with fail; refine hK.out _ _ ?_ (fun hHeld => ?_); (· exact hHeld.trans (hb.mono hHeld.size)); clear hK K)
    try simp only [jz]
    refine qy 18 ?_ ?_ ?_ hHeld ?_; rotate_left 1; (· rfl); (· intro w' hSw; (try clear hHeld); go_simp; try with_reducible rfl)
    try simp only [jz]
    refine qy 19 ?_ ?_ ?_ hHeld ?_; rotate_left 1; (· rfl); (· intro w' hSw; (try clear hHeld); go_simp; try with_reducible rfl)
    try simp only [jz]
    first | (refine rgn (i := 20) (atN rfl) (by kernel_rfl) (fun _ _ _ h => h) ?_ hHeld ?_; (· rfl)) | (refine qy 20 ?_ ?_ ?_ hHeld ?_; rotate_left 1; (· rfl); (· intro w' hSw; (try clear hHeld); go_simp; try with_reducible rfl))
    try simp only [jz]
    first | (refine rgn (i := 21) (atN rfl) (by kernel_rfl) (fun _ _ _ h => h) ?_ hHeld ?_; (· rfl)) | (refine qy 21 ?_ ?_ ?_ hHeld ?_; rotate_left 1; (· rfl); (· intro w' hSw; have cc := jA cc hSw; have dc := jA dc hSw; have cp := jA cp hSw; have dp := jA dp hSw; have co := jA co hSw; have do_ := jA do_ hSw; (try clear hHeld); go_simp; try with_reducible rfl))
    try simp only [jz]
    first | (refine rgn (i := 22) (atN rfl) (by kernel_rfl) (fun _ _ _ h => h) ?_ hHeld ?_; (· rfl)) | (refine qy 22 ?_ ?_ ?_ hHeld ?_; rotate_left 1; (· rfl); (· intro w' hSw; (try clear hHeld); go_simp; try with_reducible rfl))
    try simp only [jz]
    first | (refine rgn (i := 23) (atN rfl) (by kernel_rfl) (fun _ _ _ h => h) ?_ hHeld ?_; (· rfl)) | (refine qy 23 ?_ ?_ ?_ hHeld ?_; rotate_left 1; (· rfl); (· intro w' hSw; have cc := jA cc hSw; have dc := jA dc hSw; have cp := jA cp hSw; have dp := jA dp hSw; have co := jA co hSw; have do_ := jA do_ hSw; (try clear hHeld); go_simp; try with_reducible rfl))
    try simp only [jz]
    first | (refine rgn (i := 24) (atN rfl) (by kernel_rfl) (fun _ _ _ h => h) ?_ hHeld ?_; (· rfl)) | (refine jr 24 ?_ fun K hK => ?_; (· rfl); (try clear hb); go_simp; (refine (EO.out _ hHeld).mono ?_; rintro e w1 ⟨rfl, hb⟩); go_wp2_with fail; refine hK.out _ _ ?_ (fun hHeld => ?_); (· exact hHeld.trans (hb.mono hHeld.size)); clear hK K)
    try simp only [jz]
    refine qy 25 ?_ ?_ ?_ hHeld ?_; rotate_left 1; (· rfl); (· intro w' hSw; (try clear hHeld); go_simp; try with_reducible rfl)
    try simp only [jz]
    refine qy 26 ?_ ?_ ?_ hHeld ?_; rotate_left 1; (· rfl); (· intro w' hSw; (try clear hHeld); go_simp; try with_reducible rfl)
    try simp only [jz]
    refine wpAnyH_done (by kernel_rfl) ?_ _
    go_wp2_with fail
    go_ret
    exact ⟨jL (by rw [R.out]; rfl), jC HB.out hHeld⟩
end Go.Proofs.YtkoidahgbbabiaaGreat
