/- Texts of one proof, one behind another. -/
import Derived.Test.YtohkbcdnlmjcjaaDoorWr22
import Derived.Test.YtohkbcdnlmjcjaaDoorWr6
import Derived.Test.YtohkbcdnlmjcjaaDoorWr5
import Derived.Test.YtohkbcdnlmjcjaaDoorWr20
/-
  THE REFERENCE OF ATTRIBUTES: what says the same is the same.
-/
namespace Go.Proofs.YtohkbcdnlmjcjaaDoor
open Go.RowKit

set_option maxRecDepth 100000 in
theorem pair_at {α : Type} {w : World} {R : α → List Value → Prop} {s : Option Addr} {n c : Nat} {xs : List α} (h : SlAt w 2 R (.slice s n c) xs) {i : Nat} {x : α} (hx : xs[i]? = some x) : ∃ g o c0 c1, s = some ⟨g, o, none⟩ ∧ R x [c0, c1] ∧ w.cell? ⟨g, o + i * 2, none⟩ = some c0 ∧ w.cell? ⟨g, o + i * 2 + 1, none⟩ = some c1 := by
  obtain ⟨s', c', e, h1, h2, h3⟩ := h
  injection e with e _ _
  subst e
  have hi := (List.getElem?_eq_some_iff.1 hx).1
  obtain ⟨b, off, rfl, h4⟩ := h3 (by omega)
  obtain ⟨cs, l, hR, hc⟩ := h4 i x hx
  match cs, l with
  | [c0, c1], _ => exact ⟨b, off, c0, c1, rfl, hR, hc 0 c0 rfl, hc 1 c1 rfl⟩
set_option maxHeartbeats 6400000 in
set_option maxRecDepth 100000 in
theorem r_Same6 (a : At) (vp vc vo up uc uo : Value) (w : World) (hA : AtL w a vp vc vo) (hB : AtL w a up uc uo) : Calls Tryd.prog 21 #[.agg (ratL a vp vc vo).toArray, .agg (ratL a up uc uo).toArray] w fun e w' => e = .returned (.bool true) ∧ Below w.heap.size w w' := by
  have HA := Lib.hid hA
  have HB := Lib.hid hB
  obtain ⟨⟨sp, cp, rfl, h1, h2, -⟩, ⟨sc, cc, rfl, -⟩, ⟨so, co, rfl, h3, h4, -⟩⟩ := hA
  obtain ⟨⟨tp, dp, rfl, -⟩, ⟨tc, dc, rfl, -⟩, ⟨to_, do_, rfl, -⟩⟩ := hB
  have pl : a.path.length ≤ 9223372036854775807 := Nat.le_trans h1 h2
  have ol : a.others.length ≤ 9223372036854775807 := Nat.le_trans h3 h4
  clear h1 h2 h3 h4
  show Calls Tryd.prog 21 #[.agg #[.int .i64 a.has, .int .i64 a.origin, .slice sp a.path.length cp, .int .i64 a.hop, .int .i64 a.med, .int .i64 a.loc, .int .i64 a.aggrAs, .int .i64 a.aggrId, .slice sc a.comms.length cc, .slice so a.others.length co], .agg #[.int .i64 a.has, .int .i64 a.origin, .slice tp a.path.length dp, .int .i64 a.hop, .int .i64 a.med, .int .i64 a.loc, .int .i64 a.aggrAs, .int .i64 a.aggrId, .slice tc a.comms.length dc, .slice to_ a.others.length do_]] w _
  go_enter Tryd.func21, Tryd.ntmps21
  go_upto_region 1 with (fail)
  obtain ⟨W0, hW0, qa, qb, hb0⟩ := boxTwo w #[.int .i64 a.has, .int .i64 a.origin, .slice sp a.path.length cp, .int .i64 a.hop, .int .i64 a.med, .int .i64 a.loc, .int .i64 a.aggrAs, .int .i64 a.aggrId, .slice sc a.comms.length cc, .slice so a.others.length co] 47 #[.int .i64 a.has, .int .i64 a.origin, .slice tp a.path.length dp, .int .i64 a.hop, .int .i64 a.med, .int .i64 a.loc, .int .i64 a.aggrAs, .int .i64 a.aggrId, .slice tc a.comms.length dc, .slice to_ a.others.length do_] 47
  rw [← hW0]
  clear hW0
  have QA0 := Lib.hid qa
  have QB0 := Lib.hid qb
  have B0 := Lib.hid hb0
  have LC := Lib.hid (r_list _ _ a.comms a.comms W0 (HA.out.2.1.below hb0) (HB.out.2.1.below hb0))
  rw [show decide (a.comms = a.comms) = true by simp] at LC
  obtain ⟨x0, x1, x2, x3, x4, x5, x6, x7, x8, x9⟩ := at10 qa
  obtain ⟨y0, y1, y2, y3, y4, y5, y6, y7, y8, y9⟩ := at10 qb
  clear qa qb hb0
  go_wp2_with fail
  refine LC.out.mono ?_
  rintro e w1 ⟨rfl, hb1⟩
  have QA := Lib.hid ((hb1.block _ (row_lt QA0.out)).trans QA0.out)
  have QB := Lib.hid ((hb1.block _ (row_lt QB0.out)).trans QB0.out)
  have B1 := Lib.hid (below_on B0.out hb1)
  clear x0 x1 x2 x3 x4 x5 x6 x7 x8 x9 y0 y1 y2 y3 y4 y5 y6 y7 y8 y9 LC QA0 QB0 B0 hb1
  have x2 : w1.cell? ⟨w.heap.size, 2, none⟩ = some (.slice sp a.path.length cp) := row_cell QA.out 2
  have x9 : w1.cell? ⟨w.heap.size, 9, none⟩ = some (.slice so a.others.length co) := row_cell QA.out 9
  have y2 : w1.cell? ⟨w.heap.size + 1, 2, none⟩ = some (.slice tp a.path.length dp) := row_cell QB.out 2
  have y9 : w1.cell? ⟨w.heap.size + 1, 9, none⟩ = some (.slice to_ a.others.length do_) := row_cell QB.out 9
  go_wp2_with fail
  clear x2 x9 y2 y9
  go_loopw [83] (fun t wr => ∃ i : Nat, i ≤ a.path.length ∧ t = .int .i64 i ∧ Hid (Below w1.heap.size w1 wr)) (fun t _ => a.path.length - (intOf t).toNat)
  case atStart => exact ⟨0, by omega, rfl, Lib.hid (Below.refl _ _)⟩
  case round =>
    obtain ⟨i, hi, rfl, BR⟩ := hrel
    have BW := Lib.hid (below_on B1.out BR.out)
    by_cases hlt : i < a.path.length
    · obtain ⟨sg, hsg⟩ : ∃ sg, a.path[i]? = some sg := ⟨_, List.getElem?_eq_getElem hlt⟩
      obtain ⟨g, o, c0, c1, rfl, ⟨u, hu, hin⟩, p0, p1⟩ := pair_at (HA.out.below BW.out).1 hsg
      obtain ⟨g', o', c0', c1', rfl, ⟨u', hu', hin'⟩, q0, q1⟩ := pair_at (HB.out.below BW.out).1 hsg
      injection hu with e1 e2; injection e2 with e2 _; subst e1; subst e2
      injection hu' with e1 e2; injection e2 with e2 _; subst e1; subst e2
      have LC := Lib.hid (fun W (h : Below wr.heap.size wr W) => r_list _ _ sg.2 sg.2 W (hin.below h) (hin'.below h))
      obtain ⟨su, cu, rfl, -⟩ := hin
      obtain ⟨tu, du, rfl, -⟩ := hin'
      rw [show decide (sg.2 = sg.2) = true by simp] at LC
      have x2 : wr.cell? ⟨w.heap.size, 2, none⟩ = some (.slice (some ⟨g, o, none⟩) a.path.length cp) := row_cell ((BR.out.block _ (row_lt QA.out)).trans QA.out) 2
      have y2 : wr.cell? ⟨w.heap.size + 1, 2, none⟩ = some (.slice (some ⟨g', o', none⟩) a.path.length dp) := row_cell ((BR.out.block _ (row_lt QB.out)).trans QB.out) 2
      generalize sg.1 = bo at p0 q0
      generalize sg.2.length = m at p1 q1 LC
      have i0 : (0 : Int) ≤ (i : Int) := by omega
      have i1 : (i : Int) < (a.path.length : Int) := by omega
      clear hsg hi BW
      go_upto_region 6 with (fail)
      refine wp_region_held_drew (S := fun w' => Below wr.heap.size wr w') (by kernel_rfl) ?_ (fun hHeld => ?_)
      · exact (Below.refl _ _).drew
      refine rgy (i := 0) (v := ?_) (atN rfl) (by kernel_rfl) (fun _ _ _ h => h) ?_ ?_ hHeld ?_; rotate_left 1; (· rfl); (· intro w' hSw; (try clear hHeld); go_simp; try with_reducible rfl)
      try simp only [Act.put, List.setIfInBounds_toArray, List.set_cons_zero, List.set_cons_succ]
      refine rgy (i := 1) (v := ?_) (atN rfl) (by kernel_rfl) (fun _ _ _ h => h) ?_ ?_ hHeld ?_; rotate_left 1; (· rfl); (· intro w' hSw; have x2 := cell_below x2 hSw; have y2 := cell_below y2 hSw; have p0 := cell_below p0 hSw; have p1 := cell_below p1 hSw; have q0 := cell_below q0 hSw; have q1 := cell_below q1 hSw; (try clear hHeld); go_simp; try with_reducible rfl)
      try simp only [Act.put, List.setIfInBounds_toArray, List.set_cons_zero, List.set_cons_succ]
      refine rgy (i := 2) (v := ?_) (atN rfl) (by kernel_rfl) (fun _ _ _ h => h) ?_ ?_ hHeld ?_; rotate_left 1; (· rfl); (· intro w' hSw; (try clear hHeld); go_simp; try with_reducible rfl)
      try simp only [Act.put, List.setIfInBounds_toArray, List.set_cons_zero, List.set_cons_succ]
      refine rgy (i := 3) (v := ?_) (atN rfl) (by kernel_rfl) (fun _ _ _ h => h) ?_ ?_ hHeld ?_; rotate_left 1; (· rfl); (· intro w' hSw; have x2 := cell_below x2 hSw; have y2 := cell_below y2 hSw; have p0 := cell_below p0 hSw; have p1 := cell_below p1 hSw; have q0 := cell_below q0 hSw; have q1 := cell_below q1 hSw; (try clear hHeld); go_simp; try with_reducible rfl)
      try simp only [Act.put, List.setIfInBounds_toArray, List.set_cons_zero, List.set_cons_succ]
      refine rgy (i := 4) (v := ?_) (atN rfl) (by kernel_rfl) (fun _ _ _ h => h) ?_ ?_ hHeld ?_; rotate_left 1; (· rfl); (· intro w' hSw; (try clear hHeld); go_simp; try with_reducible rfl)
      try simp only [Act.put, List.setIfInBounds_toArray, List.set_cons_zero, List.set_cons_succ]
      refine rgy (i := 5) (v := ?_) (atN rfl) (by kernel_rfl) (fun _ _ _ h => h) ?_ ?_ hHeld ?_; rotate_left 1; (· rfl); (· intro w' hSw; have x2 := cell_below x2 hSw; have y2 := cell_below y2 hSw; have p0 := cell_below p0 hSw; have p1 := cell_below p1 hSw; have q0 := cell_below q0 hSw; have q1 := cell_below q1 hSw; (try clear hHeld); go_simp; try with_reducible rfl)
      try simp only [Act.put, List.setIfInBounds_toArray, List.set_cons_zero, List.set_cons_succ]
      refine rgy (i := 6) (v := ?_) (atN rfl) (by kernel_rfl) (fun _ _ _ h => h) ?_ ?_ hHeld ?_; rotate_left 1; (· rfl); (· intro w' hSw; (try clear hHeld); go_simp; try with_reducible rfl)
      try simp only [Act.put, List.setIfInBounds_toArray, List.set_cons_zero, List.set_cons_succ]
      refine rgy (i := 7) (v := ?_) (atN rfl) (by kernel_rfl) (fun _ _ _ h => h) ?_ ?_ hHeld ?_; rotate_left 1; (· rfl); (· intro w' hSw; have x2 := cell_below x2 hSw; have y2 := cell_below y2 hSw; have p0 := cell_below p0 hSw; have p1 := cell_below p1 hSw; have q0 := cell_below q0 hSw; have q1 := cell_below q1 hSw; (try clear hHeld); go_simp; try with_reducible rfl)
      try simp only [Act.put, List.setIfInBounds_toArray, List.set_cons_zero, List.set_cons_succ]
      refine rgy (i := 8) (v := ?_) (atN rfl) (by kernel_rfl) (fun _ _ _ h => h) ?_ ?_ hHeld ?_; rotate_left 1; (· rfl); (· intro w' hSw; (try clear hHeld); go_simp; try with_reducible rfl)
      try simp only [Act.put, List.setIfInBounds_toArray, List.set_cons_zero, List.set_cons_succ]
      refine rgy (i := 9) (v := ?_) (atN rfl) (by kernel_rfl) (fun _ _ _ h => h) ?_ ?_ hHeld ?_; rotate_left 1; (· rfl); (· intro w' hSw; have x2 := cell_below x2 hSw; have y2 := cell_below y2 hSw; have p0 := cell_below p0 hSw; have p1 := cell_below p1 hSw; have q0 := cell_below q0 hSw; have q1 := cell_below q1 hSw; (try clear hHeld); go_simp; try with_reducible rfl)
      try simp only [Act.put, List.setIfInBounds_toArray, List.set_cons_zero, List.set_cons_succ]
      refine rgy (i := 10) (v := ?_) (atN rfl) (by kernel_rfl) (fun _ _ _ h => h) ?_ ?_ hHeld ?_; rotate_left 1; (· rfl); (· intro w' hSw; (try clear hHeld); go_simp; try with_reducible rfl)
      try simp only [Act.put, List.setIfInBounds_toArray, List.set_cons_zero, List.set_cons_succ]
      refine rgy (i := 11) (v := ?_) (atN rfl) (by kernel_rfl) (fun _ _ _ h => h) ?_ ?_ hHeld ?_; rotate_left 1; (· rfl); (· intro w' hSw; have x2 := cell_below x2 hSw; have y2 := cell_below y2 hSw; have p0 := cell_below p0 hSw; have p1 := cell_below p1 hSw; have q0 := cell_below q0 hSw; have q1 := cell_below q1 hSw; (try clear hHeld); go_simp; try with_reducible rfl)
      try simp only [Act.put, List.setIfInBounds_toArray, List.set_cons_zero, List.set_cons_succ]
      refine rgy (i := 12) (v := ?_) (atN rfl) (by kernel_rfl) (fun _ _ _ h => h) ?_ ?_ hHeld ?_; rotate_left 1; (· rfl); (· intro w' hSw; (try clear hHeld); go_simp; try with_reducible rfl)
      try simp only [Act.put, List.setIfInBounds_toArray, List.set_cons_zero, List.set_cons_succ]
      refine rgy (i := 13) (v := ?_) (atN rfl) (by kernel_rfl) (fun _ _ _ h => h) ?_ ?_ hHeld ?_; rotate_left 1; (· rfl); (· intro w' hSw; (try clear hHeld); go_simp; try with_reducible rfl)
      try simp only [Act.put, List.setIfInBounds_toArray, List.set_cons_zero, List.set_cons_succ]
      first | (refine rgn (i := 14) (atN rfl) (by kernel_rfl) (fun _ _ _ h => h) ?_ hHeld ?_; (· rfl)) | (refine rgy (i := 14) (v := ?_) (atN rfl) (by kernel_rfl) (fun _ _ _ h => h) ?_ ?_ hHeld ?_; rotate_left 1; (· rfl); (· intro w' hSw; (try clear hHeld); go_simp; try with_reducible rfl))
      try simp only [Act.put, List.setIfInBounds_toArray, List.set_cons_zero, List.set_cons_succ]
      first | (refine rgn (i := 15) (atN rfl) (by kernel_rfl) (fun _ _ _ h => h) ?_ hHeld ?_; (· rfl)) | (refine rgy (i := 15) (v := ?_) (atN rfl) (by kernel_rfl) (fun _ _ _ h => h) ?_ ?_ hHeld ?_; rotate_left 1; (· rfl); (· intro w' hSw; have x2 := cell_below x2 hSw; have y2 := cell_below y2 hSw; have p0 := cell_below p0 hSw; have p1 := cell_below p1 hSw; have q0 := cell_below q0 hSw; have q1 := cell_below q1 hSw; (try clear hHeld); go_simp; try with_reducible rfl))
      try simp only [Act.put, List.setIfInBounds_toArray, List.set_cons_zero, List.set_cons_succ]
      first | (refine rgn (i := 16) (atN rfl) (by kernel_rfl) (fun _ _ _ h => h) ?_ hHeld ?_; (· rfl)) | (refine rgy (i := 16) (v := ?_) (atN rfl) (by kernel_rfl) (fun _ _ _ h => h) ?_ ?_ hHeld ?_; rotate_left 1; (· rfl); (· intro w' hSw; (try clear hHeld); go_simp; try with_reducible rfl))
      try simp only [Act.put, List.setIfInBounds_toArray, List.set_cons_zero, List.set_cons_succ]
      first | (refine rgn (i := 17) (atN rfl) (by kernel_rfl) (fun _ _ _ h => h) ?_ hHeld ?_; (· rfl)) | (refine rgy (i := 17) (v := ?_) (atN rfl) (by kernel_rfl) (fun _ _ _ h => h) ?_ ?_ hHeld ?_; rotate_left 1; (· rfl); (· intro w' hSw; have x2 := cell_below x2 hSw; have y2 := cell_below y2 hSw; have p0 := cell_below p0 hSw; have p1 := cell_below p1 hSw; have q0 := cell_below q0 hSw; have q1 := cell_below q1 hSw; (try clear hHeld); go_simp; try with_reducible rfl))
      try simp only [Act.put, List.setIfInBounds_toArray, List.set_cons_zero, List.set_cons_succ]
      first | (refine rgn (i := 18) (atN rfl) (by kernel_rfl) (fun _ _ _ h => h) ?_ hHeld ?_; (· rfl)) | (refine rgy (i := 18) (v := ?_) (atN rfl) (by kernel_rfl) (fun _ _ _ h => h) ?_ ?_ hHeld ?_; rotate_left 1; (· rfl); (· intro w' hSw; (try clear hHeld); go_simp; try with_reducible rfl))
      try simp only [Act.put, List.setIfInBounds_toArray, List.set_cons_zero, List.set_cons_succ]
      first | (refine rgn (i := 19) (atN rfl) (by kernel_rfl) (fun _ _ _ h => h) ?_ hHeld ?_; (· rfl)) | (refine rgy (i := 19) (v := ?_) (atN rfl) (by kernel_rfl) (fun _ _ _ h => h) ?_ ?_ hHeld ?_; rotate_left 1; (· rfl); (· intro w' hSw; have x2 := cell_below x2 hSw; have y2 := cell_below y2 hSw; have p0 := cell_below p0 hSw; have p1 := cell_below p1 hSw; have q0 := cell_below q0 hSw; have q1 := cell_below q1 hSw; (try clear hHeld); go_simp; try with_reducible rfl))
      try simp only [Act.put, List.setIfInBounds_toArray, List.set_cons_zero, List.set_cons_succ]
      first | (refine rgn (i := 20) (atN rfl) (by kernel_rfl) (fun _ _ _ h => h) ?_ hHeld ?_; (· rfl)) | (refine rgy (i := 20) (v := ?_) (atN rfl) (by kernel_rfl) (fun _ _ _ h => h) ?_ ?_ hHeld ?_; rotate_left 1; (· rfl); (· intro w' hSw; (try clear hHeld); go_simp; try with_reducible rfl))
      try simp only [Act.put, List.setIfInBounds_toArray, List.set_cons_zero, List.set_cons_succ]
      first | (refine rgn (i := 21) (atN rfl) (by kernel_rfl) (fun _ _ _ h => h) ?_ hHeld ?_; (· rfl)) | (refine rgy (i := 21) (v := ?_) (atN rfl) (by kernel_rfl) (fun _ _ _ h => h) ?_ ?_ hHeld ?_; rotate_left 1; (· rfl); (· intro w' hSw; have x2 := cell_below x2 hSw; have y2 := cell_below y2 hSw; have p0 := cell_below p0 hSw; have p1 := cell_below p1 hSw; have q0 := cell_below q0 hSw; have q1 := cell_below q1 hSw; (try clear hHeld); go_simp; try with_reducible rfl))
      try simp only [Act.put, List.setIfInBounds_toArray, List.set_cons_zero, List.set_cons_succ]
      first | (refine rgn (i := 22) (atN rfl) (by kernel_rfl) (fun _ _ _ h => h) ?_ hHeld ?_; (· rfl)) | (refine rgy (i := 22) (v := ?_) (atN rfl) (by kernel_rfl) (fun _ _ _ h => h) ?_ ?_ hHeld ?_; rotate_left 1; (· rfl); (· intro w' hSw; (try clear hHeld); go_simp; try with_reducible rfl))
      try simp only [Act.put, List.setIfInBounds_toArray, List.set_cons_zero, List.set_cons_succ]
      first | (refine rgn (i := 23) (atN rfl) (by kernel_rfl) (fun _ _ _ h => h) ?_ hHeld ?_; (· rfl)) | (refine rgy (i := 23) (v := ?_) (atN rfl) (by kernel_rfl) (fun _ _ _ h => h) ?_ ?_ hHeld ?_; rotate_left 1; (· rfl); (· intro w' hSw; have x2 := cell_below x2 hSw; have y2 := cell_below y2 hSw; have p0 := cell_below p0 hSw; have p1 := cell_below p1 hSw; have q0 := cell_below q0 hSw; have q1 := cell_below q1 hSw; (try clear hHeld); go_simp; try with_reducible rfl))
      try simp only [Act.put, List.setIfInBounds_toArray, List.set_cons_zero, List.set_cons_succ]
      first | (refine rgn (i := 24) (atN rfl) (by kernel_rfl) (fun _ _ _ h => h) ?_ hHeld ?_; (· rfl)) | (refine rgy (i := 24) (v := ?_) (atN rfl) (by kernel_rfl) (fun _ _ _ h => h) ?_ ?_ hHeld ?_; rotate_left 1; (· rfl); (· intro w' hSw; (try clear hHeld); go_simp; try with_reducible rfl))
      try simp only [Act.put, List.setIfInBounds_toArray, List.set_cons_zero, List.set_cons_succ]
      first | (refine rgn (i := 25) (atN rfl) (by kernel_rfl) (fun _ _ _ h => h) ?_ hHeld ?_; (· rfl)) | (refine rgy (i := 25) (v := ?_) (atN rfl) (by kernel_rfl) (fun _ _ _ h => h) ?_ ?_ hHeld ?_; rotate_left 1; (· rfl); (· intro w' hSw; have x2 := cell_below x2 hSw; have y2 := cell_below y2 hSw; have p0 := cell_below p0 hSw; have p1 := cell_below p1 hSw; have q0 := cell_below q0 hSw; have q1 := cell_below q1 hSw; (try clear hHeld); go_simp; try with_reducible rfl))
      try simp only [Act.put, List.setIfInBounds_toArray, List.set_cons_zero, List.set_cons_succ]
      first | (refine rgn (i := 26) (atN rfl) (by kernel_rfl) (fun _ _ _ h => h) ?_ hHeld ?_; (· rfl)) | (refine rg_call (i := 26) (atN rfl) (by kernel_rfl) ?_ (fun K hK => ?_); (· rfl); (try clear hb); go_simp; (refine (LC.out _ hHeld).mono ?_; rintro e w1 ⟨rfl, hb⟩); go_wp2_with fail; refine hK.out _ _ ?_ (fun hHeld => ?_); (· exact hHeld.trans (hb.mono hHeld.size)); clear hK K)
      try simp only [Act.put, List.setIfInBounds_toArray, List.set_cons_zero, List.set_cons_succ]
      first | (refine rgn (i := 27) (atN rfl) (by kernel_rfl) (fun _ _ _ h => h) ?_ hHeld ?_; (· rfl)) | (refine rgy (i := 27) (v := ?_) (atN rfl) (by kernel_rfl) (fun _ _ _ h => h) ?_ ?_ hHeld ?_; rotate_left 1; (· rfl); (· intro w' hSw; (try clear hHeld); go_simp; try with_reducible rfl))
      try simp only [Act.put, List.setIfInBounds_toArray, List.set_cons_zero, List.set_cons_succ]
      refine rgy (i := 28) (v := ?_) (atN rfl) (by kernel_rfl) (fun _ _ _ h => h) ?_ ?_ hHeld ?_; rotate_left 1; (· rfl); (· intro w' hSw; (try clear hHeld); go_simp; try with_reducible rfl)
      try simp only [Act.put, List.setIfInBounds_toArray, List.set_cons_zero, List.set_cons_succ]
      refine wpAnyH_done (by kernel_rfl) ?_ _
      have BN := Lib.hid (below_on BR.out hHeld)
      clear x2 y2 p0 p1 q0 q1 hHeld LC BR
      go_wp2_with fail
      exact ⟨⟨i + 1, by omega, by go_num, BN⟩, by simp [intOf]; omega⟩
    · obtain rfl : i = a.path.length := by omega
      clear hi hlt
      have x9 : wr.cell? ⟨w.heap.size, 9, none⟩ = some (.slice so a.others.length co) := row_cell ((BR.out.block _ (row_lt QA.out)).trans QA.out) 9
      have y9 : wr.cell? ⟨w.heap.size + 1, 9, none⟩ = some (.slice to_ a.others.length do_) := row_cell ((BR.out.block _ (row_lt QB.out)).trans QB.out) 9
      clear BW
      go_wp2_with fail
      clear x9 y9
      go_loopw [119] (fun t wr => ∃ i : Nat, i ≤ a.others.length ∧ t = .int .i64 i ∧ Hid (Below w1.heap.size w1 wr)) (fun t _ => a.others.length - (intOf t).toNat)
      case atStart => exact ⟨0, by omega, rfl, BR⟩
      case round =>
        clear BR
        obtain ⟨i, hi, rfl, BR⟩ := hrel
        have BW := Lib.hid (below_on B1.out BR.out)
        by_cases hlt : i < a.others.length
        · obtain ⟨sg, hsg⟩ : ∃ sg, a.others[i]? = some sg := ⟨_, List.getElem?_eq_getElem hlt⟩
          obtain ⟨g, o, c0, c1, rfl, ⟨u, hu, -, hin⟩, p0, p1⟩ := pair_at (HA.out.below BW.out).2.2 hsg
          obtain ⟨g', o', c0', c1', rfl, ⟨u', hu', -, hin'⟩, q0, q1⟩ := pair_at (HB.out.below BW.out).2.2 hsg
          injection hu with e1 e2; injection e2 with e2 _; subst e1; subst e2
          injection hu' with e1 e2; injection e2 with e2 _; subst e1; subst e2
          have V1 := Lib.hid (fun W (h : Below wr.heap.size wr W) => conv_str (BytesAt.below hin h))
          have V2 := Lib.hid (fun W (h : Below wr.heap.size wr W) => conv_str (BytesAt.below hin' h))
          obtain ⟨su, cu, rfl, -⟩ := hin
          obtain ⟨tu, du, rfl, -⟩ := hin'
          have x2 : wr.cell? ⟨w.heap.size, 9, none⟩ = some (.slice (some ⟨g, o, none⟩) a.others.length co) := row_cell ((BR.out.block _ (row_lt QA.out)).trans QA.out) 9
          have y2 : wr.cell? ⟨w.heap.size + 1, 9, none⟩ = some (.slice (some ⟨g', o', none⟩) a.others.length do_) := row_cell ((BR.out.block _ (row_lt QB.out)).trans QB.out) 9
          generalize sg.1 = ty at p0 q0
          generalize strB sg.2 = st at V1 V2
          generalize sg.2.length = m at p1 q1 V1 V2
          have i0 : (0 : Int) ≤ (i : Int) := by omega
          have i1 : (i : Int) < (a.others.length : Int) := by omega
          clear hsg hi BW
          go_upto_region 12 with (fail)
          refine wp_region_held_drew (S := fun w' => Below wr.heap.size wr w') (by kernel_rfl) ?_ (fun hHeld => ?_)
          · exact (Below.refl _ _).drew
          refine rgy (i := 0) (v := ?_) (atN rfl) (by kernel_rfl) (fun _ _ _ h => h) ?_ ?_ hHeld ?_; rotate_left 1; (· rfl); (· intro w' hSw; (try clear hHeld); go_simp; try with_reducible rfl)
          try simp only [Act.put, List.setIfInBounds_toArray, List.set_cons_zero, List.set_cons_succ]
          refine rgy (i := 1) (v := ?_) (atN rfl) (by kernel_rfl) (fun _ _ _ h => h) ?_ ?_ hHeld ?_; rotate_left 1; (· rfl); (· intro w' hSw; have x2 := cell_below x2 hSw; have y2 := cell_below y2 hSw; have p0 := cell_below p0 hSw; have p1 := cell_below p1 hSw; have q0 := cell_below q0 hSw; have q1 := cell_below q1 hSw; (try clear hHeld); go_simp; try with_reducible rfl)
          try simp only [Act.put, List.setIfInBounds_toArray, List.set_cons_zero, List.set_cons_succ]
          refine rgy (i := 2) (v := ?_) (atN rfl) (by kernel_rfl) (fun _ _ _ h => h) ?_ ?_ hHeld ?_; rotate_left 1; (· rfl); (· intro w' hSw; (try clear hHeld); go_simp; try with_reducible rfl)
          try simp only [Act.put, List.setIfInBounds_toArray, List.set_cons_zero, List.set_cons_succ]
          refine rgy (i := 3) (v := ?_) (atN rfl) (by kernel_rfl) (fun _ _ _ h => h) ?_ ?_ hHeld ?_; rotate_left 1; (· rfl); (· intro w' hSw; have x2 := cell_below x2 hSw; have y2 := cell_below y2 hSw; have p0 := cell_below p0 hSw; have p1 := cell_below p1 hSw; have q0 := cell_below q0 hSw; have q1 := cell_below q1 hSw; (try clear hHeld); go_simp; try with_reducible rfl)
          try simp only [Act.put, List.setIfInBounds_toArray, List.set_cons_zero, List.set_cons_succ]
          refine rgy (i := 4) (v := ?_) (atN rfl) (by kernel_rfl) (fun _ _ _ h => h) ?_ ?_ hHeld ?_; rotate_left 1; (· rfl); (· intro w' hSw; (try clear hHeld); go_simp; try with_reducible rfl)
          try simp only [Act.put, List.setIfInBounds_toArray, List.set_cons_zero, List.set_cons_succ]
          refine rgy (i := 5) (v := ?_) (atN rfl) (by kernel_rfl) (fun _ _ _ h => h) ?_ ?_ hHeld ?_; rotate_left 1; (· rfl); (· intro w' hSw; have x2 := cell_below x2 hSw; have y2 := cell_below y2 hSw; have p0 := cell_below p0 hSw; have p1 := cell_below p1 hSw; have q0 := cell_below q0 hSw; have q1 := cell_below q1 hSw; (try clear hHeld); go_simp; try with_reducible rfl)
          try simp only [Act.put, List.setIfInBounds_toArray, List.set_cons_zero, List.set_cons_succ]
          refine rgy (i := 6) (v := ?_) (atN rfl) (by kernel_rfl) (fun _ _ _ h => h) ?_ ?_ hHeld ?_; rotate_left 1; (· rfl); (· intro w' hSw; (try clear hHeld); go_simp; try with_reducible rfl)
          try simp only [Act.put, List.setIfInBounds_toArray, List.set_cons_zero, List.set_cons_succ]
          refine rgy (i := 7) (v := ?_) (atN rfl) (by kernel_rfl) (fun _ _ _ h => h) ?_ ?_ hHeld ?_; rotate_left 1; (· rfl); (· intro w' hSw; have x2 := cell_below x2 hSw; have y2 := cell_below y2 hSw; have p0 := cell_below p0 hSw; have p1 := cell_below p1 hSw; have q0 := cell_below q0 hSw; have q1 := cell_below q1 hSw; (try clear hHeld); go_simp; try with_reducible rfl)
          try simp only [Act.put, List.setIfInBounds_toArray, List.set_cons_zero, List.set_cons_succ]
          refine rgy (i := 8) (v := ?_) (atN rfl) (by kernel_rfl) (fun _ _ _ h => h) ?_ ?_ hHeld ?_; rotate_left 1; (· rfl); (· intro w' hSw; (try clear hHeld); go_simp; try with_reducible rfl)
          try simp only [Act.put, List.setIfInBounds_toArray, List.set_cons_zero, List.set_cons_succ]
          refine rgy (i := 9) (v := ?_) (atN rfl) (by kernel_rfl) (fun _ _ _ h => h) ?_ ?_ hHeld ?_; rotate_left 1; (· rfl); (· intro w' hSw; have x2 := cell_below x2 hSw; have y2 := cell_below y2 hSw; have p0 := cell_below p0 hSw; have p1 := cell_below p1 hSw; have q0 := cell_below q0 hSw; have q1 := cell_below q1 hSw; (try clear hHeld); go_simp; try with_reducible rfl)
          try simp only [Act.put, List.setIfInBounds_toArray, List.set_cons_zero, List.set_cons_succ]
          refine rgy (i := 10) (v := ?_) (atN rfl) (by kernel_rfl) (fun _ _ _ h => h) ?_ ?_ hHeld ?_; rotate_left 1; (· rfl); (· intro w' hSw; (try clear hHeld); go_simp; try with_reducible rfl)
          try simp only [Act.put, List.setIfInBounds_toArray, List.set_cons_zero, List.set_cons_succ]
          refine rgy (i := 11) (v := ?_) (atN rfl) (by kernel_rfl) (fun _ _ _ h => h) ?_ ?_ hHeld ?_; rotate_left 1; (· rfl); (· intro w' hSw; have x2 := cell_below x2 hSw; have y2 := cell_below y2 hSw; have p0 := cell_below p0 hSw; have p1 := cell_below p1 hSw; have q0 := cell_below q0 hSw; have q1 := cell_below q1 hSw; (try clear hHeld); go_simp; try with_reducible rfl)
          try simp only [Act.put, List.setIfInBounds_toArray, List.set_cons_zero, List.set_cons_succ]
          refine rgy (i := 12) (v := ?_) (atN rfl) (by kernel_rfl) (fun _ _ _ h => h) ?_ ?_ hHeld ?_; rotate_left 1; (· rfl); (· intro w' hSw; (try clear hHeld); go_simp; try with_reducible rfl)
          try simp only [Act.put, List.setIfInBounds_toArray, List.set_cons_zero, List.set_cons_succ]
          refine rgy (i := 13) (v := ?_) (atN rfl) (by kernel_rfl) (fun _ _ _ h => h) ?_ ?_ hHeld ?_; rotate_left 1; (· rfl); (· intro w' hSw; (try clear hHeld); go_simp; try with_reducible rfl)
          try simp only [Act.put, List.setIfInBounds_toArray, List.set_cons_zero, List.set_cons_succ]
          first | (refine rgn (i := 14) (atN rfl) (by kernel_rfl) (fun _ _ _ h => h) ?_ hHeld ?_; (· rfl)) | (refine rgy (i := 14) (v := ?_) (atN rfl) (by kernel_rfl) (fun _ _ _ h => h) ?_ ?_ hHeld ?_; rotate_left 1; (· rfl); (· intro w' hSw; (try clear hHeld); go_simp; try with_reducible rfl))
          try simp only [Act.put, List.setIfInBounds_toArray, List.set_cons_zero, List.set_cons_succ]
          first | (refine rgn (i := 15) (atN rfl) (by kernel_rfl) (fun _ _ _ h => h) ?_ hHeld ?_; (· rfl)) | (refine rgy (i := 15) (v := ?_) (atN rfl) (by kernel_rfl) (fun _ _ _ h => h) ?_ ?_ hHeld ?_; rotate_left 1; (· rfl); (· intro w' hSw; have x2 := cell_below x2 hSw; have y2 := cell_below y2 hSw; have p0 := cell_below p0 hSw; have p1 := cell_below p1 hSw; have q0 := cell_below q0 hSw; have q1 := cell_below q1 hSw; (try clear hHeld); go_simp; try with_reducible rfl))
          try simp only [Act.put, List.setIfInBounds_toArray, List.set_cons_zero, List.set_cons_succ]
          first | (refine rgn (i := 16) (atN rfl) (by kernel_rfl) (fun _ _ _ h => h) ?_ hHeld ?_; (· rfl)) | (refine rgy (i := 16) (v := ?_) (atN rfl) (by kernel_rfl) (fun _ _ _ h => h) ?_ ?_ hHeld ?_; rotate_left 1; (· rfl); (· intro w' hSw; (try clear hHeld); go_simp; try with_reducible rfl))
          try simp only [Act.put, List.setIfInBounds_toArray, List.set_cons_zero, List.set_cons_succ]
          first | (refine rgn (i := 17) (atN rfl) (by kernel_rfl) (fun _ _ _ h => h) ?_ hHeld ?_; (· rfl)) | (refine rgy (i := 17) (v := ?_) (atN rfl) (by kernel_rfl) (fun _ _ _ h => h) ?_ ?_ hHeld ?_; rotate_left 1; (· rfl); (· intro w' hSw; have x2 := cell_below x2 hSw; have y2 := cell_below y2 hSw; have p0 := cell_below p0 hSw; have p1 := cell_below p1 hSw; have q0 := cell_below q0 hSw; have q1 := cell_below q1 hSw; (try clear hHeld); go_simp; try with_reducible rfl))
          try simp only [Act.put, List.setIfInBounds_toArray, List.set_cons_zero, List.set_cons_succ]
          first | (refine rgn (i := 18) (atN rfl) (by kernel_rfl) (fun _ _ _ h => h) ?_ hHeld ?_; (· rfl)) | (refine rgy (i := 18) (v := ?_) (atN rfl) (by kernel_rfl) (fun _ _ _ h => h) ?_ ?_ hHeld ?_; rotate_left 1; (· rfl); (· intro w' hSw; (try clear hHeld); go_simp; try with_reducible rfl))
          try simp only [Act.put, List.setIfInBounds_toArray, List.set_cons_zero, List.set_cons_succ]
          first | (refine rgn (i := 19) (atN rfl) (by kernel_rfl) (fun _ _ _ h => h) ?_ hHeld ?_; (· rfl)) | (refine rgy (i := 19) (v := ?_) (atN rfl) (by kernel_rfl) (fun _ _ _ h => h) ?_ ?_ hHeld ?_; rotate_left 1; (· rfl); (· intro w' hSw; have x2 := cell_below x2 hSw; have y2 := cell_below y2 hSw; have p0 := cell_below p0 hSw; have p1 := cell_below p1 hSw; have q0 := cell_below q0 hSw; have q1 := cell_below q1 hSw; (try clear hHeld); go_simp; try with_reducible rfl))
          try simp only [Act.put, List.setIfInBounds_toArray, List.set_cons_zero, List.set_cons_succ]
          first | (refine rgn (i := 20) (atN rfl) (by kernel_rfl) (fun _ _ _ h => h) ?_ hHeld ?_; (· rfl)) | (refine rgy (i := 20) (v := ?_) (atN rfl) (by kernel_rfl) (fun _ _ _ h => h) ?_ ?_ hHeld ?_; rotate_left 1; (· rfl); (· intro w' hSw; have v1 := V1.out _ hSw; go_simp; try with_reducible rfl))
          try simp only [Act.put, List.setIfInBounds_toArray, List.set_cons_zero, List.set_cons_succ]
          first | (refine rgn (i := 21) (atN rfl) (by kernel_rfl) (fun _ _ _ h => h) ?_ hHeld ?_; (· rfl)) | (refine rgy (i := 21) (v := ?_) (atN rfl) (by kernel_rfl) (fun _ _ _ h => h) ?_ ?_ hHeld ?_; rotate_left 1; (· rfl); (· intro w' hSw; (try clear hHeld); go_simp; try with_reducible rfl))
          try simp only [Act.put, List.setIfInBounds_toArray, List.set_cons_zero, List.set_cons_succ]
          first | (refine rgn (i := 22) (atN rfl) (by kernel_rfl) (fun _ _ _ h => h) ?_ hHeld ?_; (· rfl)) | (refine rgy (i := 22) (v := ?_) (atN rfl) (by kernel_rfl) (fun _ _ _ h => h) ?_ ?_ hHeld ?_; rotate_left 1; (· rfl); (· intro w' hSw; have x2 := cell_below x2 hSw; have y2 := cell_below y2 hSw; have p0 := cell_below p0 hSw; have p1 := cell_below p1 hSw; have q0 := cell_below q0 hSw; have q1 := cell_below q1 hSw; (try clear hHeld); go_simp; try with_reducible rfl))
          try simp only [Act.put, List.setIfInBounds_toArray, List.set_cons_zero, List.set_cons_succ]
          first | (refine rgn (i := 23) (atN rfl) (by kernel_rfl) (fun _ _ _ h => h) ?_ hHeld ?_; (· rfl)) | (refine rgy (i := 23) (v := ?_) (atN rfl) (by kernel_rfl) (fun _ _ _ h => h) ?_ ?_ hHeld ?_; rotate_left 1; (· rfl); (· intro w' hSw; (try clear hHeld); go_simp; try with_reducible rfl))
          try simp only [Act.put, List.setIfInBounds_toArray, List.set_cons_zero, List.set_cons_succ]
          first | (refine rgn (i := 24) (atN rfl) (by kernel_rfl) (fun _ _ _ h => h) ?_ hHeld ?_; (· rfl)) | (refine rgy (i := 24) (v := ?_) (atN rfl) (by kernel_rfl) (fun _ _ _ h => h) ?_ ?_ hHeld ?_; rotate_left 1; (· rfl); (· intro w' hSw; have x2 := cell_below x2 hSw; have y2 := cell_below y2 hSw; have p0 := cell_below p0 hSw; have p1 := cell_below p1 hSw; have q0 := cell_below q0 hSw; have q1 := cell_below q1 hSw; (try clear hHeld); go_simp; try with_reducible rfl))
          try simp only [Act.put, List.setIfInBounds_toArray, List.set_cons_zero, List.set_cons_succ]
          first | (refine rgn (i := 25) (atN rfl) (by kernel_rfl) (fun _ _ _ h => h) ?_ hHeld ?_; (· rfl)) | (refine rgy (i := 25) (v := ?_) (atN rfl) (by kernel_rfl) (fun _ _ _ h => h) ?_ ?_ hHeld ?_; rotate_left 1; (· rfl); (· intro w' hSw; (try clear hHeld); go_simp; try with_reducible rfl))
          try simp only [Act.put, List.setIfInBounds_toArray, List.set_cons_zero, List.set_cons_succ]
          first | (refine rgn (i := 26) (atN rfl) (by kernel_rfl) (fun _ _ _ h => h) ?_ hHeld ?_; (· rfl)) | (refine rgy (i := 26) (v := ?_) (atN rfl) (by kernel_rfl) (fun _ _ _ h => h) ?_ ?_ hHeld ?_; rotate_left 1; (· rfl); (· intro w' hSw; have x2 := cell_below x2 hSw; have y2 := cell_below y2 hSw; have p0 := cell_below p0 hSw; have p1 := cell_below p1 hSw; have q0 := cell_below q0 hSw; have q1 := cell_below q1 hSw; (try clear hHeld); go_simp; try with_reducible rfl))
          try simp only [Act.put, List.setIfInBounds_toArray, List.set_cons_zero, List.set_cons_succ]
          first | (refine rgn (i := 27) (atN rfl) (by kernel_rfl) (fun _ _ _ h => h) ?_ hHeld ?_; (· rfl)) | (refine rgy (i := 27) (v := ?_) (atN rfl) (by kernel_rfl) (fun _ _ _ h => h) ?_ ?_ hHeld ?_; rotate_left 1; (· rfl); (· intro w' hSw; have v2 := V2.out _ hSw; go_simp; try with_reducible rfl))
          try simp only [Act.put, List.setIfInBounds_toArray, List.set_cons_zero, List.set_cons_succ]
          first | (refine rgn (i := 28) (atN rfl) (by kernel_rfl) (fun _ _ _ h => h) ?_ hHeld ?_; (· rfl)) | (refine rgy (i := 28) (v := ?_) (atN rfl) (by kernel_rfl) (fun _ _ _ h => h) ?_ ?_ hHeld ?_; rotate_left 1; (· rfl); (· intro w' hSw; (try clear hHeld); go_simp; try with_reducible rfl))
          try simp only [Act.put, List.setIfInBounds_toArray, List.set_cons_zero, List.set_cons_succ]
          refine rgy (i := 29) (v := ?_) (atN rfl) (by kernel_rfl) (fun _ _ _ h => h) ?_ ?_ hHeld ?_; rotate_left 1; (· rfl); (· intro w' hSw; (try clear hHeld); go_simp; try with_reducible rfl)
          try simp only [Act.put, List.setIfInBounds_toArray, List.set_cons_zero, List.set_cons_succ]
          refine wpAnyH_done (by kernel_rfl) ?_ _
          have BN := Lib.hid (below_on BR.out hHeld)
          clear x2 y2 p0 p1 q0 q1 hHeld V1 V2 BR
          go_wp2_with fail
          exact ⟨⟨i + 1, by omega, by go_num, BN⟩, by simp [intOf]; omega⟩
        · obtain rfl : i = a.others.length := by omega
          clear hi hlt
          go_wp2_with fail
          go_ret
          exact ⟨rfl, BW.out⟩
end Go.Proofs.YtohkbcdnlmjcjaaDoor

/-
  ATTRIBUTES: what Decode reads is right, plain.
-/
namespace Go.Proofs.YtohkbcdnlmjcjaaDoor
open Go.RowKit

set_option maxRecDepth 100000 in
theorem take_ok {a : At} {hd t : Nat} {xs : List Nat} (h : (takeP a hd t xs).1 = 0) :
    szBad t xs.length = false ∧ ¬ (t = 8 ∧ xs.length / 4 > 256) ∧ (setP a t xs).1 = true ∧ (t = 1 → goodB (setP a t xs).2 1 = true) ∧ (t = 3 → goodB (setP a t xs).2 3 = true) ∧ (takeP a hd t xs).2 = { (setP a t xs).2 with has := bits .or .i64 (setP a t xs).2.has (2 ^ t) } := by
  unfold takeP at h ⊢
  split at h
  · cases h
  rename_i h1
  rw [if_neg h1]
  split at h
  · cases h
  rename_i h2
  rw [if_neg h2]
  split at h
  · cases h
  rename_i h3
  rw [if_neg h3]
  split at h
  · cases h
  rename_i h4
  rw [if_neg h4]
  split at h
  · cases h
  rename_i h5
  rw [if_neg h5]
  split at h
  · cases h
  rename_i h6
  rw [if_neg h6]
  refine ⟨by simpa using h2, h3, by simpa using h4, fun e => ?_, fun e => ?_, rfl⟩
  · cases hg : goodB (setP a t xs).2 1 with
    | true => rfl
    | false => exact absurd ⟨e, hg⟩ h5
  · cases hg : goodB (setP a t xs).2 3 with
    | true => rfl
    | false => exact absurd ⟨e, hg⟩ h6
set_option maxRecDepth 100000 in
theorem within_is {n m : Int} (h0 : 0 ≤ n) (hm : n ≤ m) : withinB n m = true := by
  unfold withinB
  simp [h0, hm]
set_option maxRecDepth 100000 in
theorem gz (a b : At) (t : Nat) (h1 : t ≠ 1 → b.origin = a.origin) (h2 : t ≠ 2 → b.path = a.path) (h3 : t ≠ 3 → b.hop = a.hop) (h4 : t ≠ 4 → b.med = a.med) (h5 : t ≠ 5 → b.loc = a.loc) (h7 : t ≠ 7 → b.aggrAs = a.aggrAs ∧ b.aggrId = a.aggrId) (h8 : t ≠ 8 → b.comms = a.comms) :
    ∀ u, u ≠ t → goodB b u = goodB a u ∧ zeroB b u = zeroB a u := by
  intro u hu
  match u, hu with
  | 0, _ => exact ⟨rfl, rfl⟩
  | 1, hu =>
    show withinB b.origin 2 = withinB a.origin 2 ∧ (b.origin == 0) = (a.origin == 0)
    rw [h1 hu.symm]; exact ⟨rfl, rfl⟩
  | 2, hu =>
    show pathB b.path = pathB a.path ∧ (((b.path.length : Nat) : Int) == 0) = (((a.path.length : Nat) : Int) == 0)
    rw [h2 hu.symm]; exact ⟨rfl, rfl⟩
  | 3, hu =>
    show hopB b.hop = hopB a.hop ∧ ((b.hop : Int) == 0) = ((a.hop : Int) == 0)
    rw [h3 hu.symm]; exact ⟨rfl, rfl⟩
  | 4, hu =>
    show withinB b.med 4294967295 = withinB a.med 4294967295 ∧ (b.med == 0) = (a.med == 0)
    rw [h4 hu.symm]; exact ⟨rfl, rfl⟩
  | 5, hu =>
    show withinB b.loc 4294967295 = withinB a.loc 4294967295 ∧ (b.loc == 0) = (a.loc == 0)
    rw [h5 hu.symm]; exact ⟨rfl, rfl⟩
  | 6, _ => exact ⟨rfl, rfl⟩
  | 7, hu =>
    show withinB b.aggrAs 65535 = withinB a.aggrAs 65535 ∧ ((b.aggrAs == 0) && ((b.aggrId : Int) == 0)) = ((a.aggrAs == 0) && ((a.aggrId : Int) == 0))
    rw [(h7 hu.symm).1, (h7 hu.symm).2]; exact ⟨rfl, rfl⟩
  | 8, hu =>
    show commsB b.comms = commsB a.comms ∧ (((b.comms.length : Nat) : Int) == 0) = (((a.comms.length : Nat) : Int) == 0)
    rw [h8 hu.symm]; exact ⟨rfl, rfl⟩
  | n + 9, _ => exact ⟨rfl, rfl⟩
set_option maxRecDepth 100000 in
/-- what was set is in its bounds; the rest is as it was. -/
theorem set_good {a : At} {t : Nat} {xs : List Nat} (h1 : 1 ≤ t) (h8 : t ≤ 8) (hx : ∀ x ∈ xs, x < 256) (hz : szBad t xs.length = false) (hc : ¬ (t = 8 ∧ xs.length / 4 > 256)) (hs : (setP a t xs).1 = true) (g1 : t = 1 → goodB (setP a t xs).2 1 = true) (g3 : t = 3 → goodB (setP a t xs).2 3 = true) :
    goodB (setP a t xs).2 t = true ∧ (∀ u, u ≠ t → goodB (setP a t xs).2 u = goodB a u ∧ zeroB (setP a t xs).2 u = zeroB a u) ∧ (setP a t xs).2.has = a.has ∧ (setP a t xs).2.others = a.others := by
  have r4 : xs.length = 4 → readN xs < 4294967296 := fun h => readN_four hx (by omega)
  obtain rfl | rfl | rfl | rfl | rfl | rfl | rfl | rfl := eight h1 h8
  · exact ⟨g1 rfl, gz _ _ 1 (fun h => absurd rfl h) (fun _ => rfl) (fun _ => rfl) (fun _ => rfl) (fun _ => rfl) (fun _ => ⟨rfl, rfl⟩) (fun _ => rfl), rfl, rfl⟩
  · unfold setP at hs ⊢
    simp only [show ¬ (2 : Nat) = 1 by decide, if_false, if_true] at hs ⊢
    cases hp : rdPath xs with
    | none => rw [hp] at hs; cases hs
    | some p =>
      rw [hp] at hs
      exact ⟨hs, gz _ _ 2 (fun _ => rfl) (fun h => absurd rfl h) (fun _ => rfl) (fun _ => rfl) (fun _ => rfl) (fun _ => ⟨rfl, rfl⟩) (fun _ => rfl), rfl, rfl⟩
  · exact ⟨g3 rfl, gz _ _ 3 (fun _ => rfl) (fun _ => rfl) (fun h => absurd rfl h) (fun _ => rfl) (fun _ => rfl) (fun _ => ⟨rfl, rfl⟩) (fun _ => rfl), rfl, rfl⟩
  · have hl : (xs.length : Int) = 4 := by simpa [szBad, sizL, bne] using hz
    have := r4 (by omega)
    exact ⟨within_is (n := (readN xs : Int)) (by omega) (by omega), gz _ _ 4 (fun _ => rfl) (fun _ => rfl) (fun _ => rfl) (fun h => absurd rfl h) (fun _ => rfl) (fun _ => ⟨rfl, rfl⟩) (fun _ => rfl), rfl, rfl⟩
  · have hl : (xs.length : Int) = 4 := by simpa [szBad, sizL, bne] using hz
    have := r4 (by omega)
    exact ⟨within_is (n := (readN xs : Int)) (by omega) (by omega), gz _ _ 5 (fun _ => rfl) (fun _ => rfl) (fun _ => rfl) (fun _ => rfl) (fun h => absurd rfl h) (fun _ => ⟨rfl, rfl⟩) (fun _ => rfl), rfl, rfl⟩
  · exact ⟨rfl, fun u hu => ⟨rfl, rfl⟩, rfl, rfl⟩
  · have h2 : readN (xs.take 2) < 65536 := by
      have := readN_two hx 0
      simpa using this
    exact ⟨within_is (n := (readN (xs.take 2) : Int)) (by omega) (by omega), gz _ _ 7 (fun _ => rfl) (fun _ => rfl) (fun _ => rfl) (fun _ => rfl) (fun _ => rfl) (fun h => absurd rfl h) (fun _ => rfl), rfl, rfl⟩
  · have hq : commsB (quN xs (xs.length / 4)) = true := by
      unfold commsB
      rw [quN_len]
      simp only [Bool.and_eq_true, decide_eq_true_eq, List.all_eq_true]
      refine ⟨fun x hx' => ?_, by omega⟩
      have := quN_rng hx _ x hx'
      exact within_is this.1 (by omega)
    exact ⟨hq, gz _ _ 8 (fun _ => rfl) (fun _ => rfl) (fun _ => rfl) (fun _ => rfl) (fun _ => rfl) (fun _ => ⟨rfl, rfl⟩) (fun h => absurd rfl h), rfl, rfl⟩
end Go.Proofs.YtohkbcdnlmjcjaaDoor

/-
  ATTRIBUTES: what Decode reads is right, plain: lengths; the invariant.
-/
namespace Go.Proofs.YtohkbcdnlmjcjaaDoor
open Go.RowKit

set_option maxRecDepth 100000 in
theorem rdPath_len : ∀ (n : Nat) (xs : List Nat) (p : List Sg), xs.length ≤ n → rdPath xs = some p → (pathL p).length = xs.length
  | _, [], p, _, h => by
    rw [rdPath_nil] at h
    obtain rfl := Option.some.inj h
    rfl
  | _, [x], p, _, h => by rw [rdPath_one] at h; cases h
  | 0, _ :: _ :: _, _, hn, _ => by simp at hn
  | n + 1, k :: m :: l, p, hn, h => by
    rw [rdPath_two] at h
    split at h
    · split at h
      · cases h
      · rename_i hl
        obtain ⟨q, hq, rfl⟩ := Option.map_eq_some_iff.1 h
        have ih := rdPath_len n (l.drop (2 * m)) q (by rw [List.length_drop]; simp at hn; omega) hq
        show (segL _ ++ pathL q).length = _
        rw [List.length_append, segL_len, ih, List.length_drop, prN_len]
        simp only [List.length_cons]
        omega
    · cases h
set_option maxRecDepth 100000 in
theorem val_read {a : At} {t : Nat} {xs : List Nat} (h1 : 1 ≤ t) (h8 : t ≤ 8) (hz : szBad t xs.length = false) (hs : (setP a t xs).1 = true) : (valL (setP a t xs).2 t).length = xs.length := by
  obtain rfl | rfl | rfl | rfl | rfl | rfl | rfl | rfl := eight h1 h8
  · have hl : (xs.length : Int) = 1 := by simpa [szBad, sizL, bne] using hz
    show (numB _ 1).length = _
    rw [numB_len]; omega
  · unfold setP at hs ⊢
    simp only [show ¬ (2 : Nat) = 1 by decide, if_false, if_true] at hs ⊢
    cases hp : rdPath xs with
    | none => rw [hp] at hs; cases hs
    | some p => exact rdPath_len _ xs p (Nat.le_refl _) hp
  · have hl : (xs.length : Int) = 4 := by simpa [szBad, sizL, bne] using hz
    show (numB _ 4).length = _
    rw [numB_len]; omega
  · have hl : (xs.length : Int) = 4 := by simpa [szBad, sizL, bne] using hz
    show (numB _ 4).length = _
    rw [numB_len]; omega
  · have hl : (xs.length : Int) = 4 := by simpa [szBad, sizL, bne] using hz
    show (numB _ 4).length = _
    rw [numB_len]; omega
  · have hl : xs = [] := by simpa [szBad, sizL, bne] using hz
    rw [hl]; rfl
  · have hl : (xs.length : Int) = 6 := by simpa [szBad, sizL, bne] using hz
    show (numB _ 2 ++ numB _ 4).length = _
    rw [List.length_append, numB_len, numB_len]; omega
  · have hl : xs.length % 4 = 0 := by simpa [szBad, sizL, bne] using hz
    show ((quN xs (xs.length / 4)).flatMap fun c => numB c 4).length = _
    rw [flat4_len, quN_len]; omega
set_option maxRecDepth 100000 in
/-- an attribute as it is written is no longer than as it was read. -/
theorem lay_le {ys v : List Nat} (hv : v.length = ((ys.take (cutN ys)).drop (fromN ys)).length) (hy : ∀ y ∈ ys, y < 256) (h2 : cutN ys ≤ ys.length) (fl t : Int) : (layL fl t v).length ≤ cutN ys := by
  have hl : v.length = cutN ys - fromN ys := by rw [hv, List.length_drop, List.length_take]; omega
  have hc : fromN ys ≤ cutN ys := by unfold cutN; omega
  have h3 : fromN ys = 3 → v.length ≤ 255 := fun h => by
    have : cutN ys = 3 + readN ((ys.take 3).drop 2) := by unfold cutN; rw [h]
    have hr := readN_lt (xs := (ys.take 3).drop 2) (fun y hy' => hy y (List.mem_of_mem_take (List.mem_of_mem_drop hy'))) _ (Nat.le_refl _)
    rw [List.take_length] at hr
    have h4 : ((ys.take 3).drop 2).length ≤ 1 := by rw [List.length_drop, List.length_take]; omega
    have h5 : 256 ^ ((ys.take 3).drop 2).length ≤ 256 ^ 1 := Nat.pow_le_pow_right (by decide) h4
    omega
  unfold layL
  by_cases h : 255 < v.length
  · rw [if_pos h]
    simp only [List.length_append, numB_len]
    rcases from_le ys with e | e
    · have := h3 e; omega
    · omega
  · rw [if_neg h]
    simp only [List.length_append, numB_len]
    rcases from_le ys with e | e <;> omega
/-- the sum of all lengths. -/
def lenOfE (a : At) : Nat := ((List.range' 1 8).map fun t => (knL a t).length).sum + (a.others.map fun o => (othL o).length).sum
set_option maxRecDepth 100000 in
theorem flat_sum {α : Type} (f : α → List Nat) : ∀ l : List α, (l.flatMap f).length = (l.map fun x => (f x).length).sum
  | [] => rfl
  | x :: l => by rw [List.flatMap_cons, List.length_append, flat_sum f l, List.map_cons, List.sum_cons]
set_option maxRecDepth 100000 in
theorem enc_len (a : At) : (encL a).length = lenOfE a := by
  unfold encL knsL lenOfE
  rw [List.length_append, flat_sum, flat_sum]
set_option maxRecDepth 100000 in
theorem sum_one {f g : Nat → Nat} {t : Nat} (h : ∀ u, u ≠ t → g u = f u) (h0 : f t = 0) : ∀ l : List Nat, l.Nodup → (l.map g).sum ≤ (l.map f).sum + g t
  | [], _ => by simp
  | x :: l, hn => by
    obtain ⟨n1, n2⟩ := List.nodup_cons.1 hn
    rw [List.map_cons, List.map_cons, List.sum_cons, List.sum_cons]
    by_cases e : x = t
    · subst e
      have : l.map g = l.map f := List.map_congr_left fun u hu => h u fun e => n1 (e ▸ hu)
      rw [this]; omega
    · have := sum_one h h0 l n2
      rw [h x e]; omega
end Go.Proofs.YtohkbcdnlmjcjaaDoor
