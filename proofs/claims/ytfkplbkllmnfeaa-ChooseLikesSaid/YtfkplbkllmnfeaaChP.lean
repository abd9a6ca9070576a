/-
  CHOOSE: what the reference looks at of a candidate (plain).
-/
import Derived.Test.YtfkplbkllmnfeaaChR
namespace Go.Proofs.Ytfkplbkllmnfeaa
open Go.RowKit

structure Rt where
  loc : Int
  hops : Int
  origin : Int
  first : Int
  med : Int
  id : Nat
  peer : Int
abbrev rtA (r : Rt) : Array Value := #[.int .i64 r.loc, .int .i64 r.hops, .int .i64 r.origin, .int .i64 r.first, .int .i64 r.med, .int .u32 r.id, .int .i64 r.peer]
abbrev rtZA : Array Value := #[.int .i64 0, .int .i64 0, .int .i64 0, .int .i64 0, .int .i64 0, .int .u32 0, .int .i64 0]
def rtOf (c : Cd) : Rt := ⟨locOf c.a, hopsN c.a.path, c.a.origin, firstN c.a.path, c.a.med, c.id, c.peer⟩
theorem rt_one (r : Rt) : (rtA r).all (·.oneCell') = true := by simp [Value.oneCell']
theorem rt_row {W : World} {b : Nat} {r : Rt} {T : TypeId} (q : W.heap[b]? = some (.cells (rtA r) T (0, 0))) :
    W.cell? ⟨b, 0, none⟩ = some (.int .i64 r.loc) ∧ W.cell? ⟨b, 1, none⟩ = some (.int .i64 r.hops) ∧ W.cell? ⟨b, 2, none⟩ = some (.int .i64 r.origin) ∧
    W.cell? ⟨b, 3, none⟩ = some (.int .i64 r.first) ∧ W.cell? ⟨b, 4, none⟩ = some (.int .i64 r.med) ∧ W.cell? ⟨b, 5, none⟩ = some (.int .u32 r.id) ∧ W.cell? ⟨b, 6, none⟩ = some (.int .i64 r.peer) :=
  ⟨row_cell q 0, row_cell q 1, row_cell q 2, row_cell q 3, row_cell q 4, row_cell q 5, row_cell q 6⟩
theorem results_plain (tmps : Array Value) (W : World) (b : Nat) (r : Rt) (h4 : tmps.getD 2 undef = .pointer (some ⟨b, 0, none⟩)) (hb : W.heap[b]? = some (.cells (rtA r) 48 (0, 0))) :
    (results Try.f15 tmps).run Try.prog W = .ok (.agg (rtA r)) W := results_cell_row Try.results15 tmps W b 48 (rtA r) (0, 0) _ h4 hb Try.underlying48 rfl (by kernel_rfl)
set_option maxHeartbeats 6400000 in
set_option maxRecDepth 100000 in
theorem ch_plain (c : Cd) (vp vc vo : Value) (w : World) (hA : AtL w c.a vp vc vo) (hh : hopsN c.a.path ≤ 4611686018427387904) :
    Calls Try.prog 15 #[.agg (cdA c vp vc vo)] w fun e w' => e = .returned (.agg (rtA (rtOf c))) ∧ Below w.heap.size w w' := by
  have HH := Lib.hid (fun W h => at_Hops (.int .i64 c.a.has) (.int .i64 c.a.origin) vp (.int .u32 c.a.hop) (.int .i64 c.a.med) (.int .i64 c.a.loc) (.int .i64 c.a.aggrAs) (.int .u32 c.a.aggrId) vc vo c.a.path W h hh)
  have HF := Lib.hid (fun W h => at_First (.int .i64 c.a.has) (.int .i64 c.a.origin) vp (.int .u32 c.a.hop) (.int .i64 c.a.med) (.int .i64 c.a.loc) (.int .i64 c.a.aggrAs) (.int .u32 c.a.aggrId) vc vo c.a.path W h)
  have HI := Lib.hid (fun t W => at_Is c.a.has (.int .i64 c.a.origin) vp (.int .u32 c.a.hop) (.int .i64 c.a.med) (.int .i64 c.a.loc) (.int .i64 c.a.aggrAs) (.int .u32 c.a.aggrId) vc vo t W)
  have HP := Lib.hid hA.1
  obtain ⟨⟨sp, cp, rfl, _⟩, ⟨sc, cc, rfl, _⟩, ⟨so, co, rfl, _⟩⟩ := hA
  go_enter Try.func15, Try.ntmps15
  go_upto_region 1 with (fail)
  obtain ⟨W0, hW0, qc, qz, hb0⟩ := boxCd w (cdA c (.slice sp c.a.path.length cp) (.slice sc c.a.comms.length cc) (.slice so c.a.others.length co)) 35 rtZA 48
  rw [← hW0]
  clear hW0
  have c0 : W0.cell? ⟨w.heap.size, 0, none⟩ = some (.int .i64 c.peer) := row_cell qc 0
  have c3 : W0.cell? ⟨w.heap.size, 3, none⟩ = some (.int .i64 c.a.has) := row_cell qc 3
  have c4 : W0.cell? ⟨w.heap.size, 4, none⟩ = some (.int .i64 c.a.origin) := row_cell qc 4
  have c5 : W0.cell? ⟨w.heap.size, 5, none⟩ = some (.slice sp c.a.path.length cp) := row_cell qc 5
  have c6 : W0.cell? ⟨w.heap.size, 6, none⟩ = some (.int .u32 c.a.hop) := row_cell qc 6
  have c7 : W0.cell? ⟨w.heap.size, 7, none⟩ = some (.int .i64 c.a.med) := row_cell qc 7
  have c8 : W0.cell? ⟨w.heap.size, 8, none⟩ = some (.int .i64 c.a.loc) := row_cell qc 8
  have c9 : W0.cell? ⟨w.heap.size, 9, none⟩ = some (.int .i64 c.a.aggrAs) := row_cell qc 9
  have c10 : W0.cell? ⟨w.heap.size, 10, none⟩ = some (.int .u32 c.a.aggrId) := row_cell qc 10
  have c11 : W0.cell? ⟨w.heap.size, 11, none⟩ = some (.slice sc c.a.comms.length cc) := row_cell qc 11
  have c12 : W0.cell? ⟨w.heap.size, 12, none⟩ = some (.slice so c.a.others.length co) := row_cell qc 12
  have c13 : W0.cell? ⟨w.heap.size, 13, none⟩ = some (.int .u32 c.id) := row_cell qc 13
  clear qc
  have QZ := Lib.hid qz
  clear qz
  go_upto_region 2 with (fail)
  obtain ⟨W1, hW1, q, hb1, _⟩ := boxA W0 (.int .i64 c.a.has) (.int .i64 c.a.origin) (.slice sp c.a.path.length cp) (.int .u32 c.a.hop) (.int .i64 c.a.med) (.int .i64 c.a.loc) (.int .i64 c.a.aggrAs) (.int .u32 c.a.aggrId) (.slice sc c.a.comms.length cc) (.slice so c.a.others.length co)
  rw [← hW1]
  clear hW1
  have a0 : W1.cell? ⟨W0.heap.size, 0, none⟩ = some (.int .i64 c.a.has) := row_cell q 0
  have a1 : W1.cell? ⟨W0.heap.size, 1, none⟩ = some (.int .i64 c.a.origin) := row_cell q 1
  have a2 : W1.cell? ⟨W0.heap.size, 2, none⟩ = some (.slice sp c.a.path.length cp) := row_cell q 2
  have a3 : W1.cell? ⟨W0.heap.size, 3, none⟩ = some (.int .u32 c.a.hop) := row_cell q 3
  have a4 : W1.cell? ⟨W0.heap.size, 4, none⟩ = some (.int .i64 c.a.med) := row_cell q 4
  have a5 : W1.cell? ⟨W0.heap.size, 5, none⟩ = some (.int .i64 c.a.loc) := row_cell q 5
  have a6 : W1.cell? ⟨W0.heap.size, 6, none⟩ = some (.int .i64 c.a.aggrAs) := row_cell q 6
  have a7 : W1.cell? ⟨W0.heap.size, 7, none⟩ = some (.int .u32 c.a.aggrId) := row_cell q 7
  have a8 : W1.cell? ⟨W0.heap.size, 8, none⟩ = some (.slice sc c.a.comms.length cc) := row_cell q 8
  have a9 : W1.cell? ⟨W0.heap.size, 9, none⟩ = some (.slice so c.a.others.length co) := row_cell q 9
  have c0 := cell_below c0 hb1
  have c13 := cell_below c13 hb1
  have HPs := Lib.hid ((HP.out.below hb0).below hb1)
  have QZ := Lib.hid ((hb1.block _ (row_lt QZ.out)).trans QZ.out)
  have QA := Lib.hid q
  have B1 := Lib.hid (below_on hb0 hb1)
  have Z1 := Lib.hid (row_lt QZ.out)
  clear q hb0 hb1 c3 c4 c5 c6 c7 c8 c9 c10 c11 c12
  cases hl : isB c.a.has 5
  · have EL : Hid (rtOf c = ⟨100, hopsN c.a.path, c.a.origin, firstN c.a.path, c.a.med, c.id, c.peer⟩) := Lib.hid (by unfold rtOf locOf; rw [hl]; rfl)
    have HI5 := Lib.hid (HI.out 5)
    rw [hl] at HI5
    clear hl
    go_wp2_with fail
    refine wp_region_held_drew (S := fun w' => Below W1.heap.size W1 w') (by kernel_rfl) ?_ (fun hHeld => ?_)
    · exact (Below.refl _ _).drew
    generalize World.drew W1 = wd at hHeld ⊢
    refine rg_yes (i := 0) (v := ?_) at0 (by kernel_rfl) (by kernel_rfl) (by kernel_rfl) (fun _ _ _ h => h) ?_ ?_ hHeld ?_; rotate_left 1; (· rfl); (· intro w' hSw; (try dsimp only at hSw); have c0 := cell_below c0 hSw; have c13 := cell_below c13 hSw; have a0 := cell_below a0 hSw; have a1 := cell_below a1 hSw; have a2 := cell_below a2 hSw; have a3 := cell_below a3 hSw; have a4 := cell_below a4 hSw; have a5 := cell_below a5 hSw; have a6 := cell_below a6 hSw; have a7 := cell_below a7 hSw; have a8 := cell_below a8 hSw; have a9 := cell_below a9 hSw; (try clear hHeld); go_simp; try with_reducible rfl)
    try simp only [Act.put, List.setIfInBounds_toArray, List.set_cons_zero, List.set_cons_succ]
    refine rg_yes (i := 2) (v := ?_) (atS (atS at0)) (by kernel_rfl) (by kernel_rfl) (by kernel_rfl) (fun _ _ _ h => h) ?_ ?_ hHeld ?_; rotate_left 1; (· rfl); (· intro w' hSw; (try dsimp only at hSw); (try clear hHeld); go_simp; try with_reducible rfl)
    try simp only [Act.put, List.setIfInBounds_toArray, List.set_cons_zero, List.set_cons_succ]
    refine rg_yes (i := 3) (v := ?_) (atS (atS (atS at0))) (by kernel_rfl) (by kernel_rfl) (by kernel_rfl) (fun _ _ _ h => h) ?_ ?_ hHeld ?_; rotate_left 1; (· rfl); (· intro w' hSw; (try dsimp only at hSw); have c0 := cell_below c0 hSw; have c13 := cell_below c13 hSw; have a0 := cell_below a0 hSw; have a1 := cell_below a1 hSw; have a2 := cell_below a2 hSw; have a3 := cell_below a3 hSw; have a4 := cell_below a4 hSw; have a5 := cell_below a5 hSw; have a6 := cell_below a6 hSw; have a7 := cell_below a7 hSw; have a8 := cell_below a8 hSw; have a9 := cell_below a9 hSw; (try clear hHeld); go_simp; try with_reducible rfl)
    try simp only [Act.put, List.setIfInBounds_toArray, List.set_cons_zero, List.set_cons_succ]
    refine rg_yes (i := 4) (v := ?_) (atS (atS (atS (atS at0)))) (by kernel_rfl) (by kernel_rfl) (by kernel_rfl) (fun _ _ _ h => h) ?_ ?_ hHeld ?_; rotate_left 1; (· rfl); (· intro w' hSw; (try dsimp only at hSw); have c0 := cell_below c0 hSw; have c13 := cell_below c13 hSw; have a0 := cell_below a0 hSw; have a1 := cell_below a1 hSw; have a2 := cell_below a2 hSw; have a3 := cell_below a3 hSw; have a4 := cell_below a4 hSw; have a5 := cell_below a5 hSw; have a6 := cell_below a6 hSw; have a7 := cell_below a7 hSw; have a8 := cell_below a8 hSw; have a9 := cell_below a9 hSw; (try clear hHeld); go_simp; try with_reducible rfl)
    try simp only [Act.put, List.setIfInBounds_toArray, List.set_cons_zero, List.set_cons_succ]
    refine rg_yes (i := 6) (v := ?_) (atS (atS (atS (atS (atS (atS at0)))))) (by kernel_rfl) (by kernel_rfl) (by kernel_rfl) (fun _ _ _ h => h) ?_ ?_ hHeld ?_; rotate_left 1; (· rfl); (· intro w' hSw; (try dsimp only at hSw); (try clear hHeld); go_simp; try with_reducible rfl)
    try simp only [Act.put, List.setIfInBounds_toArray, List.set_cons_zero, List.set_cons_succ]
    refine rg_yes (i := 7) (v := ?_) (atS (atS (atS (atS (atS (atS (atS at0))))))) (by kernel_rfl) (by kernel_rfl) (by kernel_rfl) (fun _ _ _ h => h) ?_ ?_ hHeld ?_; rotate_left 1; (· rfl); (· intro w' hSw; (try dsimp only at hSw); have c0 := cell_below c0 hSw; have c13 := cell_below c13 hSw; have a0 := cell_below a0 hSw; have a1 := cell_below a1 hSw; have a2 := cell_below a2 hSw; have a3 := cell_below a3 hSw; have a4 := cell_below a4 hSw; have a5 := cell_below a5 hSw; have a6 := cell_below a6 hSw; have a7 := cell_below a7 hSw; have a8 := cell_below a8 hSw; have a9 := cell_below a9 hSw; (try clear hHeld); go_simp; try with_reducible rfl)
    try simp only [Act.put, List.setIfInBounds_toArray, List.set_cons_zero, List.set_cons_succ]
    refine rg_yes (i := 8) (v := ?_) (atS (atS (atS (atS (atS (atS (atS (atS at0)))))))) (by kernel_rfl) (by kernel_rfl) (by kernel_rfl) (fun _ _ _ h => h) ?_ ?_ hHeld ?_; rotate_left 1; (· rfl); (· intro w' hSw; (try dsimp only at hSw); (try clear hHeld); go_simp; try with_reducible rfl)
    try simp only [Act.put, List.setIfInBounds_toArray, List.set_cons_zero, List.set_cons_succ]
    refine rg_yes (i := 9) (v := ?_) (atS (atS (atS (atS (atS (atS (atS (atS (atS at0))))))))) (by kernel_rfl) (by kernel_rfl) (by kernel_rfl) (fun _ _ _ h => h) ?_ ?_ hHeld ?_; rotate_left 1; (· rfl); (· intro w' hSw; (try dsimp only at hSw); have c0 := cell_below c0 hSw; have c13 := cell_below c13 hSw; have a0 := cell_below a0 hSw; have a1 := cell_below a1 hSw; have a2 := cell_below a2 hSw; have a3 := cell_below a3 hSw; have a4 := cell_below a4 hSw; have a5 := cell_below a5 hSw; have a6 := cell_below a6 hSw; have a7 := cell_below a7 hSw; have a8 := cell_below a8 hSw; have a9 := cell_below a9 hSw; (try clear hHeld); go_simp; try with_reducible rfl)
    try simp only [Act.put, List.setIfInBounds_toArray, List.set_cons_zero, List.set_cons_succ]
    refine rg_yes (i := 10) (v := ?_) (atS (atS (atS (atS (atS (atS (atS (atS (atS (atS at0)))))))))) (by kernel_rfl) (by kernel_rfl) (by kernel_rfl) (fun _ _ _ h => h) ?_ ?_ hHeld ?_; rotate_left 1; (· rfl); (· intro w' hSw; (try dsimp only at hSw); (try clear hHeld); go_simp; try with_reducible rfl)
    try simp only [Act.put, List.setIfInBounds_toArray, List.set_cons_zero, List.set_cons_succ]
    refine rg_yes (i := 11) (v := ?_) (atS (atS (atS (atS (atS (atS (atS (atS (atS (atS (atS at0))))))))))) (by kernel_rfl) (by kernel_rfl) (by kernel_rfl) (fun _ _ _ h => h) ?_ ?_ hHeld ?_; rotate_left 1; (· rfl); (· intro w' hSw; (try dsimp only at hSw); (try clear hHeld); go_simp; try with_reducible rfl)
    try simp only [Act.put, List.setIfInBounds_toArray, List.set_cons_zero, List.set_cons_succ]
    refine rg_yes (i := 12) (v := ?_) (atS (atS (atS (atS (atS (atS (atS (atS (atS (atS (atS (atS at0)))))))))))) (by kernel_rfl) (by kernel_rfl) (by kernel_rfl) (fun _ _ _ h => h) ?_ ?_ hHeld ?_; rotate_left 1; (· rfl); (· intro w' hSw; (try dsimp only at hSw); have c0 := cell_below c0 hSw; have c13 := cell_below c13 hSw; have a0 := cell_below a0 hSw; have a1 := cell_below a1 hSw; have a2 := cell_below a2 hSw; have a3 := cell_below a3 hSw; have a4 := cell_below a4 hSw; have a5 := cell_below a5 hSw; have a6 := cell_below a6 hSw; have a7 := cell_below a7 hSw; have a8 := cell_below a8 hSw; have a9 := cell_below a9 hSw; (try clear hHeld); go_simp; try with_reducible rfl)
    try simp only [Act.put, List.setIfInBounds_toArray, List.set_cons_zero, List.set_cons_succ]
    refine rg_call2 (i := 1) (j := 14) (atS at0) (atS (atS (atS (atS (atS (atS (atS (atS (atS (atS (atS (atS (atS (atS at0)))))))))))))) (by kernel_rfl) ?_ ?_ (fun K hK => ?_) (fun K hK => ?_)
    · rfl
    · rfl
    · (try clear hb); go_simp; (refine (HH.out _ (HPs.out.below hHeld)).mono ?_; rintro e w1 ⟨rfl, hb⟩); (try replace hz := (hb.block _ (row_lt hz)).trans hz); go_wp2_with fail; refine hK.out _ _ ?_ (fun hHeld => ?_); (· exact hHeld.trans (hb.mono hHeld.size)); clear hK K
      try simp only [Act.put, List.setIfInBounds_toArray, List.set_cons_zero, List.set_cons_succ]
      refine rg_call2 (i := 5) (j := 14) (atS (atS (atS (atS (atS at0))))) (atS (atS (atS (atS (atS (atS (atS (atS (atS (atS (atS (atS (atS (atS at0)))))))))))))) (by kernel_rfl) ?_ ?_ (fun K hK => ?_) (fun K hK => ?_)
      · rfl
      · rfl
      · (try clear hb); go_simp; (refine (HF.out _ (HPs.out.below hHeld)).mono ?_; rintro e w1 ⟨rfl, hb⟩); (try replace hz := (hb.block _ (row_lt hz)).trans hz); go_wp2_with fail; refine hK.out _ _ ?_ (fun hHeld => ?_); (· exact hHeld.trans (hb.mono hHeld.size)); clear hK K
        try simp only [Act.put, List.setIfInBounds_toArray, List.set_cons_zero, List.set_cons_succ]
        refine rg_yes (i := 13) (v := ?_) (atS (atS (atS (atS (atS (atS (atS (atS (atS (atS (atS (atS (atS at0))))))))))))) (by kernel_rfl) (by kernel_rfl) (by kernel_rfl) (fun _ _ _ h => h) ?_ ?_ hHeld ?_; rotate_left 1; (· rfl); (· intro w' hSw; (try dsimp only at hSw); (try clear hHeld); go_simp; try with_reducible rfl)
        try simp only [Act.put, List.setIfInBounds_toArray, List.set_cons_zero, List.set_cons_succ]
        refine rg_call (i := 14) (atS (atS (atS (atS (atS (atS (atS (atS (atS (atS (atS (atS (atS (atS at0)))))))))))))) (by kernel_rfl) ?_ (fun K hK => ?_); (· rfl); (try clear hb); go_simp; (refine allocK rtZA 48 (p := K _) ?_); intro w1 hz hb; have hzB := hHeld.size; refine hK.out _ _ ?_ (fun hHeld => ?_); (· exact hHeld.trans (hb.mono hHeld.size)); clear hK K
        try simp only [Act.put, List.setIfInBounds_toArray, List.set_cons_zero, List.set_cons_succ]
        refine rg_call (i := 15) (atS (atS (atS (atS (atS (atS (atS (atS (atS (atS (atS (atS (atS (atS (atS at0))))))))))))))) (by kernel_rfl) ?_ (fun K hK => ?_); (· rfl); (try clear hb); refine wp_store_rowat 48 (.tmp 4) (.tmp 21) rfl _ rfl 48 rtZA (rtA ⟨100, hopsN c.a.path, c.a.origin, firstN c.a.path, c.a.med, c.id, c.peer⟩) rfl hz (by kernel_rfl) rfl (rt_one _) ?_; refine hK.out _ _ ?_ (fun hHeld => ?_); (· exact below_setRow hHeld hzB _); clear hK K
        try simp only [Act.put]
        refine wpAnyH_done (by kernel_rfl) ?_ _
        refine abs_row (p := fun W => Exit.then _ _ _ _ W) (setRow_heap _ _ _ _ _ _ hz) hHeld ?_
        intro W3 QR hb3
        obtain ⟨B, hBe, QR⟩ := pull QR
        rw [← hBe] at hzB ⊢
        clear hBe hz hHeld c0 c13
        clear a0 a1 a2 a3 a4 a5 a6 a7 a8 a9
        have nB : ¬ W0.heap.size = B := by have := row_lt QA.out; omega
        have nZ : ¬ w.heap.size + 1 = B := by have := Z1.out; omega
        have BG : Hid (w.heap.size ≤ B) := Lib.hid (by have := Z1.out; omega)
        have QA3 := Lib.hid ((hb3.block _ (row_lt QA.out)).trans QA.out)
        have QZ3 := Lib.hid ((hb3.block _ (row_lt QZ.out)).trans QZ.out)
        have QR3 := Lib.hid QR
        have B3 := Lib.hid (below_on B1.out hb3)
        clear QR hb3 hzB
        obtain ⟨a0, a1, a2, a3, a4, a5, a6, a7, a8, a9⟩ := at_cells QA3.out
        go_wp2_with fail
        refine (HI5.out _).mono ?_
        rintro e w4 ⟨rfl, hb4⟩
        have QA4 := Lib.hid ((hb4.block _ (row_lt QA3.out)).trans QA3.out)
        have QZ4 := Lib.hid ((hb4.block _ (row_lt QZ3.out)).trans QZ3.out)
        have QR4 := Lib.hid ((hb4.block _ (row_lt QR3.out)).trans QR3.out)
        have B4 := Lib.hid (below_on B3.out hb4)
        clear a0 a1 a2 a3 a4 a5 a6 a7 a8 a9 hb4
        have QR5 := QR4
        have QZ5 := QZ4
        have B5 := B4
        have QR8 : Hid (w4.heap[B]? = some (.cells (rtA ⟨100, hopsN c.a.path, c.a.origin, firstN c.a.path, c.a.med, c.id, c.peer⟩) 48 (0, 0))) := Lib.hid QR5.out
        obtain ⟨r0, r1, r2, r3, r4, r5, r6⟩ := rt_row QR8.out
        go_wp2_with (refine st_row rfl 48 (.tmp 2) (.tmp 27) rfl (w.heap.size + 1) rfl 48 rtZA (rtA ⟨100, hopsN c.a.path, c.a.origin, firstN c.a.path, c.a.med, c.id, c.peer⟩) rfl QZ5.out (by kernel_rfl) rfl (rt_one _) ?_)
        refine bodyPost_ret (results_plain _ _ (w.heap.size + 1) ⟨100, hopsN c.a.path, c.a.origin, firstN c.a.path, c.a.med, c.id, c.peer⟩ ?_ (setRow_heap _ _ _ _ _ _ QZ5.out)) rfl ⟨by rw [EL.out], below_setRow B5.out (Nat.le_succ _) _⟩
        rfl
      · (try clear hb); go_simp; (refine allocK rtZA 48 (p := K _) ?_); intro w1 hz hb; have hzB := hHeld.size; refine hK.out _ _ ?_ (fun hHeld => ?_); (· exact hHeld.trans (hb.mono hHeld.size)); clear hK K
        try simp only [Act.put, List.setIfInBounds_toArray, List.set_cons_zero, List.set_cons_succ]
        refine rg_call (i := 5) (atS (atS (atS (atS (atS at0))))) (by kernel_rfl) ?_ (fun K hK => ?_); (· rfl); (try clear hb); go_simp; (refine (HF.out _ (HPs.out.below hHeld)).mono ?_; rintro e w1 ⟨rfl, hb⟩); (try replace hz := (hb.block _ (row_lt hz)).trans hz); go_wp2_with fail; refine hK.out _ _ ?_ (fun hHeld => ?_); (· exact hHeld.trans (hb.mono hHeld.size)); clear hK K
        try simp only [Act.put, List.setIfInBounds_toArray, List.set_cons_zero, List.set_cons_succ]
        refine rg_yes (i := 13) (v := ?_) (atS (atS (atS (atS (atS (atS (atS (atS (atS (atS (atS (atS (atS at0))))))))))))) (by kernel_rfl) (by kernel_rfl) (by kernel_rfl) (fun _ _ _ h => h) ?_ ?_ hHeld ?_; rotate_left 1; (· rfl); (· intro w' hSw; (try dsimp only at hSw); (try clear hHeld); go_simp; try with_reducible rfl)
        try simp only [Act.put, List.setIfInBounds_toArray, List.set_cons_zero, List.set_cons_succ]
        refine rg_call (i := 15) (atS (atS (atS (atS (atS (atS (atS (atS (atS (atS (atS (atS (atS (atS (atS at0))))))))))))))) (by kernel_rfl) ?_ (fun K hK => ?_); (· rfl); (try clear hb); refine wp_store_rowat 48 (.tmp 4) (.tmp 21) rfl _ rfl 48 rtZA (rtA ⟨100, hopsN c.a.path, c.a.origin, firstN c.a.path, c.a.med, c.id, c.peer⟩) rfl hz (by kernel_rfl) rfl (rt_one _) ?_; refine hK.out _ _ ?_ (fun hHeld => ?_); (· exact below_setRow hHeld hzB _); clear hK K
        try simp only [Act.put]
        refine wpAnyH_done (by kernel_rfl) ?_ _
        refine abs_row (p := fun W => Exit.then _ _ _ _ W) (setRow_heap _ _ _ _ _ _ hz) hHeld ?_
        intro W3 QR hb3
        obtain ⟨B, hBe, QR⟩ := pull QR
        rw [← hBe] at hzB ⊢
        clear hBe hz hHeld c0 c13
        clear a0 a1 a2 a3 a4 a5 a6 a7 a8 a9
        have nB : ¬ W0.heap.size = B := by have := row_lt QA.out; omega
        have nZ : ¬ w.heap.size + 1 = B := by have := Z1.out; omega
        have BG : Hid (w.heap.size ≤ B) := Lib.hid (by have := Z1.out; omega)
        have QA3 := Lib.hid ((hb3.block _ (row_lt QA.out)).trans QA.out)
        have QZ3 := Lib.hid ((hb3.block _ (row_lt QZ.out)).trans QZ.out)
        have QR3 := Lib.hid QR
        have B3 := Lib.hid (below_on B1.out hb3)
        clear QR hb3 hzB
        obtain ⟨a0, a1, a2, a3, a4, a5, a6, a7, a8, a9⟩ := at_cells QA3.out
        go_wp2_with fail
        refine (HI5.out _).mono ?_
        rintro e w4 ⟨rfl, hb4⟩
        have QA4 := Lib.hid ((hb4.block _ (row_lt QA3.out)).trans QA3.out)
        have QZ4 := Lib.hid ((hb4.block _ (row_lt QZ3.out)).trans QZ3.out)
        have QR4 := Lib.hid ((hb4.block _ (row_lt QR3.out)).trans QR3.out)
        have B4 := Lib.hid (below_on B3.out hb4)
        clear a0 a1 a2 a3 a4 a5 a6 a7 a8 a9 hb4
        have QR5 := QR4
        have QZ5 := QZ4
        have B5 := B4
        have QR8 : Hid (w4.heap[B]? = some (.cells (rtA ⟨100, hopsN c.a.path, c.a.origin, firstN c.a.path, c.a.med, c.id, c.peer⟩) 48 (0, 0))) := Lib.hid QR5.out
        obtain ⟨r0, r1, r2, r3, r4, r5, r6⟩ := rt_row QR8.out
        go_wp2_with (refine st_row rfl 48 (.tmp 2) (.tmp 27) rfl (w.heap.size + 1) rfl 48 rtZA (rtA ⟨100, hopsN c.a.path, c.a.origin, firstN c.a.path, c.a.med, c.id, c.peer⟩) rfl QZ5.out (by kernel_rfl) rfl (rt_one _) ?_)
        refine bodyPost_ret (results_plain _ _ (w.heap.size + 1) ⟨100, hopsN c.a.path, c.a.origin, firstN c.a.path, c.a.med, c.id, c.peer⟩ ?_ (setRow_heap _ _ _ _ _ _ QZ5.out)) rfl ⟨by rw [EL.out], below_setRow B5.out (Nat.le_succ _) _⟩
        rfl
    · (try clear hb); go_simp; (refine allocK rtZA 48 (p := K _) ?_); intro w1 hz hb; have hzB := hHeld.size; refine hK.out _ _ ?_ (fun hHeld => ?_); (· exact hHeld.trans (hb.mono hHeld.size)); clear hK K
      try simp only [Act.put, List.setIfInBounds_toArray, List.set_cons_zero, List.set_cons_succ]
      refine rg_call (i := 1) (atS at0) (by kernel_rfl) ?_ (fun K hK => ?_); (· rfl); (try clear hb); go_simp; (refine (HH.out _ (HPs.out.below hHeld)).mono ?_; rintro e w1 ⟨rfl, hb⟩); (try replace hz := (hb.block _ (row_lt hz)).trans hz); go_wp2_with fail; refine hK.out _ _ ?_ (fun hHeld => ?_); (· exact hHeld.trans (hb.mono hHeld.size)); clear hK K
      try simp only [Act.put, List.setIfInBounds_toArray, List.set_cons_zero, List.set_cons_succ]
      refine rg_call (i := 5) (atS (atS (atS (atS (atS at0))))) (by kernel_rfl) ?_ (fun K hK => ?_); (· rfl); (try clear hb); go_simp; (refine (HF.out _ (HPs.out.below hHeld)).mono ?_; rintro e w1 ⟨rfl, hb⟩); (try replace hz := (hb.block _ (row_lt hz)).trans hz); go_wp2_with fail; refine hK.out _ _ ?_ (fun hHeld => ?_); (· exact hHeld.trans (hb.mono hHeld.size)); clear hK K
      try simp only [Act.put, List.setIfInBounds_toArray, List.set_cons_zero, List.set_cons_succ]
      refine rg_yes (i := 13) (v := ?_) (atS (atS (atS (atS (atS (atS (atS (atS (atS (atS (atS (atS (atS at0))))))))))))) (by kernel_rfl) (by kernel_rfl) (by kernel_rfl) (fun _ _ _ h => h) ?_ ?_ hHeld ?_; rotate_left 1; (· rfl); (· intro w' hSw; (try dsimp only at hSw); (try clear hHeld); go_simp; try with_reducible rfl)
      try simp only [Act.put, List.setIfInBounds_toArray, List.set_cons_zero, List.set_cons_succ]
      refine rg_call (i := 15) (atS (atS (atS (atS (atS (atS (atS (atS (atS (atS (atS (atS (atS (atS (atS at0))))))))))))))) (by kernel_rfl) ?_ (fun K hK => ?_); (· rfl); (try clear hb); refine wp_store_rowat 48 (.tmp 4) (.tmp 21) rfl _ rfl 48 rtZA (rtA ⟨100, hopsN c.a.path, c.a.origin, firstN c.a.path, c.a.med, c.id, c.peer⟩) rfl hz (by kernel_rfl) rfl (rt_one _) ?_; refine hK.out _ _ ?_ (fun hHeld => ?_); (· exact below_setRow hHeld hzB _); clear hK K
      try simp only [Act.put]
      refine wpAnyH_done (by kernel_rfl) ?_ _
      refine abs_row (p := fun W => Exit.then _ _ _ _ W) (setRow_heap _ _ _ _ _ _ hz) hHeld ?_
      intro W3 QR hb3
      obtain ⟨B, hBe, QR⟩ := pull QR
      rw [← hBe] at hzB ⊢
      clear hBe hz hHeld c0 c13
      clear a0 a1 a2 a3 a4 a5 a6 a7 a8 a9
      have nB : ¬ W0.heap.size = B := by have := row_lt QA.out; omega
      have nZ : ¬ w.heap.size + 1 = B := by have := Z1.out; omega
      have BG : Hid (w.heap.size ≤ B) := Lib.hid (by have := Z1.out; omega)
      have QA3 := Lib.hid ((hb3.block _ (row_lt QA.out)).trans QA.out)
      have QZ3 := Lib.hid ((hb3.block _ (row_lt QZ.out)).trans QZ.out)
      have QR3 := Lib.hid QR
      have B3 := Lib.hid (below_on B1.out hb3)
      clear QR hb3 hzB
      obtain ⟨a0, a1, a2, a3, a4, a5, a6, a7, a8, a9⟩ := at_cells QA3.out
      go_wp2_with fail
      refine (HI5.out _).mono ?_
      rintro e w4 ⟨rfl, hb4⟩
      have QA4 := Lib.hid ((hb4.block _ (row_lt QA3.out)).trans QA3.out)
      have QZ4 := Lib.hid ((hb4.block _ (row_lt QZ3.out)).trans QZ3.out)
      have QR4 := Lib.hid ((hb4.block _ (row_lt QR3.out)).trans QR3.out)
      have B4 := Lib.hid (below_on B3.out hb4)
      clear a0 a1 a2 a3 a4 a5 a6 a7 a8 a9 hb4
      have QR5 := QR4
      have QZ5 := QZ4
      have B5 := B4
      have QR8 : Hid (w4.heap[B]? = some (.cells (rtA ⟨100, hopsN c.a.path, c.a.origin, firstN c.a.path, c.a.med, c.id, c.peer⟩) 48 (0, 0))) := Lib.hid QR5.out
      obtain ⟨r0, r1, r2, r3, r4, r5, r6⟩ := rt_row QR8.out
      go_wp2_with (refine st_row rfl 48 (.tmp 2) (.tmp 27) rfl (w.heap.size + 1) rfl 48 rtZA (rtA ⟨100, hopsN c.a.path, c.a.origin, firstN c.a.path, c.a.med, c.id, c.peer⟩) rfl QZ5.out (by kernel_rfl) rfl (rt_one _) ?_)
      refine bodyPost_ret (results_plain _ _ (w.heap.size + 1) ⟨100, hopsN c.a.path, c.a.origin, firstN c.a.path, c.a.med, c.id, c.peer⟩ ?_ (setRow_heap _ _ _ _ _ _ QZ5.out)) rfl ⟨by rw [EL.out], below_setRow B5.out (Nat.le_succ _) _⟩
      rfl
  · have EL : Hid (rtOf c = ⟨c.a.loc, hopsN c.a.path, c.a.origin, firstN c.a.path, c.a.med, c.id, c.peer⟩) := Lib.hid (by unfold rtOf locOf; rw [hl]; rfl)
    have HI5 := Lib.hid (HI.out 5)
    rw [hl] at HI5
    clear hl
    go_wp2_with fail
    refine wp_region_held_drew (S := fun w' => Below W1.heap.size W1 w') (by kernel_rfl) ?_ (fun hHeld => ?_)
    · exact (Below.refl _ _).drew
    generalize World.drew W1 = wd at hHeld ⊢
    refine rg_yes (i := 0) (v := ?_) at0 (by kernel_rfl) (by kernel_rfl) (by kernel_rfl) (fun _ _ _ h => h) ?_ ?_ hHeld ?_; rotate_left 1; (· rfl); (· intro w' hSw; (try dsimp only at hSw); have c0 := cell_below c0 hSw; have c13 := cell_below c13 hSw; have a0 := cell_below a0 hSw; have a1 := cell_below a1 hSw; have a2 := cell_below a2 hSw; have a3 := cell_below a3 hSw; have a4 := cell_below a4 hSw; have a5 := cell_below a5 hSw; have a6 := cell_below a6 hSw; have a7 := cell_below a7 hSw; have a8 := cell_below a8 hSw; have a9 := cell_below a9 hSw; (try clear hHeld); go_simp; try with_reducible rfl)
    try simp only [Act.put, List.setIfInBounds_toArray, List.set_cons_zero, List.set_cons_succ]
    refine rg_yes (i := 2) (v := ?_) (atS (atS at0)) (by kernel_rfl) (by kernel_rfl) (by kernel_rfl) (fun _ _ _ h => h) ?_ ?_ hHeld ?_; rotate_left 1; (· rfl); (· intro w' hSw; (try dsimp only at hSw); (try clear hHeld); go_simp; try with_reducible rfl)
    try simp only [Act.put, List.setIfInBounds_toArray, List.set_cons_zero, List.set_cons_succ]
    refine rg_yes (i := 3) (v := ?_) (atS (atS (atS at0))) (by kernel_rfl) (by kernel_rfl) (by kernel_rfl) (fun _ _ _ h => h) ?_ ?_ hHeld ?_; rotate_left 1; (· rfl); (· intro w' hSw; (try dsimp only at hSw); have c0 := cell_below c0 hSw; have c13 := cell_below c13 hSw; have a0 := cell_below a0 hSw; have a1 := cell_below a1 hSw; have a2 := cell_below a2 hSw; have a3 := cell_below a3 hSw; have a4 := cell_below a4 hSw; have a5 := cell_below a5 hSw; have a6 := cell_below a6 hSw; have a7 := cell_below a7 hSw; have a8 := cell_below a8 hSw; have a9 := cell_below a9 hSw; (try clear hHeld); go_simp; try with_reducible rfl)
    try simp only [Act.put, List.setIfInBounds_toArray, List.set_cons_zero, List.set_cons_succ]
    refine rg_yes (i := 4) (v := ?_) (atS (atS (atS (atS at0)))) (by kernel_rfl) (by kernel_rfl) (by kernel_rfl) (fun _ _ _ h => h) ?_ ?_ hHeld ?_; rotate_left 1; (· rfl); (· intro w' hSw; (try dsimp only at hSw); have c0 := cell_below c0 hSw; have c13 := cell_below c13 hSw; have a0 := cell_below a0 hSw; have a1 := cell_below a1 hSw; have a2 := cell_below a2 hSw; have a3 := cell_below a3 hSw; have a4 := cell_below a4 hSw; have a5 := cell_below a5 hSw; have a6 := cell_below a6 hSw; have a7 := cell_below a7 hSw; have a8 := cell_below a8 hSw; have a9 := cell_below a9 hSw; (try clear hHeld); go_simp; try with_reducible rfl)
    try simp only [Act.put, List.setIfInBounds_toArray, List.set_cons_zero, List.set_cons_succ]
    refine rg_yes (i := 6) (v := ?_) (atS (atS (atS (atS (atS (atS at0)))))) (by kernel_rfl) (by kernel_rfl) (by kernel_rfl) (fun _ _ _ h => h) ?_ ?_ hHeld ?_; rotate_left 1; (· rfl); (· intro w' hSw; (try dsimp only at hSw); (try clear hHeld); go_simp; try with_reducible rfl)
    try simp only [Act.put, List.setIfInBounds_toArray, List.set_cons_zero, List.set_cons_succ]
    refine rg_yes (i := 7) (v := ?_) (atS (atS (atS (atS (atS (atS (atS at0))))))) (by kernel_rfl) (by kernel_rfl) (by kernel_rfl) (fun _ _ _ h => h) ?_ ?_ hHeld ?_; rotate_left 1; (· rfl); (· intro w' hSw; (try dsimp only at hSw); have c0 := cell_below c0 hSw; have c13 := cell_below c13 hSw; have a0 := cell_below a0 hSw; have a1 := cell_below a1 hSw; have a2 := cell_below a2 hSw; have a3 := cell_below a3 hSw; have a4 := cell_below a4 hSw; have a5 := cell_below a5 hSw; have a6 := cell_below a6 hSw; have a7 := cell_below a7 hSw; have a8 := cell_below a8 hSw; have a9 := cell_below a9 hSw; (try clear hHeld); go_simp; try with_reducible rfl)
    try simp only [Act.put, List.setIfInBounds_toArray, List.set_cons_zero, List.set_cons_succ]
    refine rg_yes (i := 8) (v := ?_) (atS (atS (atS (atS (atS (atS (atS (atS at0)))))))) (by kernel_rfl) (by kernel_rfl) (by kernel_rfl) (fun _ _ _ h => h) ?_ ?_ hHeld ?_; rotate_left 1; (· rfl); (· intro w' hSw; (try dsimp only at hSw); (try clear hHeld); go_simp; try with_reducible rfl)
    try simp only [Act.put, List.setIfInBounds_toArray, List.set_cons_zero, List.set_cons_succ]
    refine rg_yes (i := 9) (v := ?_) (atS (atS (atS (atS (atS (atS (atS (atS (atS at0))))))))) (by kernel_rfl) (by kernel_rfl) (by kernel_rfl) (fun _ _ _ h => h) ?_ ?_ hHeld ?_; rotate_left 1; (· rfl); (· intro w' hSw; (try dsimp only at hSw); have c0 := cell_below c0 hSw; have c13 := cell_below c13 hSw; have a0 := cell_below a0 hSw; have a1 := cell_below a1 hSw; have a2 := cell_below a2 hSw; have a3 := cell_below a3 hSw; have a4 := cell_below a4 hSw; have a5 := cell_below a5 hSw; have a6 := cell_below a6 hSw; have a7 := cell_below a7 hSw; have a8 := cell_below a8 hSw; have a9 := cell_below a9 hSw; (try clear hHeld); go_simp; try with_reducible rfl)
    try simp only [Act.put, List.setIfInBounds_toArray, List.set_cons_zero, List.set_cons_succ]
    refine rg_yes (i := 10) (v := ?_) (atS (atS (atS (atS (atS (atS (atS (atS (atS (atS at0)))))))))) (by kernel_rfl) (by kernel_rfl) (by kernel_rfl) (fun _ _ _ h => h) ?_ ?_ hHeld ?_; rotate_left 1; (· rfl); (· intro w' hSw; (try dsimp only at hSw); (try clear hHeld); go_simp; try with_reducible rfl)
    try simp only [Act.put, List.setIfInBounds_toArray, List.set_cons_zero, List.set_cons_succ]
    refine rg_yes (i := 11) (v := ?_) (atS (atS (atS (atS (atS (atS (atS (atS (atS (atS (atS at0))))))))))) (by kernel_rfl) (by kernel_rfl) (by kernel_rfl) (fun _ _ _ h => h) ?_ ?_ hHeld ?_; rotate_left 1; (· rfl); (· intro w' hSw; (try dsimp only at hSw); (try clear hHeld); go_simp; try with_reducible rfl)
    try simp only [Act.put, List.setIfInBounds_toArray, List.set_cons_zero, List.set_cons_succ]
    refine rg_yes (i := 12) (v := ?_) (atS (atS (atS (atS (atS (atS (atS (atS (atS (atS (atS (atS at0)))))))))))) (by kernel_rfl) (by kernel_rfl) (by kernel_rfl) (fun _ _ _ h => h) ?_ ?_ hHeld ?_; rotate_left 1; (· rfl); (· intro w' hSw; (try dsimp only at hSw); have c0 := cell_below c0 hSw; have c13 := cell_below c13 hSw; have a0 := cell_below a0 hSw; have a1 := cell_below a1 hSw; have a2 := cell_below a2 hSw; have a3 := cell_below a3 hSw; have a4 := cell_below a4 hSw; have a5 := cell_below a5 hSw; have a6 := cell_below a6 hSw; have a7 := cell_below a7 hSw; have a8 := cell_below a8 hSw; have a9 := cell_below a9 hSw; (try clear hHeld); go_simp; try with_reducible rfl)
    try simp only [Act.put, List.setIfInBounds_toArray, List.set_cons_zero, List.set_cons_succ]
    refine rg_call2 (i := 1) (j := 14) (atS at0) (atS (atS (atS (atS (atS (atS (atS (atS (atS (atS (atS (atS (atS (atS at0)))))))))))))) (by kernel_rfl) ?_ ?_ (fun K hK => ?_) (fun K hK => ?_)
    · rfl
    · rfl
    · (try clear hb); go_simp; (refine (HH.out _ (HPs.out.below hHeld)).mono ?_; rintro e w1 ⟨rfl, hb⟩); (try replace hz := (hb.block _ (row_lt hz)).trans hz); go_wp2_with fail; refine hK.out _ _ ?_ (fun hHeld => ?_); (· exact hHeld.trans (hb.mono hHeld.size)); clear hK K
      try simp only [Act.put, List.setIfInBounds_toArray, List.set_cons_zero, List.set_cons_succ]
      refine rg_call2 (i := 5) (j := 14) (atS (atS (atS (atS (atS at0))))) (atS (atS (atS (atS (atS (atS (atS (atS (atS (atS (atS (atS (atS (atS at0)))))))))))))) (by kernel_rfl) ?_ ?_ (fun K hK => ?_) (fun K hK => ?_)
      · rfl
      · rfl
      · (try clear hb); go_simp; (refine (HF.out _ (HPs.out.below hHeld)).mono ?_; rintro e w1 ⟨rfl, hb⟩); (try replace hz := (hb.block _ (row_lt hz)).trans hz); go_wp2_with fail; refine hK.out _ _ ?_ (fun hHeld => ?_); (· exact hHeld.trans (hb.mono hHeld.size)); clear hK K
        try simp only [Act.put, List.setIfInBounds_toArray, List.set_cons_zero, List.set_cons_succ]
        refine rg_yes (i := 13) (v := ?_) (atS (atS (atS (atS (atS (atS (atS (atS (atS (atS (atS (atS (atS at0))))))))))))) (by kernel_rfl) (by kernel_rfl) (by kernel_rfl) (fun _ _ _ h => h) ?_ ?_ hHeld ?_; rotate_left 1; (· rfl); (· intro w' hSw; (try dsimp only at hSw); (try clear hHeld); go_simp; try with_reducible rfl)
        try simp only [Act.put, List.setIfInBounds_toArray, List.set_cons_zero, List.set_cons_succ]
        refine rg_call (i := 14) (atS (atS (atS (atS (atS (atS (atS (atS (atS (atS (atS (atS (atS (atS at0)))))))))))))) (by kernel_rfl) ?_ (fun K hK => ?_); (· rfl); (try clear hb); go_simp; (refine allocK rtZA 48 (p := K _) ?_); intro w1 hz hb; have hzB := hHeld.size; refine hK.out _ _ ?_ (fun hHeld => ?_); (· exact hHeld.trans (hb.mono hHeld.size)); clear hK K
        try simp only [Act.put, List.setIfInBounds_toArray, List.set_cons_zero, List.set_cons_succ]
        refine rg_call (i := 15) (atS (atS (atS (atS (atS (atS (atS (atS (atS (atS (atS (atS (atS (atS (atS at0))))))))))))))) (by kernel_rfl) ?_ (fun K hK => ?_); (· rfl); (try clear hb); refine wp_store_rowat 48 (.tmp 4) (.tmp 21) rfl _ rfl 48 rtZA (rtA ⟨100, hopsN c.a.path, c.a.origin, firstN c.a.path, c.a.med, c.id, c.peer⟩) rfl hz (by kernel_rfl) rfl (rt_one _) ?_; refine hK.out _ _ ?_ (fun hHeld => ?_); (· exact below_setRow hHeld hzB _); clear hK K
        try simp only [Act.put]
        refine wpAnyH_done (by kernel_rfl) ?_ _
        refine abs_row (p := fun W => Exit.then _ _ _ _ W) (setRow_heap _ _ _ _ _ _ hz) hHeld ?_
        intro W3 QR hb3
        obtain ⟨B, hBe, QR⟩ := pull QR
        rw [← hBe] at hzB ⊢
        clear hBe hz hHeld c0 c13
        clear a0 a1 a2 a3 a4 a5 a6 a7 a8 a9
        have nB : ¬ W0.heap.size = B := by have := row_lt QA.out; omega
        have nZ : ¬ w.heap.size + 1 = B := by have := Z1.out; omega
        have BG : Hid (w.heap.size ≤ B) := Lib.hid (by have := Z1.out; omega)
        have QA3 := Lib.hid ((hb3.block _ (row_lt QA.out)).trans QA.out)
        have QZ3 := Lib.hid ((hb3.block _ (row_lt QZ.out)).trans QZ.out)
        have QR3 := Lib.hid QR
        have B3 := Lib.hid (below_on B1.out hb3)
        clear QR hb3 hzB
        obtain ⟨a0, a1, a2, a3, a4, a5, a6, a7, a8, a9⟩ := at_cells QA3.out
        go_wp2_with fail
        refine (HI5.out _).mono ?_
        rintro e w4 ⟨rfl, hb4⟩
        have QA4 := Lib.hid ((hb4.block _ (row_lt QA3.out)).trans QA3.out)
        have QZ4 := Lib.hid ((hb4.block _ (row_lt QZ3.out)).trans QZ3.out)
        have QR4 := Lib.hid ((hb4.block _ (row_lt QR3.out)).trans QR3.out)
        have B4 := Lib.hid (below_on B3.out hb4)
        clear a0 a1 a2 a3 a4 a5 a6 a7 a8 a9 hb4
        obtain ⟨a0, a1, a2, a3, a4, a5, a6, a7, a8, a9⟩ := at_cells QA4.out
        obtain ⟨r1, _⟩ := rt_row QR4.out
        have f1 := row_free QR4.out 0
        go_upto_region 5 with (fail)
        obtain ⟨W5, hW5⟩ : ∃ W5, W5 = w4.setCell ⟨B, 0, none⟩ (.int .i64 c.a.loc) := ⟨_, rfl⟩
        have QR5 := Lib.hid (set_same QR4.out 0 (.int .i64 c.a.loc))
        have QZ5 := Lib.hid ((set_other (W := w4) B 0 (.int .i64 c.a.loc) nZ).trans QZ4.out)
        have B5 := Lib.hid (B4.out.setCell (p := ⟨B, 0, none⟩) BG.out (.int .i64 c.a.loc))
        rw [← hW5] at QR5 QZ5 B5 ⊢
        clear a0 a1 a2 a3 a4 a5 a6 a7 a8 a9 r1 f1 hW5
        have QR8 : Hid (W5.heap[B]? = some (.cells (rtA ⟨c.a.loc, hopsN c.a.path, c.a.origin, firstN c.a.path, c.a.med, c.id, c.peer⟩) 48 (0, 0))) := Lib.hid QR5.out
        obtain ⟨r0, r1, r2, r3, r4, r5, r6⟩ := rt_row QR8.out
        go_wp2_with (refine st_row rfl 48 (.tmp 2) (.tmp 27) rfl (w.heap.size + 1) rfl 48 rtZA (rtA ⟨c.a.loc, hopsN c.a.path, c.a.origin, firstN c.a.path, c.a.med, c.id, c.peer⟩) rfl QZ5.out (by kernel_rfl) rfl (rt_one _) ?_)
        refine bodyPost_ret (results_plain _ _ (w.heap.size + 1) ⟨c.a.loc, hopsN c.a.path, c.a.origin, firstN c.a.path, c.a.med, c.id, c.peer⟩ ?_ (setRow_heap _ _ _ _ _ _ QZ5.out)) rfl ⟨by rw [EL.out], below_setRow B5.out (Nat.le_succ _) _⟩
        rfl
      · (try clear hb); go_simp; (refine allocK rtZA 48 (p := K _) ?_); intro w1 hz hb; have hzB := hHeld.size; refine hK.out _ _ ?_ (fun hHeld => ?_); (· exact hHeld.trans (hb.mono hHeld.size)); clear hK K
        try simp only [Act.put, List.setIfInBounds_toArray, List.set_cons_zero, List.set_cons_succ]
        refine rg_call (i := 5) (atS (atS (atS (atS (atS at0))))) (by kernel_rfl) ?_ (fun K hK => ?_); (· rfl); (try clear hb); go_simp; (refine (HF.out _ (HPs.out.below hHeld)).mono ?_; rintro e w1 ⟨rfl, hb⟩); (try replace hz := (hb.block _ (row_lt hz)).trans hz); go_wp2_with fail; refine hK.out _ _ ?_ (fun hHeld => ?_); (· exact hHeld.trans (hb.mono hHeld.size)); clear hK K
        try simp only [Act.put, List.setIfInBounds_toArray, List.set_cons_zero, List.set_cons_succ]
        refine rg_yes (i := 13) (v := ?_) (atS (atS (atS (atS (atS (atS (atS (atS (atS (atS (atS (atS (atS at0))))))))))))) (by kernel_rfl) (by kernel_rfl) (by kernel_rfl) (fun _ _ _ h => h) ?_ ?_ hHeld ?_; rotate_left 1; (· rfl); (· intro w' hSw; (try dsimp only at hSw); (try clear hHeld); go_simp; try with_reducible rfl)
        try simp only [Act.put, List.setIfInBounds_toArray, List.set_cons_zero, List.set_cons_succ]
        refine rg_call (i := 15) (atS (atS (atS (atS (atS (atS (atS (atS (atS (atS (atS (atS (atS (atS (atS at0))))))))))))))) (by kernel_rfl) ?_ (fun K hK => ?_); (· rfl); (try clear hb); refine wp_store_rowat 48 (.tmp 4) (.tmp 21) rfl _ rfl 48 rtZA (rtA ⟨100, hopsN c.a.path, c.a.origin, firstN c.a.path, c.a.med, c.id, c.peer⟩) rfl hz (by kernel_rfl) rfl (rt_one _) ?_; refine hK.out _ _ ?_ (fun hHeld => ?_); (· exact below_setRow hHeld hzB _); clear hK K
        try simp only [Act.put]
        refine wpAnyH_done (by kernel_rfl) ?_ _
        refine abs_row (p := fun W => Exit.then _ _ _ _ W) (setRow_heap _ _ _ _ _ _ hz) hHeld ?_
        intro W3 QR hb3
        obtain ⟨B, hBe, QR⟩ := pull QR
        rw [← hBe] at hzB ⊢
        clear hBe hz hHeld c0 c13
        clear a0 a1 a2 a3 a4 a5 a6 a7 a8 a9
        have nB : ¬ W0.heap.size = B := by have := row_lt QA.out; omega
        have nZ : ¬ w.heap.size + 1 = B := by have := Z1.out; omega
        have BG : Hid (w.heap.size ≤ B) := Lib.hid (by have := Z1.out; omega)
        have QA3 := Lib.hid ((hb3.block _ (row_lt QA.out)).trans QA.out)
        have QZ3 := Lib.hid ((hb3.block _ (row_lt QZ.out)).trans QZ.out)
        have QR3 := Lib.hid QR
        have B3 := Lib.hid (below_on B1.out hb3)
        clear QR hb3 hzB
        obtain ⟨a0, a1, a2, a3, a4, a5, a6, a7, a8, a9⟩ := at_cells QA3.out
        go_wp2_with fail
        refine (HI5.out _).mono ?_
        rintro e w4 ⟨rfl, hb4⟩
        have QA4 := Lib.hid ((hb4.block _ (row_lt QA3.out)).trans QA3.out)
        have QZ4 := Lib.hid ((hb4.block _ (row_lt QZ3.out)).trans QZ3.out)
        have QR4 := Lib.hid ((hb4.block _ (row_lt QR3.out)).trans QR3.out)
        have B4 := Lib.hid (below_on B3.out hb4)
        clear a0 a1 a2 a3 a4 a5 a6 a7 a8 a9 hb4
        obtain ⟨a0, a1, a2, a3, a4, a5, a6, a7, a8, a9⟩ := at_cells QA4.out
        obtain ⟨r1, _⟩ := rt_row QR4.out
        have f1 := row_free QR4.out 0
        go_upto_region 5 with (fail)
        obtain ⟨W5, hW5⟩ : ∃ W5, W5 = w4.setCell ⟨B, 0, none⟩ (.int .i64 c.a.loc) := ⟨_, rfl⟩
        have QR5 := Lib.hid (set_same QR4.out 0 (.int .i64 c.a.loc))
        have QZ5 := Lib.hid ((set_other (W := w4) B 0 (.int .i64 c.a.loc) nZ).trans QZ4.out)
        have B5 := Lib.hid (B4.out.setCell (p := ⟨B, 0, none⟩) BG.out (.int .i64 c.a.loc))
        rw [← hW5] at QR5 QZ5 B5 ⊢
        clear a0 a1 a2 a3 a4 a5 a6 a7 a8 a9 r1 f1 hW5
        have QR8 : Hid (W5.heap[B]? = some (.cells (rtA ⟨c.a.loc, hopsN c.a.path, c.a.origin, firstN c.a.path, c.a.med, c.id, c.peer⟩) 48 (0, 0))) := Lib.hid QR5.out
        obtain ⟨r0, r1, r2, r3, r4, r5, r6⟩ := rt_row QR8.out
        go_wp2_with (refine st_row rfl 48 (.tmp 2) (.tmp 27) rfl (w.heap.size + 1) rfl 48 rtZA (rtA ⟨c.a.loc, hopsN c.a.path, c.a.origin, firstN c.a.path, c.a.med, c.id, c.peer⟩) rfl QZ5.out (by kernel_rfl) rfl (rt_one _) ?_)
        refine bodyPost_ret (results_plain _ _ (w.heap.size + 1) ⟨c.a.loc, hopsN c.a.path, c.a.origin, firstN c.a.path, c.a.med, c.id, c.peer⟩ ?_ (setRow_heap _ _ _ _ _ _ QZ5.out)) rfl ⟨by rw [EL.out], below_setRow B5.out (Nat.le_succ _) _⟩
        rfl
    · (try clear hb); go_simp; (refine allocK rtZA 48 (p := K _) ?_); intro w1 hz hb; have hzB := hHeld.size; refine hK.out _ _ ?_ (fun hHeld => ?_); (· exact hHeld.trans (hb.mono hHeld.size)); clear hK K
      try simp only [Act.put, List.setIfInBounds_toArray, List.set_cons_zero, List.set_cons_succ]
      refine rg_call (i := 1) (atS at0) (by kernel_rfl) ?_ (fun K hK => ?_); (· rfl); (try clear hb); go_simp; (refine (HH.out _ (HPs.out.below hHeld)).mono ?_; rintro e w1 ⟨rfl, hb⟩); (try replace hz := (hb.block _ (row_lt hz)).trans hz); go_wp2_with fail; refine hK.out _ _ ?_ (fun hHeld => ?_); (· exact hHeld.trans (hb.mono hHeld.size)); clear hK K
      try simp only [Act.put, List.setIfInBounds_toArray, List.set_cons_zero, List.set_cons_succ]
      refine rg_call (i := 5) (atS (atS (atS (atS (atS at0))))) (by kernel_rfl) ?_ (fun K hK => ?_); (· rfl); (try clear hb); go_simp; (refine (HF.out _ (HPs.out.below hHeld)).mono ?_; rintro e w1 ⟨rfl, hb⟩); (try replace hz := (hb.block _ (row_lt hz)).trans hz); go_wp2_with fail; refine hK.out _ _ ?_ (fun hHeld => ?_); (· exact hHeld.trans (hb.mono hHeld.size)); clear hK K
      try simp only [Act.put, List.setIfInBounds_toArray, List.set_cons_zero, List.set_cons_succ]
      refine rg_yes (i := 13) (v := ?_) (atS (atS (atS (atS (atS (atS (atS (atS (atS (atS (atS (atS (atS at0))))))))))))) (by kernel_rfl) (by kernel_rfl) (by kernel_rfl) (fun _ _ _ h => h) ?_ ?_ hHeld ?_; rotate_left 1; (· rfl); (· intro w' hSw; (try dsimp only at hSw); (try clear hHeld); go_simp; try with_reducible rfl)
      try simp only [Act.put, List.setIfInBounds_toArray, List.set_cons_zero, List.set_cons_succ]
      refine rg_call (i := 15) (atS (atS (atS (atS (atS (atS (atS (atS (atS (atS (atS (atS (atS (atS (atS at0))))))))))))))) (by kernel_rfl) ?_ (fun K hK => ?_); (· rfl); (try clear hb); refine wp_store_rowat 48 (.tmp 4) (.tmp 21) rfl _ rfl 48 rtZA (rtA ⟨100, hopsN c.a.path, c.a.origin, firstN c.a.path, c.a.med, c.id, c.peer⟩) rfl hz (by kernel_rfl) rfl (rt_one _) ?_; refine hK.out _ _ ?_ (fun hHeld => ?_); (· exact below_setRow hHeld hzB _); clear hK K
      try simp only [Act.put]
      refine wpAnyH_done (by kernel_rfl) ?_ _
      refine abs_row (p := fun W => Exit.then _ _ _ _ W) (setRow_heap _ _ _ _ _ _ hz) hHeld ?_
      intro W3 QR hb3
      obtain ⟨B, hBe, QR⟩ := pull QR
      rw [← hBe] at hzB ⊢
      clear hBe hz hHeld c0 c13
      clear a0 a1 a2 a3 a4 a5 a6 a7 a8 a9
      have nB : ¬ W0.heap.size = B := by have := row_lt QA.out; omega
      have nZ : ¬ w.heap.size + 1 = B := by have := Z1.out; omega
      have BG : Hid (w.heap.size ≤ B) := Lib.hid (by have := Z1.out; omega)
      have QA3 := Lib.hid ((hb3.block _ (row_lt QA.out)).trans QA.out)
      have QZ3 := Lib.hid ((hb3.block _ (row_lt QZ.out)).trans QZ.out)
      have QR3 := Lib.hid QR
      have B3 := Lib.hid (below_on B1.out hb3)
      clear QR hb3 hzB
      obtain ⟨a0, a1, a2, a3, a4, a5, a6, a7, a8, a9⟩ := at_cells QA3.out
      go_wp2_with fail
      refine (HI5.out _).mono ?_
      rintro e w4 ⟨rfl, hb4⟩
      have QA4 := Lib.hid ((hb4.block _ (row_lt QA3.out)).trans QA3.out)
      have QZ4 := Lib.hid ((hb4.block _ (row_lt QZ3.out)).trans QZ3.out)
      have QR4 := Lib.hid ((hb4.block _ (row_lt QR3.out)).trans QR3.out)
      have B4 := Lib.hid (below_on B3.out hb4)
      clear a0 a1 a2 a3 a4 a5 a6 a7 a8 a9 hb4
      obtain ⟨a0, a1, a2, a3, a4, a5, a6, a7, a8, a9⟩ := at_cells QA4.out
      obtain ⟨r1, _⟩ := rt_row QR4.out
      have f1 := row_free QR4.out 0
      go_upto_region 5 with (fail)
      obtain ⟨W5, hW5⟩ : ∃ W5, W5 = w4.setCell ⟨B, 0, none⟩ (.int .i64 c.a.loc) := ⟨_, rfl⟩
      have QR5 := Lib.hid (set_same QR4.out 0 (.int .i64 c.a.loc))
      have QZ5 := Lib.hid ((set_other (W := w4) B 0 (.int .i64 c.a.loc) nZ).trans QZ4.out)
      have B5 := Lib.hid (B4.out.setCell (p := ⟨B, 0, none⟩) BG.out (.int .i64 c.a.loc))
      rw [← hW5] at QR5 QZ5 B5 ⊢
      clear a0 a1 a2 a3 a4 a5 a6 a7 a8 a9 r1 f1 hW5
      have QR8 : Hid (W5.heap[B]? = some (.cells (rtA ⟨c.a.loc, hopsN c.a.path, c.a.origin, firstN c.a.path, c.a.med, c.id, c.peer⟩) 48 (0, 0))) := Lib.hid QR5.out
      obtain ⟨r0, r1, r2, r3, r4, r5, r6⟩ := rt_row QR8.out
      go_wp2_with (refine st_row rfl 48 (.tmp 2) (.tmp 27) rfl (w.heap.size + 1) rfl 48 rtZA (rtA ⟨c.a.loc, hopsN c.a.path, c.a.origin, firstN c.a.path, c.a.med, c.id, c.peer⟩) rfl QZ5.out (by kernel_rfl) rfl (rt_one _) ?_)
      refine bodyPost_ret (results_plain _ _ (w.heap.size + 1) ⟨c.a.loc, hopsN c.a.path, c.a.origin, firstN c.a.path, c.a.med, c.id, c.peer⟩ ?_ (setRow_heap _ _ _ _ _ _ QZ5.out)) rfl ⟨by rw [EL.out], below_setRow B5.out (Nat.le_succ _) _⟩
      rfl
end Go.Proofs.Ytfkplbkllmnfeaa
