/- Texts of one proof, one behind another. -/
import Derived.Test.YtkoidahgbbabiaaGreatSf4
import Derived.Test.YtkoidahgbbabiaaGreatSf1
/-
  CHOOSE: candidates; what counts of one (rankOf); the same for the reference (plain).
-/
namespace Go.Proofs.YtkoidahgbbabiaaGreat
open Go.RowKit
structure Cd where
  peer : Int
  na : Nat
  nl : Int
  a : At
  id : Nat
abbrev cdA (c : Cd) (vp vc vo : Value) : Array Value := #[.int .i64 c.peer, .int .u32 c.na, .int .i64 c.nl, .int .i64 c.a.has, .int .i64 c.a.origin, vp, .int .u32 c.a.hop, .int .i64 c.a.med, .int .i64 c.a.loc, .int .i64 c.a.aggrAs, .int .u32 c.a.aggrId, vc, vo, .int .u32 c.id]
abbrev atA (a : At) (vp vc vo : Value) : Array Value := #[.int .i64 a.has, .int .i64 a.origin, vp, .int .u32 a.hop, .int .i64 a.med, .int .i64 a.loc, .int .i64 a.aggrAs, .int .u32 a.aggrId, vc, vo]
def locOf (a : At) : Int := if isB a.has 5 then a.loc else 100
def medOf (a : At) : Int := if isB a.has 4 then a.med else 0
def rkOf (n : Int) (c : Cd) : Rk := ⟨n, locOf c.a, hopsN c.a.path, c.a.origin, firstN c.a.path, medOf c.a, c.id, c.peer⟩
theorem boxCd (w : World) (C : Array Value) (T : TypeId) (Z : Array Value) (U : TypeId) : ∃ W0, W0 = (w.alloc (.cells C T)).alloc (.cells Z U) ∧ W0.heap[w.heap.size]? = some (.cells C T (0, 0)) ∧ W0.heap[w.heap.size + 1]? = some (.cells Z U (0, 0)) ∧ Below w.heap.size w W0 := by
  refine ⟨_, rfl, ?_, ?_, ((Below.refl _ _).alloc (Nat.le_refl _) _).alloc (by simp) _⟩
  · have h1 := heap_alloc_new w (.cells C T)
    have h2 : Below (w.alloc (.cells C T)).heap.size (w.alloc (.cells C T)) ((w.alloc (.cells C T)).alloc (.cells Z U)) := (Below.refl _ _).alloc (Nat.le_refl _) _
    exact (h2.block _ (row_lt h1)).trans h1
  · have h1 := heap_alloc_new (w.alloc (.cells C T)) (.cells Z U)
    simpa using h1
theorem allocK {w : World} (C : Array Value) (T : TypeId) {p : World → Prop} (H : ∀ W0 : World, W0.heap[w.heap.size]? = some (.cells C T (0, 0)) → Below w.heap.size w W0 → p W0) : p (w.alloc (.cells C T)) :=
  H _ (heap_alloc_new w _) ((Below.refl _ _).alloc (Nat.le_refl _) _)
theorem abs_row {p : World → Prop} {W1 w : World} {B : Nat} {C : Array Value} {T : TypeId} (h1 : w.heap[B]? = some (.cells C T (0, 0))) (h2 : Below W1.heap.size W1 w) (H : ∀ W : World, W.heap[B]? = some (.cells C T (0, 0)) → Below W1.heap.size W1 W → p W) : p w := H w h1 h2
theorem pull {W : World} {B : Nat} {o : Option Obj} (h : W.heap[B]? = o) : ∃ b, b = B ∧ W.heap[b]? = o := ⟨B, rfl, h⟩
theorem at_cells {W : World} {b : Nat} {a : At} {vp vc vo : Value} {T : TypeId} (q : W.heap[b]? = some (.cells (atA a vp vc vo) T (0, 0))) :
    W.cell? ⟨b, 0, none⟩ = some (.int .i64 a.has) ∧ W.cell? ⟨b, 1, none⟩ = some (.int .i64 a.origin) ∧ W.cell? ⟨b, 2, none⟩ = some vp ∧ W.cell? ⟨b, 3, none⟩ = some (.int .u32 a.hop) ∧ W.cell? ⟨b, 4, none⟩ = some (.int .i64 a.med) ∧ W.cell? ⟨b, 5, none⟩ = some (.int .i64 a.loc) ∧
    W.cell? ⟨b, 6, none⟩ = some (.int .i64 a.aggrAs) ∧ W.cell? ⟨b, 7, none⟩ = some (.int .u32 a.aggrId) ∧ W.cell? ⟨b, 8, none⟩ = some vc ∧ W.cell? ⟨b, 9, none⟩ = some vo :=
  ⟨row_cell q 0, row_cell q 1, row_cell q 2, row_cell q 3, row_cell q 4, row_cell q 5, row_cell q 6, row_cell q 7, row_cell q 8, row_cell q 9⟩
theorem rk_row {W : World} {b : Nat} {r : Rk} {T : TypeId} (q : W.heap[b]? = some (.cells (rkA r) T (0, 0))) :
    W.cell? ⟨b, 0, none⟩ = some (.int .i64 r.place) ∧ W.cell? ⟨b, 1, none⟩ = some (.int .i64 r.loc) ∧ W.cell? ⟨b, 2, none⟩ = some (.int .i64 r.hops) ∧ W.cell? ⟨b, 3, none⟩ = some (.int .i64 r.origin) ∧
    W.cell? ⟨b, 4, none⟩ = some (.int .i64 r.first) ∧ W.cell? ⟨b, 5, none⟩ = some (.int .i64 r.med) ∧ W.cell? ⟨b, 6, none⟩ = some (.int .u32 r.id) ∧ W.cell? ⟨b, 7, none⟩ = some (.int .i64 r.peer) :=
  ⟨row_cell q 0, row_cell q 1, row_cell q 2, row_cell q 3, row_cell q 4, row_cell q 5, row_cell q 6, row_cell q 7⟩
theorem results_rankOf (tmps : Array Value) (W : World) (b : Nat) (r : Rk) (h4 : tmps.getD 4 undef = .pointer (some ⟨b, 0, none⟩)) (hb : W.heap[b]? = some (.cells (rkA r) 200 (0, 0))) :
    (results Tryz.f163 tmps).run Tryz.prog W = .ok (.agg (rkA r)) W := results_cell_row Tryz.results163 tmps W b 200 (rkA r) (0, 0) _ h4 hb Tryz.underlying200 rfl (by kernel_rfl)
set_option maxHeartbeats 6400000 in
set_option maxRecDepth 100000 in
theorem ch_rankOf (n : Int) (c : Cd) (vp vc vo : Value) (w : World) (hA : AtL w c.a vp vc vo) (hh : hopsN c.a.path ≤ 4611686018427387904) :
    Calls Tryz.prog 163 #[.int .i64 n, .agg (cdA c vp vc vo)] w fun e w' => e = .returned (.agg (rkA (rkOf n c))) ∧ Below w.heap.size w w' := by
  have HH := Lib.hid (fun W h => at_Hops (.int .i64 c.a.has) (.int .i64 c.a.origin) vp (.int .u32 c.a.hop) (.int .i64 c.a.med) (.int .i64 c.a.loc) (.int .i64 c.a.aggrAs) (.int .u32 c.a.aggrId) vc vo c.a.path W h hh)
  have HF := Lib.hid (fun W h => at_First (.int .i64 c.a.has) (.int .i64 c.a.origin) vp (.int .u32 c.a.hop) (.int .i64 c.a.med) (.int .i64 c.a.loc) (.int .i64 c.a.aggrAs) (.int .u32 c.a.aggrId) vc vo c.a.path W h)
  have HI := Lib.hid (fun t W => at_Is c.a.has (.int .i64 c.a.origin) vp (.int .u32 c.a.hop) (.int .i64 c.a.med) (.int .i64 c.a.loc) (.int .i64 c.a.aggrAs) (.int .u32 c.a.aggrId) vc vo t W)
  have HP := Lib.hid hA.1
  obtain ⟨⟨sp, cp, rfl, _⟩, ⟨sc, cc, rfl, _⟩, ⟨so, co, rfl, _⟩⟩ := hA
  go_enter Tryz.func163, Tryz.ntmps163
  go_upto_region 1 with (fail)
  obtain ⟨W0, hW0, qc, qz, hb0⟩ := boxCd w (cdA c (.slice sp c.a.path.length cp) (.slice sc c.a.comms.length cc) (.slice so c.a.others.length co)) 99 rkZA 200
  rw [← hW0]
  clear hW0
  have c0 : W0.cell? ⟨w.heap.size, 0, none⟩ = some (.int .i64 c.peer) := row_cell qc 0
  have c3 : W0.cell? ⟨w.heap.size, 3, none⟩ = some (.int .i64 c.a.has) := row_cell qc 3
  have c4 : W0.cell? ⟨w.heap.size, 4, none⟩ = some (.int .i64 c.a.origin) := row_cell qc 4
  have c5 : W0.cell? ⟨w.heap.size, 5, none⟩ = some (.slice sp c.a.path.length cp) := row_cell qc 5
  have c6 : W0.cell? ⟨w.heap.size, 6, none⟩ = some (.int .u32 c.a.hop) := row_cell qc 6
  have c7 : W0.cell? ⟨w.heap.size, 7, none⟩ = some (.int .i64 c.a.med) := row_cell qc 7
  have c8 : W0.cell? ⟨w.heap.size, 8, none⟩ = some (.int .i64 c.a.loc) := row_cell qc 8
  have c9 : W0.cell? ⟨w.heap.size, 9, none⟩ = some (.int .i64 c.a.aggrAs) := row_cell qc 9
  have c10 : W0.cell? ⟨w.heap.size, 10, none⟩ = some (.int .u32 c.a.aggrId) := row_cell qc 10
  have c11 : W0.cell? ⟨w.heap.size, 11, none⟩ = some (.slice sc c.a.comms.length cc) := row_cell qc 11
  have c12 : W0.cell? ⟨w.heap.size, 12, none⟩ = some (.slice so c.a.others.length co) := row_cell qc 12
  have c13 : W0.cell? ⟨w.heap.size, 13, none⟩ = some (.int .u32 c.id) := row_cell qc 13
  clear qc
  have QZ := Lib.hid qz
  clear qz
  go_upto_region 2 with (fail)
  obtain ⟨W1, hW1, q, hb1, _⟩ := boxA W0 (.int .i64 c.a.has) (.int .i64 c.a.origin) (.slice sp c.a.path.length cp) (.int .u32 c.a.hop) (.int .i64 c.a.med) (.int .i64 c.a.loc) (.int .i64 c.a.aggrAs) (.int .u32 c.a.aggrId) (.slice sc c.a.comms.length cc) (.slice so c.a.others.length co)
  rw [← hW1]
  clear hW1
  have a0 : W1.cell? ⟨W0.heap.size, 0, none⟩ = some (.int .i64 c.a.has) := row_cell q 0
  have a1 : W1.cell? ⟨W0.heap.size, 1, none⟩ = some (.int .i64 c.a.origin) := row_cell q 1
  have a2 : W1.cell? ⟨W0.heap.size, 2, none⟩ = some (.slice sp c.a.path.length cp) := row_cell q 2
  have a3 : W1.cell? ⟨W0.heap.size, 3, none⟩ = some (.int .u32 c.a.hop) := row_cell q 3
  have a4 : W1.cell? ⟨W0.heap.size, 4, none⟩ = some (.int .i64 c.a.med) := row_cell q 4
  have a5 : W1.cell? ⟨W0.heap.size, 5, none⟩ = some (.int .i64 c.a.loc) := row_cell q 5
  have a6 : W1.cell? ⟨W0.heap.size, 6, none⟩ = some (.int .i64 c.a.aggrAs) := row_cell q 6
  have a7 : W1.cell? ⟨W0.heap.size, 7, none⟩ = some (.int .u32 c.a.aggrId) := row_cell q 7
  have a8 : W1.cell? ⟨W0.heap.size, 8, none⟩ = some (.slice sc c.a.comms.length cc) := row_cell q 8
  have a9 : W1.cell? ⟨W0.heap.size, 9, none⟩ = some (.slice so c.a.others.length co) := row_cell q 9
  have c0 := cell_below c0 hb1
  have c13 := cell_below c13 hb1
  have HPs := Lib.hid ((HP.out.below hb0).below hb1)
  have QZ := Lib.hid ((hb1.block _ (row_lt QZ.out)).trans QZ.out)
  have QA := Lib.hid q
  have B1 := Lib.hid (below_on hb0 hb1)
  have Z1 := Lib.hid (row_lt QZ.out)
  clear q hb0 hb1 c3 c4 c5 c6 c7 c8 c9 c10 c11 c12
  cases hl : isB c.a.has 5
  · cases hm : isB c.a.has 4
    · have EL : Hid (rkOf n c = ⟨n, 100, hopsN c.a.path, c.a.origin, firstN c.a.path, 0, c.id, c.peer⟩) := Lib.hid (by unfold rkOf locOf medOf; rw [hl, hm]; rfl)
      have HI5 := Lib.hid (HI.out 5)
      have HI4 := Lib.hid (HI.out 4)
      rw [hl] at HI5
      rw [hm] at HI4
      clear hl hm
      go_wp2_with fail
      refine wp_region_held_drew (S := fun w' => Below W1.heap.size W1 w') (by kernel_rfl) ?_ (fun hHeld => ?_)
      · exact (Below.refl _ _).drew
      generalize World.drew W1 = wd at hHeld ⊢
      refine rg_yes (i := 0) (v := ?_) at0 (by kernel_rfl) (by kernel_rfl) (by kernel_rfl) (fun _ _ _ h => h) ?_ ?_ hHeld ?_; rotate_left 1; (· rfl); (· intro w' hSw; (try dsimp only at hSw); (try clear hHeld); go_simp; try with_reducible rfl)
      try simp only [zp1, zp3, zp4, zp5]
      refine rg_yes (i := 1) (v := ?_) (atS at0) (by kernel_rfl) (by kernel_rfl) (by kernel_rfl) (fun _ _ _ h => h) ?_ ?_ hHeld ?_; rotate_left 1; (· rfl); (· intro w' hSw; (try dsimp only at hSw); have c0 := cell_below c0 hSw; have c13 := cell_below c13 hSw; have a0 := cell_below a0 hSw; have a1 := cell_below a1 hSw; have a2 := cell_below a2 hSw; have a3 := cell_below a3 hSw; have a4 := cell_below a4 hSw; have a5 := cell_below a5 hSw; have a6 := cell_below a6 hSw; have a7 := cell_below a7 hSw; have a8 := cell_below a8 hSw; have a9 := cell_below a9 hSw; (try clear hHeld); go_simp; try with_reducible rfl)
      try simp only [zp1, zp3, zp4, zp5]
      refine rg_yes (i := 3) (v := ?_) (atS (atS (atS at0))) (by kernel_rfl) (by kernel_rfl) (by kernel_rfl) (fun _ _ _ h => h) ?_ ?_ hHeld ?_; rotate_left 1; (· rfl); (· intro w' hSw; (try dsimp only at hSw); (try clear hHeld); go_simp; try with_reducible rfl)
      try simp only [zp1, zp3, zp4, zp5]
      refine rg_yes (i := 4) (v := ?_) (atS (atS (atS (atS at0)))) (by kernel_rfl) (by kernel_rfl) (by kernel_rfl) (fun _ _ _ h => h) ?_ ?_ hHeld ?_; rotate_left 1; (· rfl); (· intro w' hSw; (try dsimp only at hSw); have c0 := cell_below c0 hSw; have c13 := cell_below c13 hSw; have a0 := cell_below a0 hSw; have a1 := cell_below a1 hSw; have a2 := cell_below a2 hSw; have a3 := cell_below a3 hSw; have a4 := cell_below a4 hSw; have a5 := cell_below a5 hSw; have a6 := cell_below a6 hSw; have a7 := cell_below a7 hSw; have a8 := cell_below a8 hSw; have a9 := cell_below a9 hSw; (try clear hHeld); go_simp; try with_reducible rfl)
      try simp only [zp1, zp3, zp4, zp5]
      refine rg_yes (i := 5) (v := ?_) (atS (atS (atS (atS (atS at0))))) (by kernel_rfl) (by kernel_rfl) (by kernel_rfl) (fun _ _ _ h => h) ?_ ?_ hHeld ?_; rotate_left 1; (· rfl); (· intro w' hSw; (try dsimp only at hSw); have c0 := cell_below c0 hSw; have c13 := cell_below c13 hSw; have a0 := cell_below a0 hSw; have a1 := cell_below a1 hSw; have a2 := cell_below a2 hSw; have a3 := cell_below a3 hSw; have a4 := cell_below a4 hSw; have a5 := cell_below a5 hSw; have a6 := cell_below a6 hSw; have a7 := cell_below a7 hSw; have a8 := cell_below a8 hSw; have a9 := cell_below a9 hSw; (try clear hHeld); go_simp; try with_reducible rfl)
      try simp only [zp1, zp3, zp4, zp5]
      refine rg_yes (i := 7) (v := ?_) (atS (atS (atS (atS (atS (atS (atS at0))))))) (by kernel_rfl) (by kernel_rfl) (by kernel_rfl) (fun _ _ _ h => h) ?_ ?_ hHeld ?_; rotate_left 1; (· rfl); (· intro w' hSw; (try dsimp only at hSw); (try clear hHeld); go_simp; try with_reducible rfl)
      try simp only [zp1, zp3, zp4, zp5]
      refine rg_yes (i := 8) (v := ?_) (atS (atS (atS (atS (atS (atS (atS (atS at0)))))))) (by kernel_rfl) (by kernel_rfl) (by kernel_rfl) (fun _ _ _ h => h) ?_ ?_ hHeld ?_; rotate_left 1; (· rfl); (· intro w' hSw; (try dsimp only at hSw); have c0 := cell_below c0 hSw; have c13 := cell_below c13 hSw; have a0 := cell_below a0 hSw; have a1 := cell_below a1 hSw; have a2 := cell_below a2 hSw; have a3 := cell_below a3 hSw; have a4 := cell_below a4 hSw; have a5 := cell_below a5 hSw; have a6 := cell_below a6 hSw; have a7 := cell_below a7 hSw; have a8 := cell_below a8 hSw; have a9 := cell_below a9 hSw; (try clear hHeld); go_simp; try with_reducible rfl)
      try simp only [zp1, zp3, zp4, zp5]
      refine rg_yes (i := 9) (v := ?_) (atS (atS (atS (atS (atS (atS (atS (atS (atS at0))))))))) (by kernel_rfl) (by kernel_rfl) (by kernel_rfl) (fun _ _ _ h => h) ?_ ?_ hHeld ?_; rotate_left 1; (· rfl); (· intro w' hSw; (try dsimp only at hSw); (try clear hHeld); go_simp; try with_reducible rfl)
      try simp only [zp1, zp3, zp4, zp5]
      refine rg_yes (i := 10) (v := ?_) (atS (atS (atS (atS (atS (atS (atS (atS (atS (atS at0)))))))))) (by kernel_rfl) (by kernel_rfl) (by kernel_rfl) (fun _ _ _ h => h) ?_ ?_ hHeld ?_; rotate_left 1; (· rfl); (· intro w' hSw; (try dsimp only at hSw); (try clear hHeld); go_simp; try with_reducible rfl)
      try simp only [zp1, zp3, zp4, zp5]
      refine rg_yes (i := 11) (v := ?_) (atS (atS (atS (atS (atS (atS (atS (atS (atS (atS (atS at0))))))))))) (by kernel_rfl) (by kernel_rfl) (by kernel_rfl) (fun _ _ _ h => h) ?_ ?_ hHeld ?_; rotate_left 1; (· rfl); (· intro w' hSw; (try dsimp only at hSw); have c0 := cell_below c0 hSw; have c13 := cell_below c13 hSw; have a0 := cell_below a0 hSw; have a1 := cell_below a1 hSw; have a2 := cell_below a2 hSw; have a3 := cell_below a3 hSw; have a4 := cell_below a4 hSw; have a5 := cell_below a5 hSw; have a6 := cell_below a6 hSw; have a7 := cell_below a7 hSw; have a8 := cell_below a8 hSw; have a9 := cell_below a9 hSw; (try clear hHeld); go_simp; try with_reducible rfl)
      try simp only [zp1, zp3, zp4, zp5]
      refine rg_call2 (i := 2) (j := 13) (atS (atS at0)) (atS (atS (atS (atS (atS (atS (atS (atS (atS (atS (atS (atS (atS at0))))))))))))) (by kernel_rfl) ?_ ?_ (fun K hK => ?_) (fun K hK => ?_)
      · rfl
      · rfl
      · (try clear hb); go_simp; (refine (HH.out _ (HPs.out.below hHeld)).mono ?_; rintro e w1 ⟨rfl, hb⟩); (try replace hz := (hb.block _ (row_lt hz)).trans hz); go_wp2_with fail; refine hK.out _ _ ?_ (fun hHeld => ?_); (· exact hHeld.trans (hb.mono hHeld.size)); clear hK K
        try simp only [zp1, zp3, zp4, zp5]
        refine rg_call2 (i := 6) (j := 13) (atS (atS (atS (atS (atS (atS at0)))))) (atS (atS (atS (atS (atS (atS (atS (atS (atS (atS (atS (atS (atS at0))))))))))))) (by kernel_rfl) ?_ ?_ (fun K hK => ?_) (fun K hK => ?_)
        · rfl
        · rfl
        · (try clear hb); go_simp; (refine (HF.out _ (HPs.out.below hHeld)).mono ?_; rintro e w1 ⟨rfl, hb⟩); (try replace hz := (hb.block _ (row_lt hz)).trans hz); go_wp2_with fail; refine hK.out _ _ ?_ (fun hHeld => ?_); (· exact hHeld.trans (hb.mono hHeld.size)); clear hK K
          try simp only [zp1, zp3, zp4, zp5]
          refine rg_yes (i := 12) (v := ?_) (atS (atS (atS (atS (atS (atS (atS (atS (atS (atS (atS (atS at0)))))))))))) (by kernel_rfl) (by kernel_rfl) (by kernel_rfl) (fun _ _ _ h => h) ?_ ?_ hHeld ?_; rotate_left 1; (· rfl); (· intro w' hSw; (try dsimp only at hSw); (try clear hHeld); go_simp; try with_reducible rfl)
          try simp only [zp1, zp3, zp4, zp5]
          refine rg_call (i := 13) (atS (atS (atS (atS (atS (atS (atS (atS (atS (atS (atS (atS (atS at0))))))))))))) (by kernel_rfl) ?_ (fun K hK => ?_); (· rfl); (try clear hb); go_simp; (refine allocK rkZA 200 (p := K _) ?_); intro w1 hz hb; have hzB := hHeld.size; refine hK.out _ _ ?_ (fun hHeld => ?_); (· exact hHeld.trans (hb.mono hHeld.size)); clear hK K
          try simp only [zp1, zp3, zp4, zp5]
          refine rg_call (i := 14) (atS (atS (atS (atS (atS (atS (atS (atS (atS (atS (atS (atS (atS (atS at0)))))))))))))) (by kernel_rfl) ?_ (fun K hK => ?_); (· rfl); (try clear hb); refine wp_store_rowat 200 (.tmp 6) (.tmp 22) rfl _ rfl 200 rkZA (rkA ⟨n, 100, hopsN c.a.path, c.a.origin, firstN c.a.path, 0, c.id, c.peer⟩) rfl hz (by kernel_rfl) rfl (rk_one _) ?_; refine hK.out _ _ ?_ (fun hHeld => ?_); (· exact below_setRow hHeld hzB _); clear hK K
          try simp only [Act.put]
          refine wpAnyH_done (by kernel_rfl) ?_ _
          refine abs_row (p := fun W => Exit.then _ _ _ _ W) (setRow_heap _ _ _ _ _ _ hz) hHeld ?_
          intro W3 QR hb3
          obtain ⟨B, hBe, QR⟩ := pull QR
          rw [← hBe] at hzB ⊢
          clear hBe hz hHeld c0 c13
          clear a0 a1 a2 a3 a4 a5 a6 a7 a8 a9
          have nB : ¬ W0.heap.size = B := by have := row_lt QA.out; omega
          have nZ : ¬ w.heap.size + 1 = B := by have := Z1.out; omega
          have BG : Hid (w.heap.size ≤ B) := Lib.hid (by have := Z1.out; omega)
          have QA3 := Lib.hid ((hb3.block _ (row_lt QA.out)).trans QA.out)
          have QZ3 := Lib.hid ((hb3.block _ (row_lt QZ.out)).trans QZ.out)
          have QR3 := Lib.hid QR
          have B3 := Lib.hid (below_on B1.out hb3)
          clear QR hb3 hzB
          obtain ⟨a0, a1, a2, a3, a4, a5, a6, a7, a8, a9⟩ := at_cells QA3.out
          go_wp2_with fail
          refine (HI5.out _).mono ?_
          rintro e w4 ⟨rfl, hb4⟩
          have QA4 := Lib.hid ((hb4.block _ (row_lt QA3.out)).trans QA3.out)
          have QZ4 := Lib.hid ((hb4.block _ (row_lt QZ3.out)).trans QZ3.out)
          have QR4 := Lib.hid ((hb4.block _ (row_lt QR3.out)).trans QR3.out)
          have B4 := Lib.hid (below_on B3.out hb4)
          clear a0 a1 a2 a3 a4 a5 a6 a7 a8 a9 hb4
          obtain ⟨a0, a1, a2, a3, a4, a5, a6, a7, a8, a9⟩ := at_cells QA4.out
          have QR5 := QR4
          have QA5 := QA4
          have QZ5 := QZ4
          have B5 := B4
          go_wp2_with fail
          refine (HI4.out _).mono ?_
          rintro e w6 ⟨rfl, hb6⟩
          have QA6 := Lib.hid ((hb6.block _ (row_lt QA5.out)).trans QA5.out)
          have QZ6 := Lib.hid ((hb6.block _ (row_lt QZ5.out)).trans QZ5.out)
          have QR6 := Lib.hid ((hb6.block _ (row_lt QR5.out)).trans QR5.out)
          have B6 := Lib.hid (below_on B5.out hb6)
          clear a0 a1 a2 a3 a4 a5 a6 a7 a8 a9 hb6
          obtain ⟨a0, a1, a2, a3, a4, a5, a6, a7, a8, a9⟩ := at_cells QA6.out
          have QR7 := QR6
          have QZ7 := QZ6
          have B7 := B6
          clear a0 a1 a2 a3 a4 a5 a6 a7 a8 a9
          have QR8 : Hid (w6.heap[B]? = some (.cells (rkA ⟨n, 100, hopsN c.a.path, c.a.origin, firstN c.a.path, 0, c.id, c.peer⟩) 200 (0, 0))) := Lib.hid QR7.out
          obtain ⟨r0, r1, r2, r3, r4, r5, r6, r7⟩ := rk_row QR8.out
          go_wp2_with (refine st_row rfl 200 (.tmp 4) (.tmp 33) rfl (w.heap.size + 1) rfl 200 rkZA (rkA ⟨n, 100, hopsN c.a.path, c.a.origin, firstN c.a.path, 0, c.id, c.peer⟩) rfl QZ7.out (by kernel_rfl) rfl (rk_one _) ?_)
          refine bodyPost_ret (results_rankOf _ _ (w.heap.size + 1) ⟨n, 100, hopsN c.a.path, c.a.origin, firstN c.a.path, 0, c.id, c.peer⟩ ?_ (setRow_heap _ _ _ _ _ _ QZ7.out)) rfl ⟨by rw [EL.out], below_setRow B7.out (Nat.le_succ _) _⟩
          rfl
        · (try clear hb); go_simp; (refine allocK rkZA 200 (p := K _) ?_); intro w1 hz hb; have hzB := hHeld.size; refine hK.out _ _ ?_ (fun hHeld => ?_); (· exact hHeld.trans (hb.mono hHeld.size)); clear hK K
          try simp only [zp1, zp3, zp4, zp5]
          refine rg_call (i := 6) (atS (atS (atS (atS (atS (atS at0)))))) (by kernel_rfl) ?_ (fun K hK => ?_); (· rfl); (try clear hb); go_simp; (refine (HF.out _ (HPs.out.below hHeld)).mono ?_; rintro e w1 ⟨rfl, hb⟩); (try replace hz := (hb.block _ (row_lt hz)).trans hz); go_wp2_with fail; refine hK.out _ _ ?_ (fun hHeld => ?_); (· exact hHeld.trans (hb.mono hHeld.size)); clear hK K
          try simp only [zp1, zp3, zp4, zp5]
          refine rg_yes (i := 12) (v := ?_) (atS (atS (atS (atS (atS (atS (atS (atS (atS (atS (atS (atS at0)))))))))))) (by kernel_rfl) (by kernel_rfl) (by kernel_rfl) (fun _ _ _ h => h) ?_ ?_ hHeld ?_; rotate_left 1; (· rfl); (· intro w' hSw; (try dsimp only at hSw); (try clear hHeld); go_simp; try with_reducible rfl)
          try simp only [zp1, zp3, zp4, zp5]
          refine rg_call (i := 14) (atS (atS (atS (atS (atS (atS (atS (atS (atS (atS (atS (atS (atS (atS at0)))))))))))))) (by kernel_rfl) ?_ (fun K hK => ?_); (· rfl); (try clear hb); refine wp_store_rowat 200 (.tmp 6) (.tmp 22) rfl _ rfl 200 rkZA (rkA ⟨n, 100, hopsN c.a.path, c.a.origin, firstN c.a.path, 0, c.id, c.peer⟩) rfl hz (by kernel_rfl) rfl (rk_one _) ?_; refine hK.out _ _ ?_ (fun hHeld => ?_); (· exact below_setRow hHeld hzB _); clear hK K
          try simp only [Act.put]
          refine wpAnyH_done (by kernel_rfl) ?_ _
          refine abs_row (p := fun W => Exit.then _ _ _ _ W) (setRow_heap _ _ _ _ _ _ hz) hHeld ?_
          intro W3 QR hb3
          obtain ⟨B, hBe, QR⟩ := pull QR
          rw [← hBe] at hzB ⊢
          clear hBe hz hHeld c0 c13
          clear a0 a1 a2 a3 a4 a5 a6 a7 a8 a9
          have nB : ¬ W0.heap.size = B := by have := row_lt QA.out; omega
          have nZ : ¬ w.heap.size + 1 = B := by have := Z1.out; omega
          have BG : Hid (w.heap.size ≤ B) := Lib.hid (by have := Z1.out; omega)
          have QA3 := Lib.hid ((hb3.block _ (row_lt QA.out)).trans QA.out)
          have QZ3 := Lib.hid ((hb3.block _ (row_lt QZ.out)).trans QZ.out)
          have QR3 := Lib.hid QR
          have B3 := Lib.hid (below_on B1.out hb3)
          clear QR hb3 hzB
          obtain ⟨a0, a1, a2, a3, a4, a5, a6, a7, a8, a9⟩ := at_cells QA3.out
          go_wp2_with fail
          refine (HI5.out _).mono ?_
          rintro e w4 ⟨rfl, hb4⟩
          have QA4 := Lib.hid ((hb4.block _ (row_lt QA3.out)).trans QA3.out)
          have QZ4 := Lib.hid ((hb4.block _ (row_lt QZ3.out)).trans QZ3.out)
          have QR4 := Lib.hid ((hb4.block _ (row_lt QR3.out)).trans QR3.out)
          have B4 := Lib.hid (below_on B3.out hb4)
          clear a0 a1 a2 a3 a4 a5 a6 a7 a8 a9 hb4
          obtain ⟨a0, a1, a2, a3, a4, a5, a6, a7, a8, a9⟩ := at_cells QA4.out
          have QR5 := QR4
          have QA5 := QA4
          have QZ5 := QZ4
          have B5 := B4
          go_wp2_with fail
          refine (HI4.out _).mono ?_
          rintro e w6 ⟨rfl, hb6⟩
          have QA6 := Lib.hid ((hb6.block _ (row_lt QA5.out)).trans QA5.out)
          have QZ6 := Lib.hid ((hb6.block _ (row_lt QZ5.out)).trans QZ5.out)
          have QR6 := Lib.hid ((hb6.block _ (row_lt QR5.out)).trans QR5.out)
          have B6 := Lib.hid (below_on B5.out hb6)
          clear a0 a1 a2 a3 a4 a5 a6 a7 a8 a9 hb6
          obtain ⟨a0, a1, a2, a3, a4, a5, a6, a7, a8, a9⟩ := at_cells QA6.out
          have QR7 := QR6
          have QZ7 := QZ6
          have B7 := B6
          clear a0 a1 a2 a3 a4 a5 a6 a7 a8 a9
          have QR8 : Hid (w6.heap[B]? = some (.cells (rkA ⟨n, 100, hopsN c.a.path, c.a.origin, firstN c.a.path, 0, c.id, c.peer⟩) 200 (0, 0))) := Lib.hid QR7.out
          obtain ⟨r0, r1, r2, r3, r4, r5, r6, r7⟩ := rk_row QR8.out
          go_wp2_with (refine st_row rfl 200 (.tmp 4) (.tmp 33) rfl (w.heap.size + 1) rfl 200 rkZA (rkA ⟨n, 100, hopsN c.a.path, c.a.origin, firstN c.a.path, 0, c.id, c.peer⟩) rfl QZ7.out (by kernel_rfl) rfl (rk_one _) ?_)
          refine bodyPost_ret (results_rankOf _ _ (w.heap.size + 1) ⟨n, 100, hopsN c.a.path, c.a.origin, firstN c.a.path, 0, c.id, c.peer⟩ ?_ (setRow_heap _ _ _ _ _ _ QZ7.out)) rfl ⟨by rw [EL.out], below_setRow B7.out (Nat.le_succ _) _⟩
          rfl
      · (try clear hb); go_simp; (refine allocK rkZA 200 (p := K _) ?_); intro w1 hz hb; have hzB := hHeld.size; refine hK.out _ _ ?_ (fun hHeld => ?_); (· exact hHeld.trans (hb.mono hHeld.size)); clear hK K
        try simp only [zp1, zp3, zp4, zp5]
        refine rg_call (i := 2) (atS (atS at0)) (by kernel_rfl) ?_ (fun K hK => ?_); (· rfl); (try clear hb); go_simp; (refine (HH.out _ (HPs.out.below hHeld)).mono ?_; rintro e w1 ⟨rfl, hb⟩); (try replace hz := (hb.block _ (row_lt hz)).trans hz); go_wp2_with fail; refine hK.out _ _ ?_ (fun hHeld => ?_); (· exact hHeld.trans (hb.mono hHeld.size)); clear hK K
        try simp only [zp1, zp3, zp4, zp5]
        refine rg_call (i := 6) (atS (atS (atS (atS (atS (atS at0)))))) (by kernel_rfl) ?_ (fun K hK => ?_); (· rfl); (try clear hb); go_simp; (refine (HF.out _ (HPs.out.below hHeld)).mono ?_; rintro e w1 ⟨rfl, hb⟩); (try replace hz := (hb.block _ (row_lt hz)).trans hz); go_wp2_with fail; refine hK.out _ _ ?_ (fun hHeld => ?_); (· exact hHeld.trans (hb.mono hHeld.size)); clear hK K
        try simp only [zp1, zp3, zp4, zp5]
        refine rg_yes (i := 12) (v := ?_) (atS (atS (atS (atS (atS (atS (atS (atS (atS (atS (atS (atS at0)))))))))))) (by kernel_rfl) (by kernel_rfl) (by kernel_rfl) (fun _ _ _ h => h) ?_ ?_ hHeld ?_; rotate_left 1; (· rfl); (· intro w' hSw; (try dsimp only at hSw); (try clear hHeld); go_simp; try with_reducible rfl)
        try simp only [zp1, zp3, zp4, zp5]
        refine rg_call (i := 14) (atS (atS (atS (atS (atS (atS (atS (atS (atS (atS (atS (atS (atS (atS at0)))))))))))))) (by kernel_rfl) ?_ (fun K hK => ?_); (· rfl); (try clear hb); refine wp_store_rowat 200 (.tmp 6) (.tmp 22) rfl _ rfl 200 rkZA (rkA ⟨n, 100, hopsN c.a.path, c.a.origin, firstN c.a.path, 0, c.id, c.peer⟩) rfl hz (by kernel_rfl) rfl (rk_one _) ?_; refine hK.out _ _ ?_ (fun hHeld => ?_); (· exact below_setRow hHeld hzB _); clear hK K
        try simp only [Act.put]
        refine wpAnyH_done (by kernel_rfl) ?_ _
        refine abs_row (p := fun W => Exit.then _ _ _ _ W) (setRow_heap _ _ _ _ _ _ hz) hHeld ?_
        intro W3 QR hb3
        obtain ⟨B, hBe, QR⟩ := pull QR
        rw [← hBe] at hzB ⊢
        clear hBe hz hHeld c0 c13
        clear a0 a1 a2 a3 a4 a5 a6 a7 a8 a9
        have nB : ¬ W0.heap.size = B := by have := row_lt QA.out; omega
        have nZ : ¬ w.heap.size + 1 = B := by have := Z1.out; omega
        have BG : Hid (w.heap.size ≤ B) := Lib.hid (by have := Z1.out; omega)
        have QA3 := Lib.hid ((hb3.block _ (row_lt QA.out)).trans QA.out)
        have QZ3 := Lib.hid ((hb3.block _ (row_lt QZ.out)).trans QZ.out)
        have QR3 := Lib.hid QR
        have B3 := Lib.hid (below_on B1.out hb3)
        clear QR hb3 hzB
        obtain ⟨a0, a1, a2, a3, a4, a5, a6, a7, a8, a9⟩ := at_cells QA3.out
        go_wp2_with fail
        refine (HI5.out _).mono ?_
        rintro e w4 ⟨rfl, hb4⟩
        have QA4 := Lib.hid ((hb4.block _ (row_lt QA3.out)).trans QA3.out)
        have QZ4 := Lib.hid ((hb4.block _ (row_lt QZ3.out)).trans QZ3.out)
        have QR4 := Lib.hid ((hb4.block _ (row_lt QR3.out)).trans QR3.out)
        have B4 := Lib.hid (below_on B3.out hb4)
        clear a0 a1 a2 a3 a4 a5 a6 a7 a8 a9 hb4
        obtain ⟨a0, a1, a2, a3, a4, a5, a6, a7, a8, a9⟩ := at_cells QA4.out
        have QR5 := QR4
        have QA5 := QA4
        have QZ5 := QZ4
        have B5 := B4
        go_wp2_with fail
        refine (HI4.out _).mono ?_
        rintro e w6 ⟨rfl, hb6⟩
        have QA6 := Lib.hid ((hb6.block _ (row_lt QA5.out)).trans QA5.out)
        have QZ6 := Lib.hid ((hb6.block _ (row_lt QZ5.out)).trans QZ5.out)
        have QR6 := Lib.hid ((hb6.block _ (row_lt QR5.out)).trans QR5.out)
        have B6 := Lib.hid (below_on B5.out hb6)
        clear a0 a1 a2 a3 a4 a5 a6 a7 a8 a9 hb6
        obtain ⟨a0, a1, a2, a3, a4, a5, a6, a7, a8, a9⟩ := at_cells QA6.out
        have QR7 := QR6
        have QZ7 := QZ6
        have B7 := B6
        clear a0 a1 a2 a3 a4 a5 a6 a7 a8 a9
        have QR8 : Hid (w6.heap[B]? = some (.cells (rkA ⟨n, 100, hopsN c.a.path, c.a.origin, firstN c.a.path, 0, c.id, c.peer⟩) 200 (0, 0))) := Lib.hid QR7.out
        obtain ⟨r0, r1, r2, r3, r4, r5, r6, r7⟩ := rk_row QR8.out
        go_wp2_with (refine st_row rfl 200 (.tmp 4) (.tmp 33) rfl (w.heap.size + 1) rfl 200 rkZA (rkA ⟨n, 100, hopsN c.a.path, c.a.origin, firstN c.a.path, 0, c.id, c.peer⟩) rfl QZ7.out (by kernel_rfl) rfl (rk_one _) ?_)
        refine bodyPost_ret (results_rankOf _ _ (w.heap.size + 1) ⟨n, 100, hopsN c.a.path, c.a.origin, firstN c.a.path, 0, c.id, c.peer⟩ ?_ (setRow_heap _ _ _ _ _ _ QZ7.out)) rfl ⟨by rw [EL.out], below_setRow B7.out (Nat.le_succ _) _⟩
        rfl
    · have EL : Hid (rkOf n c = ⟨n, 100, hopsN c.a.path, c.a.origin, firstN c.a.path, c.a.med, c.id, c.peer⟩) := Lib.hid (by unfold rkOf locOf medOf; rw [hl, hm]; rfl)
      have HI5 := Lib.hid (HI.out 5)
      have HI4 := Lib.hid (HI.out 4)
      rw [hl] at HI5
      rw [hm] at HI4
      clear hl hm
      go_wp2_with fail
      refine wp_region_held_drew (S := fun w' => Below W1.heap.size W1 w') (by kernel_rfl) ?_ (fun hHeld => ?_)
      · exact (Below.refl _ _).drew
      generalize World.drew W1 = wd at hHeld ⊢
      refine rg_yes (i := 0) (v := ?_) at0 (by kernel_rfl) (by kernel_rfl) (by kernel_rfl) (fun _ _ _ h => h) ?_ ?_ hHeld ?_; rotate_left 1; (· rfl); (· intro w' hSw; (try dsimp only at hSw); (try clear hHeld); go_simp; try with_reducible rfl)
      try simp only [zp1, zp3, zp4, zp5]
      refine rg_yes (i := 1) (v := ?_) (atS at0) (by kernel_rfl) (by kernel_rfl) (by kernel_rfl) (fun _ _ _ h => h) ?_ ?_ hHeld ?_; rotate_left 1; (· rfl); (· intro w' hSw; (try dsimp only at hSw); have c0 := cell_below c0 hSw; have c13 := cell_below c13 hSw; have a0 := cell_below a0 hSw; have a1 := cell_below a1 hSw; have a2 := cell_below a2 hSw; have a3 := cell_below a3 hSw; have a4 := cell_below a4 hSw; have a5 := cell_below a5 hSw; have a6 := cell_below a6 hSw; have a7 := cell_below a7 hSw; have a8 := cell_below a8 hSw; have a9 := cell_below a9 hSw; (try clear hHeld); go_simp; try with_reducible rfl)
      try simp only [zp1, zp3, zp4, zp5]
      refine rg_yes (i := 3) (v := ?_) (atS (atS (atS at0))) (by kernel_rfl) (by kernel_rfl) (by kernel_rfl) (fun _ _ _ h => h) ?_ ?_ hHeld ?_; rotate_left 1; (· rfl); (· intro w' hSw; (try dsimp only at hSw); (try clear hHeld); go_simp; try with_reducible rfl)
      try simp only [zp1, zp3, zp4, zp5]
      refine rg_yes (i := 4) (v := ?_) (atS (atS (atS (atS at0)))) (by kernel_rfl) (by kernel_rfl) (by kernel_rfl) (fun _ _ _ h => h) ?_ ?_ hHeld ?_; rotate_left 1; (· rfl); (· intro w' hSw; (try dsimp only at hSw); have c0 := cell_below c0 hSw; have c13 := cell_below c13 hSw; have a0 := cell_below a0 hSw; have a1 := cell_below a1 hSw; have a2 := cell_below a2 hSw; have a3 := cell_below a3 hSw; have a4 := cell_below a4 hSw; have a5 := cell_below a5 hSw; have a6 := cell_below a6 hSw; have a7 := cell_below a7 hSw; have a8 := cell_below a8 hSw; have a9 := cell_below a9 hSw; (try clear hHeld); go_simp; try with_reducible rfl)
      try simp only [zp1, zp3, zp4, zp5]
      refine rg_yes (i := 5) (v := ?_) (atS (atS (atS (atS (atS at0))))) (by kernel_rfl) (by kernel_rfl) (by kernel_rfl) (fun _ _ _ h => h) ?_ ?_ hHeld ?_; rotate_left 1; (· rfl); (· intro w' hSw; (try dsimp only at hSw); have c0 := cell_below c0 hSw; have c13 := cell_below c13 hSw; have a0 := cell_below a0 hSw; have a1 := cell_below a1 hSw; have a2 := cell_below a2 hSw; have a3 := cell_below a3 hSw; have a4 := cell_below a4 hSw; have a5 := cell_below a5 hSw; have a6 := cell_below a6 hSw; have a7 := cell_below a7 hSw; have a8 := cell_below a8 hSw; have a9 := cell_below a9 hSw; (try clear hHeld); go_simp; try with_reducible rfl)
      try simp only [zp1, zp3, zp4, zp5]
      refine rg_yes (i := 7) (v := ?_) (atS (atS (atS (atS (atS (atS (atS at0))))))) (by kernel_rfl) (by kernel_rfl) (by kernel_rfl) (fun _ _ _ h => h) ?_ ?_ hHeld ?_; rotate_left 1; (· rfl); (· intro w' hSw; (try dsimp only at hSw); (try clear hHeld); go_simp; try with_reducible rfl)
      try simp only [zp1, zp3, zp4, zp5]
      refine rg_yes (i := 8) (v := ?_) (atS (atS (atS (atS (atS (atS (atS (atS at0)))))))) (by kernel_rfl) (by kernel_rfl) (by kernel_rfl) (fun _ _ _ h => h) ?_ ?_ hHeld ?_; rotate_left 1; (· rfl); (· intro w' hSw; (try dsimp only at hSw); have c0 := cell_below c0 hSw; have c13 := cell_below c13 hSw; have a0 := cell_below a0 hSw; have a1 := cell_below a1 hSw; have a2 := cell_below a2 hSw; have a3 := cell_below a3 hSw; have a4 := cell_below a4 hSw; have a5 := cell_below a5 hSw; have a6 := cell_below a6 hSw; have a7 := cell_below a7 hSw; have a8 := cell_below a8 hSw; have a9 := cell_below a9 hSw; (try clear hHeld); go_simp; try with_reducible rfl)
      try simp only [zp1, zp3, zp4, zp5]
      refine rg_yes (i := 9) (v := ?_) (atS (atS (atS (atS (atS (atS (atS (atS (atS at0))))))))) (by kernel_rfl) (by kernel_rfl) (by kernel_rfl) (fun _ _ _ h => h) ?_ ?_ hHeld ?_; rotate_left 1; (· rfl); (· intro w' hSw; (try dsimp only at hSw); (try clear hHeld); go_simp; try with_reducible rfl)
      try simp only [zp1, zp3, zp4, zp5]
      refine rg_yes (i := 10) (v := ?_) (atS (atS (atS (atS (atS (atS (atS (atS (atS (atS at0)))))))))) (by kernel_rfl) (by kernel_rfl) (by kernel_rfl) (fun _ _ _ h => h) ?_ ?_ hHeld ?_; rotate_left 1; (· rfl); (· intro w' hSw; (try dsimp only at hSw); (try clear hHeld); go_simp; try with_reducible rfl)
      try simp only [zp1, zp3, zp4, zp5]
      refine rg_yes (i := 11) (v := ?_) (atS (atS (atS (atS (atS (atS (atS (atS (atS (atS (atS at0))))))))))) (by kernel_rfl) (by kernel_rfl) (by kernel_rfl) (fun _ _ _ h => h) ?_ ?_ hHeld ?_; rotate_left 1; (· rfl); (· intro w' hSw; (try dsimp only at hSw); have c0 := cell_below c0 hSw; have c13 := cell_below c13 hSw; have a0 := cell_below a0 hSw; have a1 := cell_below a1 hSw; have a2 := cell_below a2 hSw; have a3 := cell_below a3 hSw; have a4 := cell_below a4 hSw; have a5 := cell_below a5 hSw; have a6 := cell_below a6 hSw; have a7 := cell_below a7 hSw; have a8 := cell_below a8 hSw; have a9 := cell_below a9 hSw; (try clear hHeld); go_simp; try with_reducible rfl)
      try simp only [zp1, zp3, zp4, zp5]
      refine rg_call2 (i := 2) (j := 13) (atS (atS at0)) (atS (atS (atS (atS (atS (atS (atS (atS (atS (atS (atS (atS (atS at0))))))))))))) (by kernel_rfl) ?_ ?_ (fun K hK => ?_) (fun K hK => ?_)
      · rfl
      · rfl
      · (try clear hb); go_simp; (refine (HH.out _ (HPs.out.below hHeld)).mono ?_; rintro e w1 ⟨rfl, hb⟩); (try replace hz := (hb.block _ (row_lt hz)).trans hz); go_wp2_with fail; refine hK.out _ _ ?_ (fun hHeld => ?_); (· exact hHeld.trans (hb.mono hHeld.size)); clear hK K
        try simp only [zp1, zp3, zp4, zp5]
        refine rg_call2 (i := 6) (j := 13) (atS (atS (atS (atS (atS (atS at0)))))) (atS (atS (atS (atS (atS (atS (atS (atS (atS (atS (atS (atS (atS at0))))))))))))) (by kernel_rfl) ?_ ?_ (fun K hK => ?_) (fun K hK => ?_)
        · rfl
        · rfl
        · (try clear hb); go_simp; (refine (HF.out _ (HPs.out.below hHeld)).mono ?_; rintro e w1 ⟨rfl, hb⟩); (try replace hz := (hb.block _ (row_lt hz)).trans hz); go_wp2_with fail; refine hK.out _ _ ?_ (fun hHeld => ?_); (· exact hHeld.trans (hb.mono hHeld.size)); clear hK K
          try simp only [zp1, zp3, zp4, zp5]
          refine rg_yes (i := 12) (v := ?_) (atS (atS (atS (atS (atS (atS (atS (atS (atS (atS (atS (atS at0)))))))))))) (by kernel_rfl) (by kernel_rfl) (by kernel_rfl) (fun _ _ _ h => h) ?_ ?_ hHeld ?_; rotate_left 1; (· rfl); (· intro w' hSw; (try dsimp only at hSw); (try clear hHeld); go_simp; try with_reducible rfl)
          try simp only [zp1, zp3, zp4, zp5]
          refine rg_call (i := 13) (atS (atS (atS (atS (atS (atS (atS (atS (atS (atS (atS (atS (atS at0))))))))))))) (by kernel_rfl) ?_ (fun K hK => ?_); (· rfl); (try clear hb); go_simp; (refine allocK rkZA 200 (p := K _) ?_); intro w1 hz hb; have hzB := hHeld.size; refine hK.out _ _ ?_ (fun hHeld => ?_); (· exact hHeld.trans (hb.mono hHeld.size)); clear hK K
          try simp only [zp1, zp3, zp4, zp5]
          refine rg_call (i := 14) (atS (atS (atS (atS (atS (atS (atS (atS (atS (atS (atS (atS (atS (atS at0)))))))))))))) (by kernel_rfl) ?_ (fun K hK => ?_); (· rfl); (try clear hb); refine wp_store_rowat 200 (.tmp 6) (.tmp 22) rfl _ rfl 200 rkZA (rkA ⟨n, 100, hopsN c.a.path, c.a.origin, firstN c.a.path, 0, c.id, c.peer⟩) rfl hz (by kernel_rfl) rfl (rk_one _) ?_; refine hK.out _ _ ?_ (fun hHeld => ?_); (· exact below_setRow hHeld hzB _); clear hK K
          try simp only [Act.put]
          refine wpAnyH_done (by kernel_rfl) ?_ _
          refine abs_row (p := fun W => Exit.then _ _ _ _ W) (setRow_heap _ _ _ _ _ _ hz) hHeld ?_
          intro W3 QR hb3
          obtain ⟨B, hBe, QR⟩ := pull QR
          rw [← hBe] at hzB ⊢
          clear hBe hz hHeld c0 c13
          clear a0 a1 a2 a3 a4 a5 a6 a7 a8 a9
          have nB : ¬ W0.heap.size = B := by have := row_lt QA.out; omega
          have nZ : ¬ w.heap.size + 1 = B := by have := Z1.out; omega
          have BG : Hid (w.heap.size ≤ B) := Lib.hid (by have := Z1.out; omega)
          have QA3 := Lib.hid ((hb3.block _ (row_lt QA.out)).trans QA.out)
          have QZ3 := Lib.hid ((hb3.block _ (row_lt QZ.out)).trans QZ.out)
          have QR3 := Lib.hid QR
          have B3 := Lib.hid (below_on B1.out hb3)
          clear QR hb3 hzB
          obtain ⟨a0, a1, a2, a3, a4, a5, a6, a7, a8, a9⟩ := at_cells QA3.out
          go_wp2_with fail
          refine (HI5.out _).mono ?_
          rintro e w4 ⟨rfl, hb4⟩
          have QA4 := Lib.hid ((hb4.block _ (row_lt QA3.out)).trans QA3.out)
          have QZ4 := Lib.hid ((hb4.block _ (row_lt QZ3.out)).trans QZ3.out)
          have QR4 := Lib.hid ((hb4.block _ (row_lt QR3.out)).trans QR3.out)
          have B4 := Lib.hid (below_on B3.out hb4)
          clear a0 a1 a2 a3 a4 a5 a6 a7 a8 a9 hb4
          obtain ⟨a0, a1, a2, a3, a4, a5, a6, a7, a8, a9⟩ := at_cells QA4.out
          have QR5 := QR4
          have QA5 := QA4
          have QZ5 := QZ4
          have B5 := B4
          go_wp2_with fail
          refine (HI4.out _).mono ?_
          rintro e w6 ⟨rfl, hb6⟩
          have QA6 := Lib.hid ((hb6.block _ (row_lt QA5.out)).trans QA5.out)
          have QZ6 := Lib.hid ((hb6.block _ (row_lt QZ5.out)).trans QZ5.out)
          have QR6 := Lib.hid ((hb6.block _ (row_lt QR5.out)).trans QR5.out)
          have B6 := Lib.hid (below_on B5.out hb6)
          clear a0 a1 a2 a3 a4 a5 a6 a7 a8 a9 hb6
          obtain ⟨a0, a1, a2, a3, a4, a5, a6, a7, a8, a9⟩ := at_cells QA6.out
          have r5 := row_cell QR6.out 5
          have f5 := row_free QR6.out 5
          replace r5 : w6.cell? ⟨B, 5, none⟩ = some (.int .i64 0) := r5
          go_upto_region 7 with (fail)
          obtain ⟨W7, hW7⟩ : ∃ W7, W7 = w6.setCell ⟨B, 5, none⟩ (.int .i64 c.a.med) := ⟨_, rfl⟩
          have QR7 := Lib.hid (set_same QR6.out 5 (.int .i64 c.a.med))
          have QZ7 := Lib.hid ((set_other (W := w6) B 5 (.int .i64 c.a.med) nZ).trans QZ6.out)
          have B7 := Lib.hid (B6.out.setCell (p := ⟨B, 5, none⟩) BG.out (.int .i64 c.a.med))
          rw [← hW7] at QR7 QZ7 B7 ⊢
          clear a0 a1 a2 a3 a4 a5 a6 a7 a8 a9 r5 f5 hW7
          have QR8 : Hid (W7.heap[B]? = some (.cells (rkA ⟨n, 100, hopsN c.a.path, c.a.origin, firstN c.a.path, c.a.med, c.id, c.peer⟩) 200 (0, 0))) := Lib.hid QR7.out
          obtain ⟨r0, r1, r2, r3, r4, r5, r6, r7⟩ := rk_row QR8.out
          go_wp2_with (refine st_row rfl 200 (.tmp 4) (.tmp 33) rfl (w.heap.size + 1) rfl 200 rkZA (rkA ⟨n, 100, hopsN c.a.path, c.a.origin, firstN c.a.path, c.a.med, c.id, c.peer⟩) rfl QZ7.out (by kernel_rfl) rfl (rk_one _) ?_)
          refine bodyPost_ret (results_rankOf _ _ (w.heap.size + 1) ⟨n, 100, hopsN c.a.path, c.a.origin, firstN c.a.path, c.a.med, c.id, c.peer⟩ ?_ (setRow_heap _ _ _ _ _ _ QZ7.out)) rfl ⟨by rw [EL.out], below_setRow B7.out (Nat.le_succ _) _⟩
          rfl
        · (try clear hb); go_simp; (refine allocK rkZA 200 (p := K _) ?_); intro w1 hz hb; have hzB := hHeld.size; refine hK.out _ _ ?_ (fun hHeld => ?_); (· exact hHeld.trans (hb.mono hHeld.size)); clear hK K
          try simp only [zp1, zp3, zp4, zp5]
          refine rg_call (i := 6) (atS (atS (atS (atS (atS (atS at0)))))) (by kernel_rfl) ?_ (fun K hK => ?_); (· rfl); (try clear hb); go_simp; (refine (HF.out _ (HPs.out.below hHeld)).mono ?_; rintro e w1 ⟨rfl, hb⟩); (try replace hz := (hb.block _ (row_lt hz)).trans hz); go_wp2_with fail; refine hK.out _ _ ?_ (fun hHeld => ?_); (· exact hHeld.trans (hb.mono hHeld.size)); clear hK K
          try simp only [zp1, zp3, zp4, zp5]
          refine rg_yes (i := 12) (v := ?_) (atS (atS (atS (atS (atS (atS (atS (atS (atS (atS (atS (atS at0)))))))))))) (by kernel_rfl) (by kernel_rfl) (by kernel_rfl) (fun _ _ _ h => h) ?_ ?_ hHeld ?_; rotate_left 1; (· rfl); (· intro w' hSw; (try dsimp only at hSw); (try clear hHeld); go_simp; try with_reducible rfl)
          try simp only [zp1, zp3, zp4, zp5]
          refine rg_call (i := 14) (atS (atS (atS (atS (atS (atS (atS (atS (atS (atS (atS (atS (atS (atS at0)))))))))))))) (by kernel_rfl) ?_ (fun K hK => ?_); (· rfl); (try clear hb); refine wp_store_rowat 200 (.tmp 6) (.tmp 22) rfl _ rfl 200 rkZA (rkA ⟨n, 100, hopsN c.a.path, c.a.origin, firstN c.a.path, 0, c.id, c.peer⟩) rfl hz (by kernel_rfl) rfl (rk_one _) ?_; refine hK.out _ _ ?_ (fun hHeld => ?_); (· exact below_setRow hHeld hzB _); clear hK K
          try simp only [Act.put]
          refine wpAnyH_done (by kernel_rfl) ?_ _
          refine abs_row (p := fun W => Exit.then _ _ _ _ W) (setRow_heap _ _ _ _ _ _ hz) hHeld ?_
          intro W3 QR hb3
          obtain ⟨B, hBe, QR⟩ := pull QR
          rw [← hBe] at hzB ⊢
          clear hBe hz hHeld c0 c13
          clear a0 a1 a2 a3 a4 a5 a6 a7 a8 a9
          have nB : ¬ W0.heap.size = B := by have := row_lt QA.out; omega
          have nZ : ¬ w.heap.size + 1 = B := by have := Z1.out; omega
          have BG : Hid (w.heap.size ≤ B) := Lib.hid (by have := Z1.out; omega)
          have QA3 := Lib.hid ((hb3.block _ (row_lt QA.out)).trans QA.out)
          have QZ3 := Lib.hid ((hb3.block _ (row_lt QZ.out)).trans QZ.out)
          have QR3 := Lib.hid QR
          have B3 := Lib.hid (below_on B1.out hb3)
          clear QR hb3 hzB
          obtain ⟨a0, a1, a2, a3, a4, a5, a6, a7, a8, a9⟩ := at_cells QA3.out
          go_wp2_with fail
          refine (HI5.out _).mono ?_
          rintro e w4 ⟨rfl, hb4⟩
          have QA4 := Lib.hid ((hb4.block _ (row_lt QA3.out)).trans QA3.out)
          have QZ4 := Lib.hid ((hb4.block _ (row_lt QZ3.out)).trans QZ3.out)
          have QR4 := Lib.hid ((hb4.block _ (row_lt QR3.out)).trans QR3.out)
          have B4 := Lib.hid (below_on B3.out hb4)
          clear a0 a1 a2 a3 a4 a5 a6 a7 a8 a9 hb4
          obtain ⟨a0, a1, a2, a3, a4, a5, a6, a7, a8, a9⟩ := at_cells QA4.out
          have QR5 := QR4
          have QA5 := QA4
          have QZ5 := QZ4
          have B5 := B4
          go_wp2_with fail
          refine (HI4.out _).mono ?_
          rintro e w6 ⟨rfl, hb6⟩
          have QA6 := Lib.hid ((hb6.block _ (row_lt QA5.out)).trans QA5.out)
          have QZ6 := Lib.hid ((hb6.block _ (row_lt QZ5.out)).trans QZ5.out)
          have QR6 := Lib.hid ((hb6.block _ (row_lt QR5.out)).trans QR5.out)
          have B6 := Lib.hid (below_on B5.out hb6)
          clear a0 a1 a2 a3 a4 a5 a6 a7 a8 a9 hb6
          obtain ⟨a0, a1, a2, a3, a4, a5, a6, a7, a8, a9⟩ := at_cells QA6.out
          have r5 := row_cell QR6.out 5
          have f5 := row_free QR6.out 5
          replace r5 : w6.cell? ⟨B, 5, none⟩ = some (.int .i64 0) := r5
          go_upto_region 7 with (fail)
          obtain ⟨W7, hW7⟩ : ∃ W7, W7 = w6.setCell ⟨B, 5, none⟩ (.int .i64 c.a.med) := ⟨_, rfl⟩
          have QR7 := Lib.hid (set_same QR6.out 5 (.int .i64 c.a.med))
          have QZ7 := Lib.hid ((set_other (W := w6) B 5 (.int .i64 c.a.med) nZ).trans QZ6.out)
          have B7 := Lib.hid (B6.out.setCell (p := ⟨B, 5, none⟩) BG.out (.int .i64 c.a.med))
          rw [← hW7] at QR7 QZ7 B7 ⊢
          clear a0 a1 a2 a3 a4 a5 a6 a7 a8 a9 r5 f5 hW7
          have QR8 : Hid (W7.heap[B]? = some (.cells (rkA ⟨n, 100, hopsN c.a.path, c.a.origin, firstN c.a.path, c.a.med, c.id, c.peer⟩) 200 (0, 0))) := Lib.hid QR7.out
          obtain ⟨r0, r1, r2, r3, r4, r5, r6, r7⟩ := rk_row QR8.out
          go_wp2_with (refine st_row rfl 200 (.tmp 4) (.tmp 33) rfl (w.heap.size + 1) rfl 200 rkZA (rkA ⟨n, 100, hopsN c.a.path, c.a.origin, firstN c.a.path, c.a.med, c.id, c.peer⟩) rfl QZ7.out (by kernel_rfl) rfl (rk_one _) ?_)
          refine bodyPost_ret (results_rankOf _ _ (w.heap.size + 1) ⟨n, 100, hopsN c.a.path, c.a.origin, firstN c.a.path, c.a.med, c.id, c.peer⟩ ?_ (setRow_heap _ _ _ _ _ _ QZ7.out)) rfl ⟨by rw [EL.out], below_setRow B7.out (Nat.le_succ _) _⟩
          rfl
      · (try clear hb); go_simp; (refine allocK rkZA 200 (p := K _) ?_); intro w1 hz hb; have hzB := hHeld.size; refine hK.out _ _ ?_ (fun hHeld => ?_); (· exact hHeld.trans (hb.mono hHeld.size)); clear hK K
        try simp only [zp1, zp3, zp4, zp5]
        refine rg_call (i := 2) (atS (atS at0)) (by kernel_rfl) ?_ (fun K hK => ?_); (· rfl); (try clear hb); go_simp; (refine (HH.out _ (HPs.out.below hHeld)).mono ?_; rintro e w1 ⟨rfl, hb⟩); (try replace hz := (hb.block _ (row_lt hz)).trans hz); go_wp2_with fail; refine hK.out _ _ ?_ (fun hHeld => ?_); (· exact hHeld.trans (hb.mono hHeld.size)); clear hK K
        try simp only [zp1, zp3, zp4, zp5]
        refine rg_call (i := 6) (atS (atS (atS (atS (atS (atS at0)))))) (by kernel_rfl) ?_ (fun K hK => ?_); (· rfl); (try clear hb); go_simp; (refine (HF.out _ (HPs.out.below hHeld)).mono ?_; rintro e w1 ⟨rfl, hb⟩); (try replace hz := (hb.block _ (row_lt hz)).trans hz); go_wp2_with fail; refine hK.out _ _ ?_ (fun hHeld => ?_); (· exact hHeld.trans (hb.mono hHeld.size)); clear hK K
        try simp only [zp1, zp3, zp4, zp5]
        refine rg_yes (i := 12) (v := ?_) (atS (atS (atS (atS (atS (atS (atS (atS (atS (atS (atS (atS at0)))))))))))) (by kernel_rfl) (by kernel_rfl) (by kernel_rfl) (fun _ _ _ h => h) ?_ ?_ hHeld ?_; rotate_left 1; (· rfl); (· intro w' hSw; (try dsimp only at hSw); (try clear hHeld); go_simp; try with_reducible rfl)
        try simp only [zp1, zp3, zp4, zp5]
        refine rg_call (i := 14) (atS (atS (atS (atS (atS (atS (atS (atS (atS (atS (atS (atS (atS (atS at0)))))))))))))) (by kernel_rfl) ?_ (fun K hK => ?_); (· rfl); (try clear hb); refine wp_store_rowat 200 (.tmp 6) (.tmp 22) rfl _ rfl 200 rkZA (rkA ⟨n, 100, hopsN c.a.path, c.a.origin, firstN c.a.path, 0, c.id, c.peer⟩) rfl hz (by kernel_rfl) rfl (rk_one _) ?_; refine hK.out _ _ ?_ (fun hHeld => ?_); (· exact below_setRow hHeld hzB _); clear hK K
        try simp only [Act.put]
        refine wpAnyH_done (by kernel_rfl) ?_ _
        refine abs_row (p := fun W => Exit.then _ _ _ _ W) (setRow_heap _ _ _ _ _ _ hz) hHeld ?_
        intro W3 QR hb3
        obtain ⟨B, hBe, QR⟩ := pull QR
        rw [← hBe] at hzB ⊢
        clear hBe hz hHeld c0 c13
        clear a0 a1 a2 a3 a4 a5 a6 a7 a8 a9
        have nB : ¬ W0.heap.size = B := by have := row_lt QA.out; omega
        have nZ : ¬ w.heap.size + 1 = B := by have := Z1.out; omega
        have BG : Hid (w.heap.size ≤ B) := Lib.hid (by have := Z1.out; omega)
        have QA3 := Lib.hid ((hb3.block _ (row_lt QA.out)).trans QA.out)
        have QZ3 := Lib.hid ((hb3.block _ (row_lt QZ.out)).trans QZ.out)
        have QR3 := Lib.hid QR
        have B3 := Lib.hid (below_on B1.out hb3)
        clear QR hb3 hzB
        obtain ⟨a0, a1, a2, a3, a4, a5, a6, a7, a8, a9⟩ := at_cells QA3.out
        go_wp2_with fail
        refine (HI5.out _).mono ?_
        rintro e w4 ⟨rfl, hb4⟩
        have QA4 := Lib.hid ((hb4.block _ (row_lt QA3.out)).trans QA3.out)
        have QZ4 := Lib.hid ((hb4.block _ (row_lt QZ3.out)).trans QZ3.out)
        have QR4 := Lib.hid ((hb4.block _ (row_lt QR3.out)).trans QR3.out)
        have B4 := Lib.hid (below_on B3.out hb4)
        clear a0 a1 a2 a3 a4 a5 a6 a7 a8 a9 hb4
        obtain ⟨a0, a1, a2, a3, a4, a5, a6, a7, a8, a9⟩ := at_cells QA4.out
        have QR5 := QR4
        have QA5 := QA4
        have QZ5 := QZ4
        have B5 := B4
        go_wp2_with fail
        refine (HI4.out _).mono ?_
        rintro e w6 ⟨rfl, hb6⟩
        have QA6 := Lib.hid ((hb6.block _ (row_lt QA5.out)).trans QA5.out)
        have QZ6 := Lib.hid ((hb6.block _ (row_lt QZ5.out)).trans QZ5.out)
        have QR6 := Lib.hid ((hb6.block _ (row_lt QR5.out)).trans QR5.out)
        have B6 := Lib.hid (below_on B5.out hb6)
        clear a0 a1 a2 a3 a4 a5 a6 a7 a8 a9 hb6
        obtain ⟨a0, a1, a2, a3, a4, a5, a6, a7, a8, a9⟩ := at_cells QA6.out
        have r5 := row_cell QR6.out 5
        have f5 := row_free QR6.out 5
        replace r5 : w6.cell? ⟨B, 5, none⟩ = some (.int .i64 0) := r5
        go_upto_region 7 with (fail)
        obtain ⟨W7, hW7⟩ : ∃ W7, W7 = w6.setCell ⟨B, 5, none⟩ (.int .i64 c.a.med) := ⟨_, rfl⟩
        have QR7 := Lib.hid (set_same QR6.out 5 (.int .i64 c.a.med))
        have QZ7 := Lib.hid ((set_other (W := w6) B 5 (.int .i64 c.a.med) nZ).trans QZ6.out)
        have B7 := Lib.hid (B6.out.setCell (p := ⟨B, 5, none⟩) BG.out (.int .i64 c.a.med))
        rw [← hW7] at QR7 QZ7 B7 ⊢
        clear a0 a1 a2 a3 a4 a5 a6 a7 a8 a9 r5 f5 hW7
        have QR8 : Hid (W7.heap[B]? = some (.cells (rkA ⟨n, 100, hopsN c.a.path, c.a.origin, firstN c.a.path, c.a.med, c.id, c.peer⟩) 200 (0, 0))) := Lib.hid QR7.out
        obtain ⟨r0, r1, r2, r3, r4, r5, r6, r7⟩ := rk_row QR8.out
        go_wp2_with (refine st_row rfl 200 (.tmp 4) (.tmp 33) rfl (w.heap.size + 1) rfl 200 rkZA (rkA ⟨n, 100, hopsN c.a.path, c.a.origin, firstN c.a.path, c.a.med, c.id, c.peer⟩) rfl QZ7.out (by kernel_rfl) rfl (rk_one _) ?_)
        refine bodyPost_ret (results_rankOf _ _ (w.heap.size + 1) ⟨n, 100, hopsN c.a.path, c.a.origin, firstN c.a.path, c.a.med, c.id, c.peer⟩ ?_ (setRow_heap _ _ _ _ _ _ QZ7.out)) rfl ⟨by rw [EL.out], below_setRow B7.out (Nat.le_succ _) _⟩
        rfl
  · cases hm : isB c.a.has 4
    · have EL : Hid (rkOf n c = ⟨n, c.a.loc, hopsN c.a.path, c.a.origin, firstN c.a.path, 0, c.id, c.peer⟩) := Lib.hid (by unfold rkOf locOf medOf; rw [hl, hm]; rfl)
      have HI5 := Lib.hid (HI.out 5)
      have HI4 := Lib.hid (HI.out 4)
      rw [hl] at HI5
      rw [hm] at HI4
      clear hl hm
      go_wp2_with fail
      refine wp_region_held_drew (S := fun w' => Below W1.heap.size W1 w') (by kernel_rfl) ?_ (fun hHeld => ?_)
      · exact (Below.refl _ _).drew
      generalize World.drew W1 = wd at hHeld ⊢
      refine rg_yes (i := 0) (v := ?_) at0 (by kernel_rfl) (by kernel_rfl) (by kernel_rfl) (fun _ _ _ h => h) ?_ ?_ hHeld ?_; rotate_left 1; (· rfl); (· intro w' hSw; (try dsimp only at hSw); (try clear hHeld); go_simp; try with_reducible rfl)
      try simp only [zp1, zp3, zp4, zp5]
      refine rg_yes (i := 1) (v := ?_) (atS at0) (by kernel_rfl) (by kernel_rfl) (by kernel_rfl) (fun _ _ _ h => h) ?_ ?_ hHeld ?_; rotate_left 1; (· rfl); (· intro w' hSw; (try dsimp only at hSw); have c0 := cell_below c0 hSw; have c13 := cell_below c13 hSw; have a0 := cell_below a0 hSw; have a1 := cell_below a1 hSw; have a2 := cell_below a2 hSw; have a3 := cell_below a3 hSw; have a4 := cell_below a4 hSw; have a5 := cell_below a5 hSw; have a6 := cell_below a6 hSw; have a7 := cell_below a7 hSw; have a8 := cell_below a8 hSw; have a9 := cell_below a9 hSw; (try clear hHeld); go_simp; try with_reducible rfl)
      try simp only [zp1, zp3, zp4, zp5]
      refine rg_yes (i := 3) (v := ?_) (atS (atS (atS at0))) (by kernel_rfl) (by kernel_rfl) (by kernel_rfl) (fun _ _ _ h => h) ?_ ?_ hHeld ?_; rotate_left 1; (· rfl); (· intro w' hSw; (try dsimp only at hSw); (try clear hHeld); go_simp; try with_reducible rfl)
      try simp only [zp1, zp3, zp4, zp5]
      refine rg_yes (i := 4) (v := ?_) (atS (atS (atS (atS at0)))) (by kernel_rfl) (by kernel_rfl) (by kernel_rfl) (fun _ _ _ h => h) ?_ ?_ hHeld ?_; rotate_left 1; (· rfl); (· intro w' hSw; (try dsimp only at hSw); have c0 := cell_below c0 hSw; have c13 := cell_below c13 hSw; have a0 := cell_below a0 hSw; have a1 := cell_below a1 hSw; have a2 := cell_below a2 hSw; have a3 := cell_below a3 hSw; have a4 := cell_below a4 hSw; have a5 := cell_below a5 hSw; have a6 := cell_below a6 hSw; have a7 := cell_below a7 hSw; have a8 := cell_below a8 hSw; have a9 := cell_below a9 hSw; (try clear hHeld); go_simp; try with_reducible rfl)
      try simp only [zp1, zp3, zp4, zp5]
      refine rg_yes (i := 5) (v := ?_) (atS (atS (atS (atS (atS at0))))) (by kernel_rfl) (by kernel_rfl) (by kernel_rfl) (fun _ _ _ h => h) ?_ ?_ hHeld ?_; rotate_left 1; (· rfl); (· intro w' hSw; (try dsimp only at hSw); have c0 := cell_below c0 hSw; have c13 := cell_below c13 hSw; have a0 := cell_below a0 hSw; have a1 := cell_below a1 hSw; have a2 := cell_below a2 hSw; have a3 := cell_below a3 hSw; have a4 := cell_below a4 hSw; have a5 := cell_below a5 hSw; have a6 := cell_below a6 hSw; have a7 := cell_below a7 hSw; have a8 := cell_below a8 hSw; have a9 := cell_below a9 hSw; (try clear hHeld); go_simp; try with_reducible rfl)
      try simp only [zp1, zp3, zp4, zp5]
      refine rg_yes (i := 7) (v := ?_) (atS (atS (atS (atS (atS (atS (atS at0))))))) (by kernel_rfl) (by kernel_rfl) (by kernel_rfl) (fun _ _ _ h => h) ?_ ?_ hHeld ?_; rotate_left 1; (· rfl); (· intro w' hSw; (try dsimp only at hSw); (try clear hHeld); go_simp; try with_reducible rfl)
      try simp only [zp1, zp3, zp4, zp5]
      refine rg_yes (i := 8) (v := ?_) (atS (atS (atS (atS (atS (atS (atS (atS at0)))))))) (by kernel_rfl) (by kernel_rfl) (by kernel_rfl) (fun _ _ _ h => h) ?_ ?_ hHeld ?_; rotate_left 1; (· rfl); (· intro w' hSw; (try dsimp only at hSw); have c0 := cell_below c0 hSw; have c13 := cell_below c13 hSw; have a0 := cell_below a0 hSw; have a1 := cell_below a1 hSw; have a2 := cell_below a2 hSw; have a3 := cell_below a3 hSw; have a4 := cell_below a4 hSw; have a5 := cell_below a5 hSw; have a6 := cell_below a6 hSw; have a7 := cell_below a7 hSw; have a8 := cell_below a8 hSw; have a9 := cell_below a9 hSw; (try clear hHeld); go_simp; try with_reducible rfl)
      try simp only [zp1, zp3, zp4, zp5]
      refine rg_yes (i := 9) (v := ?_) (atS (atS (atS (atS (atS (atS (atS (atS (atS at0))))))))) (by kernel_rfl) (by kernel_rfl) (by kernel_rfl) (fun _ _ _ h => h) ?_ ?_ hHeld ?_; rotate_left 1; (· rfl); (· intro w' hSw; (try dsimp only at hSw); (try clear hHeld); go_simp; try with_reducible rfl)
      try simp only [zp1, zp3, zp4, zp5]
      refine rg_yes (i := 10) (v := ?_) (atS (atS (atS (atS (atS (atS (atS (atS (atS (atS at0)))))))))) (by kernel_rfl) (by kernel_rfl) (by kernel_rfl) (fun _ _ _ h => h) ?_ ?_ hHeld ?_; rotate_left 1; (· rfl); (· intro w' hSw; (try dsimp only at hSw); (try clear hHeld); go_simp; try with_reducible rfl)
      try simp only [zp1, zp3, zp4, zp5]
      refine rg_yes (i := 11) (v := ?_) (atS (atS (atS (atS (atS (atS (atS (atS (atS (atS (atS at0))))))))))) (by kernel_rfl) (by kernel_rfl) (by kernel_rfl) (fun _ _ _ h => h) ?_ ?_ hHeld ?_; rotate_left 1; (· rfl); (· intro w' hSw; (try dsimp only at hSw); have c0 := cell_below c0 hSw; have c13 := cell_below c13 hSw; have a0 := cell_below a0 hSw; have a1 := cell_below a1 hSw; have a2 := cell_below a2 hSw; have a3 := cell_below a3 hSw; have a4 := cell_below a4 hSw; have a5 := cell_below a5 hSw; have a6 := cell_below a6 hSw; have a7 := cell_below a7 hSw; have a8 := cell_below a8 hSw; have a9 := cell_below a9 hSw; (try clear hHeld); go_simp; try with_reducible rfl)
      try simp only [zp1, zp3, zp4, zp5]
      refine rg_call2 (i := 2) (j := 13) (atS (atS at0)) (atS (atS (atS (atS (atS (atS (atS (atS (atS (atS (atS (atS (atS at0))))))))))))) (by kernel_rfl) ?_ ?_ (fun K hK => ?_) (fun K hK => ?_)
      · rfl
      · rfl
      · (try clear hb); go_simp; (refine (HH.out _ (HPs.out.below hHeld)).mono ?_; rintro e w1 ⟨rfl, hb⟩); (try replace hz := (hb.block _ (row_lt hz)).trans hz); go_wp2_with fail; refine hK.out _ _ ?_ (fun hHeld => ?_); (· exact hHeld.trans (hb.mono hHeld.size)); clear hK K
        try simp only [zp1, zp3, zp4, zp5]
        refine rg_call2 (i := 6) (j := 13) (atS (atS (atS (atS (atS (atS at0)))))) (atS (atS (atS (atS (atS (atS (atS (atS (atS (atS (atS (atS (atS at0))))))))))))) (by kernel_rfl) ?_ ?_ (fun K hK => ?_) (fun K hK => ?_)
        · rfl
        · rfl
        · (try clear hb); go_simp; (refine (HF.out _ (HPs.out.below hHeld)).mono ?_; rintro e w1 ⟨rfl, hb⟩); (try replace hz := (hb.block _ (row_lt hz)).trans hz); go_wp2_with fail; refine hK.out _ _ ?_ (fun hHeld => ?_); (· exact hHeld.trans (hb.mono hHeld.size)); clear hK K
          try simp only [zp1, zp3, zp4, zp5]
          refine rg_yes (i := 12) (v := ?_) (atS (atS (atS (atS (atS (atS (atS (atS (atS (atS (atS (atS at0)))))))))))) (by kernel_rfl) (by kernel_rfl) (by kernel_rfl) (fun _ _ _ h => h) ?_ ?_ hHeld ?_; rotate_left 1; (· rfl); (· intro w' hSw; (try dsimp only at hSw); (try clear hHeld); go_simp; try with_reducible rfl)
          try simp only [zp1, zp3, zp4, zp5]
          refine rg_call (i := 13) (atS (atS (atS (atS (atS (atS (atS (atS (atS (atS (atS (atS (atS at0))))))))))))) (by kernel_rfl) ?_ (fun K hK => ?_); (· rfl); (try clear hb); go_simp; (refine allocK rkZA 200 (p := K _) ?_); intro w1 hz hb; have hzB := hHeld.size; refine hK.out _ _ ?_ (fun hHeld => ?_); (· exact hHeld.trans (hb.mono hHeld.size)); clear hK K
          try simp only [zp1, zp3, zp4, zp5]
          refine rg_call (i := 14) (atS (atS (atS (atS (atS (atS (atS (atS (atS (atS (atS (atS (atS (atS at0)))))))))))))) (by kernel_rfl) ?_ (fun K hK => ?_); (· rfl); (try clear hb); refine wp_store_rowat 200 (.tmp 6) (.tmp 22) rfl _ rfl 200 rkZA (rkA ⟨n, 100, hopsN c.a.path, c.a.origin, firstN c.a.path, 0, c.id, c.peer⟩) rfl hz (by kernel_rfl) rfl (rk_one _) ?_; refine hK.out _ _ ?_ (fun hHeld => ?_); (· exact below_setRow hHeld hzB _); clear hK K
          try simp only [Act.put]
          refine wpAnyH_done (by kernel_rfl) ?_ _
          refine abs_row (p := fun W => Exit.then _ _ _ _ W) (setRow_heap _ _ _ _ _ _ hz) hHeld ?_
          intro W3 QR hb3
          obtain ⟨B, hBe, QR⟩ := pull QR
          rw [← hBe] at hzB ⊢
          clear hBe hz hHeld c0 c13
          clear a0 a1 a2 a3 a4 a5 a6 a7 a8 a9
          have nB : ¬ W0.heap.size = B := by have := row_lt QA.out; omega
          have nZ : ¬ w.heap.size + 1 = B := by have := Z1.out; omega
          have BG : Hid (w.heap.size ≤ B) := Lib.hid (by have := Z1.out; omega)
          have QA3 := Lib.hid ((hb3.block _ (row_lt QA.out)).trans QA.out)
          have QZ3 := Lib.hid ((hb3.block _ (row_lt QZ.out)).trans QZ.out)
          have QR3 := Lib.hid QR
          have B3 := Lib.hid (below_on B1.out hb3)
          clear QR hb3 hzB
          obtain ⟨a0, a1, a2, a3, a4, a5, a6, a7, a8, a9⟩ := at_cells QA3.out
          go_wp2_with fail
          refine (HI5.out _).mono ?_
          rintro e w4 ⟨rfl, hb4⟩
          have QA4 := Lib.hid ((hb4.block _ (row_lt QA3.out)).trans QA3.out)
          have QZ4 := Lib.hid ((hb4.block _ (row_lt QZ3.out)).trans QZ3.out)
          have QR4 := Lib.hid ((hb4.block _ (row_lt QR3.out)).trans QR3.out)
          have B4 := Lib.hid (below_on B3.out hb4)
          clear a0 a1 a2 a3 a4 a5 a6 a7 a8 a9 hb4
          obtain ⟨a0, a1, a2, a3, a4, a5, a6, a7, a8, a9⟩ := at_cells QA4.out
          obtain ⟨_, r1, _⟩ := rk_row QR4.out
          have f1 := row_free QR4.out 1
          go_upto_region 5 with (fail)
          obtain ⟨W5, hW5⟩ : ∃ W5, W5 = w4.setCell ⟨B, 1, none⟩ (.int .i64 c.a.loc) := ⟨_, rfl⟩
          have QR5 := Lib.hid (set_same QR4.out 1 (.int .i64 c.a.loc))
          have QA5 := Lib.hid ((set_other (W := w4) B 1 (.int .i64 c.a.loc) nB).trans QA4.out)
          have QZ5 := Lib.hid ((set_other (W := w4) B 1 (.int .i64 c.a.loc) nZ).trans QZ4.out)
          have B5 := Lib.hid (B4.out.setCell (p := ⟨B, 1, none⟩) BG.out (.int .i64 c.a.loc))
          rw [← hW5] at QR5 QA5 QZ5 B5 ⊢
          clear a0 a1 a2 a3 a4 a5 a6 a7 a8 a9 r1 f1 hW5
          obtain ⟨a0, a1, a2, a3, a4, a5, a6, a7, a8, a9⟩ := at_cells QA5.out
          go_wp2_with fail
          refine (HI4.out _).mono ?_
          rintro e w6 ⟨rfl, hb6⟩
          have QA6 := Lib.hid ((hb6.block _ (row_lt QA5.out)).trans QA5.out)
          have QZ6 := Lib.hid ((hb6.block _ (row_lt QZ5.out)).trans QZ5.out)
          have QR6 := Lib.hid ((hb6.block _ (row_lt QR5.out)).trans QR5.out)
          have B6 := Lib.hid (below_on B5.out hb6)
          clear a0 a1 a2 a3 a4 a5 a6 a7 a8 a9 hb6
          obtain ⟨a0, a1, a2, a3, a4, a5, a6, a7, a8, a9⟩ := at_cells QA6.out
          have QR7 := QR6
          have QZ7 := QZ6
          have B7 := B6
          clear a0 a1 a2 a3 a4 a5 a6 a7 a8 a9
          have QR8 : Hid (w6.heap[B]? = some (.cells (rkA ⟨n, c.a.loc, hopsN c.a.path, c.a.origin, firstN c.a.path, 0, c.id, c.peer⟩) 200 (0, 0))) := Lib.hid QR7.out
          obtain ⟨r0, r1, r2, r3, r4, r5, r6, r7⟩ := rk_row QR8.out
          go_wp2_with (refine st_row rfl 200 (.tmp 4) (.tmp 33) rfl (w.heap.size + 1) rfl 200 rkZA (rkA ⟨n, c.a.loc, hopsN c.a.path, c.a.origin, firstN c.a.path, 0, c.id, c.peer⟩) rfl QZ7.out (by kernel_rfl) rfl (rk_one _) ?_)
          refine bodyPost_ret (results_rankOf _ _ (w.heap.size + 1) ⟨n, c.a.loc, hopsN c.a.path, c.a.origin, firstN c.a.path, 0, c.id, c.peer⟩ ?_ (setRow_heap _ _ _ _ _ _ QZ7.out)) rfl ⟨by rw [EL.out], below_setRow B7.out (Nat.le_succ _) _⟩
          rfl
        · (try clear hb); go_simp; (refine allocK rkZA 200 (p := K _) ?_); intro w1 hz hb; have hzB := hHeld.size; refine hK.out _ _ ?_ (fun hHeld => ?_); (· exact hHeld.trans (hb.mono hHeld.size)); clear hK K
          try simp only [zp1, zp3, zp4, zp5]
          refine rg_call (i := 6) (atS (atS (atS (atS (atS (atS at0)))))) (by kernel_rfl) ?_ (fun K hK => ?_); (· rfl); (try clear hb); go_simp; (refine (HF.out _ (HPs.out.below hHeld)).mono ?_; rintro e w1 ⟨rfl, hb⟩); (try replace hz := (hb.block _ (row_lt hz)).trans hz); go_wp2_with fail; refine hK.out _ _ ?_ (fun hHeld => ?_); (· exact hHeld.trans (hb.mono hHeld.size)); clear hK K
          try simp only [zp1, zp3, zp4, zp5]
          refine rg_yes (i := 12) (v := ?_) (atS (atS (atS (atS (atS (atS (atS (atS (atS (atS (atS (atS at0)))))))))))) (by kernel_rfl) (by kernel_rfl) (by kernel_rfl) (fun _ _ _ h => h) ?_ ?_ hHeld ?_; rotate_left 1; (· rfl); (· intro w' hSw; (try dsimp only at hSw); (try clear hHeld); go_simp; try with_reducible rfl)
          try simp only [zp1, zp3, zp4, zp5]
          refine rg_call (i := 14) (atS (atS (atS (atS (atS (atS (atS (atS (atS (atS (atS (atS (atS (atS at0)))))))))))))) (by kernel_rfl) ?_ (fun K hK => ?_); (· rfl); (try clear hb); refine wp_store_rowat 200 (.tmp 6) (.tmp 22) rfl _ rfl 200 rkZA (rkA ⟨n, 100, hopsN c.a.path, c.a.origin, firstN c.a.path, 0, c.id, c.peer⟩) rfl hz (by kernel_rfl) rfl (rk_one _) ?_; refine hK.out _ _ ?_ (fun hHeld => ?_); (· exact below_setRow hHeld hzB _); clear hK K
          try simp only [Act.put]
          refine wpAnyH_done (by kernel_rfl) ?_ _
          refine abs_row (p := fun W => Exit.then _ _ _ _ W) (setRow_heap _ _ _ _ _ _ hz) hHeld ?_
          intro W3 QR hb3
          obtain ⟨B, hBe, QR⟩ := pull QR
          rw [← hBe] at hzB ⊢
          clear hBe hz hHeld c0 c13
          clear a0 a1 a2 a3 a4 a5 a6 a7 a8 a9
          have nB : ¬ W0.heap.size = B := by have := row_lt QA.out; omega
          have nZ : ¬ w.heap.size + 1 = B := by have := Z1.out; omega
          have BG : Hid (w.heap.size ≤ B) := Lib.hid (by have := Z1.out; omega)
          have QA3 := Lib.hid ((hb3.block _ (row_lt QA.out)).trans QA.out)
          have QZ3 := Lib.hid ((hb3.block _ (row_lt QZ.out)).trans QZ.out)
          have QR3 := Lib.hid QR
          have B3 := Lib.hid (below_on B1.out hb3)
          clear QR hb3 hzB
          obtain ⟨a0, a1, a2, a3, a4, a5, a6, a7, a8, a9⟩ := at_cells QA3.out
          go_wp2_with fail
          refine (HI5.out _).mono ?_
          rintro e w4 ⟨rfl, hb4⟩
          have QA4 := Lib.hid ((hb4.block _ (row_lt QA3.out)).trans QA3.out)
          have QZ4 := Lib.hid ((hb4.block _ (row_lt QZ3.out)).trans QZ3.out)
          have QR4 := Lib.hid ((hb4.block _ (row_lt QR3.out)).trans QR3.out)
          have B4 := Lib.hid (below_on B3.out hb4)
          clear a0 a1 a2 a3 a4 a5 a6 a7 a8 a9 hb4
          obtain ⟨a0, a1, a2, a3, a4, a5, a6, a7, a8, a9⟩ := at_cells QA4.out
          obtain ⟨_, r1, _⟩ := rk_row QR4.out
          have f1 := row_free QR4.out 1
          go_upto_region 5 with (fail)
          obtain ⟨W5, hW5⟩ : ∃ W5, W5 = w4.setCell ⟨B, 1, none⟩ (.int .i64 c.a.loc) := ⟨_, rfl⟩
          have QR5 := Lib.hid (set_same QR4.out 1 (.int .i64 c.a.loc))
          have QA5 := Lib.hid ((set_other (W := w4) B 1 (.int .i64 c.a.loc) nB).trans QA4.out)
          have QZ5 := Lib.hid ((set_other (W := w4) B 1 (.int .i64 c.a.loc) nZ).trans QZ4.out)
          have B5 := Lib.hid (B4.out.setCell (p := ⟨B, 1, none⟩) BG.out (.int .i64 c.a.loc))
          rw [← hW5] at QR5 QA5 QZ5 B5 ⊢
          clear a0 a1 a2 a3 a4 a5 a6 a7 a8 a9 r1 f1 hW5
          obtain ⟨a0, a1, a2, a3, a4, a5, a6, a7, a8, a9⟩ := at_cells QA5.out
          go_wp2_with fail
          refine (HI4.out _).mono ?_
          rintro e w6 ⟨rfl, hb6⟩
          have QA6 := Lib.hid ((hb6.block _ (row_lt QA5.out)).trans QA5.out)
          have QZ6 := Lib.hid ((hb6.block _ (row_lt QZ5.out)).trans QZ5.out)
          have QR6 := Lib.hid ((hb6.block _ (row_lt QR5.out)).trans QR5.out)
          have B6 := Lib.hid (below_on B5.out hb6)
          clear a0 a1 a2 a3 a4 a5 a6 a7 a8 a9 hb6
          obtain ⟨a0, a1, a2, a3, a4, a5, a6, a7, a8, a9⟩ := at_cells QA6.out
          have QR7 := QR6
          have QZ7 := QZ6
          have B7 := B6
          clear a0 a1 a2 a3 a4 a5 a6 a7 a8 a9
          have QR8 : Hid (w6.heap[B]? = some (.cells (rkA ⟨n, c.a.loc, hopsN c.a.path, c.a.origin, firstN c.a.path, 0, c.id, c.peer⟩) 200 (0, 0))) := Lib.hid QR7.out
          obtain ⟨r0, r1, r2, r3, r4, r5, r6, r7⟩ := rk_row QR8.out
          go_wp2_with (refine st_row rfl 200 (.tmp 4) (.tmp 33) rfl (w.heap.size + 1) rfl 200 rkZA (rkA ⟨n, c.a.loc, hopsN c.a.path, c.a.origin, firstN c.a.path, 0, c.id, c.peer⟩) rfl QZ7.out (by kernel_rfl) rfl (rk_one _) ?_)
          refine bodyPost_ret (results_rankOf _ _ (w.heap.size + 1) ⟨n, c.a.loc, hopsN c.a.path, c.a.origin, firstN c.a.path, 0, c.id, c.peer⟩ ?_ (setRow_heap _ _ _ _ _ _ QZ7.out)) rfl ⟨by rw [EL.out], below_setRow B7.out (Nat.le_succ _) _⟩
          rfl
      · (try clear hb); go_simp; (refine allocK rkZA 200 (p := K _) ?_); intro w1 hz hb; have hzB := hHeld.size; refine hK.out _ _ ?_ (fun hHeld => ?_); (· exact hHeld.trans (hb.mono hHeld.size)); clear hK K
        try simp only [zp1, zp3, zp4, zp5]
        refine rg_call (i := 2) (atS (atS at0)) (by kernel_rfl) ?_ (fun K hK => ?_); (· rfl); (try clear hb); go_simp; (refine (HH.out _ (HPs.out.below hHeld)).mono ?_; rintro e w1 ⟨rfl, hb⟩); (try replace hz := (hb.block _ (row_lt hz)).trans hz); go_wp2_with fail; refine hK.out _ _ ?_ (fun hHeld => ?_); (· exact hHeld.trans (hb.mono hHeld.size)); clear hK K
        try simp only [zp1, zp3, zp4, zp5]
        refine rg_call (i := 6) (atS (atS (atS (atS (atS (atS at0)))))) (by kernel_rfl) ?_ (fun K hK => ?_); (· rfl); (try clear hb); go_simp; (refine (HF.out _ (HPs.out.below hHeld)).mono ?_; rintro e w1 ⟨rfl, hb⟩); (try replace hz := (hb.block _ (row_lt hz)).trans hz); go_wp2_with fail; refine hK.out _ _ ?_ (fun hHeld => ?_); (· exact hHeld.trans (hb.mono hHeld.size)); clear hK K
        try simp only [zp1, zp3, zp4, zp5]
        refine rg_yes (i := 12) (v := ?_) (atS (atS (atS (atS (atS (atS (atS (atS (atS (atS (atS (atS at0)))))))))))) (by kernel_rfl) (by kernel_rfl) (by kernel_rfl) (fun _ _ _ h => h) ?_ ?_ hHeld ?_; rotate_left 1; (· rfl); (· intro w' hSw; (try dsimp only at hSw); (try clear hHeld); go_simp; try with_reducible rfl)
        try simp only [zp1, zp3, zp4, zp5]
        refine rg_call (i := 14) (atS (atS (atS (atS (atS (atS (atS (atS (atS (atS (atS (atS (atS (atS at0)))))))))))))) (by kernel_rfl) ?_ (fun K hK => ?_); (· rfl); (try clear hb); refine wp_store_rowat 200 (.tmp 6) (.tmp 22) rfl _ rfl 200 rkZA (rkA ⟨n, 100, hopsN c.a.path, c.a.origin, firstN c.a.path, 0, c.id, c.peer⟩) rfl hz (by kernel_rfl) rfl (rk_one _) ?_; refine hK.out _ _ ?_ (fun hHeld => ?_); (· exact below_setRow hHeld hzB _); clear hK K
        try simp only [Act.put]
        refine wpAnyH_done (by kernel_rfl) ?_ _
        refine abs_row (p := fun W => Exit.then _ _ _ _ W) (setRow_heap _ _ _ _ _ _ hz) hHeld ?_
        intro W3 QR hb3
        obtain ⟨B, hBe, QR⟩ := pull QR
        rw [← hBe] at hzB ⊢
        clear hBe hz hHeld c0 c13
        clear a0 a1 a2 a3 a4 a5 a6 a7 a8 a9
        have nB : ¬ W0.heap.size = B := by have := row_lt QA.out; omega
        have nZ : ¬ w.heap.size + 1 = B := by have := Z1.out; omega
        have BG : Hid (w.heap.size ≤ B) := Lib.hid (by have := Z1.out; omega)
        have QA3 := Lib.hid ((hb3.block _ (row_lt QA.out)).trans QA.out)
        have QZ3 := Lib.hid ((hb3.block _ (row_lt QZ.out)).trans QZ.out)
        have QR3 := Lib.hid QR
        have B3 := Lib.hid (below_on B1.out hb3)
        clear QR hb3 hzB
        obtain ⟨a0, a1, a2, a3, a4, a5, a6, a7, a8, a9⟩ := at_cells QA3.out
        go_wp2_with fail
        refine (HI5.out _).mono ?_
        rintro e w4 ⟨rfl, hb4⟩
        have QA4 := Lib.hid ((hb4.block _ (row_lt QA3.out)).trans QA3.out)
        have QZ4 := Lib.hid ((hb4.block _ (row_lt QZ3.out)).trans QZ3.out)
        have QR4 := Lib.hid ((hb4.block _ (row_lt QR3.out)).trans QR3.out)
        have B4 := Lib.hid (below_on B3.out hb4)
        clear a0 a1 a2 a3 a4 a5 a6 a7 a8 a9 hb4
        obtain ⟨a0, a1, a2, a3, a4, a5, a6, a7, a8, a9⟩ := at_cells QA4.out
        obtain ⟨_, r1, _⟩ := rk_row QR4.out
        have f1 := row_free QR4.out 1
        go_upto_region 5 with (fail)
        obtain ⟨W5, hW5⟩ : ∃ W5, W5 = w4.setCell ⟨B, 1, none⟩ (.int .i64 c.a.loc) := ⟨_, rfl⟩
        have QR5 := Lib.hid (set_same QR4.out 1 (.int .i64 c.a.loc))
        have QA5 := Lib.hid ((set_other (W := w4) B 1 (.int .i64 c.a.loc) nB).trans QA4.out)
        have QZ5 := Lib.hid ((set_other (W := w4) B 1 (.int .i64 c.a.loc) nZ).trans QZ4.out)
        have B5 := Lib.hid (B4.out.setCell (p := ⟨B, 1, none⟩) BG.out (.int .i64 c.a.loc))
        rw [← hW5] at QR5 QA5 QZ5 B5 ⊢
        clear a0 a1 a2 a3 a4 a5 a6 a7 a8 a9 r1 f1 hW5
        obtain ⟨a0, a1, a2, a3, a4, a5, a6, a7, a8, a9⟩ := at_cells QA5.out
        go_wp2_with fail
        refine (HI4.out _).mono ?_
        rintro e w6 ⟨rfl, hb6⟩
        have QA6 := Lib.hid ((hb6.block _ (row_lt QA5.out)).trans QA5.out)
        have QZ6 := Lib.hid ((hb6.block _ (row_lt QZ5.out)).trans QZ5.out)
        have QR6 := Lib.hid ((hb6.block _ (row_lt QR5.out)).trans QR5.out)
        have B6 := Lib.hid (below_on B5.out hb6)
        clear a0 a1 a2 a3 a4 a5 a6 a7 a8 a9 hb6
        obtain ⟨a0, a1, a2, a3, a4, a5, a6, a7, a8, a9⟩ := at_cells QA6.out
        have QR7 := QR6
        have QZ7 := QZ6
        have B7 := B6
        clear a0 a1 a2 a3 a4 a5 a6 a7 a8 a9
        have QR8 : Hid (w6.heap[B]? = some (.cells (rkA ⟨n, c.a.loc, hopsN c.a.path, c.a.origin, firstN c.a.path, 0, c.id, c.peer⟩) 200 (0, 0))) := Lib.hid QR7.out
        obtain ⟨r0, r1, r2, r3, r4, r5, r6, r7⟩ := rk_row QR8.out
        go_wp2_with (refine st_row rfl 200 (.tmp 4) (.tmp 33) rfl (w.heap.size + 1) rfl 200 rkZA (rkA ⟨n, c.a.loc, hopsN c.a.path, c.a.origin, firstN c.a.path, 0, c.id, c.peer⟩) rfl QZ7.out (by kernel_rfl) rfl (rk_one _) ?_)
        refine bodyPost_ret (results_rankOf _ _ (w.heap.size + 1) ⟨n, c.a.loc, hopsN c.a.path, c.a.origin, firstN c.a.path, 0, c.id, c.peer⟩ ?_ (setRow_heap _ _ _ _ _ _ QZ7.out)) rfl ⟨by rw [EL.out], below_setRow B7.out (Nat.le_succ _) _⟩
        rfl
    · have EL : Hid (rkOf n c = ⟨n, c.a.loc, hopsN c.a.path, c.a.origin, firstN c.a.path, c.a.med, c.id, c.peer⟩) := Lib.hid (by unfold rkOf locOf medOf; rw [hl, hm]; rfl)
      have HI5 := Lib.hid (HI.out 5)
      have HI4 := Lib.hid (HI.out 4)
      rw [hl] at HI5
      rw [hm] at HI4
      clear hl hm
      go_wp2_with fail
      refine wp_region_held_drew (S := fun w' => Below W1.heap.size W1 w') (by kernel_rfl) ?_ (fun hHeld => ?_)
      · exact (Below.refl _ _).drew
      generalize World.drew W1 = wd at hHeld ⊢
      refine rg_yes (i := 0) (v := ?_) at0 (by kernel_rfl) (by kernel_rfl) (by kernel_rfl) (fun _ _ _ h => h) ?_ ?_ hHeld ?_; rotate_left 1; (· rfl); (· intro w' hSw; (try dsimp only at hSw); (try clear hHeld); go_simp; try with_reducible rfl)
      try simp only [zp1, zp3, zp4, zp5]
      refine rg_yes (i := 1) (v := ?_) (atS at0) (by kernel_rfl) (by kernel_rfl) (by kernel_rfl) (fun _ _ _ h => h) ?_ ?_ hHeld ?_; rotate_left 1; (· rfl); (· intro w' hSw; (try dsimp only at hSw); have c0 := cell_below c0 hSw; have c13 := cell_below c13 hSw; have a0 := cell_below a0 hSw; have a1 := cell_below a1 hSw; have a2 := cell_below a2 hSw; have a3 := cell_below a3 hSw; have a4 := cell_below a4 hSw; have a5 := cell_below a5 hSw; have a6 := cell_below a6 hSw; have a7 := cell_below a7 hSw; have a8 := cell_below a8 hSw; have a9 := cell_below a9 hSw; (try clear hHeld); go_simp; try with_reducible rfl)
      try simp only [zp1, zp3, zp4, zp5]
      refine rg_yes (i := 3) (v := ?_) (atS (atS (atS at0))) (by kernel_rfl) (by kernel_rfl) (by kernel_rfl) (fun _ _ _ h => h) ?_ ?_ hHeld ?_; rotate_left 1; (· rfl); (· intro w' hSw; (try dsimp only at hSw); (try clear hHeld); go_simp; try with_reducible rfl)
      try simp only [zp1, zp3, zp4, zp5]
      refine rg_yes (i := 4) (v := ?_) (atS (atS (atS (atS at0)))) (by kernel_rfl) (by kernel_rfl) (by kernel_rfl) (fun _ _ _ h => h) ?_ ?_ hHeld ?_; rotate_left 1; (· rfl); (· intro w' hSw; (try dsimp only at hSw); have c0 := cell_below c0 hSw; have c13 := cell_below c13 hSw; have a0 := cell_below a0 hSw; have a1 := cell_below a1 hSw; have a2 := cell_below a2 hSw; have a3 := cell_below a3 hSw; have a4 := cell_below a4 hSw; have a5 := cell_below a5 hSw; have a6 := cell_below a6 hSw; have a7 := cell_below a7 hSw; have a8 := cell_below a8 hSw; have a9 := cell_below a9 hSw; (try clear hHeld); go_simp; try with_reducible rfl)
      try simp only [zp1, zp3, zp4, zp5]
      refine rg_yes (i := 5) (v := ?_) (atS (atS (atS (atS (atS at0))))) (by kernel_rfl) (by kernel_rfl) (by kernel_rfl) (fun _ _ _ h => h) ?_ ?_ hHeld ?_; rotate_left 1; (· rfl); (· intro w' hSw; (try dsimp only at hSw); have c0 := cell_below c0 hSw; have c13 := cell_below c13 hSw; have a0 := cell_below a0 hSw; have a1 := cell_below a1 hSw; have a2 := cell_below a2 hSw; have a3 := cell_below a3 hSw; have a4 := cell_below a4 hSw; have a5 := cell_below a5 hSw; have a6 := cell_below a6 hSw; have a7 := cell_below a7 hSw; have a8 := cell_below a8 hSw; have a9 := cell_below a9 hSw; (try clear hHeld); go_simp; try with_reducible rfl)
      try simp only [zp1, zp3, zp4, zp5]
      refine rg_yes (i := 7) (v := ?_) (atS (atS (atS (atS (atS (atS (atS at0))))))) (by kernel_rfl) (by kernel_rfl) (by kernel_rfl) (fun _ _ _ h => h) ?_ ?_ hHeld ?_; rotate_left 1; (· rfl); (· intro w' hSw; (try dsimp only at hSw); (try clear hHeld); go_simp; try with_reducible rfl)
      try simp only [zp1, zp3, zp4, zp5]
      refine rg_yes (i := 8) (v := ?_) (atS (atS (atS (atS (atS (atS (atS (atS at0)))))))) (by kernel_rfl) (by kernel_rfl) (by kernel_rfl) (fun _ _ _ h => h) ?_ ?_ hHeld ?_; rotate_left 1; (· rfl); (· intro w' hSw; (try dsimp only at hSw); have c0 := cell_below c0 hSw; have c13 := cell_below c13 hSw; have a0 := cell_below a0 hSw; have a1 := cell_below a1 hSw; have a2 := cell_below a2 hSw; have a3 := cell_below a3 hSw; have a4 := cell_below a4 hSw; have a5 := cell_below a5 hSw; have a6 := cell_below a6 hSw; have a7 := cell_below a7 hSw; have a8 := cell_below a8 hSw; have a9 := cell_below a9 hSw; (try clear hHeld); go_simp; try with_reducible rfl)
      try simp only [zp1, zp3, zp4, zp5]
      refine rg_yes (i := 9) (v := ?_) (atS (atS (atS (atS (atS (atS (atS (atS (atS at0))))))))) (by kernel_rfl) (by kernel_rfl) (by kernel_rfl) (fun _ _ _ h => h) ?_ ?_ hHeld ?_; rotate_left 1; (· rfl); (· intro w' hSw; (try dsimp only at hSw); (try clear hHeld); go_simp; try with_reducible rfl)
      try simp only [zp1, zp3, zp4, zp5]
      refine rg_yes (i := 10) (v := ?_) (atS (atS (atS (atS (atS (atS (atS (atS (atS (atS at0)))))))))) (by kernel_rfl) (by kernel_rfl) (by kernel_rfl) (fun _ _ _ h => h) ?_ ?_ hHeld ?_; rotate_left 1; (· rfl); (· intro w' hSw; (try dsimp only at hSw); (try clear hHeld); go_simp; try with_reducible rfl)
      try simp only [zp1, zp3, zp4, zp5]
      refine rg_yes (i := 11) (v := ?_) (atS (atS (atS (atS (atS (atS (atS (atS (atS (atS (atS at0))))))))))) (by kernel_rfl) (by kernel_rfl) (by kernel_rfl) (fun _ _ _ h => h) ?_ ?_ hHeld ?_; rotate_left 1; (· rfl); (· intro w' hSw; (try dsimp only at hSw); have c0 := cell_below c0 hSw; have c13 := cell_below c13 hSw; have a0 := cell_below a0 hSw; have a1 := cell_below a1 hSw; have a2 := cell_below a2 hSw; have a3 := cell_below a3 hSw; have a4 := cell_below a4 hSw; have a5 := cell_below a5 hSw; have a6 := cell_below a6 hSw; have a7 := cell_below a7 hSw; have a8 := cell_below a8 hSw; have a9 := cell_below a9 hSw; (try clear hHeld); go_simp; try with_reducible rfl)
      try simp only [zp1, zp3, zp4, zp5]
      refine rg_call2 (i := 2) (j := 13) (atS (atS at0)) (atS (atS (atS (atS (atS (atS (atS (atS (atS (atS (atS (atS (atS at0))))))))))))) (by kernel_rfl) ?_ ?_ (fun K hK => ?_) (fun K hK => ?_)
      · rfl
      · rfl
      · (try clear hb); go_simp; (refine (HH.out _ (HPs.out.below hHeld)).mono ?_; rintro e w1 ⟨rfl, hb⟩); (try replace hz := (hb.block _ (row_lt hz)).trans hz); go_wp2_with fail; refine hK.out _ _ ?_ (fun hHeld => ?_); (· exact hHeld.trans (hb.mono hHeld.size)); clear hK K
        try simp only [zp1, zp3, zp4, zp5]
        refine rg_call2 (i := 6) (j := 13) (atS (atS (atS (atS (atS (atS at0)))))) (atS (atS (atS (atS (atS (atS (atS (atS (atS (atS (atS (atS (atS at0))))))))))))) (by kernel_rfl) ?_ ?_ (fun K hK => ?_) (fun K hK => ?_)
        · rfl
        · rfl
        · (try clear hb); go_simp; (refine (HF.out _ (HPs.out.below hHeld)).mono ?_; rintro e w1 ⟨rfl, hb⟩); (try replace hz := (hb.block _ (row_lt hz)).trans hz); go_wp2_with fail; refine hK.out _ _ ?_ (fun hHeld => ?_); (· exact hHeld.trans (hb.mono hHeld.size)); clear hK K
          try simp only [zp1, zp3, zp4, zp5]
          refine rg_yes (i := 12) (v := ?_) (atS (atS (atS (atS (atS (atS (atS (atS (atS (atS (atS (atS at0)))))))))))) (by kernel_rfl) (by kernel_rfl) (by kernel_rfl) (fun _ _ _ h => h) ?_ ?_ hHeld ?_; rotate_left 1; (· rfl); (· intro w' hSw; (try dsimp only at hSw); (try clear hHeld); go_simp; try with_reducible rfl)
          try simp only [zp1, zp3, zp4, zp5]
          refine rg_call (i := 13) (atS (atS (atS (atS (atS (atS (atS (atS (atS (atS (atS (atS (atS at0))))))))))))) (by kernel_rfl) ?_ (fun K hK => ?_); (· rfl); (try clear hb); go_simp; (refine allocK rkZA 200 (p := K _) ?_); intro w1 hz hb; have hzB := hHeld.size; refine hK.out _ _ ?_ (fun hHeld => ?_); (· exact hHeld.trans (hb.mono hHeld.size)); clear hK K
          try simp only [zp1, zp3, zp4, zp5]
          refine rg_call (i := 14) (atS (atS (atS (atS (atS (atS (atS (atS (atS (atS (atS (atS (atS (atS at0)))))))))))))) (by kernel_rfl) ?_ (fun K hK => ?_); (· rfl); (try clear hb); refine wp_store_rowat 200 (.tmp 6) (.tmp 22) rfl _ rfl 200 rkZA (rkA ⟨n, 100, hopsN c.a.path, c.a.origin, firstN c.a.path, 0, c.id, c.peer⟩) rfl hz (by kernel_rfl) rfl (rk_one _) ?_; refine hK.out _ _ ?_ (fun hHeld => ?_); (· exact below_setRow hHeld hzB _); clear hK K
          try simp only [Act.put]
          refine wpAnyH_done (by kernel_rfl) ?_ _
          refine abs_row (p := fun W => Exit.then _ _ _ _ W) (setRow_heap _ _ _ _ _ _ hz) hHeld ?_
          intro W3 QR hb3
          obtain ⟨B, hBe, QR⟩ := pull QR
          rw [← hBe] at hzB ⊢
          clear hBe hz hHeld c0 c13
          clear a0 a1 a2 a3 a4 a5 a6 a7 a8 a9
          have nB : ¬ W0.heap.size = B := by have := row_lt QA.out; omega
          have nZ : ¬ w.heap.size + 1 = B := by have := Z1.out; omega
          have BG : Hid (w.heap.size ≤ B) := Lib.hid (by have := Z1.out; omega)
          have QA3 := Lib.hid ((hb3.block _ (row_lt QA.out)).trans QA.out)
          have QZ3 := Lib.hid ((hb3.block _ (row_lt QZ.out)).trans QZ.out)
          have QR3 := Lib.hid QR
          have B3 := Lib.hid (below_on B1.out hb3)
          clear QR hb3 hzB
          obtain ⟨a0, a1, a2, a3, a4, a5, a6, a7, a8, a9⟩ := at_cells QA3.out
          go_wp2_with fail
          refine (HI5.out _).mono ?_
          rintro e w4 ⟨rfl, hb4⟩
          have QA4 := Lib.hid ((hb4.block _ (row_lt QA3.out)).trans QA3.out)
          have QZ4 := Lib.hid ((hb4.block _ (row_lt QZ3.out)).trans QZ3.out)
          have QR4 := Lib.hid ((hb4.block _ (row_lt QR3.out)).trans QR3.out)
          have B4 := Lib.hid (below_on B3.out hb4)
          clear a0 a1 a2 a3 a4 a5 a6 a7 a8 a9 hb4
          obtain ⟨a0, a1, a2, a3, a4, a5, a6, a7, a8, a9⟩ := at_cells QA4.out
          obtain ⟨_, r1, _⟩ := rk_row QR4.out
          have f1 := row_free QR4.out 1
          go_upto_region 5 with (fail)
          obtain ⟨W5, hW5⟩ : ∃ W5, W5 = w4.setCell ⟨B, 1, none⟩ (.int .i64 c.a.loc) := ⟨_, rfl⟩
          have QR5 := Lib.hid (set_same QR4.out 1 (.int .i64 c.a.loc))
          have QA5 := Lib.hid ((set_other (W := w4) B 1 (.int .i64 c.a.loc) nB).trans QA4.out)
          have QZ5 := Lib.hid ((set_other (W := w4) B 1 (.int .i64 c.a.loc) nZ).trans QZ4.out)
          have B5 := Lib.hid (B4.out.setCell (p := ⟨B, 1, none⟩) BG.out (.int .i64 c.a.loc))
          rw [← hW5] at QR5 QA5 QZ5 B5 ⊢
          clear a0 a1 a2 a3 a4 a5 a6 a7 a8 a9 r1 f1 hW5
          obtain ⟨a0, a1, a2, a3, a4, a5, a6, a7, a8, a9⟩ := at_cells QA5.out
          go_wp2_with fail
          refine (HI4.out _).mono ?_
          rintro e w6 ⟨rfl, hb6⟩
          have QA6 := Lib.hid ((hb6.block _ (row_lt QA5.out)).trans QA5.out)
          have QZ6 := Lib.hid ((hb6.block _ (row_lt QZ5.out)).trans QZ5.out)
          have QR6 := Lib.hid ((hb6.block _ (row_lt QR5.out)).trans QR5.out)
          have B6 := Lib.hid (below_on B5.out hb6)
          clear a0 a1 a2 a3 a4 a5 a6 a7 a8 a9 hb6
          obtain ⟨a0, a1, a2, a3, a4, a5, a6, a7, a8, a9⟩ := at_cells QA6.out
          have r5 := row_cell QR6.out 5
          have f5 := row_free QR6.out 5
          replace r5 : w6.cell? ⟨B, 5, none⟩ = some (.int .i64 0) := r5
          go_upto_region 7 with (fail)
          obtain ⟨W7, hW7⟩ : ∃ W7, W7 = w6.setCell ⟨B, 5, none⟩ (.int .i64 c.a.med) := ⟨_, rfl⟩
          have QR7 := Lib.hid (set_same QR6.out 5 (.int .i64 c.a.med))
          have QZ7 := Lib.hid ((set_other (W := w6) B 5 (.int .i64 c.a.med) nZ).trans QZ6.out)
          have B7 := Lib.hid (B6.out.setCell (p := ⟨B, 5, none⟩) BG.out (.int .i64 c.a.med))
          rw [← hW7] at QR7 QZ7 B7 ⊢
          clear a0 a1 a2 a3 a4 a5 a6 a7 a8 a9 r5 f5 hW7
          have QR8 : Hid (W7.heap[B]? = some (.cells (rkA ⟨n, c.a.loc, hopsN c.a.path, c.a.origin, firstN c.a.path, c.a.med, c.id, c.peer⟩) 200 (0, 0))) := Lib.hid QR7.out
          obtain ⟨r0, r1, r2, r3, r4, r5, r6, r7⟩ := rk_row QR8.out
          go_wp2_with (refine st_row rfl 200 (.tmp 4) (.tmp 33) rfl (w.heap.size + 1) rfl 200 rkZA (rkA ⟨n, c.a.loc, hopsN c.a.path, c.a.origin, firstN c.a.path, c.a.med, c.id, c.peer⟩) rfl QZ7.out (by kernel_rfl) rfl (rk_one _) ?_)
          refine bodyPost_ret (results_rankOf _ _ (w.heap.size + 1) ⟨n, c.a.loc, hopsN c.a.path, c.a.origin, firstN c.a.path, c.a.med, c.id, c.peer⟩ ?_ (setRow_heap _ _ _ _ _ _ QZ7.out)) rfl ⟨by rw [EL.out], below_setRow B7.out (Nat.le_succ _) _⟩
          rfl
        · (try clear hb); go_simp; (refine allocK rkZA 200 (p := K _) ?_); intro w1 hz hb; have hzB := hHeld.size; refine hK.out _ _ ?_ (fun hHeld => ?_); (· exact hHeld.trans (hb.mono hHeld.size)); clear hK K
          try simp only [zp1, zp3, zp4, zp5]
          refine rg_call (i := 6) (atS (atS (atS (atS (atS (atS at0)))))) (by kernel_rfl) ?_ (fun K hK => ?_); (· rfl); (try clear hb); go_simp; (refine (HF.out _ (HPs.out.below hHeld)).mono ?_; rintro e w1 ⟨rfl, hb⟩); (try replace hz := (hb.block _ (row_lt hz)).trans hz); go_wp2_with fail; refine hK.out _ _ ?_ (fun hHeld => ?_); (· exact hHeld.trans (hb.mono hHeld.size)); clear hK K
          try simp only [zp1, zp3, zp4, zp5]
          refine rg_yes (i := 12) (v := ?_) (atS (atS (atS (atS (atS (atS (atS (atS (atS (atS (atS (atS at0)))))))))))) (by kernel_rfl) (by kernel_rfl) (by kernel_rfl) (fun _ _ _ h => h) ?_ ?_ hHeld ?_; rotate_left 1; (· rfl); (· intro w' hSw; (try dsimp only at hSw); (try clear hHeld); go_simp; try with_reducible rfl)
          try simp only [zp1, zp3, zp4, zp5]
          refine rg_call (i := 14) (atS (atS (atS (atS (atS (atS (atS (atS (atS (atS (atS (atS (atS (atS at0)))))))))))))) (by kernel_rfl) ?_ (fun K hK => ?_); (· rfl); (try clear hb); refine wp_store_rowat 200 (.tmp 6) (.tmp 22) rfl _ rfl 200 rkZA (rkA ⟨n, 100, hopsN c.a.path, c.a.origin, firstN c.a.path, 0, c.id, c.peer⟩) rfl hz (by kernel_rfl) rfl (rk_one _) ?_; refine hK.out _ _ ?_ (fun hHeld => ?_); (· exact below_setRow hHeld hzB _); clear hK K
          try simp only [Act.put]
          refine wpAnyH_done (by kernel_rfl) ?_ _
          refine abs_row (p := fun W => Exit.then _ _ _ _ W) (setRow_heap _ _ _ _ _ _ hz) hHeld ?_
          intro W3 QR hb3
          obtain ⟨B, hBe, QR⟩ := pull QR
          rw [← hBe] at hzB ⊢
          clear hBe hz hHeld c0 c13
          clear a0 a1 a2 a3 a4 a5 a6 a7 a8 a9
          have nB : ¬ W0.heap.size = B := by have := row_lt QA.out; omega
          have nZ : ¬ w.heap.size + 1 = B := by have := Z1.out; omega
          have BG : Hid (w.heap.size ≤ B) := Lib.hid (by have := Z1.out; omega)
          have QA3 := Lib.hid ((hb3.block _ (row_lt QA.out)).trans QA.out)
          have QZ3 := Lib.hid ((hb3.block _ (row_lt QZ.out)).trans QZ.out)
          have QR3 := Lib.hid QR
          have B3 := Lib.hid (below_on B1.out hb3)
          clear QR hb3 hzB
          obtain ⟨a0, a1, a2, a3, a4, a5, a6, a7, a8, a9⟩ := at_cells QA3.out
          go_wp2_with fail
          refine (HI5.out _).mono ?_
          rintro e w4 ⟨rfl, hb4⟩
          have QA4 := Lib.hid ((hb4.block _ (row_lt QA3.out)).trans QA3.out)
          have QZ4 := Lib.hid ((hb4.block _ (row_lt QZ3.out)).trans QZ3.out)
          have QR4 := Lib.hid ((hb4.block _ (row_lt QR3.out)).trans QR3.out)
          have B4 := Lib.hid (below_on B3.out hb4)
          clear a0 a1 a2 a3 a4 a5 a6 a7 a8 a9 hb4
          obtain ⟨a0, a1, a2, a3, a4, a5, a6, a7, a8, a9⟩ := at_cells QA4.out
          obtain ⟨_, r1, _⟩ := rk_row QR4.out
          have f1 := row_free QR4.out 1
          go_upto_region 5 with (fail)
          obtain ⟨W5, hW5⟩ : ∃ W5, W5 = w4.setCell ⟨B, 1, none⟩ (.int .i64 c.a.loc) := ⟨_, rfl⟩
          have QR5 := Lib.hid (set_same QR4.out 1 (.int .i64 c.a.loc))
          have QA5 := Lib.hid ((set_other (W := w4) B 1 (.int .i64 c.a.loc) nB).trans QA4.out)
          have QZ5 := Lib.hid ((set_other (W := w4) B 1 (.int .i64 c.a.loc) nZ).trans QZ4.out)
          have B5 := Lib.hid (B4.out.setCell (p := ⟨B, 1, none⟩) BG.out (.int .i64 c.a.loc))
          rw [← hW5] at QR5 QA5 QZ5 B5 ⊢
          clear a0 a1 a2 a3 a4 a5 a6 a7 a8 a9 r1 f1 hW5
          obtain ⟨a0, a1, a2, a3, a4, a5, a6, a7, a8, a9⟩ := at_cells QA5.out
          go_wp2_with fail
          refine (HI4.out _).mono ?_
          rintro e w6 ⟨rfl, hb6⟩
          have QA6 := Lib.hid ((hb6.block _ (row_lt QA5.out)).trans QA5.out)
          have QZ6 := Lib.hid ((hb6.block _ (row_lt QZ5.out)).trans QZ5.out)
          have QR6 := Lib.hid ((hb6.block _ (row_lt QR5.out)).trans QR5.out)
          have B6 := Lib.hid (below_on B5.out hb6)
          clear a0 a1 a2 a3 a4 a5 a6 a7 a8 a9 hb6
          obtain ⟨a0, a1, a2, a3, a4, a5, a6, a7, a8, a9⟩ := at_cells QA6.out
          have r5 := row_cell QR6.out 5
          have f5 := row_free QR6.out 5
          replace r5 : w6.cell? ⟨B, 5, none⟩ = some (.int .i64 0) := r5
          go_upto_region 7 with (fail)
          obtain ⟨W7, hW7⟩ : ∃ W7, W7 = w6.setCell ⟨B, 5, none⟩ (.int .i64 c.a.med) := ⟨_, rfl⟩
          have QR7 := Lib.hid (set_same QR6.out 5 (.int .i64 c.a.med))
          have QZ7 := Lib.hid ((set_other (W := w6) B 5 (.int .i64 c.a.med) nZ).trans QZ6.out)
          have B7 := Lib.hid (B6.out.setCell (p := ⟨B, 5, none⟩) BG.out (.int .i64 c.a.med))
          rw [← hW7] at QR7 QZ7 B7 ⊢
          clear a0 a1 a2 a3 a4 a5 a6 a7 a8 a9 r5 f5 hW7
          have QR8 : Hid (W7.heap[B]? = some (.cells (rkA ⟨n, c.a.loc, hopsN c.a.path, c.a.origin, firstN c.a.path, c.a.med, c.id, c.peer⟩) 200 (0, 0))) := Lib.hid QR7.out
          obtain ⟨r0, r1, r2, r3, r4, r5, r6, r7⟩ := rk_row QR8.out
          go_wp2_with (refine st_row rfl 200 (.tmp 4) (.tmp 33) rfl (w.heap.size + 1) rfl 200 rkZA (rkA ⟨n, c.a.loc, hopsN c.a.path, c.a.origin, firstN c.a.path, c.a.med, c.id, c.peer⟩) rfl QZ7.out (by kernel_rfl) rfl (rk_one _) ?_)
          refine bodyPost_ret (results_rankOf _ _ (w.heap.size + 1) ⟨n, c.a.loc, hopsN c.a.path, c.a.origin, firstN c.a.path, c.a.med, c.id, c.peer⟩ ?_ (setRow_heap _ _ _ _ _ _ QZ7.out)) rfl ⟨by rw [EL.out], below_setRow B7.out (Nat.le_succ _) _⟩
          rfl
      · (try clear hb); go_simp; (refine allocK rkZA 200 (p := K _) ?_); intro w1 hz hb; have hzB := hHeld.size; refine hK.out _ _ ?_ (fun hHeld => ?_); (· exact hHeld.trans (hb.mono hHeld.size)); clear hK K
        try simp only [zp1, zp3, zp4, zp5]
        refine rg_call (i := 2) (atS (atS at0)) (by kernel_rfl) ?_ (fun K hK => ?_); (· rfl); (try clear hb); go_simp; (refine (HH.out _ (HPs.out.below hHeld)).mono ?_; rintro e w1 ⟨rfl, hb⟩); (try replace hz := (hb.block _ (row_lt hz)).trans hz); go_wp2_with fail; refine hK.out _ _ ?_ (fun hHeld => ?_); (· exact hHeld.trans (hb.mono hHeld.size)); clear hK K
        try simp only [zp1, zp3, zp4, zp5]
        refine rg_call (i := 6) (atS (atS (atS (atS (atS (atS at0)))))) (by kernel_rfl) ?_ (fun K hK => ?_); (· rfl); (try clear hb); go_simp; (refine (HF.out _ (HPs.out.below hHeld)).mono ?_; rintro e w1 ⟨rfl, hb⟩); (try replace hz := (hb.block _ (row_lt hz)).trans hz); go_wp2_with fail; refine hK.out _ _ ?_ (fun hHeld => ?_); (· exact hHeld.trans (hb.mono hHeld.size)); clear hK K
        try simp only [zp1, zp3, zp4, zp5]
        refine rg_yes (i := 12) (v := ?_) (atS (atS (atS (atS (atS (atS (atS (atS (atS (atS (atS (atS at0)))))))))))) (by kernel_rfl) (by kernel_rfl) (by kernel_rfl) (fun _ _ _ h => h) ?_ ?_ hHeld ?_; rotate_left 1; (· rfl); (· intro w' hSw; (try dsimp only at hSw); (try clear hHeld); go_simp; try with_reducible rfl)
        try simp only [zp1, zp3, zp4, zp5]
        refine rg_call (i := 14) (atS (atS (atS (atS (atS (atS (atS (atS (atS (atS (atS (atS (atS (atS at0)))))))))))))) (by kernel_rfl) ?_ (fun K hK => ?_); (· rfl); (try clear hb); refine wp_store_rowat 200 (.tmp 6) (.tmp 22) rfl _ rfl 200 rkZA (rkA ⟨n, 100, hopsN c.a.path, c.a.origin, firstN c.a.path, 0, c.id, c.peer⟩) rfl hz (by kernel_rfl) rfl (rk_one _) ?_; refine hK.out _ _ ?_ (fun hHeld => ?_); (· exact below_setRow hHeld hzB _); clear hK K
        try simp only [Act.put]
        refine wpAnyH_done (by kernel_rfl) ?_ _
        refine abs_row (p := fun W => Exit.then _ _ _ _ W) (setRow_heap _ _ _ _ _ _ hz) hHeld ?_
        intro W3 QR hb3
        obtain ⟨B, hBe, QR⟩ := pull QR
        rw [← hBe] at hzB ⊢
        clear hBe hz hHeld c0 c13
        clear a0 a1 a2 a3 a4 a5 a6 a7 a8 a9
        have nB : ¬ W0.heap.size = B := by have := row_lt QA.out; omega
        have nZ : ¬ w.heap.size + 1 = B := by have := Z1.out; omega
        have BG : Hid (w.heap.size ≤ B) := Lib.hid (by have := Z1.out; omega)
        have QA3 := Lib.hid ((hb3.block _ (row_lt QA.out)).trans QA.out)
        have QZ3 := Lib.hid ((hb3.block _ (row_lt QZ.out)).trans QZ.out)
        have QR3 := Lib.hid QR
        have B3 := Lib.hid (below_on B1.out hb3)
        clear QR hb3 hzB
        obtain ⟨a0, a1, a2, a3, a4, a5, a6, a7, a8, a9⟩ := at_cells QA3.out
        go_wp2_with fail
        refine (HI5.out _).mono ?_
        rintro e w4 ⟨rfl, hb4⟩
        have QA4 := Lib.hid ((hb4.block _ (row_lt QA3.out)).trans QA3.out)
        have QZ4 := Lib.hid ((hb4.block _ (row_lt QZ3.out)).trans QZ3.out)
        have QR4 := Lib.hid ((hb4.block _ (row_lt QR3.out)).trans QR3.out)
        have B4 := Lib.hid (below_on B3.out hb4)
        clear a0 a1 a2 a3 a4 a5 a6 a7 a8 a9 hb4
        obtain ⟨a0, a1, a2, a3, a4, a5, a6, a7, a8, a9⟩ := at_cells QA4.out
        obtain ⟨_, r1, _⟩ := rk_row QR4.out
        have f1 := row_free QR4.out 1
        go_upto_region 5 with (fail)
        obtain ⟨W5, hW5⟩ : ∃ W5, W5 = w4.setCell ⟨B, 1, none⟩ (.int .i64 c.a.loc) := ⟨_, rfl⟩
        have QR5 := Lib.hid (set_same QR4.out 1 (.int .i64 c.a.loc))
        have QA5 := Lib.hid ((set_other (W := w4) B 1 (.int .i64 c.a.loc) nB).trans QA4.out)
        have QZ5 := Lib.hid ((set_other (W := w4) B 1 (.int .i64 c.a.loc) nZ).trans QZ4.out)
        have B5 := Lib.hid (B4.out.setCell (p := ⟨B, 1, none⟩) BG.out (.int .i64 c.a.loc))
        rw [← hW5] at QR5 QA5 QZ5 B5 ⊢
        clear a0 a1 a2 a3 a4 a5 a6 a7 a8 a9 r1 f1 hW5
        obtain ⟨a0, a1, a2, a3, a4, a5, a6, a7, a8, a9⟩ := at_cells QA5.out
        go_wp2_with fail
        refine (HI4.out _).mono ?_
        rintro e w6 ⟨rfl, hb6⟩
        have QA6 := Lib.hid ((hb6.block _ (row_lt QA5.out)).trans QA5.out)
        have QZ6 := Lib.hid ((hb6.block _ (row_lt QZ5.out)).trans QZ5.out)
        have QR6 := Lib.hid ((hb6.block _ (row_lt QR5.out)).trans QR5.out)
        have B6 := Lib.hid (below_on B5.out hb6)
        clear a0 a1 a2 a3 a4 a5 a6 a7 a8 a9 hb6
        obtain ⟨a0, a1, a2, a3, a4, a5, a6, a7, a8, a9⟩ := at_cells QA6.out
        have r5 := row_cell QR6.out 5
        have f5 := row_free QR6.out 5
        replace r5 : w6.cell? ⟨B, 5, none⟩ = some (.int .i64 0) := r5
        go_upto_region 7 with (fail)
        obtain ⟨W7, hW7⟩ : ∃ W7, W7 = w6.setCell ⟨B, 5, none⟩ (.int .i64 c.a.med) := ⟨_, rfl⟩
        have QR7 := Lib.hid (set_same QR6.out 5 (.int .i64 c.a.med))
        have QZ7 := Lib.hid ((set_other (W := w6) B 5 (.int .i64 c.a.med) nZ).trans QZ6.out)
        have B7 := Lib.hid (B6.out.setCell (p := ⟨B, 5, none⟩) BG.out (.int .i64 c.a.med))
        rw [← hW7] at QR7 QZ7 B7 ⊢
        clear a0 a1 a2 a3 a4 a5 a6 a7 a8 a9 r5 f5 hW7
        have QR8 : Hid (W7.heap[B]? = some (.cells (rkA ⟨n, c.a.loc, hopsN c.a.path, c.a.origin, firstN c.a.path, c.a.med, c.id, c.peer⟩) 200 (0, 0))) := Lib.hid QR7.out
        obtain ⟨r0, r1, r2, r3, r4, r5, r6, r7⟩ := rk_row QR8.out
        go_wp2_with (refine st_row rfl 200 (.tmp 4) (.tmp 33) rfl (w.heap.size + 1) rfl 200 rkZA (rkA ⟨n, c.a.loc, hopsN c.a.path, c.a.origin, firstN c.a.path, c.a.med, c.id, c.peer⟩) rfl QZ7.out (by kernel_rfl) rfl (rk_one _) ?_)
        refine bodyPost_ret (results_rankOf _ _ (w.heap.size + 1) ⟨n, c.a.loc, hopsN c.a.path, c.a.origin, firstN c.a.path, c.a.med, c.id, c.peer⟩ ?_ (setRow_heap _ _ _ _ _ _ QZ7.out)) rfl ⟨by rw [EL.out], below_setRow B7.out (Nat.le_succ _) _⟩
        rfl
end Go.Proofs.YtkoidahgbbabiaaGreat
