/- Texts of one proof, one behind another. -/
import Derived.Test.YtkoidahgbbabiaaGreatSf3
import Derived.Test.YtkoidahgbbabiaaGreatSf1
import Derived.LoopTactic
import Derived.OwnWalk
import Derived.Deep.DeepCutAuto
import Derived.LoopN
/-
  CHOOSE: slices.MinFunc: the first of those than which none is less.
-/
namespace Go.Proofs.YtkoidahgbbabiaaGreat
open Go.RowKit
def RkC (r : Rk) (cs : List Value) : Prop := cs = rkL r
abbrev RksAt (w : World) (v : Value) (rs : List Rk) : Prop := SlAt w 8 RkC v rs
theorem RksAt.below {w w' : World} {v : Value} {rs : List Rk} (h : RksAt w v rs) (hb : Below w.heap.size w w') : RksAt w' v rs := SlAt.below h hb fun _ _ h => h
def minBy (f : Rk → Rk → Int) (r : Rk) (l : List Rk) : Rk := l.foldl (fun m x => if f x m < 0 then x else m) r
theorem minBy_step (f : Rk → Rk → Int) (r : Rk) {l : List Rk} {k : Nat} {x : Rk} (h : l[k]? = some x) : minBy f r (l.take (k + 1)) = if f x (minBy f r (l.take k)) < 0 then x else minBy f r (l.take k) := by
  obtain ⟨h1, h2⟩ := List.getElem?_eq_some_iff.1 h
  unfold minBy
  rw [List.take_succ_eq_append_getElem h1, List.foldl_append, h2]; rfl
theorem boxK (w : World) (a : Rk) : ∃ W0, W0 = w.alloc (.cells (rkA a) 200) ∧ W0.heap[w.heap.size]? = some (.cells (rkA a) 200 (0, 0)) ∧ Below w.heap.size w W0 ∧ W0.heap.size = w.heap.size + 1 :=
  ⟨_, rfl, heap_alloc_new w _, (Below.refl _ _).alloc (Nat.le_refl _) _, by simp⟩
abbrev rkZA : Array Value := #[.int .i64 0, .int .i64 0, .int .i64 0, .int .i64 0, .int .i64 0, .int .i64 0, .int .u32 0, .int .i64 0]
theorem boxKz (w : World) : ∃ W0, W0 = w.alloc (.cells rkZA 200) ∧ W0.heap[w.heap.size]? = some (.cells rkZA 200 (0, 0)) ∧ Below w.heap.size w W0 ∧ W0.heap.size = w.heap.size + 1 :=
  ⟨_, rfl, heap_alloc_new w _, (Below.refl _ _).alloc (Nat.le_refl _) _, by simp⟩
theorem rk_one (r : Rk) : (rkA r).all (·.oneCell') = true := by simp [Value.oneCell']
theorem rk_cells {w : World} {b off i : Nat} {r : Rk} {cs : List Value} (hR : RkC r cs) (hc : ∀ (j : Nat) (c : Value), cs[j]? = some c → w.cell? ⟨b, off + i * 8 + j, none⟩ = some c) :
    w.cell? ⟨b, off + i * 8, none⟩ = some (.int .i64 r.place) ∧ w.cell? ⟨b, off + i * 8 + 1, none⟩ = some (.int .i64 r.loc) ∧ w.cell? ⟨b, off + i * 8 + 2, none⟩ = some (.int .i64 r.hops) ∧ w.cell? ⟨b, off + i * 8 + 3, none⟩ = some (.int .i64 r.origin) ∧
    w.cell? ⟨b, off + i * 8 + 4, none⟩ = some (.int .i64 r.first) ∧ w.cell? ⟨b, off + i * 8 + 5, none⟩ = some (.int .i64 r.med) ∧ w.cell? ⟨b, off + i * 8 + 6, none⟩ = some (.int .u32 r.id) ∧ w.cell? ⟨b, off + i * 8 + 7, none⟩ = some (.int .i64 r.peer) := by
  unfold RkC at hR
  subst hR
  exact ⟨hc 0 _ rfl, hc 1 _ rfl, hc 2 _ rfl, hc 3 _ rfl, hc 4 _ rfl, hc 5 _ rfl, hc 6 _ rfl, hc 7 _ rfl⟩
theorem results_Min (tmps : Array Value) (W : World) (b : Nat) (r : Rk) (h4 : tmps.getD 4 undef = .pointer (some ⟨b, 0, none⟩)) (hb : W.heap[b]? = some (.cells (rkA r) 200 (0, 0))) :
    (results Tryz.f164 tmps).run Tryz.prog W = .ok (.agg (rkA r)) W := results_cell_row Tryz.results164 tmps W b 200 (rkA r) (0, 0) _ h4 hb Tryz.underlying200 rfl (by kernel_rfl)
set_option maxHeartbeats 3200000 in
set_option maxRecDepth 100000 in
theorem min_ahead (v : Value) (r0 : Rk) (rs : List Rk) (w : World) (h : RksAt w v (r0 :: rs)) :
    Calls Tryz.prog 164 #[v, .func (.func 165) #[] #[]] w fun e w' => e = .returned (.agg (rkA (minBy aheadI r0 rs))) ∧ Below w.heap.size w w' := by
  obtain ⟨sa, cap, rfl, hlc, hcm, hV⟩ := h
  unfold maxLen at hcm
  obtain ⟨b, off, hsa, hP⟩ := hV (by simp)
  subst hsa
  have HP := Lib.hid hP
  obtain ⟨cs, _, hR, hc⟩ := hP 0 r0 rfl
  obtain ⟨d0, d1, d2, d3, d4, d5, d6, d7⟩ := rk_cells hR hc
  simp only [Nat.zero_mul, Nat.add_zero] at d0 d1 d2 d3 d4 d5 d6 d7
  have CA := Lib.hid ch_ahead
  clear hV hP hR hc
  simp only [List.length_cons] at hlc ⊢
  have n1 : ¬ ((rs.length : Int) + 1 < 1) := by omega
  have n2 : (0 : Int) < (rs.length : Int) + 1 := by omega
  go_enter Tryz.func164, Tryz.ntmps164
  go_upto_region 1 with (fail)
  obtain ⟨W0, hW0, q0, hb0, hz0⟩ := boxKz w
  rw [← hW0]
  clear hW0
  have d0 := cell_below d0 hb0
  have d1 := cell_below d1 hb0
  have d2 := cell_below d2 hb0
  have d3 := cell_below d3 hb0
  have d4 := cell_below d4 hb0
  have d5 := cell_below d5 hb0
  have d6 := cell_below d6 hb0
  have d7 := cell_below d7 hb0
  have Q0 := Lib.hid q0
  have HZ0 := Lib.hid hz0
  clear q0 hz0
  go_upto_region 4 with (fail)
  obtain ⟨W1, hW1, q1, hb1, _⟩ := boxK W0 r0
  rw [← hW1]
  clear hW1
  have Q0 := Lib.hid ((hb1.block _ (row_lt Q0.out)).trans Q0.out)
  have Q1 := Lib.hid q1
  have B1 := Lib.hid (below_on hb0 hb1)
  have B0 := Lib.hid hb1
  clear d0 d1 d2 d3 d4 d5 d6 d7 hb0 hb1 q1
  go_wp2_with fail
  go_loopw [6] (fun i wr => ∃ (k : Nat) (m : Rk), 1 ≤ k ∧ k ≤ rs.length + 1 ∧ i = .int .i64 k ∧ Hid (m = minBy aheadI r0 (rs.take (k - 1))) ∧ Hid (wr.heap[w.heap.size]? = some (.cells rkZA 200 (0, 0))) ∧ Hid (wr.heap[W0.heap.size]? = some (.cells (rkA m) 200 (0, 0))) ∧ Hid (Below w.heap.size w wr)) (fun i _ => rs.length + 1 - (intOf i).toNat)
  case atStart => exact ⟨1, r0, by omega, by omega, rfl, Lib.hid rfl, Q0, Q1, B1⟩
  case round =>
    clear Q0 Q1 B1 B0
    obtain ⟨k, m, hk1, hk2, rfl, E, Q0, Q1, B1⟩ := hrel
    have m0 : wr.cell? ⟨W0.heap.size, 0, none⟩ = some (.int .i64 m.place) := row_cell Q1.out 0
    have m1 : wr.cell? ⟨W0.heap.size, 1, none⟩ = some (.int .i64 m.loc) := row_cell Q1.out 1
    have m2 : wr.cell? ⟨W0.heap.size, 2, none⟩ = some (.int .i64 m.hops) := row_cell Q1.out 2
    have m3 : wr.cell? ⟨W0.heap.size, 3, none⟩ = some (.int .i64 m.origin) := row_cell Q1.out 3
    have m4 : wr.cell? ⟨W0.heap.size, 4, none⟩ = some (.int .i64 m.first) := row_cell Q1.out 4
    have m5 : wr.cell? ⟨W0.heap.size, 5, none⟩ = some (.int .i64 m.med) := row_cell Q1.out 5
    have m6 : wr.cell? ⟨W0.heap.size, 6, none⟩ = some (.int .u32 m.id) := row_cell Q1.out 6
    have m7 : wr.cell? ⟨W0.heap.size, 7, none⟩ = some (.int .i64 m.peer) := row_cell Q1.out 7
    by_cases hlt : k < rs.length + 1
    · obtain ⟨x, hx⟩ : ∃ x, rs[k - 1]? = some x := ⟨_, List.getElem?_eq_getElem (by omega)⟩
      obtain ⟨cs, _, hR, hc⟩ := HP.out k x (by rw [show k = (k - 1) + 1 by omega]; simpa using hx)
      obtain ⟨x0, x1, x2, x3, x4, x5, x6, x7⟩ := rk_cells hR hc
      have x0 := (B1.out.cell (size_lt x0)).trans x0
      have x1 := (B1.out.cell (size_lt x1)).trans x1
      have x2 := (B1.out.cell (size_lt x2)).trans x2
      have x3 := (B1.out.cell (size_lt x3)).trans x3
      have x4 := (B1.out.cell (size_lt x4)).trans x4
      have x5 := (B1.out.cell (size_lt x5)).trans x5
      have x6 := (B1.out.cell (size_lt x6)).trans x6
      have x7 := (B1.out.cell (size_lt x7)).trans x7
      have ST := Lib.hid (minBy_step aheadI r0 hx)
      rw [← E.out, show k - 1 + 1 = k + 1 - 1 by omega] at ST
      have i0 : (0 : Int) ≤ (k : Int) := by omega
      have i1 : (k : Int) < (rs.length : Int) + 1 := by omega
      have BZ : Hid (w.heap.size < W0.heap.size) := Lib.hid (by have := HZ0.out; omega)
      clear hR hc hx E
      by_cases hn : aheadI x m < 0
      · have ST2 : Hid (x = minBy aheadI r0 (rs.take (k + 1 - 1))) := Lib.hid (by rw [ST.out, if_pos hn])
        clear ST
        go_wp2_with fail
        refine wp_region_held_drew (S := fun w' => Below wr.heap.size wr w') (by kernel_rfl) ?_ (fun hHeld => ?_)
        · exact (Below.refl _ _).drew
        refine rg_yes (i := 0) (v := ?_) at0 (by kernel_rfl) (by kernel_rfl) (by kernel_rfl) (fun _ _ _ h => h) ?_ ?_ hHeld ?_; rotate_left 1; (· rfl); (· intro w' hSw; (try dsimp only at hSw); (try clear hHeld); go_simp; try with_reducible rfl)
        try simp only [zp1, zp3, zp4, zp5]
        refine rg_yes (i := 1) (v := ?_) (atS at0) (by kernel_rfl) (by kernel_rfl) (by kernel_rfl) (fun _ _ _ h => h) ?_ ?_ hHeld ?_; rotate_left 1; (· rfl); (· intro w' hSw; (try dsimp only at hSw); (try clear hHeld); go_simp; try with_reducible rfl)
        try simp only [zp1, zp3, zp4, zp5]
        refine rg_yes (i := 2) (v := ?_) (atS (atS at0)) (by kernel_rfl) (by kernel_rfl) (by kernel_rfl) (fun _ _ _ h => h) ?_ ?_ hHeld ?_; rotate_left 1; (· rfl); (· intro w' hSw; (try dsimp only at hSw); (try clear hHeld); go_simp; try with_reducible rfl)
        try simp only [zp1, zp3, zp4, zp5]
        refine rg_yes (i := 3) (v := ?_) (atS (atS (atS at0))) (by kernel_rfl) (by kernel_rfl) (by kernel_rfl) (fun _ _ _ h => h) ?_ ?_ hHeld ?_; rotate_left 1; (· rfl); (· intro w' hSw; (try dsimp only at hSw); have x0 := cell_below x0 hSw; have x1 := cell_below x1 hSw; have x2 := cell_below x2 hSw; have x3 := cell_below x3 hSw; have x4 := cell_below x4 hSw; have x5 := cell_below x5 hSw; have x6 := cell_below x6 hSw; have x7 := cell_below x7 hSw; have m0 := cell_below m0 hSw; have m1 := cell_below m1 hSw; have m2 := cell_below m2 hSw; have m3 := cell_below m3 hSw; have m4 := cell_below m4 hSw; have m5 := cell_below m5 hSw; have m6 := cell_below m6 hSw; have m7 := cell_below m7 hSw; (try clear hHeld); go_simp; try with_reducible rfl)
        try simp only [zp1, zp3, zp4, zp5]
        refine rg_yes (i := 4) (v := ?_) (atS (atS (atS (atS at0)))) (by kernel_rfl) (by kernel_rfl) (by kernel_rfl) (fun _ _ _ h => h) ?_ ?_ hHeld ?_; rotate_left 1; (· rfl); (· intro w' hSw; (try dsimp only at hSw); have x0 := cell_below x0 hSw; have x1 := cell_below x1 hSw; have x2 := cell_below x2 hSw; have x3 := cell_below x3 hSw; have x4 := cell_below x4 hSw; have x5 := cell_below x5 hSw; have x6 := cell_below x6 hSw; have x7 := cell_below x7 hSw; have m0 := cell_below m0 hSw; have m1 := cell_below m1 hSw; have m2 := cell_below m2 hSw; have m3 := cell_below m3 hSw; have m4 := cell_below m4 hSw; have m5 := cell_below m5 hSw; have m6 := cell_below m6 hSw; have m7 := cell_below m7 hSw; (try clear hHeld); go_simp; try with_reducible rfl)
        try simp only [zp1, zp3, zp4, zp5]
        refine rg_yes (i := 5) (v := ?_) (atS (atS (atS (atS (atS at0))))) (by kernel_rfl) (by kernel_rfl) (by kernel_rfl) (fun _ _ _ h => h) ?_ ?_ hHeld ?_; rotate_left 1; (· rfl); (· intro w' hSw; (try dsimp only at hSw); have x0 := cell_below x0 hSw; have x1 := cell_below x1 hSw; have x2 := cell_below x2 hSw; have x3 := cell_below x3 hSw; have x4 := cell_below x4 hSw; have x5 := cell_below x5 hSw; have x6 := cell_below x6 hSw; have x7 := cell_below x7 hSw; have m0 := cell_below m0 hSw; have m1 := cell_below m1 hSw; have m2 := cell_below m2 hSw; have m3 := cell_below m3 hSw; have m4 := cell_below m4 hSw; have m5 := cell_below m5 hSw; have m6 := cell_below m6 hSw; have m7 := cell_below m7 hSw; (try clear hHeld); go_simp; try with_reducible rfl)
        try simp only [zp1, zp3, zp4, zp5]
        refine rg_call (i := 6) (atS (atS (atS (atS (atS (atS at0)))))) (by kernel_rfl) ?_ (fun K hK => ?_); (· rfl); (try clear hb); go_simp; (refine (CA.out x m _).mono ?_; rintro e w1 ⟨rfl, hb⟩); go_wp2_with fail; refine hK.out _ _ ?_ (fun hHeld => ?_); (· exact hHeld.trans (hb.mono hHeld.size)); clear hK K
        try simp only [zp1, zp3, zp4, zp5]
        refine rg_yes (i := 7) (v := ?_) (atS (atS (atS (atS (atS (atS (atS at0))))))) (by kernel_rfl) (by kernel_rfl) (by kernel_rfl) (fun _ _ _ h => h) ?_ ?_ hHeld ?_; rotate_left 1; (· rfl); (· intro w' hSw; (try dsimp only at hSw); (try clear hHeld); go_simp; try with_reducible rfl)
        try simp only [zp1, zp3, zp4, zp5]
        refine wpAnyH_done (by kernel_rfl) ?_ _
        have Q0 := Lib.hid ((hHeld.block _ (row_lt Q0.out)).trans Q0.out)
        have Q1 := Lib.hid ((hHeld.block _ (row_lt Q1.out)).trans Q1.out)
        have B1 := Lib.hid (below_on B1.out hHeld)
        have x0 := cell_below x0 hHeld
        have x1 := cell_below x1 hHeld
        have x2 := cell_below x2 hHeld
        have x3 := cell_below x3 hHeld
        have x4 := cell_below x4 hHeld
        have x5 := cell_below x5 hHeld
        have x6 := cell_below x6 hHeld
        have x7 := cell_below x7 hHeld
        clear m0 m1 m2 m3 m4 m5 m6 m7 hHeld hb
        go_wp2_with (refine st_row rfl 200 (.tmp 5) (.tmp 31) rfl W0.heap.size rfl 200 (rkA m) (rkA x) rfl Q1.out (by kernel_rfl) rfl (rk_one _) ?_)
        exact ⟨⟨k + 1, x, by omega, by omega, by go_num, ST2, Lib.hid (by rw [setRow_other _ _ _ _ (Nat.ne_of_lt BZ.out)]; exact Q0.out), Lib.hid (setRow_heap _ _ _ _ _ _ Q1.out), Lib.hid (below_setRow B1.out (Nat.le_of_lt BZ.out) _)⟩, by simp [intOf]; omega⟩
      · have ST2 : Hid (m = minBy aheadI r0 (rs.take (k + 1 - 1))) := Lib.hid (by rw [ST.out, if_neg hn])
        clear ST
        go_wp2_with fail
        refine wp_region_held_drew (S := fun w' => Below wr.heap.size wr w') (by kernel_rfl) ?_ (fun hHeld => ?_)
        · exact (Below.refl _ _).drew
        refine rg_yes (i := 0) (v := ?_) at0 (by kernel_rfl) (by kernel_rfl) (by kernel_rfl) (fun _ _ _ h => h) ?_ ?_ hHeld ?_; rotate_left 1; (· rfl); (· intro w' hSw; (try dsimp only at hSw); (try clear hHeld); go_simp; try with_reducible rfl)
        try simp only [zp1, zp3, zp4, zp5]
        refine rg_yes (i := 1) (v := ?_) (atS at0) (by kernel_rfl) (by kernel_rfl) (by kernel_rfl) (fun _ _ _ h => h) ?_ ?_ hHeld ?_; rotate_left 1; (· rfl); (· intro w' hSw; (try dsimp only at hSw); (try clear hHeld); go_simp; try with_reducible rfl)
        try simp only [zp1, zp3, zp4, zp5]
        refine rg_yes (i := 2) (v := ?_) (atS (atS at0)) (by kernel_rfl) (by kernel_rfl) (by kernel_rfl) (fun _ _ _ h => h) ?_ ?_ hHeld ?_; rotate_left 1; (· rfl); (· intro w' hSw; (try dsimp only at hSw); (try clear hHeld); go_simp; try with_reducible rfl)
        try simp only [zp1, zp3, zp4, zp5]
        refine rg_yes (i := 3) (v := ?_) (atS (atS (atS at0))) (by kernel_rfl) (by kernel_rfl) (by kernel_rfl) (fun _ _ _ h => h) ?_ ?_ hHeld ?_; rotate_left 1; (· rfl); (· intro w' hSw; (try dsimp only at hSw); have x0 := cell_below x0 hSw; have x1 := cell_below x1 hSw; have x2 := cell_below x2 hSw; have x3 := cell_below x3 hSw; have x4 := cell_below x4 hSw; have x5 := cell_below x5 hSw; have x6 := cell_below x6 hSw; have x7 := cell_below x7 hSw; have m0 := cell_below m0 hSw; have m1 := cell_below m1 hSw; have m2 := cell_below m2 hSw; have m3 := cell_below m3 hSw; have m4 := cell_below m4 hSw; have m5 := cell_below m5 hSw; have m6 := cell_below m6 hSw; have m7 := cell_below m7 hSw; (try clear hHeld); go_simp; try with_reducible rfl)
        try simp only [zp1, zp3, zp4, zp5]
        refine rg_yes (i := 4) (v := ?_) (atS (atS (atS (atS at0)))) (by kernel_rfl) (by kernel_rfl) (by kernel_rfl) (fun _ _ _ h => h) ?_ ?_ hHeld ?_; rotate_left 1; (· rfl); (· intro w' hSw; (try dsimp only at hSw); have x0 := cell_below x0 hSw; have x1 := cell_below x1 hSw; have x2 := cell_below x2 hSw; have x3 := cell_below x3 hSw; have x4 := cell_below x4 hSw; have x5 := cell_below x5 hSw; have x6 := cell_below x6 hSw; have x7 := cell_below x7 hSw; have m0 := cell_below m0 hSw; have m1 := cell_below m1 hSw; have m2 := cell_below m2 hSw; have m3 := cell_below m3 hSw; have m4 := cell_below m4 hSw; have m5 := cell_below m5 hSw; have m6 := cell_below m6 hSw; have m7 := cell_below m7 hSw; (try clear hHeld); go_simp; try with_reducible rfl)
        try simp only [zp1, zp3, zp4, zp5]
        refine rg_yes (i := 5) (v := ?_) (atS (atS (atS (atS (atS at0))))) (by kernel_rfl) (by kernel_rfl) (by kernel_rfl) (fun _ _ _ h => h) ?_ ?_ hHeld ?_; rotate_left 1; (· rfl); (· intro w' hSw; (try dsimp only at hSw); have x0 := cell_below x0 hSw; have x1 := cell_below x1 hSw; have x2 := cell_below x2 hSw; have x3 := cell_below x3 hSw; have x4 := cell_below x4 hSw; have x5 := cell_below x5 hSw; have x6 := cell_below x6 hSw; have x7 := cell_below x7 hSw; have m0 := cell_below m0 hSw; have m1 := cell_below m1 hSw; have m2 := cell_below m2 hSw; have m3 := cell_below m3 hSw; have m4 := cell_below m4 hSw; have m5 := cell_below m5 hSw; have m6 := cell_below m6 hSw; have m7 := cell_below m7 hSw; (try clear hHeld); go_simp; try with_reducible rfl)
        try simp only [zp1, zp3, zp4, zp5]
        refine rg_call (i := 6) (atS (atS (atS (atS (atS (atS at0)))))) (by kernel_rfl) ?_ (fun K hK => ?_); (· rfl); (try clear hb); go_simp; (refine (CA.out x m _).mono ?_; rintro e w1 ⟨rfl, hb⟩); go_wp2_with fail; refine hK.out _ _ ?_ (fun hHeld => ?_); (· exact hHeld.trans (hb.mono hHeld.size)); clear hK K
        try simp only [zp1, zp3, zp4, zp5]
        refine rg_yes (i := 7) (v := ?_) (atS (atS (atS (atS (atS (atS (atS at0))))))) (by kernel_rfl) (by kernel_rfl) (by kernel_rfl) (fun _ _ _ h => h) ?_ ?_ hHeld ?_; rotate_left 1; (· rfl); (· intro w' hSw; (try dsimp only at hSw); (try clear hHeld); go_simp; try with_reducible rfl)
        try simp only [zp1, zp3, zp4, zp5]
        refine wpAnyH_done (by kernel_rfl) ?_ _
        have Q0 := Lib.hid ((hHeld.block _ (row_lt Q0.out)).trans Q0.out)
        have Q1 := Lib.hid ((hHeld.block _ (row_lt Q1.out)).trans Q1.out)
        have B1 := Lib.hid (below_on B1.out hHeld)
        clear m0 m1 m2 m3 m4 m5 m6 m7 x0 x1 x2 x3 x4 x5 x6 x7 hHeld hb
        go_wp2_with fail
        exact ⟨⟨k + 1, m, by omega, by omega, by go_num, ST2, Q0, Q1, B1⟩, by simp [intOf]; omega⟩
    · obtain rfl : k = rs.length + 1 := by omega
      have E2 : Hid (m = minBy aheadI r0 rs) := Lib.hid (by rw [E.out]; simp)
      have hge : ¬ ((rs.length : Int) + 1 < (rs.length : Int) + 1) := by omega
      clear E
      go_wp2_with (refine st_row rfl 200 (.tmp 4) (.tmp 32) rfl w.heap.size rfl 200 rkZA (rkA m) rfl Q0.out (by kernel_rfl) rfl (rk_one _) ?_)
      refine bodyPost_ret (results_Min _ _ w.heap.size m ?_ (setRow_heap _ _ _ _ _ _ Q0.out)) rfl ⟨by rw [E2.out], below_setRow B1.out (Nat.le_refl _) _⟩
      rfl
set_option maxHeartbeats 3200000 in
set_option maxRecDepth 100000 in
theorem min_behind (v : Value) (r0 : Rk) (rs : List Rk) (w : World) (h : RksAt w v (r0 :: rs)) :
    Calls Tryz.prog 164 #[v, .func (.func 166) #[] #[]] w fun e w' => e = .returned (.agg (rkA (minBy behindI r0 rs))) ∧ Below w.heap.size w w' := by
  obtain ⟨sa, cap, rfl, hlc, hcm, hV⟩ := h
  unfold maxLen at hcm
  obtain ⟨b, off, hsa, hP⟩ := hV (by simp)
  subst hsa
  have HP := Lib.hid hP
  obtain ⟨cs, _, hR, hc⟩ := hP 0 r0 rfl
  obtain ⟨d0, d1, d2, d3, d4, d5, d6, d7⟩ := rk_cells hR hc
  simp only [Nat.zero_mul, Nat.add_zero] at d0 d1 d2 d3 d4 d5 d6 d7
  have CA := Lib.hid ch_behind
  clear hV hP hR hc
  simp only [List.length_cons] at hlc ⊢
  have n1 : ¬ ((rs.length : Int) + 1 < 1) := by omega
  have n2 : (0 : Int) < (rs.length : Int) + 1 := by omega
  go_enter Tryz.func164, Tryz.ntmps164
  go_upto_region 1 with (fail)
  obtain ⟨W0, hW0, q0, hb0, hz0⟩ := boxKz w
  rw [← hW0]
  clear hW0
  have d0 := cell_below d0 hb0
  have d1 := cell_below d1 hb0
  have d2 := cell_below d2 hb0
  have d3 := cell_below d3 hb0
  have d4 := cell_below d4 hb0
  have d5 := cell_below d5 hb0
  have d6 := cell_below d6 hb0
  have d7 := cell_below d7 hb0
  have Q0 := Lib.hid q0
  have HZ0 := Lib.hid hz0
  clear q0 hz0
  go_upto_region 4 with (fail)
  obtain ⟨W1, hW1, q1, hb1, _⟩ := boxK W0 r0
  rw [← hW1]
  clear hW1
  have Q0 := Lib.hid ((hb1.block _ (row_lt Q0.out)).trans Q0.out)
  have Q1 := Lib.hid q1
  have B1 := Lib.hid (below_on hb0 hb1)
  have B0 := Lib.hid hb1
  clear d0 d1 d2 d3 d4 d5 d6 d7 hb0 hb1 q1
  go_wp2_with fail
  go_loopw [6] (fun i wr => ∃ (k : Nat) (m : Rk), 1 ≤ k ∧ k ≤ rs.length + 1 ∧ i = .int .i64 k ∧ Hid (m = minBy behindI r0 (rs.take (k - 1))) ∧ Hid (wr.heap[w.heap.size]? = some (.cells rkZA 200 (0, 0))) ∧ Hid (wr.heap[W0.heap.size]? = some (.cells (rkA m) 200 (0, 0))) ∧ Hid (Below w.heap.size w wr)) (fun i _ => rs.length + 1 - (intOf i).toNat)
  case atStart => exact ⟨1, r0, by omega, by omega, rfl, Lib.hid rfl, Q0, Q1, B1⟩
  case round =>
    clear Q0 Q1 B1 B0
    obtain ⟨k, m, hk1, hk2, rfl, E, Q0, Q1, B1⟩ := hrel
    have m0 : wr.cell? ⟨W0.heap.size, 0, none⟩ = some (.int .i64 m.place) := row_cell Q1.out 0
    have m1 : wr.cell? ⟨W0.heap.size, 1, none⟩ = some (.int .i64 m.loc) := row_cell Q1.out 1
    have m2 : wr.cell? ⟨W0.heap.size, 2, none⟩ = some (.int .i64 m.hops) := row_cell Q1.out 2
    have m3 : wr.cell? ⟨W0.heap.size, 3, none⟩ = some (.int .i64 m.origin) := row_cell Q1.out 3
    have m4 : wr.cell? ⟨W0.heap.size, 4, none⟩ = some (.int .i64 m.first) := row_cell Q1.out 4
    have m5 : wr.cell? ⟨W0.heap.size, 5, none⟩ = some (.int .i64 m.med) := row_cell Q1.out 5
    have m6 : wr.cell? ⟨W0.heap.size, 6, none⟩ = some (.int .u32 m.id) := row_cell Q1.out 6
    have m7 : wr.cell? ⟨W0.heap.size, 7, none⟩ = some (.int .i64 m.peer) := row_cell Q1.out 7
    by_cases hlt : k < rs.length + 1
    · obtain ⟨x, hx⟩ : ∃ x, rs[k - 1]? = some x := ⟨_, List.getElem?_eq_getElem (by omega)⟩
      obtain ⟨cs, _, hR, hc⟩ := HP.out k x (by rw [show k = (k - 1) + 1 by omega]; simpa using hx)
      obtain ⟨x0, x1, x2, x3, x4, x5, x6, x7⟩ := rk_cells hR hc
      have x0 := (B1.out.cell (size_lt x0)).trans x0
      have x1 := (B1.out.cell (size_lt x1)).trans x1
      have x2 := (B1.out.cell (size_lt x2)).trans x2
      have x3 := (B1.out.cell (size_lt x3)).trans x3
      have x4 := (B1.out.cell (size_lt x4)).trans x4
      have x5 := (B1.out.cell (size_lt x5)).trans x5
      have x6 := (B1.out.cell (size_lt x6)).trans x6
      have x7 := (B1.out.cell (size_lt x7)).trans x7
      have ST := Lib.hid (minBy_step behindI r0 hx)
      rw [← E.out, show k - 1 + 1 = k + 1 - 1 by omega] at ST
      have i0 : (0 : Int) ≤ (k : Int) := by omega
      have i1 : (k : Int) < (rs.length : Int) + 1 := by omega
      have BZ : Hid (w.heap.size < W0.heap.size) := Lib.hid (by have := HZ0.out; omega)
      clear hR hc hx E
      by_cases hn : behindI x m < 0
      · have ST2 : Hid (x = minBy behindI r0 (rs.take (k + 1 - 1))) := Lib.hid (by rw [ST.out, if_pos hn])
        clear ST
        go_wp2_with fail
        refine wp_region_held_drew (S := fun w' => Below wr.heap.size wr w') (by kernel_rfl) ?_ (fun hHeld => ?_)
        · exact (Below.refl _ _).drew
        refine rg_yes (i := 0) (v := ?_) at0 (by kernel_rfl) (by kernel_rfl) (by kernel_rfl) (fun _ _ _ h => h) ?_ ?_ hHeld ?_; rotate_left 1; (· rfl); (· intro w' hSw; (try dsimp only at hSw); (try clear hHeld); go_simp; try with_reducible rfl)
        try simp only [zp1, zp3, zp4, zp5]
        refine rg_yes (i := 1) (v := ?_) (atS at0) (by kernel_rfl) (by kernel_rfl) (by kernel_rfl) (fun _ _ _ h => h) ?_ ?_ hHeld ?_; rotate_left 1; (· rfl); (· intro w' hSw; (try dsimp only at hSw); (try clear hHeld); go_simp; try with_reducible rfl)
        try simp only [zp1, zp3, zp4, zp5]
        refine rg_yes (i := 2) (v := ?_) (atS (atS at0)) (by kernel_rfl) (by kernel_rfl) (by kernel_rfl) (fun _ _ _ h => h) ?_ ?_ hHeld ?_; rotate_left 1; (· rfl); (· intro w' hSw; (try dsimp only at hSw); (try clear hHeld); go_simp; try with_reducible rfl)
        try simp only [zp1, zp3, zp4, zp5]
        refine rg_yes (i := 3) (v := ?_) (atS (atS (atS at0))) (by kernel_rfl) (by kernel_rfl) (by kernel_rfl) (fun _ _ _ h => h) ?_ ?_ hHeld ?_; rotate_left 1; (· rfl); (· intro w' hSw; (try dsimp only at hSw); have x0 := cell_below x0 hSw; have x1 := cell_below x1 hSw; have x2 := cell_below x2 hSw; have x3 := cell_below x3 hSw; have x4 := cell_below x4 hSw; have x5 := cell_below x5 hSw; have x6 := cell_below x6 hSw; have x7 := cell_below x7 hSw; have m0 := cell_below m0 hSw; have m1 := cell_below m1 hSw; have m2 := cell_below m2 hSw; have m3 := cell_below m3 hSw; have m4 := cell_below m4 hSw; have m5 := cell_below m5 hSw; have m6 := cell_below m6 hSw; have m7 := cell_below m7 hSw; (try clear hHeld); go_simp; try with_reducible rfl)
        try simp only [zp1, zp3, zp4, zp5]
        refine rg_yes (i := 4) (v := ?_) (atS (atS (atS (atS at0)))) (by kernel_rfl) (by kernel_rfl) (by kernel_rfl) (fun _ _ _ h => h) ?_ ?_ hHeld ?_; rotate_left 1; (· rfl); (· intro w' hSw; (try dsimp only at hSw); have x0 := cell_below x0 hSw; have x1 := cell_below x1 hSw; have x2 := cell_below x2 hSw; have x3 := cell_below x3 hSw; have x4 := cell_below x4 hSw; have x5 := cell_below x5 hSw; have x6 := cell_below x6 hSw; have x7 := cell_below x7 hSw; have m0 := cell_below m0 hSw; have m1 := cell_below m1 hSw; have m2 := cell_below m2 hSw; have m3 := cell_below m3 hSw; have m4 := cell_below m4 hSw; have m5 := cell_below m5 hSw; have m6 := cell_below m6 hSw; have m7 := cell_below m7 hSw; (try clear hHeld); go_simp; try with_reducible rfl)
        try simp only [zp1, zp3, zp4, zp5]
        refine rg_yes (i := 5) (v := ?_) (atS (atS (atS (atS (atS at0))))) (by kernel_rfl) (by kernel_rfl) (by kernel_rfl) (fun _ _ _ h => h) ?_ ?_ hHeld ?_; rotate_left 1; (· rfl); (· intro w' hSw; (try dsimp only at hSw); have x0 := cell_below x0 hSw; have x1 := cell_below x1 hSw; have x2 := cell_below x2 hSw; have x3 := cell_below x3 hSw; have x4 := cell_below x4 hSw; have x5 := cell_below x5 hSw; have x6 := cell_below x6 hSw; have x7 := cell_below x7 hSw; have m0 := cell_below m0 hSw; have m1 := cell_below m1 hSw; have m2 := cell_below m2 hSw; have m3 := cell_below m3 hSw; have m4 := cell_below m4 hSw; have m5 := cell_below m5 hSw; have m6 := cell_below m6 hSw; have m7 := cell_below m7 hSw; (try clear hHeld); go_simp; try with_reducible rfl)
        try simp only [zp1, zp3, zp4, zp5]
        refine rg_call (i := 6) (atS (atS (atS (atS (atS (atS at0)))))) (by kernel_rfl) ?_ (fun K hK => ?_); (· rfl); (try clear hb); go_simp; (refine (CA.out x m _).mono ?_; rintro e w1 ⟨rfl, hb⟩); go_wp2_with fail; refine hK.out _ _ ?_ (fun hHeld => ?_); (· exact hHeld.trans (hb.mono hHeld.size)); clear hK K
        try simp only [zp1, zp3, zp4, zp5]
        refine rg_yes (i := 7) (v := ?_) (atS (atS (atS (atS (atS (atS (atS at0))))))) (by kernel_rfl) (by kernel_rfl) (by kernel_rfl) (fun _ _ _ h => h) ?_ ?_ hHeld ?_; rotate_left 1; (· rfl); (· intro w' hSw; (try dsimp only at hSw); (try clear hHeld); go_simp; try with_reducible rfl)
        try simp only [zp1, zp3, zp4, zp5]
        refine wpAnyH_done (by kernel_rfl) ?_ _
        have Q0 := Lib.hid ((hHeld.block _ (row_lt Q0.out)).trans Q0.out)
        have Q1 := Lib.hid ((hHeld.block _ (row_lt Q1.out)).trans Q1.out)
        have B1 := Lib.hid (below_on B1.out hHeld)
        have x0 := cell_below x0 hHeld
        have x1 := cell_below x1 hHeld
        have x2 := cell_below x2 hHeld
        have x3 := cell_below x3 hHeld
        have x4 := cell_below x4 hHeld
        have x5 := cell_below x5 hHeld
        have x6 := cell_below x6 hHeld
        have x7 := cell_below x7 hHeld
        clear m0 m1 m2 m3 m4 m5 m6 m7 hHeld hb
        go_wp2_with (refine st_row rfl 200 (.tmp 5) (.tmp 31) rfl W0.heap.size rfl 200 (rkA m) (rkA x) rfl Q1.out (by kernel_rfl) rfl (rk_one _) ?_)
        exact ⟨⟨k + 1, x, by omega, by omega, by go_num, ST2, Lib.hid (by rw [setRow_other _ _ _ _ (Nat.ne_of_lt BZ.out)]; exact Q0.out), Lib.hid (setRow_heap _ _ _ _ _ _ Q1.out), Lib.hid (below_setRow B1.out (Nat.le_of_lt BZ.out) _)⟩, by simp [intOf]; omega⟩
      · have ST2 : Hid (m = minBy behindI r0 (rs.take (k + 1 - 1))) := Lib.hid (by rw [ST.out, if_neg hn])
        clear ST
        go_wp2_with fail
        refine wp_region_held_drew (S := fun w' => Below wr.heap.size wr w') (by kernel_rfl) ?_ (fun hHeld => ?_)
        · exact (Below.refl _ _).drew
        refine rg_yes (i := 0) (v := ?_) at0 (by kernel_rfl) (by kernel_rfl) (by kernel_rfl) (fun _ _ _ h => h) ?_ ?_ hHeld ?_; rotate_left 1; (· rfl); (· intro w' hSw; (try dsimp only at hSw); (try clear hHeld); go_simp; try with_reducible rfl)
        try simp only [zp1, zp3, zp4, zp5]
        refine rg_yes (i := 1) (v := ?_) (atS at0) (by kernel_rfl) (by kernel_rfl) (by kernel_rfl) (fun _ _ _ h => h) ?_ ?_ hHeld ?_; rotate_left 1; (· rfl); (· intro w' hSw; (try dsimp only at hSw); (try clear hHeld); go_simp; try with_reducible rfl)
        try simp only [zp1, zp3, zp4, zp5]
        refine rg_yes (i := 2) (v := ?_) (atS (atS at0)) (by kernel_rfl) (by kernel_rfl) (by kernel_rfl) (fun _ _ _ h => h) ?_ ?_ hHeld ?_; rotate_left 1; (· rfl); (· intro w' hSw; (try dsimp only at hSw); (try clear hHeld); go_simp; try with_reducible rfl)
        try simp only [zp1, zp3, zp4, zp5]
        refine rg_yes (i := 3) (v := ?_) (atS (atS (atS at0))) (by kernel_rfl) (by kernel_rfl) (by kernel_rfl) (fun _ _ _ h => h) ?_ ?_ hHeld ?_; rotate_left 1; (· rfl); (· intro w' hSw; (try dsimp only at hSw); have x0 := cell_below x0 hSw; have x1 := cell_below x1 hSw; have x2 := cell_below x2 hSw; have x3 := cell_below x3 hSw; have x4 := cell_below x4 hSw; have x5 := cell_below x5 hSw; have x6 := cell_below x6 hSw; have x7 := cell_below x7 hSw; have m0 := cell_below m0 hSw; have m1 := cell_below m1 hSw; have m2 := cell_below m2 hSw; have m3 := cell_below m3 hSw; have m4 := cell_below m4 hSw; have m5 := cell_below m5 hSw; have m6 := cell_below m6 hSw; have m7 := cell_below m7 hSw; (try clear hHeld); go_simp; try with_reducible rfl)
        try simp only [zp1, zp3, zp4, zp5]
        refine rg_yes (i := 4) (v := ?_) (atS (atS (atS (atS at0)))) (by kernel_rfl) (by kernel_rfl) (by kernel_rfl) (fun _ _ _ h => h) ?_ ?_ hHeld ?_; rotate_left 1; (· rfl); (· intro w' hSw; (try dsimp only at hSw); have x0 := cell_below x0 hSw; have x1 := cell_below x1 hSw; have x2 := cell_below x2 hSw; have x3 := cell_below x3 hSw; have x4 := cell_below x4 hSw; have x5 := cell_below x5 hSw; have x6 := cell_below x6 hSw; have x7 := cell_below x7 hSw; have m0 := cell_below m0 hSw; have m1 := cell_below m1 hSw; have m2 := cell_below m2 hSw; have m3 := cell_below m3 hSw; have m4 := cell_below m4 hSw; have m5 := cell_below m5 hSw; have m6 := cell_below m6 hSw; have m7 := cell_below m7 hSw; (try clear hHeld); go_simp; try with_reducible rfl)
        try simp only [zp1, zp3, zp4, zp5]
        refine rg_yes (i := 5) (v := ?_) (atS (atS (atS (atS (atS at0))))) (by kernel_rfl) (by kernel_rfl) (by kernel_rfl) (fun _ _ _ h => h) ?_ ?_ hHeld ?_; rotate_left 1; (· rfl); (· intro w' hSw; (try dsimp only at hSw); have x0 := cell_below x0 hSw; have x1 := cell_below x1 hSw; have x2 := cell_below x2 hSw; have x3 := cell_below x3 hSw; have x4 := cell_below x4 hSw; have x5 := cell_below x5 hSw; have x6 := cell_below x6 hSw; have x7 := cell_below x7 hSw; have m0 := cell_below m0 hSw; have m1 := cell_below m1 hSw; have m2 := cell_below m2 hSw; have m3 := cell_below m3 hSw; have m4 := cell_below m4 hSw; have m5 := cell_below m5 hSw; have m6 := cell_below m6 hSw; have m7 := cell_below m7 hSw; (try clear hHeld); go_simp; try with_reducible rfl)
        try simp only [zp1, zp3, zp4, zp5]
        refine rg_call (i := 6) (atS (atS (atS (atS (atS (atS at0)))))) (by kernel_rfl) ?_ (fun K hK => ?_); (· rfl); (try clear hb); go_simp; (refine (CA.out x m _).mono ?_; rintro e w1 ⟨rfl, hb⟩); go_wp2_with fail; refine hK.out _ _ ?_ (fun hHeld => ?_); (· exact hHeld.trans (hb.mono hHeld.size)); clear hK K
        try simp only [zp1, zp3, zp4, zp5]
        refine rg_yes (i := 7) (v := ?_) (atS (atS (atS (atS (atS (atS (atS at0))))))) (by kernel_rfl) (by kernel_rfl) (by kernel_rfl) (fun _ _ _ h => h) ?_ ?_ hHeld ?_; rotate_left 1; (· rfl); (· intro w' hSw; (try dsimp only at hSw); (try clear hHeld); go_simp; try with_reducible rfl)
        try simp only [zp1, zp3, zp4, zp5]
        refine wpAnyH_done (by kernel_rfl) ?_ _
        have Q0 := Lib.hid ((hHeld.block _ (row_lt Q0.out)).trans Q0.out)
        have Q1 := Lib.hid ((hHeld.block _ (row_lt Q1.out)).trans Q1.out)
        have B1 := Lib.hid (below_on B1.out hHeld)
        clear m0 m1 m2 m3 m4 m5 m6 m7 x0 x1 x2 x3 x4 x5 x6 x7 hHeld hb
        go_wp2_with fail
        exact ⟨⟨k + 1, m, by omega, by omega, by go_num, ST2, Q0, Q1, B1⟩, by simp [intOf]; omega⟩
    · obtain rfl : k = rs.length + 1 := by omega
      have E2 : Hid (m = minBy behindI r0 rs) := Lib.hid (by rw [E.out]; simp)
      have hge : ¬ ((rs.length : Int) + 1 < (rs.length : Int) + 1) := by omega
      clear E
      go_wp2_with (refine st_row rfl 200 (.tmp 4) (.tmp 32) rfl w.heap.size rfl 200 rkZA (rkA m) rfl Q0.out (by kernel_rfl) rfl (rk_one _) ?_)
      refine bodyPost_ret (results_Min _ _ w.heap.size m ?_ (setRow_heap _ _ _ _ _ _ Q0.out)) rfl ⟨by rw [E2.out], below_setRow B1.out (Nat.le_refl _) _⟩
      rfl
end Go.Proofs.YtkoidahgbbabiaaGreat
/-
  ATTRIBUTES: Hops, First, Is: how long the path is, where it begins, what is there.
-/
namespace Go.Proofs.YtkoidahgbbabiaaGreat
open Go.RowKit
def hopsN : List Sg → Nat
  | [] => 0
  | s :: p => (if s.1 then 1 else s.2.length) + hopsN p
theorem hopsN_append (p q : List Sg) : hopsN (p ++ q) = hopsN p + hopsN q := by
  induction p with
  | nil => simp [hopsN]
  | cons s p ih => simp only [List.cons_append, hopsN, ih]; omega
theorem hopsN_step {p : List Sg} {k : Nat} {s : Sg} (hs : p[k]? = some s) : hopsN (p.take (k + 1)) = hopsN (p.take k) + (if s.1 then 1 else s.2.length) := by
  obtain ⟨h1, h2⟩ := List.getElem?_eq_some_iff.1 hs
  rw [List.take_succ_eq_append_getElem h1, hopsN_append, h2]
  simp [hopsN]
theorem hopsN_le (p : List Sg) (k : Nat) : hopsN (p.take k) ≤ hopsN p := by
  conv => rhs; rw [← List.take_append_drop k p]
  rw [hopsN_append]; omega
def firstN : List Sg → Int
  | [] => 0
  | s :: _ => if s.1 then 0 else s.2.headD 0
theorem boxA (w : World) (c0 c1 c2 c3 c4 c5 c6 c7 c8 c9 : Value) : ∃ W0, W0 = w.alloc (.cells #[c0, c1, c2, c3, c4, c5, c6, c7, c8, c9] 42) ∧ W0.heap[w.heap.size]? = some (.cells #[c0, c1, c2, c3, c4, c5, c6, c7, c8, c9] 42 (0, 0)) ∧ Below w.heap.size w W0 ∧ W0.heap.size = w.heap.size + 1 :=
  ⟨_, rfl, heap_alloc_new w _, (Below.refl _ _).alloc (Nat.le_refl _) _, by simp⟩
set_option maxHeartbeats 1600000 in
set_option maxRecDepth 100000 in
theorem at_Hops (c0 c1 vp c3 c4 c5 c6 c7 c8 c9 : Value) (p : List Sg) (w : World) (hP : PathAt w vp p) (hh : hopsN p ≤ 4611686018427387904) :
    Calls Tryz.prog 187 #[.agg #[c0, c1, vp, c3, c4, c5, c6, c7, c8, c9]] w fun e w' => e = .returned (.int .i64 (hopsN p)) ∧ Below w.heap.size w w' := by
  obtain ⟨sa, cap, rfl, hlc, hcm, hV⟩ := hP
  have HV := Lib.hid hV
  have HH := Lib.hid hh
  unfold maxLen at hcm
  clear hV hh
  go_enter Tryz.func187, Tryz.ntmps187
  go_upto_region 2 with (fail)
  obtain ⟨W0, hW0, q, hb0, _⟩ := boxA w c0 c1 (.slice sa p.length cap) c3 c4 c5 c6 c7 c8 c9
  rw [← hW0]
  clear hW0
  have y2 : W0.cell? ⟨w.heap.size, 2, none⟩ = some (.slice sa p.length cap) := row_cell q 2
  clear q
  go_wp2_with fail
  go_loopw [3, 9] (fun n i wr => ∃ k : Nat, k ≤ p.length ∧ i = .int .i64 k ∧ n = .int .i64 (hopsN (p.take k)) ∧ Below w.heap.size w wr) (fun _ i _ => p.length - (intOf i).toNat)
  case atStart => exact ⟨0, by omega, rfl, rfl, hb0⟩
  case round =>
    obtain ⟨k, hk, rfl, rfl, hb⟩ := hrel
    by_cases hlt : k < p.length
    · obtain ⟨s, hs⟩ : ∃ s, p[k]? = some s := ⟨_, List.getElem?_eq_getElem hlt⟩
      obtain ⟨b, off, hsa, hP⟩ := HV.out (by omega)
      subst hsa
      obtain ⟨cs, _, ⟨u, rfl, sb, cb, rfl, hl1, hl2, _⟩, hc⟩ := hP k s hs
      have d0 := (hb.cell (size_lt (hc 0 _ rfl))).trans (hc 0 _ rfl)
      have d1 := (hb.cell (size_lt (hc 1 _ rfl))).trans (hc 1 _ rfl)
      simp only [Nat.add_zero] at d0
      have ST := Lib.hid (hopsN_step hs)
      have h1 := hopsN_le p k
      have h2 := hopsN_le p (k + 1)
      rw [ST.out] at h2
      have h3 := HH.out
      unfold maxLen at hl2
      obtain ⟨set, ss⟩ := s
      simp only at d0 d1 ST h2 hl1 hl2
      have hB : Hid (∀ o, Below w.heap.size w (wr.alloc o)) := Lib.hid fun o => hb.alloc hb.size o
      clear hP hc hs
      cases set
      · simp only [Bool.false_eq_true, if_false] at ST h2
        have e1 : (hopsN (List.take k p) : Int) + (ss.length : Int) ≤ 4611686018427387904 := by omega
        go_wp2_with fail
        exact ⟨⟨k + 1, by omega, by go_num, by rw [ST.out]; go_num, hB.out _⟩, by simp [intOf]; omega⟩
      · simp only [if_true] at ST h2
        have e1 : (hopsN (List.take k p) : Int) + 1 ≤ 4611686018427387904 := by omega
        go_wp2_with fail
        exact ⟨⟨k + 1, by omega, by go_num, by rw [ST.out]; go_num, hB.out _⟩, by simp [intOf]; omega⟩
    · obtain rfl : k = p.length := by omega
      go_wp2_with fail
      go_ret
      exact ⟨ret_int (by rw [List.take_length]), hb⟩
end Go.Proofs.YtkoidahgbbabiaaGreat
/-
  ATTRIBUTES: First, Is.
-/
namespace Go.Proofs.YtkoidahgbbabiaaGreat
open Go.RowKit
def knownB (t : Int) : Bool := decide (1 ≤ t) && decide (t ≤ 8)
def bitB (has : Int) (t : Nat) : Bool := bits .and .i64 (has / 2 ^ t) 1 == 1
def isB (has t : Int) : Bool := knownB t && bitB has t.toNat
theorem at_isKnown (t : Int) (w : World) : Calls Tryz.prog 150 #[.int .i64 t] w fun e w' => e = .returned (.bool (knownB t)) ∧ w = w' := by
  cases h1 : decide (1 ≤ t)
  · have K : Hid (knownB t = false) := Lib.hid (by unfold knownB; rw [h1]; rfl)
    go_enter Tryz.func150, Tryz.ntmps150
    go_wp2
    go_ret
    exact ⟨ret_bool K.out.symm, rfl⟩
  · have K : Hid (knownB t = decide (t ≤ 8)) := Lib.hid (by unfold knownB; rw [h1]; rfl)
    go_enter Tryz.func150, Tryz.ntmps150
    go_wp2
    go_ret
    exact ⟨ret_bool K.out.symm, rfl⟩
set_option maxHeartbeats 1600000 in
set_option maxRecDepth 100000 in
theorem at_Is (has : Int) (c1 c2 c3 c4 c5 c6 c7 c8 c9 : Value) (t : Int) (w : World) :
    Calls Tryz.prog 110 #[.agg #[.int .i64 has, c1, c2, c3, c4, c5, c6, c7, c8, c9], .int .i64 t] w fun e w' => e = .returned (.bool (isB has t)) ∧ Below w.heap.size w w' := by
  cases hk : knownB t
  · have K := Lib.hid (at_isKnown t)
    rw [hk] at K
    have E : Hid (isB has t = false) := Lib.hid (by unfold isB; rw [hk]; rfl)
    clear hk
    go_enter Tryz.func110, Tryz.ntmps110
    go_wp2_with fail
    obtain ⟨W0, hW0, q, hb0, _⟩ := boxA w (.int .i64 has) c1 c2 c3 c4 c5 c6 c7 c8 c9
    rw [← hW0]
    clear hW0
    refine (K.out _).mono ?_
    rintro e w1 ⟨rfl, rfl⟩
    go_wp2_with fail
    go_ret
    exact ⟨ret_bool E.out.symm, hb0⟩
  · have K := Lib.hid (at_isKnown t)
    rw [hk] at K
    have k1 : 1 ≤ t ∧ t ≤ 8 := by unfold knownB at hk; simpa using hk
    obtain ⟨n, rfl⟩ := Int.eq_ofNat_of_zero_le (show 0 ≤ t by omega)
    have k2 : n < 64 := by omega
    have E : Hid (isB has n = bitB has n) := Lib.hid (by unfold isB; rw [hk]; rfl)
    clear hk
    go_enter Tryz.func110, Tryz.ntmps110
    go_wp2_with fail
    obtain ⟨W0, hW0, q, hb0, _⟩ := boxA w (.int .i64 has) c1 c2 c3 c4 c5 c6 c7 c8 c9
    rw [← hW0]
    clear hW0
    have y0 : W0.cell? ⟨w.heap.size, 0, none⟩ = some (.int .i64 has) := row_cell q 0
    clear q
    refine (K.out _).mono ?_
    rintro e w1 ⟨rfl, rfl⟩
    go_wp2_with fail
    go_ret
    exact ⟨ret_bool E.out.symm, hb0⟩
set_option maxHeartbeats 1600000 in
set_option maxRecDepth 100000 in
theorem at_First (c0 c1 vp c3 c4 c5 c6 c7 c8 c9 : Value) (p : List Sg) (w : World) (hP : PathAt w vp p) :
    Calls Tryz.prog 188 #[.agg #[c0, c1, vp, c3, c4, c5, c6, c7, c8, c9]] w fun e w' => e = .returned (.int .i64 (firstN p)) ∧ Below w.heap.size w w' := by
  obtain ⟨sa, cap, rfl, hlc, hcm, hV⟩ := hP
  have HV := Lib.hid hV
  unfold maxLen at hcm
  clear hV
  cases p with
  | nil =>
    go_enter Tryz.func188, Tryz.ntmps188
    go_upto_region 1 with (fail)
    obtain ⟨W0, hW0, q, hb0, _⟩ := boxA w c0 c1 (.slice sa 0 cap) c3 c4 c5 c6 c7 c8 c9
    try simp only [List.length_nil]
    rw [← hW0]
    clear hW0
    have y2 : W0.cell? ⟨w.heap.size, 2, none⟩ = some (.slice sa 0 cap) := row_cell q 2
    clear q
    go_wp2_with fail
    go_ret
    exact ⟨rfl, hb0⟩
  | cons s p =>
    obtain ⟨b, off, hsa, hP⟩ := HV.out (by simp)
    subst hsa
    obtain ⟨cs, _, ⟨u, rfl, sb, cb, rfl, hl1, hl2, hL⟩, hc⟩ := hP 0 s rfl
    have d0 := hc 0 _ rfl
    have d1 := hc 1 _ rfl
    simp only [Nat.add_zero, Nat.zero_mul] at d0 d1
    obtain ⟨set, ss⟩ := s
    simp only at d0 d1 hl1 hl2 hL
    have HL := Lib.hid hL
    unfold maxLen at hl2
    clear hP hc hL HV
    simp only [List.length_cons] at hlc ⊢
    have n0 : ((p.length : Int) + 1 == 0) = false := by rw [beq_eq_false_iff_ne]; omega
    have n1 : (0 : Int) < (p.length : Int) + 1 := by omega
    cases set
    · cases ss with
      | nil =>
        simp only [List.length_nil] at d1
        go_enter Tryz.func188, Tryz.ntmps188
        go_upto_region 1 with (fail)
        obtain ⟨W0, hW0, q, hb0, _⟩ := boxA w c0 c1 (.slice (some ⟨b, off, none⟩) (p.length + 1) cap) c3 c4 c5 c6 c7 c8 c9
        rw [← hW0]
        clear hW0
        have y2 : W0.cell? ⟨w.heap.size, 2, none⟩ = some (.slice (some ⟨b, off, none⟩) (p.length + 1) cap) := row_cell q 2
        have d0 := cell_below d0 hb0
        have d1 := cell_below d1 hb0
        clear q
        go_wp2_with fail
        go_ret
        exact ⟨rfl, hb0⟩
      | cons x ss =>
        obtain ⟨b', off', hsb, hP⟩ := HL.out (by simp)
        subst hsb
        obtain ⟨cs, _, ⟨rfl, _⟩, hc⟩ := hP 0 x rfl
        have d2 := hc 0 _ rfl
        simp only [Nat.add_zero, Nat.zero_mul] at d2
        simp only [List.length_cons] at d1
        clear HL hP hc
        have n2 : ((ss.length : Int) + 1 == 0) = false := by rw [beq_eq_false_iff_ne]; omega
        have n3 : (0 : Int) < (ss.length : Int) + 1 := by omega
        go_enter Tryz.func188, Tryz.ntmps188
        go_upto_region 1 with (fail)
        obtain ⟨W0, hW0, q, hb0, _⟩ := boxA w c0 c1 (.slice (some ⟨b, off, none⟩) (p.length + 1) cap) c3 c4 c5 c6 c7 c8 c9
        rw [← hW0]
        clear hW0
        have y2 : W0.cell? ⟨w.heap.size, 2, none⟩ = some (.slice (some ⟨b, off, none⟩) (p.length + 1) cap) := row_cell q 2
        have d0 := cell_below d0 hb0
        have d1 := cell_below d1 hb0
        have d2 := cell_below d2 hb0
        clear q
        go_wp2_with fail
        go_ret
        exact ⟨rfl, hb0⟩
    · go_enter Tryz.func188, Tryz.ntmps188
      go_upto_region 1 with (fail)
      obtain ⟨W0, hW0, q, hb0, _⟩ := boxA w c0 c1 (.slice (some ⟨b, off, none⟩) (p.length + 1) cap) c3 c4 c5 c6 c7 c8 c9
      rw [← hW0]
      clear hW0
      have y2 : W0.cell? ⟨w.heap.size, 2, none⟩ = some (.slice (some ⟨b, off, none⟩) (p.length + 1) cap) := row_cell q 2
      have d0 := cell_below d0 hb0
      clear q
      go_wp2_with fail
      go_ret
      exact ⟨rfl, hb0⟩
end Go.Proofs.YtkoidahgbbabiaaGreat
