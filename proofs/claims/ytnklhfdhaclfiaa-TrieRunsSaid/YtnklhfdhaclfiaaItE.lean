/-
  TWO LISTS OF ITEMS HELD AGAINST EACH OTHER: same.
-/
import Derived.Test.YtnklhfdhaclfiaaItS
import Derived.BigQuiet
namespace Go.Proofs.Ytnklhfdhaclfiaa
open Go.RowKit

theorem undItem : Try.prog.underlying 55 = some (.struct (Try.prog.fieldsOf 55)) := by kernel_rfl
theorem stoItem : Try.prog.stoodInHeld 55 = false := by kernel_rfl
set_option maxRecDepth 100000 in
theorem run_neq_item (a b e c d f : Int) (w : World) : (binOp .neq 55 (.agg #[.int .u32 a, .int .i64 b, .int .i64 e]) (.agg #[.int .u32 c, .int .i64 d, .int .i64 f])).run Try.prog w = .ok (.bool (!(a == c && (b == d && e == f)))) w := by
  rw [run_neq_struct, run_equalIn_struct w 9999 55 _ _ undItem stoItem, Program.fieldsOf, Try.underlying55]
  simp only [Op.eqFields]
  by_cases h1 : a = c <;> by_cases h2 : b = d <;> by_cases h3 : e = f <;> simp [go_sem, h1, h2, h3]
attribute [go_sem ↓] run_neq_item
theorem take_ne {l m : List It3} {k : Nat} {x y : It3} (hx : l[k]? = some x) (hy : m[k]? = some y) (h : x ≠ y) : l ≠ m := by
  rintro rfl; rw [hx] at hy; exact h (Option.some.inj hy)
theorem take_eq_succ {l m : List It3} {k : Nat} {x : It3} (hx : l[k]? = some x) (hy : m[k]? = some x) (h : l.take k = m.take k) : l.take (k + 1) = m.take (k + 1) := by
  rw [List.take_add_one, List.take_add_one, hx, hy, h]

set_option maxHeartbeats 3200000 in
set_option maxRecDepth 100000 in
theorem law_same (v u : Value) (l m : List It3) (w : World) (h : ItsAt w v l) (k : ItsAt w u m) (hl : l.length ≤ 100000) (hm : m.length ≤ 100000) :
    Calls Try.prog 33 #[v, u] w fun e w' => e = .returned (.bool (decide (l = m))) ∧ Below w.heap.size w w' := by
  obtain ⟨sa, cap, rfl, hc, hcm, hV⟩ := h.view
  obtain ⟨sb, cap', rfl, hc', hcm', hU⟩ := k.view
  have HV := Lib.hid hV
  have HU := Lib.hid hU
  unfold maxLen at hcm hcm'
  clear h k hV hU
  by_cases hlen : l.length = m.length
  · go_enter Try.func33, Try.ntmps33
    go_wp2_with fail
    go_loopw [13] (fun i wr => ∃ k : Nat, k ≤ l.length ∧ i = .int .i64 k ∧ Hid (l.take k = m.take k) ∧ Hid (Below w.heap.size w wr)) (fun i _ => l.length - (intOf i).toNat)
    case atStart => exact ⟨0, by omega, rfl, Lib.hid rfl, Lib.hid (Below.refl _ _)⟩
    case round =>
      obtain ⟨k, hk, rfl, TK, C⟩ := hrel
      by_cases hlt : k < l.length
      · obtain ⟨x, hx⟩ : ∃ x, l[k]? = some x := ⟨_, List.getElem?_eq_getElem hlt⟩
        obtain ⟨y, hy⟩ : ∃ y, m[k]? = some y := ⟨_, List.getElem?_eq_getElem (by omega)⟩
        obtain ⟨g, hsa, d0, d1, d2⟩ := HV.out k x hx
        subst hsa
        obtain ⟨g', hsa, e0, e1, e2⟩ := HU.out k y hy
        subst hsa
        have d0 := (C.out.cell (size_lt d0)).trans d0
        have d1 := (C.out.cell (size_lt d1)).trans d1
        have d2 := (C.out.cell (size_lt d2)).trans d2
        have e0 := (C.out.cell (size_lt e0)).trans e0
        have e1 := (C.out.cell (size_lt e1)).trans e1
        have e2 := (C.out.cell (size_lt e2)).trans e2
        have i0 : (0 : Int) ≤ (k : Int) := by omega
        have i1 : (k : Int) < (l.length : Int) := by omega
        have i2 : (k : Int) < (m.length : Int) := by omega
        by_cases hxy : x = y
        · subst hxy
          have TK2 := Lib.hid (take_eq_succ hx hy TK.out)
          clear hx hy TK
          obtain ⟨xa, xn, xv⟩ := x
          simp only at d0 d1 d2 e0 e1 e2
          go_upto_region 6 with (fail)
          refine wp_region_held_drew (S := fun w' => Below wr.heap.size wr w') (by kernel_rfl) ?_ (fun hHeld => ?_)
          · exact (Below.refl _ _).drew
          refine rg_yes (i := 0) (v := ?_) at0 (by kernel_rfl) (by kernel_rfl) (by kernel_rfl) (fun _ _ _ h => h) ?_ ?_ hHeld ?_; rotate_left 1; (· rfl); (· intro w' hSw; (try dsimp only at hSw); (try clear hHeld); go_simp; try with_reducible rfl)
          try simp only [Act.put, List.setIfInBounds_toArray, List.set_cons_zero, List.set_cons_succ]
          refine rg_yes (i := 1) (v := ?_) (atS at0) (by kernel_rfl) (by kernel_rfl) (by kernel_rfl) (fun _ _ _ h => h) ?_ ?_ hHeld ?_; rotate_left 1; (· rfl); (· intro w' hSw; (try dsimp only at hSw); (try clear hHeld); go_simp; try with_reducible rfl)
          try simp only [Act.put, List.setIfInBounds_toArray, List.set_cons_zero, List.set_cons_succ]
          refine rg_yes (i := 2) (v := ?_) (atS (atS at0)) (by kernel_rfl) (by kernel_rfl) (by kernel_rfl) (fun _ _ _ h => h) ?_ ?_ hHeld ?_; rotate_left 1; (· rfl); (· intro w' hSw; (try dsimp only at hSw); have d0 := cell_below d0 hSw; have d1 := cell_below d1 hSw; have d2 := cell_below d2 hSw; have e0 := cell_below e0 hSw; have e1 := cell_below e1 hSw; have e2 := cell_below e2 hSw; (try clear hHeld); go_simp; try with_reducible rfl)
          try simp only [Act.put, List.setIfInBounds_toArray, List.set_cons_zero, List.set_cons_succ]
          refine rg_yes (i := 3) (v := ?_) (atS (atS (atS at0))) (by kernel_rfl) (by kernel_rfl) (by kernel_rfl) (fun _ _ _ h => h) ?_ ?_ hHeld ?_; rotate_left 1; (· rfl); (· intro w' hSw; (try dsimp only at hSw); have d0 := cell_below d0 hSw; have d1 := cell_below d1 hSw; have d2 := cell_below d2 hSw; have e0 := cell_below e0 hSw; have e1 := cell_below e1 hSw; have e2 := cell_below e2 hSw; (try clear hHeld); go_simp; try with_reducible rfl)
          try simp only [Act.put, List.setIfInBounds_toArray, List.set_cons_zero, List.set_cons_succ]
          refine rg_yes (i := 4) (v := ?_) (atS (atS (atS (atS at0)))) (by kernel_rfl) (by kernel_rfl) (by kernel_rfl) (fun _ _ _ h => h) ?_ ?_ hHeld ?_; rotate_left 1; (· rfl); (· intro w' hSw; (try dsimp only at hSw); (try clear hHeld); go_simp; try with_reducible rfl)
          try simp only [Act.put, List.setIfInBounds_toArray, List.set_cons_zero, List.set_cons_succ]
          refine rg_yes (i := 5) (v := ?_) (atS (atS (atS (atS (atS at0))))) (by kernel_rfl) (by kernel_rfl) (by kernel_rfl) (fun _ _ _ h => h) ?_ ?_ hHeld ?_; rotate_left 1; (· rfl); (· intro w' hSw; (try dsimp only at hSw); (try clear hHeld); go_simp; try with_reducible rfl)
          try simp only [Act.put, List.setIfInBounds_toArray, List.set_cons_zero, List.set_cons_succ]
          refine rg_yes (i := 6) (v := ?_) (atS (atS (atS (atS (atS (atS at0)))))) (by kernel_rfl) (by kernel_rfl) (by kernel_rfl) (fun _ _ _ h => h) ?_ ?_ hHeld ?_; rotate_left 1; (· rfl); (· intro w' hSw; (try dsimp only at hSw); have d0 := cell_below d0 hSw; have d1 := cell_below d1 hSw; have d2 := cell_below d2 hSw; have e0 := cell_below e0 hSw; have e1 := cell_below e1 hSw; have e2 := cell_below e2 hSw; (try clear hHeld); go_simp; try with_reducible rfl)
          try simp only [Act.put, List.setIfInBounds_toArray, List.set_cons_zero, List.set_cons_succ]
          refine rg_yes (i := 7) (v := ?_) (atS (atS (atS (atS (atS (atS (atS at0))))))) (by kernel_rfl) (by kernel_rfl) (by kernel_rfl) (fun _ _ _ h => h) ?_ ?_ hHeld ?_; rotate_left 1; (· rfl); (· intro w' hSw; (try dsimp only at hSw); have d0 := cell_below d0 hSw; have d1 := cell_below d1 hSw; have d2 := cell_below d2 hSw; have e0 := cell_below e0 hSw; have e1 := cell_below e1 hSw; have e2 := cell_below e2 hSw; (try clear hHeld); go_simp; try with_reducible rfl)
          try simp only [Act.put, List.setIfInBounds_toArray, List.set_cons_zero, List.set_cons_succ]
          refine rg_yes (i := 8) (v := ?_) (atS (atS (atS (atS (atS (atS (atS (atS at0)))))))) (by kernel_rfl) (by kernel_rfl) (by kernel_rfl) (fun _ _ _ h => h) ?_ ?_ hHeld ?_; rotate_left 1; (· rfl); (· intro w' hSw; (try dsimp only at hSw); (try clear hHeld); go_simp; try with_reducible rfl)
          try simp only [Act.put, List.setIfInBounds_toArray, List.set_cons_zero, List.set_cons_succ]
          refine wpAnyH_done (by kernel_rfl) ?_ _
          have B5 := Lib.hid (below_on C.out hHeld)
          go_wp2_with fail
          exact ⟨⟨k + 1, by omega, by go_num, TK2, B5⟩, by simp [intOf]; omega⟩
        · have NE := Lib.hid (take_ne hx hy hxy)
          obtain ⟨xa, xn, xv⟩ := x
          obtain ⟨ya, yn, yv⟩ := y
          have z1 : (!((xa : Int) == (ya : Int) && (xn == yn && xv == yv))) = true := by
            simp only [Bool.not_eq_true', Bool.and_eq_false_iff, beq_eq_false_iff_ne]
            simp only [Prod.mk.injEq, not_and] at hxy
            by_cases a1 : xa = ya
            · by_cases a2 : xn = yn
              · exact .inr (.inr (hxy a1 a2))
              · exact .inr (.inl a2)
            · exact .inl (by omega)
          simp only at d0 d1 d2 e0 e1 e2
          clear hx hy hxy TK
          generalize hz : (!((xa : Int) == (ya : Int) && (xn == yn && xv == yv))) = z at z1
          subst z1
          go_upto_region 6 with (fail)
          refine wp_region_held_drew (S := fun w' => Below wr.heap.size wr w') (by kernel_rfl) ?_ (fun hHeld => ?_)
          · exact (Below.refl _ _).drew
          refine rg_yes (i := 0) (v := ?_) at0 (by kernel_rfl) (by kernel_rfl) (by kernel_rfl) (fun _ _ _ h => h) ?_ ?_ hHeld ?_; rotate_left 1; (· rfl); (· intro w' hSw; (try dsimp only at hSw); (try clear hHeld); go_simp; try with_reducible rfl)
          try simp only [Act.put, List.setIfInBounds_toArray, List.set_cons_zero, List.set_cons_succ]
          refine rg_yes (i := 1) (v := ?_) (atS at0) (by kernel_rfl) (by kernel_rfl) (by kernel_rfl) (fun _ _ _ h => h) ?_ ?_ hHeld ?_; rotate_left 1; (· rfl); (· intro w' hSw; (try dsimp only at hSw); (try clear hHeld); go_simp; try with_reducible rfl)
          try simp only [Act.put, List.setIfInBounds_toArray, List.set_cons_zero, List.set_cons_succ]
          refine rg_yes (i := 2) (v := ?_) (atS (atS at0)) (by kernel_rfl) (by kernel_rfl) (by kernel_rfl) (fun _ _ _ h => h) ?_ ?_ hHeld ?_; rotate_left 1; (· rfl); (· intro w' hSw; (try dsimp only at hSw); have d0 := cell_below d0 hSw; have d1 := cell_below d1 hSw; have d2 := cell_below d2 hSw; have e0 := cell_below e0 hSw; have e1 := cell_below e1 hSw; have e2 := cell_below e2 hSw; have hz := hz; (try clear hHeld); go_simp; try with_reducible rfl)
          try simp only [Act.put, List.setIfInBounds_toArray, List.set_cons_zero, List.set_cons_succ]
          refine rg_yes (i := 3) (v := ?_) (atS (atS (atS at0))) (by kernel_rfl) (by kernel_rfl) (by kernel_rfl) (fun _ _ _ h => h) ?_ ?_ hHeld ?_; rotate_left 1; (· rfl); (· intro w' hSw; (try dsimp only at hSw); have d0 := cell_below d0 hSw; have d1 := cell_below d1 hSw; have d2 := cell_below d2 hSw; have e0 := cell_below e0 hSw; have e1 := cell_below e1 hSw; have e2 := cell_below e2 hSw; have hz := hz; (try clear hHeld); go_simp; try with_reducible rfl)
          try simp only [Act.put, List.setIfInBounds_toArray, List.set_cons_zero, List.set_cons_succ]
          refine rg_yes (i := 4) (v := ?_) (atS (atS (atS (atS at0)))) (by kernel_rfl) (by kernel_rfl) (by kernel_rfl) (fun _ _ _ h => h) ?_ ?_ hHeld ?_; rotate_left 1; (· rfl); (· intro w' hSw; (try dsimp only at hSw); (try clear hHeld); go_simp; try with_reducible rfl)
          try simp only [Act.put, List.setIfInBounds_toArray, List.set_cons_zero, List.set_cons_succ]
          refine rg_yes (i := 5) (v := ?_) (atS (atS (atS (atS (atS at0))))) (by kernel_rfl) (by kernel_rfl) (by kernel_rfl) (fun _ _ _ h => h) ?_ ?_ hHeld ?_; rotate_left 1; (· rfl); (· intro w' hSw; (try dsimp only at hSw); (try clear hHeld); go_simp; try with_reducible rfl)
          try simp only [Act.put, List.setIfInBounds_toArray, List.set_cons_zero, List.set_cons_succ]
          refine rg_yes (i := 6) (v := ?_) (atS (atS (atS (atS (atS (atS at0)))))) (by kernel_rfl) (by kernel_rfl) (by kernel_rfl) (fun _ _ _ h => h) ?_ ?_ hHeld ?_; rotate_left 1; (· rfl); (· intro w' hSw; (try dsimp only at hSw); have d0 := cell_below d0 hSw; have d1 := cell_below d1 hSw; have d2 := cell_below d2 hSw; have e0 := cell_below e0 hSw; have e1 := cell_below e1 hSw; have e2 := cell_below e2 hSw; have hz := hz; (try clear hHeld); go_simp; try with_reducible rfl)
          try simp only [Act.put, List.setIfInBounds_toArray, List.set_cons_zero, List.set_cons_succ]
          refine rg_yes (i := 7) (v := ?_) (atS (atS (atS (atS (atS (atS (atS at0))))))) (by kernel_rfl) (by kernel_rfl) (by kernel_rfl) (fun _ _ _ h => h) ?_ ?_ hHeld ?_; rotate_left 1; (· rfl); (· intro w' hSw; (try dsimp only at hSw); have d0 := cell_below d0 hSw; have d1 := cell_below d1 hSw; have d2 := cell_below d2 hSw; have e0 := cell_below e0 hSw; have e1 := cell_below e1 hSw; have e2 := cell_below e2 hSw; have hz := hz; (try clear hHeld); go_simp; try with_reducible rfl)
          try simp only [Act.put, List.setIfInBounds_toArray, List.set_cons_zero, List.set_cons_succ]
          refine rg_yes (i := 8) (v := ?_) (atS (atS (atS (atS (atS (atS (atS (atS at0)))))))) (by kernel_rfl) (by kernel_rfl) (by kernel_rfl) (fun _ _ _ h => h) ?_ ?_ hHeld ?_; rotate_left 1; (· rfl); (· intro w' hSw; (try dsimp only at hSw); (try clear hHeld); go_simp; try with_reducible rfl)
          try simp only [Act.put, List.setIfInBounds_toArray, List.set_cons_zero, List.set_cons_succ]
          refine wpAnyH_done (by kernel_rfl) ?_ _
          have B5 := below_on C.out hHeld
          go_wp2_with fail
          go_ret
          exact ⟨ret_bool (by simpa using NE.out), B5⟩
      · obtain rfl : k = l.length := by omega
        have E : Hid (l = m) := Lib.hid (by have := TK.out; rwa [List.take_length, hlen, List.take_length] at this)
        go_wp2_with fail
        go_ret
        exact ⟨ret_bool (by simpa using E.out), C.out⟩
  · have hne : Hid (l ≠ m) := Lib.hid (by rintro rfl; exact hlen rfl)
    go_enter Try.func33, Try.ntmps33
    go_wp2_with fail
    go_ret
    exact ⟨ret_bool (by simpa using hne.out), Below.refl _ _⟩
end Go.Proofs.Ytnklhfdhaclfiaa
