/-
  HEADERS IN ORDER: Cmp, and what it answers: the first field that differs.
-/
import Derived.Test.YtbodkbaafaamlaaDoorNums
namespace Go.Proofs.YtbodkbaafaamlaaDoor
open Go.RowKit

theorem exec_load_row {P : Program} {oi : Oper} {ev : Operand → Value} {w : World} (ty : TypeId) (x : Operand) (ho : oi.op = .load ty x)
    (g : Nat) (hx : ev x = .pointer (some ⟨g, 0, none⟩)) (t : TypeId) (cs : Array Value) (fr : Nat × Nat) (d : TypeDesc) (hg : w.heap[g]? = some (.cells cs t fr))
    (hu : P.underlying ty = some d) (hd : (match d with | .struct _ | .array _ _ => true | _ => false) = true) (hi : (P.info? ty).map (·.size) = some cs.size) :
    (execOp ev oi).run P w = .ok (.value (.agg cs)) w := by
  unfold execOp
  simp only [ho, hx, Instr.loadAt, Instr.sureAddr, Sem.run_bind, Sem.run_pure, Result.andThen_ok, run_loadVar_row w g t ty cs fr d hg hu hd hi]

def cmpU (x y : Int) : Int := if x < y then -1 else if y < x then 1 else 0
/-- the order of the last n fields. -/
def cmpRest (a b : Hdr) : Nat → Int
  | 0 => 0
  | n + 1 => if cmpU (getI a (8 - n)) (getI b (8 - n)) ≠ 0 then cmpU (getI a (8 - n)) (getI b (8 - n)) else cmpRest a b n
def cmpH (a b : Hdr) : Int := cmpRest a b 9
theorem cmpU_neg (x y : Int) : cmpU y x = - cmpU x y := by unfold cmpU; split <;> split <;> (try split) <;> omega
theorem cmpRest_neg (a b : Hdr) : ∀ n, cmpRest b a n = - cmpRest a b n
  | 0 => rfl
  | n + 1 => by
    simp only [cmpRest]
    rw [cmpU_neg (getI a (8 - n)) (getI b (8 - n)), cmpRest_neg a b n]
    split <;> split <;> omega
theorem cmpH_neg (a b : Hdr) : cmpH b a = - cmpH a b := cmpRest_neg a b 9
theorem cmpU_range (x y : Int) : cmpU x y = -1 ∨ cmpU x y = 0 ∨ cmpU x y = 1 := by unfold cmpU; split <;> (try split) <;> simp
theorem cmpRest_range (a b : Hdr) : ∀ n, cmpRest a b n = -1 ∨ cmpRest a b n = 0 ∨ cmpRest a b n = 1
  | 0 => by simp [cmpRest]
  | n + 1 => by
    have h := cmpU_range (getI a (8 - n)) (getI b (8 - n))
    have h2 := cmpRest_range a b n
    simp only [cmpRest]
    split <;> assumption

set_option maxHeartbeats 800000 in
theorem cmp_Compare (x y : Int) (w : World) : Calls Tryd.prog 24 #[.int .u64 x, .int .u64 y] w fun e w' => e = .returned (.int .i64 (cmpU x y)) ∧ w = w' := by
  have hN : ∀ x w, Calls Tryd.prog 31 #[.int .u64 x] w fun e w' => e = .returned (.bool false) ∧ w = w' := fun x w => by
    go_enter Tryd.func31, Tryd.ntmps31
    go_wp2
    go_ret
    exact ⟨ret_bool (by simp), rfl⟩
  have HN := Lib.hid hN
  clear hN
  rcases Int.lt_trichotomy x y with h | h | h
  · have c := Lib.hid (show cmpU x y = -1 by unfold cmpU; rw [if_pos h])
    go_enter Tryd.func24, Tryd.ntmps24
    go_wp2_with (go_at_call 31; refine (HN.out _ _).mono ?_; rintro e w1 ⟨rfl, rfl⟩)
    go_ret
    exact ⟨ret_int c.out.symm, rfl⟩
  · subst h
    have c := Lib.hid (show cmpU x x = 0 by unfold cmpU; simp)
    go_enter Tryd.func24, Tryd.ntmps24
    go_wp2_with (go_at_call 31; refine (HN.out _ _).mono ?_; rintro e w1 ⟨rfl, rfl⟩)
    go_ret
    exact ⟨ret_int c.out.symm, rfl⟩
  · have c := Lib.hid (show cmpU x y = 1 by unfold cmpU; rw [if_neg (by omega), if_pos h])
    have h2 : decide (x < y) = false := decide_eq_false (by omega)
    go_enter Tryd.func24, Tryd.ntmps24
    go_wp2_with (go_at_call 31; refine (HN.out _ _).mono ?_; rintro e w1 ⟨rfl, rfl⟩)
    go_ret
    exact ⟨ret_int c.out.symm, rfl⟩

set_option maxRecDepth 100000 in
set_option maxHeartbeats 3200000 in
theorem head_Cmp (x y : Hdr) (w : World) (hT : Wid w) (ox : x.Ok) (oy : y.Ok) :
    Calls Tryd.prog 15 #[hdrV x, hdrV y] w fun e w' => e = .returned (.int .i64 (cmpH x y)) ∧ Below w.heap.size w w' := by
  have HT := Lib.hid hT
  clear hT
  have OX := Lib.hid ox
  have OY := Lib.hid oy
  clear ox oy
  go_enter Tryd.func15, Tryd.ntmps15
  go_wp2_with fail
  obtain ⟨W0, hW0, hx, hB⟩ := boxH w x
  rw [← hW0]
  have hs : W0.heap.size = w.heap.size + 1 := by rw [hW0]; simp
  obtain ⟨W1, hW1, hy, hB1⟩ := boxH W0 y
  rw [← hW1]
  rw [hs] at hy
  have hx1 := hx.below hB1
  have hBB := below_on hB hB1
  have hT1 := HT.out.below hBB
  clear hW0 hW1 hs hx hB hB1
  go_loopw [7] (fun t wr => ∃ k n : Nat, k + n = 9 ∧ t = .int .i64 k ∧ cmpH x y = cmpRest x y n ∧ Below w.heap.size w wr ∧ Wid wr ∧ HBox wr w.heap.size x ∧ HBox wr (w.heap.size + 1) y) (fun t _ => 9 - (intOf t).toNat)
  case atStart => exact ⟨0, 9, rfl, rfl, rfl, hBB, hT1, hx1, hy⟩
  case round =>
    obtain ⟨k, n, hk, rfl, hc, hBB, hT1, hx1, hy⟩ := hrel
    have HC := Lib.hid hc
    clear hc
    rcases n with _ | n
    · obtain rfl : k = 9 := by omega
      go_wp2_with fail
      go_ret
      exact ⟨ret_int (by rw [HC.out]; rfl), hBB⟩
    · have hk9 : ((k : Int) < 9) := by omega
      have e8 : (8 : Int) - n = k := by omega
      have HE : Hid (cmpH x y = if cmpU (getI x k) (getI y k) ≠ 0 then cmpU (getI x k) (getI y k) else cmpRest x y n) := by
        have := HC.out; simp only [cmpRest, e8] at this; exact this
      clear HC
      go_wp2_with fail
      have LX : Hid (w.heap.size < wr.heap.size) := hx1.lt
      have LY : Hid (w.heap.size + 1 < wr.heap.size) := hy.lt
      have HX := Lib.hid hx1
      have HY := Lib.hid hy
      have HW := Lib.hid hT1
      have HB := Lib.hid hBB
      clear hx1 hy hT1 hBB
      refine wp_region_held_drew (S := fun w' => Below wr.heap.size wr w') (by kernel_rfl) ?_ (fun hHeld => ?_)
      · exact (Below.refl _ _).drew
      refine rg_yes (i := 0) (v := ?_) at0 (by kernel_rfl) (by kernel_rfl) (by kernel_rfl) (fun _ _ _ h => h) ?_ ?_ hHeld ?_; rotate_left 1; (· rfl); (· intro w' hSw; (try dsimp only at hSw); refine exec_load_row 33 (.tmp 2) ?_ w.heap.size ?_ 33 _ (0, 0) _ (HX.out.below hSw) Tryd.underlying33 rfl (by kernel_rfl) <;> rfl)
      try simp only [Act.put, List.setIfInBounds_toArray, List.set_cons_zero, List.set_cons_succ]
      refine rg_yes (i := 1) (v := ?_) (atS at0) (by kernel_rfl) (by kernel_rfl) (by kernel_rfl) (fun _ _ _ h => h) ?_ ?_ hHeld ?_; rotate_left 1; (· rfl); (· intro w' hSw; (try dsimp only at hSw); (try clear hHeld); go_simp; try with_reducible rfl)
      try simp only [Act.put, List.setIfInBounds_toArray, List.set_cons_zero, List.set_cons_succ]
      refine rg_yes (i := 3) (v := ?_) (atS (atS (atS at0))) (by kernel_rfl) (by kernel_rfl) (by kernel_rfl) (fun _ _ _ h => h) ?_ ?_ hHeld ?_; rotate_left 1; (· rfl); (· intro w' hSw; (try dsimp only at hSw); refine exec_load_row 33 (.tmp 3) ?_ (w.heap.size + 1) ?_ 33 _ (0, 0) _ (HY.out.below hSw) Tryd.underlying33 rfl (by kernel_rfl) <;> rfl)
      try simp only [Act.put, List.setIfInBounds_toArray, List.set_cons_zero, List.set_cons_succ]
      refine rg_yes (i := 4) (v := ?_) (atS (atS (atS (atS at0)))) (by kernel_rfl) (by kernel_rfl) (by kernel_rfl) (fun _ _ _ h => h) ?_ ?_ hHeld ?_; rotate_left 1; (· rfl); (· intro w' hSw; (try dsimp only at hSw); (try clear hHeld); go_simp; try with_reducible rfl)
      try simp only [Act.put, List.setIfInBounds_toArray, List.set_cons_zero, List.set_cons_succ]
      refine rg_call (i := 2) (atS (atS at0)) (by kernel_rfl) ?_ (fun K hK => ?_); (· rfl); (try clear hb); go_simp; (refine (head_Get _ _ _ (HW.out.below hHeld) (by first | exact OX.out | exact OY.out)).mono ?_; rintro e w1 ⟨rfl, hb⟩); go_wp2_with fail; refine hK.out _ _ ?_ (fun hHeld => ?_); (· exact hHeld.trans (hb.mono hHeld.size)); clear hK K
      try simp only [Act.put, List.setIfInBounds_toArray, List.set_cons_zero, List.set_cons_succ]
      refine rg_call (i := 5) (atS (atS (atS (atS (atS at0))))) (by kernel_rfl) ?_ (fun K hK => ?_); (· rfl); (try clear hb); go_simp; (refine (head_Get _ _ _ (HW.out.below hHeld) (by first | exact OX.out | exact OY.out)).mono ?_; rintro e w1 ⟨rfl, hb⟩); go_wp2_with fail; refine hK.out _ _ ?_ (fun hHeld => ?_); (· exact hHeld.trans (hb.mono hHeld.size)); clear hK K
      try simp only [Act.put, List.setIfInBounds_toArray, List.set_cons_zero, List.set_cons_succ]
      refine rg_call (i := 6) (atS (atS (atS (atS (atS (atS at0)))))) (by kernel_rfl) ?_ (fun K hK => ?_); (· rfl); (try clear hb); go_simp; (refine (calls_below (cmp_Compare _ _ _)).mono ?_; rintro e w1 ⟨rfl, hb⟩); go_wp2_with fail; refine hK.out _ _ ?_ (fun hHeld => ?_); (· exact hHeld.trans (hb.mono hHeld.size)); clear hK K
      try simp only [Act.put, List.setIfInBounds_toArray, List.set_cons_zero, List.set_cons_succ]
      refine rg_yes (i := 7) (v := ?_) (atS (atS (atS (atS (atS (atS (atS at0))))))) (by kernel_rfl) (by kernel_rfl) (by kernel_rfl) (fun _ _ _ h => h) ?_ ?_ hHeld ?_; rotate_left 1; (· rfl); (· intro w' hSw; (try dsimp only at hSw); (try clear hHeld); go_simp; try with_reducible rfl)
      try simp only [Act.put, List.setIfInBounds_toArray, List.set_cons_zero, List.set_cons_succ]
      refine wpAnyH_done (by kernel_rfl) ?_ _
      have hb1 := below_on HB.out hHeld
      have hx2 := HX.out.below hHeld
      have hy2 := HY.out.below hHeld
      have hT2 := HW.out.below hHeld
      clear hHeld HX HY HW HB hb
      have C1 := Lib.hid (⟨hb1, hT2, hx2, hy2⟩ : Below w.heap.size w w1 ∧ Wid w1 ∧ HBox w1 w.heap.size x ∧ HBox w1 (w.heap.size + 1) y)
      clear hb1 hx2 hy2 hT2
      generalize hcv : cmpU (getI x k) (getI y k) = c at HE
      by_cases hc0 : c = 0
      · have h0 : (c == 0) = true := by simp [hc0]
        have HE2 : Hid (cmpH x y = cmpRest x y n) := by have := HE.out; rw [if_neg (by simpa using hc0)] at this; exact this
        clear HE
        have hw : IntKind.i64.wrap ((k : Int) + 1) = ((k + 1 : Nat) : Int) := by rw [IntWalk.i64_in _ (by omega)]; omega
        have hcv := Lib.hid hcv
        clear hcv
        go_wp2_with fail
        go_roundw
        case rel => exact ⟨k + 1, n, by omega, rfl, HE2.out, C1.out⟩
        case measure => simp [intOf]; omega
      · have h0 : (c == 0) = false := by simp [hc0]
        have HE2 : Hid (cmpH x y = c) := by have := HE.out; rw [if_pos (by simpa using hc0)] at this; exact this
        clear HE
        go_wp2_with fail
        go_ret
        exact ⟨ret_int HE2.out.symm, C1.out.1⟩
end Go.Proofs.YtbodkbaafaamlaaDoor
