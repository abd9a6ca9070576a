/-
  MATCHES: nine numbers and nine masks; right, Check, Hits.
-/
import Derived.Test.YtkcikblecinnfaaDoorHdr
import Derived.Test.YtkcikblecinnfaaDoorRg2
import Derived.LoopTactic
import Derived.BigQuiet
import Derived.Deep.WholeRow
namespace Go.Proofs.YtkcikblecinnfaaDoor
open Go.RowKit

/-- a match's numbers. -/
structure Mt where
  val : Nat → Nat
  mask : Nat → Nat
abbrev mtC (m : Mt) : Array Value := #[.int .u64 (m.val 0), .int .u64 (m.val 1), .int .u64 (m.val 2), .int .u64 (m.val 3), .int .u64 (m.val 4), .int .u64 (m.val 5), .int .u64 (m.val 6), .int .u64 (m.val 7), .int .u64 (m.val 8), .int .u64 (m.mask 0), .int .u64 (m.mask 1), .int .u64 (m.mask 2), .int .u64 (m.mask 3), .int .u64 (m.mask 4), .int .u64 (m.mask 5), .int .u64 (m.mask 6), .int .u64 (m.mask 7), .int .u64 (m.mask 8)]
abbrev mtV (m : Mt) : Value := .agg (mtC m)
structure Mt.Ok (m : Mt) : Prop where
  val : ∀ k, k < 9 → m.val k < 18446744073709551616
  mask : ∀ k, k < 9 → m.mask k < 18446744073709551616
def MBox (W : World) (b : Nat) (m : Mt) : Prop := W.heap[b]? = some (.cells (mtC m) 25 (0, 0))
theorem MBox.lt {W : World} {b : Nat} {m : Mt} (hb : MBox W b m) : b < W.heap.size := by
  rcases Nat.lt_or_ge b W.heap.size with h' | h'
  · exact h'
  · unfold MBox at hb; rw [Array.getElem?_eq_none h'] at hb; cases hb
theorem MBox.below {W W' : World} {b : Nat} {m : Mt} (hx : MBox W b m) (hb : Below W.heap.size W W') : MBox W' b m := (hb.block b hx.lt).trans hx
theorem nine_cases (k : Nat) (h : k < 9) : k = 0 ∨ k = 1 ∨ k = 2 ∨ k = 3 ∨ k = 4 ∨ k = 5 ∨ k = 6 ∨ k = 7 ∨ k = 8 := by omega
theorem MBox.val {W : World} {b : Nat} {m : Mt} (hb : MBox W b m) (k : Nat) (h : k < 9) : W.cell? ⟨b, k, none⟩ = some (.int .u64 (m.val k)) := by
  unfold MBox at hb
  rcases nine_cases k h with rfl | rfl | rfl | rfl | rfl | rfl | rfl | rfl | rfl <;> simp [World.cell?, hb]
theorem MBox.mask {W : World} {b : Nat} {m : Mt} (hb : MBox W b m) (k : Nat) (h : k < 9) : W.cell? ⟨b, 9 + k, none⟩ = some (.int .u64 (m.mask k)) := by
  unfold MBox at hb
  rcases nine_cases k h with rfl | rfl | rfl | rfl | rfl | rfl | rfl | rfl | rfl <;> simp [World.cell?, hb]
theorem MBox.unfrozen {W : World} {b : Nat} {m : Mt} (hb : MBox W b m) (j : Nat) : W.frozen? ⟨b, j, none⟩ = false := by
  unfold MBox at hb
  simp [World.frozen?, hb]
theorem boxM (w : World) (m : Mt) : ∃ W0, W0 = w.alloc (.cells (mtC m) 25) ∧ MBox W0 w.heap.size m ∧ Below w.heap.size w W0 :=
  ⟨_, rfl, heap_alloc_new w _, (Below.refl _ _).alloc (Nat.le_refl _) _⟩
theorem mt_one (m : Mt) : (mtC m).all (·.oneCell') = true := by simp [mtC, Value.oneCell']

/-! ### right -/
def rightI (f v k : Int) : Bool := (bits .andNot .u64 k (fullI f) == 0) && (bits .andNot .u64 v k == 0)
set_option maxHeartbeats 800000 in
theorem match_right (f v k : Int) (w : World) (hT : Wid w) :
    Calls Tryd.prog 23 #[.int .i64 f, .int .u64 v, .int .u64 k] w fun e w' => e = .returned (.bool (rightI f v k)) ∧ w = w' := by
  have HT := Lib.hid hT
  clear hT
  cases c1 : (bits .andNot .u64 k (fullI f) == 0)
  all_goals
    have E : Hid (rightI f v k = ((bits .andNot .u64 k (fullI f) == 0) && (bits .andNot .u64 v k == 0))) := rfl
    rw [c1] at E
    go_enter Tryd.func23, Tryd.ntmps23
    go_wp2_with (go_at_call 13; refine (head_Full _ _ HT.out).mono ?_; rintro e w1 ⟨rfl, rfl⟩)
    go_ret
    exact ⟨ret_bool (by rw [E.out]; simp), rfl⟩
set_option maxHeartbeats 800000 in
theorem match_isField (f : Int) (w : World) : Calls Tryd.prog 26 #[.int .i64 f] w fun e w' => e = .returned (.bool (decide (0 ≤ f) && decide (f < 9))) ∧ w = w' := by
  by_cases h0 : 0 ≤ f
  · go_enter Tryd.func26, Tryd.ntmps26
    go_wp2
    go_ret
    exact ⟨ret_bool (by simp [h0]), rfl⟩
  · go_enter Tryd.func26, Tryd.ntmps26
    go_wp2
    go_ret
    exact ⟨ret_bool (by simp; omega), rfl⟩

/-! ### Check -/
def checkM (m : Mt) : Bool := (List.range 9).all fun j : Nat => rightI j (m.val j) (m.mask j)
theorem checkM_yes {m : Mt} (h : ∀ j : Nat, j < 9 → rightI j (m.val j) (m.mask j) = true) : checkM m = true := by
  unfold checkM; simpa using h
theorem checkM_no {m : Mt} {j : Nat} (hj : j < 9) (h : rightI j (m.val j) (m.mask j) = false) : checkM m = false := by
  unfold checkM; rw [List.all_eq_false]; exact ⟨j, by simpa using hj, by simp [h]⟩
theorem below_drewN'' {B : Nat} {a w : World} (h : Below B a w) (n : Nat) : Below B a (w.drewN n) := h.trans ⟨rfl, rfl, rfl, Nat.le_refl _, fun _ _ => rfl⟩
set_option maxRecDepth 100000 in
set_option maxHeartbeats 1600000 in
theorem match_Check (m : Mt) (w : World) (hT : Wid w) :
    Calls Tryd.prog 8 #[mtV m] w fun e w' => e = .returned (.int .i64 (errI (checkM m))) ∧ Below w.heap.size w w' := by
  have HT := Lib.hid hT
  clear hT
  go_enter Tryd.func8, Tryd.ntmps8
  go_wp2_with fail
  obtain ⟨W0, hW0, hm, hB⟩ := boxM w m
  rw [← hW0]; clear hW0
  have C0 := Lib.hid (⟨hB, HT.out.below hB, hm⟩ : Below w.heap.size w W0 ∧ Wid W0 ∧ MBox W0 w.heap.size m)
  clear hB hm
  go_loopw [4] (fun t wr => ∃ k : Nat, k ≤ 9 ∧ t = .int .i64 k ∧ (∀ j, j < k → rightI j (m.val j) (m.mask j) = true) ∧ (Below w.heap.size w wr ∧ Wid wr ∧ MBox wr w.heap.size m)) (fun t _ => 9 - (intOf t).toNat)
  case atStart => exact ⟨0, by omega, rfl, fun j h => absurd h (by omega), C0.out⟩
  case round =>
    obtain ⟨k, hk, rfl, hj, hC⟩ := hrel
    have C := Lib.hid hC
    have HJ := Lib.hid hj
    clear hC hj C0
    rcases Nat.lt_or_ge k 9 with hlt | hge
    · have hk9 : ((k : Int) < 9) := by omega
      have hw : IntKind.i64.wrap ((k : Int) + 1) = ((k + 1 : Nat) : Int) := by rw [IntWalk.i64_in _ (by omega)]; omega
      have cv := C.out.2.2.val k hlt
      have cm := C.out.2.2.mask k hlt
      cases hr : rightI k (m.val k) (m.mask k)
      · have HN := Lib.hid (checkM_no hlt hr)
        have HR := Lib.hid hr
        clear hr
        go_wp2_with fail
        refine wp_region_held_drew (S := fun w' => Below wr.heap.size wr w') (by kernel_rfl) ?_ (fun hHeld => ?_)
        · exact (Below.refl _ _).drew
        refine rg_yes (i := 0) (v := ?_) at0 (by kernel_rfl) (by kernel_rfl) (by kernel_rfl) (fun _ _ _ h => h) ?_ ?_ hHeld ?_; rotate_left 1; (· rfl); (· intro w' hSw; (try dsimp only at hSw); (try clear hHeld); go_simp; try with_reducible rfl)
        try simp only [Act.put, List.setIfInBounds_toArray, List.set_cons_zero, List.set_cons_succ]
        refine rg_yes (i := 1) (v := ?_) (atS at0) (by kernel_rfl) (by kernel_rfl) (by kernel_rfl) (fun _ _ _ h => h) ?_ ?_ hHeld ?_; rotate_left 1; (· rfl); (· intro w' hSw; (try dsimp only at hSw); (try clear hHeld); go_simp; try with_reducible rfl)
        try simp only [Act.put, List.setIfInBounds_toArray, List.set_cons_zero, List.set_cons_succ]
        refine rg_yes (i := 2) (v := ?_) (atS (atS at0)) (by kernel_rfl) (by kernel_rfl) (by kernel_rfl) (fun _ _ _ h => h) ?_ ?_ hHeld ?_; rotate_left 1; (· rfl); (· intro w' hSw; (try dsimp only at hSw); (try clear hHeld); go_simp; try with_reducible rfl)
        try simp only [Act.put, List.setIfInBounds_toArray, List.set_cons_zero, List.set_cons_succ]
        refine rg_yes (i := 3) (v := ?_) (atS (atS (atS at0))) (by kernel_rfl) (by kernel_rfl) (by kernel_rfl) (fun _ _ _ h => h) ?_ ?_ hHeld ?_; rotate_left 1; (· rfl); (· intro w' hSw; (try dsimp only at hSw); have cv := cell_below cv hSw; have cm := cell_below cm hSw; (try clear hHeld); go_simp; try with_reducible rfl)
        try simp only [Act.put, List.setIfInBounds_toArray, List.set_cons_zero, List.set_cons_succ]
        refine rg_yes (i := 4) (v := ?_) (atS (atS (atS (atS at0)))) (by kernel_rfl) (by kernel_rfl) (by kernel_rfl) (fun _ _ _ h => h) ?_ ?_ hHeld ?_; rotate_left 1; (· rfl); (· intro w' hSw; (try dsimp only at hSw); have cv := cell_below cv hSw; have cm := cell_below cm hSw; (try clear hHeld); go_simp; try with_reducible rfl)
        try simp only [Act.put, List.setIfInBounds_toArray, List.set_cons_zero, List.set_cons_succ]
        refine rg_yes (i := 5) (v := ?_) (atS (atS (atS (atS (atS at0))))) (by kernel_rfl) (by kernel_rfl) (by kernel_rfl) (fun _ _ _ h => h) ?_ ?_ hHeld ?_; rotate_left 1; (· rfl); (· intro w' hSw; (try dsimp only at hSw); (try clear hHeld); go_simp; try with_reducible rfl)
        try simp only [Act.put, List.setIfInBounds_toArray, List.set_cons_zero, List.set_cons_succ]
        refine rg_yes (i := 6) (v := ?_) (atS (atS (atS (atS (atS (atS at0)))))) (by kernel_rfl) (by kernel_rfl) (by kernel_rfl) (fun _ _ _ h => h) ?_ ?_ hHeld ?_; rotate_left 1; (· rfl); (· intro w' hSw; (try dsimp only at hSw); (try clear hHeld); go_simp; try with_reducible rfl)
        try simp only [Act.put, List.setIfInBounds_toArray, List.set_cons_zero, List.set_cons_succ]
        refine rg_yes (i := 7) (v := ?_) (atS (atS (atS (atS (atS (atS (atS at0))))))) (by kernel_rfl) (by kernel_rfl) (by kernel_rfl) (fun _ _ _ h => h) ?_ ?_ hHeld ?_; rotate_left 1; (· rfl); (· intro w' hSw; (try dsimp only at hSw); have cv := cell_below cv hSw; have cm := cell_below cm hSw; (try clear hHeld); go_simp; try with_reducible rfl)
        try simp only [Act.put, List.setIfInBounds_toArray, List.set_cons_zero, List.set_cons_succ]
        refine rg_yes (i := 8) (v := ?_) (atS (atS (atS (atS (atS (atS (atS (atS at0)))))))) (by kernel_rfl) (by kernel_rfl) (by kernel_rfl) (fun _ _ _ h => h) ?_ ?_ hHeld ?_; rotate_left 1; (· rfl); (· intro w' hSw; (try dsimp only at hSw); have cv := cell_below cv hSw; have cm := cell_below cm hSw; (try clear hHeld); go_simp; try with_reducible rfl)
        try simp only [Act.put, List.setIfInBounds_toArray, List.set_cons_zero, List.set_cons_succ]
        refine rg_call (i := 9) (atS (atS (atS (atS (atS (atS (atS (atS (atS at0))))))))) (by kernel_rfl) ?_ (fun K hK => ?_); (· rfl); (try clear hb); go_simp; (refine (calls_below (match_right _ _ _ _ (C.out.2.1.below hHeld))).mono ?_; rintro e w1 ⟨rfl, hb⟩); rw [HR.out]; go_wp2_with fail; refine hK.out _ _ ?_ (fun hHeld => ?_); (· exact hHeld.trans (hb.mono hHeld.size)); clear hK K
        try simp only [Act.put, List.setIfInBounds_toArray, List.set_cons_zero, List.set_cons_succ]
        refine rg_yes (i := 10) (v := ?_) (atS (atS (atS (atS (atS (atS (atS (atS (atS (atS at0)))))))))) (by kernel_rfl) (by kernel_rfl) (by kernel_rfl) (fun _ _ _ h => h) ?_ ?_ hHeld ?_; rotate_left 1; (· rfl); (· intro w' hSw; (try dsimp only at hSw); (try clear hHeld); go_simp; try with_reducible rfl)
        try simp only [Act.put, List.setIfInBounds_toArray, List.set_cons_zero, List.set_cons_succ]
        refine wpAnyH_done (by kernel_rfl) ?_ _
        have hb := hHeld
        clear hHeld
        have HB := Lib.hid (below_on C.out.1 hb)
        clear hb cv cm
        go_wp2_with fail
        go_ret
        exact ⟨ret_int (by rw [HN.out]; rfl), HB.out⟩
      · have HR := Lib.hid hr
        have HJ2 : Hid (∀ j : Nat, j < k + 1 → rightI j (m.val j) (m.mask j) = true) := Lib.hid fun j hj => by
          rcases (by omega : j < k ∨ j = k) with h | rfl
          · exact HJ.out j h
          · exact hr
        clear hr HJ
        go_wp2_with fail
        refine wp_region_held_drew (S := fun w' => Below wr.heap.size wr w') (by kernel_rfl) ?_ (fun hHeld => ?_)
        · exact (Below.refl _ _).drew
        refine rg_yes (i := 0) (v := ?_) at0 (by kernel_rfl) (by kernel_rfl) (by kernel_rfl) (fun _ _ _ h => h) ?_ ?_ hHeld ?_; rotate_left 1; (· rfl); (· intro w' hSw; (try dsimp only at hSw); (try clear hHeld); go_simp; try with_reducible rfl)
        try simp only [Act.put, List.setIfInBounds_toArray, List.set_cons_zero, List.set_cons_succ]
        refine rg_yes (i := 1) (v := ?_) (atS at0) (by kernel_rfl) (by kernel_rfl) (by kernel_rfl) (fun _ _ _ h => h) ?_ ?_ hHeld ?_; rotate_left 1; (· rfl); (· intro w' hSw; (try dsimp only at hSw); (try clear hHeld); go_simp; try with_reducible rfl)
        try simp only [Act.put, List.setIfInBounds_toArray, List.set_cons_zero, List.set_cons_succ]
        refine rg_yes (i := 2) (v := ?_) (atS (atS at0)) (by kernel_rfl) (by kernel_rfl) (by kernel_rfl) (fun _ _ _ h => h) ?_ ?_ hHeld ?_; rotate_left 1; (· rfl); (· intro w' hSw; (try dsimp only at hSw); (try clear hHeld); go_simp; try with_reducible rfl)
        try simp only [Act.put, List.setIfInBounds_toArray, List.set_cons_zero, List.set_cons_succ]
        refine rg_yes (i := 3) (v := ?_) (atS (atS (atS at0))) (by kernel_rfl) (by kernel_rfl) (by kernel_rfl) (fun _ _ _ h => h) ?_ ?_ hHeld ?_; rotate_left 1; (· rfl); (· intro w' hSw; (try dsimp only at hSw); have cv := cell_below cv hSw; have cm := cell_below cm hSw; (try clear hHeld); go_simp; try with_reducible rfl)
        try simp only [Act.put, List.setIfInBounds_toArray, List.set_cons_zero, List.set_cons_succ]
        refine rg_yes (i := 4) (v := ?_) (atS (atS (atS (atS at0)))) (by kernel_rfl) (by kernel_rfl) (by kernel_rfl) (fun _ _ _ h => h) ?_ ?_ hHeld ?_; rotate_left 1; (· rfl); (· intro w' hSw; (try dsimp only at hSw); have cv := cell_below cv hSw; have cm := cell_below cm hSw; (try clear hHeld); go_simp; try with_reducible rfl)
        try simp only [Act.put, List.setIfInBounds_toArray, List.set_cons_zero, List.set_cons_succ]
        refine rg_yes (i := 5) (v := ?_) (atS (atS (atS (atS (atS at0))))) (by kernel_rfl) (by kernel_rfl) (by kernel_rfl) (fun _ _ _ h => h) ?_ ?_ hHeld ?_; rotate_left 1; (· rfl); (· intro w' hSw; (try dsimp only at hSw); (try clear hHeld); go_simp; try with_reducible rfl)
        try simp only [Act.put, List.setIfInBounds_toArray, List.set_cons_zero, List.set_cons_succ]
        refine rg_yes (i := 6) (v := ?_) (atS (atS (atS (atS (atS (atS at0)))))) (by kernel_rfl) (by kernel_rfl) (by kernel_rfl) (fun _ _ _ h => h) ?_ ?_ hHeld ?_; rotate_left 1; (· rfl); (· intro w' hSw; (try dsimp only at hSw); (try clear hHeld); go_simp; try with_reducible rfl)
        try simp only [Act.put, List.setIfInBounds_toArray, List.set_cons_zero, List.set_cons_succ]
        refine rg_yes (i := 7) (v := ?_) (atS (atS (atS (atS (atS (atS (atS at0))))))) (by kernel_rfl) (by kernel_rfl) (by kernel_rfl) (fun _ _ _ h => h) ?_ ?_ hHeld ?_; rotate_left 1; (· rfl); (· intro w' hSw; (try dsimp only at hSw); have cv := cell_below cv hSw; have cm := cell_below cm hSw; (try clear hHeld); go_simp; try with_reducible rfl)
        try simp only [Act.put, List.setIfInBounds_toArray, List.set_cons_zero, List.set_cons_succ]
        refine rg_yes (i := 8) (v := ?_) (atS (atS (atS (atS (atS (atS (atS (atS at0)))))))) (by kernel_rfl) (by kernel_rfl) (by kernel_rfl) (fun _ _ _ h => h) ?_ ?_ hHeld ?_; rotate_left 1; (· rfl); (· intro w' hSw; (try dsimp only at hSw); have cv := cell_below cv hSw; have cm := cell_below cm hSw; (try clear hHeld); go_simp; try with_reducible rfl)
        try simp only [Act.put, List.setIfInBounds_toArray, List.set_cons_zero, List.set_cons_succ]
        refine rg_call (i := 9) (atS (atS (atS (atS (atS (atS (atS (atS (atS at0))))))))) (by kernel_rfl) ?_ (fun K hK => ?_); (· rfl); (try clear hb); go_simp; (refine (calls_below (match_right _ _ _ _ (C.out.2.1.below hHeld))).mono ?_; rintro e w1 ⟨rfl, hb⟩); rw [HR.out]; go_wp2_with fail; refine hK.out _ _ ?_ (fun hHeld => ?_); (· exact hHeld.trans (hb.mono hHeld.size)); clear hK K
        try simp only [Act.put, List.setIfInBounds_toArray, List.set_cons_zero, List.set_cons_succ]
        refine rg_yes (i := 10) (v := ?_) (atS (atS (atS (atS (atS (atS (atS (atS (atS (atS at0)))))))))) (by kernel_rfl) (by kernel_rfl) (by kernel_rfl) (fun _ _ _ h => h) ?_ ?_ hHeld ?_; rotate_left 1; (· rfl); (· intro w' hSw; (try dsimp only at hSw); (try clear hHeld); go_simp; try with_reducible rfl)
        try simp only [Act.put, List.setIfInBounds_toArray, List.set_cons_zero, List.set_cons_succ]
        refine wpAnyH_done (by kernel_rfl) ?_ _
        have hb := hHeld
        clear hHeld
        have C2 := Lib.hid (⟨below_on C.out.1 hb, C.out.2.1.below hb, C.out.2.2.below hb⟩ : Below w.heap.size w w1 ∧ Wid w1 ∧ MBox w1 w.heap.size m)
        clear hb cv cm C
        go_wp2_with fail
        refine ⟨⟨k + 1, by omega, by simp, HJ2.out, C2.out⟩, by simp [intOf]; omega⟩
    · obtain rfl : k = 9 := by omega
      have HY := Lib.hid (checkM_yes HJ.out)
      clear HJ
      go_wp2_with fail
      go_ret
      exact ⟨ret_int (by rw [HY.out]; rfl), C.out.1⟩
end Go.Proofs.YtkcikblecinnfaaDoor
