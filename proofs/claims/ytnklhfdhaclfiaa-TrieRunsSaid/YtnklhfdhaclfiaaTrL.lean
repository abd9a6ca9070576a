/-
  A TRIE OF NUMBERS: Longest.
-/
import Derived.Test.YtnklhfdhaclfiaaTrD
import Derived.Test.YtnklhfdhaclfiaaRgS
namespace Go.Proofs.Ytnklhfdhaclfiaa
open Go.RowKit

/-- the most bits, fewer than k, of a net in which a lies and at which something stands. -/
def bst (S : List (Nat × Value)) (a : Nat) : Nat → Option Nat
  | 0 => none
  | k + 1 => if (getL S (keyN a k)).isSome then some k else bst S a k
theorem bst_lt {S : List (Nat × Value)} {a : Nat} : ∀ {k j : Nat}, bst S a k = some j → j < k ∧ (getL S (keyN a j)).isSome = true
  | 0, j, h => by simp [bst] at h
  | k + 1, j, h => by
    unfold bst at h
    split at h
    · next hc => cases h; exact ⟨by omega, hc⟩
    · have := bst_lt h; exact ⟨by omega, this.2⟩
theorem bst_stop {S : List (Nat × Value)} {a : Nat} : ∀ {k m : Nat}, k ≤ m → (∀ i, k ≤ i → i < m → getL S (keyN a i) = none) → bst S a m = bst S a k := by
  intro k m hk h
  induction m with
  | zero => obtain rfl : k = 0 := by omega
            rfl
  | succ m ih =>
    by_cases e : k = m + 1
    · rw [e]
    · rw [bst, h m (by omega) (by omega), if_neg (by decide)]
      exact ih (by omega) (fun i h1 h2 => h i h1 (by omega))
/-- what Longest answers. -/
def longE (S : List (Nat × Value)) (a : Nat) : Ending :=
  match bst S a 33 with
  | none => .returned (.tuple #[.agg #[.int .u32 0, .int .i64 0], zvI, .bool false])
  | some j => .returned (.tuple #[.agg #[.int .u32 (keepI a j), .int .i64 j], (getL S (keyN a j)).getD zvI, .bool true])
theorem longE_no {S : List (Nat × Value)} {a : Nat} (h : bst S a 33 = none) : Ending.returned (.tuple #[.agg #[.int .u32 0, .int .i64 0], .int .i64 0, .bool false]) = longE S a := by unfold longE; rw [h]
theorem longE_yes {S : List (Nat × Value)} {a j : Nat} {v : Value} (h : bst S a 33 = some j) (hv : (getL S (keyN a j)).getD zvI = v) : Ending.returned (.tuple #[.agg #[.int .u32 (keepI a j), .int .i64 j], v, .bool true]) = longE S a := by unfold longE; rw [h, ← hv]
theorem none_below {tT tN : TypeId} {z : Value} {W : World} {tb : Nat} {N : Nat → Option Nat} {S : List (Nat × Value)} {most : Int} (h : TrieAt tT tN z W tb N S most) {a k : Nat} (hk : N (keyN a k) = none) (i : Nat) (h1 : k ≤ i) (h2 : i < 33) : getL S (keyN a i) = none := by
  cases hx : N (keyN a i) with
  | none => exact h.none_of hx
  | some b =>
    obtain ⟨c, hc⟩ := path_some h (by omega) hx k h1
    rw [hk] at hc; cases hc
def BestIs (N : Nat → Option Nat) (S : List (Nat × Value)) (a k : Nat) (bp : Option Nat) (lj : Nat) : Prop :=
  (bst S a k = none ∧ bp = none ∧ lj = 0) ∨ (bst S a k = some lj ∧ ∃ b, bp = some b ∧ N (keyN a lj) = some b)
theorem BestIs.yes {N : Nat → Option Nat} {S : List (Nat × Value)} {a k b : Nat} (hg : (getL S (keyN a k)).isSome = true) (hb : N (keyN a k) = some b) : BestIs N S a (k + 1) (some b) k :=
  .inr ⟨by unfold bst; exact if_pos hg, b, rfl, hb⟩
theorem BestIs.no {N : Nat → Option Nat} {S : List (Nat × Value)} {a k lj : Nat} {bp : Option Nat} (hg : getL S (keyN a k) = none) (h : BestIs N S a k bp lj) : BestIs N S a (k + 1) bp lj := by
  have e : bst S a (k + 1) = bst S a k := by rw [bst, hg]; exact if_neg (by decide)
  unfold BestIs
  rw [e]; exact h
def ResBox (T : TypeId) (b : Nat) (w : World) : Prop := ∃ x y : Value, w.heap[b]? = some (.cells #[x, y] T (0, 0))
theorem ResBox.below {T : TypeId} {b : Nat} {w w' : World} (h : ResBox T b w) (hb : Below w.heap.size w w') : ResBox T b w' := by
  obtain ⟨x, y, h⟩ := h
  exact ⟨x, y, (hb.block b (row_lt h)).trans h⟩
theorem ResBox.set {T : TypeId} {b : Nat} {w : World} (h : ResBox T b w) (u v : Value) : ResBox T b ((w.setCell ⟨b, 0, none⟩ u).setCell ⟨b, 1, none⟩ v) := by
  obtain ⟨x, y, h⟩ := h
  exact ⟨u, v, set_same (set_same h 0 u) 1 v⟩

set_option maxHeartbeats 400000 in
theorem trI_Longest_nil (a : Int) (w : World) : Calls Try.prog 22 #[.pointer none, .int .u32 a] w fun e w' => e = .returned (.tuple #[.agg #[.int .u32 0, .int .i64 0], .int .i64 0, .bool false]) ∧ Below w.heap.size w w' := by
  go_enter Try.func22, Try.ntmps22
  go_wp2_with fail
  refine bodyPost_ret (v := .tuple #[.agg #[.int .u32 0, .int .i64 0], .int .i64 0, .bool false]) (by simp [results, Try.results22, go_sem]) rfl ⟨rfl, ?_⟩
  exact (Below.refl _ _).alloc (Nat.le_refl _) _

set_option maxHeartbeats 3200000 in
set_option maxRecDepth 100000 in
theorem trI_Longest {tb : Nat} {N : Nat → Option Nat} {S : List (Nat × Value)} {most : Int} (a : Nat) (w : World) (h : TrI w tb N S most) (ha : a < 4294967296) :
    Calls Try.prog 22 #[.pointer (some ⟨tb, 0, none⟩), .int .u32 a] w fun e w' => e = longE S a ∧ Below w.heap.size w w' := by
  have H := Lib.hid h
  have K0 := Lib.hid (keyN_0 a ha)
  have BQ := Lib.hid (fun W (k : Nat) (hk : k < 32) => bit_q a k ha hk W)
  clear h
  go_enter Try.func22, Try.ntmps22
  go_upto_region 4 with (fail)
  obtain ⟨W0, hW0, r0, r1, hB⟩ := box2 w (.int .u32 0) (.int .i64 0) 31
  have RB0 : Hid (ResBox 31 w.heap.size W0) := Lib.hid (by rw [hW0]; exact ⟨_, _, heap_alloc_new w _⟩)
  rw [← hW0]; clear hW0
  have H1 := Lib.hid (H.out.below hB)
  have t0 := H1.out.cells.1
  go_wp2_with fail
  clear t0
  go_loopw [7, 8, 9, 10] (fun bs lg x i wr => ∃ (k : Nat) (bp : Option Nat) (lj : Nat), k ≤ 32 ∧ lj ≤ 32 ∧ i = .int .i64 k ∧ x = ptrN (N (keyN a k)) ∧ bs = ptrN bp ∧ lg = .int .i64 lj ∧ Hid (BestIs N S a k bp lj) ∧ Hid (Below W0.heap.size W0 wr)) (fun _ _ _ i _ => 33 - (intOf i).toNat)
  case atStart => exact ⟨0, none, 0, by omega, by omega, rfl, by rw [K0.out], rfl, rfl, Lib.hid (.inl ⟨rfl, rfl, rfl⟩), Lib.hid (Below.refl _ _)⟩
  case round =>
    obtain ⟨k, bp, lj, hk, hlj, rfl, rfl, rfl, rfl, BI, HBr⟩ := hrel
    have Tr := Lib.hid (H1.out.below HBr.out)
    have RBr := Lib.hid (RB0.out.below HBr.out)
    have hBr := Lib.hid (below_on hB HBr.out)
    cases hx : N (keyN a k) with
    | none =>
      have ST := bst_stop (a := a) (show k ≤ 33 by omega) (fun i h1 h2 => none_below H.out hx i h1 h2)
      clear hx
      rcases BI.out with ⟨e1, rfl, rfl⟩ | ⟨e1, b, rfl, hb⟩
      · have E := Lib.hid (longE_no (ST.trans e1))
        clear ST e1 BI
        obtain ⟨x, y, hrow⟩ := RBr.out
        have q0 : wr.cell? ⟨w.heap.size, 0, none⟩ = some x := row_cell hrow 0
        have q1 : wr.cell? ⟨w.heap.size, 1, none⟩ = some y := row_cell hrow 1
        have g0 := row_free hrow 0
        have g1 := row_free hrow 1
        clear hrow
        go_wp2_with fail
        refine bodyPost_ret (v := .tuple #[.agg #[.int .u32 0, .int .i64 0], .int .i64 0, .bool false]) (by simp [results, Try.results22, go_sem, q0, q1]) rfl ⟨E.out, ?_⟩
        exact (hBr.out.setCell (by simp) _).setCell (by simp) _
      · have E := Lib.hid (fun v hv => longE_yes (v := v) (ST.trans e1) hv)
        clear ST e1 BI
        rw [ptrN_some]
        obtain ⟨_, _, _, u3⟩ := H.out.ncells hb
        generalize hv : (getL S (keyN a lj)).getD zvI = v at u3
        have E2 := Lib.hid (E.out v hv)
        clear hv E hb
        have OF := Lib.hid (fun W => ip_Of (a : Int) (lj : Int) W (by omega) (by omega))
        have CL := Lib.hid (show cl (lj : Int) = (lj : Int) from cl_of _ (by omega) (by omega))
        go_wp2_with fail
        refine wp_region_held_drew (S := fun w' => Below w.heap.size w w' ∧ ResBox 31 w.heap.size w') (by kernel_rfl) ?_ (fun hHeld => ?_)
        · exact ⟨hBr.out.drew, RBr.out.below (Below.refl _ _).drew⟩
        refine rg_yes (i := 0) (v := ?_) at0 (by kernel_rfl) (by kernel_rfl) (by kernel_rfl) (fun _ _ _ h => h) ?_ ?_ hHeld ?_; rotate_left 1; (· rfl); (· intro w' hSw; (try dsimp only at hSw); (try clear hHeld); go_simp; try with_reducible rfl)
        try simp only [Act.put, List.setIfInBounds_toArray, List.set_cons_zero, List.set_cons_succ]
        refine rg_yes (i := 1) (v := ?_) (atS at0) (by kernel_rfl) (by kernel_rfl) (by kernel_rfl) (fun _ _ _ h => h) ?_ ?_ hHeld ?_; rotate_left 1; (· rfl); (· intro w' hSw; (try dsimp only at hSw); (try clear hHeld); go_simp; try with_reducible rfl)
        try simp only [Act.put, List.setIfInBounds_toArray, List.set_cons_zero, List.set_cons_succ]
        refine rg_yes (i := 3) (v := ?_) (atS (atS (atS at0))) (by kernel_rfl) (by kernel_rfl) (by kernel_rfl) (fun _ _ _ h => h) ?_ ?_ hHeld ?_; rotate_left 1; (· rfl); (· intro w' hSw; (try dsimp only at hSw); (try clear hHeld); go_simp; try with_reducible rfl)
        try simp only [Act.put, List.setIfInBounds_toArray, List.set_cons_zero, List.set_cons_succ]
        refine rg_call2 (i := 2) (j := 4) (atS (atS at0)) (atS (atS (atS (atS at0)))) (by kernel_rfl) ?_ ?_ (fun K hK => ?_) (fun K hK => ?_)
        · rfl
        · rfl
        · (try clear hb); go_simp; (refine (OF.out _).mono ?_; rintro e w1 ⟨rfl, hb⟩); go_wp2_with fail; refine hK.out _ _ ?_ (fun hHeld => ?_); (· exact ⟨hHeld.1.trans (hb.mono hHeld.1.size), hHeld.2.below hb⟩); clear hK K
          try simp only [Act.put, List.setIfInBounds_toArray, List.set_cons_zero, List.set_cons_succ]
          refine rg_call2 (i := 4) (j := 7) (atS (atS (atS (atS at0)))) (atS (atS (atS (atS (atS (atS (atS at0))))))) (by kernel_rfl) ?_ ?_ (fun K hK => ?_) (fun K hK => ?_)
          · rfl
          · rfl
          · (try clear hb); go_simp; go_wp2_with fail; refine hK.out _ _ ?_ (fun hHeld => ?_); (· exact hHeld); clear hK K
            try simp only [Act.put, List.setIfInBounds_toArray, List.set_cons_zero, List.set_cons_succ]
            refine rg_yes (i := 5) (v := ?_) (atS (atS (atS (atS (atS at0))))) (by kernel_rfl) (by kernel_rfl) (by kernel_rfl) (fun _ _ _ h => h) ?_ ?_ hHeld ?_; rotate_left 1; (· rfl); (· intro w' hSw; (try dsimp only at hSw); (try clear hHeld); go_simp; try with_reducible rfl)
            try simp only [Act.put, List.setIfInBounds_toArray, List.set_cons_zero, List.set_cons_succ]
            refine rg_yes (i := 6) (v := ?_) (atS (atS (atS (atS (atS (atS at0)))))) (by kernel_rfl) (by kernel_rfl) (by kernel_rfl) (fun _ _ _ h => h) ?_ ?_ hHeld ?_; rotate_left 1; (· rfl); (· intro w' hSw; (try dsimp only at hSw); have u3 := cell_below u3 hSw.1; (try clear hHeld); go_simp; try with_reducible rfl)
            try simp only [Act.put, List.setIfInBounds_toArray, List.set_cons_zero, List.set_cons_succ]
            refine rg_call (i := 7) (atS (atS (atS (atS (atS (atS (atS at0))))))) (by kernel_rfl) ?_ (fun K hK => ?_); (· rfl); (try clear hb); obtain ⟨x, y, hrow⟩ := hHeld.2; have q0 := row_cell hrow 0; have q1 := row_cell hrow 1; have g0 := row_free hrow 0; have g1 := row_free hrow 1; go_simp; go_wp2_with fail; refine hK.out _ _ ?_ (fun hHeld => ?_); (· exact ⟨(hHeld.1.setCell (by simp) _).setCell (by simp) _, hHeld.2.set _ _⟩); clear hK K
            try simp only [Act.put, List.setIfInBounds_toArray, List.set_cons_zero, List.set_cons_succ]
            refine rg_yes (i := 8) (v := ?_) (atS (atS (atS (atS (atS (atS (atS (atS at0)))))))) (by kernel_rfl) (by kernel_rfl) (by kernel_rfl) (fun _ _ _ h => h) ?_ ?_ hHeld ?_; rotate_left 1; (· rfl); (· intro w' hSw; (try dsimp only at hSw); (try clear hHeld); go_simp; try with_reducible rfl)
            try simp only [Act.put, List.setIfInBounds_toArray, List.set_cons_zero, List.set_cons_succ]
            refine rg_yes (i := 9) (v := ?_) (atS (atS (atS (atS (atS (atS (atS (atS (atS at0))))))))) (by kernel_rfl) (by kernel_rfl) (by kernel_rfl) (fun _ _ _ h => h) ?_ ?_ hHeld ?_; rotate_left 1; (· rfl); (· intro w' hSw; (try dsimp only at hSw); (try clear hHeld); go_simp; try with_reducible rfl)
            try simp only [Act.put, List.setIfInBounds_toArray, List.set_cons_zero, List.set_cons_succ]
            refine wpAnyH_done (by kernel_rfl) ?_ _
            go_wp2_with fail
            refine bodyPost_ret (v := .tuple #[.agg #[.int .u32 (keepI a (lj : Int)), .int .i64 (cl (lj : Int))], v, .bool true]) (by simp [results, Try.results22, go_sem, q0, q1]) rfl ⟨?_, hHeld.1⟩
            rw [CL.out]
            exact E2.out
          · (try clear hb); obtain ⟨x, y, hrow⟩ := hHeld.2; have q0 := row_cell hrow 0; have q1 := row_cell hrow 1; have g0 := row_free hrow 0; have g1 := row_free hrow 1; go_simp; go_wp2_with fail; refine hK.out _ _ ?_ (fun hHeld => ?_); (· exact ⟨(hHeld.1.setCell (by simp) _).setCell (by simp) _, hHeld.2.set _ _⟩); clear hK K
            try simp only [Act.put, List.setIfInBounds_toArray, List.set_cons_zero, List.set_cons_succ]
            refine rg_call (i := 4) (atS (atS (atS (atS at0)))) (by kernel_rfl) ?_ (fun K hK => ?_); (· rfl); (try clear hb); go_simp; go_wp2_with fail; refine hK.out _ _ ?_ (fun hHeld => ?_); (· exact hHeld); clear hK K
            try simp only [Act.put, List.setIfInBounds_toArray, List.set_cons_zero, List.set_cons_succ]
            refine rg_yes (i := 5) (v := ?_) (atS (atS (atS (atS (atS at0))))) (by kernel_rfl) (by kernel_rfl) (by kernel_rfl) (fun _ _ _ h => h) ?_ ?_ hHeld ?_; rotate_left 1; (· rfl); (· intro w' hSw; (try dsimp only at hSw); (try clear hHeld); go_simp; try with_reducible rfl)
            try simp only [Act.put, List.setIfInBounds_toArray, List.set_cons_zero, List.set_cons_succ]
            refine rg_yes (i := 6) (v := ?_) (atS (atS (atS (atS (atS (atS at0)))))) (by kernel_rfl) (by kernel_rfl) (by kernel_rfl) (fun _ _ _ h => h) ?_ ?_ hHeld ?_; rotate_left 1; (· rfl); (· intro w' hSw; (try dsimp only at hSw); have u3 := cell_below u3 hSw.1; (try clear hHeld); go_simp; try with_reducible rfl)
            try simp only [Act.put, List.setIfInBounds_toArray, List.set_cons_zero, List.set_cons_succ]
            refine rg_yes (i := 8) (v := ?_) (atS (atS (atS (atS (atS (atS (atS (atS at0)))))))) (by kernel_rfl) (by kernel_rfl) (by kernel_rfl) (fun _ _ _ h => h) ?_ ?_ hHeld ?_; rotate_left 1; (· rfl); (· intro w' hSw; (try dsimp only at hSw); (try clear hHeld); go_simp; try with_reducible rfl)
            try simp only [Act.put, List.setIfInBounds_toArray, List.set_cons_zero, List.set_cons_succ]
            refine rg_yes (i := 9) (v := ?_) (atS (atS (atS (atS (atS (atS (atS (atS (atS at0))))))))) (by kernel_rfl) (by kernel_rfl) (by kernel_rfl) (fun _ _ _ h => h) ?_ ?_ hHeld ?_; rotate_left 1; (· rfl); (· intro w' hSw; (try dsimp only at hSw); (try clear hHeld); go_simp; try with_reducible rfl)
            try simp only [Act.put, List.setIfInBounds_toArray, List.set_cons_zero, List.set_cons_succ]
            refine wpAnyH_done (by kernel_rfl) ?_ _
            go_wp2_with fail
            refine bodyPost_ret (v := .tuple #[.agg #[.int .u32 (keepI a (lj : Int)), .int .i64 (cl (lj : Int))], v, .bool true]) (by simp [results, Try.results22, go_sem, q0, q1]) rfl ⟨?_, hHeld.1⟩
            rw [CL.out]
            exact E2.out
        · (try clear hb); go_simp; go_wp2_with fail; refine hK.out _ _ ?_ (fun hHeld => ?_); (· exact hHeld); clear hK K
          try simp only [Act.put, List.setIfInBounds_toArray, List.set_cons_zero, List.set_cons_succ]
          refine rg_yes (i := 5) (v := ?_) (atS (atS (atS (atS (atS at0))))) (by kernel_rfl) (by kernel_rfl) (by kernel_rfl) (fun _ _ _ h => h) ?_ ?_ hHeld ?_; rotate_left 1; (· rfl); (· intro w' hSw; (try dsimp only at hSw); (try clear hHeld); go_simp; try with_reducible rfl)
          try simp only [Act.put, List.setIfInBounds_toArray, List.set_cons_zero, List.set_cons_succ]
          refine rg_yes (i := 6) (v := ?_) (atS (atS (atS (atS (atS (atS at0)))))) (by kernel_rfl) (by kernel_rfl) (by kernel_rfl) (fun _ _ _ h => h) ?_ ?_ hHeld ?_; rotate_left 1; (· rfl); (· intro w' hSw; (try dsimp only at hSw); have u3 := cell_below u3 hSw.1; (try clear hHeld); go_simp; try with_reducible rfl)
          try simp only [Act.put, List.setIfInBounds_toArray, List.set_cons_zero, List.set_cons_succ]
          refine rg_call (i := 2) (atS (atS at0)) (by kernel_rfl) ?_ (fun K hK => ?_); (· rfl); (try clear hb); go_simp; (refine (OF.out _).mono ?_; rintro e w1 ⟨rfl, hb⟩); go_wp2_with fail; refine hK.out _ _ ?_ (fun hHeld => ?_); (· exact ⟨hHeld.1.trans (hb.mono hHeld.1.size), hHeld.2.below hb⟩); clear hK K
          try simp only [Act.put, List.setIfInBounds_toArray, List.set_cons_zero, List.set_cons_succ]
          refine rg_call (i := 7) (atS (atS (atS (atS (atS (atS (atS at0))))))) (by kernel_rfl) ?_ (fun K hK => ?_); (· rfl); (try clear hb); obtain ⟨x, y, hrow⟩ := hHeld.2; have q0 := row_cell hrow 0; have q1 := row_cell hrow 1; have g0 := row_free hrow 0; have g1 := row_free hrow 1; go_simp; go_wp2_with fail; refine hK.out _ _ ?_ (fun hHeld => ?_); (· exact ⟨(hHeld.1.setCell (by simp) _).setCell (by simp) _, hHeld.2.set _ _⟩); clear hK K
          try simp only [Act.put, List.setIfInBounds_toArray, List.set_cons_zero, List.set_cons_succ]
          refine rg_yes (i := 8) (v := ?_) (atS (atS (atS (atS (atS (atS (atS (atS at0)))))))) (by kernel_rfl) (by kernel_rfl) (by kernel_rfl) (fun _ _ _ h => h) ?_ ?_ hHeld ?_; rotate_left 1; (· rfl); (· intro w' hSw; (try dsimp only at hSw); (try clear hHeld); go_simp; try with_reducible rfl)
          try simp only [Act.put, List.setIfInBounds_toArray, List.set_cons_zero, List.set_cons_succ]
          refine rg_yes (i := 9) (v := ?_) (atS (atS (atS (atS (atS (atS (atS (atS (atS at0))))))))) (by kernel_rfl) (by kernel_rfl) (by kernel_rfl) (fun _ _ _ h => h) ?_ ?_ hHeld ?_; rotate_left 1; (· rfl); (· intro w' hSw; (try dsimp only at hSw); (try clear hHeld); go_simp; try with_reducible rfl)
          try simp only [Act.put, List.setIfInBounds_toArray, List.set_cons_zero, List.set_cons_succ]
          refine wpAnyH_done (by kernel_rfl) ?_ _
          go_wp2_with fail
          refine bodyPost_ret (v := .tuple #[.agg #[.int .u32 (keepI a (lj : Int)), .int .i64 (cl (lj : Int))], v, .bool true]) (by simp [results, Try.results22, go_sem, q0, q1]) rfl ⟨?_, hHeld.1⟩
          rw [CL.out]
          exact E2.out
    | some bk =>
      obtain ⟨d0, d1, d2, _⟩ := Tr.out.ncells hx
      have HX := Lib.hid hx
      rw [ptrN_some]
      by_cases h32 : k = 32
      · subst h32
        cases hg : getL S (keyN a 32) with
        | none =>
          rw [hg] at d2
          replace d2 : wr.cell? ⟨bk, 2, none⟩ = some (.bool false) := d2
          have BI' := Lib.hid (BestIs.no hg BI.out)
          clear hg hx BI d0 d1
          rcases BI'.out with ⟨e1, rfl, rfl⟩ | ⟨e1, b, rfl, hb⟩
          · have E := Lib.hid (longE_no e1)
            clear e1 BI'
            obtain ⟨x, y, hrow⟩ := RBr.out
            have q0 : wr.cell? ⟨w.heap.size, 0, none⟩ = some x := row_cell hrow 0
            have q1 : wr.cell? ⟨w.heap.size, 1, none⟩ = some y := row_cell hrow 1
            have g0 := row_free hrow 0
            have g1 := row_free hrow 1
            clear hrow
            go_wp2_with fail
            refine bodyPost_ret (v := .tuple #[.agg #[.int .u32 0, .int .i64 0], .int .i64 0, .bool false]) (by simp [results, Try.results22, go_sem, q0, q1]) rfl ⟨E.out, ?_⟩
            exact (hBr.out.setCell (by simp) _).setCell (by simp) _
          · have E := Lib.hid (fun v hv => longE_yes (v := v) e1 hv)
            clear e1 BI'
            rw [ptrN_some]
            obtain ⟨_, _, _, u3⟩ := H.out.ncells hb
            generalize hv : (getL S (keyN a lj)).getD zvI = v at u3
            have E2 := Lib.hid (E.out v hv)
            clear hv E hb
            have OF := Lib.hid (fun W => ip_Of (a : Int) (lj : Int) W (by omega) (by omega))
            have CL := Lib.hid (show cl (lj : Int) = (lj : Int) from cl_of _ (by omega) (by omega))
            go_wp2_with fail
            refine wp_region_held_drew (S := fun w' => Below w.heap.size w w' ∧ ResBox 31 w.heap.size w') (by kernel_rfl) ?_ (fun hHeld => ?_)
            · exact ⟨hBr.out.drew, RBr.out.below (Below.refl _ _).drew⟩
            refine rg_yes (i := 0) (v := ?_) at0 (by kernel_rfl) (by kernel_rfl) (by kernel_rfl) (fun _ _ _ h => h) ?_ ?_ hHeld ?_; rotate_left 1; (· rfl); (· intro w' hSw; (try dsimp only at hSw); (try clear hHeld); go_simp; try with_reducible rfl)
            try simp only [Act.put, List.setIfInBounds_toArray, List.set_cons_zero, List.set_cons_succ]
            refine rg_yes (i := 1) (v := ?_) (atS at0) (by kernel_rfl) (by kernel_rfl) (by kernel_rfl) (fun _ _ _ h => h) ?_ ?_ hHeld ?_; rotate_left 1; (· rfl); (· intro w' hSw; (try dsimp only at hSw); (try clear hHeld); go_simp; try with_reducible rfl)
            try simp only [Act.put, List.setIfInBounds_toArray, List.set_cons_zero, List.set_cons_succ]
            refine rg_yes (i := 3) (v := ?_) (atS (atS (atS at0))) (by kernel_rfl) (by kernel_rfl) (by kernel_rfl) (fun _ _ _ h => h) ?_ ?_ hHeld ?_; rotate_left 1; (· rfl); (· intro w' hSw; (try dsimp only at hSw); (try clear hHeld); go_simp; try with_reducible rfl)
            try simp only [Act.put, List.setIfInBounds_toArray, List.set_cons_zero, List.set_cons_succ]
            refine rg_call2 (i := 2) (j := 4) (atS (atS at0)) (atS (atS (atS (atS at0)))) (by kernel_rfl) ?_ ?_ (fun K hK => ?_) (fun K hK => ?_)
            · rfl
            · rfl
            · (try clear hb); go_simp; (refine (OF.out _).mono ?_; rintro e w1 ⟨rfl, hb⟩); go_wp2_with fail; refine hK.out _ _ ?_ (fun hHeld => ?_); (· exact ⟨hHeld.1.trans (hb.mono hHeld.1.size), hHeld.2.below hb⟩); clear hK K
              try simp only [Act.put, List.setIfInBounds_toArray, List.set_cons_zero, List.set_cons_succ]
              refine rg_call2 (i := 4) (j := 7) (atS (atS (atS (atS at0)))) (atS (atS (atS (atS (atS (atS (atS at0))))))) (by kernel_rfl) ?_ ?_ (fun K hK => ?_) (fun K hK => ?_)
              · rfl
              · rfl
              · (try clear hb); go_simp; go_wp2_with fail; refine hK.out _ _ ?_ (fun hHeld => ?_); (· exact hHeld); clear hK K
                try simp only [Act.put, List.setIfInBounds_toArray, List.set_cons_zero, List.set_cons_succ]
                refine rg_yes (i := 5) (v := ?_) (atS (atS (atS (atS (atS at0))))) (by kernel_rfl) (by kernel_rfl) (by kernel_rfl) (fun _ _ _ h => h) ?_ ?_ hHeld ?_; rotate_left 1; (· rfl); (· intro w' hSw; (try dsimp only at hSw); (try clear hHeld); go_simp; try with_reducible rfl)
                try simp only [Act.put, List.setIfInBounds_toArray, List.set_cons_zero, List.set_cons_succ]
                refine rg_yes (i := 6) (v := ?_) (atS (atS (atS (atS (atS (atS at0)))))) (by kernel_rfl) (by kernel_rfl) (by kernel_rfl) (fun _ _ _ h => h) ?_ ?_ hHeld ?_; rotate_left 1; (· rfl); (· intro w' hSw; (try dsimp only at hSw); have u3 := cell_below u3 hSw.1; (try clear hHeld); go_simp; try with_reducible rfl)
                try simp only [Act.put, List.setIfInBounds_toArray, List.set_cons_zero, List.set_cons_succ]
                refine rg_call (i := 7) (atS (atS (atS (atS (atS (atS (atS at0))))))) (by kernel_rfl) ?_ (fun K hK => ?_); (· rfl); (try clear hb); obtain ⟨x, y, hrow⟩ := hHeld.2; have q0 := row_cell hrow 0; have q1 := row_cell hrow 1; have g0 := row_free hrow 0; have g1 := row_free hrow 1; go_simp; go_wp2_with fail; refine hK.out _ _ ?_ (fun hHeld => ?_); (· exact ⟨(hHeld.1.setCell (by simp) _).setCell (by simp) _, hHeld.2.set _ _⟩); clear hK K
                try simp only [Act.put, List.setIfInBounds_toArray, List.set_cons_zero, List.set_cons_succ]
                refine rg_yes (i := 8) (v := ?_) (atS (atS (atS (atS (atS (atS (atS (atS at0)))))))) (by kernel_rfl) (by kernel_rfl) (by kernel_rfl) (fun _ _ _ h => h) ?_ ?_ hHeld ?_; rotate_left 1; (· rfl); (· intro w' hSw; (try dsimp only at hSw); (try clear hHeld); go_simp; try with_reducible rfl)
                try simp only [Act.put, List.setIfInBounds_toArray, List.set_cons_zero, List.set_cons_succ]
                refine rg_yes (i := 9) (v := ?_) (atS (atS (atS (atS (atS (atS (atS (atS (atS at0))))))))) (by kernel_rfl) (by kernel_rfl) (by kernel_rfl) (fun _ _ _ h => h) ?_ ?_ hHeld ?_; rotate_left 1; (· rfl); (· intro w' hSw; (try dsimp only at hSw); (try clear hHeld); go_simp; try with_reducible rfl)
                try simp only [Act.put, List.setIfInBounds_toArray, List.set_cons_zero, List.set_cons_succ]
                refine wpAnyH_done (by kernel_rfl) ?_ _
                go_wp2_with fail
                refine bodyPost_ret (v := .tuple #[.agg #[.int .u32 (keepI a (lj : Int)), .int .i64 (cl (lj : Int))], v, .bool true]) (by simp [results, Try.results22, go_sem, q0, q1]) rfl ⟨?_, hHeld.1⟩
                rw [CL.out]
                exact E2.out
              · (try clear hb); obtain ⟨x, y, hrow⟩ := hHeld.2; have q0 := row_cell hrow 0; have q1 := row_cell hrow 1; have g0 := row_free hrow 0; have g1 := row_free hrow 1; go_simp; go_wp2_with fail; refine hK.out _ _ ?_ (fun hHeld => ?_); (· exact ⟨(hHeld.1.setCell (by simp) _).setCell (by simp) _, hHeld.2.set _ _⟩); clear hK K
                try simp only [Act.put, List.setIfInBounds_toArray, List.set_cons_zero, List.set_cons_succ]
                refine rg_call (i := 4) (atS (atS (atS (atS at0)))) (by kernel_rfl) ?_ (fun K hK => ?_); (· rfl); (try clear hb); go_simp; go_wp2_with fail; refine hK.out _ _ ?_ (fun hHeld => ?_); (· exact hHeld); clear hK K
                try simp only [Act.put, List.setIfInBounds_toArray, List.set_cons_zero, List.set_cons_succ]
                refine rg_yes (i := 5) (v := ?_) (atS (atS (atS (atS (atS at0))))) (by kernel_rfl) (by kernel_rfl) (by kernel_rfl) (fun _ _ _ h => h) ?_ ?_ hHeld ?_; rotate_left 1; (· rfl); (· intro w' hSw; (try dsimp only at hSw); (try clear hHeld); go_simp; try with_reducible rfl)
                try simp only [Act.put, List.setIfInBounds_toArray, List.set_cons_zero, List.set_cons_succ]
                refine rg_yes (i := 6) (v := ?_) (atS (atS (atS (atS (atS (atS at0)))))) (by kernel_rfl) (by kernel_rfl) (by kernel_rfl) (fun _ _ _ h => h) ?_ ?_ hHeld ?_; rotate_left 1; (· rfl); (· intro w' hSw; (try dsimp only at hSw); have u3 := cell_below u3 hSw.1; (try clear hHeld); go_simp; try with_reducible rfl)
                try simp only [Act.put, List.setIfInBounds_toArray, List.set_cons_zero, List.set_cons_succ]
                refine rg_yes (i := 8) (v := ?_) (atS (atS (atS (atS (atS (atS (atS (atS at0)))))))) (by kernel_rfl) (by kernel_rfl) (by kernel_rfl) (fun _ _ _ h => h) ?_ ?_ hHeld ?_; rotate_left 1; (· rfl); (· intro w' hSw; (try dsimp only at hSw); (try clear hHeld); go_simp; try with_reducible rfl)
                try simp only [Act.put, List.setIfInBounds_toArray, List.set_cons_zero, List.set_cons_succ]
                refine rg_yes (i := 9) (v := ?_) (atS (atS (atS (atS (atS (atS (atS (atS (atS at0))))))))) (by kernel_rfl) (by kernel_rfl) (by kernel_rfl) (fun _ _ _ h => h) ?_ ?_ hHeld ?_; rotate_left 1; (· rfl); (· intro w' hSw; (try dsimp only at hSw); (try clear hHeld); go_simp; try with_reducible rfl)
                try simp only [Act.put, List.setIfInBounds_toArray, List.set_cons_zero, List.set_cons_succ]
                refine wpAnyH_done (by kernel_rfl) ?_ _
                go_wp2_with fail
                refine bodyPost_ret (v := .tuple #[.agg #[.int .u32 (keepI a (lj : Int)), .int .i64 (cl (lj : Int))], v, .bool true]) (by simp [results, Try.results22, go_sem, q0, q1]) rfl ⟨?_, hHeld.1⟩
                rw [CL.out]
                exact E2.out
            · (try clear hb); go_simp; go_wp2_with fail; refine hK.out _ _ ?_ (fun hHeld => ?_); (· exact hHeld); clear hK K
              try simp only [Act.put, List.setIfInBounds_toArray, List.set_cons_zero, List.set_cons_succ]
              refine rg_yes (i := 5) (v := ?_) (atS (atS (atS (atS (atS at0))))) (by kernel_rfl) (by kernel_rfl) (by kernel_rfl) (fun _ _ _ h => h) ?_ ?_ hHeld ?_; rotate_left 1; (· rfl); (· intro w' hSw; (try dsimp only at hSw); (try clear hHeld); go_simp; try with_reducible rfl)
              try simp only [Act.put, List.setIfInBounds_toArray, List.set_cons_zero, List.set_cons_succ]
              refine rg_yes (i := 6) (v := ?_) (atS (atS (atS (atS (atS (atS at0)))))) (by kernel_rfl) (by kernel_rfl) (by kernel_rfl) (fun _ _ _ h => h) ?_ ?_ hHeld ?_; rotate_left 1; (· rfl); (· intro w' hSw; (try dsimp only at hSw); have u3 := cell_below u3 hSw.1; (try clear hHeld); go_simp; try with_reducible rfl)
              try simp only [Act.put, List.setIfInBounds_toArray, List.set_cons_zero, List.set_cons_succ]
              refine rg_call (i := 2) (atS (atS at0)) (by kernel_rfl) ?_ (fun K hK => ?_); (· rfl); (try clear hb); go_simp; (refine (OF.out _).mono ?_; rintro e w1 ⟨rfl, hb⟩); go_wp2_with fail; refine hK.out _ _ ?_ (fun hHeld => ?_); (· exact ⟨hHeld.1.trans (hb.mono hHeld.1.size), hHeld.2.below hb⟩); clear hK K
              try simp only [Act.put, List.setIfInBounds_toArray, List.set_cons_zero, List.set_cons_succ]
              refine rg_call (i := 7) (atS (atS (atS (atS (atS (atS (atS at0))))))) (by kernel_rfl) ?_ (fun K hK => ?_); (· rfl); (try clear hb); obtain ⟨x, y, hrow⟩ := hHeld.2; have q0 := row_cell hrow 0; have q1 := row_cell hrow 1; have g0 := row_free hrow 0; have g1 := row_free hrow 1; go_simp; go_wp2_with fail; refine hK.out _ _ ?_ (fun hHeld => ?_); (· exact ⟨(hHeld.1.setCell (by simp) _).setCell (by simp) _, hHeld.2.set _ _⟩); clear hK K
              try simp only [Act.put, List.setIfInBounds_toArray, List.set_cons_zero, List.set_cons_succ]
              refine rg_yes (i := 8) (v := ?_) (atS (atS (atS (atS (atS (atS (atS (atS at0)))))))) (by kernel_rfl) (by kernel_rfl) (by kernel_rfl) (fun _ _ _ h => h) ?_ ?_ hHeld ?_; rotate_left 1; (· rfl); (· intro w' hSw; (try dsimp only at hSw); (try clear hHeld); go_simp; try with_reducible rfl)
              try simp only [Act.put, List.setIfInBounds_toArray, List.set_cons_zero, List.set_cons_succ]
              refine rg_yes (i := 9) (v := ?_) (atS (atS (atS (atS (atS (atS (atS (atS (atS at0))))))))) (by kernel_rfl) (by kernel_rfl) (by kernel_rfl) (fun _ _ _ h => h) ?_ ?_ hHeld ?_; rotate_left 1; (· rfl); (· intro w' hSw; (try dsimp only at hSw); (try clear hHeld); go_simp; try with_reducible rfl)
              try simp only [Act.put, List.setIfInBounds_toArray, List.set_cons_zero, List.set_cons_succ]
              refine wpAnyH_done (by kernel_rfl) ?_ _
              go_wp2_with fail
              refine bodyPost_ret (v := .tuple #[.agg #[.int .u32 (keepI a (lj : Int)), .int .i64 (cl (lj : Int))], v, .bool true]) (by simp [results, Try.results22, go_sem, q0, q1]) rfl ⟨?_, hHeld.1⟩
              rw [CL.out]
              exact E2.out
        | some v0 =>
          rw [hg] at d2
          replace d2 : wr.cell? ⟨bk, 2, none⟩ = some (.bool true) := d2
          have e1 : bst S a 33 = some 32 := by unfold bst; exact if_pos (by rw [hg]; rfl)
          have E := Lib.hid (fun v hv => longE_yes (v := v) e1 hv)
          have hb := hx
          clear hg hx BI d0 d1 e1 HX
          obtain ⟨lj, hlj2⟩ : ∃ lj : Nat, lj = 32 := ⟨_, rfl⟩
          obtain ⟨b, hb2⟩ : ∃ b, b = bk := ⟨_, rfl⟩
          subst hb2
          clear hlj2 lj
          obtain ⟨_, _, _, u3⟩ := H.out.ncells hb
          generalize hv : (getL S (keyN a 32)).getD zvI = v at u3
          have E2 := Lib.hid (E.out v hv)
          clear hv E hb
          have OF := Lib.hid (fun W => ip_Of (a : Int) (32 : Int) W (by omega) (by omega))
          have CL := Lib.hid (show cl (32 : Int) = (32 : Int) from cl_of _ (by omega) (by omega))
          go_wp2_with fail
          refine wp_region_held_drew (S := fun w' => Below w.heap.size w w' ∧ ResBox 31 w.heap.size w') (by kernel_rfl) ?_ (fun hHeld => ?_)
          · exact ⟨hBr.out.drew, RBr.out.below (Below.refl _ _).drew⟩
          refine rg_yes (i := 0) (v := ?_) at0 (by kernel_rfl) (by kernel_rfl) (by kernel_rfl) (fun _ _ _ h => h) ?_ ?_ hHeld ?_; rotate_left 1; (· rfl); (· intro w' hSw; (try dsimp only at hSw); (try clear hHeld); go_simp; try with_reducible rfl)
          try simp only [Act.put, List.setIfInBounds_toArray, List.set_cons_zero, List.set_cons_succ]
          refine rg_yes (i := 1) (v := ?_) (atS at0) (by kernel_rfl) (by kernel_rfl) (by kernel_rfl) (fun _ _ _ h => h) ?_ ?_ hHeld ?_; rotate_left 1; (· rfl); (· intro w' hSw; (try dsimp only at hSw); (try clear hHeld); go_simp; try with_reducible rfl)
          try simp only [Act.put, List.setIfInBounds_toArray, List.set_cons_zero, List.set_cons_succ]
          refine rg_yes (i := 3) (v := ?_) (atS (atS (atS at0))) (by kernel_rfl) (by kernel_rfl) (by kernel_rfl) (fun _ _ _ h => h) ?_ ?_ hHeld ?_; rotate_left 1; (· rfl); (· intro w' hSw; (try dsimp only at hSw); (try clear hHeld); go_simp; try with_reducible rfl)
          try simp only [Act.put, List.setIfInBounds_toArray, List.set_cons_zero, List.set_cons_succ]
          refine rg_call2 (i := 2) (j := 4) (atS (atS at0)) (atS (atS (atS (atS at0)))) (by kernel_rfl) ?_ ?_ (fun K hK => ?_) (fun K hK => ?_)
          · rfl
          · rfl
          · (try clear hb); go_simp; (refine (OF.out _).mono ?_; rintro e w1 ⟨rfl, hb⟩); go_wp2_with fail; refine hK.out _ _ ?_ (fun hHeld => ?_); (· exact ⟨hHeld.1.trans (hb.mono hHeld.1.size), hHeld.2.below hb⟩); clear hK K
            try simp only [Act.put, List.setIfInBounds_toArray, List.set_cons_zero, List.set_cons_succ]
            refine rg_call2 (i := 4) (j := 7) (atS (atS (atS (atS at0)))) (atS (atS (atS (atS (atS (atS (atS at0))))))) (by kernel_rfl) ?_ ?_ (fun K hK => ?_) (fun K hK => ?_)
            · rfl
            · rfl
            · (try clear hb); go_simp; go_wp2_with fail; refine hK.out _ _ ?_ (fun hHeld => ?_); (· exact hHeld); clear hK K
              try simp only [Act.put, List.setIfInBounds_toArray, List.set_cons_zero, List.set_cons_succ]
              refine rg_yes (i := 5) (v := ?_) (atS (atS (atS (atS (atS at0))))) (by kernel_rfl) (by kernel_rfl) (by kernel_rfl) (fun _ _ _ h => h) ?_ ?_ hHeld ?_; rotate_left 1; (· rfl); (· intro w' hSw; (try dsimp only at hSw); (try clear hHeld); go_simp; try with_reducible rfl)
              try simp only [Act.put, List.setIfInBounds_toArray, List.set_cons_zero, List.set_cons_succ]
              refine rg_yes (i := 6) (v := ?_) (atS (atS (atS (atS (atS (atS at0)))))) (by kernel_rfl) (by kernel_rfl) (by kernel_rfl) (fun _ _ _ h => h) ?_ ?_ hHeld ?_; rotate_left 1; (· rfl); (· intro w' hSw; (try dsimp only at hSw); have u3 := cell_below u3 hSw.1; (try clear hHeld); go_simp; try with_reducible rfl)
              try simp only [Act.put, List.setIfInBounds_toArray, List.set_cons_zero, List.set_cons_succ]
              refine rg_call (i := 7) (atS (atS (atS (atS (atS (atS (atS at0))))))) (by kernel_rfl) ?_ (fun K hK => ?_); (· rfl); (try clear hb); obtain ⟨x, y, hrow⟩ := hHeld.2; have q0 := row_cell hrow 0; have q1 := row_cell hrow 1; have g0 := row_free hrow 0; have g1 := row_free hrow 1; go_simp; go_wp2_with fail; refine hK.out _ _ ?_ (fun hHeld => ?_); (· exact ⟨(hHeld.1.setCell (by simp) _).setCell (by simp) _, hHeld.2.set _ _⟩); clear hK K
              try simp only [Act.put, List.setIfInBounds_toArray, List.set_cons_zero, List.set_cons_succ]
              refine rg_yes (i := 8) (v := ?_) (atS (atS (atS (atS (atS (atS (atS (atS at0)))))))) (by kernel_rfl) (by kernel_rfl) (by kernel_rfl) (fun _ _ _ h => h) ?_ ?_ hHeld ?_; rotate_left 1; (· rfl); (· intro w' hSw; (try dsimp only at hSw); (try clear hHeld); go_simp; try with_reducible rfl)
              try simp only [Act.put, List.setIfInBounds_toArray, List.set_cons_zero, List.set_cons_succ]
              refine rg_yes (i := 9) (v := ?_) (atS (atS (atS (atS (atS (atS (atS (atS (atS at0))))))))) (by kernel_rfl) (by kernel_rfl) (by kernel_rfl) (fun _ _ _ h => h) ?_ ?_ hHeld ?_; rotate_left 1; (· rfl); (· intro w' hSw; (try dsimp only at hSw); (try clear hHeld); go_simp; try with_reducible rfl)
              try simp only [Act.put, List.setIfInBounds_toArray, List.set_cons_zero, List.set_cons_succ]
              refine wpAnyH_done (by kernel_rfl) ?_ _
              go_wp2_with fail
              refine bodyPost_ret (v := .tuple #[.agg #[.int .u32 (keepI a (32 : Int)), .int .i64 (cl (32 : Int))], v, .bool true]) (by simp [results, Try.results22, go_sem, q0, q1]) rfl ⟨?_, hHeld.1⟩
              rw [CL.out]
              exact E2.out
            · (try clear hb); obtain ⟨x, y, hrow⟩ := hHeld.2; have q0 := row_cell hrow 0; have q1 := row_cell hrow 1; have g0 := row_free hrow 0; have g1 := row_free hrow 1; go_simp; go_wp2_with fail; refine hK.out _ _ ?_ (fun hHeld => ?_); (· exact ⟨(hHeld.1.setCell (by simp) _).setCell (by simp) _, hHeld.2.set _ _⟩); clear hK K
              try simp only [Act.put, List.setIfInBounds_toArray, List.set_cons_zero, List.set_cons_succ]
              refine rg_call (i := 4) (atS (atS (atS (atS at0)))) (by kernel_rfl) ?_ (fun K hK => ?_); (· rfl); (try clear hb); go_simp; go_wp2_with fail; refine hK.out _ _ ?_ (fun hHeld => ?_); (· exact hHeld); clear hK K
              try simp only [Act.put, List.setIfInBounds_toArray, List.set_cons_zero, List.set_cons_succ]
              refine rg_yes (i := 5) (v := ?_) (atS (atS (atS (atS (atS at0))))) (by kernel_rfl) (by kernel_rfl) (by kernel_rfl) (fun _ _ _ h => h) ?_ ?_ hHeld ?_; rotate_left 1; (· rfl); (· intro w' hSw; (try dsimp only at hSw); (try clear hHeld); go_simp; try with_reducible rfl)
              try simp only [Act.put, List.setIfInBounds_toArray, List.set_cons_zero, List.set_cons_succ]
              refine rg_yes (i := 6) (v := ?_) (atS (atS (atS (atS (atS (atS at0)))))) (by kernel_rfl) (by kernel_rfl) (by kernel_rfl) (fun _ _ _ h => h) ?_ ?_ hHeld ?_; rotate_left 1; (· rfl); (· intro w' hSw; (try dsimp only at hSw); have u3 := cell_below u3 hSw.1; (try clear hHeld); go_simp; try with_reducible rfl)
              try simp only [Act.put, List.setIfInBounds_toArray, List.set_cons_zero, List.set_cons_succ]
              refine rg_yes (i := 8) (v := ?_) (atS (atS (atS (atS (atS (atS (atS (atS at0)))))))) (by kernel_rfl) (by kernel_rfl) (by kernel_rfl) (fun _ _ _ h => h) ?_ ?_ hHeld ?_; rotate_left 1; (· rfl); (· intro w' hSw; (try dsimp only at hSw); (try clear hHeld); go_simp; try with_reducible rfl)
              try simp only [Act.put, List.setIfInBounds_toArray, List.set_cons_zero, List.set_cons_succ]
              refine rg_yes (i := 9) (v := ?_) (atS (atS (atS (atS (atS (atS (atS (atS (atS at0))))))))) (by kernel_rfl) (by kernel_rfl) (by kernel_rfl) (fun _ _ _ h => h) ?_ ?_ hHeld ?_; rotate_left 1; (· rfl); (· intro w' hSw; (try dsimp only at hSw); (try clear hHeld); go_simp; try with_reducible rfl)
              try simp only [Act.put, List.setIfInBounds_toArray, List.set_cons_zero, List.set_cons_succ]
              refine wpAnyH_done (by kernel_rfl) ?_ _
              go_wp2_with fail
              refine bodyPost_ret (v := .tuple #[.agg #[.int .u32 (keepI a (32 : Int)), .int .i64 (cl (32 : Int))], v, .bool true]) (by simp [results, Try.results22, go_sem, q0, q1]) rfl ⟨?_, hHeld.1⟩
              rw [CL.out]
              exact E2.out
          · (try clear hb); go_simp; go_wp2_with fail; refine hK.out _ _ ?_ (fun hHeld => ?_); (· exact hHeld); clear hK K
            try simp only [Act.put, List.setIfInBounds_toArray, List.set_cons_zero, List.set_cons_succ]
            refine rg_yes (i := 5) (v := ?_) (atS (atS (atS (atS (atS at0))))) (by kernel_rfl) (by kernel_rfl) (by kernel_rfl) (fun _ _ _ h => h) ?_ ?_ hHeld ?_; rotate_left 1; (· rfl); (· intro w' hSw; (try dsimp only at hSw); (try clear hHeld); go_simp; try with_reducible rfl)
            try simp only [Act.put, List.setIfInBounds_toArray, List.set_cons_zero, List.set_cons_succ]
            refine rg_yes (i := 6) (v := ?_) (atS (atS (atS (atS (atS (atS at0)))))) (by kernel_rfl) (by kernel_rfl) (by kernel_rfl) (fun _ _ _ h => h) ?_ ?_ hHeld ?_; rotate_left 1; (· rfl); (· intro w' hSw; (try dsimp only at hSw); have u3 := cell_below u3 hSw.1; (try clear hHeld); go_simp; try with_reducible rfl)
            try simp only [Act.put, List.setIfInBounds_toArray, List.set_cons_zero, List.set_cons_succ]
            refine rg_call (i := 2) (atS (atS at0)) (by kernel_rfl) ?_ (fun K hK => ?_); (· rfl); (try clear hb); go_simp; (refine (OF.out _).mono ?_; rintro e w1 ⟨rfl, hb⟩); go_wp2_with fail; refine hK.out _ _ ?_ (fun hHeld => ?_); (· exact ⟨hHeld.1.trans (hb.mono hHeld.1.size), hHeld.2.below hb⟩); clear hK K
            try simp only [Act.put, List.setIfInBounds_toArray, List.set_cons_zero, List.set_cons_succ]
            refine rg_call (i := 7) (atS (atS (atS (atS (atS (atS (atS at0))))))) (by kernel_rfl) ?_ (fun K hK => ?_); (· rfl); (try clear hb); obtain ⟨x, y, hrow⟩ := hHeld.2; have q0 := row_cell hrow 0; have q1 := row_cell hrow 1; have g0 := row_free hrow 0; have g1 := row_free hrow 1; go_simp; go_wp2_with fail; refine hK.out _ _ ?_ (fun hHeld => ?_); (· exact ⟨(hHeld.1.setCell (by simp) _).setCell (by simp) _, hHeld.2.set _ _⟩); clear hK K
            try simp only [Act.put, List.setIfInBounds_toArray, List.set_cons_zero, List.set_cons_succ]
            refine rg_yes (i := 8) (v := ?_) (atS (atS (atS (atS (atS (atS (atS (atS at0)))))))) (by kernel_rfl) (by kernel_rfl) (by kernel_rfl) (fun _ _ _ h => h) ?_ ?_ hHeld ?_; rotate_left 1; (· rfl); (· intro w' hSw; (try dsimp only at hSw); (try clear hHeld); go_simp; try with_reducible rfl)
            try simp only [Act.put, List.setIfInBounds_toArray, List.set_cons_zero, List.set_cons_succ]
            refine rg_yes (i := 9) (v := ?_) (atS (atS (atS (atS (atS (atS (atS (atS (atS at0))))))))) (by kernel_rfl) (by kernel_rfl) (by kernel_rfl) (fun _ _ _ h => h) ?_ ?_ hHeld ?_; rotate_left 1; (· rfl); (· intro w' hSw; (try dsimp only at hSw); (try clear hHeld); go_simp; try with_reducible rfl)
            try simp only [Act.put, List.setIfInBounds_toArray, List.set_cons_zero, List.set_cons_succ]
            refine wpAnyH_done (by kernel_rfl) ?_ _
            go_wp2_with fail
            refine bodyPost_ret (v := .tuple #[.agg #[.int .u32 (keepI a (32 : Int)), .int .i64 (cl (32 : Int))], v, .bool true]) (by simp [results, Try.results22, go_sem, q0, q1]) rfl ⟨?_, hHeld.1⟩
            rw [CL.out]
            exact E2.out
      · have hk31 : k < 32 := by omega
        have BQ' := Lib.hid (fun W => BQ.out W k hk31)
        have KS := Lib.hid (keyN_succ a k hk31)
        have z1 : ((k : Int) == 32) = false := by rw [beq_eq_false_iff_ne]; omega
        cases hg : getL S (keyN a k) with
        | none =>
          rw [hg] at d2
          replace d2 : wr.cell? ⟨bk, 2, none⟩ = some (.bool false) := d2
          have BI' := Lib.hid (BestIs.no hg BI.out)
          clear hg hx BI
          rcases Nat.mod_two_eq_zero_or_one (a / 2 ^ (31 - k)) with m | m
          · rw [m] at BQ' KS
            clear m
            go_wp2_with fail
            go_quiet ((go_at_call 46; exact Calls.quiet_of_same (BQ'.out _)))
            go_wp2_with fail
            exact ⟨⟨k + 1, bp, lj, by omega, by omega, by go_num, by rw [KS.out]; rfl, rfl, rfl, BI', Lib.hid (below_drewN HBr.out _)⟩, by simp [intOf]; omega⟩
          · rw [m] at BQ' KS
            clear m
            go_wp2_with fail
            go_quiet ((go_at_call 46; exact Calls.quiet_of_same (BQ'.out _)))
            go_wp2_with fail
            exact ⟨⟨k + 1, bp, lj, by omega, by omega, by go_num, by rw [KS.out], rfl, rfl, BI', Lib.hid (below_drewN HBr.out _)⟩, by simp [intOf]; omega⟩
        | some v0 =>
          rw [hg] at d2
          replace d2 : wr.cell? ⟨bk, 2, none⟩ = some (.bool true) := d2
          have BI' := Lib.hid (BestIs.yes (N := N) (S := S) (a := a) (k := k) (by rw [hg]; rfl) hx)
          clear hg hx BI
          rcases Nat.mod_two_eq_zero_or_one (a / 2 ^ (31 - k)) with m | m
          · rw [m] at BQ' KS
            clear m
            go_wp2_with fail
            go_quiet ((go_at_call 46; exact Calls.quiet_of_same (BQ'.out _)))
            go_wp2_with fail
            exact ⟨⟨k + 1, some bk, k, by omega, by omega, by go_num, by rw [KS.out]; rfl, rfl, rfl, BI', Lib.hid (below_drewN HBr.out _)⟩, by simp [intOf]; omega⟩
          · rw [m] at BQ' KS
            clear m
            go_wp2_with fail
            go_quiet ((go_at_call 46; exact Calls.quiet_of_same (BQ'.out _)))
            go_wp2_with fail
            exact ⟨⟨k + 1, some bk, k, by omega, by omega, by go_num, by rw [KS.out], rfl, rfl, BI', Lib.hid (below_drewN HBr.out _)⟩, by simp [intOf]; omega⟩
end Go.Proofs.Ytnklhfdhaclfiaa
