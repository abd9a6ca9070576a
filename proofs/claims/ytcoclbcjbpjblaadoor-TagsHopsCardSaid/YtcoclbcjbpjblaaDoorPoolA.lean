/-
  WHAT A POOL ANSWERS: New, Len, Uses, Key; and all of a pool that is none.
-/
import Derived.Test.YtcoclbcjbpjblaaDoorPool
namespace Go.Proofs.YtcoclbcjbpjblaaDoor
open Go.RowKit
abbrev pt (g : Nat) : Value := .pointer (some ⟨g, 0, none⟩)
theorem pool_Len {W : World} {g a b : Nat} {p : Pl} (h : PoolAt W g a b p) : Calls Tryd.prog 12 #[pt g] W fun e w' => e = .returned (.int .i64 p.hd.length) ∧ W = w' := by
  obtain ⟨c0, c1, c2⟩ := h.cell
  have hl := fun ty => h.hd.len (P := Tryd.prog) Tryd.underlying49 ty W rfl
  go_enter Tryd.func12, Tryd.ntmps12
  go_wp2
  go_ret
  exact ⟨rfl, rfl⟩
theorem pool_New_ok (n : Int) (h0 : 0 ≤ n) (h1 : n ≤ 256) (W : World) : Calls Tryd.prog 9 #[.int .i64 n] W fun e w' => ∃ g a b, e = .returned (.tuple #[pt g, .int .i64 0]) ∧ PoolAt w' g a b ⟨n, [], []⟩ ∧ W.heap.size ≤ g ∧ W.heap.size ≤ a ∧ W.heap.size ≤ b ∧ Below W.heap.size W w' := by
  have hmm := @run_makeMap Tryd.prog
  go_enter Tryd.func9, Tryd.ntmps9
  go_wp2
  refine bodyPost_ret (v := .tuple #[pt (W.heap.size + 1 + 1), .int .i64 0]) (by simp [results, Tryd.results9, go_sem]) rfl ⟨_, W.heap.size, W.heap.size + 1, rfl, ⟨?_, ?_, ?_, by omega⟩, by omega, by omega, by omega, (((Below.refl _ _).alloc (Nat.le_refl _) _).alloc (by simp) _).alloc (by simp; omega) _⟩
  · simpa using heap_alloc_new ((W.alloc (.map #[] 0)).alloc (.map #[] 0)) (.cells #[.int .i64 n, .map (some W.heap.size), .map (some (W.heap.size + 1))] 51)
  · have h1 := MapT.made (ek := kyV) (ev := nV) (ok := KyOk) W
    exact (h1.below ((Below.refl _ _).alloc (Nat.le_refl _) _)).below ((Below.refl _ _).alloc (Nat.le_refl _) _)
  · have h1 := MapT.made (ek := nV) (ev := slV) (ok := I64) (W.alloc (.map #[] 0))
    have h2 := h1.below ((Below.refl _ _).alloc (Nat.le_refl _) (.cells #[.int .i64 n, .map (some W.heap.size), .map (some (W.heap.size + 1))] 51))
    simpa using h2
theorem pool_New_no (n : Int) (h : n < 0 ∨ 256 < n) (W : World) : Calls Tryd.prog 9 #[.int .i64 n] W fun e w' => e = .returned (.tuple #[.pointer none, .int .i64 1]) ∧ W = w' := by
  rcases h with h | h
  · go_enter Tryd.func9, Tryd.ntmps9
    go_wp2
    go_ret2
    exact ⟨rfl, rfl⟩
  · have h' : ¬ n < 0 := by omega
    go_enter Tryd.func9, Tryd.ntmps9
    go_wp2
    go_ret2
    exact ⟨rfl, rfl⟩
theorem pool_Give_no {W : World} {g a b : Nat} {p : Pl} (h : PoolAt W g a b p) (t : Int) (ht : I64 t) (hu : ((getL p.hd t).getD ((0, 0, 0), 0)).2 = 0) : Calls Tryd.prog 11 #[pt g, .int .i64 t] W fun e w' => e = .returned (.int .i64 4) ∧ Below W.heap.size W w' := by
  obtain ⟨c0, c1, c2⟩ := h.cell
  have hl := h.hd.look int_enc Tryd.underlying49 t ht zero_held W rfl false
  obtain ⟨k1, k2, k3, hs⟩ : ∃ k1 k2 k3, (getL p.hd t).getD ((0, 0, 0), 0) = ((k1, k2, k3), 0) := by
    generalize (getL p.hd t).getD ((0, 0, 0), 0) = s at hu
    obtain ⟨⟨k1, k2, k3⟩, u⟩ := s
    simp at hu
    exact ⟨k1, k2, k3, by rw [hu]⟩
  have hs2 : ((getL p.hd t).map slV).getD (slV ((0, 0, 0), 0)) = slV ((k1, k2, k3), 0) := by rw [← hs]; cases getL p.hd t <;> rfl
  rw [hs2] at hl
  simp only [Bool.false_eq_true, if_false, slV, slC, nV] at hl
  clear hs hs2 hu
  go_enter Tryd.func11, Tryd.ntmps11
  go_wp2
  go_ret
  exact ⟨rfl, (Below.refl _ _).alloc (Nat.le_refl _) _⟩
theorem pool_Give_yes {W : World} {g a b : Nat} {p : Pl} (h : PoolAt W g a b p) (t : Int) (ht : I64 t) (k : Ky) (u : Int) (hg : getL p.hd t = some (k, u)) (hu : 1 ≤ u) (hu2 : u ≤ 4611686018427387904) (hroom : p.hd.length < maxLen) : Calls Tryd.prog 11 #[pt g, .int .i64 t] W fun e w' => e = .returned (.int .i64 0) ∧ PoolAt w' g a b { p with hd := putL p.hd t (k, u - 1) } ∧ Kept (Of2 a b) W w' := by
  obtain ⟨c0, c1, c2⟩ := h.cell
  have hg2 := h.lt
  obtain ⟨k1, k2, k3⟩ := k
  have hl := h.hd.look int_enc Tryd.underlying49 t ht zero_held W rfl false
  have hB : Below W.heap.size W (W.alloc (.cells #[.int .i64 k1, .int .i64 k2, .int .i64 k3, .int .i64 (u - 1)] 53)) := (Below.refl _ _).alloc (Nat.le_refl _) _
  obtain ⟨o, hs, hm⟩ := h.hd.store int_enc Tryd.underlying49 t ht ((k1, k2, k3), u - 1) hroom (W.alloc (.cells #[.int .i64 k1, .int .i64 k2, .int .i64 k3, .int .i64 (u - 1)] 53)).drew (hB.block b h.hd.lt)
  rw [hg] at hl
  simp only [Bool.false_eq_true, if_false, Option.map_some, Option.getD_some, slV, slC, nV] at hl hs
  clear hg
  go_enter Tryd.func11, Tryd.ntmps11
  go_wp2
  refine region_tail 6 (by kernel_rfl) (by kernel_rfl) ?_
  simp only [List.take_succ_cons, List.take_zero, List.drop_succ_cons, List.drop_zero]
  repeat still_step
  refine wpStill_nil ?_
  go_wp2
  go_ret
  exact ⟨rfl, pool_hd h hB.drew hm⟩
end Go.Proofs.YtcoclbcjbpjblaaDoor
