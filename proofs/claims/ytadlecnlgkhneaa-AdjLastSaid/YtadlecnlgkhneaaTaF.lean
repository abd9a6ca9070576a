/-
  A TRIE OF ATTRIBUTES: New, Len, find.
-/
import Derived.Test.YtadlecnlgkhneaaTaS
import Derived.Test.YtadlecnlgkhneaaIpWalk
import Derived.LoopTactic
import Derived.Deep.QuietTactic
import Derived.BigQuiet
import Derived.LoopN
namespace Go.Proofs.Ytadlecnlgkhneaa
open Go.RowKit

abbrev TrI := TrieAt 112 122 av0
theorem below_drewN {B : Nat} {a w : World} (h : Below B a w) (n : Nat) : Below B a (w.drewN n) := h.trans ⟨rfl, rfl, rfl, Nat.le_refl _, fun _ _ => rfl⟩
theorem trI_made (w : World) (most : Int) : TrI (w.alloc (.cells #[.pointer none, .int .i64 most, .int .i64 0] 112)) w.heap.size (fun _ => none) [] most :=
  ⟨heap_alloc_new w _, fun _ _ h => (by cases h), fun _ _ _ h => (by cases h), fun _ h => (by cases h), fun _ _ h => (by cases h), rfl, fun _ h => absurd h (by simp), fun _ _ => rfl, by simp [KeysApart]⟩

set_option maxHeartbeats 400000 in
theorem trI_New (n : Int) (w : World) : Calls Try.prog 24 #[.int .i64 n] w fun e w' => e = .returned (.pointer (some ⟨w.heap.size, 0, none⟩)) ∧ TrI w' w.heap.size (fun _ => none) [] (min (max n 0) 4096) ∧ Below w.heap.size w w' := by
  have E : Hid (∀ m, m = min (max n 0) 4096 → TrI (w.alloc (.cells #[.pointer none, .int .i64 m, .int .i64 0] 112)) w.heap.size (fun _ => none) [] (min (max n 0) 4096)) := Lib.hid fun m hm => by rw [← hm]; exact trI_made w m
  go_enter Try.func24, Try.ntmps24
  go_wp2_with fail
  all_goals
    go_ret
    exact ⟨rfl, E.out _ (by omega), (Below.refl _ _).alloc (Nat.le_refl _) _⟩

set_option maxHeartbeats 400000 in
theorem trI_Len {tb : Nat} {N : Nat → Option Nat} {S : List (Nat × AV)} {most : Int} {w : World} (h : TrI w tb N S most) : Calls Try.prog 29 #[.pointer (some ⟨tb, 0, none⟩)] w fun e w' => e = .returned (.int .i64 S.length) ∧ w = w' := by
  obtain ⟨c0, c1, c2⟩ := h.cells
  clear h
  go_enter Try.func29, Try.ntmps29
  go_wp2_with fail
  go_ret
  exact ⟨rfl, rfl⟩
set_option maxHeartbeats 400000 in
theorem trI_Len_nil (w : World) : Calls Try.prog 29 #[.pointer none] w fun e w' => e = .returned (.int .i64 0) ∧ w = w' := by
  go_enter Try.func29, Try.ntmps29
  go_wp2_with fail
  go_ret
  exact ⟨rfl, rfl⟩

set_option maxHeartbeats 400000 in
theorem trI_find_nil (a n : Int) (w : World) : Calls Try.prog 59 #[.pointer none, .agg #[.int .u32 a, .int .i64 n]] w fun e w' => e = .returned (.pointer none) ∧ Below w.heap.size w w' := by
  go_enter Try.func59, Try.ntmps59
  go_wp2_with fail
  go_ret
  exact ⟨rfl, (Below.refl _ _).alloc (Nat.le_refl _) _⟩
set_option maxHeartbeats 400000 in
theorem trI_find_no (p : Addr) (a n : Int) (w : World) (h0 : 0 ≤ a) (h : a < 4294967296) (hR : rightB a n = false) : Calls Try.prog 59 #[.pointer (some p), .agg #[.int .u32 a, .int .i64 n]] w fun e w' => e = .returned (.pointer none) ∧ Below w.heap.size w w' := by
  go_enter Try.func59, Try.ntmps59
  go_wp2_with fail
  obtain ⟨W0, hW0, c0, c1, hB⟩ := box2 w (.int .u32 a) (.int .i64 n) 29
  rw [← hW0]; clear hW0
  refine (ip_Check a n W0 h0 h).mono ?_
  rintro e w1 ⟨rfl, hb⟩
  have hB := below_on hB hb
  rw [hR]
  go_wp2_with fail
  go_ret
  exact ⟨rfl, hB⟩
theorem bit_q (a i : Nat) (ha : a < 4294967296) (hi : i < 32) (w : World) : Calls Try.prog 60 #[.int .u32 a, .int .i64 i] w fun e w' => e = .returned (.int .i64 (a / 2 ^ (31 - i) % 2 : Nat)) ∧ w' = w := by
  refine (ip_Bit a i w (by omega) (by omega)).mono ?_
  rintro e w' ⟨rfl, rfl⟩
  rw [bit_key a i hi]
  exact ⟨rfl, rfl⟩

set_option maxHeartbeats 1600000 in
set_option maxRecDepth 100000 in
theorem trI_find {tb : Nat} {N : Nat → Option Nat} {S : List (Nat × AV)} {most : Int} (a n : Nat) (w : World) (h : TrI w tb N S most) (ha : a < 4294967296) (hR : rightB a n = true) :
    Calls Try.prog 59 #[.pointer (some ⟨tb, 0, none⟩), .agg #[.int .u32 a, .int .i64 n]] w fun e w' => e = .returned (ptrN (N (keyN a n))) ∧ Below w.heap.size w w' := by
  have hn : n ≤ 32 := by have := (rightB_range hR).2; omega
  have CK := ip_Check a n (h0 := by omega) (h := by omega)
  have H := Lib.hid h
  have K0 := Lib.hid (keyN_0 a ha)
  clear h
  go_enter Try.func59, Try.ntmps59
  go_wp2_with fail
  obtain ⟨W0, hW0, c0, c1, hB⟩ := box2 w (.int .u32 a) (.int .i64 n) 29
  rw [← hW0]; clear hW0
  refine (CK W0).mono ?_
  rintro e w1 ⟨rfl, hb⟩
  have c0 := cell_below c0 hb
  have c1 := cell_below c1 hb
  have hB := below_on hB hb
  have H1 := Lib.hid (H.out.below hB)
  have t0 := H1.out.cells.1
  clear hb CK
  rw [hR]
  go_wp2_with fail
  clear t0
  go_loopw [5, 6] (fun x i wr => ∃ k : Nat, k ≤ n ∧ i = .int .i64 k ∧ x = ptrN (N (keyN a k)) ∧ Below w1.heap.size w1 wr) (fun _ i _ => n - (intOf i).toNat)
  case atStart => exact ⟨0, by omega, rfl, by rw [K0.out], Below.refl _ _⟩
  case round =>
    obtain ⟨k, hk, rfl, rfl, hbr⟩ := hrel
    have c0 := cell_below c0 hbr
    have c1 := cell_below c1 hbr
    have hBr := below_on hB hbr
    have Hr := Lib.hid (H1.out.below hbr)
    by_cases hlt : k < n
    · cases hx : N (keyN a k) with
      | none =>
        have E : Hid (N (keyN a n) = none) := Lib.hid (by
          have aux : ∀ d, k + d ≤ n → N (keyN a (k + d)) = none := by
            intro d
            induction d with
            | zero => intro _; exact hx
            | succ d ih =>
              intro hd
              have h1 := ih (by omega)
              rw [show k + (d + 1) = (k + d) + 1 by omega, keyN_succ a (k + d) (by omega)]
              obtain ⟨u1, u2⟩ := Hr.out.up_none h1 (keyN_pos a _)
              rcases Nat.mod_two_eq_zero_or_one (a / 2 ^ (31 - (k + d))) with m | m
              · rw [m]; exact u1
              · rw [m]; exact u2
          have := aux (n - k) (by omega)
          rwa [show k + (n - k) = n by omega] at this)
        clear hx
        go_wp2_with fail
        go_ret
        exact ⟨by rw [E.out]; rfl, hBr⟩
      | some b =>
        obtain ⟨d0, d1, _⟩ := Hr.out.ncells hx
        have hbit := Nat.mod_two_eq_zero_or_one (a / 2 ^ (31 - k))
        have KS := keyN_succ a k (by omega)
        have BQ := fun W => bit_q a k ha (by omega) W
        clear hx
        rw [ptrN_some]
        rcases hbit with m | m
        · rw [m] at KS BQ
          have KS := Lib.hid KS
          have BQ := Lib.hid BQ
          clear m
          go_wp2_with fail
          go_quiet ((go_at_call 60; exact Calls.quiet_of_same (BQ.out _)))
          go_wp2_with fail
          exact ⟨⟨k + 1, by omega, by go_num, by rw [KS.out]; rfl, below_drewN hbr _⟩, by simp [intOf]; omega⟩
        · rw [m] at KS BQ
          have KS := Lib.hid KS
          have BQ := Lib.hid BQ
          clear m
          go_wp2_with fail
          go_quiet ((go_at_call 60; exact Calls.quiet_of_same (BQ.out _)))
          go_wp2_with fail
          exact ⟨⟨k + 1, by omega, by go_num, by rw [KS.out], below_drewN hbr _⟩, by simp [intOf]; omega⟩
    · obtain rfl : k = n := by omega
      go_wp2_with fail
      go_ret
      exact ⟨rfl, hBr⟩
end Go.Proofs.Ytadlecnlgkhneaa
