/-
  THE EXAMPLE OF THE LAWS ON TRIES; a trie of the law's own.
-/
import Derived.Test.YtnklhfdhaclfiaaTrB
import Derived.KernelRfl
namespace Go.Proofs.Ytnklhfdhaclfiaa
open Go.RowKit

/-- a trie of the call's own. -/
structure LSt (w W : World) (tb : Nat) (N : Nat → Option Nat) (S : List (Nat × Value)) (most : Int) : Prop where
  tri : TrI W tb N S most
  own : ∀ b, TOwn tb N b → w.heap.size ≤ b
  bel : Below w.heap.size w W
section
variable {w W W' : World} {tb : Nat} {N N' : Nat → Option Nat} {S : List (Nat × Value)} {most : Int}
theorem LSt.below (h : LSt w W tb N S most) (hb : Below W.heap.size W W') : LSt w W' tb N S most := ⟨h.tri.below hb, h.own, below_on h.bel hb⟩
theorem LSt.made (hB : Below w.heap.size w W) (h : TrI W' W.heap.size (fun _ => none) [] most) (hb : Below W.heap.size W W') : LSt w W' W.heap.size (fun _ => none) [] most :=
  ⟨h, fun b hb' => (by
    rcases hb' with rfl | ⟨k, hk⟩
    · exact hB.size
    · cases hk), below_on hB hb⟩
theorem LSt.kept {S' : List (Nat × Value)} (h : LSt w W tb N S most) (ht : TrI W' tb N' S' most) (hx : ∀ k b, N' k = some b → N k = some b ∨ W.heap.size ≤ b) (hk : Kept (TOwn tb N) W W') : LSt w W' tb N' S' most :=
  ⟨ht, fun b hb => by
    rcases hb with rfl | ⟨k, hk'⟩
    · exact h.own _ (.inl rfl)
    · rcases hx k b hk' with h1 | h1
      · exact h.own _ (.inr ⟨k, h1⟩)
      · exact Nat.le_trans h.bel.size h1,
   h.bel.trans (hk.below h.bel.size h.own)⟩
theorem TExt.not_own {B b : Nat} (h : TExt N N' B) (hb : b < B) (hn : ¬ TOwn tb N b) : ¬ TOwn tb N' b := by
  rintro (e | ⟨k, hk⟩)
  · exact hn (.inl e)
  · rcases h.2 k b hk with h1 | h1
    · exact hn (.inr ⟨k, h1⟩)
    · omega
theorem TSub.not_own {b : Nat} (h : TSub N N') (hn : ¬ TOwn tb N b) : ¬ TOwn tb N' b := by
  rintro (e | ⟨k, hk⟩)
  · exact hn (.inl e)
  · exact hn (.inr ⟨k, h k b hk⟩)
theorem PutPost.st {r : Int × List (Nat × Value)} {e : Ending} (h : LSt w W tb N S most) (hp : PutPost tb N most W r e W') : ∃ N', e = .returned (.int .i64 r.1) ∧ LSt w W' tb N' r.2 most ∧ TExt N N' W.heap.size ∧ Kept (TOwn tb N) W W' := by
  obtain ⟨N', h1, h2, h3, h4⟩ := hp
  exact ⟨N', h1, h.kept h2 h3.2 h4, h3, h4⟩
theorem DropPost.st {κ : Nat} {e : Ending} (h : LSt w W tb N S most) (hp : DropPost tb N S most W κ e W') : ∃ N', e = .returned (.bool (getL S κ).isSome) ∧ LSt w W' tb N' (delL S κ) most ∧ TSub N N' ∧ Kept (TOwn tb N) W W' := by
  obtain ⟨N', h1, h2, h3, h4⟩ := hp
  exact ⟨N', h1, h.kept h2 (fun k b hk => .inl (h3 k b hk)) h4, h3, h4⟩
end

set_option maxHeartbeats 1600000 in
set_option maxRecDepth 100000 in
theorem law_head (w : World) : Calls Try.prog 8 #[] w fun e w' => e = .returned (.bool true) ∧ Below w.heap.size w w' := by
  have P1 : Hid (∀ tb N W (h : TrI W tb N [] 9), Calls Try.prog 15 #[.pointer (some ⟨tb, 0, none⟩), .agg #[.int .u32 167772160, .int .i64 8], .int .i64 1] W (PutPost tb N 9 W (0, [(266, .int .i64 1)]))) := Lib.hid fun tb N W h => by
    have := trI_Put 167772160 8 1 W h (by decide) (by decide) (by decide +kernel)
    rw [show putR [] 9 (keyN 167772160 8) (.int .i64 1) = (0, [(266, .int .i64 1)]) by kernel_rfl] at this
    exact this
  have P2 : Hid (∀ tb N W (h : TrI W tb N [(266, .int .i64 1)] 9), Calls Try.prog 15 #[.pointer (some ⟨tb, 0, none⟩), .agg #[.int .u32 167837696, .int .i64 16], .int .i64 2] W (PutPost tb N 9 W (0, [(266, .int .i64 1), (68097, .int .i64 2)]))) := Lib.hid fun tb N W h => by
    have := trI_Put 167837696 16 2 W h (by decide) (by decide) (by decide +kernel)
    rw [show putR [(266, .int .i64 1)] 9 (keyN 167837696 16) (.int .i64 2) = (0, [(266, .int .i64 1), (68097, .int .i64 2)]) by kernel_rfl] at this
    exact this
  have L1 : Hid (∀ tb N W (h : TrI W tb N [(266, .int .i64 1), (68097, .int .i64 2)] 9), Calls Try.prog 22 #[.pointer (some ⟨tb, 0, none⟩), .int .u32 167838211] W fun e w' => e = .returned (.tuple #[.agg #[.int .u32 167837696, .int .i64 16], .int .i64 2, .bool true]) ∧ Below W.heap.size W w') := Lib.hid fun tb N W h => by
    have := trI_Longest 167838211 W h (by decide)
    rw [show longE [(266, .int .i64 1), (68097, .int .i64 2)] 167838211 = .returned (.tuple #[.agg #[.int .u32 167837696, .int .i64 16], .int .i64 2, .bool true]) by kernel_rfl] at this
    exact this
  have L2 : Hid (∀ tb N W (h : TrI W tb N [(266, .int .i64 1), (68097, .int .i64 2)] 9), Calls Try.prog 22 #[.pointer (some ⟨tb, 0, none⟩), .int .u32 167903232] W fun e w' => e = .returned (.tuple #[.agg #[.int .u32 167772160, .int .i64 8], .int .i64 1, .bool true]) ∧ Below W.heap.size W w') := Lib.hid fun tb N W h => by
    have := trI_Longest 167903232 W h (by decide)
    rw [show longE [(266, .int .i64 1), (68097, .int .i64 2)] 167903232 = .returned (.tuple #[.agg #[.int .u32 167772160, .int .i64 8], .int .i64 1, .bool true]) by kernel_rfl] at this
    exact this
  go_enter Try.func8, Try.ntmps8
  go_wp2_with fail
  refine (trI_New 9 _).mono ?_
  rintro e w1 ⟨rfl, T1, hb⟩
  have S1 := Lib.hid (LSt.made (Below.refl _ _) (show TrI w1 w.heap.size (fun _ => none) [] 9 from T1) hb)
  clear T1 hb
  generalize (fun _ => none : Nat → Option Nat) = N0 at S1
  generalize w.heap.size = tb at S1 ⊢
  go_upto_region 4 with (fail)
  obtain ⟨W2, hW2, a0, a1, b0, b1, hB2⟩ := box22 w1 (.int .u32 167772160) (.int .i64 8) (.int .u32 167837696) (.int .i64 16) 31 31
  rw [← hW2]; clear hW2
  have n1 : Hid (¬ TOwn tb N0 w1.heap.size ∧ ¬ TOwn tb N0 (w1.heap.size + 1)) := Lib.hid ⟨fun h => by have := S1.out.tri.own_lt h; omega, fun h => by have := S1.out.tri.own_lt h; omega⟩
  have S2 := Lib.hid (S1.out.below hB2)
  clear S1 hB2
  go_wp2_with fail
  refine (P1.out _ _ _ S2.out.tri).mono ?_
  intro e w3 hp
  obtain ⟨N3, rfl, S3, X3, K3⟩ := hp.st S2.out
  have n3 : Hid (¬ TOwn tb N3 w1.heap.size ∧ ¬ TOwn tb N3 (w1.heap.size + 1)) := Lib.hid ⟨X3.not_own (size_lt a0) n1.out.1, X3.not_own (size_lt b0) n1.out.2⟩
  have a0 := K3.cell a0 n1.out.1
  have a1 := K3.cell a1 n1.out.1
  have b0 := K3.cell b0 n1.out.2
  have b1 := K3.cell b1 n1.out.2
  have S3 := Lib.hid S3
  clear X3 K3 n1 S2 hp
  go_wp2_with fail
  refine (P2.out _ _ _ S3.out.tri).mono ?_
  intro e w4 hp
  obtain ⟨N4, rfl, S4, X4, K4⟩ := hp.st S3.out
  have a0 := K4.cell a0 n3.out.1
  have a1 := K4.cell a1 n3.out.1
  have b0 := K4.cell b0 n3.out.2
  have b1 := K4.cell b1 n3.out.2
  have S4 := Lib.hid S4
  clear X4 K4 n3 S3 hp
  go_wp2_with fail
  refine (L1.out _ _ _ S4.out.tri).mono ?_
  rintro e w5 ⟨rfl, hb⟩
  have S5 := Lib.hid (S4.out.below hb)
  have a0 := cell_below a0 hb
  have a1 := cell_below a1 hb
  have b0 := cell_below b0 hb
  have b1 := cell_below b1 hb
  clear hb S4
  go_upto_region 7 with (fail)
  obtain ⟨W6, hW6, c0, c1, hb⟩ := box2 w5 (.int .u32 167837696) (.int .i64 16) 31
  rw [← hW6]; clear hW6
  have S6 := Lib.hid (S5.out.below hb)
  have a0 := cell_below a0 hb
  have a1 := cell_below a1 hb
  have b0 := cell_below b0 hb
  have b1 := cell_below b1 hb
  clear hb S5
  go_wp2_with fail
  refine (L2.out _ _ _ S6.out.tri).mono ?_
  rintro e w7 ⟨rfl, hb⟩
  have S7 := Lib.hid (S6.out.below hb)
  have a0 := cell_below a0 hb
  have a1 := cell_below a1 hb
  have b0 := cell_below b0 hb
  have b1 := cell_below b1 hb
  have c0 := cell_below c0 hb
  have c1 := cell_below c1 hb
  clear hb S6
  go_upto_region 8 with (fail)
  obtain ⟨W8, hW8, d0, d1, hb⟩ := box2 w7 (.int .u32 167772160) (.int .i64 8) 31
  rw [← hW8]; clear hW8
  have S8 := Lib.hid (S7.out.below hb)
  have a0 := cell_below a0 hb
  have a1 := cell_below a1 hb
  have b0 := cell_below b0 hb
  have b1 := cell_below b1 hb
  have c0 := cell_below c0 hb
  have c1 := cell_below c1 hb
  clear hb S7
  go_wp2_with fail
  refine (trI_Len S8.out.tri).mono ?_
  rintro e w9 ⟨rfl, rfl⟩
  go_wp2_with fail
  go_ret
  exact ⟨rfl, S8.out.bel⟩
end Go.Proofs.Ytnklhfdhaclfiaa
