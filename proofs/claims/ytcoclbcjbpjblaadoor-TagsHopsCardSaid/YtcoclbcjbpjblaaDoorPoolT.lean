/-
  TAKE: a key that has a tag; one that has none and gets the least; none is left.
-/
import Derived.Test.YtcoclbcjbpjblaaDoorPoolA
import Derived.Deep.QuietTactic
import Derived.BigQuiet
namespace Go.Proofs.YtcoclbcjbpjblaaDoor
open Go.RowKit
theorem pool_Take_had {W : World} {g a b : Nat} {p : Pl} (h : PoolAt W g a b p) (k : Ky) (hk : KyOk k) (t : Int) (ht : I64 t) (u : Int) (ht1 : getL p.tg k = some t) (hg : getL p.hd t = some (k, u)) (hu : 0 ≤ u) (hu2 : u ≤ 4611686018427387904) (hroom : p.hd.length < maxLen) :
    Calls Tryd.prog 10 #[pt g, kyV k] W fun e w' => e = .returned (.tuple #[.int .i64 t, .int .i64 0]) ∧ PoolAt w' g a b { p with hd := putL p.hd t (k, u + 1) } ∧ Kept (Of2 a b) W w' := by
  obtain ⟨k1, k2, k3⟩ := k
  obtain ⟨W0, hW0, ⟨d0, d1, d2⟩, hB⟩ := boxK W (k1, k2, k3)
  have h0 := h.below hB
  obtain ⟨c0, c1, c2⟩ := h0.cell
  have hl := fun nq => h0.tg.look key_enc Tryd.underlying48 (k1, k2, k3) hk zero_int (W0.drewN nq) rfl true
  rw [ht1] at hl
  simp only [if_true, Option.map_some, Option.getD_some, nV, Option.isSome_some] at hl
  clear ht1
  go_enter Tryd.func10, Tryd.ntmps10
  go_wp2_with fail
  rw [← hW0]
  clear hW0
  go_quiet (fail)
  have hB1 : Below W0.heap.size W0 (W0.drewN nq) := ⟨rfl, rfl, rfl, Nat.le_refl _, fun _ _ => rfl⟩
  generalize W0.drewN nq = W1 at hB1 ⊢
  replace hB := below_on hB hB1
  replace h0 := h0.below hB1
  replace d0 := cell_below d0 hB1
  replace d1 := cell_below d1 hB1
  replace d2 := cell_below d2 hB1
  clear c0 c1 c2 hl hB1
  obtain ⟨c0, c1, c2⟩ := h0.cell
  have hl := h0.hd.look int_enc Tryd.underlying49 t ht zero_held W1.drew rfl false
  rw [hg] at hl
  obtain ⟨o, hs, hm⟩ := h0.hd.store int_enc Tryd.underlying49 t ht ((k1, k2, k3), u + 1) hroom W1.drew rfl
  simp only [Bool.false_eq_true, if_false, Option.map_some, Option.getD_some, slV, slC, nV] at hl hs
  have hw := IntWalk.i64_in (u + 1) (by omega)
  clear hg
  go_wp2_with fail
  refine region_tail 15 (by kernel_rfl) (by kernel_rfl) ?_
  simp only [List.take_succ_cons, List.take_zero, List.drop_succ_cons, List.drop_zero]
  repeat still_step
  refine wpStill_nil ?_
  go_wp2
  go_ret2
  exact ⟨rfl, pool_hd h hB.drew hm⟩
theorem pool_Take_new {W : World} {g a b : Nat} {p : Pl} (h : PoolAt W g a b p) (k : Ky) (hk : KyOk k) (ho1 : p.tg.length < maxLen) (ho2 : p.hd.length < maxLen) (n : Nat) (hn : p.most = n) (hn2 : n ≤ 256) (ht1 : getL p.tg k = none) (t0 : Nat) (ht0 : t0 < n) (hfree : getL p.hd t0 = none) (hall : ∀ j : Nat, j < t0 → (getL p.hd j).isSome = true) :
    Calls Tryd.prog 10 #[pt g, kyV k] W fun e w' => e = .returned (.tuple #[.int .i64 t0, .int .i64 0]) ∧ PoolAt w' g a b { p with tg := putL p.tg k t0, hd := putL p.hd t0 (k, 1) } ∧ Kept (Of2 a b) W w' := by
  obtain ⟨k1, k2, k3⟩ := k
  obtain ⟨W0, hW0, ⟨d0, d1, d2⟩, hB⟩ := boxK W (k1, k2, k3)
  have h0 := h.below hB
  obtain ⟨c0, c1, c2⟩ := h0.cell
  rw [hn] at c0
  have hl := fun nq => h0.tg.look key_enc Tryd.underlying48 (k1, k2, k3) hk zero_int (W0.drewN nq) rfl true
  rw [ht1] at hl
  simp only [if_true, Option.map_none, Option.getD_none, nV, Option.isSome_none] at hl
  have HT1 := Lib.hid ht1
  have HN := Lib.hid hn
  clear ht1 hn
  go_enter Tryd.func10, Tryd.ntmps10
  go_wp2_with fail
  rw [← hW0]
  clear hW0
  go_quiet (fail)
  have hB1 : Below W0.heap.size W0 (W0.drewN nq) := ⟨rfl, rfl, rfl, Nat.le_refl _, fun _ _ => rfl⟩
  generalize W0.drewN nq = W1 at hB1 ⊢
  replace hB := below_on hB hB1
  replace h0 := h0.below hB1
  replace d0 := cell_below d0 hB1
  replace d1 := cell_below d1 hB1
  replace d2 := cell_below d2 hB1
  clear c1 c2 hl
  replace c0 := cell_below c0 hB1
  clear hB1
  go_wp2_with fail
  have D0 := Lib.hid (⟨hB, h0, d0, d1, d2⟩ : Below W.heap.size W W1 ∧ PoolAt W1 g a b p ∧ W1.cell? ⟨W.heap.size, 0, none⟩ = some (.int .i64 k1) ∧ W1.cell? ⟨W.heap.size, 1, none⟩ = some (.int .i64 k2) ∧ W1.cell? ⟨W.heap.size, 2, none⟩ = some (.int .i64 k3))
  clear hB h0 d0 d1 d2 c0
  go_loopw [43] (fun t wr => ∃ j : Nat, j ≤ t0 ∧ t = .int .i64 j ∧ (Below W.heap.size W wr ∧ PoolAt wr g a b p ∧ wr.cell? ⟨W.heap.size, 0, none⟩ = some (.int .i64 k1) ∧ wr.cell? ⟨W.heap.size, 1, none⟩ = some (.int .i64 k2) ∧ wr.cell? ⟨W.heap.size, 2, none⟩ = some (.int .i64 k3))) (fun t _ => n - (intOf t).toNat)
  case atStart => exact ⟨0, by omega, rfl, D0.out⟩
  case round =>
    obtain ⟨j, hj, rfl, hD⟩ := hrel
    clear D0
    obtain ⟨hB, h0, d0, d1, d2⟩ := hD
    obtain ⟨c0, c1, c2⟩ := h0.cell
    clear c0
    have hlt := h0.lt
    have hl := h0.hd.look int_enc Tryd.underlying49 j (by unfold I64; omega) zero_held wr rfl true
    have hw : IntKind.i64.wrap ((j : Int) + 1) = ((j + 1 : Nat) : Int) := by rw [IntWalk.i64_in _ (by omega)]; omega
    rcases Nat.lt_or_ge j t0 with hjt | hjt
    · obtain ⟨⟨⟨x1, x2, x3⟩, x4⟩, hs⟩ := Option.isSome_iff_exists.1 (hall j hjt)
      rw [hs] at hl
      simp only [if_true, Option.map_some, Option.getD_some, slV, slC, nV, Option.isSome_some] at hl
      clear hs
      have hjn : (j : Int) < n := by omega
      go_wp2
      have hb : Below wr.heap.size wr (wr.alloc (.cells #[.int .i64 x1, .int .i64 x2, .int .i64 x3, .int .i64 x4] 53)) := (Below.refl _ _).alloc (Nat.le_refl _) _
      exact ⟨⟨j + 1, by omega, by simp, below_on hB hb, h0.below hb, cell_below d0 hb, cell_below d1 hb, cell_below d2 hb⟩, by simp [intOf]; omega⟩
    · obtain rfl : t0 = j := by omega
      rw [hfree] at hl
      simp only [if_true, Option.map_none, Option.getD_none, slV, slC, nV, Option.isSome_none] at hl
      have hjn : (t0 : Int) < n := by omega
      go_wp2_with fail
      have hb : Below wr.heap.size wr (wr.alloc (.cells #[.int .i64 0, .int .i64 0, .int .i64 0, .int .i64 0] 53)) := (Below.refl _ _).alloc (Nat.le_refl _) _
      generalize wr.alloc (.cells #[.int .i64 0, .int .i64 0, .int .i64 0, .int .i64 0] 53) = W2 at hb ⊢
      replace hB := below_on hB hb
      replace h0 := h0.below hb
      replace d0 := cell_below d0 hb
      replace d1 := cell_below d1 hb
      replace d2 := cell_below d2 hb
      clear c1 c2 hl hlt hb
      obtain ⟨c0, c1, c2⟩ := h0.cell
      obtain ⟨o1, hs1, hm1⟩ := h0.tg.store key_enc Tryd.underlying48 (k1, k2, k3) hk (t0 : Int) ho1 W2.drew rfl
      simp only [nV] at hs1
      refine region_tail 6 (by kernel_rfl) (by kernel_rfl) ?_
      simp only [List.take_succ_cons, List.take_zero, List.drop_succ_cons, List.drop_zero]
      repeat still_step
      refine wpStill_nil ?_
      go_wp2_with fail
      obtain ⟨hp, hkp⟩ := pool_tg h0 (below_same W2).drew hm1
      have hof : ¬ Of2 a b W.heap.size := by
        have l1 := h.tg.lt
        have l2 := h.hd.lt
        rintro (e | e) <;> omega
      have hkw : Kept (Of2 a b) W (ChangeMaps.setBlock W2.drew a o1) := (Kept.of_below hB).trans hkp
      replace d0 := hkp.cell d0 hof
      replace d1 := hkp.cell d1 hof
      replace d2 := hkp.cell d2 hof
      clear c0 c1 c2 hs1 hm1 hkp hB h0
      generalize ChangeMaps.setBlock W2.drew a o1 = W3 at hp hkw d0 d1 d2 ⊢
      obtain ⟨c0, c1, c2⟩ := hp.cell
      obtain ⟨o2, hs2, hm2⟩ := hp.hd.store int_enc Tryd.underlying49 (t0 : Int) (by unfold I64; omega) ((k1, k2, k3), 1) ho2 W3.drew rfl
      simp only [slV, slC, nV] at hs2
      refine region_tail 7 (by kernel_rfl) (by kernel_rfl) ?_
      simp only [List.take_succ_cons, List.take_zero, List.drop_succ_cons, List.drop_zero]
      repeat still_step
      refine wpStill_nil ?_
      go_wp2
      go_ret2
      obtain ⟨q1, q2⟩ := pool_hd hp (below_same W3).drew hm2
      exact ⟨rfl, q1, hkw.trans q2⟩
theorem pool_Take_full {W : World} {g a b : Nat} {p : Pl} (h : PoolAt W g a b p) (k : Ky) (hk : KyOk k) (n : Nat) (hn : p.most = n) (hn2 : n ≤ 256) (ht1 : getL p.tg k = none) (hall : ∀ j : Nat, j < n → (getL p.hd j).isSome = true) :
    Calls Tryd.prog 10 #[pt g, kyV k] W fun e w' => e = .returned (.tuple #[.int .i64 0, .int .i64 31]) ∧ PoolAt w' g a b p ∧ Kept (Of2 a b) W w' := by
  obtain ⟨k1, k2, k3⟩ := k
  obtain ⟨W0, hW0, ⟨d0, d1, d2⟩, hB⟩ := boxK W (k1, k2, k3)
  have h0 := h.below hB
  obtain ⟨c0, c1, c2⟩ := h0.cell
  rw [hn] at c0
  have hl := fun nq => h0.tg.look key_enc Tryd.underlying48 (k1, k2, k3) hk zero_int (W0.drewN nq) rfl true
  rw [ht1] at hl
  simp only [if_true, Option.map_none, Option.getD_none, nV, Option.isSome_none] at hl
  have HT1 := Lib.hid ht1
  have HN := Lib.hid hn
  clear ht1 hn
  go_enter Tryd.func10, Tryd.ntmps10
  go_wp2_with fail
  rw [← hW0]
  clear hW0
  go_quiet (fail)
  have hB1 : Below W0.heap.size W0 (W0.drewN nq) := ⟨rfl, rfl, rfl, Nat.le_refl _, fun _ _ => rfl⟩
  generalize W0.drewN nq = W1 at hB1 ⊢
  replace hB := below_on hB hB1
  replace h0 := h0.below hB1
  replace d0 := cell_below d0 hB1
  replace d1 := cell_below d1 hB1
  replace d2 := cell_below d2 hB1
  clear c1 c2 hl
  replace c0 := cell_below c0 hB1
  clear hB1
  go_wp2_with fail
  have D0 := Lib.hid (⟨hB, h0, d0, d1, d2⟩ : Below W.heap.size W W1 ∧ PoolAt W1 g a b p ∧ W1.cell? ⟨W.heap.size, 0, none⟩ = some (.int .i64 k1) ∧ W1.cell? ⟨W.heap.size, 1, none⟩ = some (.int .i64 k2) ∧ W1.cell? ⟨W.heap.size, 2, none⟩ = some (.int .i64 k3))
  clear hB h0 d0 d1 d2 c0
  go_loopw [43] (fun t wr => ∃ j : Nat, j ≤ n ∧ t = .int .i64 j ∧ (Below W.heap.size W wr ∧ PoolAt wr g a b p ∧ wr.cell? ⟨W.heap.size, 0, none⟩ = some (.int .i64 k1) ∧ wr.cell? ⟨W.heap.size, 1, none⟩ = some (.int .i64 k2) ∧ wr.cell? ⟨W.heap.size, 2, none⟩ = some (.int .i64 k3))) (fun t _ => n - (intOf t).toNat)
  case atStart => exact ⟨0, by omega, rfl, D0.out⟩
  case round =>
    obtain ⟨j, hj, rfl, hD⟩ := hrel
    clear D0
    obtain ⟨hB, h0, d0, d1, d2⟩ := hD
    obtain ⟨c0, c1, c2⟩ := h0.cell
    clear c0
    have hlt := h0.lt
    have hl := h0.hd.look int_enc Tryd.underlying49 j (by unfold I64; omega) zero_held wr rfl true
    have hw : IntKind.i64.wrap ((j : Int) + 1) = ((j + 1 : Nat) : Int) := by rw [IntWalk.i64_in _ (by omega)]; omega
    rcases Nat.lt_or_ge j n with hjt | hjt
    · obtain ⟨⟨⟨x1, x2, x3⟩, x4⟩, hs⟩ := Option.isSome_iff_exists.1 (hall j hjt)
      rw [hs] at hl
      simp only [if_true, Option.map_some, Option.getD_some, slV, slC, nV, Option.isSome_some] at hl
      clear hs
      have hjn : (j : Int) < n := by omega
      go_wp2
      have hb : Below wr.heap.size wr (wr.alloc (.cells #[.int .i64 x1, .int .i64 x2, .int .i64 x3, .int .i64 x4] 53)) := (Below.refl _ _).alloc (Nat.le_refl _) _
      exact ⟨⟨j + 1, by omega, by simp, below_on hB hb, h0.below hb, cell_below d0 hb, cell_below d1 hb, cell_below d2 hb⟩, by simp [intOf]; omega⟩
    · obtain rfl : n = j := by omega
      go_wp2
      go_ret2
      exact ⟨rfl, h0, Kept.of_below hB⟩
end Go.Proofs.YtcoclbcjbpjblaaDoor
