/-
  THE DOCUMENT'S EXAMPLE OF TAGS; a pool that is none.
-/
import Derived.Test.YtcoclbcjbpjblaaDoorPoolT
import Derived.Test.YtcoclbcjbpjblaaDoorPoolS
namespace Go.Proofs.YtcoclbcjbpjblaaDoor
open Go.RowKit
theorem boxS (w : World) (x y z : Int) : ∃ W0, W0 = w.alloc (.cells #[.int .i64 x, .int .i64 y, .int .i64 z] 3) ∧ W0.cell? ⟨w.heap.size, 0, none⟩ = some (.int .i64 x) ∧ W0.cell? ⟨w.heap.size, 1, none⟩ = some (.int .i64 y) ∧ W0.cell? ⟨w.heap.size, 2, none⟩ = some (.int .i64 z) ∧ Below w.heap.size w W0 := by
  refine ⟨_, rfl, ?_, ?_, ?_, (Below.refl _ _).alloc (Nat.le_refl _) _⟩ <;> simp
def hP1 : Pl := ⟨5, [((0, 1, 0), 0)], [(0, (0, 1, 0), 1)]⟩
def hP2 : Pl := ⟨5, [((0, 1, 0), 0), ((0, 2, 0), 1)], [(0, (0, 1, 0), 1), (1, (0, 2, 0), 1)]⟩
def hP3 : Pl := ⟨5, [((0, 1, 0), 0), ((0, 2, 0), 1)], [(0, (0, 1, 0), 2), (1, (0, 2, 0), 1)]⟩
def hP4 : Pl := ⟨5, [((0, 1, 0), 0), ((0, 2, 0), 1)], [(0, (0, 1, 0), 1), (1, (0, 2, 0), 1)]⟩
def hP5 : Pl := ⟨5, [((0, 1, 0), 0), ((0, 2, 0), 1)], [(0, (0, 1, 0), 1), (1, (0, 2, 0), 0)]⟩
def hP6 : Pl := ⟨5, [((0, 1, 0), 0), ((0, 2, 0), 1)], [(0, (0, 1, 0), 0), (1, (0, 2, 0), 0)]⟩
def hP7 : Pl := ⟨5, [], []⟩
theorem ky_ok (x y z : Int) (hx : I64 x := by unfold I64; omega) (hy : I64 y := by unfold I64; omega) (hz : I64 z := by unfold I64; omega) : KyOk (x, y, z) := ⟨hx, hy, hz⟩
theorem hP6_ok : ∀ e ∈ hP6.hd, KyOk e.2.1 := by
  intro e he
  simp only [hP6, List.mem_cons, List.not_mem_nil, or_false] at he
  rcases he with rfl | rfl <;> exact ky_ok _ _ _
/-- what the law holds of the pool: a step. -/
structure Held (w W : World) (g a b : Nat) (p : Pl) : Prop where
  at_ : PoolAt W g a b p
  below : Below w.heap.size w W
  hg : w.heap.size ≤ g
  ha : w.heap.size ≤ a
  hb : w.heap.size ≤ b
theorem Held.step {w W W' : World} {g a b : Nat} {p p' : Pl} (h : Held w W g a b p) (hp : PoolAt W' g a b p') (hk : Kept (Of2 a b) W W') : Held w W' g a b p' :=
  ⟨hp, h.below.trans (hk.below h.below.size (by rintro k (rfl | rfl); exact h.ha; exact h.hb)), h.hg, h.ha, h.hb⟩
theorem Held.on {w W W' : World} {g a b : Nat} {p : Pl} (h : Held w W g a b p) (hb : Below W.heap.size W W') : Held w W' g a b p := h.step (h.at_.below hb) (Kept.of_below hb)
set_option maxRecDepth 100000 in
set_option maxHeartbeats 1600000 in
theorem law_head (w : World) : Calls Tryd.prog 4 #[] w fun e w' => e = .returned (.bool true) ∧ Below w.heap.size w w' := by
  go_enter Tryd.func4, Tryd.ntmps4
  go_wp2_with fail
  refine (pool_New_ok 5 (by omega) (by omega) w).mono ?_
  rintro e w1 ⟨g, a, b, rfl, hp, hg, ha, hb, hB⟩
  have H := Lib.hid (⟨hp, hB, hg, ha, hb⟩ : Held w w1 g a b ⟨5, [], []⟩)
  have la := hp.tg.lt
  have lb := hp.hd.lt
  clear hp hB hg ha hb
  go_wp2_with fail
  obtain ⟨W0, hW0, s0, s1, s2, hb⟩ := boxS w1 1 2 1
  rw [← hW0]
  have hof : ¬ Of2 a b w1.heap.size := by rintro (e | e) <;> omega
  have H0 : Hid (Held w W0 g a b ⟨5, [], []⟩) := Lib.hid (H.out.on hb)
  clear hW0 hb H
  refine wp_loop_rounds 4 ?_
  rw [rounds_succ]
  go_wp2_with fail
  refine (pool_Take_new H0.out.at_ (0, 1, 0) (ky_ok _ _ _) (by decide) (by decide) 5 rfl (by decide) (by decide) 0 (by decide) (by decide) (by omega)).mono ?_
  rintro e v0 ⟨rfl, hp, hk⟩
  have G0 : Hid (Held w v0 g a b hP1) := Lib.hid (H0.out.step hp hk)
  replace s0 := hk.cell s0 hof
  replace s1 := hk.cell s1 hof
  replace s2 := hk.cell s2 hof
  clear hp hk H0
  go_wp2_with fail
  rw [rounds_succ]
  go_wp2_with fail
  refine (pool_Take_new G0.out.at_ (0, 2, 0) (ky_ok _ _ _) (by decide) (by decide) 5 rfl (by decide) (by decide) 1 (by decide) (by decide) (by intro j hj; (obtain rfl : j = 0 := (by omega)); decide)).mono ?_
  rintro e v1 ⟨rfl, hp, hk⟩
  have G1 : Hid (Held w v1 g a b hP2) := Lib.hid (G0.out.step hp hk)
  replace s0 := hk.cell s0 hof
  replace s1 := hk.cell s1 hof
  replace s2 := hk.cell s2 hof
  clear hp hk G0
  go_wp2_with fail
  rw [rounds_succ]
  go_wp2_with fail
  refine (pool_Take_had G1.out.at_ (0, 1, 0) (ky_ok _ _ _) 0 (by unfold I64; omega) 1 (by decide) (by decide) (by omega) (by omega) (by decide)).mono ?_
  rintro e v2 ⟨rfl, hp, hk⟩
  have G2 : Hid (Held w v2 g a b hP3) := Lib.hid (G1.out.step hp hk)
  replace s0 := hk.cell s0 hof
  replace s1 := hk.cell s1 hof
  replace s2 := hk.cell s2 hof
  clear hp hk G1
  go_wp2_with fail
  rw [rounds_succ]
  go_wp2_with fail
  refine (pool_Give_yes G2.out.at_ 0 (by unfold I64; omega) (0, 1, 0) 2 (by decide) (by omega) (by omega) (by decide)).mono ?_
  rintro e u0 ⟨rfl, hp, hk⟩
  have F0 : Hid (Held w u0 g a b hP4) := Lib.hid (G2.out.step hp hk)
  clear hp hk G2
  go_wp2_with fail
  refine (pool_Give_yes F0.out.at_ 1 (by unfold I64; omega) (0, 2, 0) 1 (by decide) (by omega) (by omega) (by decide)).mono ?_
  rintro e u1 ⟨rfl, hp, hk⟩
  have F1 : Hid (Held w u1 g a b hP5) := Lib.hid (F0.out.step hp hk)
  clear hp hk F0
  go_wp2_with fail
  refine (pool_Give_yes F1.out.at_ 0 (by unfold I64; omega) (0, 1, 0) 1 (by decide) (by omega) (by omega) (by decide)).mono ?_
  rintro e u2 ⟨rfl, hp, hk⟩
  have F2 : Hid (Held w u2 g a b hP6) := Lib.hid (F1.out.step hp hk)
  clear hp hk F1
  go_wp2_with fail
  refine (pool_Give_no F2.out.at_ 0 (by unfold I64; omega) (by decide)).mono ?_
  rintro e x1 ⟨rfl, hb⟩
  have F3 : Hid (Held w x1 g a b hP6) := Lib.hid (F2.out.on hb)
  clear hb F2
  go_wp2_with fail
  refine (pool_Len F3.out.at_).mono ?_
  rintro e x2 ⟨rfl, rfl⟩
  go_wp2_with fail
  refine (pool_Sweep F3.out.at_ (by decide) hP6_ok).mono ?_
  rintro e x3 ⟨rfl, hp, hk⟩
  have F4 : Hid (Held w x3 g a b hP7) := Lib.hid (F3.out.step hp hk)
  clear hp hk F3
  go_wp2_with fail
  refine (pool_Len F4.out.at_).mono ?_
  rintro e x4 ⟨rfl, rfl⟩
  go_wp2_with fail
  go_ret
  exact ⟨rfl, F4.out.below⟩
end Go.Proofs.YtcoclbcjbpjblaaDoor
