/-
  TrieBelow: the second function that is called at each.
-/
import Derived.Test.YtnklhfdhaclfiaaTrC
namespace Go.Proofs.Ytnklhfdhaclfiaa
open Go.RowKit

/-! ### the second -/
structure BI2 (Wf : World) (nb rb : Nat) (p : Pf) (a : Nat) (P : Nat → Prop) (L : List Itm) (W : World) : Prop where
  bel : Below Wf.heap.size Wf W
  n : W.heap[nb]? = some (.cells #[.int .i64 (cnt (L.filter (covX p)).length)] 3 (0, 0))
  r : W.heap[rb]? = some (.cells #[.int .i64 (bestF a (-1) L)] 3 (0, 0))
  hn : Wf.heap.size ≤ nb
  hr : Wf.heap.size ≤ rb
  ne : nb ≠ rb
  fn : ¬ P nb
  fr : ¬ P rb
/-- the state on the way: count and longest as they stand. -/
structure BS2 (Wf W : World) (nb rb : Nat) (P : Nat → Prop) (x y : Int) (W1 : World) : Prop where
  bel : Below Wf.heap.size Wf W1
  n : W1.heap[nb]? = some (.cells #[.int .i64 x] 3 (0, 0))
  r : W1.heap[rb]? = some (.cells #[.int .i64 y] 3 (0, 0))
  k : Kept (fun b => ¬ P b) W W1
theorem BS2.below {Wf W W1 w1 : World} {nb rb : Nat} {P : Nat → Prop} {x y : Int} (h : BS2 Wf W nb rb P x y W1) (hb : Below W1.heap.size W1 w1) : BS2 Wf W nb rb P x y w1 :=
  ⟨h.bel.trans (hb.mono h.bel.size), (hb.block nb (row_lt h.n)).trans h.n, (hb.block rb (row_lt h.r)).trans h.r, h.k.grow hb⟩
theorem BS2.setN {Wf W W1 : World} {nb rb : Nat} {P : Nat → Prop} {x y : Int} (h : BS2 Wf W nb rb P x y W1) (hn : Wf.heap.size ≤ nb) (ne : nb ≠ rb) (fn : ¬ P nb) (u : Int) : BS2 Wf W nb rb P u y (W1.setCell ⟨nb, 0, none⟩ (.int .i64 u)) :=
  ⟨h.bel.setCell hn _, by rw [set_same h.n]; rfl, by rw [set_other _ _ _ (Ne.symm ne)]; exact h.r, h.k.put _ _ (.inl fn)⟩
theorem BS2.setR {Wf W W1 : World} {nb rb : Nat} {P : Nat → Prop} {x y : Int} (h : BS2 Wf W nb rb P x y W1) (hr : Wf.heap.size ≤ rb) (ne : nb ≠ rb) (fr : ¬ P rb) (u : Int) : BS2 Wf W nb rb P x u (W1.setCell ⟨rb, 0, none⟩ (.int .i64 u)) :=
  ⟨h.bel.setCell hr _, by rw [set_other _ _ _ ne]; exact h.n, by rw [set_same h.r]; rfl, h.k.put _ _ (.inl fr)⟩

set_option maxHeartbeats 3200000 in
set_option maxRecDepth 100000 in
theorem each2_call {Wf : World} {tb : Nat} {N : Nat → Option Nat} {S : List (Nat × Value)} {xs : List Pf} {sa : Option Addr} {cap pb psb ab pa : Nat} {pn : Int} {a : Nat} (F : FxB Wf tb N S xs sa cap pb psb ab pa pn a) (nb rb : Nat) (P : Nat → Prop) (L : List Itm) (W : World) (A i : Nat) (v : Value) (h : BI2 Wf nb rb (pa, pn) a P L W) (hA : A < 4294967296) (hR : rightB A i = true) :
    Calls Try.prog 20 #[.agg #[.int .u32 A, .int .i64 i], v, .pointer (some ⟨pb, 0, none⟩), .pointer (some ⟨nb, 0, none⟩), .pointer (some ⟨ab, 0, none⟩), .pointer (some ⟨rb, 0, none⟩)] W fun e w' => e = .returned (.bool true) ∧ BI2 Wf nb rb (pa, pn) a P (L ++ [((A, i), v)]) w' ∧ Kept (fun b => ¬ P b) W w' := by
  have hi32 := (right_mod.1 hR).2
  have CV := Lib.hid (fun W => ip_Covers (pa : Int) pn (A : Int) (i : Int) W (by omega) (by have := F.pa32; omega) (by omega) (by omega))
  have HS := Lib.hid (fun W => ip_Has (A : Int) (i : Int) (a : Int) W (by omega) (by omega) (by omega) (by have := F.a32; omega))
  have H := Lib.hid h
  have FF := Lib.hid F
  have fin : Hid (∀ w', BS2 Wf W nb rb P (if coversB (pa : Int) pn (A : Int) (i : Int) then wrap64 (cnt (L.filter (covX (pa, pn))).length + 1) else cnt (L.filter (covX (pa, pn))).length) (if hasB (A : Int) (i : Int) (a : Int) then max (bestF a (-1) L) (i : Int) else bestF a (-1) L) w' → BI2 Wf nb rb (pa, pn) a P (L ++ [((A, i), v)]) w' ∧ Kept (fun b => ¬ P b) W w') := Lib.hid fun w' g => by
    refine ⟨⟨g.bel, ?_, ?_, h.hn, h.hr, h.ne, h.fn, h.fr⟩, g.k⟩
    · rw [g.n, List.filter_append]
      cases hc : coversB (pa : Int) pn (A : Int) (i : Int)
      · rw [filter_no (l := [((A, i), v)]) (fun x hx => by simp at hx; subst hx; exact hc)]; simp
      · rw [filter_yes (l := [((A, i), v)]) (fun x hx => by simp at hx; subst hx; exact hc)]; simp [cnt]
    · rw [g.r, bestF_snoc]
  have ST : Hid (BS2 Wf W nb rb P (cnt (L.filter (covX (pa, pn))).length) (bestF a (-1) L) W) := Lib.hid ⟨h.bel, h.n, h.r, Kept.refl _ _⟩
  have qnb : Hid (¬ W.heap.size = nb ∧ ¬ W.heap.size = rb) := Lib.hid ⟨by have := row_lt h.n; omega, by have := row_lt h.r; omega⟩
  clear h F hR
  generalize cnt (L.filter (covX (pa, pn))).length = x at fin ST
  generalize bestF a (-1) L = y at fin ST
  generalize coversB (pa : Int) pn (A : Int) (i : Int) = c at fin CV
  generalize hasB (A : Int) (i : Int) (a : Int) = d at fin HS
  go_enter Try.func20, Try.ntmps20
  go_upto_region 1 with (fail)
  obtain ⟨W0, hW0, q0, q1, hb⟩ := box2 W (.int .u32 A) (.int .i64 i) 31
  rw [← hW0]; clear hW0
  have S0 := Lib.hid (ST.out.below hb)
  have p0 := (S0.out.bel.cell (size_lt FF.out.p0)).trans FF.out.p0
  have p1 := (S0.out.bel.cell (size_lt FF.out.p1)).trans FF.out.p1
  clear ST hb
  go_wp2_with fail
  refine (CV.out _).mono ?_
  rintro e w1 ⟨rfl, hb⟩
  have S1 := Lib.hid (S0.out.below hb)
  have q0 := cell_below q0 hb
  have q1 := cell_below q1 hb
  have hz1 := hb.size
  clear S0 hb p0 p1 CV hz1
  cases c
  · go_upto_region 3 with (fail)
    have a0 := (S1.out.bel.cell (size_lt FF.out.a0)).trans FF.out.a0
    go_wp2_with fail
    refine (HS.out _).mono ?_
    rintro e w2 ⟨rfl, hb⟩
    have S2 := Lib.hid (S1.out.below hb)
    have q0 := cell_below q0 hb
    have q1 := cell_below q1 hb
    clear S1 hb a0 HS
    cases d
    · go_wp2_with fail
      go_ret
      exact ⟨rfl, fin.out _ S2.out⟩
    · have rc : w2.cell? ⟨rb, 0, none⟩ = some (.int .i64 y) := row_cell S2.out.r 0
      have rf := row_free S2.out.r 0
      go_wp2_with fail
      all_goals
        go_ret
        refine ⟨rfl, fin.out _ ?_⟩
        first
          | exact S2.out.setR H.out.hr H.out.ne H.out.fr _
          | (rw [if_pos rfl, show max y (i : Int) = _ from Int.max_eq_right (by omega)]; exact S2.out.setR H.out.hr H.out.ne H.out.fr _)
          | (rw [if_pos rfl, show max y (i : Int) = _ from Int.max_eq_left (by omega)]; exact S2.out.setR H.out.hr H.out.ne H.out.fr _)
  · have nc : w1.cell? ⟨nb, 0, none⟩ = some (.int .i64 x) := row_cell S1.out.n 0
    have nf := row_free S1.out.n 0
    go_upto_region 3 with (fail)
    obtain ⟨W2, hW2⟩ : ∃ W2, W2 = w1.setCell ⟨nb, 0, none⟩ (.int .i64 (wrap64 (x + 1))) := ⟨_, rfl⟩
    have S2 : Hid (BS2 Wf W nb rb P (wrap64 (x + 1)) y W2) := Lib.hid (by rw [hW2]; exact S1.out.setN H.out.hn H.out.ne H.out.fn _)
    have KN : Kept (fun b => b = nb) w1 W2 := by rw [hW2]; exact (Kept.refl _ w1).put _ _ (.inl rfl)
    have q0 := KN.cell q0 qnb.out.1
    have q1 := KN.cell q1 qnb.out.1
    rw [← hW2]
    clear hW2 S1 KN nc nf
    have a0 := (S2.out.bel.cell (size_lt FF.out.a0)).trans FF.out.a0
    go_wp2_with fail
    refine (HS.out _).mono ?_
    rintro e w3 ⟨rfl, hb⟩
    have S3 := Lib.hid (S2.out.below hb)
    have q0 := cell_below q0 hb
    have q1 := cell_below q1 hb
    clear S2 hb a0 HS
    cases d
    · go_wp2_with fail
      go_ret
      exact ⟨rfl, fin.out _ S3.out⟩
    · have rc : w3.cell? ⟨rb, 0, none⟩ = some (.int .i64 y) := row_cell S3.out.r 0
      have rf := row_free S3.out.r 0
      go_wp2_with fail
      all_goals
        go_ret
        refine ⟨rfl, fin.out _ ?_⟩
        first
          | exact S3.out.setR H.out.hr H.out.ne H.out.fr _
          | (rw [if_pos rfl, show max y (i : Int) = _ from Int.max_eq_right (by omega)]; exact S3.out.setR H.out.hr H.out.ne H.out.fr _)
          | (rw [if_pos rfl, show max y (i : Int) = _ from Int.max_eq_left (by omega)]; exact S3.out.setR H.out.hr H.out.ne H.out.fr _)
end Go.Proofs.Ytnklhfdhaclfiaa
