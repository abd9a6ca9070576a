/-
  SETS OF PREFIXES: what a caller hands in: prefixes, lists of prefixes; the order of sets.
-/
import Derived.Test.YtaafeekkllomhaaPsH
import Derived.Test.YtaafeekkllomhaaFrame
namespace Go.Proofs.Ytaafeekkllomhaa
open Go.RowKit Go.ChangeShapes Go.WideShapes

section
variable {H : Type} {enc : TypeId × Value → H} {w : World} {base : Nat} {spare : Nat → Bool} {held : Bool}
set_option maxRecDepth 100000 in
theorem pf_cells {f : Nat} {cs : List Value} {x : DataW H × List MemPlace} (h : DataW.trod enc Try.prog w base spare held f 35 cs = some x) : ∃ p : Pf, PfC p cs := by
  obtain ⟨xs, n, _, _, hl, hxl, hf⟩ := DataW.trod_struct Try.underlying35 h
  have hc2 : Try.prog.cellsOf 35 = 2 := by kernel_rfl
  have hc1 : Try.prog.cellsOf 3 = 1 := by kernel_rfl
  have hca : Try.prog.cellsOf 33 = 1 := by kernel_rfl
  rw [hc2] at hl
  match cs, hl with
  | [c0, c1], _ =>
    match xs, hxl with
    | [x0, x1], _ =>
      have e0 := hf 0 _ rfl
      have e1 := hf 1 _ rfl
      simp [hc1, hca] at e0 e1
      obtain ⟨a, ha, _, ia⟩ := DataW.trod_int Try.underlying33 e0
      obtain ⟨m, hm, _⟩ := DataW.trod_int Try.underlying3 e1
      simp [Lit.wf, IntKind.min, IntKind.max, IntKind.bits, IntKind.signed] at ia
      simp at ha hm
      subst ha; subst hm
      exact ⟨(a, m), rfl, by unfold OkP; simp only; omega⟩
set_option maxRecDepth 100000 in
theorem sl_pfs {f : Nat} {c : List Value} {y : DataW H × List MemPlace} (h : DataW.trod enc Try.prog w base spare held f 22 c = some y) : ∃ v xs, c = [v] ∧ PsAt w v xs :=
  open_sl Try.underlying22 (by kernel_rfl) (by decide) (fun _ _ _ h => pf_cells h) h
set_option maxRecDepth 100000 in
theorem open_pfs {v : Value} {d : DataW H} {p : List MemPlace} {r : Reach} {b0 : Nat} (hv : Value.okWide Try.prog w r b0 22 v) (h : DataW.Trod enc Try.prog w base spare held 22 v d p) : ∃ xs : List Pf, PsAt w v xs := by
  obtain ⟨fuel, h⟩ := h
  have hvc : v.cells.toList = [v] := by
    simp only [Value.okWide, Try.underlying22] at hv
    cases v <;> first | rfl | (simp [Cell.okWide, Cell.ok, Try.underlying22] at hv)
  rw [hvc] at h
  obtain ⟨v', xs, e, hs⟩ := sl_pfs h
  injection e with e _
  subst e
  exact ⟨xs, hs⟩
/-- lists of prefixes in memory. -/
abbrev PssAt (w : World) (v : Value) (xs : List (List Pf)) : Prop := SlAt w 1 (fun s cs => ∃ u, cs = [u] ∧ PsAt w u s) v xs
set_option maxRecDepth 100000 in
theorem open_pfss {v : Value} {d : DataW H} {p : List MemPlace} {r : Reach} {b0 : Nat} (hv : Value.okWide Try.prog w r b0 23 v) (h : DataW.Trod enc Try.prog w base spare held 23 v d p) : ∃ xs : List (List Pf), PssAt w v xs := by
  obtain ⟨fuel, h⟩ := h
  have hvc : v.cells.toList = [v] := by
    simp only [Value.okWide, Try.underlying23] at hv
    cases v <;> first | rfl | (simp [Cell.okWide, Cell.ok, Try.underlying23] at hv)
  rw [hvc] at h
  obtain ⟨v', xs, e, hs⟩ := open_sl (k := 1) (R := fun s cs => ∃ u, cs = [u] ∧ PsAt w u s) Try.underlying23 (by kernel_rfl) (by decide) (fun _ _ _ h => by
    obtain ⟨u, s, h1, h2⟩ := sl_pfs h
    exact ⟨s, u, h1, h2⟩) h
  injection e with e _
  subst e
  exact ⟨xs, hs⟩
end
/-! ### the order of sets -/
theorem scmp_swap : ∀ xs ys : List Pf, scmp xs ys = -scmp ys xs
  | [], [] => rfl
  | [], _ :: _ => rfl
  | _ :: _, [] => rfl
  | x :: xs, y :: ys => by
    unfold scmp
    have h := pcmp_swap x y
    by_cases e : pcmp x y = 0
    · rw [if_pos e, if_pos (by omega), scmp_swap xs ys]
    · rw [if_neg e, if_neg (by omega)]; exact h
theorem scmp_zero : ∀ xs ys : List Pf, scmp xs ys = 0 ↔ xs = ys
  | [], [] => by simp [scmp]
  | [], _ :: _ => by simp [scmp]
  | _ :: _, [] => by simp [scmp]
  | x :: xs, y :: ys => by
    unfold scmp
    by_cases e : pcmp x y = 0
    · rw [if_pos e, scmp_zero xs ys, pcmp_eq.1 e]; simp
    · rw [if_neg e]
      constructor
      · intro h; exact absurd h e
      · intro h; injection h with h _; exact absurd (pcmp_eq.2 h) e
theorem scmp_range (xs ys : List Pf) : -1 ≤ scmp xs ys ∧ scmp xs ys ≤ 1 := by
  induction xs generalizing ys with
  | nil => cases ys <;> simp [scmp]
  | cons x xs ih =>
    cases ys with
    | nil => simp [scmp]
    | cons y ys =>
      unfold scmp
      split
      · exact ih ys
      · rw [pcmp_val]
        split
        · simp
        · split <;> simp
theorem scmp_trans : ∀ xs ys zs : List Pf, scmp xs ys < 0 → scmp ys zs < 0 → scmp xs zs < 0
  | [], [], zs, h, _ => by simp [scmp] at h
  | [], y :: ys, [], _, k => by simp [scmp] at k
  | [], y :: ys, z :: zs, _, _ => by simp [scmp]
  | x :: xs, [], zs, h, _ => by simp [scmp] at h
  | x :: xs, y :: ys, [], _, k => by simp [scmp] at k
  | x :: xs, y :: ys, z :: zs, h, k => by
    unfold scmp at h k ⊢
    by_cases e : pcmp x y = 0
    · rw [if_pos e] at h
      obtain rfl := pcmp_eq.1 e
      by_cases e2 : pcmp x z = 0
      · rw [if_pos e2] at k ⊢
        exact scmp_trans xs ys zs h k
      · rw [if_neg e2] at k ⊢
        exact k
    · rw [if_neg e] at h
      by_cases e2 : pcmp y z = 0
      · obtain rfl := pcmp_eq.1 e2
        rw [if_neg e]; exact h
      · rw [if_neg e2] at k
        have := plt_trans (pcmp_lt.1 h) (pcmp_lt.1 k)
        have h3 := pcmp_lt.2 this
        rw [if_neg (by omega)]; exact h3
/-- where two lists are one so far. -/
theorem scmp_part {xs ys : List Pf} {k : Nat} (h : xs.take k = ys.take k) (h1 : k ≤ xs.length) (h2 : k ≤ ys.length) : scmp xs ys = scmp (xs.drop k) (ys.drop k) := by
  induction k generalizing xs ys with
  | zero => rfl
  | succ k ih =>
    match xs, ys, h1, h2 with
    | x :: xs, y :: ys, h1, h2 =>
      simp at h h1 h2
      obtain ⟨rfl, h⟩ := h
      rw [List.drop_succ_cons, List.drop_succ_cons, ← ih h h1 h2]
      conv => lhs; unfold scmp
      rw [if_pos (pcmp_eq.2 rfl)]
theorem scmp_here {xs ys : List Pf} {k : Nat} {x y : Pf} (h : xs.take k = ys.take k) (hx : xs[k]? = some x) (hy : ys[k]? = some y) (hne : x ≠ y) : scmp xs ys = pcmp x y := by
  have h1 := (List.getElem?_eq_some_iff.1 hx).1
  have h2 := (List.getElem?_eq_some_iff.1 hy).1
  rw [scmp_part h (by omega) (by omega), scmp_step hx hy, if_neg (fun e => hne (pcmp_eq.1 e))]
theorem scmp_lens {xs ys : List Pf} {k : Nat} (h : xs.take k = ys.take k) (h1 : k ≤ xs.length) (h2 : k ≤ ys.length) (he : k = xs.length ∨ k = ys.length) : decide (scmp xs ys < 0) = decide (xs.length < ys.length) := by
  rw [scmp_part h h1 h2]
  rcases he with rfl | rfl
  · rw [scmp_end]
    by_cases hl : xs.length < ys.length
    · rw [if_pos hl]; simp [hl]
    · rw [if_neg hl]; simp [hl]
  · have := scmp_swap (xs.drop ys.length) (ys.drop ys.length)
    rw [scmp_end] at this
    rw [this]
    by_cases hl : ys.length < xs.length
    · rw [if_pos hl]; simp; omega
    · rw [if_neg hl]; simp; omega
end Go.Proofs.Ytaafeekkllomhaa
