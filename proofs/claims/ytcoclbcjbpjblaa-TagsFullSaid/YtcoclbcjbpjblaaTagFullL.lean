/-
  PLAIN LAWS FOR TagsFull: what the pool's lists are, round by round.
-/
import Derived.Test.YtcoclbcjbpjblaaTagHead
namespace Go.Proofs.Ytcoclbcjbpjblaa
open Go.RowKit
section
variable {κ υ : Type} [DecidableEq κ]
theorem getL_of (L : List Nat) (f : Nat → κ) (v : Nat → υ) (hf : ∀ x y, f x = f y → x = y) (j : Nat) (hj : j ∈ L) : getL (L.map fun x => (f x, v x)) (f j) = some (v j) := by
  induction L with
  | nil => cases hj
  | cons x L ih =>
    unfold getL at ih ⊢
    rw [List.map_cons, List.find?_cons]
    by_cases h : f x = f j
    · obtain rfl := hf _ _ h
      simp
    · have hx : j ∈ L := by
        rcases List.mem_cons.1 hj with rfl | h'
        · exact absurd rfl h
        · exact h'
      simp only [h, decide_false]
      exact ih hx
theorem getL_not (L : List Nat) (f : Nat → κ) (v : Nat → υ) (a : κ) (h : ∀ x ∈ L, f x ≠ a) : getL (L.map fun x => (f x, v x)) a = none := by
  rw [getL_none]
  intro p hp
  obtain ⟨x, hx, rfl⟩ := List.mem_map.1 hp
  exact h x hx
end
def tk (j : Nat) : Ky := ((j : Int), 0, 0)
def tb (j : Nat) : Ky := (0, 1 + (j : Int), 0)
theorem tk_inj (x y : Nat) (h : tk x = tk y) : x = y := by
  unfold tk at h; injection h with h1 h2; omega
theorem tb_inj (x y : Nat) (h : tb x = tb y) : x = y := by
  unfold tb at h; injection h with h1 h2; injection h2 with h3 h4; omega
theorem int_inj (x y : Nat) (h : (x : Int) = (y : Int)) : x = y := by omega
def tgA (L : List Nat) : List (Ky × Int) := L.map fun j : Nat => (tk j, (j : Int))
def hdA (L : List Nat) (u : Nat → Int) : List (Int × Sl) := L.map fun j : Nat => ((j : Int), (tk j, u j))
def tgB (L : List Nat) : List (Ky × Int) := L.map fun j : Nat => (tb j, (j : Int))
def hdB (L : List Nat) : List (Int × Sl) := L.map fun j : Nat => ((j : Int), (tb j, 1))
/-- the first loop. -/
def fP (m k : Nat) : Pl := ⟨1 + (m : Int), tgA (List.range k), hdA (List.range k) fun _ => 1⟩
theorem fP_take (m k : Nat) : { fP m k with tg := putL (fP m k).tg (tk k) (k : Int), hd := putL (fP m k).hd (k : Int) (tk k, 1) } = fP m (k + 1) := by
  have h1 : getL (tgA (List.range k)) (tk k) = none := getL_not _ _ _ _ fun x hx e => by have := tk_inj _ _ e; simp at hx; omega
  have h2 : getL (hdA (List.range k) fun _ => 1) (k : Int) = none := getL_not _ _ _ _ fun x hx e => by simp at hx; omega
  unfold fP putL
  simp only [h1, h2, Option.isSome_none, Bool.false_eq_true, if_false]
  unfold tgA hdA
  rw [List.range_succ, List.map_append, List.map_append]
  rfl
theorem fP_none (m k : Nat) : getL (fP m k).tg (tk k) = none := getL_not _ _ _ _ fun x hx e => by have := tk_inj _ _ e; simp at hx; omega
theorem fP_free (m k : Nat) : getL (fP m k).hd (k : Int) = none := getL_not _ _ _ _ fun x hx e => by simp at hx; omega
theorem fP_all (m k j : Nat) (hj : j < k) : (getL (fP m k).hd (j : Int)).isSome = true := by
  have := getL_of (List.range k) (fun j : Nat => (j : Int)) (fun j => ((tk j, 1) : Sl)) int_inj j (by simpa using hj)
  unfold fP hdA; rw [this]; rfl
theorem fP_len (m k : Nat) : (fP m k).tg.length = k ∧ (fP m k).hd.length = k := by simp [fP, tgA, hdA]
/-- the second loop. -/
def fQ (m k : Nat) : Pl := ⟨1 + (m : Int), tgA (List.range (m + 1)), hdA (List.range (m + 1)) fun j => if j < k then 0 else 1⟩
theorem fQ_zero (m : Nat) : fP m (m + 1) = fQ m 0 := rfl
theorem fQ_get (m k : Nat) (hk : k < m + 1) : getL (fQ m k).hd (k : Int) = some (tk k, 1) := by
  have := getL_of (List.range (m + 1)) (fun j : Nat => (j : Int)) (fun j => ((tk j, if j < k then 0 else 1) : Sl)) int_inj k (by simpa using hk)
  unfold fQ hdA; rw [this]; simp
theorem fQ_give (m k : Nat) (hk : k < m + 1) : { fQ m k with hd := putL (fQ m k).hd (k : Int) (tk k, 1 - 1) } = fQ m (k + 1) := by
  have h := fQ_get m k hk
  unfold putL
  rw [h]
  simp only [Option.isSome_some, if_true]
  unfold fQ hdA
  congr 1
  rw [List.map_map]
  refine List.map_congr_left fun j _ => ?_
  simp only [Function.comp]
  by_cases hj : j = k
  · subst hj; simp
  · have h1 : ¬ ((j : Int) = (k : Int)) := by omega
    have h2 : j < k + 1 ↔ j < k := by omega
    simp only [h1, if_false, h2]
theorem fQ_len (m k : Nat) : (fQ m k).hd.length = m + 1 := by simp [fQ, hdA]
theorem fQ_ok (m k : Nat) (hm : m ≤ 63) : ∀ e ∈ (fQ m k).hd, KyOk e.2.1 := by
  intro e he
  obtain ⟨j, hj, rfl⟩ := List.mem_map.1 he
  simp at hj
  exact ky_ok (j : Int) 0 0
/-- the sweep, and the third loop. -/
def fR (m g k : Nat) : Pl := ⟨1 + (m : Int), tgA ((List.range (m + 1)).filter fun j => decide (g ≤ j)) ++ tgB (List.range k), hdA ((List.range (m + 1)).filter fun j => decide (g ≤ j)) (fun _ => 1) ++ hdB (List.range k)⟩
theorem sweep_hd (m g : Nat) : hdS (fQ m g).hd [] = (fR m g 0).hd := by
  rw [(sweep_end [] _).1]
  unfold fQ fR hdA hdB
  simp only [List.range_zero, List.map_nil, List.append_nil]
  rw [List.filter_map]
  have e : (fun e : Int × Sl => !(e.2.2 == 0)) ∘ (fun j : Nat => ((j : Int), (tk j, if j < g then (0 : Int) else 1))) = fun j => decide (g ≤ j) := by
    funext j
    simp only [Function.comp]
    by_cases h : j < g
    · simp [h]
    · have : g ≤ j := by omega
      simp [h, this]
  rw [e]
  refine List.map_congr_left fun j hj => ?_
  have : g ≤ j := by simpa using (List.mem_filter.1 hj).2
  rw [if_neg (by omega)]
theorem sweep_tg (m g : Nat) : tgS (fQ m g).tg (fQ m g).hd [] = (fR m g 0).tg := by
  rw [(sweep_end _ _).2.1]
  unfold fQ fR tgA tgB
  simp only [List.range_zero, List.map_nil, List.append_nil]
  rw [List.filter_map]
  congr 1
  refine List.filter_congr fun j hj => ?_
  simp only [Function.comp]
  rw [Bool.eq_iff_iff]
  simp only [Bool.not_eq_true', List.any_eq_false, Bool.and_eq_true, beq_iff_eq, decide_eq_true_eq, not_and]
  constructor
  · intro h
    have := h ((j : Int), (tk j, if j < g then 0 else 1)) (List.mem_map.2 ⟨j, hj, rfl⟩)
    simp only at this
    by_cases hg : j < g
    · exact absurd trivial (this (if_pos hg))
    · omega
  · intro h e he h1 h2
    obtain ⟨x, hx, rfl⟩ := List.mem_map.1 he
    have := tk_inj _ _ h2
    subst this
    simp only at h1
    rw [if_neg (by omega)] at h1
    cases h1
theorem len_ge (n g : Nat) : ((List.range n).filter fun j => decide (g ≤ j)).length = n - g := by
  induction n with
  | zero => simp
  | succ n ih =>
    rw [List.range_succ, List.filter_append, List.length_append, ih]
    by_cases h : g ≤ n
    · simp [h]; omega
    · simp [h]; omega
theorem len_lt (n g : Nat) (hg : g ≤ n) : ((List.range n).filter fun j => decide (j < g)).length = g := by
  induction n with
  | zero => simp; omega
  | succ n ih =>
    rw [List.range_succ, List.filter_append, List.length_append]
    by_cases h : g ≤ n
    · rw [ih h]; have : ¬ n < g := by omega
      simp [this]
    · have e : g = n + 1 := by omega
      subst e
      have : (List.range n).filter (fun j => decide (j < n + 1)) = List.range n := by
        rw [List.filter_eq_self]; intro a ha; simp at ha; simp; omega
      rw [this]; simp
theorem sweep_n (m g : Nat) (hg : g ≤ m + 1) : nS (fQ m g).hd [] = g := by
  rw [(sweep_end [] _).2.2]
  unfold fQ hdA
  simp only
  rw [List.filter_map, List.length_map]
  have e : (fun e : Int × Sl => (e.2.2 == 0)) ∘ (fun j : Nat => ((j : Int), (tk j, if j < g then (0 : Int) else 1))) = fun j => decide (j < g) := by
    funext j
    simp only [Function.comp]
    by_cases h : j < g <;> simp [h]
  rw [e]
  exact len_lt _ _ hg
theorem fR_sweep (m g : Nat) : { fQ m g with tg := tgS (fQ m g).tg (fQ m g).hd [], hd := hdS (fQ m g).hd [] } = fR m g 0 := by
  rw [sweep_hd, sweep_tg]; rfl
theorem fR_len (m g k : Nat) : (fR m g k).hd.length = m + 1 - g + k ∧ (fR m g k).tg.length = m + 1 - g + k := by simp [fR, hdA, hdB, tgA, tgB, len_ge]
theorem fR_none (m g k : Nat) : getL (fR m g k).tg (tb k) = none := by
  unfold fR
  simp only [getL_append]
  have h1 : getL (tgA ((List.range (m + 1)).filter fun j => decide (g ≤ j))) (tb k) = none := getL_not _ _ _ _ fun x _ e => by
    unfold tk tb at e; injection e with e1 e2; injection e2 with e3 e4; omega
  have h2 : getL (tgB (List.range k)) (tb k) = none := getL_not _ _ _ _ fun x hx e => by have := tb_inj _ _ e; simp at hx; omega
  rw [h1, h2]; rfl
theorem fR_free (m g k : Nat) (hk : k < g) : getL (fR m g k).hd (k : Int) = none := by
  unfold fR
  simp only [getL_append]
  have h1 : getL (hdA ((List.range (m + 1)).filter fun j => decide (g ≤ j)) (fun _ => 1)) (k : Int) = none := getL_not _ _ _ _ fun x hx e => by
    have := (List.mem_filter.1 hx).2; simp at this; omega
  have h2 : getL (hdB (List.range k)) (k : Int) = none := getL_not _ _ _ _ fun x hx e => by simp at hx; omega
  rw [h1, h2]; rfl
theorem fR_all (m g k j : Nat) (hj : j < k) : (getL (fR m g k).hd (j : Int)).isSome = true := by
  unfold fR
  simp only [getL_append]
  have h2 := getL_of (List.range k) (fun j : Nat => (j : Int)) (fun j => ((tb j, 1) : Sl)) int_inj j (by simpa using hj)
  unfold hdB
  rw [h2]
  cases getL (hdA ((List.range (m + 1)).filter fun j => decide (g ≤ j)) (fun _ => 1)) (j : Int) <;> rfl
theorem fR_take (m g k : Nat) (hk : k < g) : { fR m g k with tg := putL (fR m g k).tg (tb k) (k : Int), hd := putL (fR m g k).hd (k : Int) (tb k, 1) } = fR m g (k + 1) := by
  have h1 := fR_none m g k
  have h2 := fR_free m g k hk
  unfold putL
  simp only [h1, h2, Option.isSome_none, Bool.false_eq_true, if_false]
  unfold fR tgB hdB
  rw [List.range_succ (n := k), List.map_append, List.map_append, ← List.append_assoc, ← List.append_assoc]
  rfl
end Go.Proofs.Ytcoclbcjbpjblaa
