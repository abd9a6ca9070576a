/-
  A TRIE IN MEMORY: which nodes there are, what stands at which; what a store turns.
-/
import Derived.Test.YtadlecnlgkhneaaTaV
namespace Go.Proofs.Ytadlecnlgkhneaa
open Go.RowKit

abbrev ptrN (o : Option Nat) : Value := .pointer (o.map fun b => ⟨b, 0, none⟩)
/-- a node's cells. -/
abbrev nodeC (z : AV) (N : Nat → Option Nat) (S : List (Nat × AV)) (k : Nat) : Array Value := nodeR (ptrN (N (2 * k))) (ptrN (N (2 * k + 1))) (.bool (getL S k).isSome) ((getL S k).getD z)
abbrev trieC (N : Nat → Option Nat) (S : List (Nat × AV)) (most : Int) : Array Value := #[ptrN (N 1), .int .i64 most, .int .i64 S.length]
structure TrieAt (tT tN : TypeId) (z : AV) (W : World) (tb : Nat) (N : Nat → Option Nat) (S : List (Nat × AV)) (most : Int) : Prop where
  row : W.heap[tb]? = some (.cells (trieC N S most) tT (0, 0))
  node : ∀ k b, N k = some b → W.heap[b]? = some (.cells (nodeC z N S k) tN (0, 0))
  inj : ∀ k k' b, N k = some b → N k' = some b → k = k'
  top : ∀ k, N k ≠ some tb
  up : ∀ k, 2 ≤ k → (N k).isSome → (N (k / 2)).isSome
  pos : N 0 = none
  dom : ∀ p ∈ S, (N p.1).isSome
  deep : ∀ k, 2 ^ 33 ≤ k → N k = none
  ap : KeysApart S
/-- a trie's own blocks. -/
def TOwn (tb : Nat) (N : Nat → Option Nat) (b : Nat) : Prop := b = tb ∨ ∃ k, N k = some b
section
variable {tT tN : TypeId} {z : AV} {W W' : World} {tb : Nat} {N : Nat → Option Nat} {S : List (Nat × AV)} {most : Int}
theorem TrieAt.lt (h : TrieAt tT tN z W tb N S most) : tb < W.heap.size := row_lt h.row
theorem TrieAt.nlt (h : TrieAt tT tN z W tb N S most) {k b : Nat} (hb : N k = some b) : b < W.heap.size := row_lt (h.node k b hb)
theorem TrieAt.own_lt (h : TrieAt tT tN z W tb N S most) {b : Nat} (hb : TOwn tb N b) : b < W.heap.size := by
  rcases hb with rfl | ⟨k, hb⟩
  · exact h.lt
  · exact h.nlt hb
theorem TrieAt.of_blocks (h : TrieAt tT tN z W tb N S most) (hb : ∀ b, TOwn tb N b → W'.heap[b]? = W.heap[b]?) : TrieAt tT tN z W' tb N S most :=
  ⟨(hb tb (.inl rfl)).trans h.row, fun k b hk => (hb b (.inr ⟨k, hk⟩)).trans (h.node k b hk), h.inj, h.top, h.up, h.pos, h.dom, h.deep, h.ap⟩
theorem TrieAt.below (h : TrieAt tT tN z W tb N S most) (hb : Below W.heap.size W W') : TrieAt tT tN z W' tb N S most := h.of_blocks fun _ ho => hb.block _ (h.own_lt ho)
theorem TrieAt.kept {F : Nat → Prop} (h : TrieAt tT tN z W tb N S most) (hk : Kept F W W') (hF : ∀ b, TOwn tb N b → ¬ F b) : TrieAt tT tN z W' tb N S most := h.of_blocks fun b ho => hk.block b (h.own_lt ho) (hF b ho)
theorem ptrN_some (b : Nat) : ptrN (some b) = .pointer (some ⟨b, 0, none⟩) := rfl
theorem TrieAt.cells (h : TrieAt tT tN z W tb N S most) : W.cell? ⟨tb, 0, none⟩ = some (ptrN (N 1)) ∧ W.cell? ⟨tb, 1, none⟩ = some (.int .i64 most) ∧ W.cell? ⟨tb, 2, none⟩ = some (.int .i64 S.length) :=
  ⟨row_cell h.row 0, row_cell h.row 1, row_cell h.row 2⟩
theorem TrieAt.ncells (h : TrieAt tT tN z W tb N S most) {k b : Nat} (hb : N k = some b) : W.cell? ⟨b, 0, none⟩ = some (ptrN (N (2 * k))) ∧ W.cell? ⟨b, 1, none⟩ = some (ptrN (N (2 * k + 1))) ∧ W.cell? ⟨b, 2, none⟩ = some (.bool (getL S k).isSome) :=
  ⟨row_cell (h.node k b hb) 0, row_cell (h.node k b hb) 1, row_cell (h.node k b hb) 2⟩
theorem TrieAt.dom' (h : TrieAt tT tN z W tb N S most) {k : Nat} (hk : (getL S k).isSome = true) : ∃ b, N k = some b := by
  obtain ⟨v, hv⟩ := Option.isSome_iff_exists.1 hk
  exact Option.isSome_iff_exists.1 (h.dom _ (getL_mem hv))
theorem TrieAt.none_of (h : TrieAt tT tN z W tb N S most) {k : Nat} (hk : N k = none) : getL S k = none := by
  cases hg : getL S k with
  | none => rfl
  | some v => obtain ⟨b, hb⟩ := h.dom' (k := k) (by rw [hg]; rfl); rw [hk] at hb; cases hb
theorem TrieAt.up_none (h : TrieAt tT tN z W tb N S most) {k : Nat} (hk : N k = none) (h1 : 1 ≤ k) : N (2 * k) = none ∧ N (2 * k + 1) = none := by
  constructor
  · cases hg : N (2 * k) with
    | none => rfl
    | some v =>
      have := h.up (2 * k) (by omega) (by rw [hg]; rfl)
      rw [show 2 * k / 2 = k by omega, hk] at this; cases this
  · cases hg : N (2 * k + 1) with
    | none => rfl
    | some v =>
      have := h.up (2 * k + 1) (by omega) (by rw [hg]; rfl)
      rw [show (2 * k + 1) / 2 = k by omega, hk] at this; cases this
/-- where a node hangs. -/
def SlotAt (tb : Nat) (N : Nat → Option Nat) (κ : Nat) (ad : Addr) : Prop := (κ = 1 ∧ ad = ⟨tb, 0, none⟩) ∨ (2 ≤ κ ∧ ∃ b, N (κ / 2) = some b ∧ ad = ⟨b, κ % 2, none⟩)
theorem SlotAt.cell {κ : Nat} {ad : Addr} (h : TrieAt tT tN z W tb N S most) (hs : SlotAt tb N κ ad) : W.cell? ad = some (ptrN (N κ)) ∧ W.frozen? ad = false := by
  rcases hs with ⟨rfl, rfl⟩ | ⟨h2, b, hb, rfl⟩
  · exact ⟨h.cells.1, row_free h.row 0⟩
  · refine ⟨?_, row_free (h.node _ _ hb) _⟩
    obtain ⟨c0, c1, _⟩ := h.ncells hb
    rcases Nat.mod_two_eq_zero_or_one κ with e | e
    · rw [e, c0, show 2 * (κ / 2) = κ by omega]
    · rw [e, c1, show 2 * (κ / 2) + 1 = κ by omega]
def updN (N : Nat → Option Nat) (κ : Nat) (o : Option Nat) : Nat → Option Nat := fun k => if k = κ then o else N k
theorem updN_same (N : Nat → Option Nat) (κ : Nat) (o : Option Nat) : updN N κ o κ = o := if_pos rfl
theorem updN_ne (N : Nat → Option Nat) {κ k : Nat} (o : Option Nat) (h : k ≠ κ) : updN N κ o k = N k := if_neg h
/-- a slot is turned: the node that hangs there is another one. -/
theorem TrieAt.hang {W1 : World} {κ : Nat} {ad : Addr} {o : Option Nat} (h : TrieAt tT tN z W tb N S most) (hB : Below W.heap.size W W1) (hs : SlotAt tb N κ ad) (h1 : 1 ≤ κ) (hd : κ < 2 ^ 33)
    (hold : N κ = none ∨ o = none) (hk0 : getL S κ = none) (hl : N (2 * κ) = none) (hr : N (2 * κ + 1) = none) (hnew : ∀ nb, o = some nb → W.heap.size ≤ nb ∧ W1.heap[nb]? = some (.cells (nodeR (.pointer none) (.pointer none) (.bool false) z) tN (0, 0))) :
    TrieAt tT tN z (W1.setCell ad (ptrN o)) tb (updN N κ o) S most := by
  have g := h.below hB
  have hne : ∀ nb, o = some nb → nb ≠ tb ∧ ∀ k, N k ≠ some nb := fun nb e => ⟨by have := (hnew nb e).1; have := h.lt; omega, fun k hk => by have := (hnew nb e).1; have := h.nlt hk; omega⟩
  have hub : ∀ k b, updN N κ o k = some b → (k = κ ∧ o = some b) ∨ (k ≠ κ ∧ N k = some b) := by
    intro k b hk
    by_cases e : k = κ
    · subst e; rw [updN_same] at hk; exact .inl ⟨rfl, hk⟩
    · rw [updN_ne _ _ e] at hk; exact .inr ⟨e, hk⟩
  -- how a node's row turns
  have hrow : ∀ k b, k ≠ κ → N k = some b → (W1.setCell ad (ptrN o)).heap[b]? = some (.cells (nodeC z (updN N κ o) S k) tN (0, 0)) := by
    intro k b hk hb
    by_cases e : κ / 2 = k ∧ 2 ≤ κ
    · obtain ⟨e, e2⟩ := e
      rcases hs with ⟨rfl, _⟩ | ⟨_, b', hb', rfl⟩
      · omega
      rw [e] at hb'
      obtain rfl : b' = b := by rw [hb] at hb'; exact (Option.some.inj hb').symm
      rw [set_same (g.node k b' hb)]
      congr 2
      rcases Nat.mod_two_eq_zero_or_one κ with m | m
      · obtain rfl : κ = 2 * k := by omega
        rw [m]
        simp [nodeC, updN_same, updN_ne]
      · obtain rfl : κ = 2 * k + 1 := by omega
        rw [m]
        simp [nodeC, updN_same, updN_ne]
    · have hbo : b ≠ ad.block := by
        rcases hs with ⟨rfl, rfl⟩ | ⟨h2, b', hb', rfl⟩
        · intro e'
          simp only at e'
          subst e'
          exact h.top k hb
        · intro e'
          simp only at e'
          subst e'
          exact e ⟨(h.inj _ _ _ hb' hb), h2⟩
      have hcell : (W1.setCell ad (ptrN o)).heap[b]? = W1.heap[b]? := Deep.blk_setCell_other W1 ad (ptrN o) b hbo
      rw [hcell, g.node k b hb]
      have e2 : 2 * k ≠ κ := fun x => by
        by_cases k0 : k = 0
        · subst k0; omega
        · exact e ⟨by omega, by omega⟩
      have e3 : 2 * k + 1 ≠ κ := fun x => by
        by_cases k0 : k = 0
        · subst k0; rw [h.pos] at hb; cases hb
        · exact e ⟨by omega, by omega⟩
      simp only [nodeC, updN_ne _ _ e2, updN_ne _ _ e3]
  refine ⟨?_, ?_, ?_, ?_, ?_, ?_, ?_, ?_, h.ap⟩
  · rcases hs with ⟨rfl, rfl⟩ | ⟨h2, b', hb', rfl⟩
    · rw [set_same g.row]
      simp [trieC, updN_same]
    · rw [set_other _ _ _ (fun e => h.top _ (e ▸ hb')), g.row]
      simp only [trieC, updN_ne N o (show 1 ≠ κ by omega)]
  · intro k b hk
    rcases hub k b hk with ⟨rfl, ho⟩ | ⟨e, hb⟩
    · have hbo : b ≠ ad.block := by
        rcases hs with ⟨_, rfl⟩ | ⟨_, b', hb', rfl⟩
        · exact (hne b ho).1
        · intro e'
          simp only at e'
          subst e'
          exact (hne b ho).2 _ hb'
      have hcell : (W1.setCell ad (ptrN o)).heap[b]? = W1.heap[b]? := Deep.blk_setCell_other W1 ad (ptrN o) b hbo
      rw [hcell, (hnew b ho).2]
      simp only [nodeC, updN_ne N o (show 2 * k ≠ k by omega), updN_ne N o (show 2 * k + 1 ≠ k by omega), hl, hr, hk0]
      rfl
    · exact hrow k b e hb
  · intro k k' b hk hk'
    rcases hub k b hk with ⟨rfl, ho⟩ | ⟨e, hb⟩ <;> rcases hub k' b hk' with ⟨rfl, ho'⟩ | ⟨e', hb'⟩
    · rfl
    · exact absurd hb' ((hne b ho).2 _)
    · exact absurd hb ((hne b ho').2 _)
    · exact h.inj _ _ _ hb hb'
  · intro k hk
    rcases hub k tb hk with ⟨rfl, ho⟩ | ⟨e, hb⟩
    · exact (hne tb ho).1 rfl
    · exact h.top k hb
  · intro k h2 hk
    by_cases e : k / 2 = κ
    · have e2 : k ≠ κ := by omega
      rw [updN_ne _ _ e2] at hk
      have : k = 2 * κ ∨ k = 2 * κ + 1 := by omega
      rcases this with rfl | rfl
      · rw [hl] at hk; cases hk
      · rw [hr] at hk; cases hk
    · rw [updN_ne _ _ e]
      by_cases e2 : k = κ
      · subst e2
        rcases hs with ⟨rfl, _⟩ | ⟨_, b', hb', _⟩
        · omega
        · rw [hb']; rfl
      · rw [updN_ne _ _ e2] at hk
        exact h.up k h2 hk
  · rw [updN_ne _ _ (by omega)]; exact h.pos
  · intro p hp
    have e : p.1 ≠ κ := by
      intro e
      have := getL_none.1 hk0 p hp
      exact this e
    rw [updN_ne _ _ e]
    exact h.dom p hp
  · intro k hk
    rw [updN_ne _ _ (by omega)]
    exact h.deep k hk
/-- what stands at a node is turned. -/
theorem TrieAt.turn {κ b : Nat} {S' : List (Nat × AV)} (h : TrieAt tT tN z W tb N S most) (hb : N κ = some b) (hrow : W'.heap[tb]? = some (.cells (trieC N S' most) tT (0, 0))) (hnode : W'.heap[b]? = some (.cells (nodeC z N S' κ) tN (0, 0)))
    (hoth : ∀ g, g ≠ tb → g ≠ b → W'.heap[g]? = W.heap[g]?) (hg : ∀ k, k ≠ κ → getL S' k = getL S k) (hap : KeysApart S') : TrieAt tT tN z W' tb N S' most := by
  refine ⟨hrow, ?_, h.inj, h.top, h.up, h.pos, ?_, h.deep, hap⟩
  · intro k c hk
    by_cases e : k = κ
    · subst e
      rw [hb] at hk
      obtain rfl := Option.some.inj hk
      exact hnode
    · rw [hoth c (fun x => h.top k (x ▸ hk)) (fun x => e (h.inj _ _ _ hk (x ▸ hb))), h.node k c hk]
      simp only [nodeC, hg k e]
  · intro p hp
    by_cases e : p.1 = κ
    · rw [e, hb]; rfl
    · have : getL S p.1 = some p.2 := by rw [← hg p.1 e]; exact getL_of_mem hap hp
      exact h.dom _ (getL_mem this)
theorem getL_snoc (S : List (Nat × AV)) (κ k : Nat) (v : AV) : getL (delL S κ ++ [(κ, v)]) k = if k = κ then some v else getL S k := by
  rw [getL_append, getL_del]
  by_cases e : k = κ
  · subst e; simp [getL]
  · rw [if_neg e, if_neg e]
    simp [getL, Ne.symm e]
theorem apart_snoc {S : List (Nat × AV)} (h : KeysApart S) (κ : Nat) (v : AV) : KeysApart (delL S κ ++ [(κ, v)]) := by
  unfold KeysApart
  rw [List.pairwise_append]
  refine ⟨apart_del h κ, by simp, ?_⟩
  intro p hp q hq
  simp at hq
  subst hq
  exact (mem_del.1 hp).2
theorem len_snoc {S : List (Nat × AV)} (h : KeysApart S) (κ : Nat) (v : AV) : (delL S κ ++ [(κ, v)]).length = if (getL S κ).isSome then S.length else S.length + 1 := by
  rw [List.length_append, len_del h]
  cases hg : getL S κ with
  | none => simp
  | some x =>
    have : 0 < S.length := List.length_pos_of_mem (getL_mem hg)
    simp; omega
theorem TrieAt.putNew {κ b : Nat} (h : TrieAt tT tN z W tb N S most) (hb : N κ = some b) (hno : getL S κ = none) (v : AV) :
    TrieAt tT tN z (setAV ((W.setCell ⟨b, 2, none⟩ (.bool true)).setCell ⟨tb, 2, none⟩ (.int .i64 ((S.length : Int) + 1))) b v) tb N (delL S κ ++ [(κ, v)]) most := by
  have hne : b ≠ tb := fun e => h.top κ (e ▸ hb)
  refine h.turn hb ?_ ?_ ?_ ?_ (apart_snoc h.ap κ v)
  · rw [setAV_other (Ne.symm hne), set_same ((set_other _ _ _ (Ne.symm hne)).trans h.row)]
    congr 2
    have e := len_snoc h.ap κ v
    rw [hno] at e
    simp only [trieC, e]
    rfl
  · have r1 := set_same (h.node κ b hb) 2 (.bool true)
    have r2 : ((W.setCell ⟨b, 2, none⟩ (.bool true)).setCell ⟨tb, 2, none⟩ (.int .i64 ((S.length : Int) + 1))).heap[b]? = _ := (set_other _ _ _ hne).trans r1
    rw [setAV_row r2]
    simp [nodeC, getL_snoc]
  · intro g h1 h2
    rw [setAV_other h2, set_other _ _ _ h1, set_other _ _ _ h2]
  · intro k hk
    rw [getL_snoc, if_neg hk]
theorem TrieAt.putOld {κ b : Nat} (h : TrieAt tT tN z W tb N S most) (hb : N κ = some b) (hy : (getL S κ).isSome = true) (v : AV) :
    TrieAt tT tN z (setAV W b v) tb N (delL S κ ++ [(κ, v)]) most := by
  have hne : b ≠ tb := fun e => h.top κ (e ▸ hb)
  refine h.turn hb ?_ ?_ ?_ ?_ (apart_snoc h.ap κ v)
  · rw [setAV_other (Ne.symm hne), h.row, trieC, trieC, len_snoc h.ap, hy]
    rfl
  · rw [setAV_row (h.node κ b hb)]
    simp [nodeC, getL_snoc, hy]
  · intro g h1 h2
    rw [setAV_other h2]
  · intro k hk
    rw [getL_snoc, if_neg hk]
theorem TrieAt.dropAt {κ b : Nat} (h : TrieAt tT tN z W tb N S most) (hb : N κ = some b) (hy : (getL S κ).isSome = true) (hrow : W'.heap[b]? = some (.cells (nodeR (ptrN (N (2 * κ))) (ptrN (N (2 * κ + 1))) (.bool false) z) tN (0, 0))) (hoth : ∀ g, g < W.heap.size → g ≠ b → W'.heap[g]? = W.heap[g]?) :
    TrieAt tT tN z (W'.setCell ⟨tb, 2, none⟩ (.int .i64 ((S.length : Int) - 1))) tb N (delL S κ) most := by
  have hne : b ≠ tb := fun e => h.top κ (e ▸ hb)
  refine ⟨?_, ?_, h.inj, h.top, h.up, h.pos, ?_, h.deep, apart_del h.ap κ⟩
  · rw [set_same ((hoth _ h.lt (Ne.symm hne)).trans h.row)]
    congr 2
    have hp : 0 < S.length := by
      obtain ⟨v, hv⟩ := Option.isSome_iff_exists.1 hy
      exact List.length_pos_of_mem (getL_mem hv)
    have e := len_del h.ap κ
    rw [hy] at e
    simp only [if_true] at e
    simp only [trieC, e]
    simp
    omega
  · intro k c hk
    have hct : c ≠ tb := fun x => h.top k (x ▸ hk)
    rw [set_other _ _ _ hct]
    by_cases e : k = κ
    · subst e
      rw [hb] at hk
      obtain rfl := Option.some.inj hk
      rw [hrow]
      simp [nodeC, getL_del]
    · rw [hoth c (h.nlt hk) (fun x => e (h.inj _ _ _ hk (x ▸ hb))), h.node k c hk]
      simp only [nodeC, getL_del, if_neg e]
  · intro p hp
    exact h.dom _ (mem_del.1 hp).1
end
end Go.Proofs.Ytadlecnlgkhneaa
