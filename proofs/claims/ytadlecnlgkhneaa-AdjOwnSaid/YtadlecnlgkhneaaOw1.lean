/- Texts of one proof, one behind another. -/
import Derived.WalkKit
import Derived.WalkSpells
import Derived.WalkLawsBesides
import Derived.OrdersHeld
import Derived.Deep.RegionHeld
import Derived.Lib.Hide
import Derived.Outline
import Derived.Deep.DeepFit
import Derived.KernelRfl
import Derived.Laws.Tables
import Derived.Maps.Range
import Derived.DeepKeys4
import Derived.Deep.Heap
import Derived.Laws.CopyOwn
import Derived.Laws.Rows
import Derived.Deep.WholeRow
/-
  SMALL LAWS FOR A STATEMENT THAT DRAWS ITS ORDER AND HOLDS CALLS THAT MAKE MEMORY: its operations are taken one by one; 'S' holds of the world throughout. And what is known of memory that was there before.
-/
namespace Go.Proofs.Ytadlecnlgkhneaa
open Go.RowKit

theorem ret_int {k : IntKind} {a b : Int} (h : a = b) : Ending.returned (.int k a) = .returned (.int k b) := by rw [h]
theorem ret_bool {a b : Bool} (h : a = b) : Ending.returned (.bool a) = .returned (.bool b) := by rw [h]

/-! ### An operation by its place -/
theorem at0 {α : Type} {x : α} {l : List α} : (List.toArray (x :: l))[0]? = some x := by simp
theorem atS {α : Type} {x y : α} {l : List α} {n : Nat} (h : (List.toArray l)[n]? = some x) : (List.toArray (y :: l))[n + 1]? = some x := by simpa using h

section
variable {P : Program} {ops : Array Oper} {Q : Exit → Act → World → Prop} {md : Region.Mode} {S : World → Prop}
/-- an operation whose guard is false is passed by. -/
theorem rg_no {i : Nat} {oi : Oper} {fuel : Nat} {listed : Array Bool} {a : Act} {w : World} (hi : ops[i]? = some oi)
    (hs : Region.noSelect ops = true) (hf : Region.free md ops listed i = true) (hr : (Region.ready md ops listed).contains i = true)
    (hQ : ∀ c a w, Q (.panic c) (a.put oi.dst undef) w → Q (.panic c) a w) (hw : Region.wanted oi (yielded ops a.tmps) = false) (hS : S w)
    (h : wpAnyH P md ops Q S fuel (listed.setIfInBounds i true) (a.put oi.dst undef) w) : wpAnyH P md ops Q S (fuel + 1) listed a w :=
  wpAnyH_take hi hs hf hr hQ (.inr ⟨hw, rfl⟩) hS h
/-- an operation that only computes, or reads what S says of memory. -/
theorem rg_yes {i : Nat} {oi : Oper} {v : Value} {fuel : Nat} {listed : Array Bool} {a : Act} {w : World} (hi : ops[i]? = some oi)
    (hs : Region.noSelect ops = true) (hf : Region.free md ops listed i = true) (hr : (Region.ready md ops listed).contains i = true)
    (hQ : ∀ c a w, Q (.panic c) (a.put oi.dst v) w → Q (.panic c) a w) (hw : Region.wanted oi (yielded ops a.tmps) = true) (hy : ∀ w, S w → (execOp a.eval oi).run P w = .ok (.value v) w) (hS : S w)
    (h : wpAnyH P md ops Q S fuel (listed.setIfInBounds i true) (a.put oi.dst v) w) : wpAnyH P md ops Q S (fuel + 1) listed a w :=
  wpAnyH_take hi hs hf hr hQ (.inl ⟨hw, hy⟩) hS h
/-- an operation that comes up alone and is carried out here: a call, a store. -/
theorem rg_call {i : Nat} {oi : Oper} {fuel : Nat} {listed : Array Bool} {a : Act} {w : World} (hi : ops[i]? = some oi)
    (hr : Region.ready md ops listed = [i]) (hw : Region.wanted oi (yielded ops a.tmps) = true)
    (h : ∀ K' : Act → World → Prop, Shut (∀ a w, S w → (S w → wpAnyH P md ops Q S fuel (listed.setIfInBounds i true) a w) → K' a w) → Oper.wp P oi a w K' Q) : wpAnyH P md ops Q S (fuel + 1) listed a w :=
  wpAnyH_ready (rs := [i]) hr (by simp) (AllReadyH.cons hi (fun K hK => by rw [if_pos hw]; exact h K hK) AllReadyH.nil)
end

/-! ### What was there stays -/
theorem cell_below {W W' : World} {a : Addr} {v : Value} (h : W.cell? a = some v) (hb : Below W.heap.size W W') : W'.cell? a = some v :=
  (hb.cell (World.block_lt_of_cell? W a h)).trans h
theorem below_step {B : Nat} {w W W' : World} (h : Below B w W) (hB : B ≤ w.heap.size) (hb : Below W.heap.size W W') : Below B w W' :=
  h.trans (hb.mono (Nat.le_trans hB h.size))
theorem below_on {w W W' : World} (h : Below w.heap.size w W) (hb : Below W.heap.size W W') : Below w.heap.size w W' := below_step h (Nat.le_refl _) hb
theorem below_same (w : World) : Below w.heap.size w w := Below.refl _ _
theorem size_lt {W : World} {b o : Nat} {v : Value} (h : W.cell? ⟨b, o, none⟩ = some v) : b < W.heap.size := World.block_lt_of_cell? W _ h
/-- a value of two cells that is boxed at the call's beginning. -/
theorem box2 (w : World) (v0 v1 : Value) (T : TypeId) : ∃ W0, W0 = w.alloc (.cells #[v0, v1] T) ∧ W0.cell? ⟨w.heap.size, 0, none⟩ = some v0 ∧ W0.cell? ⟨w.heap.size, 1, none⟩ = some v1 ∧ Below w.heap.size w W0 := by
  refine ⟨_, rfl, ?_, ?_, (Below.refl _ _).alloc (Nat.le_refl _) _⟩ <;> simp
/-- two values of two cells that are boxed at the call's beginning. -/
theorem box22 (w : World) (v0 v1 u0 u1 : Value) (T U : TypeId) : ∃ W0, W0 = (w.alloc (.cells #[v0, v1] T)).alloc (.cells #[u0, u1] U) ∧ W0.cell? ⟨w.heap.size, 0, none⟩ = some v0 ∧ W0.cell? ⟨w.heap.size, 1, none⟩ = some v1 ∧
    W0.cell? ⟨w.heap.size + 1, 0, none⟩ = some u0 ∧ W0.cell? ⟨w.heap.size + 1, 1, none⟩ = some u1 ∧ Below w.heap.size w W0 := by
  refine ⟨_, rfl, ?_, ?_, ?_, ?_, ((Below.refl _ _).alloc (Nat.le_refl _) _).alloc (by simp) _⟩ <;> simp
theorem box222 (w : World) (v0 v1 u0 u1 x0 x1 : Value) (T U V : TypeId) : ∃ W0, W0 = ((w.alloc (.cells #[v0, v1] T)).alloc (.cells #[u0, u1] U)).alloc (.cells #[x0, x1] V) ∧ W0.cell? ⟨w.heap.size, 0, none⟩ = some v0 ∧ W0.cell? ⟨w.heap.size, 1, none⟩ = some v1 ∧
    W0.cell? ⟨w.heap.size + 1, 0, none⟩ = some u0 ∧ W0.cell? ⟨w.heap.size + 1, 1, none⟩ = some u1 ∧ W0.cell? ⟨w.heap.size + 2, 0, none⟩ = some x0 ∧ W0.cell? ⟨w.heap.size + 2, 1, none⟩ = some x1 ∧ Below w.heap.size w W0 := by
  obtain ⟨W1, hW1, c0, c1, d0, d1, hB⟩ := box22 w v0 v1 u0 u1 T U
  have hz : W1.heap.size = w.heap.size + 2 := by rw [hW1]; simp
  obtain ⟨W2, hW2, e0, e1, hB2⟩ := box2 W1 x0 x1 V
  rw [hz] at e0 e1
  exact ⟨W2, by rw [hW2, hW1], cell_below c0 hB2, cell_below c1 hB2, cell_below d0 hB2, cell_below d1 hB2, e0, e1, below_on hB hB2⟩
/-- a contract that leaves the world alone, as one that only makes memory. -/
theorem calls_below {P : Program} {f : FuncId} {args : Array Value} {w : World} {E : Ending → Prop} (h : Calls P f args w fun e w' => E e ∧ w = w') : Calls P f args w fun e w' => E e ∧ Below w.heap.size w w' :=
  h.mono fun _ _ ⟨a, b⟩ => ⟨a, b ▸ below_same _⟩
end Go.Proofs.Ytadlecnlgkhneaa

/-
  A STATEMENT THAT DRAWS ITS ORDER, WHERE TWO OPERATIONS THAT TOUCH MEMORY MAY COME UP; whole values stored.
-/
namespace Go.Proofs.Ytadlecnlgkhneaa
open Go.RowKit
section
variable {P : Program} {ops : Array Oper} {Q : Exit → Act → World → Prop} {md : Region.Mode} {S : World → Prop}
/-- two operations come up: each is carried out. -/
theorem rg_call2 {i j : Nat} {oi oj : Oper} {fuel : Nat} {listed : Array Bool} {a : Act} {w : World} (hi : ops[i]? = some oi) (hj : ops[j]? = some oj)
    (hr : Region.ready md ops listed = [i, j]) (hw : Region.wanted oi (yielded ops a.tmps) = true) (hv : Region.wanted oj (yielded ops a.tmps) = true)
    (h : ∀ K' : Act → World → Prop, Shut (∀ a w, S w → (S w → wpAnyH P md ops Q S fuel (listed.setIfInBounds i true) a w) → K' a w) → Oper.wp P oi a w K' Q)
    (h2 : ∀ K' : Act → World → Prop, Shut (∀ a w, S w → (S w → wpAnyH P md ops Q S fuel (listed.setIfInBounds j true) a w) → K' a w) → Oper.wp P oj a w K' Q) : wpAnyH P md ops Q S (fuel + 1) listed a w :=
  wpAnyH_ready (rs := [i, j]) hr (by simp) (AllReadyH.cons hi (fun K hK => by rw [if_pos hw]; exact h K hK) (AllReadyH.cons hj (fun K hK => by rw [if_pos hv]; exact h2 K hK) AllReadyH.nil))
end
/-- a whole value is stored where one lay. -/
theorem wp_store_rowat {P : Program} {o : Oper} {a : Act} {w : World} {K : Act → World → Prop} {Q : Exit → Act → World → Prop} (ty : TypeId) (x y : Operand) (ho : o.op = .store ty x y)
    (g : Nat) (hx : a.eval x = .pointer (some ⟨g, 0, none⟩)) (t : TypeId) (old cs : Array Value) (hy : a.eval y = .agg cs) (hg : w.heap[g]? = some (.cells old t (0, 0))) (hi : (P.info? ty).map (·.size) = some cs.size) (hs : old.size = cs.size) (h1 : cs.all (·.oneCell') = true)
    (h : K (a.put o.dst undef) (w.setRow g cs)) : o.wp P a w K Q := by
  unfold Oper.wp execOp
  simp only [ho, hx, hy, Instr.storeAt, Instr.sureAddr, Sem.run_bind, Sem.run_pure, Result.andThen_ok, run_storeVar_row w g t ty old cs hg hi hs h1]
  exact h
end Go.Proofs.Ytadlecnlgkhneaa

/-
  MAPS AS LISTS OF PAIRS: a map's block in memory holds, one by one, the pairs of a list; look-up, store, delete, length, range.
-/
namespace Go.Proofs.Ytadlecnlgkhneaa
open Go.RowKit Go.Maps Go.ChangeMaps Go.MapKept

section
variable {κ υ : Type} [DecidableEq κ]
/-- how keys of a type stand for values. -/
structure KeyEnc (P : Program) (kt : TypeId) (ek : κ → Value) (ok : κ → Prop) : Prop where
  K : Keyed P kt
  lit : ∀ a, ok a → ∃ l, keyOf P kt (ek a) = some l
  inj : ∀ a b, ek a = ek b → a = b
def MapT (ek : κ → Value) (ev : υ → Value) (ok : κ → Prop) (W : World) (b : Nat) (l : List (κ × υ)) : Prop :=
  ∃ es clock, W.heap[b]? = some (.map es clock) ∧ Stamped es clock ∧ es.size ≤ maxLen ∧ es.toList.map (fun e => (e.key, e.val)) = l.map (fun p => (ek p.1, ev p.2)) ∧ ∀ p ∈ l, ok p.1
/-- what stands at a key. -/
def getL (l : List (κ × υ)) (a : κ) : Option υ := (l.find? fun p => p.1 = a).map (·.2)
def putL (l : List (κ × υ)) (a : κ) (v : υ) : List (κ × υ) := if (getL l a).isSome then l.map (fun p => if p.1 = a then (a, v) else p) else l ++ [(a, v)]
def delL (l : List (κ × υ)) (a : κ) : List (κ × υ) := l.filter fun p => !decide (p.1 = a)
def KeysApart (l : List (κ × υ)) : Prop := l.Pairwise fun p q => p.1 ≠ q.1

theorem getL_none {l : List (κ × υ)} {a : κ} : getL l a = none ↔ ∀ p ∈ l, p.1 ≠ a := by
  unfold getL
  simp [List.find?_eq_none]
theorem getL_mem {l : List (κ × υ)} {a : κ} {v : υ} (h : getL l a = some v) : (a, v) ∈ l := by
  unfold getL at h
  simp only [Option.map_eq_some_iff] at h
  obtain ⟨p, hp, rfl⟩ := h
  have h1 := List.find?_some hp
  have h2 := List.mem_of_find?_eq_some hp
  simp at h1
  rw [← h1]; exact h2
theorem getL_of_mem {l : List (κ × υ)} {a : κ} {v : υ} (hd : KeysApart l) (h : (a, v) ∈ l) : getL l a = some v := by
  induction l with
  | nil => cases h
  | cons p r ih =>
    unfold KeysApart at hd
    obtain ⟨h1, h2⟩ := List.pairwise_cons.1 hd
    by_cases hp : p.1 = a
    · rcases List.mem_cons.1 h with e | h
      · unfold getL; rw [List.find?_cons_of_pos (by simpa using hp), ← e]; rfl
      · exact absurd hp (h1 _ h)
    · rcases List.mem_cons.1 h with e | h
      · rw [← e] at hp; exact absurd rfl hp
      · have := ih h2 h
        unfold getL at this ⊢
        rw [List.find?_cons_of_neg (by simpa using hp)]; exact this
theorem getL_iff {l : List (κ × υ)} {a : κ} {v : υ} (hd : KeysApart l) : getL l a = some v ↔ (a, v) ∈ l := ⟨getL_mem, getL_of_mem hd⟩
theorem getL_append (l m : List (κ × υ)) (a : κ) : getL (l ++ m) a = (getL l a).or (getL m a) := by
  unfold getL; rw [List.find?_append]; cases l.find? _ <;> rfl
theorem getL_map_put (l : List (κ × υ)) (a b : κ) (v : υ) : getL (l.map fun p => if p.1 = a then (a, v) else p) b = if b = a then (getL l a).map (fun _ => v) else getL l b := by
  induction l with
  | nil => simp [getL]
  | cons p r ih =>
    unfold getL at ih ⊢
    simp only [List.map_cons, List.find?_cons]
    by_cases hp : p.1 = a
    · by_cases hb : b = a
      · subst hb; simp [hp]
      · have hb' : ¬ a = b := fun e => hb e.symm
        have : ¬ p.1 = b := by rw [hp]; exact hb'
        simp only [hp, if_true, hb', if_false, hb] at ih ⊢
        simpa [hb'] using ih
    · by_cases hb : b = a
      · subst hb; simp only [hp, if_false, decide_false, if_true] at ih ⊢; exact ih
      · by_cases hpb : p.1 = b
        · subst hpb; simp [hp]
        · simp only [hp, if_false, hpb, decide_false, hb] at ih ⊢; exact ih
theorem getL_put (l : List (κ × υ)) (a b : κ) (v : υ) : getL (putL l a v) b = if b = a then some v else getL l b := by
  unfold putL
  split
  · rename_i h
    rw [getL_map_put]
    split
    · cases hg : getL l a with
      | none => rw [hg] at h; cases h
      | some x => rfl
    · rfl
  · rename_i h
    rw [getL_append]
    have hn : getL l a = none := by cases hg : getL l a with
      | none => rfl
      | some x => rw [hg] at h; exact absurd rfl h
    by_cases hb : b = a
    · subst hb; rw [hn, if_pos rfl]; simp [getL]
    · rw [if_neg hb]
      have : getL [(a, v)] b = none := by rw [getL_none]; intro p hp; simp at hp; subst hp; exact fun e => hb e.symm
      rw [this]; cases getL l b <;> rfl
theorem getL_del (l : List (κ × υ)) (a b : κ) : getL (delL l a) b = if b = a then none else getL l b := by
  split
  · rename_i h; subst h
    rw [getL_none]; intro p hp
    have := (List.mem_filter.1 hp).2
    simpa using this
  · rename_i h
    unfold getL delL
    rw [List.find?_filter]
    congr 1
    have : (fun p : κ × υ => decide ((!decide (p.1 = a)) = true ∧ decide (p.1 = b) = true)) = fun p => decide (p.1 = b) := by
      funext p
      by_cases hp : p.1 = b
      · subst hp; simp [h]
      · simp [hp]
    rw [this]
theorem apart_put {l : List (κ × υ)} (hd : KeysApart l) (a : κ) (v : υ) : KeysApart (putL l a v) := by
  unfold putL KeysApart at *
  split
  · rw [List.pairwise_map]
    refine hd.imp ?_
    intro p q h
    by_cases hp : p.1 = a
    · by_cases hq : q.1 = a
      · exact absurd (hp.trans hq.symm) h
      · simp only [hp, hq, if_true, if_false]; exact fun e => hq e.symm
    · by_cases hq : q.1 = a
      · simp only [hp, hq, if_true, if_false]; exact hp
      · simp only [hp, hq, if_false]; exact h
  · rename_i h
    have hn : getL l a = none := by cases hg : getL l a with
      | none => rfl
      | some x => rw [hg] at h; exact absurd rfl h
    rw [getL_none] at hn
    rw [List.pairwise_append]
    refine ⟨hd, by simp, fun p hp q hq => ?_⟩
    simp at hq; subst hq; exact hn p hp
theorem apart_del {l : List (κ × υ)} (hd : KeysApart l) (a : κ) : KeysApart (delL l a) := hd.filter _
theorem mem_put {l : List (κ × υ)} {a : κ} {v : υ} {p : κ × υ} (h : p ∈ putL l a v) : (p ∈ l ∧ p.1 ≠ a) ∨ p = (a, v) := by
  unfold putL at h
  split at h
  · obtain ⟨q, hq, rfl⟩ := List.mem_map.1 h
    by_cases hp : q.1 = a
    · right; simp [hp]
    · left; simp only [hp, if_false]; exact ⟨hq, hp⟩
  · rename_i hn
    rcases List.mem_append.1 h with h | h
    · left
      refine ⟨h, ?_⟩
      have hg : getL l a = none := by cases hg : getL l a with
        | none => rfl
        | some x => rw [hg] at hn; exact absurd rfl hn
      exact getL_none.1 hg p h
    · right; simpa using h
theorem mem_del {l : List (κ × υ)} {a : κ} {p : κ × υ} : p ∈ delL l a ↔ p ∈ l ∧ p.1 ≠ a := by
  unfold delL; simp
theorem len_put (l : List (κ × υ)) (a : κ) (v : υ) : (putL l a v).length = if (getL l a).isSome then l.length else l.length + 1 := by
  unfold putL; split <;> simp
theorem len_del {l : List (κ × υ)} (hd : KeysApart l) (a : κ) : (delL l a).length = if (getL l a).isSome then l.length - 1 else l.length := by
  induction l with
  | nil => simp [delL, getL]
  | cons p r ih =>
    unfold KeysApart at hd
    obtain ⟨h1, h2⟩ := List.pairwise_cons.1 hd
    have ih := ih h2
    by_cases hp : p.1 = a
    · have e : getL (p :: r) a = some p.2 := by unfold getL; rw [List.find?_cons_of_pos (by simpa using hp)]; rfl
      have n : getL r a = none := getL_none.2 fun q hq e => h1 q hq (hp.trans e.symm)
      rw [n] at ih
      rw [e]
      unfold delL at ih ⊢
      rw [List.filter_cons_of_neg (by simpa using hp)]
      simpa using ih
    · have e : getL (p :: r) a = getL r a := by unfold getL; rw [List.find?_cons_of_neg (by simpa using hp)]
      rw [e]
      unfold delL at ih ⊢
      rw [List.filter_cons_of_pos (by simpa using hp)]
      cases hg : (getL r a).isSome
      · rw [hg] at ih; simp at ih ⊢; exact ih
      · rw [hg] at ih
        have : 0 < r.length := by
          cases r with
          | nil => simp [getL] at hg
          | cons _ _ => simp
        simp at ih ⊢; omega

variable {P : Program} {kt et t : TypeId} {ek : κ → Value} {ev : υ → Value} {ok : κ → Prop} {W W' : World} {b : Nat} {l : List (κ × υ)}

omit [DecidableEq κ] in
theorem MapT.lt (h : MapT ek ev ok W b l) : b < W.heap.size := by
  obtain ⟨es, c, hb, _⟩ := h
  exact (Array.getElem?_eq_some_iff.1 hb).1
omit [DecidableEq κ] in
theorem MapT.of_block (h : MapT ek ev ok W b l) (hb : W'.heap[b]? = W.heap[b]?) : MapT ek ev ok W' b l := by
  obtain ⟨es, c, h1, r⟩ := h
  exact ⟨es, c, hb.trans h1, r⟩
omit [DecidableEq κ] in
theorem MapT.below (h : MapT ek ev ok W b l) (hb : Below W.heap.size W W') : MapT ek ev ok W' b l := h.of_block (hb.block b h.lt)
omit [DecidableEq κ] in
theorem MapT.drew (h : MapT ek ev ok W b l) : MapT ek ev ok W.drew b l := h
omit [DecidableEq κ] in
theorem MapT.made (W : World) : MapT ek ev ok (W.alloc (.map #[] 0)) W.heap.size ([] : List (κ × υ)) :=
  ⟨#[], 0, heap_alloc_new W _, stamped_empty 0, by simp, rfl, by simp⟩
omit [DecidableEq κ] in
theorem MapT.oks (h : MapT ek ev ok W b l) : ∀ p ∈ l, ok p.1 := by obtain ⟨_, _, _, _, _, _, h⟩ := h; exact h
omit [DecidableEq κ] in
theorem MapT.short (h : MapT ek ev ok W b l) : l.length ≤ maxLen := by
  obtain ⟨es, c, _, _, hs, hl, _⟩ := h
  have := congrArg List.length hl
  simp at this; omega
omit [DecidableEq κ] in
theorem entry_of {es : Array MapEntry} (hl : es.toList.map (fun e => (e.key, e.val)) = l.map (fun p => (ek p.1, ev p.2))) {e : MapEntry} (he : e ∈ es.toList) : ∃ p ∈ l, e.key = ek p.1 ∧ e.val = ev p.2 := by
  have : (e.key, e.val) ∈ l.map (fun p => (ek p.1, ev p.2)) := by rw [← hl]; exact List.mem_map.2 ⟨e, he, rfl⟩
  obtain ⟨p, hp, he⟩ := List.mem_map.1 this
  simp at he
  exact ⟨p, hp, he.1.symm, he.2.symm⟩
omit [DecidableEq κ] in
theorem entry_to {es : Array MapEntry} (hl : es.toList.map (fun e => (e.key, e.val)) = l.map (fun p => (ek p.1, ev p.2))) {p : κ × υ} (hp : p ∈ l) : ∃ e ∈ es.toList, e.key = ek p.1 ∧ e.val = ev p.2 := by
  have : (ek p.1, ev p.2) ∈ es.toList.map (fun e => (e.key, e.val)) := by rw [hl]; exact List.mem_map.2 ⟨p, hp, rfl⟩
  obtain ⟨e, he, hq⟩ := List.mem_map.1 this
  simp at hq
  exact ⟨e, he, hq.1, hq.2⟩
omit [DecidableEq κ] in
theorem MapT.apart (h : MapT ek ev ok W b l) : KeysApart l := by
  obtain ⟨es, c, _, hst, _, hl, _⟩ := h
  have h3 := ((stamped_iff es c).1 hst).2.2
  have h4 : (es.toList.map (fun e => (e.key, e.val))).Pairwise fun x y => x.1 ≠ y.1 := by rw [List.pairwise_map]; exact h3
  rw [hl, List.pairwise_map] at h4
  exact h4.imp fun {p q} h e => h (by rw [e])
omit [DecidableEq κ] in
theorem keys_ok (E : KeyEnc P kt ek ok) {es : Array MapEntry} (hl : es.toList.map (fun e => (e.key, e.val)) = l.map (fun p => (ek p.1, ev p.2))) (hok : ∀ p ∈ l, ok p.1) : ∀ e ∈ es.toList, ∃ x, keyOf P kt e.key = some x := by
  intro e he
  obtain ⟨p, hp, h1, _⟩ := entry_of hl he
  rw [h1]; exact E.lit _ (hok p hp)
/-- what is found at a key. -/
theorem find_at (E : KeyEnc P kt ek ok) {es : Array MapEntry} (hl : es.toList.map (fun e => (e.key, e.val)) = l.map (fun p => (ek p.1, ev p.2))) (hok : ∀ p ∈ l, ok p.1) (hd : KeysApart l) (a : κ) (ha : ok a) (w : World) :
    (getL l a = none ∧ (Instr.findKey kt (ek a) es.toList).run P w = .ok none w ∧ ∀ e ∈ es.toList, e.key ≠ ek a) ∨
    ∃ v j e, getL l a = some v ∧ (Instr.findKey kt (ek a) es.toList).run P w = .ok (some (j, e.val)) w ∧ es.toList[j]? = some e ∧ e.key = ek a ∧ e.val = ev v ∧ l[j]? = some (a, v) := by
  obtain ⟨x, hx⟩ := E.lit a ha
  rcases E.K.find w hx es.toList (keys_ok E hl hok) with ⟨h1, h2⟩ | ⟨j, e, h1, h2, h3⟩
  · refine .inl ⟨getL_none.2 fun p hp hpa => ?_, h1, h2⟩
    obtain ⟨e, he, e1, _⟩ := entry_to hl hp
    exact h2 e he (by rw [e1, hpa])
  · have hj : (es.toList.map (fun e => (e.key, e.val)))[j]? = some (e.key, e.val) := by rw [List.getElem?_map, h2]; rfl
    rw [hl, List.getElem?_map] at hj
    cases hlj : l[j]? with
    | none => rw [hlj] at hj; cases hj
    | some p =>
      rw [hlj] at hj
      simp at hj
      have ea : p.1 = a := E.inj _ _ (hj.1.trans h3)
      refine .inr ⟨p.2, j, e, ?_, h1, h2, h3, hj.2.symm, by rw [← ea]; exact hlj⟩
      rw [getL_iff hd, ← ea]
      exact List.mem_of_getElem? hlj
/-- a look-up, with whether there is one. -/
theorem MapT.look (E : KeyEnc P kt ek ok) (h : MapT ek ev ok W b l) (ht : P.underlying t = some (.map kt et)) (a : κ) (ha : ok a) {z : Value} (hz : ∀ w, (zeroValue et).run P w = .ok z w) (w : World) (hw : w.heap[b]? = W.heap[b]?) (c : Bool) :
    (Instr.lookup t (.map (some b)) (ek a) c).run P w = .ok (if c then .tuple #[((getL l a).map ev).getD z, .bool (getL l a).isSome] else ((getL l a).map ev).getD z) w := by
  have hd := h.apart
  obtain ⟨es, ck, hb, hst, _, hl, hok⟩ := h
  rw [← hw] at hb
  obtain ⟨x, hx⟩ := E.lit a ha
  rcases find_at E hl hok hd a ha w with ⟨h1, h2, _⟩ | ⟨v, j, e, h1, h2, _, _, h5, _⟩
  · rw [h1]
    unfold Instr.lookup
    simp [run_underlying ht, MapKept.run_getObj_map hb, E.K.check w _ hx, h2, hz, Result.andThen]
  · rw [h1]
    unfold Instr.lookup
    simp [run_underlying ht, MapKept.run_getObj_map hb, E.K.check w _ hx, h2, Result.andThen, h5]
theorem setBlock_below {B : Nat} {o : Obj} (hb : B ≤ b) : Below B W (setBlock W b o) :=
  ⟨rfl, rfl, rfl, by simp [setBlock], fun k hk => by simp [setBlock]; rw [Array.getElem?_setIfInBounds_ne (by omega)]⟩
/-- all but some blocks is as it was. -/
structure Kept (F : Nat → Prop) (w w' : World) : Prop where
  os : w'.os = w.os
  tape : w'.tape = w.tape
  output : w'.output = w.output
  size : w.heap.size ≤ w'.heap.size
  block : ∀ k, k < w.heap.size → ¬ F k → w'.heap[k]? = w.heap[k]?
theorem Kept.refl (F : Nat → Prop) (w : World) : Kept F w w := ⟨rfl, rfl, rfl, Nat.le_refl _, fun _ _ _ => rfl⟩
theorem Kept.trans {F : Nat → Prop} {a b c : World} (h : Kept F a b) (k : Kept F b c) : Kept F a c :=
  ⟨k.os.trans h.os, k.tape.trans h.tape, k.output.trans h.output, Nat.le_trans h.size k.size, fun i hi hf => (k.block i (Nat.lt_of_lt_of_le hi h.size) hf).trans (h.block i hi hf)⟩
theorem Kept.of_below {F : Nat → Prop} {w w' : World} (h : Below w.heap.size w w') : Kept F w w' := ⟨h.os, h.tape, h.output, h.size, fun k hk _ => h.block k hk⟩
theorem Kept.below {F : Nat → Prop} {w w' : World} {B : Nat} (h : Kept F w w') (hB : B ≤ w.heap.size) (hF : ∀ k, F k → B ≤ k) : Below B w w' :=
  ⟨h.os, h.tape, h.output, h.size, fun k hk => h.block k (by omega) (fun hf => by have := hF k hf; omega)⟩
theorem Kept.imp {F G : Nat → Prop} {w w' : World} (h : Kept F w w') (hFG : ∀ k, F k → G k) : Kept G w w' := ⟨h.os, h.tape, h.output, h.size, fun k hk hg => h.block k hk (fun hf => hg (hFG k hf))⟩
theorem Kept.setBlock {F : Nat → Prop} {w : World} {b : Nat} (o : Obj) (hF : F b) : Kept F w (ChangeMaps.setBlock w b o) :=
  ⟨rfl, rfl, rfl, by simp [ChangeMaps.setBlock], fun k hk hf => by
    have : b ≠ k := fun e => hf (e ▸ hF)
    simp [ChangeMaps.setBlock, this]⟩
theorem Kept.setCell {F : Nat → Prop} {w : World} (p : Addr) (v : Value) (hF : F p.block) : Kept F w (w.setCell p v) :=
  ⟨rfl, rfl, rfl, by simp [World.setCell], fun k hk hf => Below.heap_setCell _ _ _ _ (fun e => hf (by rw [e]; exact hF))⟩
theorem Kept.drew {F : Nat → Prop} {w w' : World} (h : Kept F w w') : Kept F w w'.drew := ⟨h.os, h.tape, h.output, h.size, h.block⟩
omit [DecidableEq κ] in
theorem MapT.kept {F : Nat → Prop} (h : MapT ek ev ok W b l) (hk : Kept F W W') (hb : ¬ F b) : MapT ek ev ok W' b l := h.of_block (hk.block b h.lt hb)
theorem Kept.cell {F : Nat → Prop} {w w' : World} {a : Addr} {v : Value} (hk : Kept F w w') (h : w.cell? a = some v) (hF : ¬ F a.block) : w'.cell? a = some v := by
  rw [World.cell?_of_block (hk.block a.block (World.block_lt_of_cell? w a h) hF)]; exact h
/-- a store. -/
theorem MapT.store (E : KeyEnc P kt ek ok) (h : MapT ek ev ok W b l) (ht : P.underlying t = some (.map kt et)) (a : κ) (ha : ok a) (v : υ) (hroom : l.length < maxLen) (w : World) (hw : w.heap[b]? = W.heap[b]?) :
    ∃ o, (Instr.mapUpdate t (.map (some b)) (ek a) (ev v)).run P w = .ok () (setBlock w b o) ∧ MapT ek ev ok (setBlock w b o) b (putL l a v) := by
  have hd := h.apart
  obtain ⟨es, ck, hb, hst, hsz, hl, hok⟩ := h
  rw [← hw] at hb
  obtain ⟨x, hx⟩ := E.lit a ha
  have hlen := congrArg List.length hl
  simp at hlen
  have hpok : ∀ p ∈ putL l a v, ok p.1 := by
    intro p hp
    rcases mem_put hp with ⟨hp, _⟩ | rfl
    · exact hok p hp
    · exact ha
  rcases find_at E hl hok hd a ha w with ⟨h1, h2, h3⟩ | ⟨v0, j, e, h1, h2, h3, h4, h5, h6⟩
  · refine ⟨.map (es.push ⟨ek a, ev v, ck⟩) (ck + 1), ?_, ⟨_, _, heap_setBlock_same hb _, stamped_push hst h3, by simp; omega, ?_, hpok⟩⟩
    · unfold Instr.mapUpdate
      simp [run_underlying ht, MapKept.run_getObj_map hb, E.K.check w _ hx, h2, MapKept.run_setObj_map _ hb, Result.andThen, setBlock]
    · unfold putL; rw [h1]; simp [hl]
  · have hj : es[j]? = some e := by simpa using h3
    refine ⟨.map (es.modify j fun e' => { e' with key := ek a, val := ev v }) ck, ?_, ⟨_, _, heap_setBlock_same hb _, stamped_modify hst _ _ (fun _ _ => rfl) (fun e' _ he' => by rw [hj] at he'; cases he'; exact h4.symm), by simp; omega, ?_, hpok⟩⟩
    · unfold Instr.mapUpdate
      simp [run_underlying ht, MapKept.run_getObj_map hb, E.K.check w _ hx, h2, hj, h4, E.K.stays w hx, MapKept.run_setObj_map _ hb, Result.andThen, setBlock]
    · rw [Array.toList_modify, modify_eq_set _ _ _ _ h3, List.map_set, hl]
      unfold putL
      rw [h1, if_pos (by rfl : (some v0).isSome = true), List.map_map]
      apply List.ext_getElem?
      intro i
      rw [List.getElem?_set, List.getElem?_map, List.getElem?_map]
      by_cases hij : j = i
      · subst hij
        have hjl : j < l.length := (List.getElem?_eq_some_iff.1 h6).1
        rw [if_pos rfl, h6]
        simp [hjl]
      · rw [if_neg hij]
        cases hi : l[i]? with
        | none => simp
        | some p =>
          have : p.1 ≠ a := by
            intro e1
            have hpw := List.pairwise_iff_getElem.1 hd
            obtain ⟨hjl, hje⟩ := List.getElem?_eq_some_iff.1 h6
            obtain ⟨hil, hie⟩ := List.getElem?_eq_some_iff.1 hi
            rcases Nat.lt_or_gt_of_ne hij with hlt | hgt
            · exact hpw j i hjl hil hlt (by rw [hje, hie, e1])
            · exact hpw i j hil hjl hgt (by rw [hje, hie, e1])
          simp [this]
/-- a delete. -/
theorem MapT.drop (E : KeyEnc P kt ek ok) (h : MapT ek ev ok W b l) (ht : P.underlying t = some (.map kt et)) (a : κ) (ha : ok a) (w : World) (hw : w.heap[b]? = W.heap[b]?) :
    ∃ o, (∀ ty, (Builtin.delete_ #[t, kt] ty #[.map (some b), ek a]).run P w = .ok (.tuple #[]) (setBlock w b o)) ∧ MapT ek ev ok (setBlock w b o) b (delL l a) := by
  have hd := h.apart
  obtain ⟨es, ck, hb, hst, hsz, hl, hok⟩ := h
  rw [← hw] at hb
  obtain ⟨x, hx⟩ := E.lit a ha
  have hpok : ∀ p ∈ delL l a, ok p.1 := fun p hp => hok p (mem_del.1 hp).1
  rcases find_at E hl hok hd a ha w with ⟨h1, h2, h3⟩ | ⟨v0, j, e, h1, h2, h3, h4, h5, h6⟩
  · refine ⟨.map es ck, ?_, ⟨_, _, heap_setBlock_same hb _, hst, hsz, ?_, hpok⟩⟩
    · intro ty; simp [Builtin.delete_, run_underlying ht, MapKept.run_getObj_map hb, E.K.check w _ hx, h2, MapKept.run_setObj_map _ hb, Result.andThen, setBlock]
    · have : delL l a = l := by
        unfold delL
        rw [List.filter_eq_self]
        intro p hp
        simpa using getL_none.1 h1 p hp
      rw [this]; exact hl
  · have hjl : j < es.toList.length := (List.getElem?_eq_some_iff.1 h3).1
    have hjs : j < es.size := by simpa using hjl
    have hsub : (es.eraseIdxIfInBounds j).toList = es.toList.eraseIdx j := by
      unfold Array.eraseIdxIfInBounds
      rw [dif_pos hjs]
      simp
    refine ⟨.map (es.eraseIdxIfInBounds j) ck, ?_, ⟨_, _, heap_setBlock_same hb _, stamped_erase hst j, Nat.le_trans (MapFrom.size_erase es j) hsz, ?_, hpok⟩⟩
    · intro ty; simp [Builtin.delete_, run_underlying ht, MapKept.run_getObj_map hb, E.K.check w _ hx, h2, MapKept.run_setObj_map _ hb, Result.andThen, setBlock]
    · rw [hsub, map_eraseIdx, hl, ← map_eraseIdx]
      congr 1
      unfold delL
      exact (filter_eq_eraseIdx (fun p : κ × υ => decide (p.1 = a)) l j (a, v0) h6 (by simp) (hd.imp fun {p q} hne ⟨e1, e2⟩ => hne ((of_decide_eq_true e1).trans (of_decide_eq_true e2).symm))).symm
omit [DecidableEq κ] in
/-- its length. -/
theorem MapT.len (h : MapT ek ev ok W b l) (ht : P.underlying t = some (.map kt et)) (ty : TypeId) (w : World) (hw : w.heap[b]? = W.heap[b]?) :
    (Builtin.len_ #[t] ty #[.map (some b)]).run P w = .ok (.int .i64 l.length) w := by
  obtain ⟨es, ck, hb, hst, hsz, hl, hok⟩ := h
  rw [← hw] at hb
  have hlen := congrArg List.length hl
  simp at hlen
  have : goInt (es.size : Int) = .int .i64 (l.length : Int) := by rw [hlen]; rfl
  simp [Builtin.len_, run_underlying ht, MapKept.run_getObj_map hb, ← this]
end
end Go.Proofs.Ytadlecnlgkhneaa

/-
  A BLOCK KNOWN WHOLE: its cells; what a store turns.
-/
namespace Go.Proofs.Ytadlecnlgkhneaa
open Go.RowKit

section
variable {W W' : World}
theorem row_lt {b : Nat} {o : Obj} (h : W.heap[b]? = some o) : b < W.heap.size := (Array.getElem?_eq_some_iff.1 h).1
theorem row_cell {b : Nat} {cs : Array Value} {t : TypeId} (h : W.heap[b]? = some (.cells cs t (0, 0))) (i : Nat) : W.cell? ⟨b, i, none⟩ = cs[i]? := by simp [World.cell?, h]
theorem row_free {b : Nat} {cs : Array Value} {t : TypeId} (h : W.heap[b]? = some (.cells cs t (0, 0))) (i : Nat) : W.frozen? ⟨b, i, none⟩ = false := by simp [World.frozen?, h]
theorem set_same {b : Nat} {cs : Array Value} {t : TypeId} (h : W.heap[b]? = some (.cells cs t (0, 0))) (i : Nat) (v : Value) : (W.setCell ⟨b, i, none⟩ v).heap[b]? = some (.cells (cs.setIfInBounds i v) t (0, 0)) := by
  rw [setCell_eq_setRow W b i _ _ _ _ h]
  exact setRow_heap W b _ _ _ _ h
theorem set_other {b : Nat} (g i : Nat) (v : Value) (hne : b ≠ g) : (W.setCell ⟨g, i, none⟩ v).heap[b]? = W.heap[b]? := Deep.blk_setCell_other W ⟨g, i, none⟩ v b hne
end
/-! ### whole values loaded and stored; where a walk stops -/
theorem exec_ld {P : Program} {oi : Oper} {ev : Operand → Value} {w : World} (ty : TypeId) (x : Operand) (ho : oi.op = .load ty x)
    (g : Nat) (hx : ev x = .pointer (some ⟨g, 0, none⟩)) (t : TypeId) (cs : Array Value) (fr : Nat × Nat) (d : TypeDesc) (hg : w.heap[g]? = some (.cells cs t fr))
    (hu : P.underlying ty = some d) (hd : (match d with | .struct _ | .array _ _ => true | _ => false) = true) (hi : (P.info? ty).map (·.size) = some cs.size) :
    (execOp ev oi).run P w = .ok (.value (.agg cs)) w := by
  unfold execOp
  simp only [ho, hx, Instr.loadAt, Instr.sureAddr, Sem.run_bind, Sem.run_pure, Result.andThen_ok, run_loadVar_row w g t ty cs fr d hg hu hd hi]
section
variable {P : Program} {ops : Array Oper} {rest : List Oper} {o : Oper} {a : Act} {w : World} {Q : Exit → Act → World → Prop}
theorem ld_at (hgd : Region.wanted o (yielded ops a.tmps) = true) (ty : TypeId) (x : Operand) (ho : o.op = .load ty x)
    (g : Nat) (hx : a.eval x = .pointer (some ⟨g, 0, none⟩)) (t : TypeId) (cs : Array Value) (fr : Nat × Nat) (d : TypeDesc) (hg : w.heap[g]? = some (.cells cs t fr))
    (hu : P.underlying ty = some d) (hd : (match d with | .struct _ | .array _ _ => true | _ => false) = true) (hi : (P.info? ty).map (·.size) = some cs.size)
    (h : wpList P ops Q rest (a.put o.dst (.agg cs)) w) : wpList P ops Q (o :: rest) a w := by
  unfold wpList
  rw [if_pos hgd]
  exact .inl (wp_load_row ty x ho g hx t cs fr d hg hu hd hi h)
theorem st_row (hgd : o.guard = none) (ty : TypeId) (x y : Operand) (ho : o.op = .store ty x y)
    (g : Nat) (hx : a.eval x = .pointer (some ⟨g, 0, none⟩)) (t : TypeId) (old cs : Array Value) (hy : a.eval y = .agg cs) (hg : w.heap[g]? = some (.cells old t (0, 0))) (hi : (P.info? ty).map (·.size) = some cs.size) (hs : old.size = cs.size) (h1 : cs.all (·.oneCell') = true)
    (h : wpList P ops Q rest (a.put o.dst undef) (w.setRow g cs)) : wpList P ops Q (o :: rest) a w :=
  wpList_plain hgd fun _ hK => by
    unfold Oper.wp execOp
    simp only [ho, hx, hy, Instr.storeAt, Instr.sureAddr, Sem.run_bind, Sem.run_pure, Result.andThen_ok, run_storeVar_row w g t ty old cs hg hi hs h1]
    exact hK _ _ h
theorem st_fresh (hgd : o.guard = none) (ty : TypeId) (x y : Operand) (ho : o.op = .store ty x y)
    (hx : a.eval x = .pointer (some ⟨w.heap.size, 0, none⟩)) (c c' : Array Value) (hy : a.eval y = .agg c') (hi : (P.info? ty).map (·.size) = some c'.size) (hs : c.size = c'.size) (h1 : c'.all (·.oneCell') = true)
    (h : wpList P ops Q rest (a.put o.dst undef) (w.alloc (.cells c' ty))) : wpList P ops Q (o :: rest) a (w.alloc (.cells c ty)) :=
  wpList_plain hgd fun _ hK => by
    unfold Oper.wp execOp
    simp only [ho, hx, hy, Instr.storeAt, Instr.sureAddr, Sem.run_bind, Sem.run_pure, Result.andThen_ok, run_storeVar_new w ty c c' hi hs h1]
    exact hK _ _ h
/-- the walk stops where it comes to this operation. -/
def Halt (p : Prop) : Prop := p
theorem halt_at {X : Op} (_ho : o.op = X) (h : Halt (wpList P ops Q (o :: rest) a w)) : wpList P ops Q (o :: rest) a w := h
end
theorem block_other {W : World} {b : Nat} {o : Obj} (hb : W.heap[b]? = some o) (g i : Nat) (v : Value) (hne : b ≠ g) : (W.setCell ⟨g, i, none⟩ v).heap[b]? = some o := by
  rw [Deep.blk_setCell_other W ⟨g, i, none⟩ v b hne]; exact hb
end Go.Proofs.Ytadlecnlgkhneaa
