/- Texts of one proof, one behind another. -/
import Derived.WalkKit
import Derived.WalkSpells
import Derived.WalkLawsBesides
import Derived.OrdersHeld
import Derived.Deep.RegionHeld
import Derived.Lib.Hide
import Derived.Outline
import Derived.Deep.DeepFit
import Derived.KernelRfl
import Derived.Laws.Tables
import Derived.Maps.Range
import Derived.DeepKeys4
import Derived.Deep.Heap
import Derived.Laws.CopyOwn
import Derived.Laws.Rows
import Derived.Deep.WholeRow
import Derived.Laws.BitsAllLaws
import Derived.RowKit
import Derived.Test.YtadlecnlgkhneaaRows
import Derived.ProofKit
import Derived.OpenShut
/-
  SMALL LAWS FOR A STATEMENT THAT DRAWS ITS ORDER AND HOLDS CALLS THAT MAKE MEMORY: its operations are taken one by one; 'S' holds of the world throughout. And what is known of memory that was there before.
-/
namespace Go.Proofs.Ytadlecnlgkhneaa
open Go.RowKit

theorem ret_int {k : IntKind} {a b : Int} (h : a = b) : Ending.returned (.int k a) = .returned (.int k b) := by rw [h]
theorem ret_bool {a b : Bool} (h : a = b) : Ending.returned (.bool a) = .returned (.bool b) := by rw [h]

/-! ### An operation by its place -/
theorem at0 {α : Type} {x : α} {l : List α} : (List.toArray (x :: l))[0]? = some x := by simp
theorem atS {α : Type} {x y : α} {l : List α} {n : Nat} (h : (List.toArray l)[n]? = some x) : (List.toArray (y :: l))[n + 1]? = some x := by simpa using h

section
variable {P : Program} {ops : Array Oper} {Q : Exit → Act → World → Prop} {md : Region.Mode} {S : World → Prop}
/-- an operation whose guard is false is passed by. -/
theorem rg_no {i : Nat} {oi : Oper} {fuel : Nat} {listed : Array Bool} {a : Act} {w : World} (hi : ops[i]? = some oi)
    (hs : Region.noSelect ops = true) (hf : Region.free md ops listed i = true) (hr : (Region.ready md ops listed).contains i = true)
    (hQ : ∀ c a w, Q (.panic c) (a.put oi.dst undef) w → Q (.panic c) a w) (hw : Region.wanted oi (yielded ops a.tmps) = false) (hS : S w)
    (h : wpAnyH P md ops Q S fuel (listed.setIfInBounds i true) (a.put oi.dst undef) w) : wpAnyH P md ops Q S (fuel + 1) listed a w :=
  wpAnyH_take hi hs hf hr hQ (.inr ⟨hw, rfl⟩) hS h
/-- an operation that only computes, or reads what S says of memory. -/
theorem rg_yes {i : Nat} {oi : Oper} {v : Value} {fuel : Nat} {listed : Array Bool} {a : Act} {w : World} (hi : ops[i]? = some oi)
    (hs : Region.noSelect ops = true) (hf : Region.free md ops listed i = true) (hr : (Region.ready md ops listed).contains i = true)
    (hQ : ∀ c a w, Q (.panic c) (a.put oi.dst v) w → Q (.panic c) a w) (hw : Region.wanted oi (yielded ops a.tmps) = true) (hy : ∀ w, S w → (execOp a.eval oi).run P w = .ok (.value v) w) (hS : S w)
    (h : wpAnyH P md ops Q S fuel (listed.setIfInBounds i true) (a.put oi.dst v) w) : wpAnyH P md ops Q S (fuel + 1) listed a w :=
  wpAnyH_take hi hs hf hr hQ (.inl ⟨hw, hy⟩) hS h
/-- an operation that comes up alone and is carried out here: a call, a store. -/
theorem rg_call {i : Nat} {oi : Oper} {fuel : Nat} {listed : Array Bool} {a : Act} {w : World} (hi : ops[i]? = some oi)
    (hr : Region.ready md ops listed = [i]) (hw : Region.wanted oi (yielded ops a.tmps) = true)
    (h : ∀ K' : Act → World → Prop, Shut (∀ a w, S w → (S w → wpAnyH P md ops Q S fuel (listed.setIfInBounds i true) a w) → K' a w) → Oper.wp P oi a w K' Q) : wpAnyH P md ops Q S (fuel + 1) listed a w :=
  wpAnyH_ready (rs := [i]) hr (by simp) (AllReadyH.cons hi (fun K hK => by rw [if_pos hw]; exact h K hK) AllReadyH.nil)
end

/-! ### What was there stays -/
theorem cell_below {W W' : World} {a : Addr} {v : Value} (h : W.cell? a = some v) (hb : Below W.heap.size W W') : W'.cell? a = some v :=
  (hb.cell (World.block_lt_of_cell? W a h)).trans h
theorem below_step {B : Nat} {w W W' : World} (h : Below B w W) (hB : B ≤ w.heap.size) (hb : Below W.heap.size W W') : Below B w W' :=
  h.trans (hb.mono (Nat.le_trans hB h.size))
theorem below_on {w W W' : World} (h : Below w.heap.size w W) (hb : Below W.heap.size W W') : Below w.heap.size w W' := below_step h (Nat.le_refl _) hb
theorem below_same (w : World) : Below w.heap.size w w := Below.refl _ _
theorem size_lt {W : World} {b o : Nat} {v : Value} (h : W.cell? ⟨b, o, none⟩ = some v) : b < W.heap.size := World.block_lt_of_cell? W _ h
/-- a value of two cells that is boxed at the call's beginning. -/
theorem box2 (w : World) (v0 v1 : Value) (T : TypeId) : ∃ W0, W0 = w.alloc (.cells #[v0, v1] T) ∧ W0.cell? ⟨w.heap.size, 0, none⟩ = some v0 ∧ W0.cell? ⟨w.heap.size, 1, none⟩ = some v1 ∧ Below w.heap.size w W0 := by
  refine ⟨_, rfl, ?_, ?_, (Below.refl _ _).alloc (Nat.le_refl _) _⟩ <;> simp
/-- two values of two cells that are boxed at the call's beginning. -/
theorem box22 (w : World) (v0 v1 u0 u1 : Value) (T U : TypeId) : ∃ W0, W0 = (w.alloc (.cells #[v0, v1] T)).alloc (.cells #[u0, u1] U) ∧ W0.cell? ⟨w.heap.size, 0, none⟩ = some v0 ∧ W0.cell? ⟨w.heap.size, 1, none⟩ = some v1 ∧
    W0.cell? ⟨w.heap.size + 1, 0, none⟩ = some u0 ∧ W0.cell? ⟨w.heap.size + 1, 1, none⟩ = some u1 ∧ Below w.heap.size w W0 := by
  refine ⟨_, rfl, ?_, ?_, ?_, ?_, ((Below.refl _ _).alloc (Nat.le_refl _) _).alloc (by simp) _⟩ <;> simp
theorem box222 (w : World) (v0 v1 u0 u1 x0 x1 : Value) (T U V : TypeId) : ∃ W0, W0 = ((w.alloc (.cells #[v0, v1] T)).alloc (.cells #[u0, u1] U)).alloc (.cells #[x0, x1] V) ∧ W0.cell? ⟨w.heap.size, 0, none⟩ = some v0 ∧ W0.cell? ⟨w.heap.size, 1, none⟩ = some v1 ∧
    W0.cell? ⟨w.heap.size + 1, 0, none⟩ = some u0 ∧ W0.cell? ⟨w.heap.size + 1, 1, none⟩ = some u1 ∧ W0.cell? ⟨w.heap.size + 2, 0, none⟩ = some x0 ∧ W0.cell? ⟨w.heap.size + 2, 1, none⟩ = some x1 ∧ Below w.heap.size w W0 := by
  obtain ⟨W1, hW1, c0, c1, d0, d1, hB⟩ := box22 w v0 v1 u0 u1 T U
  have hz : W1.heap.size = w.heap.size + 2 := by rw [hW1]; simp
  obtain ⟨W2, hW2, e0, e1, hB2⟩ := box2 W1 x0 x1 V
  rw [hz] at e0 e1
  exact ⟨W2, by rw [hW2, hW1], cell_below c0 hB2, cell_below c1 hB2, cell_below d0 hB2, cell_below d1 hB2, e0, e1, below_on hB hB2⟩
/-- a contract that leaves the world alone, as one that only makes memory. -/
theorem calls_below {P : Program} {f : FuncId} {args : Array Value} {w : World} {E : Ending → Prop} (h : Calls P f args w fun e w' => E e ∧ w = w') : Calls P f args w fun e w' => E e ∧ Below w.heap.size w w' :=
  h.mono fun _ _ ⟨a, b⟩ => ⟨a, b ▸ below_same _⟩
end Go.Proofs.Ytadlecnlgkhneaa

/-
  A STATEMENT THAT DRAWS ITS ORDER, WHERE TWO OPERATIONS THAT TOUCH MEMORY MAY COME UP; whole values stored.
-/
namespace Go.Proofs.Ytadlecnlgkhneaa
open Go.RowKit
section
variable {P : Program} {ops : Array Oper} {Q : Exit → Act → World → Prop} {md : Region.Mode} {S : World → Prop}
/-- two operations come up: each is carried out. -/
theorem rg_call2 {i j : Nat} {oi oj : Oper} {fuel : Nat} {listed : Array Bool} {a : Act} {w : World} (hi : ops[i]? = some oi) (hj : ops[j]? = some oj)
    (hr : Region.ready md ops listed = [i, j]) (hw : Region.wanted oi (yielded ops a.tmps) = true) (hv : Region.wanted oj (yielded ops a.tmps) = true)
    (h : ∀ K' : Act → World → Prop, Shut (∀ a w, S w → (S w → wpAnyH P md ops Q S fuel (listed.setIfInBounds i true) a w) → K' a w) → Oper.wp P oi a w K' Q)
    (h2 : ∀ K' : Act → World → Prop, Shut (∀ a w, S w → (S w → wpAnyH P md ops Q S fuel (listed.setIfInBounds j true) a w) → K' a w) → Oper.wp P oj a w K' Q) : wpAnyH P md ops Q S (fuel + 1) listed a w :=
  wpAnyH_ready (rs := [i, j]) hr (by simp) (AllReadyH.cons hi (fun K hK => by rw [if_pos hw]; exact h K hK) (AllReadyH.cons hj (fun K hK => by rw [if_pos hv]; exact h2 K hK) AllReadyH.nil))
end
/-- a whole value is stored where one lay. -/
theorem wp_store_rowat {P : Program} {o : Oper} {a : Act} {w : World} {K : Act → World → Prop} {Q : Exit → Act → World → Prop} (ty : TypeId) (x y : Operand) (ho : o.op = .store ty x y)
    (g : Nat) (hx : a.eval x = .pointer (some ⟨g, 0, none⟩)) (t : TypeId) (old cs : Array Value) (hy : a.eval y = .agg cs) (hg : w.heap[g]? = some (.cells old t (0, 0))) (hi : (P.info? ty).map (·.size) = some cs.size) (hs : old.size = cs.size) (h1 : cs.all (·.oneCell') = true)
    (h : K (a.put o.dst undef) (w.setRow g cs)) : o.wp P a w K Q := by
  unfold Oper.wp execOp
  simp only [ho, hx, hy, Instr.storeAt, Instr.sureAddr, Sem.run_bind, Sem.run_pure, Result.andThen_ok, run_storeVar_row w g t ty old cs hg hi hs h1]
  exact h
end Go.Proofs.Ytadlecnlgkhneaa

/-
  MAPS AS LISTS OF PAIRS: a map's block in memory holds, one by one, the pairs of a list; look-up, store, delete, length, range.
-/
namespace Go.Proofs.Ytadlecnlgkhneaa
open Go.RowKit Go.Maps Go.ChangeMaps Go.MapKept

section
variable {κ υ : Type} [DecidableEq κ]
/-- how keys of a type stand for values. -/
structure KeyEnc (P : Program) (kt : TypeId) (ek : κ → Value) (ok : κ → Prop) : Prop where
  K : Keyed P kt
  lit : ∀ a, ok a → ∃ l, keyOf P kt (ek a) = some l
  inj : ∀ a b, ek a = ek b → a = b
def MapT (ek : κ → Value) (ev : υ → Value) (ok : κ → Prop) (W : World) (b : Nat) (l : List (κ × υ)) : Prop :=
  ∃ es clock, W.heap[b]? = some (.map es clock) ∧ Stamped es clock ∧ es.size ≤ maxLen ∧ es.toList.map (fun e => (e.key, e.val)) = l.map (fun p => (ek p.1, ev p.2)) ∧ ∀ p ∈ l, ok p.1
/-- what stands at a key. -/
def getL (l : List (κ × υ)) (a : κ) : Option υ := (l.find? fun p => p.1 = a).map (·.2)
def putL (l : List (κ × υ)) (a : κ) (v : υ) : List (κ × υ) := if (getL l a).isSome then l.map (fun p => if p.1 = a then (a, v) else p) else l ++ [(a, v)]
def delL (l : List (κ × υ)) (a : κ) : List (κ × υ) := l.filter fun p => !decide (p.1 = a)
def KeysApart (l : List (κ × υ)) : Prop := l.Pairwise fun p q => p.1 ≠ q.1

theorem getL_none {l : List (κ × υ)} {a : κ} : getL l a = none ↔ ∀ p ∈ l, p.1 ≠ a := by
  unfold getL
  simp [List.find?_eq_none]
theorem getL_mem {l : List (κ × υ)} {a : κ} {v : υ} (h : getL l a = some v) : (a, v) ∈ l := by
  unfold getL at h
  simp only [Option.map_eq_some_iff] at h
  obtain ⟨p, hp, rfl⟩ := h
  have h1 := List.find?_some hp
  have h2 := List.mem_of_find?_eq_some hp
  simp at h1
  rw [← h1]; exact h2
theorem getL_of_mem {l : List (κ × υ)} {a : κ} {v : υ} (hd : KeysApart l) (h : (a, v) ∈ l) : getL l a = some v := by
  induction l with
  | nil => cases h
  | cons p r ih =>
    unfold KeysApart at hd
    obtain ⟨h1, h2⟩ := List.pairwise_cons.1 hd
    by_cases hp : p.1 = a
    · rcases List.mem_cons.1 h with e | h
      · unfold getL; rw [List.find?_cons_of_pos (by simpa using hp), ← e]; rfl
      · exact absurd hp (h1 _ h)
    · rcases List.mem_cons.1 h with e | h
      · rw [← e] at hp; exact absurd rfl hp
      · have := ih h2 h
        unfold getL at this ⊢
        rw [List.find?_cons_of_neg (by simpa using hp)]; exact this
theorem getL_iff {l : List (κ × υ)} {a : κ} {v : υ} (hd : KeysApart l) : getL l a = some v ↔ (a, v) ∈ l := ⟨getL_mem, getL_of_mem hd⟩
theorem getL_append (l m : List (κ × υ)) (a : κ) : getL (l ++ m) a = (getL l a).or (getL m a) := by
  unfold getL; rw [List.find?_append]; cases l.find? _ <;> rfl
theorem getL_map_put (l : List (κ × υ)) (a b : κ) (v : υ) : getL (l.map fun p => if p.1 = a then (a, v) else p) b = if b = a then (getL l a).map (fun _ => v) else getL l b := by
  induction l with
  | nil => simp [getL]
  | cons p r ih =>
    unfold getL at ih ⊢
    simp only [List.map_cons, List.find?_cons]
    by_cases hp : p.1 = a
    · by_cases hb : b = a
      · subst hb; simp [hp]
      · have hb' : ¬ a = b := fun e => hb e.symm
        have : ¬ p.1 = b := by rw [hp]; exact hb'
        simp only [hp, if_true, hb', if_false, hb] at ih ⊢
        simpa [hb'] using ih
    · by_cases hb : b = a
      · subst hb; simp only [hp, if_false, decide_false, if_true] at ih ⊢; exact ih
      · by_cases hpb : p.1 = b
        · subst hpb; simp [hp]
        · simp only [hp, if_false, hpb, decide_false, hb] at ih ⊢; exact ih
theorem getL_put (l : List (κ × υ)) (a b : κ) (v : υ) : getL (putL l a v) b = if b = a then some v else getL l b := by
  unfold putL
  split
  · rename_i h
    rw [getL_map_put]
    split
    · cases hg : getL l a with
      | none => rw [hg] at h; cases h
      | some x => rfl
    · rfl
  · rename_i h
    rw [getL_append]
    have hn : getL l a = none := by cases hg : getL l a with
      | none => rfl
      | some x => rw [hg] at h; exact absurd rfl h
    by_cases hb : b = a
    · subst hb; rw [hn, if_pos rfl]; simp [getL]
    · rw [if_neg hb]
      have : getL [(a, v)] b = none := by rw [getL_none]; intro p hp; simp at hp; subst hp; exact fun e => hb e.symm
      rw [this]; cases getL l b <;> rfl
theorem getL_del (l : List (κ × υ)) (a b : κ) : getL (delL l a) b = if b = a then none else getL l b := by
  split
  · rename_i h; subst h
    rw [getL_none]; intro p hp
    have := (List.mem_filter.1 hp).2
    simpa using this
  · rename_i h
    unfold getL delL
    rw [List.find?_filter]
    congr 1
    have : (fun p : κ × υ => decide ((!decide (p.1 = a)) = true ∧ decide (p.1 = b) = true)) = fun p => decide (p.1 = b) := by
      funext p
      by_cases hp : p.1 = b
      · subst hp; simp [h]
      · simp [hp]
    rw [this]
theorem apart_put {l : List (κ × υ)} (hd : KeysApart l) (a : κ) (v : υ) : KeysApart (putL l a v) := by
  unfold putL KeysApart at *
  split
  · rw [List.pairwise_map]
    refine hd.imp ?_
    intro p q h
    by_cases hp : p.1 = a
    · by_cases hq : q.1 = a
      · exact absurd (hp.trans hq.symm) h
      · simp only [hp, hq, if_true, if_false]; exact fun e => hq e.symm
    · by_cases hq : q.1 = a
      · simp only [hp, hq, if_true, if_false]; exact hp
      · simp only [hp, hq, if_false]; exact h
  · rename_i h
    have hn : getL l a = none := by cases hg : getL l a with
      | none => rfl
      | some x => rw [hg] at h; exact absurd rfl h
    rw [getL_none] at hn
    rw [List.pairwise_append]
    refine ⟨hd, by simp, fun p hp q hq => ?_⟩
    simp at hq; subst hq; exact hn p hp
theorem apart_del {l : List (κ × υ)} (hd : KeysApart l) (a : κ) : KeysApart (delL l a) := hd.filter _
theorem mem_put {l : List (κ × υ)} {a : κ} {v : υ} {p : κ × υ} (h : p ∈ putL l a v) : (p ∈ l ∧ p.1 ≠ a) ∨ p = (a, v) := by
  unfold putL at h
  split at h
  · obtain ⟨q, hq, rfl⟩ := List.mem_map.1 h
    by_cases hp : q.1 = a
    · right; simp [hp]
    · left; simp only [hp, if_false]; exact ⟨hq, hp⟩
  · rename_i hn
    rcases List.mem_append.1 h with h | h
    · left
      refine ⟨h, ?_⟩
      have hg : getL l a = none := by cases hg : getL l a with
        | none => rfl
        | some x => rw [hg] at hn; exact absurd rfl hn
      exact getL_none.1 hg p h
    · right; simpa using h
theorem mem_del {l : List (κ × υ)} {a : κ} {p : κ × υ} : p ∈ delL l a ↔ p ∈ l ∧ p.1 ≠ a := by
  unfold delL; simp
theorem len_put (l : List (κ × υ)) (a : κ) (v : υ) : (putL l a v).length = if (getL l a).isSome then l.length else l.length + 1 := by
  unfold putL; split <;> simp
theorem len_del {l : List (κ × υ)} (hd : KeysApart l) (a : κ) : (delL l a).length = if (getL l a).isSome then l.length - 1 else l.length := by
  induction l with
  | nil => simp [delL, getL]
  | cons p r ih =>
    unfold KeysApart at hd
    obtain ⟨h1, h2⟩ := List.pairwise_cons.1 hd
    have ih := ih h2
    by_cases hp : p.1 = a
    · have e : getL (p :: r) a = some p.2 := by unfold getL; rw [List.find?_cons_of_pos (by simpa using hp)]; rfl
      have n : getL r a = none := getL_none.2 fun q hq e => h1 q hq (hp.trans e.symm)
      rw [n] at ih
      rw [e]
      unfold delL at ih ⊢
      rw [List.filter_cons_of_neg (by simpa using hp)]
      simpa using ih
    · have e : getL (p :: r) a = getL r a := by unfold getL; rw [List.find?_cons_of_neg (by simpa using hp)]
      rw [e]
      unfold delL at ih ⊢
      rw [List.filter_cons_of_pos (by simpa using hp)]
      cases hg : (getL r a).isSome
      · rw [hg] at ih; simp at ih ⊢; exact ih
      · rw [hg] at ih
        have : 0 < r.length := by
          cases r with
          | nil => simp [getL] at hg
          | cons _ _ => simp
        simp at ih ⊢; omega

variable {P : Program} {kt et t : TypeId} {ek : κ → Value} {ev : υ → Value} {ok : κ → Prop} {W W' : World} {b : Nat} {l : List (κ × υ)}

omit [DecidableEq κ] in
theorem MapT.lt (h : MapT ek ev ok W b l) : b < W.heap.size := by
  obtain ⟨es, c, hb, _⟩ := h
  exact (Array.getElem?_eq_some_iff.1 hb).1
omit [DecidableEq κ] in
theorem MapT.of_block (h : MapT ek ev ok W b l) (hb : W'.heap[b]? = W.heap[b]?) : MapT ek ev ok W' b l := by
  obtain ⟨es, c, h1, r⟩ := h
  exact ⟨es, c, hb.trans h1, r⟩
omit [DecidableEq κ] in
theorem MapT.below (h : MapT ek ev ok W b l) (hb : Below W.heap.size W W') : MapT ek ev ok W' b l := h.of_block (hb.block b h.lt)
omit [DecidableEq κ] in
theorem MapT.drew (h : MapT ek ev ok W b l) : MapT ek ev ok W.drew b l := h
omit [DecidableEq κ] in
theorem MapT.made (W : World) : MapT ek ev ok (W.alloc (.map #[] 0)) W.heap.size ([] : List (κ × υ)) :=
  ⟨#[], 0, heap_alloc_new W _, stamped_empty 0, by simp, rfl, by simp⟩
omit [DecidableEq κ] in
theorem MapT.oks (h : MapT ek ev ok W b l) : ∀ p ∈ l, ok p.1 := by obtain ⟨_, _, _, _, _, _, h⟩ := h; exact h
omit [DecidableEq κ] in
theorem MapT.short (h : MapT ek ev ok W b l) : l.length ≤ maxLen := by
  obtain ⟨es, c, _, _, hs, hl, _⟩ := h
  have := congrArg List.length hl
  simp at this; omega
omit [DecidableEq κ] in
theorem entry_of {es : Array MapEntry} (hl : es.toList.map (fun e => (e.key, e.val)) = l.map (fun p => (ek p.1, ev p.2))) {e : MapEntry} (he : e ∈ es.toList) : ∃ p ∈ l, e.key = ek p.1 ∧ e.val = ev p.2 := by
  have : (e.key, e.val) ∈ l.map (fun p => (ek p.1, ev p.2)) := by rw [← hl]; exact List.mem_map.2 ⟨e, he, rfl⟩
  obtain ⟨p, hp, he⟩ := List.mem_map.1 this
  simp at he
  exact ⟨p, hp, he.1.symm, he.2.symm⟩
omit [DecidableEq κ] in
theorem entry_to {es : Array MapEntry} (hl : es.toList.map (fun e => (e.key, e.val)) = l.map (fun p => (ek p.1, ev p.2))) {p : κ × υ} (hp : p ∈ l) : ∃ e ∈ es.toList, e.key = ek p.1 ∧ e.val = ev p.2 := by
  have : (ek p.1, ev p.2) ∈ es.toList.map (fun e => (e.key, e.val)) := by rw [hl]; exact List.mem_map.2 ⟨p, hp, rfl⟩
  obtain ⟨e, he, hq⟩ := List.mem_map.1 this
  simp at hq
  exact ⟨e, he, hq.1, hq.2⟩
omit [DecidableEq κ] in
theorem MapT.apart (h : MapT ek ev ok W b l) : KeysApart l := by
  obtain ⟨es, c, _, hst, _, hl, _⟩ := h
  have h3 := ((stamped_iff es c).1 hst).2.2
  have h4 : (es.toList.map (fun e => (e.key, e.val))).Pairwise fun x y => x.1 ≠ y.1 := by rw [List.pairwise_map]; exact h3
  rw [hl, List.pairwise_map] at h4
  exact h4.imp fun {p q} h e => h (by rw [e])
omit [DecidableEq κ] in
theorem keys_ok (E : KeyEnc P kt ek ok) {es : Array MapEntry} (hl : es.toList.map (fun e => (e.key, e.val)) = l.map (fun p => (ek p.1, ev p.2))) (hok : ∀ p ∈ l, ok p.1) : ∀ e ∈ es.toList, ∃ x, keyOf P kt e.key = some x := by
  intro e he
  obtain ⟨p, hp, h1, _⟩ := entry_of hl he
  rw [h1]; exact E.lit _ (hok p hp)
/-- what is found at a key. -/
theorem find_at (E : KeyEnc P kt ek ok) {es : Array MapEntry} (hl : es.toList.map (fun e => (e.key, e.val)) = l.map (fun p => (ek p.1, ev p.2))) (hok : ∀ p ∈ l, ok p.1) (hd : KeysApart l) (a : κ) (ha : ok a) (w : World) :
    (getL l a = none ∧ (Instr.findKey kt (ek a) es.toList).run P w = .ok none w ∧ ∀ e ∈ es.toList, e.key ≠ ek a) ∨
    ∃ v j e, getL l a = some v ∧ (Instr.findKey kt (ek a) es.toList).run P w = .ok (some (j, e.val)) w ∧ es.toList[j]? = some e ∧ e.key = ek a ∧ e.val = ev v ∧ l[j]? = some (a, v) := by
  obtain ⟨x, hx⟩ := E.lit a ha
  rcases E.K.find w hx es.toList (keys_ok E hl hok) with ⟨h1, h2⟩ | ⟨j, e, h1, h2, h3⟩
  · refine .inl ⟨getL_none.2 fun p hp hpa => ?_, h1, h2⟩
    obtain ⟨e, he, e1, _⟩ := entry_to hl hp
    exact h2 e he (by rw [e1, hpa])
  · have hj : (es.toList.map (fun e => (e.key, e.val)))[j]? = some (e.key, e.val) := by rw [List.getElem?_map, h2]; rfl
    rw [hl, List.getElem?_map] at hj
    cases hlj : l[j]? with
    | none => rw [hlj] at hj; cases hj
    | some p =>
      rw [hlj] at hj
      simp at hj
      have ea : p.1 = a := E.inj _ _ (hj.1.trans h3)
      refine .inr ⟨p.2, j, e, ?_, h1, h2, h3, hj.2.symm, by rw [← ea]; exact hlj⟩
      rw [getL_iff hd, ← ea]
      exact List.mem_of_getElem? hlj
/-- a look-up, with whether there is one. -/
theorem MapT.look (E : KeyEnc P kt ek ok) (h : MapT ek ev ok W b l) (ht : P.underlying t = some (.map kt et)) (a : κ) (ha : ok a) {z : Value} (hz : ∀ w, (zeroValue et).run P w = .ok z w) (w : World) (hw : w.heap[b]? = W.heap[b]?) (c : Bool) :
    (Instr.lookup t (.map (some b)) (ek a) c).run P w = .ok (if c then .tuple #[((getL l a).map ev).getD z, .bool (getL l a).isSome] else ((getL l a).map ev).getD z) w := by
  have hd := h.apart
  obtain ⟨es, ck, hb, hst, _, hl, hok⟩ := h
  rw [← hw] at hb
  obtain ⟨x, hx⟩ := E.lit a ha
  rcases find_at E hl hok hd a ha w with ⟨h1, h2, _⟩ | ⟨v, j, e, h1, h2, _, _, h5, _⟩
  · rw [h1]
    unfold Instr.lookup
    simp [run_underlying ht, MapKept.run_getObj_map hb, E.K.check w _ hx, h2, hz, Result.andThen]
  · rw [h1]
    unfold Instr.lookup
    simp [run_underlying ht, MapKept.run_getObj_map hb, E.K.check w _ hx, h2, Result.andThen, h5]
theorem setBlock_below {B : Nat} {o : Obj} (hb : B ≤ b) : Below B W (setBlock W b o) :=
  ⟨rfl, rfl, rfl, by simp [setBlock], fun k hk => by simp [setBlock]; rw [Array.getElem?_setIfInBounds_ne (by omega)]⟩
/-- all but some blocks is as it was. -/
structure Kept (F : Nat → Prop) (w w' : World) : Prop where
  os : w'.os = w.os
  tape : w'.tape = w.tape
  output : w'.output = w.output
  size : w.heap.size ≤ w'.heap.size
  block : ∀ k, k < w.heap.size → ¬ F k → w'.heap[k]? = w.heap[k]?
theorem Kept.refl (F : Nat → Prop) (w : World) : Kept F w w := ⟨rfl, rfl, rfl, Nat.le_refl _, fun _ _ _ => rfl⟩
theorem Kept.trans {F : Nat → Prop} {a b c : World} (h : Kept F a b) (k : Kept F b c) : Kept F a c :=
  ⟨k.os.trans h.os, k.tape.trans h.tape, k.output.trans h.output, Nat.le_trans h.size k.size, fun i hi hf => (k.block i (Nat.lt_of_lt_of_le hi h.size) hf).trans (h.block i hi hf)⟩
theorem Kept.of_below {F : Nat → Prop} {w w' : World} (h : Below w.heap.size w w') : Kept F w w' := ⟨h.os, h.tape, h.output, h.size, fun k hk _ => h.block k hk⟩
theorem Kept.below {F : Nat → Prop} {w w' : World} {B : Nat} (h : Kept F w w') (hB : B ≤ w.heap.size) (hF : ∀ k, F k → B ≤ k) : Below B w w' :=
  ⟨h.os, h.tape, h.output, h.size, fun k hk => h.block k (by omega) (fun hf => by have := hF k hf; omega)⟩
theorem Kept.imp {F G : Nat → Prop} {w w' : World} (h : Kept F w w') (hFG : ∀ k, F k → G k) : Kept G w w' := ⟨h.os, h.tape, h.output, h.size, fun k hk hg => h.block k hk (fun hf => hg (hFG k hf))⟩
theorem Kept.setBlock {F : Nat → Prop} {w : World} {b : Nat} (o : Obj) (hF : F b) : Kept F w (ChangeMaps.setBlock w b o) :=
  ⟨rfl, rfl, rfl, by simp [ChangeMaps.setBlock], fun k hk hf => by
    have : b ≠ k := fun e => hf (e ▸ hF)
    simp [ChangeMaps.setBlock, this]⟩
theorem Kept.setCell {F : Nat → Prop} {w : World} (p : Addr) (v : Value) (hF : F p.block) : Kept F w (w.setCell p v) :=
  ⟨rfl, rfl, rfl, by simp [World.setCell], fun k hk hf => Below.heap_setCell _ _ _ _ (fun e => hf (by rw [e]; exact hF))⟩
theorem Kept.drew {F : Nat → Prop} {w w' : World} (h : Kept F w w') : Kept F w w'.drew := ⟨h.os, h.tape, h.output, h.size, h.block⟩
omit [DecidableEq κ] in
theorem MapT.kept {F : Nat → Prop} (h : MapT ek ev ok W b l) (hk : Kept F W W') (hb : ¬ F b) : MapT ek ev ok W' b l := h.of_block (hk.block b h.lt hb)
theorem Kept.cell {F : Nat → Prop} {w w' : World} {a : Addr} {v : Value} (hk : Kept F w w') (h : w.cell? a = some v) (hF : ¬ F a.block) : w'.cell? a = some v := by
  rw [World.cell?_of_block (hk.block a.block (World.block_lt_of_cell? w a h) hF)]; exact h
/-- a store. -/
theorem MapT.store (E : KeyEnc P kt ek ok) (h : MapT ek ev ok W b l) (ht : P.underlying t = some (.map kt et)) (a : κ) (ha : ok a) (v : υ) (hroom : l.length < maxLen) (w : World) (hw : w.heap[b]? = W.heap[b]?) :
    ∃ o, (Instr.mapUpdate t (.map (some b)) (ek a) (ev v)).run P w = .ok () (setBlock w b o) ∧ MapT ek ev ok (setBlock w b o) b (putL l a v) := by
  have hd := h.apart
  obtain ⟨es, ck, hb, hst, hsz, hl, hok⟩ := h
  rw [← hw] at hb
  obtain ⟨x, hx⟩ := E.lit a ha
  have hlen := congrArg List.length hl
  simp at hlen
  have hpok : ∀ p ∈ putL l a v, ok p.1 := by
    intro p hp
    rcases mem_put hp with ⟨hp, _⟩ | rfl
    · exact hok p hp
    · exact ha
  rcases find_at E hl hok hd a ha w with ⟨h1, h2, h3⟩ | ⟨v0, j, e, h1, h2, h3, h4, h5, h6⟩
  · refine ⟨.map (es.push ⟨ek a, ev v, ck⟩) (ck + 1), ?_, ⟨_, _, heap_setBlock_same hb _, stamped_push hst h3, by simp; omega, ?_, hpok⟩⟩
    · unfold Instr.mapUpdate
      simp [run_underlying ht, MapKept.run_getObj_map hb, E.K.check w _ hx, h2, MapKept.run_setObj_map _ hb, Result.andThen, setBlock]
    · unfold putL; rw [h1]; simp [hl]
  · have hj : es[j]? = some e := by simpa using h3
    refine ⟨.map (es.modify j fun e' => { e' with key := ek a, val := ev v }) ck, ?_, ⟨_, _, heap_setBlock_same hb _, stamped_modify hst _ _ (fun _ _ => rfl) (fun e' _ he' => by rw [hj] at he'; cases he'; exact h4.symm), by simp; omega, ?_, hpok⟩⟩
    · unfold Instr.mapUpdate
      simp [run_underlying ht, MapKept.run_getObj_map hb, E.K.check w _ hx, h2, hj, h4, E.K.stays w hx, MapKept.run_setObj_map _ hb, Result.andThen, setBlock]
    · rw [Array.toList_modify, modify_eq_set _ _ _ _ h3, List.map_set, hl]
      unfold putL
      rw [h1, if_pos (by rfl : (some v0).isSome = true), List.map_map]
      apply List.ext_getElem?
      intro i
      rw [List.getElem?_set, List.getElem?_map, List.getElem?_map]
      by_cases hij : j = i
      · subst hij
        have hjl : j < l.length := (List.getElem?_eq_some_iff.1 h6).1
        rw [if_pos rfl, h6]
        simp [hjl]
      · rw [if_neg hij]
        cases hi : l[i]? with
        | none => simp
        | some p =>
          have : p.1 ≠ a := by
            intro e1
            have hpw := List.pairwise_iff_getElem.1 hd
            obtain ⟨hjl, hje⟩ := List.getElem?_eq_some_iff.1 h6
            obtain ⟨hil, hie⟩ := List.getElem?_eq_some_iff.1 hi
            rcases Nat.lt_or_gt_of_ne hij with hlt | hgt
            · exact hpw j i hjl hil hlt (by rw [hje, hie, e1])
            · exact hpw i j hil hjl hgt (by rw [hje, hie, e1])
          simp [this]
/-- a delete. -/
theorem MapT.drop (E : KeyEnc P kt ek ok) (h : MapT ek ev ok W b l) (ht : P.underlying t = some (.map kt et)) (a : κ) (ha : ok a) (w : World) (hw : w.heap[b]? = W.heap[b]?) :
    ∃ o, (∀ ty, (Builtin.delete_ #[t, kt] ty #[.map (some b), ek a]).run P w = .ok (.tuple #[]) (setBlock w b o)) ∧ MapT ek ev ok (setBlock w b o) b (delL l a) := by
  have hd := h.apart
  obtain ⟨es, ck, hb, hst, hsz, hl, hok⟩ := h
  rw [← hw] at hb
  obtain ⟨x, hx⟩ := E.lit a ha
  have hpok : ∀ p ∈ delL l a, ok p.1 := fun p hp => hok p (mem_del.1 hp).1
  rcases find_at E hl hok hd a ha w with ⟨h1, h2, h3⟩ | ⟨v0, j, e, h1, h2, h3, h4, h5, h6⟩
  · refine ⟨.map es ck, ?_, ⟨_, _, heap_setBlock_same hb _, hst, hsz, ?_, hpok⟩⟩
    · intro ty; simp [Builtin.delete_, run_underlying ht, MapKept.run_getObj_map hb, E.K.check w _ hx, h2, MapKept.run_setObj_map _ hb, Result.andThen, setBlock]
    · have : delL l a = l := by
        unfold delL
        rw [List.filter_eq_self]
        intro p hp
        simpa using getL_none.1 h1 p hp
      rw [this]; exact hl
  · have hjl : j < es.toList.length := (List.getElem?_eq_some_iff.1 h3).1
    have hjs : j < es.size := by simpa using hjl
    have hsub : (es.eraseIdxIfInBounds j).toList = es.toList.eraseIdx j := by
      unfold Array.eraseIdxIfInBounds
      rw [dif_pos hjs]
      simp
    refine ⟨.map (es.eraseIdxIfInBounds j) ck, ?_, ⟨_, _, heap_setBlock_same hb _, stamped_erase hst j, Nat.le_trans (MapFrom.size_erase es j) hsz, ?_, hpok⟩⟩
    · intro ty; simp [Builtin.delete_, run_underlying ht, MapKept.run_getObj_map hb, E.K.check w _ hx, h2, MapKept.run_setObj_map _ hb, Result.andThen, setBlock]
    · rw [hsub, map_eraseIdx, hl, ← map_eraseIdx]
      congr 1
      unfold delL
      exact (filter_eq_eraseIdx (fun p : κ × υ => decide (p.1 = a)) l j (a, v0) h6 (by simp) (hd.imp fun {p q} hne ⟨e1, e2⟩ => hne ((of_decide_eq_true e1).trans (of_decide_eq_true e2).symm))).symm
omit [DecidableEq κ] in
/-- its length. -/
theorem MapT.len (h : MapT ek ev ok W b l) (ht : P.underlying t = some (.map kt et)) (ty : TypeId) (w : World) (hw : w.heap[b]? = W.heap[b]?) :
    (Builtin.len_ #[t] ty #[.map (some b)]).run P w = .ok (.int .i64 l.length) w := by
  obtain ⟨es, ck, hb, hst, hsz, hl, hok⟩ := h
  rw [← hw] at hb
  have hlen := congrArg List.length hl
  simp at hlen
  have : goInt (es.size : Int) = .int .i64 (l.length : Int) := by rw [hlen]; rfl
  simp [Builtin.len_, run_underlying ht, MapKept.run_getObj_map hb, ← this]
end
end Go.Proofs.Ytadlecnlgkhneaa

/-
  A BLOCK KNOWN WHOLE: its cells; what a store turns.
-/
namespace Go.Proofs.Ytadlecnlgkhneaa
open Go.RowKit

section
variable {W W' : World}
theorem row_lt {b : Nat} {o : Obj} (h : W.heap[b]? = some o) : b < W.heap.size := (Array.getElem?_eq_some_iff.1 h).1
theorem row_cell {b : Nat} {cs : Array Value} {t : TypeId} (h : W.heap[b]? = some (.cells cs t (0, 0))) (i : Nat) : W.cell? ⟨b, i, none⟩ = cs[i]? := by simp [World.cell?, h]
theorem row_free {b : Nat} {cs : Array Value} {t : TypeId} (h : W.heap[b]? = some (.cells cs t (0, 0))) (i : Nat) : W.frozen? ⟨b, i, none⟩ = false := by simp [World.frozen?, h]
theorem set_same {b : Nat} {cs : Array Value} {t : TypeId} (h : W.heap[b]? = some (.cells cs t (0, 0))) (i : Nat) (v : Value) : (W.setCell ⟨b, i, none⟩ v).heap[b]? = some (.cells (cs.setIfInBounds i v) t (0, 0)) := by
  rw [setCell_eq_setRow W b i _ _ _ _ h]
  exact setRow_heap W b _ _ _ _ h
theorem set_other {b : Nat} (g i : Nat) (v : Value) (hne : b ≠ g) : (W.setCell ⟨g, i, none⟩ v).heap[b]? = W.heap[b]? := Deep.blk_setCell_other W ⟨g, i, none⟩ v b hne
end
/-! ### whole values loaded and stored; where a walk stops -/
theorem exec_ld {P : Program} {oi : Oper} {ev : Operand → Value} {w : World} (ty : TypeId) (x : Operand) (ho : oi.op = .load ty x)
    (g : Nat) (hx : ev x = .pointer (some ⟨g, 0, none⟩)) (t : TypeId) (cs : Array Value) (fr : Nat × Nat) (d : TypeDesc) (hg : w.heap[g]? = some (.cells cs t fr))
    (hu : P.underlying ty = some d) (hd : (match d with | .struct _ | .array _ _ => true | _ => false) = true) (hi : (P.info? ty).map (·.size) = some cs.size) :
    (execOp ev oi).run P w = .ok (.value (.agg cs)) w := by
  unfold execOp
  simp only [ho, hx, Instr.loadAt, Instr.sureAddr, Sem.run_bind, Sem.run_pure, Result.andThen_ok, run_loadVar_row w g t ty cs fr d hg hu hd hi]
section
variable {P : Program} {ops : Array Oper} {rest : List Oper} {o : Oper} {a : Act} {w : World} {Q : Exit → Act → World → Prop}
theorem ld_at (hgd : Region.wanted o (yielded ops a.tmps) = true) (ty : TypeId) (x : Operand) (ho : o.op = .load ty x)
    (g : Nat) (hx : a.eval x = .pointer (some ⟨g, 0, none⟩)) (t : TypeId) (cs : Array Value) (fr : Nat × Nat) (d : TypeDesc) (hg : w.heap[g]? = some (.cells cs t fr))
    (hu : P.underlying ty = some d) (hd : (match d with | .struct _ | .array _ _ => true | _ => false) = true) (hi : (P.info? ty).map (·.size) = some cs.size)
    (h : wpList P ops Q rest (a.put o.dst (.agg cs)) w) : wpList P ops Q (o :: rest) a w := by
  unfold wpList
  rw [if_pos hgd]
  exact .inl (wp_load_row ty x ho g hx t cs fr d hg hu hd hi h)
theorem st_row (hgd : o.guard = none) (ty : TypeId) (x y : Operand) (ho : o.op = .store ty x y)
    (g : Nat) (hx : a.eval x = .pointer (some ⟨g, 0, none⟩)) (t : TypeId) (old cs : Array Value) (hy : a.eval y = .agg cs) (hg : w.heap[g]? = some (.cells old t (0, 0))) (hi : (P.info? ty).map (·.size) = some cs.size) (hs : old.size = cs.size) (h1 : cs.all (·.oneCell') = true)
    (h : wpList P ops Q rest (a.put o.dst undef) (w.setRow g cs)) : wpList P ops Q (o :: rest) a w :=
  wpList_plain hgd fun _ hK => by
    unfold Oper.wp execOp
    simp only [ho, hx, hy, Instr.storeAt, Instr.sureAddr, Sem.run_bind, Sem.run_pure, Result.andThen_ok, run_storeVar_row w g t ty old cs hg hi hs h1]
    exact hK _ _ h
theorem st_fresh (hgd : o.guard = none) (ty : TypeId) (x y : Operand) (ho : o.op = .store ty x y)
    (hx : a.eval x = .pointer (some ⟨w.heap.size, 0, none⟩)) (c c' : Array Value) (hy : a.eval y = .agg c') (hi : (P.info? ty).map (·.size) = some c'.size) (hs : c.size = c'.size) (h1 : c'.all (·.oneCell') = true)
    (h : wpList P ops Q rest (a.put o.dst undef) (w.alloc (.cells c' ty))) : wpList P ops Q (o :: rest) a (w.alloc (.cells c ty)) :=
  wpList_plain hgd fun _ hK => by
    unfold Oper.wp execOp
    simp only [ho, hx, hy, Instr.storeAt, Instr.sureAddr, Sem.run_bind, Sem.run_pure, Result.andThen_ok, run_storeVar_new w ty c c' hi hs h1]
    exact hK _ _ h
/-- the walk stops where it comes to this operation. -/
def Halt (p : Prop) : Prop := p
theorem halt_at {X : Op} (_ho : o.op = X) (h : Halt (wpList P ops Q (o :: rest) a w)) : wpList P ops Q (o :: rest) a w := h
end
theorem block_other {W : World} {b : Nat} {o : Obj} (hb : W.heap[b]? = some o) (g i : Nat) (v : Value) (hne : b ≠ g) : (W.setCell ⟨g, i, none⟩ v).heap[b]? = some o := by
  rw [Deep.blk_setCell_other W ⟨g, i, none⟩ v b hne]; exact hb
end Go.Proofs.Ytadlecnlgkhneaa

/-
  PLAIN ARITHMETIC FOR THE ADDRESSES AND PREFIXES: no program in sight. Masks of 32 bits, the number that is left of an address under a mask, bits of an address.
-/
namespace Go.Proofs.Ytadlecnlgkhneaa
open Go.RowKit (wrap64 wrap32)

theorem cases33 {P : Nat → Prop} (k : Nat) (hk : k ≤ 32) (h0 : P 0) (h1 : P 1) (h2 : P 2) (h3 : P 3) (h4 : P 4) (h5 : P 5) (h6 : P 6) (h7 : P 7) (h8 : P 8) (h9 : P 9) (h10 : P 10) (h11 : P 11) (h12 : P 12) (h13 : P 13) (h14 : P 14) (h15 : P 15) (h16 : P 16)
    (h17 : P 17) (h18 : P 18) (h19 : P 19) (h20 : P 20) (h21 : P 21) (h22 : P 22) (h23 : P 23) (h24 : P 24) (h25 : P 25) (h26 : P 26) (h27 : P 27) (h28 : P 28) (h29 : P 29) (h30 : P 30) (h31 : P 31) (h32 : P 32) : P k := by
  match k, hk with
  | 0, _ => exact h0
  | 1, _ => exact h1
  | 2, _ => exact h2
  | 3, _ => exact h3
  | 4, _ => exact h4
  | 5, _ => exact h5
  | 6, _ => exact h6
  | 7, _ => exact h7
  | 8, _ => exact h8
  | 9, _ => exact h9
  | 10, _ => exact h10
  | 11, _ => exact h11
  | 12, _ => exact h12
  | 13, _ => exact h13
  | 14, _ => exact h14
  | 15, _ => exact h15
  | 16, _ => exact h16
  | 17, _ => exact h17
  | 18, _ => exact h18
  | 19, _ => exact h19
  | 20, _ => exact h20
  | 21, _ => exact h21
  | 22, _ => exact h22
  | 23, _ => exact h23
  | 24, _ => exact h24
  | 25, _ => exact h25
  | 26, _ => exact h26
  | 27, _ => exact h27
  | 28, _ => exact h28
  | 29, _ => exact h29
  | 30, _ => exact h30
  | 31, _ => exact h31
  | 32, _ => exact h32
  | k + 33, h => omega

/-- n brought into 0 to 32. -/
def cl (n : Int) : Int := min (max n 0) 32
theorem cl_lo (n : Int) : 0 ≤ cl n := by unfold cl; omega
theorem cl_hi (n : Int) : cl n ≤ 32 := by unfold cl; omega
theorem cl_of (n : Int) (h0 : 0 ≤ n) (h : n ≤ 32) : cl n = n := by unfold cl; omega
/-- how many low bits a mask of length n leaves out. -/
def lowN (n : Int) : Nat := (32 - cl n).toNat
theorem lowN_le (n : Int) : lowN n ≤ 32 := by have := cl_lo n; unfold lowN; omega
theorem lowN_of (n : Int) (h0 : 0 ≤ n) (h : n ≤ 32) : lowN n = (32 - n).toNat := by unfold lowN; rw [cl_of n h0 h]
/-- the mask of length n, as a number. -/
def maskI (n : Int) : Int := 4294967296 - 2 ^ lowN n
/-- what is left of a under that mask. -/
def keepI (a n : Int) : Int := a - a % 2 ^ lowN n

theorem pow33 (k : Nat) (hk : k ≤ 32) : (4294967295 * 2 ^ k % 4294967296 : Int) = 4294967296 - 2 ^ k := by
  refine cases33 (P := fun k => (4294967295 * 2 ^ k % 4294967296 : Int) = 4294967296 - 2 ^ k) k hk ?_ ?_ ?_ ?_ ?_ ?_ ?_ ?_ ?_ ?_ ?_ ?_ ?_ ?_ ?_ ?_ ?_ ?_ ?_ ?_ ?_ ?_ ?_ ?_ ?_ ?_ ?_ ?_ ?_ ?_ ?_ ?_ ?_ <;> decide
theorem mask_walk (n : Int) : (4294967295 * 2 ^ (32 - cl n).toNat % 4294967296 : Int) = maskI n := pow33 _ (lowN_le n)
theorem pow_pos33 (k : Nat) : (0 : Int) < 2 ^ k := Int.pow_pos (by decide)
theorem pow_le33 (k : Nat) (hk : k ≤ 32) : (2 ^ k : Int) ≤ 4294967296 := by
  refine cases33 (P := fun k => (2 ^ k : Int) ≤ 4294967296) k hk ?_ ?_ ?_ ?_ ?_ ?_ ?_ ?_ ?_ ?_ ?_ ?_ ?_ ?_ ?_ ?_ ?_ ?_ ?_ ?_ ?_ ?_ ?_ ?_ ?_ ?_ ?_ ?_ ?_ ?_ ?_ ?_ ?_ <;> decide
theorem maskI_lo (n : Int) : 0 ≤ maskI n := by have := pow_le33 _ (lowN_le n); unfold maskI; omega
theorem maskI_hi (n : Int) : maskI n < 4294967296 := by have := pow_pos33 (lowN n); unfold maskI; omega
theorem keepI_lo (a n : Int) (h0 : 0 ≤ a) : 0 ≤ keepI a n := by
  unfold keepI
  have hp := pow_pos33 (lowN n)
  have h1 := Int.mul_ediv_add_emod a (2 ^ lowN n)
  have h2 : 0 ≤ 2 ^ lowN n * (a / 2 ^ lowN n) := Int.mul_nonneg (by omega) (Int.ediv_nonneg h0 (by omega))
  omega
theorem keepI_le (a n : Int) : keepI a n ≤ a := by
  unfold keepI
  have h1 : 0 ≤ a % 2 ^ lowN n := Int.emod_nonneg a (by have := pow_pos33 (lowN n); omega)
  omega

theorem nat_and_mask (a k : Nat) (ha : a < 4294967296) (hk : k ≤ 32) : a &&& (4294967296 - 2 ^ k) = a - a % 2 ^ k := by
  have e1 : 4294967296 - 2 ^ k = (2 ^ (32 - k) - 1) <<< k := by
    rw [Nat.shiftLeft_eq, Nat.sub_mul, ← Nat.pow_add, show 32 - k + k = 32 by omega]; omega
  have e2 : a - a % 2 ^ k = (a >>> k) <<< k := by
    rw [Nat.shiftLeft_eq, Nat.shiftRight_eq_div_pow]
    have := Nat.div_add_mod a (2 ^ k)
    rw [Nat.mul_comm] at this
    omega
  rw [e1, e2]
  apply Nat.eq_of_testBit_eq
  intro i
  rw [Nat.testBit_and, Nat.testBit_shiftLeft, Nat.testBit_shiftLeft, Nat.testBit_two_pow_sub_one, Nat.testBit_shiftRight]
  by_cases hi : k ≤ i
  · rw [show k + (i - k) = i by omega]
    by_cases h32 : i < 32
    · have : i - k < 32 - k := by omega
      simp [hi, this]
    · have hlt : a < 2 ^ i := Nat.lt_of_lt_of_le ha (by have : 2 ^ 32 ≤ 2 ^ i := Nat.pow_le_pow_right (by decide) (by omega); omega)
      rw [Nat.testBit_lt_two_pow hlt]; simp
  · simp [hi]
theorem and_mask (a n : Int) (h0 : 0 ≤ a) (h : a < 4294967296) : bits .and .u32 a (maskI n) = keepI a n := by
  rw [u32_and a _ h0 h (maskI_lo n) (maskI_hi n)]
  obtain ⟨x, rfl⟩ := Int.eq_ofNat_of_zero_le h0
  have e : (maskI n).toNat = 4294967296 - 2 ^ lowN n := by
    unfold maskI
    have h1 := pow_le33 _ (lowN_le n)
    have h2 : ((2 : Int) ^ lowN n) = ((2 ^ lowN n : Nat) : Int) := by simp
    rw [h2] at h1 ⊢; omega
  have hle : x % 2 ^ lowN n ≤ x := Nat.mod_le _ _
  rw [e, Int.toNat_natCast, nat_and_mask x _ (by omega) (lowN_le n), keepI]
  have h2 : ((x : Int) % 2 ^ lowN n) = ((x % 2 ^ lowN n : Nat) : Int) := by simp
  rw [h2]; omega

/-- the bit n of an address: bit 0 is its highest. -/
def bitI (a n : Int) : Int := if 0 ≤ n ∧ n < 32 then a / 2 ^ (31 - n).toNat % 2 else 0
theorem bitI_01 (a n : Int) : bitI a n = 0 ∨ bitI a n = 1 := by
  unfold bitI
  split
  · generalize a / 2 ^ (31 - n).toNat = x; omega
  · exact .inl rfl
theorem and_one (x : Int) (h0 : 0 ≤ x) (h : x < 4294967296) : bits .and .u32 x 1 = x % 2 := by
  rw [u32_and x 1 h0 h (by decide) (by decide)]
  obtain ⟨y, rfl⟩ := Int.eq_ofNat_of_zero_le h0
  have : y &&& 1 = y % 2 := Nat.and_one_is_mod y
  simp [this]
theorem bit_walk (a n : Int) (h0 : 0 ≤ a) (h : a < 4294967296) (hn0 : 0 ≤ n) (hn : n < 32) : wrap64 (bits .and .u32 (a / 2 ^ (31 - n).toNat) 1) = bitI a n := by
  have hp := pow_pos33 (31 - n).toNat
  have h1 : 0 ≤ a / 2 ^ (31 - n).toNat := Int.ediv_nonneg h0 (by omega)
  have h2 : a / 2 ^ (31 - n).toNat ≤ a := Int.ediv_le_self _ h0
  rw [and_one _ h1 (by omega), bitI, if_pos ⟨hn0, hn⟩]
  generalize a / 2 ^ (31 - n).toNat = x at *
  unfold wrap64; omega

/-! ### Prefixes -/
/-- is a net in its form? -/
def rightB (a n : Int) : Bool := a == keepI a n && n == cl n
/-- does an address lie in a net? -/
def hasB (a n x : Int) : Bool := rightB a n && keepI x n == a
/-- does one net cover another one? -/
def coversB (a n b m : Int) : Bool := rightB b m && decide (n ≤ m) && hasB a n b
/-- the number of an answer: 0 for right, 1 for a wrong argument. -/
def errI (b : Bool) : Int := if b then 0 else 1
theorem errI_zero (b : Bool) : (errI b == 0) = b := by cases b <;> rfl
theorem rightB_no {a n : Int} (h : (!a == keepI a n) = true ∨ (!n == cl n) = true) : rightB a n = false := by
  unfold rightB; cases h1 : (a == keepI a n) <;> cases h2 : (n == cl n) <;> simp [h1, h2] at h ⊢
theorem rightB_yes {a n : Int} (h : (!a == keepI a n) = false ∧ (!n == cl n) = false) : rightB a n = true := by
  unfold rightB; cases h1 : (a == keepI a n) <;> cases h2 : (n == cl n) <;> simp [h1, h2] at h ⊢
theorem rightB_iff (a n : Int) : rightB a n = true ↔ a % 2 ^ lowN n = 0 ∧ 0 ≤ n ∧ n ≤ 32 := by
  unfold rightB keepI
  have h1 := cl_lo n
  have h2 := cl_hi n
  rw [Bool.and_eq_true, beq_iff_eq, beq_iff_eq]
  constructor
  · rintro ⟨ha, hn⟩; exact ⟨by omega, by omega, by omega⟩
  · rintro ⟨ha, hn, hn'⟩; exact ⟨by omega, (cl_of n hn hn').symm⟩
theorem rightB_range {a n : Int} (h : rightB a n = true) : 0 ≤ n ∧ n ≤ 32 := ((rightB_iff a n).1 h).2
theorem rightB_out {a n : Int} (h : n < 0 ∨ 32 < n) : rightB a n = false := by
  cases hr : rightB a n
  · rfl
  · have := rightB_range hr; omega

/-! ### Bits -/
theorem low_bits (x : Nat) : ∀ K : Nat, (x % 2 ^ K = 0) ↔ ∀ i, i < K → x / 2 ^ i % 2 = 0
  | 0 => by simp; omega
  | K + 1 => by
    have ih := low_bits x K
    have e := Nat.mod_pow_succ (x := x) (b := 2) (k := K)
    have hp : 0 < 2 ^ K := Nat.two_pow_pos K
    have h2 : x / 2 ^ K % 2 = 0 ∨ x / 2 ^ K % 2 = 1 := by omega
    rw [e]
    constructor
    · intro h i hi
      rcases h2 with h2 | h2
      · rw [h2] at h
        rcases Nat.lt_or_ge i K with h3 | h3
        · exact ih.1 (by omega) i h3
        · obtain rfl : i = K := by omega
          exact h2
      · rw [h2] at h; omega
    · intro h
      rw [ih.2 (fun i hi => h i (by omega)), h K (by omega)]; simp
theorem bitI_nat (x i : Nat) (hi : i < 32) : bitI (x : Int) (31 - (i : Int)) = ((x / 2 ^ i % 2 : Nat) : Int) := by
  unfold bitI
  rw [if_pos (by omega)]
  have e : (31 - (31 - (i : Int))).toNat = i := by omega
  rw [e]; simp
theorem right_bits (a : Int) (m : Nat) (h0 : 0 ≤ a) (hm : m ≤ 32) : rightB a m = true ↔ ∀ j : Nat, m ≤ j → j < 32 → bitI a j = 0 := by
  obtain ⟨x, rfl⟩ := Int.eq_ofNat_of_zero_le h0
  rw [rightB_iff, lowN_of _ (by omega) (by omega), show (32 - (m : Int)).toNat = 32 - m by omega]
  have e : ((x : Int) % 2 ^ (32 - m)) = ((x % 2 ^ (32 - m) : Nat) : Int) := by simp
  rw [e]
  have hl := low_bits x (32 - m)
  constructor
  · rintro ⟨h, _⟩ j hj hj'
    have := hl.1 (by omega) (31 - j) (by omega)
    have hb := bitI_nat x (31 - j) (by omega)
    rw [show (31 - ((31 - j : Nat) : Int)) = (j : Int) by omega, this] at hb
    exact hb
  · intro h
    refine ⟨?_, by omega, by omega⟩
    have := hl.2 (fun i hi => by
      have hb := bitI_nat x i (by omega)
      have h2 := h (31 - i) (by omega) (by omega)
      rw [show ((31 - i : Nat) : Int) = 31 - (i : Int) by omega, hb] at h2
      omega)
    omega
theorem nat_eq_bits (p q n : Nat) (hp : p < 2 ^ n) (hq : q < 2 ^ n) (h : ∀ i, i < n → p / 2 ^ i % 2 = q / 2 ^ i % 2) : p = q := by
  apply Nat.eq_of_testBit_eq
  intro i
  rw [Nat.testBit_eq_decide_div_mod_eq, Nat.testBit_eq_decide_div_mod_eq]
  rcases Nat.lt_or_ge i n with hi | hi
  · rw [h i hi]
  · have h1 : 2 ^ n ≤ 2 ^ i := Nat.pow_le_pow_right (by decide) hi
    rw [Nat.div_eq_of_lt (by omega), Nat.div_eq_of_lt (by omega)]
theorem keep_div (a n : Int) : keepI a n = 2 ^ lowN n * (a / 2 ^ lowN n) := by
  have := Int.mul_ediv_add_emod a (2 ^ lowN n)
  unfold keepI; omega
theorem keep_right (a n : Int) (h : rightB a n = true) : keepI a n = a := by
  have := (rightB_iff a n).1 h
  unfold keepI; omega
/-- equal under a mask just if the first bits are equal. -/
theorem keep_bits (x y : Int) (m : Nat) (hx0 : 0 ≤ x) (hx : x < 4294967296) (hy0 : 0 ≤ y) (hy : y < 4294967296) (hm : m ≤ 32) : keepI x m = keepI y m ↔ ∀ j : Nat, j < m → bitI x j = bitI y j := by
  obtain ⟨p, rfl⟩ := Int.eq_ofNat_of_zero_le hx0
  obtain ⟨q, rfl⟩ := Int.eq_ofNat_of_zero_le hy0
  have hK : lowN (m : Int) = 32 - m := by rw [lowN_of _ (by omega) (by omega)]; omega
  rw [keep_div, keep_div, hK]
  have hpos : (0 : Int) < 2 ^ (32 - m) := pow_pos33 _
  have e1 : ((p : Int) / 2 ^ (32 - m)) = ((p / 2 ^ (32 - m) : Nat) : Int) := by simp
  have e2 : ((q : Int) / 2 ^ (32 - m)) = ((q / 2 ^ (32 - m) : Nat) : Int) := by simp
  have hmul : (2 ^ (32 - m) * ((p : Int) / 2 ^ (32 - m)) = 2 ^ (32 - m) * ((q : Int) / 2 ^ (32 - m))) ↔ p / 2 ^ (32 - m) = q / 2 ^ (32 - m) := by
    rw [e1, e2]
    constructor
    · intro h
      have := Int.eq_of_mul_eq_mul_left (by omega) h
      omega
    · intro h; rw [h]
  rw [hmul]
  have hb : ∀ (z i : Nat), i < m → z / 2 ^ (32 - m) / 2 ^ i % 2 = z / 2 ^ (32 - m + i) % 2 := fun z i _ => by rw [Nat.div_div_eq_div_mul, Nat.pow_add]
  have hj : ∀ (z j : Nat), j < m → bitI (z : Int) j = ((z / 2 ^ (32 - m + (m - 1 - j)) % 2 : Nat) : Int) := fun z j hjm => by
    have := bitI_nat z (31 - j) (by omega)
    rw [show (31 - ((31 - j : Nat) : Int)) = (j : Int) by omega] at this
    rw [this, show 32 - m + (m - 1 - j) = 31 - j by omega]
  have hlt : ∀ z : Nat, z < 4294967296 → z / 2 ^ (32 - m) < 2 ^ m := fun z hz => by
    rw [Nat.div_lt_iff_lt_mul (Nat.two_pow_pos _), ← Nat.pow_add, show m + (32 - m) = 32 by omega]; omega
  constructor
  · intro h j hjm
    rw [hj p j hjm, hj q j hjm, ← hb p _ (by omega), ← hb q _ (by omega), h]
  · intro h
    refine nat_eq_bits _ _ m (hlt p (by omega)) (hlt q (by omega)) (fun i hi => ?_)
    rw [hb p i hi, hb q i hi]
    have := h (m - 1 - i) (by omega)
    rw [hj p _ (by omega), hj q _ (by omega), show m - 1 - (m - 1 - i) = i by omega] at this
    omega
theorem has_bits (a x : Int) (m : Nat) (h0 : 0 ≤ a) (h : a < 4294967296) (k0 : 0 ≤ x) (k : x < 4294967296) (hm : m ≤ 32) (hr : rightB a m = true) : hasB a m x = true ↔ ∀ j : Nat, j < m → bitI a j = bitI x j := by
  unfold hasB
  rw [hr, Bool.true_and, beq_iff_eq]
  have := keep_bits a x m h0 h k0 k hm
  rw [keep_right a m hr] at this
  rw [← this]
  exact eq_comm
theorem Has_ref {a n x : Int} : hasB a n x = (rightB a n && keepI x n == a) := rfl

/-! ### A number out of its bits -/
def numF (f : Nat → Int) : Nat → Int
  | 0 => 0
  | k + 1 => (2 * numF f k + f k % 4294967296) % 4294967296
theorem numF_congr (f g : Nat → Int) : ∀ k, (∀ j, j < k → f j = g j) → numF f k = numF g k
  | 0, _ => rfl
  | k + 1, h => by rw [numF, numF, numF_congr f g k (fun j hj => h j (by omega)), h k (by omega)]
def oneF (n : Int) (j : Nat) : Int := if (j : Int) < n then 1 else 0
theorem num_mask (n : Int) : numF (oneF n) 32 = maskI n := by
  have e : numF (oneF n) 32 = numF (oneF ((32 - lowN n : Nat) : Int)) 32 := numF_congr _ _ _ (fun j hj => by
    unfold oneF lowN
    have h1 := cl_lo n
    have h2 := cl_hi n
    have h3 : (j : Int) < n ↔ (j : Int) < ((32 - (32 - cl n).toNat : Nat) : Int) := by unfold cl at *; omega
    by_cases h : (j : Int) < n
    · rw [if_pos h, if_pos (h3.1 h)]
    · rw [if_neg h, if_neg (fun h' => h (h3.2 h'))])
  rw [e]
  unfold maskI
  generalize hk : lowN n = k
  have hk' : k ≤ 32 := by rw [← hk]; exact lowN_le n
  refine cases33 (P := fun k => numF (oneF ((32 - k : Nat) : Int)) 32 = 4294967296 - 2 ^ k) k hk' ?_ ?_ ?_ ?_ ?_ ?_ ?_ ?_ ?_ ?_ ?_ ?_ ?_ ?_ ?_ ?_ ?_ ?_ ?_ ?_ ?_ ?_ ?_ ?_ ?_ ?_ ?_ ?_ ?_ ?_ ?_ ?_ ?_ <;> decide +kernel

/-! ### A number under its own mask -/
theorem lowN_cl (n : Int) : lowN (cl n) = lowN n := by unfold lowN cl; omega
theorem keepI_cl (a n : Int) : keepI a (cl n) = keepI a n := by unfold keepI; rw [lowN_cl]
theorem keepI_mod (a n : Int) : keepI a n % 2 ^ lowN n = 0 := by rw [keep_div]; exact Int.mul_emod_right _ _
theorem right_keep (a n : Int) : rightB (keepI a n) (cl n) = true := by
  rw [rightB_iff, lowN_cl]; exact ⟨keepI_mod a n, cl_lo n, cl_hi n⟩
theorem keep_keep (a n : Int) : keepI (keepI a n) n = keepI a n := by
  have := keepI_mod a n
  show keepI a n - keepI a n % 2 ^ lowN n = keepI a n
  omega
theorem has_keep (a n : Int) : hasB (keepI a n) (cl n) a = true := by
  unfold hasB; rw [right_keep, keepI_cl]; simp
end Go.Proofs.Ytadlecnlgkhneaa

/-
  NUMBERS FOR NETS: a net's node is its bits behind a one.
-/
namespace Go.Proofs.Ytadlecnlgkhneaa

/-- the node of a net of i bits. -/
def keyN (a i : Nat) : Nat := 2 ^ i + a / 2 ^ (32 - i)
theorem keyN_0 (a : Nat) (ha : a < 4294967296) : keyN a 0 = 1 := by
  unfold keyN
  rw [Nat.div_eq_of_lt (by simpa using ha)]
theorem keyN_succ (a i : Nat) (hi : i < 32) : keyN a (i + 1) = 2 * keyN a i + a / 2 ^ (31 - i) % 2 := by
  unfold keyN
  have h1 : 32 - (i + 1) = 31 - i := by omega
  have h2 : 2 ^ (32 - i) = 2 ^ (31 - i) * 2 := by rw [show 32 - i = (31 - i) + 1 by omega, Nat.pow_succ]
  rw [h1, h2, ← Nat.div_div_eq_div_mul, Nat.pow_succ]
  generalize a / 2 ^ (31 - i) = x
  generalize 2 ^ i = y
  omega
theorem keyN_half (a i : Nat) (hi : i < 32) : keyN a (i + 1) / 2 = keyN a i := by rw [keyN_succ a i hi]; omega
theorem keyN_mod (a i : Nat) (hi : i < 32) : keyN a (i + 1) % 2 = a / 2 ^ (31 - i) % 2 := by rw [keyN_succ a i hi]; omega
theorem keyN_lo (a i : Nat) : 2 ^ i ≤ keyN a i := Nat.le_add_right _ _
theorem keyN_pos (a i : Nat) : 1 ≤ keyN a i := Nat.le_trans (Nat.pow_pos (by decide)) (keyN_lo a i)
theorem keyN_two (a i : Nat) : 2 ≤ keyN a (i + 1) := Nat.le_trans (by rw [Nat.pow_succ]; have := Nat.pow_pos (n := i) (show 0 < 2 by decide); omega) (keyN_lo a (i + 1))
theorem keyN_hi (a i : Nat) (ha : a < 4294967296) (hi : i ≤ 32) : keyN a i < 2 ^ (i + 1) := by
  unfold keyN
  have : a / 2 ^ (32 - i) < 2 ^ i := by
    refine Nat.div_lt_of_lt_mul ?_
    rw [← Nat.pow_add, show 32 - i + i = 32 by omega]
    exact ha
  rw [Nat.pow_succ]
  omega
theorem keyN_deep (a i : Nat) (ha : a < 4294967296) (hi : i ≤ 32) : keyN a i < 2 ^ 33 := by
  refine Nat.lt_of_lt_of_le (keyN_hi a i ha hi) (Nat.pow_le_pow_right (by decide) (by omega))
theorem keyN_len {a b i j : Nat} (ha : a < 4294967296) (hb : b < 4294967296) (hi : i ≤ 32) (hj : j ≤ 32) (h : keyN a i = keyN b j) : i = j := by
  have a1 := keyN_lo a i
  have a2 := keyN_hi a i ha hi
  have b1 := keyN_lo b j
  have b2 := keyN_hi b j hb hj
  rw [h] at a1 a2
  have h1 : i < j + 1 := (Nat.pow_lt_pow_iff_right (by decide)).1 (Nat.lt_of_le_of_lt a1 b2)
  have h2 : j < i + 1 := (Nat.pow_lt_pow_iff_right (by decide)).1 (Nat.lt_of_le_of_lt b1 a2)
  omega
theorem keyN_inj {a b i j : Nat} (ha : a < 4294967296) (hb : b < 4294967296) (hi : i ≤ 32) (hj : j ≤ 32) (h : keyN a i = keyN b j) : i = j ∧ a / 2 ^ (32 - i) = b / 2 ^ (32 - i) := by
  obtain rfl := keyN_len ha hb hi hj h
  refine ⟨rfl, ?_⟩
  unfold keyN at h
  omega
theorem bit_key (a i : Nat) (hi : i < 32) : bitI (a : Int) (i : Int) = ((a / 2 ^ (31 - i) % 2 : Nat) : Int) := by
  have := bitI_nat a (31 - i) (by omega)
  rw [show (31 - ((31 - i : Nat) : Int)) = (i : Int) by omega] at this
  exact this
end Go.Proofs.Ytadlecnlgkhneaa

/-
  FOR THE STATEMENTS' LAST STEP: what the arguments are, by their types.
-/
namespace Go.Proofs.Ytadlecnlgkhneaa
open Go.RowKit Go.ChangeShapes Go.WideShapes Go.ChangeAt

theorem fr_own : ownKnob Try.prog.godebug = none := by kernel_rfl
theorem fr_laidOut : laidOutB Try.prog = true := by kernel_rfl

section
variable {w : World} {r : Reach} {b : Nat}
set_option maxRecDepth 100000 in
theorem cell_int {t : TypeId} {k : IntKind} {v : Value} (ht : Try.prog.underlying t = some (.int k)) (h : Cell.okWide Try.prog w r b t v) : ∃ n, v = .int k n ∧ k.has n := by
  simp only [Cell.okWide, ht] at h
  cases v <;> simp_all [Cell.ok]
theorem has_u32 {n : Int} (h : IntKind.u32.has n) : 0 ≤ n ∧ n < 4294967296 := by
  simp [IntKind.has, IntKind.min, IntKind.max, IntKind.bits, IntKind.signed] at h; omega
theorem has_i64 {n : Int} (h : IntKind.i64.has n) : -9223372036854775808 ≤ n ∧ n ≤ 9223372036854775807 := by
  simp [IntKind.has, IntKind.min, IntKind.max, IntKind.bits, IntKind.signed] at h; omega
set_option maxRecDepth 100000 in
theorem open_i64 {v : Value} (h : Value.okWide Try.prog w r b 3 v) : ∃ n, v = .int .i64 n ∧ -9223372036854775808 ≤ n ∧ n ≤ 9223372036854775807 := by
  simp only [Value.okWide, Try.underlying3] at h
  obtain ⟨n, rfl, hn⟩ := cell_int Try.underlying3 h
  exact ⟨n, rfl, has_i64 hn⟩
set_option maxRecDepth 100000 in
theorem open_u32 {v : Value} (h : Value.okWide Try.prog w r b 27 v) : ∃ n, v = .int .u32 n ∧ 0 ≤ n ∧ n < 4294967296 := by
  simp only [Value.okWide, Try.underlying27] at h
  obtain ⟨n, rfl, hn⟩ := cell_int Try.underlying27 h
  exact ⟨n, rfl, has_u32 hn⟩
set_option maxRecDepth 100000 in
theorem open_pref {v : Value} (h : Value.okWide Try.prog w r b 29 v) : ∃ a n, v = .agg #[.int .u32 a, .int .i64 n] ∧ 0 ≤ a ∧ a < 4294967296 ∧ -9223372036854775808 ≤ n ∧ n ≤ 9223372036854775807 := by
  simp only [Value.okWide, Try.underlying29] at h
  obtain ⟨cs, rfl, hsz, ts, hts, _, hc⟩ := h
  have e : Try.prog.cellTypes Try.prog.depth 29 = some [27, 3] := by kernel_rfl
  rw [e] at hts
  obtain rfl := Option.some.inj hts
  have hn : Try.prog.cellsOf 29 = 2 := by kernel_rfl
  rw [hn] at hsz
  match cs, hsz with
  | ⟨[x, y]⟩, _ =>
    obtain ⟨u0, hu0, h0⟩ := hc 0 x (by simp)
    obtain ⟨u1, hu1, h1⟩ := hc 1 y (by simp)
    simp at hu0 hu1
    subst hu0; subst hu1
    obtain ⟨a, rfl, ha⟩ := cell_int Try.underlying27 h0
    obtain ⟨n, rfl, hn⟩ := cell_int Try.underlying3 h1
    exact ⟨a, n, rfl, (has_u32 ha).1, (has_u32 ha).2, (has_i64 hn).1, (has_i64 hn).2⟩
end
end Go.Proofs.Ytadlecnlgkhneaa
