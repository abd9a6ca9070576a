/- Texts of one proof, one behind another. -/
import Derived.Test.YtohkbcdnlmjcjaaDoorWr1
import Derived.Maps.Range
import Derived.DeepKeys4
import Derived.Test.YtohkbcdnlmjcjaaDoorWr3
import Derived.Test.YtohkbcdnlmjcjaaDoorWr2
import Derived.Laws.BytesArg
import Derived.Lib.LaidTab
import Derived.Lib.SmallJoins
import Derived.OwnWalk
import Derived.Maps.AppendAt
import Derived.Deep.MidRow
import Derived.Lib.SlBuf
/-
  MAPS AS LISTS OF PAIRS: a map's block in memory holds, one by one, the pairs of a list; look-up, store, delete, length, range.
-/
namespace Go.Proofs.YtohkbcdnlmjcjaaDoor
open Go.RowKit Go.Maps Go.ChangeMaps Go.MapKept

section
variable {κ υ : Type} [DecidableEq κ]
/-- how keys of a type stand for values. -/
structure KeyEnc (P : Program) (kt : TypeId) (ek : κ → Value) (ok : κ → Prop) : Prop where
  K : Keyed P kt
  lit : ∀ a, ok a → ∃ l, keyOf P kt (ek a) = some l
  inj : ∀ a b, ek a = ek b → a = b
def MapT (ek : κ → Value) (ev : υ → Value) (ok : κ → Prop) (W : World) (b : Nat) (l : List (κ × υ)) : Prop :=
  ∃ es clock, W.heap[b]? = some (.map es clock) ∧ Stamped es clock ∧ es.size ≤ maxLen ∧ es.toList.map (fun e => (e.key, e.val)) = l.map (fun p => (ek p.1, ev p.2)) ∧ ∀ p ∈ l, ok p.1
/-- what stands at a key. -/
def getL (l : List (κ × υ)) (a : κ) : Option υ := (l.find? fun p => p.1 = a).map (·.2)
def putL (l : List (κ × υ)) (a : κ) (v : υ) : List (κ × υ) := if (getL l a).isSome then l.map (fun p => if p.1 = a then (a, v) else p) else l ++ [(a, v)]
def delL (l : List (κ × υ)) (a : κ) : List (κ × υ) := l.filter fun p => !decide (p.1 = a)
def KeysApart (l : List (κ × υ)) : Prop := l.Pairwise fun p q => p.1 ≠ q.1

set_option maxRecDepth 100000 in
theorem getL_none {l : List (κ × υ)} {a : κ} : getL l a = none ↔ ∀ p ∈ l, p.1 ≠ a := by
  unfold getL
  simp [List.find?_eq_none]
set_option maxRecDepth 100000 in
theorem getL_mem {l : List (κ × υ)} {a : κ} {v : υ} (h : getL l a = some v) : (a, v) ∈ l := by
  unfold getL at h
  simp only [Option.map_eq_some_iff] at h
  obtain ⟨p, hp, rfl⟩ := h
  have h1 := List.find?_some hp
  have h2 := List.mem_of_find?_eq_some hp
  simp at h1
  rw [← h1]; exact h2
set_option maxRecDepth 100000 in
theorem getL_of_mem {l : List (κ × υ)} {a : κ} {v : υ} (hd : KeysApart l) (h : (a, v) ∈ l) : getL l a = some v := by
  induction l with
  | nil => cases h
  | cons p r ih =>
    unfold KeysApart at hd
    obtain ⟨h1, h2⟩ := List.pairwise_cons.1 hd
    by_cases hp : p.1 = a
    · rcases List.mem_cons.1 h with e | h
      · unfold getL; rw [List.find?_cons_of_pos (by simpa using hp), ← e]; rfl
      · exact absurd hp (h1 _ h)
    · rcases List.mem_cons.1 h with e | h
      · rw [← e] at hp; exact absurd rfl hp
      · have := ih h2 h
        unfold getL at this ⊢
        rw [List.find?_cons_of_neg (by simpa using hp)]; exact this
set_option maxRecDepth 100000 in
theorem getL_iff {l : List (κ × υ)} {a : κ} {v : υ} (hd : KeysApart l) : getL l a = some v ↔ (a, v) ∈ l := ⟨getL_mem, getL_of_mem hd⟩
set_option maxRecDepth 100000 in
theorem getL_append (l m : List (κ × υ)) (a : κ) : getL (l ++ m) a = (getL l a).or (getL m a) := by
  unfold getL; rw [List.find?_append]; cases l.find? _ <;> rfl
set_option maxRecDepth 100000 in
theorem getL_map_put (l : List (κ × υ)) (a b : κ) (v : υ) : getL (l.map fun p => if p.1 = a then (a, v) else p) b = if b = a then (getL l a).map (fun _ => v) else getL l b := by
  induction l with
  | nil => simp [getL]
  | cons p r ih =>
    unfold getL at ih ⊢
    simp only [List.map_cons, List.find?_cons]
    by_cases hp : p.1 = a
    · by_cases hb : b = a
      · subst hb; simp [hp]
      · have hb' : ¬ a = b := fun e => hb e.symm
        have : ¬ p.1 = b := by rw [hp]; exact hb'
        simp only [hp, if_true, hb', if_false, hb] at ih ⊢
        simpa [hb'] using ih
    · by_cases hb : b = a
      · subst hb; simp only [hp, if_false, decide_false, if_true] at ih ⊢; exact ih
      · by_cases hpb : p.1 = b
        · subst hpb; simp [hp]
        · simp only [hp, if_false, hpb, decide_false, hb] at ih ⊢; exact ih
set_option maxRecDepth 100000 in
theorem getL_put (l : List (κ × υ)) (a b : κ) (v : υ) : getL (putL l a v) b = if b = a then some v else getL l b := by
  unfold putL
  split
  · rename_i h
    rw [getL_map_put]
    split
    · cases hg : getL l a with
      | none => rw [hg] at h; cases h
      | some x => rfl
    · rfl
  · rename_i h
    rw [getL_append]
    have hn : getL l a = none := by cases hg : getL l a with
      | none => rfl
      | some x => rw [hg] at h; exact absurd rfl h
    by_cases hb : b = a
    · subst hb; rw [hn, if_pos rfl]; simp [getL]
    · rw [if_neg hb]
      have : getL [(a, v)] b = none := by rw [getL_none]; intro p hp; simp at hp; subst hp; exact fun e => hb e.symm
      rw [this]; cases getL l b <;> rfl
set_option maxRecDepth 100000 in
theorem getL_del (l : List (κ × υ)) (a b : κ) : getL (delL l a) b = if b = a then none else getL l b := by
  split
  · rename_i h; subst h
    rw [getL_none]; intro p hp
    have := (List.mem_filter.1 hp).2
    simpa using this
  · rename_i h
    unfold getL delL
    rw [List.find?_filter]
    congr 1
    have : (fun p : κ × υ => decide ((!decide (p.1 = a)) = true ∧ decide (p.1 = b) = true)) = fun p => decide (p.1 = b) := by
      funext p
      by_cases hp : p.1 = b
      · subst hp; simp [h]
      · simp [hp]
    rw [this]
set_option maxRecDepth 100000 in
theorem apart_put {l : List (κ × υ)} (hd : KeysApart l) (a : κ) (v : υ) : KeysApart (putL l a v) := by
  unfold putL KeysApart at *
  split
  · rw [List.pairwise_map]
    refine hd.imp ?_
    intro p q h
    by_cases hp : p.1 = a
    · by_cases hq : q.1 = a
      · exact absurd (hp.trans hq.symm) h
      · simp only [hp, hq, if_true, if_false]; exact fun e => hq e.symm
    · by_cases hq : q.1 = a
      · simp only [hp, hq, if_true, if_false]; exact hp
      · simp only [hp, hq, if_false]; exact h
  · rename_i h
    have hn : getL l a = none := by cases hg : getL l a with
      | none => rfl
      | some x => rw [hg] at h; exact absurd rfl h
    rw [getL_none] at hn
    rw [List.pairwise_append]
    refine ⟨hd, by simp, fun p hp q hq => ?_⟩
    simp at hq; subst hq; exact hn p hp
set_option maxRecDepth 100000 in
theorem apart_del {l : List (κ × υ)} (hd : KeysApart l) (a : κ) : KeysApart (delL l a) := hd.filter _
set_option maxRecDepth 100000 in
theorem mem_put {l : List (κ × υ)} {a : κ} {v : υ} {p : κ × υ} (h : p ∈ putL l a v) : (p ∈ l ∧ p.1 ≠ a) ∨ p = (a, v) := by
  unfold putL at h
  split at h
  · obtain ⟨q, hq, rfl⟩ := List.mem_map.1 h
    by_cases hp : q.1 = a
    · right; simp [hp]
    · left; simp only [hp, if_false]; exact ⟨hq, hp⟩
  · rename_i hn
    rcases List.mem_append.1 h with h | h
    · left
      refine ⟨h, ?_⟩
      have hg : getL l a = none := by cases hg : getL l a with
        | none => rfl
        | some x => rw [hg] at hn; exact absurd rfl hn
      exact getL_none.1 hg p h
    · right; simpa using h
set_option maxRecDepth 100000 in
theorem mem_del {l : List (κ × υ)} {a : κ} {p : κ × υ} : p ∈ delL l a ↔ p ∈ l ∧ p.1 ≠ a := by
  unfold delL; simp
set_option maxRecDepth 100000 in
theorem len_put (l : List (κ × υ)) (a : κ) (v : υ) : (putL l a v).length = if (getL l a).isSome then l.length else l.length + 1 := by
  unfold putL; split <;> simp
set_option maxRecDepth 100000 in
theorem len_del {l : List (κ × υ)} (hd : KeysApart l) (a : κ) : (delL l a).length = if (getL l a).isSome then l.length - 1 else l.length := by
  induction l with
  | nil => simp [delL, getL]
  | cons p r ih =>
    unfold KeysApart at hd
    obtain ⟨h1, h2⟩ := List.pairwise_cons.1 hd
    have ih := ih h2
    by_cases hp : p.1 = a
    · have e : getL (p :: r) a = some p.2 := by unfold getL; rw [List.find?_cons_of_pos (by simpa using hp)]; rfl
      have n : getL r a = none := getL_none.2 fun q hq e => h1 q hq (hp.trans e.symm)
      rw [n] at ih
      rw [e]
      unfold delL at ih ⊢
      rw [List.filter_cons_of_neg (by simpa using hp)]
      simpa using ih
    · have e : getL (p :: r) a = getL r a := by unfold getL; rw [List.find?_cons_of_neg (by simpa using hp)]
      rw [e]
      unfold delL at ih ⊢
      rw [List.filter_cons_of_pos (by simpa using hp)]
      cases hg : (getL r a).isSome
      · rw [hg] at ih; simp at ih ⊢; exact ih
      · rw [hg] at ih
        have : 0 < r.length := by
          cases r with
          | nil => simp [getL] at hg
          | cons _ _ => simp
        simp at ih ⊢; omega

variable {P : Program} {kt et t : TypeId} {ek : κ → Value} {ev : υ → Value} {ok : κ → Prop} {W W' : World} {b : Nat} {l : List (κ × υ)}

set_option maxRecDepth 100000 in
omit [DecidableEq κ] in
theorem MapT.lt (h : MapT ek ev ok W b l) : b < W.heap.size := by
  obtain ⟨es, c, hb, _⟩ := h
  exact (Array.getElem?_eq_some_iff.1 hb).1
set_option maxRecDepth 100000 in
omit [DecidableEq κ] in
theorem MapT.of_block (h : MapT ek ev ok W b l) (hb : W'.heap[b]? = W.heap[b]?) : MapT ek ev ok W' b l := by
  obtain ⟨es, c, h1, r⟩ := h
  exact ⟨es, c, hb.trans h1, r⟩
set_option maxRecDepth 100000 in
omit [DecidableEq κ] in
theorem MapT.below (h : MapT ek ev ok W b l) (hb : Below W.heap.size W W') : MapT ek ev ok W' b l := h.of_block (hb.block b h.lt)
set_option maxRecDepth 100000 in
omit [DecidableEq κ] in
theorem MapT.drew (h : MapT ek ev ok W b l) : MapT ek ev ok W.drew b l := h
set_option maxRecDepth 100000 in
omit [DecidableEq κ] in
theorem MapT.made (W : World) : MapT ek ev ok (W.alloc (.map #[] 0)) W.heap.size ([] : List (κ × υ)) :=
  ⟨#[], 0, heap_alloc_new W _, stamped_empty 0, by simp, rfl, by simp⟩
set_option maxRecDepth 100000 in
omit [DecidableEq κ] in
theorem MapT.oks (h : MapT ek ev ok W b l) : ∀ p ∈ l, ok p.1 := by obtain ⟨_, _, _, _, _, _, h⟩ := h; exact h
set_option maxRecDepth 100000 in
omit [DecidableEq κ] in
theorem MapT.short (h : MapT ek ev ok W b l) : l.length ≤ maxLen := by
  obtain ⟨es, c, _, _, hs, hl, _⟩ := h
  have := congrArg List.length hl
  simp at this; omega
set_option maxRecDepth 100000 in
omit [DecidableEq κ] in
theorem entry_of {es : Array MapEntry} (hl : es.toList.map (fun e => (e.key, e.val)) = l.map (fun p => (ek p.1, ev p.2))) {e : MapEntry} (he : e ∈ es.toList) : ∃ p ∈ l, e.key = ek p.1 ∧ e.val = ev p.2 := by
  have : (e.key, e.val) ∈ l.map (fun p => (ek p.1, ev p.2)) := by rw [← hl]; exact List.mem_map.2 ⟨e, he, rfl⟩
  obtain ⟨p, hp, he⟩ := List.mem_map.1 this
  simp at he
  exact ⟨p, hp, he.1.symm, he.2.symm⟩
set_option maxRecDepth 100000 in
omit [DecidableEq κ] in
theorem entry_to {es : Array MapEntry} (hl : es.toList.map (fun e => (e.key, e.val)) = l.map (fun p => (ek p.1, ev p.2))) {p : κ × υ} (hp : p ∈ l) : ∃ e ∈ es.toList, e.key = ek p.1 ∧ e.val = ev p.2 := by
  have : (ek p.1, ev p.2) ∈ es.toList.map (fun e => (e.key, e.val)) := by rw [hl]; exact List.mem_map.2 ⟨p, hp, rfl⟩
  obtain ⟨e, he, hq⟩ := List.mem_map.1 this
  simp at hq
  exact ⟨e, he, hq.1, hq.2⟩
set_option maxRecDepth 100000 in
omit [DecidableEq κ] in
theorem MapT.apart (h : MapT ek ev ok W b l) : KeysApart l := by
  obtain ⟨es, c, _, hst, _, hl, _⟩ := h
  have h3 := ((stamped_iff es c).1 hst).2.2
  have h4 : (es.toList.map (fun e => (e.key, e.val))).Pairwise fun x y => x.1 ≠ y.1 := by rw [List.pairwise_map]; exact h3
  rw [hl, List.pairwise_map] at h4
  exact h4.imp fun {p q} h e => h (by rw [e])
set_option maxRecDepth 100000 in
omit [DecidableEq κ] in
theorem keys_ok (E : KeyEnc P kt ek ok) {es : Array MapEntry} (hl : es.toList.map (fun e => (e.key, e.val)) = l.map (fun p => (ek p.1, ev p.2))) (hok : ∀ p ∈ l, ok p.1) : ∀ e ∈ es.toList, ∃ x, keyOf P kt e.key = some x := by
  intro e he
  obtain ⟨p, hp, h1, _⟩ := entry_of hl he
  rw [h1]; exact E.lit _ (hok p hp)
set_option maxRecDepth 100000 in
/-- what is found at a key. -/
theorem find_at (E : KeyEnc P kt ek ok) {es : Array MapEntry} (hl : es.toList.map (fun e => (e.key, e.val)) = l.map (fun p => (ek p.1, ev p.2))) (hok : ∀ p ∈ l, ok p.1) (hd : KeysApart l) (a : κ) (ha : ok a) (w : World) :
    (getL l a = none ∧ (Instr.findKey kt (ek a) es.toList).run P w = .ok none w ∧ ∀ e ∈ es.toList, e.key ≠ ek a) ∨
    ∃ v j e, getL l a = some v ∧ (Instr.findKey kt (ek a) es.toList).run P w = .ok (some (j, e.val)) w ∧ es.toList[j]? = some e ∧ e.key = ek a ∧ e.val = ev v ∧ l[j]? = some (a, v) := by
  obtain ⟨x, hx⟩ := E.lit a ha
  rcases E.K.find w hx es.toList (keys_ok E hl hok) with ⟨h1, h2⟩ | ⟨j, e, h1, h2, h3⟩
  · refine .inl ⟨getL_none.2 fun p hp hpa => ?_, h1, h2⟩
    obtain ⟨e, he, e1, _⟩ := entry_to hl hp
    exact h2 e he (by rw [e1, hpa])
  · have hj : (es.toList.map (fun e => (e.key, e.val)))[j]? = some (e.key, e.val) := by rw [List.getElem?_map, h2]; rfl
    rw [hl, List.getElem?_map] at hj
    cases hlj : l[j]? with
    | none => rw [hlj] at hj; cases hj
    | some p =>
      rw [hlj] at hj
      simp at hj
      have ea : p.1 = a := E.inj _ _ (hj.1.trans h3)
      refine .inr ⟨p.2, j, e, ?_, h1, h2, h3, hj.2.symm, by rw [← ea]; exact hlj⟩
      rw [getL_iff hd, ← ea]
      exact List.mem_of_getElem? hlj
set_option maxRecDepth 100000 in
/-- a look-up, with whether there is one. -/
theorem MapT.look (E : KeyEnc P kt ek ok) (h : MapT ek ev ok W b l) (ht : P.underlying t = some (.map kt et)) (a : κ) (ha : ok a) {z : Value} (hz : ∀ w, (zeroValue et).run P w = .ok z w) (w : World) (hw : w.heap[b]? = W.heap[b]?) (c : Bool) :
    (Instr.lookup t (.map (some b)) (ek a) c).run P w = .ok (if c then .tuple #[((getL l a).map ev).getD z, .bool (getL l a).isSome] else ((getL l a).map ev).getD z) w := by
  have hd := h.apart
  obtain ⟨es, ck, hb, hst, _, hl, hok⟩ := h
  rw [← hw] at hb
  obtain ⟨x, hx⟩ := E.lit a ha
  rcases find_at E hl hok hd a ha w with ⟨h1, h2, _⟩ | ⟨v, j, e, h1, h2, _, _, h5, _⟩
  · rw [h1]
    unfold Instr.lookup
    simp [run_underlying ht, MapKept.run_getObj_map hb, E.K.check w _ hx, h2, hz, Result.andThen]
  · rw [h1]
    unfold Instr.lookup
    simp [run_underlying ht, MapKept.run_getObj_map hb, E.K.check w _ hx, h2, Result.andThen, h5]
set_option maxRecDepth 100000 in
theorem setBlock_below {B : Nat} {o : Obj} (hb : B ≤ b) : Below B W (setBlock W b o) :=
  ⟨rfl, rfl, rfl, by simp [setBlock], fun k hk => by simp [setBlock]; rw [Array.getElem?_setIfInBounds_ne (by omega)]⟩
/-- all but some blocks is as it was. -/
structure Kept (F : Nat → Prop) (w w' : World) : Prop where
  os : w'.os = w.os
  tape : w'.tape = w.tape
  output : w'.output = w.output
  size : w.heap.size ≤ w'.heap.size
  block : ∀ k, k < w.heap.size → ¬ F k → w'.heap[k]? = w.heap[k]?
set_option maxRecDepth 100000 in
theorem Kept.refl (F : Nat → Prop) (w : World) : Kept F w w := ⟨rfl, rfl, rfl, Nat.le_refl _, fun _ _ _ => rfl⟩
set_option maxRecDepth 100000 in
theorem Kept.trans {F : Nat → Prop} {a b c : World} (h : Kept F a b) (k : Kept F b c) : Kept F a c :=
  ⟨k.os.trans h.os, k.tape.trans h.tape, k.output.trans h.output, Nat.le_trans h.size k.size, fun i hi hf => (k.block i (Nat.lt_of_lt_of_le hi h.size) hf).trans (h.block i hi hf)⟩
set_option maxRecDepth 100000 in
theorem Kept.of_below {F : Nat → Prop} {w w' : World} (h : Below w.heap.size w w') : Kept F w w' := ⟨h.os, h.tape, h.output, h.size, fun k hk _ => h.block k hk⟩
set_option maxRecDepth 100000 in
theorem Kept.below {F : Nat → Prop} {w w' : World} {B : Nat} (h : Kept F w w') (hB : B ≤ w.heap.size) (hF : ∀ k, F k → B ≤ k) : Below B w w' :=
  ⟨h.os, h.tape, h.output, h.size, fun k hk => h.block k (by omega) (fun hf => by have := hF k hf; omega)⟩
set_option maxRecDepth 100000 in
theorem Kept.imp {F G : Nat → Prop} {w w' : World} (h : Kept F w w') (hFG : ∀ k, F k → G k) : Kept G w w' := ⟨h.os, h.tape, h.output, h.size, fun k hk hg => h.block k hk (fun hf => hg (hFG k hf))⟩
set_option maxRecDepth 100000 in
theorem Kept.setBlock {F : Nat → Prop} {w : World} {b : Nat} (o : Obj) (hF : F b) : Kept F w (ChangeMaps.setBlock w b o) :=
  ⟨rfl, rfl, rfl, by simp [ChangeMaps.setBlock], fun k hk hf => by
    have : b ≠ k := fun e => hf (e ▸ hF)
    simp [ChangeMaps.setBlock, this]⟩
set_option maxRecDepth 100000 in
theorem Kept.setCell {F : Nat → Prop} {w : World} (p : Addr) (v : Value) (hF : F p.block) : Kept F w (w.setCell p v) :=
  ⟨rfl, rfl, rfl, by simp [World.setCell], fun k hk hf => Below.heap_setCell _ _ _ _ (fun e => hf (by rw [e]; exact hF))⟩
set_option maxRecDepth 100000 in
theorem Kept.drew {F : Nat → Prop} {w w' : World} (h : Kept F w w') : Kept F w w'.drew := ⟨h.os, h.tape, h.output, h.size, h.block⟩
set_option maxRecDepth 100000 in
omit [DecidableEq κ] in
theorem MapT.kept {F : Nat → Prop} (h : MapT ek ev ok W b l) (hk : Kept F W W') (hb : ¬ F b) : MapT ek ev ok W' b l := h.of_block (hk.block b h.lt hb)
set_option maxRecDepth 100000 in
theorem Kept.cell {F : Nat → Prop} {w w' : World} {a : Addr} {v : Value} (hk : Kept F w w') (h : w.cell? a = some v) (hF : ¬ F a.block) : w'.cell? a = some v := by
  rw [World.cell?_of_block (hk.block a.block (World.block_lt_of_cell? w a h) hF)]; exact h
set_option maxRecDepth 100000 in
/-- a store. -/
theorem MapT.store (E : KeyEnc P kt ek ok) (h : MapT ek ev ok W b l) (ht : P.underlying t = some (.map kt et)) (a : κ) (ha : ok a) (v : υ) (hroom : l.length < maxLen) (w : World) (hw : w.heap[b]? = W.heap[b]?) :
    ∃ o, (Instr.mapUpdate t (.map (some b)) (ek a) (ev v)).run P w = .ok () (setBlock w b o) ∧ MapT ek ev ok (setBlock w b o) b (putL l a v) := by
  have hd := h.apart
  obtain ⟨es, ck, hb, hst, hsz, hl, hok⟩ := h
  rw [← hw] at hb
  obtain ⟨x, hx⟩ := E.lit a ha
  have hlen := congrArg List.length hl
  simp at hlen
  have hpok : ∀ p ∈ putL l a v, ok p.1 := by
    intro p hp
    rcases mem_put hp with ⟨hp, _⟩ | rfl
    · exact hok p hp
    · exact ha
  rcases find_at E hl hok hd a ha w with ⟨h1, h2, h3⟩ | ⟨v0, j, e, h1, h2, h3, h4, h5, h6⟩
  · refine ⟨.map (es.push ⟨ek a, ev v, ck⟩) (ck + 1), ?_, ⟨_, _, heap_setBlock_same hb _, stamped_push hst h3, by simp; omega, ?_, hpok⟩⟩
    · unfold Instr.mapUpdate
      simp [run_underlying ht, MapKept.run_getObj_map hb, E.K.check w _ hx, h2, MapKept.run_setObj_map _ hb, Result.andThen, setBlock]
    · unfold putL; rw [h1]; simp [hl]
  · have hj : es[j]? = some e := by simpa using h3
    refine ⟨.map (es.modify j fun e' => { e' with key := ek a, val := ev v }) ck, ?_, ⟨_, _, heap_setBlock_same hb _, stamped_modify hst _ _ (fun _ _ => rfl) (fun e' _ he' => by rw [hj] at he'; cases he'; exact h4.symm), by simp; omega, ?_, hpok⟩⟩
    · unfold Instr.mapUpdate
      simp [run_underlying ht, MapKept.run_getObj_map hb, E.K.check w _ hx, h2, hj, h4, E.K.stays w hx, MapKept.run_setObj_map _ hb, Result.andThen, setBlock]
    · rw [Array.toList_modify, modify_eq_set _ _ _ _ h3, List.map_set, hl]
      unfold putL
      rw [h1, if_pos (by rfl : (some v0).isSome = true), List.map_map]
      apply List.ext_getElem?
      intro i
      rw [List.getElem?_set, List.getElem?_map, List.getElem?_map]
      by_cases hij : j = i
      · subst hij
        have hjl : j < l.length := (List.getElem?_eq_some_iff.1 h6).1
        rw [if_pos rfl, h6]
        simp [hjl]
      · rw [if_neg hij]
        cases hi : l[i]? with
        | none => simp
        | some p =>
          have : p.1 ≠ a := by
            intro e1
            have hpw := List.pairwise_iff_getElem.1 hd
            obtain ⟨hjl, hje⟩ := List.getElem?_eq_some_iff.1 h6
            obtain ⟨hil, hie⟩ := List.getElem?_eq_some_iff.1 hi
            rcases Nat.lt_or_gt_of_ne hij with hlt | hgt
            · exact hpw j i hjl hil hlt (by rw [hje, hie, e1])
            · exact hpw i j hil hjl hgt (by rw [hje, hie, e1])
          simp [this]
set_option maxRecDepth 100000 in
/-- a delete. -/
theorem MapT.drop (E : KeyEnc P kt ek ok) (h : MapT ek ev ok W b l) (ht : P.underlying t = some (.map kt et)) (a : κ) (ha : ok a) (w : World) (hw : w.heap[b]? = W.heap[b]?) :
    ∃ o, (∀ ty, (Builtin.delete_ #[t, kt] ty #[.map (some b), ek a]).run P w = .ok (.tuple #[]) (setBlock w b o)) ∧ MapT ek ev ok (setBlock w b o) b (delL l a) := by
  have hd := h.apart
  obtain ⟨es, ck, hb, hst, hsz, hl, hok⟩ := h
  rw [← hw] at hb
  obtain ⟨x, hx⟩ := E.lit a ha
  have hpok : ∀ p ∈ delL l a, ok p.1 := fun p hp => hok p (mem_del.1 hp).1
  rcases find_at E hl hok hd a ha w with ⟨h1, h2, h3⟩ | ⟨v0, j, e, h1, h2, h3, h4, h5, h6⟩
  · refine ⟨.map es ck, ?_, ⟨_, _, heap_setBlock_same hb _, hst, hsz, ?_, hpok⟩⟩
    · intro ty; simp [Builtin.delete_, run_underlying ht, MapKept.run_getObj_map hb, E.K.check w _ hx, h2, MapKept.run_setObj_map _ hb, Result.andThen, setBlock]
    · have : delL l a = l := by
        unfold delL
        rw [List.filter_eq_self]
        intro p hp
        simpa using getL_none.1 h1 p hp
      rw [this]; exact hl
  · have hjl : j < es.toList.length := (List.getElem?_eq_some_iff.1 h3).1
    have hjs : j < es.size := by simpa using hjl
    have hsub : (es.eraseIdxIfInBounds j).toList = es.toList.eraseIdx j := by
      unfold Array.eraseIdxIfInBounds
      rw [dif_pos hjs]
      simp
    refine ⟨.map (es.eraseIdxIfInBounds j) ck, ?_, ⟨_, _, heap_setBlock_same hb _, stamped_erase hst j, Nat.le_trans (MapFrom.size_erase es j) hsz, ?_, hpok⟩⟩
    · intro ty; simp [Builtin.delete_, run_underlying ht, MapKept.run_getObj_map hb, E.K.check w _ hx, h2, MapKept.run_setObj_map _ hb, Result.andThen, setBlock]
    · rw [hsub, map_eraseIdx, hl, ← map_eraseIdx]
      congr 1
      unfold delL
      exact (filter_eq_eraseIdx (fun p : κ × υ => decide (p.1 = a)) l j (a, v0) h6 (by simp) (hd.imp fun {p q} hne ⟨e1, e2⟩ => hne ((of_decide_eq_true e1).trans (of_decide_eq_true e2).symm))).symm
set_option maxRecDepth 100000 in
omit [DecidableEq κ] in
/-- its length. -/
theorem MapT.len (h : MapT ek ev ok W b l) (ht : P.underlying t = some (.map kt et)) (ty : TypeId) (w : World) (hw : w.heap[b]? = W.heap[b]?) :
    (Builtin.len_ #[t] ty #[.map (some b)]).run P w = .ok (.int .i64 l.length) w := by
  obtain ⟨es, ck, hb, hst, hsz, hl, hok⟩ := h
  rw [← hw] at hb
  have hlen := congrArg List.length hl
  simp at hlen
  have : goInt (es.size : Int) = .int .i64 (l.length : Int) := by rw [hlen]; rfl
  simp [Builtin.len_, run_underlying ht, MapKept.run_getObj_map hb, ← this]
end
end Go.Proofs.YtohkbcdnlmjcjaaDoor

/-
  ATTRIBUTES: the tables of flags and sizes; an origin taken.
-/
namespace Go.Proofs.YtohkbcdnlmjcjaaDoor
open Go.RowKit

def flgL : List Int := [0, 64, 64, 64, 128, 64, 64, 192, 192]
def sizL : List Int := [0, 1, -1, 4, 4, 4, 0, 6, -1]
/-- the tables lie in memory as the program's text lays them. -/
structure Tabs (w : World) : Prop where
  flg : Lib.TabIs Tryd.prog w "carrefour/attr.flags" .i64 flgL
  siz : Lib.TabIs Tryd.prog w "carrefour/attr.sizes" .i64 sizL
set_option maxRecDepth 100000 in
theorem gFlg : Tryd.prog.globalNamed "carrefour/attr.flags" = some 0 := by kernel_rfl
set_option maxRecDepth 100000 in
theorem gFlgType : (Tryd.prog.globals[0]?).map (·.type) = some 70 := by kernel_rfl
set_option maxRecDepth 100000 in
theorem gSiz : Tryd.prog.globalNamed "carrefour/attr.sizes" = some 1 := by kernel_rfl
set_option maxRecDepth 100000 in
theorem gSizType : (Tryd.prog.globals[1]?).map (·.type) = some 70 := by kernel_rfl
set_option maxRecDepth 100000 in
theorem cellsArr9 : Tryd.prog.cellsOf 70 = 9 := by kernel_rfl
set_option maxRecDepth 100000 in
theorem cellsInt : Tryd.prog.cellsOf 3 = 1 := by kernel_rfl
set_option maxRecDepth 100000 in
theorem Tabs.flag {w : World} (h : Tabs w) (j : Nat) (hj : j < 9) : w.cell? ⟨0, j, none⟩ = some (.int .i64 (flgL.getD j 0)) := Lib.TabIs.cell h.flg gFlg j (by simpa [flgL] using hj)
set_option maxRecDepth 100000 in
theorem Tabs.size {w : World} (h : Tabs w) (j : Nat) (hj : j < 9) : w.cell? ⟨1, j, none⟩ = some (.int .i64 (sizL.getD j 0)) := Lib.TabIs.cell h.siz gSiz j (by simpa [sizL] using hj)
set_option maxRecDepth 100000 in
theorem Tabs.below {w w' : World} (h : Tabs w) (hb : Below w.heap.size w w') : Tabs w' := ⟨Joins.tab_stays gFlg h.flg hb (Nat.le_refl _), Joins.tab_stays gSiz h.siz hb (Nat.le_refl _)⟩
set_option maxHeartbeats 1600000 in
set_option maxRecDepth 100000 in
theorem set_one (ab : Nat) (v : Value) (xs : List Nat) (C : Array Value) (u : Value) (w : World) (hb : w.heap[ab]? = some (.cells C 28 (0, 0))) (h1 : w.cell? ⟨ab, 1, none⟩ = some u) (h : BytesAt w v xs) (h4 : xs.length ≤ 4) :
    Calls Tryd.prog 63 #[.pointer (some ⟨ab, 0, none⟩), .int .i64 1, v] w fun e w' => e = .returned (.bool true) ∧ w' = w.setCell ⟨ab, 1, none⟩ (.int .i64 (readN xs)) := by
  have RD := Lib.hid (at_read v xs w h h4)
  have f1 := row_free hb 1
  clear hb h
  go_enter Tryd.func63, Tryd.ntmps63
  go_wp2_with fail
  refine RD.out.mono ?_
  rintro e w1 ⟨rfl, rfl⟩
  go_wp2_with fail
  go_ret
  exact ⟨rfl, rfl⟩
/-- the bytes as a string. -/
def strOf (ns : List Int) : ByteArray := ns.foldl (fun r n => r.push (UInt8.ofNat n.toNat)) ByteArray.empty
abbrev fltZ : Array Value := #[.int .i64 0, .int .i64 0, .string ⟨#[]⟩]
set_option maxRecDepth 100000 in
theorem results_take (tmps : Array Value) (W : World) (b : Nat) (C : Array Value) (hC : C.size = 3) (h4 : tmps.getD 6 undef = .pointer (some ⟨b, 0, none⟩)) (hb : W.heap[b]? = some (.cells C 54 (0, 0))) :
    (results Tryd.f43 tmps).run Tryd.prog W = .ok (.agg C) W := results_cell_row Tryd.results43 tmps W b 54 C (0, 0) _ h4 hb Tryd.underlying54 rfl (by rw [hC]; kernel_rfl)
set_option maxHeartbeats 6400000 in
set_option maxRecDepth 100000 in
theorem take_two (ab g o c : Nat) (w : World) (hT : Tabs w) (hb : w.heap[ab]? = some (.cells #[.int .i64 0, .int .i64 0, .slice none 0 0, .int .u32 0, .int .i64 0, .int .i64 0, .int .i64 0, .int .u32 0, .slice none 0 0, .slice none 0 0] 28 (0, 0)))
    (b0 : w.cell? ⟨g, o, none⟩ = some (.int .u8 64)) (b1 : w.cell? ⟨g, o + 1, none⟩ = some (.int .u8 1)) (h : BytesAt w (.slice (some ⟨g, o + 3, none⟩) 1 (c - 3)) [2]) :
    Calls Tryd.prog 43 #[.pointer (some ⟨ab, 0, none⟩), .slice (some ⟨g, o, none⟩) 4 c, .slice (some ⟨g, o + 3, none⟩) 1 (c - 3)] w fun e w' => e = .returned (.agg fltZ) ∧
      w'.heap[ab]? = some (.cells #[.int .i64 2, .int .i64 2, .slice none 0 0, .int .u32 0, .int .i64 0, .int .i64 0, .int .i64 0, .int .u32 0, .slice none 0 0, .slice none 0 0] 28 (0, 0)) ∧ Kept (fun k => k = ab) w w' := by
  have t1 := hT.flag 1 (by decide)
  have t2 := hT.size 1 (by decide)
  have H := Lib.hid h
  have HB := Lib.hid hb
  clear hT h
  go_enter Tryd.func43, Tryd.ntmps43
  go_upto_region 1 with (fail)
  obtain ⟨W0, hW0, qf, hb0, -⟩ : ∃ W0, W0 = w.alloc (.cells fltZ 54) ∧ W0.heap[w.heap.size]? = some (.cells fltZ 54 (0, 0)) ∧ Below w.heap.size w W0 ∧ W0.heap.size = w.heap.size + 1 := ⟨_, rfl, heap_alloc_new w _, (Below.refl _ _).alloc (Nat.le_refl _) _, by simp⟩
  rw [← hW0]
  clear hW0
  have QF := Lib.hid qf
  have QA := Lib.hid ((hb0.block _ (row_lt HB.out)).trans HB.out)
  have B0 := Lib.hid hb0
  have b0 := cell_below b0 hb0
  have b1 := cell_below b1 hb0
  have t1 : W0.cell? ⟨0, 1, none⟩ = some (.int .i64 64) := cell_below t1 hb0
  have t2 : W0.cell? ⟨1, 1, none⟩ = some (.int .i64 1) := cell_below t2 hb0
  have LT : Hid (ab < w.heap.size) := Lib.hid (row_lt HB.out)
  have SO := Lib.hid (set_one ab _ [2] _ _ W0 QA.out (row_cell QA.out 1) (H.out.below hb0) (by decide))
  clear hb qf hb0
  go_wp2_with fail
  refine SO.out.mono ?_
  rintro e w1 ⟨rfl, hw1⟩
  rw [show (readN [2] : Int) = 2 by decide] at hw1
  have QB : Hid (w1.heap[ab]? = some (.cells #[.int .i64 0, .int .i64 2, .slice none 0 0, .int .u32 0, .int .i64 0, .int .i64 0, .int .i64 0, .int .u32 0, .slice none 0 0, .slice none 0 0] 28 (0, 0))) := Lib.hid (by
    rw [hw1]
    have := set_same QA.out 1 (.int .i64 2)
    simpa using this)
  have K1 : Hid (Kept (fun k => k = ab) W0 w1) := Lib.hid (by rw [hw1]; exact Kept.setCell _ _ rfl)
  have QF1 := Lib.hid ((K1.out.block _ (row_lt QF.out) (by have := LT.out; omega)).trans QF.out)
  have GD := Lib.hid (at_good ⟨0, 2, [], 0, 0, 0, 0, 0, [], []⟩ (.slice none 0 0) (.slice none 0 0) (.slice none 0 0) 1 (by decide) (by decide) w1 ⟨SlAt.nil, SlAt.nil, SlAt.nil⟩)
  rw [show goodB ⟨0, 2, [], 0, 0, 0, 0, 0, [], []⟩ 1 = true by decide] at GD
  clear hw1 b0 b1 t1 t2 QA QF SO H HB
  obtain ⟨y0, y1, y2, y3, y4, y5, y6, y7, y8, y9⟩ := at10 QB.out
  go_wp2_with fail
  refine GD.out.mono ?_
  rintro e w2 ⟨rfl, hb2⟩
  have QB2 := Lib.hid ((hb2.block _ (row_lt QB.out)).trans QB.out)
  have QF2 := Lib.hid ((hb2.block _ (row_lt QF1.out)).trans QF1.out)
  have K2 := Lib.hid (K1.out.trans (Kept.of_below hb2))
  clear hb2 QB QF1 K1 GD y0 y1 y2 y3 y4 y5 y6 y7 y8 y9
  have y0 := row_cell QB2.out 0
  have f0 := row_free QB2.out 0
  go_wp2_with fail
  go_region
  obtain ⟨W3, hW3⟩ : ∃ W3, W3 = (w2.setCell ⟨ab, 0, none⟩ (.int .i64 (bits .or .i64 0 2))).drew := ⟨_, rfl⟩
  have KB : Kept (fun k => k = ab) w2 W3 := by rw [hW3]; exact (Kept.setCell (F := fun k => k = ab) ⟨ab, 0, none⟩ _ rfl).drew
  have QB3 : Hid (W3.heap[ab]? = some (.cells #[.int .i64 2, .int .i64 2, .slice none 0 0, .int .u32 0, .int .i64 0, .int .i64 0, .int .i64 0, .int .u32 0, .slice none 0 0, .slice none 0 0] 28 (0, 0))) := Lib.hid (by
    rw [hW3, show bits .or .i64 0 2 = 2 by decide +kernel]
    have := set_same QB2.out 0 (.int .i64 2)
    show (w2.setCell ⟨ab, 0, none⟩ (.int .i64 2)).heap[ab]? = _
    simpa using this)
  have QF3 := Lib.hid ((KB.block _ (row_lt QF2.out) (by have := LT.out; omega)).trans QF2.out)
  have K3 := Lib.hid (K2.out.trans KB)
  rw [← hW3]
  clear hW3 KB y0 f0 QB2 QF2 K2
  go_wp2_with ((with_reducible refine halt_at (X := .store 54 (.tmp 6) (.tmp 114)) ?_ ?_); (· rfl))
  unfold Halt
  refine st_row rfl 54 (.tmp 6) (.tmp 114) rfl w.heap.size rfl 54 fltZ fltZ rfl QF3.out (by kernel_rfl) rfl (by simp [Value.oneCell']) ?_
  go_wp2_with fail
  have KE : Kept (fun k => k = ab) w (W3.setRow w.heap.size fltZ) := by
    have k0 : Kept (fun k => k = ab) w W3 := (Kept.of_below B0.out).trans K3.out
    refine ⟨k0.os, k0.tape, k0.output, Nat.le_trans k0.size (by simp [World.setRow]), fun k hk hf => ?_⟩
    rw [setRow_other _ _ _ _ (by omega)]
    exact k0.block k hk hf
  refine bodyPost_ret (results_take _ _ w.heap.size fltZ rfl ?_ (setRow_heap _ _ _ _ _ _ QF3.out)) rfl ⟨rfl, ?_, KE⟩
  · rfl
  · rw [setRow_other _ _ _ _ (by have := LT.out; omega)]
    exact QB3.out
set_option maxHeartbeats 6400000 in
set_option maxRecDepth 100000 in
theorem take_three (ab g o c : Nat) (w : World) (hT : Tabs w) (hb : w.heap[ab]? = some (.cells #[.int .i64 0, .int .i64 0, .slice none 0 0, .int .u32 0, .int .i64 0, .int .i64 0, .int .i64 0, .int .u32 0, .slice none 0 0, .slice none 0 0] 28 (0, 0)))
    (b0 : w.cell? ⟨g, o, none⟩ = some (.int .u8 64)) (b1 : w.cell? ⟨g, o + 1, none⟩ = some (.int .u8 1)) (b2 : w.cell? ⟨g, o + 2, none⟩ = some (.int .u8 1)) (b3 : w.cell? ⟨g, o + 3, none⟩ = some (.int .u8 3)) (h : BytesAt w (.slice (some ⟨g, o + 3, none⟩) 1 (c - 3)) [3]) (hg : g ≠ ab) :
    Calls Tryd.prog 43 #[.pointer (some ⟨ab, 0, none⟩), .slice (some ⟨g, o, none⟩) 4 c, .slice (some ⟨g, o + 3, none⟩) 1 (c - 3)] w fun e w' => (∃ s, e = .returned (.agg #[.int .i64 3, .int .i64 6, .string s])) ∧ Kept (fun k => k = ab) w w' := by
  have t1 := hT.flag 1 (by decide)
  have t2 := hT.size 1 (by decide)
  have H := Lib.hid h
  have HB := Lib.hid hb
  clear hT h
  go_enter Tryd.func43, Tryd.ntmps43
  go_upto_region 1 with (fail)
  obtain ⟨W0, hW0, qf, hb0, -⟩ : ∃ W0, W0 = w.alloc (.cells fltZ 54) ∧ W0.heap[w.heap.size]? = some (.cells fltZ 54 (0, 0)) ∧ Below w.heap.size w W0 ∧ W0.heap.size = w.heap.size + 1 := ⟨_, rfl, heap_alloc_new w _, (Below.refl _ _).alloc (Nat.le_refl _) _, by simp⟩
  rw [← hW0]
  clear hW0
  have QF := Lib.hid qf
  have QA := Lib.hid ((hb0.block _ (row_lt HB.out)).trans HB.out)
  have B0 := Lib.hid hb0
  have b0 := cell_below b0 hb0
  have b1 := cell_below b1 hb0
  have b2 := cell_below b2 hb0
  have b3 := cell_below b3 hb0
  have t1 : W0.cell? ⟨0, 1, none⟩ = some (.int .i64 64) := cell_below t1 hb0
  have t2 : W0.cell? ⟨1, 1, none⟩ = some (.int .i64 1) := cell_below t2 hb0
  have LT : Hid (ab < w.heap.size) := Lib.hid (row_lt HB.out)
  have SO := Lib.hid (set_one ab _ [3] _ _ W0 QA.out (row_cell QA.out 1) (H.out.below hb0) (by decide))
  clear hb qf hb0
  go_wp2_with fail
  refine SO.out.mono ?_
  rintro e w1 ⟨rfl, hw1⟩
  rw [show (readN [3] : Int) = 3 by decide] at hw1
  have QB : Hid (w1.heap[ab]? = some (.cells #[.int .i64 0, .int .i64 3, .slice none 0 0, .int .u32 0, .int .i64 0, .int .i64 0, .int .i64 0, .int .u32 0, .slice none 0 0, .slice none 0 0] 28 (0, 0))) := Lib.hid (by
    rw [hw1]
    have := set_same QA.out 1 (.int .i64 3)
    simpa using this)
  have K1 : Hid (Kept (fun k => k = ab) W0 w1) := Lib.hid (by rw [hw1]; exact Kept.setCell _ _ rfl)
  have QF1 := Lib.hid ((K1.out.block _ (row_lt QF.out) (by have := LT.out; omega)).trans QF.out)
  have GD := Lib.hid (at_good ⟨0, 3, [], 0, 0, 0, 0, 0, [], []⟩ (.slice none 0 0) (.slice none 0 0) (.slice none 0 0) 1 (by decide) (by decide) w1 ⟨SlAt.nil, SlAt.nil, SlAt.nil⟩)
  rw [show goodB ⟨0, 3, [], 0, 0, 0, 0, 0, [], []⟩ 1 = false by decide] at GD
  have b0 := K1.out.cell b0 hg
  have b1 := K1.out.cell b1 hg
  have b2 := K1.out.cell b2 hg
  have b3 := K1.out.cell b3 hg
  clear hw1 t1 t2 QA QF SO H HB
  obtain ⟨y0, y1, y2, y3, y4, y5, y6, y7, y8, y9⟩ := at10 QB.out
  go_wp2_with fail
  refine GD.out.mono ?_
  rintro e w2 ⟨rfl, hb2⟩
  have QF2 := Lib.hid ((hb2.block _ (row_lt QF1.out)).trans QF1.out)
  have K2 := Lib.hid (K1.out.trans (Kept.of_below hb2))
  have b0 := cell_below b0 hb2
  have b1 := cell_below b1 hb2
  have b2 := cell_below b2 hb2
  have b3 := cell_below b3 hb2
  clear hb2 QB QF1 K1 GD y0 y1 y2 y3 y4 y5 y6 y7 y8 y9
  obtain ⟨st, CV⟩ : ∃ st, (convert 38 9 (.slice (some ⟨g, o, none⟩) 4 c)).run Tryd.prog w2 = .ok (.string st) w2 := ⟨_, run_convert_bytes_arg (P := Tryd.prog) w2 38 5 Tryd.underlying38 Tryd.underlying5 g o 4 c [64, 1, 1, 3] rfl (fun i hi => by
    have : i = 0 ∨ i = 1 ∨ i = 2 ∨ i = 3 := by omega
    rcases this with rfl | rfl | rfl | rfl
    · exact b0
    · exact b1
    · exact b2
    · exact b3) 9 Tryd.underlying9⟩
  clear b0 b1 b2 b3
  go_wp2_with ((with_reducible refine halt_at (X := .store 54 (.tmp 6) (.tmp 91)) ?_ ?_); (· rfl))
  unfold Halt
  refine st_row rfl 54 (.tmp 6) (.tmp 91) rfl w.heap.size rfl 54 fltZ #[.int .i64 3, .int .i64 6, .string st] rfl QF2.out (by kernel_rfl) rfl (by simp [Value.oneCell']) ?_
  go_wp2_with fail
  have KE : Kept (fun k => k = ab) w (w2.setRow w.heap.size #[.int .i64 3, .int .i64 6, .string st]) := by
    have k0 : Kept (fun k => k = ab) w w2 := (Kept.of_below B0.out).trans K2.out
    refine ⟨k0.os, k0.tape, k0.output, Nat.le_trans k0.size (by simp [World.setRow]), fun k hk hf => ?_⟩
    rw [setRow_other _ _ _ _ (by omega)]
    exact k0.block k hk hf
  refine bodyPost_ret (results_take _ _ w.heap.size #[.int .i64 3, .int .i64 6, .string st] rfl ?_ (setRow_heap _ _ _ _ _ _ QF2.out)) rfl ⟨⟨st, rfl⟩, KE⟩
  · rfl
end Go.Proofs.YtohkbcdnlmjcjaaDoor

/-
  SLICES OF THE CALL'S OWN, element by element: made by append; made at once and filled.
-/
namespace Go.Proofs.YtohkbcdnlmjcjaaDoor
open Go.RowKit

section
variable {α : Type} {k : Nat} {C : α → List Value}
set_option maxRecDepth 100000 in
theorem flat_len (hC : ∀ x, (C x).length = k) (xs : List α) : (xs.flatMap C).length = xs.length * k := by
  induction xs with
  | nil => simp
  | cons x xs ih => rw [List.flatMap_cons, List.length_append, ih, hC, List.length_cons, Nat.succ_mul]; omega
set_option maxRecDepth 100000 in
theorem flat_get (hC : ∀ x, (C x).length = k) : ∀ (xs : List α) (i : Nat) (x : α), xs[i]? = some x → ∀ j, j < k → (xs.flatMap C)[i * k + j]? = (C x)[j]?
  | [], i, x, h, _, _ => by simp at h
  | y :: xs, 0, x, h, j, hj => by
    simp at h; subst h
    rw [List.flatMap_cons, Nat.zero_mul, Nat.zero_add, List.getElem?_append_left (by rw [hC]; exact hj)]
  | y :: xs, i + 1, x, h, j, hj => by
    have ih := flat_get hC xs i x (by simpa using h) j hj
    rw [List.flatMap_cons, List.getElem?_append_right (by rw [hC, Nat.succ_mul]; omega), hC, ← ih]
    congr 1
    rw [Nat.succ_mul]; omega
set_option maxRecDepth 100000 in
theorem own_slat {w : World} {B : Nat} {e : TypeId} {v : Value} {xs : List α} (hC : ∀ x, (C x).length = k) (h : w.ownsRow B e k v xs.length (xs.flatMap C)) : SlAt w k (fun x cs => cs = C x) v xs := by
  obtain ⟨_, ⟨rfl, h0⟩ | ⟨g, cap, cur, rfl, _, hg, hn, hm, _, hcur⟩⟩ := h
  · obtain rfl := List.length_eq_zero_iff.1 h0
    exact SlAt.nil
  · refine ⟨some ⟨g, 0, none⟩, cap, rfl, hn, hm, fun _ => ⟨g, 0, rfl, fun i x hx => ⟨C x, hC x, rfl, fun j c hc => ?_⟩⟩⟩
    have hj : j < k := by rw [← hC x]; exact (List.getElem?_eq_some_iff.1 hc).1
    have hi : i < xs.length := (List.getElem?_eq_some_iff.1 hx).1
    have hf := flat_get hC xs i x hx j hj
    rw [← hcur, hc, List.getElem?_take_of_lt (by
      have : (i + 1) * k ≤ xs.length * k := Nat.mul_le_mul_right _ hi
      rw [Nat.succ_mul] at this; omega)] at hf
    rw [row_cell hg, Nat.zero_add]
    simpa using hf
set_option maxRecDepth 100000 in
theorem own_below {w w' : World} {B : Nat} {e : TypeId} {n : Nat} {v : Value} {xs : List Value} (h : w.ownsRow B e k v n xs) (hb : Below w.heap.size w w') : w'.ownsRow B e k v n xs := by
  obtain ⟨h1, h2⟩ := h
  refine ⟨h1, h2.imp_right ?_⟩
  rintro ⟨g, cap, cur, h3, h4, h5, h6⟩
  exact ⟨g, cap, cur, h3, h4, (hb.block g (row_lt h5)).trans h5, h6⟩
set_option maxRecDepth 100000 in
theorem own_form_le {w : World} {B : Nat} {e : TypeId} {n : Nat} {v : Value} {xs : List Value} (h : w.ownsRow B e k v n xs) : ∀ g, v.ownBlock = some g → B ≤ g := by
  obtain ⟨_, ⟨rfl, _⟩ | ⟨g, cap, cur, rfl, hB, _⟩⟩ := h
  · intro g hg; cases hg
  · intro g' hg; cases hg; exact hB
set_option maxRecDepth 100000 in
theorem flat_snoc (xs : List α) (x : α) : (xs ++ [x]).flatMap C = xs.flatMap C ++ C x := by simp
set_option maxRecDepth 100000 in
theorem flat_one (h : ∀ x, ∀ u ∈ C x, u.oneCell' = true) (xs : List α) : ∀ u ∈ xs.flatMap C, u.oneCell' = true := by
  intro u hu
  obtain ⟨x, _, hx⟩ := List.mem_flatMap.1 hu
  exact h x u hx
/-- the first elements of a row that is being filled. -/
def Filled (w : World) (b k : Nat) (C : α → List Value) (xs : List α) : Prop := ∀ (i : Nat) (x : α), xs[i]? = some x → w.rangeAt b (i * k) (C x)
set_option maxRecDepth 100000 in
theorem there_below {w w' : World} {b o n : Nat} (h : w.there b o n) (hb : Below w.heap.size w w') : w'.there b o n := by
  intro j hj
  obtain ⟨h1, h2⟩ := h j hj
  obtain ⟨v, hv⟩ := Option.isSome_iff_exists.1 h1
  have hlt := size_lt hv
  exact ⟨by rw [cell_below hv hb]; rfl, (hb.frozen (p := ⟨b, o + j, none⟩) hlt).trans h2⟩
set_option maxRecDepth 100000 in
theorem Filled.below {w w' : World} {b : Nat} {xs : List α} (h : Filled w b k C xs) (hb : Below w.heap.size w w') : Filled w' b k C xs := fun i x hx j v hv => cell_below (h i x hx j v hv) hb
set_option maxRecDepth 100000 in
theorem Filled.set {w : World} {b n : Nat} {xs : List α} (hC : ∀ x, (C x).length = k) (h : Filled w b k C xs) (ht : w.there b 0 (n * k)) (hn : xs.length < n) (x : α) :
    Filled (w.setCells b (xs.length * k) (C x)) b k C (xs ++ [x]) ∧ (w.setCells b (xs.length * k) (C x)).there b 0 (n * k) := by
  refine ⟨fun i y hy => ?_, World.there_setCells ht _ _ _⟩
  by_cases hi : i < xs.length
  · rw [List.getElem?_append_left hi] at hy
    refine World.rangeAt_setCells_apart (h i y hy) _ _ _ (.inr (.inl ?_))
    rw [hC]
    have : (i + 1) * k ≤ xs.length * k := Nat.mul_le_mul_right _ hi
    rw [Nat.succ_mul] at this; exact this
  · rw [List.getElem?_append_right (by omega)] at hy
    have e : i = xs.length := by
      have := (List.getElem?_eq_some_iff.1 hy).1
      simp at this; omega
    subst e
    simp at hy; subst hy
    refine World.rangeAt_setCells_same _ _ _ _ (fun j hj => ?_)
    rw [hC] at hj
    have := ht (xs.length * k + j) (by
      have : (xs.length + 1) * k ≤ n * k := Nat.mul_le_mul_right _ hn
      rw [Nat.succ_mul] at this; omega)
    rw [Nat.zero_add] at this
    exact this
set_option maxRecDepth 100000 in
theorem Filled.slat {w : World} {b n : Nat} {xs : List α} (hC : ∀ x, (C x).length = k) (h : Filled w b k C xs) (hn : xs.length = n) (hm : n ≤ maxLen) : SlAt w k (fun x cs => cs = C x) (.slice (some ⟨b, 0, none⟩) n n) xs := by
  subst hn
  refine ⟨_, _, rfl, Nat.le_refl _, hm, fun _ => ⟨b, 0, rfl, fun i x hx => ⟨C x, hC x, rfl, fun j c hc => ?_⟩⟩⟩
  rw [Nat.zero_add]
  exact h i x hx j c hc
set_option maxRecDepth 100000 in
theorem Filled.nil {w : World} {b : Nat} : Filled w b k C ([] : List α) := fun i x hx => by simp at hx
set_option maxRecDepth 100000 in
theorem there_own {w : World} {B : Nat} {e : TypeId} {g n : Nat} {xs : List Value} (h : w.ownsRow B e k (.slice (some ⟨g, 0, none⟩) n n) n xs) : w.there g 0 (n * k) := by
  obtain ⟨_, ⟨h1, _⟩ | ⟨g', cap, cur, h1, _, hg, _, _, hsz, _⟩⟩ := h
  · cases h1
  · injection h1 with e1 e2 e3
    injection e1 with e1
    injection e1 with e1
    subst e1; subst e3
    intro j hj
    have hlt : j < cur.size := by rw [hsz]; exact hj
    rw [Nat.zero_add]
    exact ⟨by rw [row_cell hg, Array.getElem?_eq_getElem hlt]; rfl, row_free hg j⟩
end
set_option maxRecDepth 100000 in
theorem new_cells (W : World) (C : Array Value) (T : TypeId) : ∀ (j : Nat) (u : Value), C.toList[j]? = some u → (W.alloc (.cells C T)).cell? ((⟨W.heap.size, 0, none⟩ : Addr).add j) = some u := by
  intro j u hu
  have hr := heap_alloc_new W (.cells C T)
  have : (⟨W.heap.size, 0, none⟩ : Addr).add j = ⟨W.heap.size, j, none⟩ := by
    unfold Addr.add; split
    · next h => rw [h]
    · simp
  rw [this, row_cell hr]
  simpa using hu
set_option maxRecDepth 100000 in
/-- an empty slice of the call's own. -/
theorem own_empty {w : World} {B : Nat} {e : TypeId} {k : Nat} (hB : B ≤ w.heap.size) : (w.alloc (.cells #[] e)).ownsRow B e k (.slice (some ⟨w.heap.size, 0, none⟩) 0 0) 0 [] :=
  ⟨by simp, .inr ⟨w.heap.size, 0, #[], rfl, hB, heap_alloc_new w _, Nat.le_refl _, by simp [maxLen], by simp, by simp⟩⟩
set_option maxRecDepth 100000 in
theorem own_setRow {w : World} {B g k : Nat} {e : TypeId} {n : Nat} {v : Value} {xs : List Value} (h : w.ownsRow B e k v n xs) (hg : g < B) (C : Array Value) : (w.setRow g C).ownsRow B e k v n xs := by
  obtain ⟨h1, h2⟩ := h
  refine ⟨h1, h2.imp_right ?_⟩
  rintro ⟨b, cap, cur, h3, h4, h5, h6⟩
  exact ⟨b, cap, cur, h3, h4, by rw [setRow_other _ _ _ _ (by omega)]; exact h5, h6⟩
end Go.Proofs.YtohkbcdnlmjcjaaDoor
