/- Texts of one proof, one behind another. -/
import Derived.Test.YtkoidahgbbabiaaGreatLv1
import Derived.Maps.Range
import Derived.DeepKeys4
import Derived.Test.YtkoidahgbbabiaaGreatLv4
import Derived.StillTailTactics
import Derived.LoopTactic
import Derived.OwnWalk
import Derived.Deep.DeepCutAuto
import Derived.LoopN
/-
  MAPS AS LISTS OF PAIRS: a map's block in memory holds, one by one, the pairs of a list; look-up, store, delete, length, range.
-/
namespace Go.Proofs.YtkoidahgbbabiaaGreat
open Go.RowKit Go.Maps Go.ChangeMaps Go.MapKept

section
variable {κ υ : Type} [DecidableEq κ]
/-- how keys of a type stand for values. -/
structure KeyEnc (P : Program) (kt : TypeId) (ek : κ → Value) (ok : κ → Prop) : Prop where
  K : Keyed P kt
  lit : ∀ a, ok a → ∃ l, keyOf P kt (ek a) = some l
  inj : ∀ a b, ek a = ek b → a = b
def MapT (ek : κ → Value) (ev : υ → Value) (ok : κ → Prop) (W : World) (b : Nat) (l : List (κ × υ)) : Prop :=
  ∃ es clock, W.heap[b]? = some (.map es clock) ∧ Stamped es clock ∧ es.size ≤ maxLen ∧ es.toList.map (fun e => (e.key, e.val)) = l.map (fun p => (ek p.1, ev p.2)) ∧ ∀ p ∈ l, ok p.1
/-- what stands at a key. -/
def getL (l : List (κ × υ)) (a : κ) : Option υ := (l.find? fun p => p.1 = a).map (·.2)
def putL (l : List (κ × υ)) (a : κ) (v : υ) : List (κ × υ) := if (getL l a).isSome then l.map (fun p => if p.1 = a then (a, v) else p) else l ++ [(a, v)]
def delL (l : List (κ × υ)) (a : κ) : List (κ × υ) := l.filter fun p => !decide (p.1 = a)
def KeysApart (l : List (κ × υ)) : Prop := l.Pairwise fun p q => p.1 ≠ q.1

theorem getL_none {l : List (κ × υ)} {a : κ} : getL l a = none ↔ ∀ p ∈ l, p.1 ≠ a := by
  unfold getL
  simp [List.find?_eq_none]
theorem getL_mem {l : List (κ × υ)} {a : κ} {v : υ} (h : getL l a = some v) : (a, v) ∈ l := by
  unfold getL at h
  simp only [Option.map_eq_some_iff] at h
  obtain ⟨p, hp, rfl⟩ := h
  have h1 := List.find?_some hp
  have h2 := List.mem_of_find?_eq_some hp
  simp at h1
  rw [← h1]; exact h2
theorem getL_of_mem {l : List (κ × υ)} {a : κ} {v : υ} (hd : KeysApart l) (h : (a, v) ∈ l) : getL l a = some v := by
  induction l with
  | nil => cases h
  | cons p r ih =>
    unfold KeysApart at hd
    obtain ⟨h1, h2⟩ := List.pairwise_cons.1 hd
    by_cases hp : p.1 = a
    · rcases List.mem_cons.1 h with e | h
      · unfold getL; rw [List.find?_cons_of_pos (by simpa using hp), ← e]; rfl
      · exact absurd hp (h1 _ h)
    · rcases List.mem_cons.1 h with e | h
      · rw [← e] at hp; exact absurd rfl hp
      · have := ih h2 h
        unfold getL at this ⊢
        rw [List.find?_cons_of_neg (by simpa using hp)]; exact this
theorem getL_iff {l : List (κ × υ)} {a : κ} {v : υ} (hd : KeysApart l) : getL l a = some v ↔ (a, v) ∈ l := ⟨getL_mem, getL_of_mem hd⟩
theorem getL_append (l m : List (κ × υ)) (a : κ) : getL (l ++ m) a = (getL l a).or (getL m a) := by
  unfold getL; rw [List.find?_append]; cases l.find? _ <;> rfl
theorem getL_map_put (l : List (κ × υ)) (a b : κ) (v : υ) : getL (l.map fun p => if p.1 = a then (a, v) else p) b = if b = a then (getL l a).map (fun _ => v) else getL l b := by
  induction l with
  | nil => simp [getL]
  | cons p r ih =>
    unfold getL at ih ⊢
    simp only [List.map_cons, List.find?_cons]
    by_cases hp : p.1 = a
    · by_cases hb : b = a
      · subst hb; simp [hp]
      · have hb' : ¬ a = b := fun e => hb e.symm
        have : ¬ p.1 = b := by rw [hp]; exact hb'
        simp only [hp, if_true, hb', if_false, hb] at ih ⊢
        simpa [hb'] using ih
    · by_cases hb : b = a
      · subst hb; simp only [hp, if_false, decide_false, if_true] at ih ⊢; exact ih
      · by_cases hpb : p.1 = b
        · subst hpb; simp [hp]
        · simp only [hp, if_false, hpb, decide_false, hb] at ih ⊢; exact ih
theorem getL_put (l : List (κ × υ)) (a b : κ) (v : υ) : getL (putL l a v) b = if b = a then some v else getL l b := by
  unfold putL
  split
  · rename_i h
    rw [getL_map_put]
    split
    · cases hg : getL l a with
      | none => rw [hg] at h; cases h
      | some x => rfl
    · rfl
  · rename_i h
    rw [getL_append]
    have hn : getL l a = none := by cases hg : getL l a with
      | none => rfl
      | some x => rw [hg] at h; exact absurd rfl h
    by_cases hb : b = a
    · subst hb; rw [hn, if_pos rfl]; simp [getL]
    · rw [if_neg hb]
      have : getL [(a, v)] b = none := by rw [getL_none]; intro p hp; simp at hp; subst hp; exact fun e => hb e.symm
      rw [this]; cases getL l b <;> rfl
theorem getL_del (l : List (κ × υ)) (a b : κ) : getL (delL l a) b = if b = a then none else getL l b := by
  split
  · rename_i h; subst h
    rw [getL_none]; intro p hp
    have := (List.mem_filter.1 hp).2
    simpa using this
  · rename_i h
    unfold getL delL
    rw [List.find?_filter]
    congr 1
    have : (fun p : κ × υ => decide ((!decide (p.1 = a)) = true ∧ decide (p.1 = b) = true)) = fun p => decide (p.1 = b) := by
      funext p
      by_cases hp : p.1 = b
      · subst hp; simp [h]
      · simp [hp]
    rw [this]
theorem apart_del {l : List (κ × υ)} (hd : KeysApart l) (a : κ) : KeysApart (delL l a) := hd.filter _
theorem mem_put {l : List (κ × υ)} {a : κ} {v : υ} {p : κ × υ} (h : p ∈ putL l a v) : (p ∈ l ∧ p.1 ≠ a) ∨ p = (a, v) := by
  unfold putL at h
  split at h
  · obtain ⟨q, hq, rfl⟩ := List.mem_map.1 h
    by_cases hp : q.1 = a
    · right; simp [hp]
    · left; simp only [hp, if_false]; exact ⟨hq, hp⟩
  · rename_i hn
    rcases List.mem_append.1 h with h | h
    · left
      refine ⟨h, ?_⟩
      have hg : getL l a = none := by cases hg : getL l a with
        | none => rfl
        | some x => rw [hg] at hn; exact absurd rfl hn
      exact getL_none.1 hg p h
    · right; simpa using h
theorem mem_del {l : List (κ × υ)} {a : κ} {p : κ × υ} : p ∈ delL l a ↔ p ∈ l ∧ p.1 ≠ a := by
  unfold delL; simp
theorem len_put (l : List (κ × υ)) (a : κ) (v : υ) : (putL l a v).length = if (getL l a).isSome then l.length else l.length + 1 := by
  unfold putL; split <;> simp
theorem len_del {l : List (κ × υ)} (hd : KeysApart l) (a : κ) : (delL l a).length = if (getL l a).isSome then l.length - 1 else l.length := by
  induction l with
  | nil => simp [delL, getL]
  | cons p r ih =>
    unfold KeysApart at hd
    obtain ⟨h1, h2⟩ := List.pairwise_cons.1 hd
    have ih := ih h2
    by_cases hp : p.1 = a
    · have e : getL (p :: r) a = some p.2 := by unfold getL; rw [List.find?_cons_of_pos (by simpa using hp)]; rfl
      have n : getL r a = none := getL_none.2 fun q hq e => h1 q hq (hp.trans e.symm)
      rw [n] at ih
      rw [e]
      unfold delL at ih ⊢
      rw [List.filter_cons_of_neg (by simpa using hp)]
      simpa using ih
    · have e : getL (p :: r) a = getL r a := by unfold getL; rw [List.find?_cons_of_neg (by simpa using hp)]
      rw [e]
      unfold delL at ih ⊢
      rw [List.filter_cons_of_pos (by simpa using hp)]
      cases hg : (getL r a).isSome
      · rw [hg] at ih; simp at ih ⊢; exact ih
      · rw [hg] at ih
        have : 0 < r.length := by
          cases r with
          | nil => simp [getL] at hg
          | cons _ _ => simp
        simp at ih ⊢; omega

variable {P : Program} {kt et t : TypeId} {ek : κ → Value} {ev : υ → Value} {ok : κ → Prop} {W W' : World} {b : Nat} {l : List (κ × υ)}

omit [DecidableEq κ] in
theorem MapT.lt (h : MapT ek ev ok W b l) : b < W.heap.size := by
  obtain ⟨es, c, hb, _⟩ := h
  exact (Array.getElem?_eq_some_iff.1 hb).1
omit [DecidableEq κ] in
theorem MapT.of_block (h : MapT ek ev ok W b l) (hb : W'.heap[b]? = W.heap[b]?) : MapT ek ev ok W' b l := by
  obtain ⟨es, c, h1, r⟩ := h
  exact ⟨es, c, hb.trans h1, r⟩
omit [DecidableEq κ] in
theorem MapT.below (h : MapT ek ev ok W b l) (hb : Below W.heap.size W W') : MapT ek ev ok W' b l := h.of_block (hb.block b h.lt)
omit [DecidableEq κ] in
theorem MapT.drew (h : MapT ek ev ok W b l) : MapT ek ev ok W.drew b l := h
omit [DecidableEq κ] in
theorem MapT.made (W : World) : MapT ek ev ok (W.alloc (.map #[] 0)) W.heap.size ([] : List (κ × υ)) :=
  ⟨#[], 0, heap_alloc_new W _, stamped_empty 0, by simp, rfl, by simp⟩
omit [DecidableEq κ] in
theorem MapT.short (h : MapT ek ev ok W b l) : l.length ≤ maxLen := by
  obtain ⟨es, c, _, _, hs, hl, _⟩ := h
  have := congrArg List.length hl
  simp at this; omega
omit [DecidableEq κ] in
theorem entry_of {es : Array MapEntry} (hl : es.toList.map (fun e => (e.key, e.val)) = l.map (fun p => (ek p.1, ev p.2))) {e : MapEntry} (he : e ∈ es.toList) : ∃ p ∈ l, e.key = ek p.1 ∧ e.val = ev p.2 := by
  have : (e.key, e.val) ∈ l.map (fun p => (ek p.1, ev p.2)) := by rw [← hl]; exact List.mem_map.2 ⟨e, he, rfl⟩
  obtain ⟨p, hp, he⟩ := List.mem_map.1 this
  simp at he
  exact ⟨p, hp, he.1.symm, he.2.symm⟩
omit [DecidableEq κ] in
theorem entry_to {es : Array MapEntry} (hl : es.toList.map (fun e => (e.key, e.val)) = l.map (fun p => (ek p.1, ev p.2))) {p : κ × υ} (hp : p ∈ l) : ∃ e ∈ es.toList, e.key = ek p.1 ∧ e.val = ev p.2 := by
  have : (ek p.1, ev p.2) ∈ es.toList.map (fun e => (e.key, e.val)) := by rw [hl]; exact List.mem_map.2 ⟨p, hp, rfl⟩
  obtain ⟨e, he, hq⟩ := List.mem_map.1 this
  simp at hq
  exact ⟨e, he, hq.1, hq.2⟩
omit [DecidableEq κ] in
theorem MapT.apart (h : MapT ek ev ok W b l) : KeysApart l := by
  obtain ⟨es, c, _, hst, _, hl, _⟩ := h
  have h3 := ((stamped_iff es c).1 hst).2.2
  have h4 : (es.toList.map (fun e => (e.key, e.val))).Pairwise fun x y => x.1 ≠ y.1 := by rw [List.pairwise_map]; exact h3
  rw [hl, List.pairwise_map] at h4
  exact h4.imp fun {p q} h e => h (by rw [e])
omit [DecidableEq κ] in
theorem keys_ok (E : KeyEnc P kt ek ok) {es : Array MapEntry} (hl : es.toList.map (fun e => (e.key, e.val)) = l.map (fun p => (ek p.1, ev p.2))) (hok : ∀ p ∈ l, ok p.1) : ∀ e ∈ es.toList, ∃ x, keyOf P kt e.key = some x := by
  intro e he
  obtain ⟨p, hp, h1, _⟩ := entry_of hl he
  rw [h1]; exact E.lit _ (hok p hp)
/-- what is found at a key. -/
theorem find_at (E : KeyEnc P kt ek ok) {es : Array MapEntry} (hl : es.toList.map (fun e => (e.key, e.val)) = l.map (fun p => (ek p.1, ev p.2))) (hok : ∀ p ∈ l, ok p.1) (hd : KeysApart l) (a : κ) (ha : ok a) (w : World) :
    (getL l a = none ∧ (Instr.findKey kt (ek a) es.toList).run P w = .ok none w ∧ ∀ e ∈ es.toList, e.key ≠ ek a) ∨
    ∃ v j e, getL l a = some v ∧ (Instr.findKey kt (ek a) es.toList).run P w = .ok (some (j, e.val)) w ∧ es.toList[j]? = some e ∧ e.key = ek a ∧ e.val = ev v ∧ l[j]? = some (a, v) := by
  obtain ⟨x, hx⟩ := E.lit a ha
  rcases E.K.find w hx es.toList (keys_ok E hl hok) with ⟨h1, h2⟩ | ⟨j, e, h1, h2, h3⟩
  · refine .inl ⟨getL_none.2 fun p hp hpa => ?_, h1, h2⟩
    obtain ⟨e, he, e1, _⟩ := entry_to hl hp
    exact h2 e he (by rw [e1, hpa])
  · have hj : (es.toList.map (fun e => (e.key, e.val)))[j]? = some (e.key, e.val) := by rw [List.getElem?_map, h2]; rfl
    rw [hl, List.getElem?_map] at hj
    cases hlj : l[j]? with
    | none => rw [hlj] at hj; cases hj
    | some p =>
      rw [hlj] at hj
      simp at hj
      have ea : p.1 = a := E.inj _ _ (hj.1.trans h3)
      refine .inr ⟨p.2, j, e, ?_, h1, h2, h3, hj.2.symm, by rw [← ea]; exact hlj⟩
      rw [getL_iff hd, ← ea]
      exact List.mem_of_getElem? hlj
/-- a look-up, with whether there is one. -/
theorem MapT.look (E : KeyEnc P kt ek ok) (h : MapT ek ev ok W b l) (ht : P.underlying t = some (.map kt et)) (a : κ) (ha : ok a) {z : Value} (hz : ∀ w, (zeroValue et).run P w = .ok z w) (w : World) (hw : w.heap[b]? = W.heap[b]?) (c : Bool) :
    (Instr.lookup t (.map (some b)) (ek a) c).run P w = .ok (if c then .tuple #[((getL l a).map ev).getD z, .bool (getL l a).isSome] else ((getL l a).map ev).getD z) w := by
  have hd := h.apart
  obtain ⟨es, ck, hb, hst, _, hl, hok⟩ := h
  rw [← hw] at hb
  obtain ⟨x, hx⟩ := E.lit a ha
  rcases find_at E hl hok hd a ha w with ⟨h1, h2, _⟩ | ⟨v, j, e, h1, h2, _, _, h5, _⟩
  · rw [h1]
    unfold Instr.lookup
    simp [run_underlying ht, MapKept.run_getObj_map hb, E.K.check w _ hx, h2, hz, Result.andThen]
  · rw [h1]
    unfold Instr.lookup
    simp [run_underlying ht, MapKept.run_getObj_map hb, E.K.check w _ hx, h2, Result.andThen, h5]
theorem setBlock_below {B : Nat} {o : Obj} (hb : B ≤ b) : Below B W (setBlock W b o) :=
  ⟨rfl, rfl, rfl, by simp [setBlock], fun k hk => by simp [setBlock]; rw [Array.getElem?_setIfInBounds_ne (by omega)]⟩
/-- all but some blocks is as it was. -/
structure Kept (F : Nat → Prop) (w w' : World) : Prop where
  os : w'.os = w.os
  tape : w'.tape = w.tape
  output : w'.output = w.output
  size : w.heap.size ≤ w'.heap.size
  block : ∀ k, k < w.heap.size → ¬ F k → w'.heap[k]? = w.heap[k]?
theorem Kept.refl (F : Nat → Prop) (w : World) : Kept F w w := ⟨rfl, rfl, rfl, Nat.le_refl _, fun _ _ _ => rfl⟩
theorem Kept.trans {F : Nat → Prop} {a b c : World} (h : Kept F a b) (k : Kept F b c) : Kept F a c :=
  ⟨k.os.trans h.os, k.tape.trans h.tape, k.output.trans h.output, Nat.le_trans h.size k.size, fun i hi hf => (k.block i (Nat.lt_of_lt_of_le hi h.size) hf).trans (h.block i hi hf)⟩
theorem Kept.of_below {F : Nat → Prop} {w w' : World} (h : Below w.heap.size w w') : Kept F w w' := ⟨h.os, h.tape, h.output, h.size, fun k hk _ => h.block k hk⟩
theorem Kept.below {F : Nat → Prop} {w w' : World} {B : Nat} (h : Kept F w w') (hB : B ≤ w.heap.size) (hF : ∀ k, F k → B ≤ k) : Below B w w' :=
  ⟨h.os, h.tape, h.output, h.size, fun k hk => h.block k (by omega) (fun hf => by have := hF k hf; omega)⟩
theorem Kept.imp {F G : Nat → Prop} {w w' : World} (h : Kept F w w') (hFG : ∀ k, F k → G k) : Kept G w w' := ⟨h.os, h.tape, h.output, h.size, fun k hk hg => h.block k hk (fun hf => hg (hFG k hf))⟩
theorem Kept.setBlock {F : Nat → Prop} {w : World} {b : Nat} (o : Obj) (hF : F b) : Kept F w (ChangeMaps.setBlock w b o) :=
  ⟨rfl, rfl, rfl, by simp [ChangeMaps.setBlock], fun k hk hf => by
    have : b ≠ k := fun e => hf (e ▸ hF)
    simp [ChangeMaps.setBlock, this]⟩
theorem Kept.setCell {F : Nat → Prop} {w : World} (p : Addr) (v : Value) (hF : F p.block) : Kept F w (w.setCell p v) :=
  ⟨rfl, rfl, rfl, by simp [World.setCell], fun k hk hf => Below.heap_setCell _ _ _ _ (fun e => hf (by rw [e]; exact hF))⟩
theorem Kept.drew {F : Nat → Prop} {w w' : World} (h : Kept F w w') : Kept F w w'.drew := ⟨h.os, h.tape, h.output, h.size, h.block⟩
omit [DecidableEq κ] in
theorem MapT.kept {F : Nat → Prop} (h : MapT ek ev ok W b l) (hk : Kept F W W') (hb : ¬ F b) : MapT ek ev ok W' b l := h.of_block (hk.block b h.lt hb)
theorem Kept.cell {F : Nat → Prop} {w w' : World} {a : Addr} {v : Value} (hk : Kept F w w') (h : w.cell? a = some v) (hF : ¬ F a.block) : w'.cell? a = some v := by
  rw [World.cell?_of_block (hk.block a.block (World.block_lt_of_cell? w a h) hF)]; exact h
/-- a store. -/
theorem MapT.store (E : KeyEnc P kt ek ok) (h : MapT ek ev ok W b l) (ht : P.underlying t = some (.map kt et)) (a : κ) (ha : ok a) (v : υ) (hroom : l.length < maxLen) (w : World) (hw : w.heap[b]? = W.heap[b]?) :
    ∃ o, (Instr.mapUpdate t (.map (some b)) (ek a) (ev v)).run P w = .ok () (setBlock w b o) ∧ MapT ek ev ok (setBlock w b o) b (putL l a v) := by
  have hd := h.apart
  obtain ⟨es, ck, hb, hst, hsz, hl, hok⟩ := h
  rw [← hw] at hb
  obtain ⟨x, hx⟩ := E.lit a ha
  have hlen := congrArg List.length hl
  simp at hlen
  have hpok : ∀ p ∈ putL l a v, ok p.1 := by
    intro p hp
    rcases mem_put hp with ⟨hp, _⟩ | rfl
    · exact hok p hp
    · exact ha
  rcases find_at E hl hok hd a ha w with ⟨h1, h2, h3⟩ | ⟨v0, j, e, h1, h2, h3, h4, h5, h6⟩
  · refine ⟨.map (es.push ⟨ek a, ev v, ck⟩) (ck + 1), ?_, ⟨_, _, heap_setBlock_same hb _, stamped_push hst h3, by simp; omega, ?_, hpok⟩⟩
    · unfold Instr.mapUpdate
      simp [run_underlying ht, MapKept.run_getObj_map hb, E.K.check w _ hx, h2, MapKept.run_setObj_map _ hb, Result.andThen, setBlock]
    · unfold putL; rw [h1]; simp [hl]
  · have hj : es[j]? = some e := by simpa using h3
    refine ⟨.map (es.modify j fun e' => { e' with key := ek a, val := ev v }) ck, ?_, ⟨_, _, heap_setBlock_same hb _, stamped_modify hst _ _ (fun _ _ => rfl) (fun e' _ he' => by rw [hj] at he'; cases he'; exact h4.symm), by simp; omega, ?_, hpok⟩⟩
    · unfold Instr.mapUpdate
      simp [run_underlying ht, MapKept.run_getObj_map hb, E.K.check w _ hx, h2, hj, h4, E.K.stays w hx, MapKept.run_setObj_map _ hb, Result.andThen, setBlock]
    · rw [Array.toList_modify, modify_eq_set _ _ _ _ h3, List.map_set, hl]
      unfold putL
      rw [h1, if_pos (by rfl : (some v0).isSome = true), List.map_map]
      apply List.ext_getElem?
      intro i
      rw [List.getElem?_set, List.getElem?_map, List.getElem?_map]
      by_cases hij : j = i
      · subst hij
        have hjl : j < l.length := (List.getElem?_eq_some_iff.1 h6).1
        rw [if_pos rfl, h6]
        simp [hjl]
      · rw [if_neg hij]
        cases hi : l[i]? with
        | none => simp
        | some p =>
          have : p.1 ≠ a := by
            intro e1
            have hpw := List.pairwise_iff_getElem.1 hd
            obtain ⟨hjl, hje⟩ := List.getElem?_eq_some_iff.1 h6
            obtain ⟨hil, hie⟩ := List.getElem?_eq_some_iff.1 hi
            rcases Nat.lt_or_gt_of_ne hij with hlt | hgt
            · exact hpw j i hjl hil hlt (by rw [hje, hie, e1])
            · exact hpw i j hil hjl hgt (by rw [hje, hie, e1])
          simp [this]
/-- a delete. -/
theorem MapT.drop (E : KeyEnc P kt ek ok) (h : MapT ek ev ok W b l) (ht : P.underlying t = some (.map kt et)) (a : κ) (ha : ok a) (w : World) (hw : w.heap[b]? = W.heap[b]?) :
    ∃ o, (∀ ty, (Builtin.delete_ #[t, kt] ty #[.map (some b), ek a]).run P w = .ok (.tuple #[]) (setBlock w b o)) ∧ MapT ek ev ok (setBlock w b o) b (delL l a) := by
  have hd := h.apart
  obtain ⟨es, ck, hb, hst, hsz, hl, hok⟩ := h
  rw [← hw] at hb
  obtain ⟨x, hx⟩ := E.lit a ha
  have hpok : ∀ p ∈ delL l a, ok p.1 := fun p hp => hok p (mem_del.1 hp).1
  rcases find_at E hl hok hd a ha w with ⟨h1, h2, h3⟩ | ⟨v0, j, e, h1, h2, h3, h4, h5, h6⟩
  · refine ⟨.map es ck, ?_, ⟨_, _, heap_setBlock_same hb _, hst, hsz, ?_, hpok⟩⟩
    · intro ty; simp [Builtin.delete_, run_underlying ht, MapKept.run_getObj_map hb, E.K.check w _ hx, h2, MapKept.run_setObj_map _ hb, Result.andThen, setBlock]
    · have : delL l a = l := by
        unfold delL
        rw [List.filter_eq_self]
        intro p hp
        simpa using getL_none.1 h1 p hp
      rw [this]; exact hl
  · have hjl : j < es.toList.length := (List.getElem?_eq_some_iff.1 h3).1
    have hjs : j < es.size := by simpa using hjl
    have hsub : (es.eraseIdxIfInBounds j).toList = es.toList.eraseIdx j := by
      unfold Array.eraseIdxIfInBounds
      rw [dif_pos hjs]
      simp
    refine ⟨.map (es.eraseIdxIfInBounds j) ck, ?_, ⟨_, _, heap_setBlock_same hb _, stamped_erase hst j, Nat.le_trans (MapFrom.size_erase es j) hsz, ?_, hpok⟩⟩
    · intro ty; simp [Builtin.delete_, run_underlying ht, MapKept.run_getObj_map hb, E.K.check w _ hx, h2, MapKept.run_setObj_map _ hb, Result.andThen, setBlock]
    · rw [hsub, map_eraseIdx, hl, ← map_eraseIdx]
      congr 1
      unfold delL
      exact (filter_eq_eraseIdx (fun p : κ × υ => decide (p.1 = a)) l j (a, v0) h6 (by simp) (hd.imp fun {p q} hne ⟨e1, e2⟩ => hne ((of_decide_eq_true e1).trans (of_decide_eq_true e2).symm))).symm
omit [DecidableEq κ] in
/-- its length. -/
theorem MapT.len (h : MapT ek ev ok W b l) (ht : P.underlying t = some (.map kt et)) (ty : TypeId) (w : World) (hw : w.heap[b]? = W.heap[b]?) :
    (Builtin.len_ #[t] ty #[.map (some b)]).run P w = .ok (.int .i64 l.length) w := by
  obtain ⟨es, ck, hb, hst, hsz, hl, hok⟩ := h
  rw [← hw] at hb
  have hlen := congrArg List.length hl
  simp at hlen
  have : goInt (es.size : Int) = .int .i64 (l.length : Int) := by rw [hlen]; rfl
  simp [Builtin.len_, run_underlying ht, MapKept.run_getObj_map hb, ← this]
end
end Go.Proofs.YtkoidahgbbabiaaGreat

/-
  CHOOSE: the best of some ranks (best), as it is found.
-/
namespace Go.Proofs.YtkoidahgbbabiaaGreat
open Go.RowKit

abbrev nV (n : Int) : Value := .int .i64 n
theorem wf_of {n : Int} (h : I64r n) : (Lit.int .i64 n).wf = true := by
  unfold I64r at h; exact WalkArith.wf_i64 (by omega)
theorem int_enc : KeyEnc Tryz.prog 3 nV I64r where
  K := Maps.int_keyed Tryz.underlying3
  lit a ha := ⟨_, Maps.keyOf_int_mk Tryz.underlying3 (wf_of ha)⟩
  inj a b h := by injection h
theorem zero_int (w : World) : (zeroValue 3).run Tryz.prog w = .ok (nV 0) w := by kernel_rfl
def leastP (T : Rk) (l : List (Int × Int)) (r : Rk) : List (Int × Int) :=
  if aheadI r T = 0 then (match getL l r.first with | none => putL l r.first r.med | some m => if r.med < m then putL l r.first r.med else l) else l
def leastL (T : Rk) (rs : List Rk) : List (Int × Int) := rs.foldl (leastP T) []
def leftB (T : Rk) (l : List (Int × Int)) (r : Rk) : Bool := decide (aheadI r T = 0) && (r.med == (getL l r.first).getD 0)
def leftL (T : Rk) (l : List (Int × Int)) (rs : List Rk) : List Rk := rs.filter (leftB T l)
def bestR (r0 : Rk) (rs : List Rk) : Rk :=
  match leftL (minBy aheadI r0 rs) (leastL (minBy aheadI r0 rs) (r0 :: rs)) (r0 :: rs) with
  | [] => r0
  | x :: xs => minBy behindI x xs
theorem leastL_step (T : Rk) {rs : List Rk} {k : Nat} {r : Rk} (h : rs[k]? = some r) : leastL T (rs.take (k + 1)) = leastP T (leastL T (rs.take k)) r := by
  obtain ⟨h1, h2⟩ := List.getElem?_eq_some_iff.1 h
  unfold leastL
  rw [List.take_succ_eq_append_getElem h1, List.foldl_append, h2]; rfl
theorem leftL_step (T : Rk) (l : List (Int × Int)) {rs : List Rk} {k : Nat} {r : Rk} (h : rs[k]? = some r) : leftL T l (rs.take (k + 1)) = leftL T l (rs.take k) ++ (if leftB T l r then [r] else []) := by
  obtain ⟨h1, h2⟩ := List.getElem?_eq_some_iff.1 h
  unfold leftL
  rw [List.take_succ_eq_append_getElem h1, List.filter_append, h2]
  congr 1
  cases hb : leftB T l r <;> simp [List.filter, hb]
theorem leastP_len (T : Rk) (l : List (Int × Int)) (r : Rk) : (leastP T l r).length ≤ l.length + 1 := by
  unfold leastP
  split
  · split
    · rw [len_put]; split <;> omega
    · split
      · rw [len_put]; split <;> omega
      · omega
  · omega
/-- where the rest of the memory lies, and what it holds. -/
structure BSt (w : World) (tb mb : Nat) (T : Rk) (l : List (Int × Int)) (wr : World) : Prop where
  z : wr.heap[w.heap.size]? = some (.cells rkZA 200 (0, 0))
  t : wr.heap[tb]? = some (.cells (rkA T) 200 (0, 0))
  m : MapT nV nV I64r wr mb l
  bel : Below w.heap.size w wr
  tz : w.heap.size < tb
  mz : w.heap.size < mb
  tm : tb ≠ mb
theorem BSt.below {w wr W : World} {tb mb : Nat} {T : Rk} {l : List (Int × Int)} (h : BSt w tb mb T l wr) (hb : Below wr.heap.size wr W) : BSt w tb mb T l W :=
  ⟨(hb.block _ (row_lt h.z)).trans h.z, (hb.block _ (row_lt h.t)).trans h.t, h.m.below hb, below_on h.bel hb, h.tz, h.mz, h.tm⟩
theorem BSt.put {w wr : World} {tb mb : Nat} {T : Rk} {l l' : List (Int × Int)} {o : Obj} (h : BSt w tb mb T l wr) (hm : MapT nV nV I64r (ChangeMaps.setBlock wr mb o) mb l') : BSt w tb mb T l' (ChangeMaps.setBlock wr mb o) := by
  have k : Kept (fun b => b = mb) wr (ChangeMaps.setBlock wr mb o) := Kept.setBlock o rfl
  refine ⟨(k.block _ (row_lt h.z) (Nat.ne_of_lt h.mz)).trans h.z, (k.block _ (row_lt h.t) h.tm).trans h.t, hm, h.bel.trans (setBlock_below (Nat.le_of_lt h.mz)), h.tz, h.mz, h.tm⟩
theorem BSt.grown {w wr W : World} {tb mb B : Nat} {T : Rk} {l : List (Int × Int)} {row : Option Nat} (h : BSt w tb mb T l wr) (hg : wr.grownBy W row) (hr : ∀ j, row = some j → B ≤ j) (h1 : w.heap.size < B) (h2 : tb < B) (h3 : mb < B) : BSt w tb mb T l W := by
  have key : ∀ b, b < wr.heap.size → b < B → W.heap[b]? = wr.heap[b]? := fun b hb hB => hg.block b hb (fun e => by have := hr b e.symm; omega)
  exact ⟨(key _ (row_lt h.z) h1).trans h.z, (key _ (row_lt h.t) h2).trans h.t, h.m.of_block (key _ h.m.lt h3), h.bel.grown hg h.bel.size (fun j hj => Nat.le_trans (Nat.le_of_lt h1) (hr j hj)), h.tz, h.mz, h.tm⟩
theorem results_best (tmps : Array Value) (W : World) (b : Nat) (r : Rk) (h4 : tmps.getD 2 undef = .pointer (some ⟨b, 0, none⟩)) (hb : W.heap[b]? = some (.cells (rkA r) 200 (0, 0))) :
    (results Tryz.f121 tmps).run Tryz.prog W = .ok (.agg (rkA r)) W := results_cell_row Tryz.results121 tmps W b 200 (rkA r) (0, 0) _ h4 hb Tryz.underlying200 rfl (by kernel_rfl)
theorem rkL_one (r : Rk) : ∀ u ∈ rkL r, u.oneCell' = true := by
  intro u hu
  simp [rkL] at hu
  rcases hu with rfl | rfl | rfl | rfl | rfl | rfl | rfl | rfl <;> rfl
theorem look_val (l : List (Int × Int)) (f : Int) : ((getL l f).map nV).getD (nV 0) = nV ((getL l f).getD 0) := by cases getL l f <;> rfl
set_option maxHeartbeats 12800000 in
set_option maxRecDepth 100000 in
theorem ch_best (v : Value) (r0 : Rk) (rs : List Rk) (w : World) (h : RksAt w v (r0 :: rs)) (hn : rs.length ≤ 100000) (hok : ∀ r ∈ r0 :: rs, I64r r.first)
    (hne : leftL (minBy aheadI r0 rs) (leastL (minBy aheadI r0 rs) (r0 :: rs)) (r0 :: rs) ≠ []) :
    Calls Tryz.prog 121 #[v] w fun e w' => e = .returned (.agg (rkA (bestR r0 rs))) ∧ Below w.heap.size w w' := by
  obtain ⟨i0, hi, hz0, hz1, hz2⟩ := info_parts info_rank
  have HR := Lib.hid h
  obtain ⟨sa, cap, rfl, hlc, hcm, hV⟩ := h
  have HV := Lib.hid hV
  have HOK := Lib.hid hok
  unfold maxLen at hcm
  have hmm := @run_makeMap Tryz.prog
  have EB : Hid (bestR r0 rs = match leftL (minBy aheadI r0 rs) (leastL (minBy aheadI r0 rs) (r0 :: rs)) (r0 :: rs) with | [] => r0 | x :: xs => minBy behindI x xs) := Lib.hid rfl
  have MN := Lib.hid (fun W h => min_ahead (.slice sa (r0 :: rs).length cap) r0 rs W h)
  have LE : Hid ((r0 :: rs).length ≤ 100001) := Lib.hid (by simp; omega)
  have LP : Hid (0 < (r0 :: rs).length) := Lib.hid (by simp)
  have HNE := Lib.hid hne
  clear hV hok hne hn
  generalize minBy aheadI r0 rs = T at EB MN HNE
  generalize bestR r0 rs = R at EB ⊢
  generalize r0 :: rs = l at HR HV HOK EB MN LE LP HNE hlc ⊢
  generalize hll : l.length = n at HR HV LE LP MN hlc ⊢
  have HL := Lib.hid hll
  clear hll
  have le := LE.out
  have lp := LP.out
  go_enter Tryz.func121, Tryz.ntmps121
  go_upto_region 1 with (fail)
  obtain ⟨W0, hW0, q0, hb0, hz⟩ := boxKz w
  rw [← hW0]
  clear hW0
  have Q0 := Lib.hid q0
  have HZ := Lib.hid hz
  have H0 := Lib.hid (HR.out.below hb0)
  have B0 := Lib.hid hb0
  clear q0 hz hb0
  go_wp2_with fail
  refine (MN.out _ H0.out).mono ?_
  rintro e w1 ⟨rfl, hb1⟩
  have Q1 := Lib.hid ((hb1.block _ (row_lt Q0.out)).trans Q0.out)
  have B1 := Lib.hid (below_on B0.out hb1)
  have S1 := Lib.hid (row_lt Q1.out)
  clear hb1 Q0 B0 HZ MN H0
  go_upto_region 2 with (fail)
  obtain ⟨W2, hW2, q2, hb2, hz2'⟩ := boxK w1 T
  rw [← hW2]
  clear hW2
  have Q2 := Lib.hid ((hb2.block _ (row_lt Q1.out)).trans Q1.out)
  have QT := Lib.hid q2
  have B2 := Lib.hid (below_on B1.out hb2)
  have HZ2 := Lib.hid hz2'
  clear q2 hb2 hz2' Q1 B1
  go_upto_region 3 with (fail)
  have BS : Hid (BSt w w1.heap.size W2.heap.size T (leastL T (l.take 0)) (W2.alloc (.map #[] 0))) := Lib.hid (by
    have hb3 : Below W2.heap.size W2 (W2.alloc (.map #[] 0)) := (Below.refl _ _).alloc (Nat.le_refl _) _
    have := S1.out
    have := HZ2.out
    exact ⟨(hb3.block _ (row_lt Q2.out)).trans Q2.out, (hb3.block _ (row_lt QT.out)).trans QT.out, MapT.made W2, below_on B2.out hb3, by omega, by omega, by omega⟩)
  clear Q2 QT B2 hmm
  generalize W2.alloc (.map #[] 0) = W3 at BS ⊢
  generalize w1.heap.size = tb at BS ⊢
  generalize W2.heap.size = mb at BS ⊢
  clear S1 HZ2
  go_wp2_with fail
  go_loopw [17] (fun i wr => ∃ k : Nat, k ≤ n ∧ i = .int .i64 k ∧ Hid (BSt w tb mb T (leastL T (l.take k)) wr) ∧ Hid ((leastL T (l.take k)).length ≤ k)) (fun i _ => n - (intOf i).toNat)
  case atStart => exact ⟨0, by omega, rfl, BS, Lib.hid (by simp [leastL])⟩
  case round =>
    clear BS
    obtain ⟨k, hk, rfl, BS, HLN⟩ := hrel
    by_cases hlt : k < n
    · obtain ⟨r, hr⟩ : ∃ r, l[k]? = some r := ⟨_, List.getElem?_eq_getElem (by have := HL.out; omega)⟩
      obtain ⟨b, off, hsa, hP⟩ := HV.out lp
      subst hsa
      obtain ⟨cs, _, hR, hc⟩ := hP k r hr
      obtain ⟨x0, x1, x2, x3, x4, x5, x6, x7⟩ := rk_cells hR hc
      have x0 := (BS.out.bel.cell (size_lt x0)).trans x0
      have x1 := (BS.out.bel.cell (size_lt x1)).trans x1
      have x2 := (BS.out.bel.cell (size_lt x2)).trans x2
      have x3 := (BS.out.bel.cell (size_lt x3)).trans x3
      have x4 := (BS.out.bel.cell (size_lt x4)).trans x4
      have x5 := (BS.out.bel.cell (size_lt x5)).trans x5
      have x6 := (BS.out.bel.cell (size_lt x6)).trans x6
      have x7 := (BS.out.bel.cell (size_lt x7)).trans x7
      have AH := Lib.hid (fun W => ch_ahead r T W)
      have FO := Lib.hid (HOK.out r (List.mem_of_getElem? hr))
      have j0 : (0 : Int) ≤ (k : Int) := by omega
      have j1 : (k : Int) < (n : Int) := by omega
      have ST := Lib.hid (leastL_step T hr)
      clear hP hR hc hr
      go_upto_region 6 with (fail)
      obtain ⟨W4, hW4, q4, hb4, _⟩ := boxK wr r
      rw [← hW4]
      clear hW4 x0 x1 x2 x3 x4 x5 x6 x7
      have BS4 := Lib.hid (BS.out.below hb4)
      obtain ⟨x0, x1, x2, x3, x4, x5, x6, x7⟩ := rk_row q4
      obtain ⟨t0, t1, t2, t3, t4, t5, t6, t7⟩ := rk_row BS4.out.t
      have QR := Lib.hid q4
      generalize wr.heap.size = rb at x0 x1 x2 x3 x4 x5 x6 x7 QR ⊢
      clear q4 hb4 BS
      by_cases h0 : aheadI r T = 0
      · have ST2 : Hid (leastL T (l.take (k + 1)) = match getL (leastL T (l.take k)) r.first with | none => putL (leastL T (l.take k)) r.first r.med | some m => if r.med < m then putL (leastL T (l.take k)) r.first r.med else leastL T (l.take k)) := Lib.hid (by rw [ST.out]; unfold leastP; rw [if_pos h0])
        have LN2 : Hid ((leastL T (l.take (k + 1))).length ≤ k + 1) := Lib.hid (by rw [ST.out]; have := leastP_len T (leastL T (l.take k)) r; have := HLN.out; omega)
        have HLM : Hid ((leastL T (l.take k)).length < maxLen) := Lib.hid (by unfold maxLen; have := HLN.out; omega)
        rw [h0] at AH
        clear h0 ST HLN
        generalize leastL T (l.take k) = L at BS4 ST2 HLM
        go_wp2_with fail
        refine (AH.out _).mono ?_
        rintro e w5 ⟨rfl, hb5⟩
        have BS5 := Lib.hid (BS4.out.below hb5)
        have QR5 := Lib.hid ((hb5.block _ (row_lt QR.out)).trans QR.out)
        clear x0 x1 x2 x3 x4 x5 x6 x7 t0 t1 t2 t3 t4 t5 t6 t7 hb5 BS4 QR
        obtain ⟨x0, x1, x2, x3, x4, x5, x6, x7⟩ := rk_row QR5.out
        have hl := BS5.out.m.look int_enc Tryz.underlying246 r.first FO.out zero_int w5 rfl true
        obtain ⟨o, hs, hm⟩ := BS5.out.m.store int_enc Tryz.underlying246 r.first FO.out r.med HLM.out w5 rfl
        cases hg : getL L r.first with
        | none =>
          rw [hg] at hl ST2
          simp only [if_true, Option.map_none, Option.getD_none, Option.isSome_none, nV] at hl
          simp only [nV] at hs
          have BS6 := Lib.hid (BS5.out.put hm)
          have ST3 : Hid (leastL T (l.take (k + 1)) = putL L r.first r.med) := Lib.hid ST2.out
          rw [← ST3.out] at BS6
          clear hg ST2 BS5 hm ST3
          go_wp2_with fail
          exact ⟨⟨k + 1, by omega, by go_num, BS6, LN2⟩, by simp [intOf]; omega⟩
        | some m =>
          rw [hg] at hl ST2
          simp only [if_true, Option.map_some, Option.getD_some, Option.isSome_some, nV] at hl
          simp only [nV] at hs
          by_cases hmm : r.med < m
          · have BS6 := Lib.hid (BS5.out.put hm)
            have ST3 : Hid (leastL T (l.take (k + 1)) = putL L r.first r.med) := Lib.hid (by rw [ST2.out]; simp only [if_pos hmm])
            rw [← ST3.out] at BS6
            clear hg ST2 BS5 hm ST3
            go_wp2_with fail
            exact ⟨⟨k + 1, by omega, by go_num, BS6, LN2⟩, by simp [intOf]; omega⟩
          · have ST3 : Hid (leastL T (l.take (k + 1)) = L) := Lib.hid (by rw [ST2.out]; simp only [if_neg hmm])
            rw [← ST3.out] at BS5
            clear hg ST2 hm ST3 hs
            go_wp2_with fail
            exact ⟨⟨k + 1, by omega, by go_num, BS5, LN2⟩, by simp [intOf]; omega⟩
      · have ST2 : Hid (leastL T (l.take (k + 1)) = leastL T (l.take k)) := Lib.hid (by rw [ST.out]; unfold leastP; rw [if_neg h0])
        have LN2 : Hid ((leastL T (l.take (k + 1))).length ≤ k + 1) := Lib.hid (by rw [ST2.out]; have := HLN.out; omega)
        have n0 : (aheadI r T != 0) = true := by simpa using h0
        rw [← ST2.out] at BS4
        clear h0 ST ST2 HLN
        go_wp2_with fail
        refine (AH.out _).mono ?_
        rintro e w5 ⟨rfl, hb5⟩
        have BS5 := Lib.hid (BS4.out.below hb5)
        have QR5 := Lib.hid ((hb5.block _ (row_lt QR.out)).trans QR.out)
        clear x0 x1 x2 x3 x4 x5 x6 x7 t0 t1 t2 t3 t4 t5 t6 t7 hb5 BS4 QR
        obtain ⟨x0, x1, x2, x3, x4, x5, x6, x7⟩ := rk_row QR5.out
        go_wp2_with fail
        exact ⟨⟨k + 1, by omega, by go_num, BS5, LN2⟩, by simp [intOf]; omega⟩
    · obtain rfl : n = k := by omega
      rw [← HL.out, List.take_length] at BS
      clear HLN
      obtain ⟨BW, hBW⟩ : ∃ BW, BW = wr.heap.size := ⟨_, rfl⟩
      have G1 : Hid (w.heap.size < BW ∧ tb < BW ∧ mb < BW) := Lib.hid (by rw [hBW]; exact ⟨row_lt BS.out.z, row_lt BS.out.t, BS.out.m.lt⟩)
      have G2 : Hid (BW ≤ wr.heap.size) := Lib.hid (by rw [hBW]; exact Nat.le_refl _)
      clear hBW
      have ON : Hid (wr.ownsRow BW 200 8 (.slice none 0 0) (leftL T (leastL T l) (l.take 0)).length ((leftL T (leastL T l) (l.take 0)).flatMap rkL)) := Lib.hid ⟨by simp [leftL], .inl ⟨rfl, by simp [leftL]⟩⟩
      generalize leastL T l = L at BS EB HNE ON
      go_wp2_with fail
      go_loopw [9, 48] (fun o i wr => ∃ k : Nat, k ≤ n ∧ i = .int .i64 k ∧ Hid (BSt w tb mb T L wr) ∧ Hid (wr.ownsRow BW 200 8 o (leftL T L (l.take k)).length ((leftL T L (l.take k)).flatMap rkL)) ∧ Hid (BW ≤ wr.heap.size) ∧ Hid ((leftL T L (l.take k)).length ≤ k)) (fun _ i _ => n - (intOf i).toNat)
      case atStart => exact ⟨0, by omega, rfl, BS, ON, G2, Lib.hid (by simp [leftL])⟩
      case round =>
        clear BS ON G2
        obtain ⟨k, hk, rfl, BS, ON, G2, LK⟩ := hrel
        by_cases hlt : k < n
        · obtain ⟨r, hr⟩ : ∃ r, l[k]? = some r := ⟨_, List.getElem?_eq_getElem (by have := HL.out; omega)⟩
          obtain ⟨b, off, hsa, hP⟩ := HV.out lp
          subst hsa
          obtain ⟨cs, _, hR, hc⟩ := hP k r hr
          obtain ⟨x0, x1, x2, x3, x4, x5, x6, x7⟩ := rk_cells hR hc
          have x0 := (BS.out.bel.cell (size_lt x0)).trans x0
          have x1 := (BS.out.bel.cell (size_lt x1)).trans x1
          have x2 := (BS.out.bel.cell (size_lt x2)).trans x2
          have x3 := (BS.out.bel.cell (size_lt x3)).trans x3
          have x4 := (BS.out.bel.cell (size_lt x4)).trans x4
          have x5 := (BS.out.bel.cell (size_lt x5)).trans x5
          have x6 := (BS.out.bel.cell (size_lt x6)).trans x6
          have x7 := (BS.out.bel.cell (size_lt x7)).trans x7
          have AH := Lib.hid (fun W => ch_ahead r T W)
          have FO := Lib.hid (HOK.out r (List.mem_of_getElem? hr))
          have j0 : (0 : Int) ≤ (k : Int) := by omega
          have j1 : (k : Int) < (n : Int) := by omega
          have ST := Lib.hid (leftL_step T L hr)
          clear hP hR hc hr
          go_upto_region 15 with (fail)
          obtain ⟨W4, hW4, q4, hb4, _⟩ := boxK wr r
          rw [← hW4]
          clear hW4 x0 x1 x2 x3 x4 x5 x6 x7
          have BS4 := Lib.hid (BS.out.below hb4)
          have ON4 := Lib.hid (own_below ON.out hb4)
          have G4 := Lib.hid (Nat.le_trans G2.out hb4.size)
          obtain ⟨x0, x1, x2, x3, x4, x5, x6, x7⟩ := rk_row q4
          obtain ⟨t0, t1, t2, t3, t4, t5, t6, t7⟩ := rk_row BS4.out.t
          have QR := Lib.hid q4
          generalize wr.heap.size = rb at x0 x1 x2 x3 x4 x5 x6 x7 QR ⊢
          clear q4 hb4 BS ON G2
          by_cases h0 : aheadI r T = 0
          · have LB : Hid (leftB T L r = (r.med == (getL L r.first).getD 0)) := Lib.hid (by unfold leftB; rw [h0]; rfl)
            rw [h0] at AH
            clear h0
            go_wp2_with fail
            refine (AH.out _).mono ?_
            rintro e w5 ⟨rfl, hb5⟩
            have BS5 := Lib.hid (BS4.out.below hb5)
            have ON5 := Lib.hid (own_below ON4.out hb5)
            have G5 := Lib.hid (Nat.le_trans G4.out hb5.size)
            have QR5 := Lib.hid ((hb5.block _ (row_lt QR.out)).trans QR.out)
            clear x0 x1 x2 x3 x4 x5 x6 x7 t0 t1 t2 t3 t4 t5 t6 t7 hb5 BS4 ON4 G4 QR
            obtain ⟨x0, x1, x2, x3, x4, x5, x6, x7⟩ := rk_row QR5.out
            have hl := BS5.out.m.look int_enc Tryz.underlying246 r.first FO.out zero_int w5 rfl false
            simp only [Bool.false_eq_true, if_false, look_val] at hl
            generalize (getL L r.first).getD 0 = mm at hl LB
            by_cases hm : r.med = mm
            · have zm : (r.med == mm) = true := by simpa using hm
              have ST2 : Hid (leftL T L (l.take (k + 1)) = leftL T L (l.take k) ++ [r]) := Lib.hid (by rw [ST.out, LB.out, zm]; rfl)
              clear ST LB hm
              go_wp2_with (at_builtin; refine wpList_append_own_at _ rfl _ _ 197 rfl BW 200 i0 _ 8 64 Tryz.underlying197 hi hz0 hz1 hz2 rfl (by decide) _ (leftL T L (l.take k)).length ((leftL T L (l.take k)).flatMap rkL) rfl (ON5.out.alloc _) ⟨w5.heap.size, 0, none⟩ 1 1 (rkL r) rfl ?ar1 ?br1 ?cr1 ?dr1 ?er1 ?fr1 ?_)
              case ar1 => rfl
              case br1 => exact new_cells _ _ _
              case cr1 => exact rkL_one _
              case dr1 => have := LK.out; unfold maxLen; omega
              case er1 => have := LK.out; omega
              case fr1 => have := G5.out; simp; omega
              intro v' w6 hown hgrow _ _
              have LK2 : Hid ((leftL T L (l.take (k + 1))).length ≤ k + 1) := Lib.hid (by rw [ST2.out, List.length_append]; have := LK.out; simp; omega)
              have O6 : Hid (w6.ownsRow BW 200 8 v' (leftL T L (l.take (k + 1))).length ((leftL T L (l.take (k + 1))).flatMap rkL)) := Lib.hid (by rw [ST2.out, flat_snoc, List.length_append]; exact hown)
              have hba : Below w5.heap.size w5 (w5.alloc (.cells (rkA r) 200)) := (Below.refl _ _).alloc (Nat.le_refl _) _
              have BS6 := Lib.hid ((BS5.out.below hba).grown hgrow (own_form_le ON5.out) G1.out.1 G1.out.2.1 G1.out.2.2)
              have G6 : Hid (BW ≤ w6.heap.size) := Lib.hid (by have := hgrow.size; have := G5.out; simp at *; omega)
              clear hown hgrow hba hl ON5 BS5 G5 ST2 LK
              go_wp2_with fail
              exact ⟨⟨k + 1, by omega, by go_num, BS6, O6, G6, LK2⟩, by simp [intOf]; omega⟩
            · have zm : (r.med == mm) = false := by simpa using hm
              have ST2 : Hid (leftL T L (l.take (k + 1)) = leftL T L (l.take k)) := Lib.hid (by rw [ST.out, LB.out, zm]; simp)
              have LK2 : Hid ((leftL T L (l.take (k + 1))).length ≤ k + 1) := Lib.hid (by rw [ST2.out]; have := LK.out; omega)
              rw [← ST2.out] at ON5
              clear ST LB hm ST2 LK
              go_wp2_with fail
              exact ⟨⟨k + 1, by omega, by go_num, BS5, ON5, G5, LK2⟩, by simp [intOf]; omega⟩
          · have ST2 : Hid (leftL T L (l.take (k + 1)) = leftL T L (l.take k)) := Lib.hid (by rw [ST.out]; unfold leftB; rw [decide_eq_false h0]; simp)
            have LK2 : Hid ((leftL T L (l.take (k + 1))).length ≤ k + 1) := Lib.hid (by rw [ST2.out]; have := LK.out; omega)
            have n0 : (aheadI r T == 0) = false := by simpa using h0
            rw [← ST2.out] at ON4
            clear h0 ST ST2 LK
            go_wp2_with fail
            refine (AH.out _).mono ?_
            rintro e w5 ⟨rfl, hb5⟩
            have BS5 := Lib.hid (BS4.out.below hb5)
            have ON5 := Lib.hid (own_below ON4.out hb5)
            have G5 := Lib.hid (Nat.le_trans G4.out hb5.size)
            have QR5 := Lib.hid ((hb5.block _ (row_lt QR.out)).trans QR.out)
            clear x0 x1 x2 x3 x4 x5 x6 x7 t0 t1 t2 t3 t4 t5 t6 t7 hb5 BS4 ON4 G4 QR
            obtain ⟨x0, x1, x2, x3, x4, x5, x6, x7⟩ := rk_row QR5.out
            go_wp2_with fail
            exact ⟨⟨k + 1, by omega, by go_num, BS5, ON5, G5, LK2⟩, by simp [intOf]; omega⟩
        · obtain rfl : n = k := by omega
          rw [← HL.out, List.take_length] at ON
          clear LK
          obtain ⟨x, xs, hx⟩ : ∃ x xs, leftL T L l = x :: xs := by
            cases hq : leftL T L l with
            | nil => exact absurd hq HNE.out
            | cons x xs => exact ⟨x, xs, rfl⟩
          have ER : Hid (R = minBy behindI x xs) := Lib.hid (by rw [EB.out, hx])
          have SL := own_slat (C := rkL) rkL_len ON.out
          rw [hx] at SL
          have MB := Lib.hid (fun v h => min_behind v x xs wr h)
          have SLH := Lib.hid SL
          clear EB HNE ON SL hx
          go_wp2_with fail
          refine (MB.out _ SLH.out).mono ?_
          rintro e w7 ⟨rfl, hb7⟩
          have BS7 := Lib.hid (BS.out.below hb7)
          clear hb7 SLH MB BS
          go_wp2_with (refine st_row rfl 200 (.tmp 2) (.tmp 71) rfl w.heap.size rfl 200 rkZA (rkA (minBy behindI x xs)) rfl BS7.out.z (by kernel_rfl) rfl (rk_one _) ?_)
          refine bodyPost_ret (results_best _ _ w.heap.size (minBy behindI x xs) ?_ (setRow_heap _ _ _ _ _ _ BS7.out.z)) rfl ⟨by rw [ER.out], below_setRow BS7.out.bel (Nat.le_refl _) _⟩
          rfl
end Go.Proofs.YtkoidahgbbabiaaGreat

/-
  CHOOSE: plain laws: which one is the best, by definition.
-/
namespace Go.Proofs.YtkoidahgbbabiaaGreat
open Go.RowKit

theorem cmpIc_zero {a b : Int} : cmpIc a b = 0 ↔ a = b := by unfold cmpIc; split <;> (try split) <;> omega
theorem cmpIc_neg {a b : Int} : cmpIc a b < 0 ↔ a < b := by unfold cmpIc; split <;> (try split) <;> omega
theorem or3_neg {x y z : Int} : or3 x y z < 0 ↔ x < 0 ∨ (x = 0 ∧ (y < 0 ∨ (y = 0 ∧ z < 0))) := by unfold or3; split <;> (try split) <;> omega
theorem or3_zero {x y z : Int} : or3 x y z = 0 ↔ x = 0 ∧ y = 0 ∧ z = 0 := by unfold or3; split <;> (try split) <;> omega
/-- ahead, by what comes before the Med. -/
def AhP (q r : Rk) : Prop := r.loc < q.loc ∨ (q.loc = r.loc ∧ (q.hops < r.hops ∨ (q.hops = r.hops ∧ q.origin < r.origin)))
def EqP (q r : Rk) : Prop := q.loc = r.loc ∧ q.hops = r.hops ∧ q.origin = r.origin
def BhP (q r : Rk) : Prop := q.id < r.id ∨ (q.id = r.id ∧ (q.peer < r.peer ∨ (q.peer = r.peer ∧ q.place < r.place)))
theorem ahead_neg {q r : Rk} : aheadI q r < 0 ↔ AhP q r := by
  unfold aheadI AhP
  rw [or3_neg, cmpIc_neg, cmpIc_zero, cmpIc_neg, cmpIc_zero, cmpIc_neg]
  constructor <;> rintro (h | ⟨h1, h | ⟨h2, h3⟩⟩) <;> omega
theorem ahead_zero {q r : Rk} : aheadI q r = 0 ↔ EqP q r := by
  unfold aheadI EqP
  rw [or3_zero, cmpIc_zero, cmpIc_zero, cmpIc_zero]
  constructor <;> rintro ⟨h1, h2, h3⟩ <;> exact ⟨h1.symm, h2, h3⟩
theorem behind_neg {q r : Rk} : behindI q r < 0 ↔ BhP q r := by
  unfold behindI BhP
  rw [or3_neg, cmpIc_neg, cmpIc_zero, cmpIc_neg, cmpIc_zero, cmpIc_neg]
  constructor <;> rintro (h | ⟨h1, h | ⟨h2, h3⟩⟩) <;> omega
theorem minBy_spec (f : Rk → Rk → Int) (irr : ∀ x, ¬ f x x < 0) (tr : ∀ x y z, f x y < 0 → f y z < 0 → f x z < 0) : ∀ (l : List Rk) (r : Rk), minBy f r l ∈ r :: l ∧ ∀ x ∈ r :: l, ¬ f x (minBy f r l) < 0
  | [], r => ⟨List.mem_cons_self .., fun x hx => by rw [List.mem_singleton.1 hx]; exact irr r⟩
  | y :: l, r => by
    have e : minBy f r (y :: l) = minBy f (if f y r < 0 then y else r) l := rfl
    rw [e]
    by_cases h : f y r < 0
    · rw [if_pos h]
      obtain ⟨h1, h2⟩ := minBy_spec f irr tr l y
      refine ⟨List.mem_cons_of_mem _ h1, fun x hx => ?_⟩
      rcases List.mem_cons.1 hx with rfl | hx
      · intro hlt
        exact h2 y (List.mem_cons_self ..) (tr _ _ _ h hlt)
      · exact h2 x hx
    · rw [if_neg h]
      obtain ⟨h1, h2⟩ := minBy_spec f irr tr l r
      refine ⟨?_, fun x hx => ?_⟩
      · rcases List.mem_cons.1 h1 with h3 | h3
        · rw [h3]; exact List.mem_cons_self ..
        · exact List.mem_cons_of_mem _ (List.mem_cons_of_mem _ h3)
      · rcases List.mem_cons.1 hx with rfl | hx
        · exact h2 _ (List.mem_cons_self ..)
        · rcases List.mem_cons.1 hx with rfl | hx
          · -- what is not less than the first is not less than the least
            intro hlt
            rcases List.mem_cons.1 h1 with h3 | h3
            · rw [h3] at hlt; exact h hlt
            · have h4 := h2 r (List.mem_cons_self ..)
              exact minBy_gap f irr tr l r x h hlt
          · exact h2 x (List.mem_cons_of_mem _ hx)
where
  minBy_gap (f : Rk → Rk → Int) (irr : ∀ x, ¬ f x x < 0) (tr : ∀ x y z, f x y < 0 → f y z < 0 → f x z < 0) (l : List Rk) (r x : Rk) (h : ¬ f x r < 0) : f x (minBy f r l) < 0 → False := by
    induction l generalizing r with
    | nil => exact h
    | cons y l ih =>
      have e : minBy f r (y :: l) = minBy f (if f y r < 0 then y else r) l := rfl
      rw [e]
      by_cases hy : f y r < 0
      · rw [if_pos hy]
        exact ih y (fun hxy => h (tr _ _ _ hxy hy))
      · rw [if_neg hy]; exact ih r h
theorem ah_irr (x : Rk) : ¬ aheadI x x < 0 := by rw [ahead_neg]; unfold AhP; omega
theorem ah_tr (x y z : Rk) : aheadI x y < 0 → aheadI y z < 0 → aheadI x z < 0 := by simp only [ahead_neg]; unfold AhP; omega
theorem bh_irr (x : Rk) : ¬ behindI x x < 0 := by rw [behind_neg]; unfold BhP; omega
theorem bh_tr (x y z : Rk) : behindI x y < 0 → behindI y z < 0 → behindI x z < 0 := by simp only [behind_neg]; unfold BhP; omega
theorem least_spec (T : Rk) (l : List Rk) : ∀ k, k ≤ l.length →
    (∀ r ∈ l.take k, EqP r T → ∃ m, getL (leastL T (l.take k)) r.first = some m ∧ m ≤ r.med) ∧
    (∀ f m, getL (leastL T (l.take k)) f = some m → ∃ r ∈ l.take k, EqP r T ∧ r.first = f ∧ r.med = m)
  | 0, _ => ⟨fun r hr => by simp at hr, fun f m h => by simp [leastL, getL] at h⟩
  | k + 1, hk => by
    obtain ⟨i1, i2⟩ := least_spec T l k (by omega)
    obtain ⟨r, hr⟩ : ∃ r, l[k]? = some r := ⟨_, List.getElem?_eq_getElem hk⟩
    obtain ⟨g1, g2⟩ := List.getElem?_eq_some_iff.1 hr
    have ht : l.take (k + 1) = l.take k ++ [r] := by rw [List.take_succ_eq_append_getElem g1, g2]
    have hst := leastL_step T hr
    have hmem : ∀ x, x ∈ l.take (k + 1) ↔ x ∈ l.take k ∨ x = r := fun x => by rw [ht]; simp
    generalize leastL T (l.take k) = L at *
    generalize leastL T (l.take (k + 1)) = L' at *
    subst hst
    unfold leastP
    by_cases h0 : aheadI r T = 0
    · rw [if_pos h0]
      have hE := ahead_zero.1 h0
      cases hg : getL L r.first with
      | none =>
        simp only
        refine ⟨fun x hx hxE => ?_, fun f m hm => ?_⟩
        · rw [getL_put]
          by_cases hf : x.first = r.first
          · rw [if_pos hf]
            rcases (hmem x).1 hx with hx | rfl
            · obtain ⟨m, hm, _⟩ := i1 x hx hxE
              rw [hf, hg] at hm; cases hm
            · exact ⟨_, rfl, Int.le_refl _⟩
          · rw [if_neg hf]
            rcases (hmem x).1 hx with hx | rfl
            · exact i1 x hx hxE
            · exact absurd rfl hf
        · rw [getL_put] at hm
          by_cases hf : f = r.first
          · rw [if_pos hf] at hm
            exact ⟨r, (hmem r).2 (.inr rfl), hE, hf.symm, Option.some.inj hm⟩
          · rw [if_neg hf] at hm
            obtain ⟨x, hx, h⟩ := i2 f m hm
            exact ⟨x, (hmem x).2 (.inl hx), h⟩
      | some m0 =>
        simp only
        by_cases hlt : r.med < m0
        · rw [if_pos hlt]
          refine ⟨fun x hx hxE => ?_, fun f m hm => ?_⟩
          · rw [getL_put]
            by_cases hf : x.first = r.first
            · rw [if_pos hf]
              refine ⟨_, rfl, ?_⟩
              rcases (hmem x).1 hx with hx | rfl
              · obtain ⟨m, hm, hle⟩ := i1 x hx hxE
                rw [hf, hg] at hm; cases hm; omega
              · exact Int.le_refl _
            · rw [if_neg hf]
              rcases (hmem x).1 hx with hx | rfl
              · exact i1 x hx hxE
              · exact absurd rfl hf
          · rw [getL_put] at hm
            by_cases hf : f = r.first
            · rw [if_pos hf] at hm
              exact ⟨r, (hmem r).2 (.inr rfl), hE, hf.symm, Option.some.inj hm⟩
            · rw [if_neg hf] at hm
              obtain ⟨x, hx, h⟩ := i2 f m hm
              exact ⟨x, (hmem x).2 (.inl hx), h⟩
        · rw [if_neg hlt]
          refine ⟨fun x hx hxE => ?_, fun f m hm => ?_⟩
          · rcases (hmem x).1 hx with hx | rfl
            · exact i1 x hx hxE
            · exact ⟨m0, hg, by omega⟩
          · obtain ⟨x, hx, h⟩ := i2 f m hm
            exact ⟨x, (hmem x).2 (.inl hx), h⟩
    · rw [if_neg h0]
      refine ⟨fun x hx hxE => ?_, fun f m hm => ?_⟩
      · rcases (hmem x).1 hx with hx | rfl
        · exact i1 x hx hxE
        · exact absurd (ahead_zero.2 hxE) h0
      · obtain ⟨x, hx, h⟩ := i2 f m hm
        exact ⟨x, (hmem x).2 (.inl hx), h⟩
/-- what is left when the Med has been looked at. -/
def InLeft (l : List Rk) (r : Rk) : Prop := (∀ q ∈ l, ¬ AhP q r) ∧ ∀ q ∈ l, EqP q r → q.first = r.first → r.med ≤ q.med
structure IsBest (l : List Rk) (r : Rk) : Prop where
  mem : r ∈ l
  left : InLeft l r
  last : ∀ q ∈ l, InLeft l q → ¬ BhP q r
theorem eq_ah {q r s : Rk} (h : EqP r s) : AhP q r ↔ AhP q s := by
  obtain ⟨h1, h2, h3⟩ := h; unfold AhP; rw [h1, h2, h3]
theorem top_eq {l : List Rk} {T q : Rk} (hT : T ∈ l) (h : ∀ x ∈ l, ¬ AhP x T) (hq : q ∈ l) (h2 : ∀ x ∈ l, ¬ AhP x q) : EqP q T := by
  have a := h q hq
  have b := h2 T hT
  unfold AhP at a b
  unfold EqP
  omega
theorem left_iff {l : List Rk} {T : Rk} (hT : T ∈ l) (h : ∀ x ∈ l, ¬ AhP x T) (r : Rk) (hr : r ∈ l) : leftB T (leastL T l) r = true ↔ InLeft l r := by
  obtain ⟨s1, s2⟩ := least_spec T l l.length (Nat.le_refl _)
  rw [List.take_length] at s1 s2
  unfold leftB
  rw [Bool.and_eq_true, decide_eq_true_eq, ahead_zero, beq_iff_eq]
  constructor
  · rintro ⟨hE, hm⟩
    refine ⟨fun q hq => by rw [eq_ah hE]; exact h q hq, fun q hq hqE hf => ?_⟩
    have hqT : EqP q T := ⟨hqE.1.trans hE.1, hqE.2.1.trans hE.2.1, hqE.2.2.trans hE.2.2⟩
    obtain ⟨m, g1, g2⟩ := s1 q hq hqT
    rw [hf] at g1
    rw [hm, g1]
    exact g2
  · rintro ⟨h1, h2⟩
    have hE := top_eq hT h hr h1
    refine ⟨hE, ?_⟩
    obtain ⟨m, g1, g2⟩ := s1 r hr hE
    obtain ⟨q, hq, qE, qf, qm⟩ := s2 _ _ g1
    have := h2 q hq ⟨qE.1.trans hE.1.symm, qE.2.1.trans hE.2.1.symm, qE.2.2.trans hE.2.2.symm⟩ qf
    rw [g1]
    show r.med = m
    omega
theorem top_spec (r0 : Rk) (rs : List Rk) : minBy aheadI r0 rs ∈ r0 :: rs ∧ ∀ x ∈ r0 :: rs, ¬ AhP x (minBy aheadI r0 rs) := by
  obtain ⟨h1, h2⟩ := minBy_spec aheadI ah_irr ah_tr rs r0
  exact ⟨h1, fun x hx => by rw [← ahead_neg]; exact h2 x hx⟩
theorem left_ne (r0 : Rk) (rs : List Rk) : leftL (minBy aheadI r0 rs) (leastL (minBy aheadI r0 rs) (r0 :: rs)) (r0 :: rs) ≠ [] := by
  obtain ⟨h1, h2⟩ := top_spec r0 rs
  obtain ⟨s1, s2⟩ := least_spec (minBy aheadI r0 rs) (r0 :: rs) (r0 :: rs).length (Nat.le_refl _)
  rw [List.take_length] at s1 s2
  obtain ⟨m, g1, g2⟩ := s1 _ h1 ⟨rfl, rfl, rfl⟩
  obtain ⟨q, hq, qE, qf, qm⟩ := s2 _ _ g1
  intro he
  have hin : q ∈ leftL (minBy aheadI r0 rs) (leastL (minBy aheadI r0 rs) (r0 :: rs)) (r0 :: rs) := by
    unfold leftL
    rw [List.mem_filter]
    refine ⟨hq, ?_⟩
    unfold leftB
    rw [Bool.and_eq_true, decide_eq_true_eq, ahead_zero, beq_iff_eq]
    refine ⟨qE, ?_⟩
    rw [qf, g1]; exact qm
  rw [he] at hin
  simp at hin
theorem best_spec (r0 : Rk) (rs : List Rk) : IsBest (r0 :: rs) (bestR r0 rs) := by
  obtain ⟨h1, h2⟩ := top_spec r0 rs
  have hne := left_ne r0 rs
  have hin : ∀ q, q ∈ leftL (minBy aheadI r0 rs) (leastL (minBy aheadI r0 rs) (r0 :: rs)) (r0 :: rs) ↔ q ∈ r0 :: rs ∧ InLeft (r0 :: rs) q := fun q => by
    unfold leftL
    rw [List.mem_filter]
    constructor
    · rintro ⟨a, b⟩; exact ⟨a, (left_iff h1 h2 q a).1 b⟩
    · rintro ⟨a, b⟩; exact ⟨a, (left_iff h1 h2 q a).2 b⟩
  unfold bestR
  cases hL : leftL (minBy aheadI r0 rs) (leastL (minBy aheadI r0 rs) (r0 :: rs)) (r0 :: rs) with
  | nil => exact absurd hL hne
  | cons x xs =>
    rw [hL] at hin
    simp only
    obtain ⟨b1, b2⟩ := minBy_spec behindI bh_irr bh_tr xs x
    obtain ⟨c1, c2⟩ := (hin _).1 b1
    exact ⟨c1, c2, fun q hq hl => by rw [← behind_neg]; exact b2 q ((hin q).2 ⟨hq, hl⟩)⟩
end Go.Proofs.YtkoidahgbbabiaaGreat

/-
  CHOOSE: Best; a route of so many hops.
-/
namespace Go.Proofs.YtkoidahgbbabiaaGreat
open Go.RowKit

def bestI (xs : List Cd) : Int := match rksOf xs with | [] => -1 | r :: rs => (bestR r rs).place
theorem path_first {w : World} {v : Value} {p : List Sg} (h : PathAt w v p) : I64r (firstN p) := by
  cases p with
  | nil => exact ⟨by decide, by decide⟩
  | cons s p =>
    obtain ⟨sa, cap, _, _, _, hV⟩ := h
    obtain ⟨b, off, _, hP⟩ := hV (by simp)
    obtain ⟨cs, _, ⟨u, _, sb, cb, _, _, _, hL⟩, _⟩ := hP 0 s rfl
    obtain ⟨set, ss⟩ := s
    cases set
    · cases ss with
      | nil => exact ⟨by simp [firstN], by simp [firstN]⟩
      | cons x ss =>
        obtain ⟨b', off', _, hQ⟩ := hL (by simp)
        obtain ⟨cs, _, ⟨_, hx⟩, _⟩ := hQ 0 x rfl
        exact hx
    · exact ⟨by simp [firstN], by simp [firstN]⟩
theorem cds_first {w : World} {v : Value} {xs : List Cd} (h : CdsAt w v xs) : ∀ c ∈ xs, I64r (firstN c.a.path) := by
  intro c hc
  obtain ⟨i, hi⟩ := List.getElem?_of_mem hc
  obtain ⟨sa, cap, _, _, _, hV⟩ := h
  obtain ⟨b, off, _, hP⟩ := hV (by have := (List.getElem?_eq_some_iff.1 hi).1; omega)
  obtain ⟨cs, _, ⟨vp, vc, vo, _, _, hA⟩, _⟩ := hP i c hi
  exact path_first hA.1
theorem rksOf_get {xs : List Cd} {i : Nat} {c : Cd} (h : xs[i]? = some c) : (rksOf xs)[i]? = some (rkOf i c) := by
  unfold rksOf
  rw [List.getElem?_mapIdx, h]; rfl
theorem rksOf_mem {xs : List Cd} {r : Rk} : r ∈ rksOf xs ↔ ∃ (i : Nat) (c : Cd), xs[i]? = some c ∧ r = rkOf i c := by
  constructor
  · intro h
    obtain ⟨i, hi⟩ := List.getElem?_of_mem h
    unfold rksOf at hi
    rw [List.getElem?_mapIdx] at hi
    cases hx : xs[i]? with
    | none => rw [hx] at hi; simp at hi
    | some c => rw [hx] at hi; simp at hi; exact ⟨i, c, hx, hi.symm⟩
  · rintro ⟨i, c, h, rfl⟩
    exact List.mem_of_getElem? (rksOf_get h)
/-- the best one, by definition. -/
theorem bestI_spec {xs : List Cd} (h : xs ≠ []) : ∃ (i : Nat) (c : Cd), xs[i]? = some c ∧ bestI xs = i ∧ IsBest (rksOf xs) (rkOf i c) := by
  unfold bestI
  cases hr : rksOf xs with
  | nil =>
    exfalso
    have := rksOf_len xs
    rw [hr] at this
    exact h (List.length_eq_zero_iff.1 this.symm)
  | cons r rs =>
    have hb := best_spec r rs
    have hm := hb.mem
    rw [← hr] at hm
    obtain ⟨i, c, hi, e⟩ := rksOf_mem.1 hm
    exact ⟨i, c, hi, by simp only [e]; rfl, e ▸ hb⟩
@[go_sem ↓] theorem field_place (r : Rk) (w : World) : (Instr.field 200 (.agg (rkA r)) 0).run Tryz.prog w = .ok (.int .i64 r.place) w := by kernel_rfl
set_option maxHeartbeats 1600000 in
set_option maxRecDepth 100000 in
theorem ch_Best (v : Value) (xs : List Cd) (w : World) (h : CdsAt w v xs) (hn : xs.length ≤ 100000) (hh : ∀ c ∈ xs, hopsN c.a.path ≤ 4611686018427387904) : Calls Tryz.prog 101 #[v] w fun e w' => e = .returned (.int .i64 (bestI xs)) ∧ Below w.heap.size w w' := by
  have RK := Lib.hid (ch_ranks v xs w h hn hh)
  have FI := Lib.hid (cds_first h)
  obtain ⟨sa, cap, rfl, hlc, hcm, _⟩ := h
  unfold maxLen at hcm
  cases xs with
  | nil =>
    go_enter Tryz.func101, Tryz.ntmps101
    go_wp2_with fail
    go_ret
    exact ⟨rfl, Below.refl _ _⟩
  | cons c xs =>
    have n0 : (((c :: xs).length : Nat) : Int) = 0 ↔ False := by simp; omega
    obtain ⟨r, rs, hr⟩ : ∃ r rs, rksOf (c :: xs) = r :: rs := by
      cases hq : rksOf (c :: xs) with
      | nil => have := rksOf_len (c :: xs); rw [hq] at this; simp at this
      | cons r rs => exact ⟨r, rs, rfl⟩
    have hlr : (r :: rs).length = (c :: xs).length := by rw [← hr]; exact rksOf_len _
    have E : Hid (bestI (c :: xs) = (bestR r rs).place) := Lib.hid (by unfold bestI; rw [hr])
    have HF : Hid (∀ q ∈ r :: rs, I64r q.first) := Lib.hid (fun q hq => by
      rw [← hr] at hq
      obtain ⟨i, d, hi, rfl⟩ := rksOf_mem.1 hq
      exact FI.out d (List.mem_of_getElem? hi))
    have hlr' : rs.length ≤ 100000 := by simp only [List.length_cons] at hlr hn; omega
    have RB := Lib.hid (fun v W h => ch_best v r rs W h hlr' HF.out (left_ne r rs))
    rw [hr] at RK
    have HL := Lib.hid hlr
    generalize (c :: xs).length = m at *
    have hm : 0 < m := by rw [← HL.out]; simp
    have n0 : ((m : Int) == 0) = false := by rw [beq_eq_false_iff_ne]; omega
    have hm2 : m ≤ maxLen := by unfold maxLen; omega
    clear hlr hr FI hlr'
    go_enter Tryz.func101, Tryz.ntmps101
    go_wp2_with fail
    refine RK.out.mono ?_
    rintro e w1 ⟨g, rfl, R1, hg, hb1⟩
    have A1 := Lib.hid (R1.at_ HL.out hm2)
    clear R1
    go_wp2_with fail
    refine (RB.out _ _ A1.out).mono ?_
    rintro e w2 ⟨rfl, hb2⟩
    have B2 := Lib.hid (below_on hb1 hb2)
    clear hb1 hb2 A1
    generalize bestR r rs = R at E
    go_wp2_with fail
    go_ret
    exact ⟨ret_int E.out.symm, B2.out⟩
structure Ce where
  c : Cd
  vp : Value
  vc : Value
  vo : Value
def Ce.Ok (w : World) (x : Ce) : Prop := x.c.Rng ∧ AtL w x.c.a x.vp x.vc x.vo
theorem Ce.Ok.below {w w' : World} {x : Ce} (h : x.Ok w) (hb : Below w.heap.size w w') : x.Ok w' := ⟨h.1, h.2.below hb⟩
end Go.Proofs.YtkoidahgbbabiaaGreat

/-
  slices.Index, slices.Contains over integers: where the first one is; whether one is there.
-/
namespace Go.Proofs.YtkoidahgbbabiaaGreat
open Go.RowKit

def idxI (t : Int) : List Int → Nat → Int
  | [], _ => -1
  | r :: rs, k => if t = r then (k : Int) else idxI t rs (k + 1)
theorem idxI_step {t : Int} {rs : List Int} {k : Nat} {r : Int} (h : rs[k]? = some r) : idxI t (rs.drop k) k = if t = r then (k : Int) else idxI t (rs.drop (k + 1)) (k + 1) := by
  obtain ⟨h1, h2⟩ := List.getElem?_eq_some_iff.1 h
  rw [List.drop_eq_getElem_cons h1, h2]; rfl
theorem idxI_has (t : Int) : ∀ (rs : List Int) (k : Nat), decide (idxI t rs k ≥ 0) = rs.contains t
  | [], k => by simp [idxI]
  | r :: rs, k => by
    have ih := idxI_has t rs (k + 1)
    unfold idxI
    rw [List.contains_cons]
    by_cases h : t = r
    · subst h; simp
    · rw [if_neg h, ih]
      simp [h]
set_option maxHeartbeats 1600000 in
theorem sl_Index (v : Value) (xs : List Int) (t : Int) (w : World) (h : IntsAt w v xs) : Calls Tryz.prog 168 #[v, .int .i64 t] w fun e w' => e = .returned (.int .i64 (idxI t xs 0)) ∧ w = w' := by
  obtain ⟨sa, cap, rfl, hlc, hcm, hV⟩ := h
  have HV := Lib.hid hV
  unfold maxLen at hcm
  clear hV
  go_enter Tryz.func168, Tryz.ntmps168
  go_wp2_with fail
  go_loopw [8] (fun i wr => ∃ k : Nat, k ≤ xs.length ∧ i = .int .i64 k ∧ Hid (idxI t xs 0 = idxI t (xs.drop k) k) ∧ wr = w) (fun i _ => xs.length - (intOf i).toNat)
  case atStart => exact ⟨0, by omega, rfl, Lib.hid rfl, rfl⟩
  case round =>
    obtain ⟨k, hk, rfl, E, rfl⟩ := hrel
    by_cases hlt : k < xs.length
    · obtain ⟨r, hr⟩ : ∃ r, xs[k]? = some r := ⟨_, List.getElem?_eq_getElem hlt⟩
      obtain ⟨b, off, hsa, hP⟩ := HV.out (by omega)
      subst hsa
      obtain ⟨cs, _, ⟨rfl, _⟩, hc⟩ := hP k r hr
      have x0 := hc 0 _ rfl
      simp only [Nat.add_zero, Nat.mul_one] at x0
      have E2 : Hid (idxI t xs 0 = if t = r then (k : Int) else idxI t (xs.drop (k + 1)) (k + 1)) := Lib.hid (by rw [E.out, idxI_step hr])
      have j0 : (0 : Int) ≤ (k : Int) := by omega
      have j1 : (k : Int) < (xs.length : Int) := by omega
      clear hP hc hr E
      by_cases hp : t = r
      · have E3 : Hid (idxI t xs 0 = (k : Int)) := Lib.hid (by rw [E2.out, if_pos hp])
        have hb : (t == r) = true := by simpa using hp
        clear E2 hp
        go_wp2_with fail
        go_ret
        exact ⟨ret_int E3.out.symm, rfl⟩
      · have E3 : Hid (idxI t xs 0 = idxI t (xs.drop (k + 1)) (k + 1)) := Lib.hid (by rw [E2.out, if_neg hp])
        have hb : (t == r) = false := by simpa using hp
        clear E2 hp
        go_wp2_with fail
        exact ⟨⟨k + 1, by omega, by go_num, E3, trivial⟩, by simp [intOf]; omega⟩
    · obtain rfl : k = xs.length := by omega
      have E3 : Hid (idxI t xs 0 = -1) := Lib.hid (by rw [E.out, List.drop_length]; rfl)
      clear E
      go_wp2_with fail
      go_ret
      exact ⟨ret_int E3.out.symm, rfl⟩
theorem sl_Contains (v : Value) (xs : List Int) (t : Int) (w : World) (h : IntsAt w v xs) : Calls Tryz.prog 125 #[v, .int .i64 t] w fun e w' => e = .returned (.bool (xs.contains t)) ∧ w = w' := by
  have RI := Lib.hid (sl_Index v xs t w h)
  have EQ := Lib.hid (idxI_has t xs 0)
  generalize idxI t xs 0 = n at RI EQ
  clear h
  go_enter Tryz.func125, Tryz.ntmps125
  go_wp2_with fail
  refine RI.out.mono ?_
  rintro e w1 ⟨rfl, rfl⟩
  go_wp2_with fail
  go_ret
  exact ⟨ret_bool EQ.out, rfl⟩
end Go.Proofs.YtkoidahgbbabiaaGreat
