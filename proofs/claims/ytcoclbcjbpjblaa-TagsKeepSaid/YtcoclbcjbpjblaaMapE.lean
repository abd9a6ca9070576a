/-
  m[k]++ ON A MAP THAT IS A LIST OF PAIRS: the entry is laid first, its element is stored by its stamp.
-/
import Derived.Test.YtcoclbcjbpjblaaMapR
namespace Go.Proofs.Ytcoclbcjbpjblaa
open Go.RowKit Go.Maps Go.ChangeMaps Go.MapKept
section
variable {κ υ : Type} [DecidableEq κ] {P : Program} {kt et t : TypeId} {ek : κ → Value} {ev : υ → Value} {ok : κ → Prop} {W W' : World} {b : Nat} {l : List (κ × υ)}
/-- the entry of this stamp is the key's. -/
def StampAt (ek : κ → Value) (W : World) (b : Nat) (a : κ) (s : Nat) : Prop := ∃ es clock, W.heap[b]? = some (.map es clock) ∧ ∃ e ∈ es.toList, e.born = s ∧ e.key = ek a
theorem putL_twice (l : List (κ × υ)) (a : κ) (v w : υ) : putL (putL l a v) a w = putL l a w := by
  have h : (getL (putL l a v) a).isSome = true := by rw [getL_put, if_pos rfl]; rfl
  unfold putL at h ⊢
  rw [if_pos h]
  split
  · rename_i h1
    rw [List.map_map]
    refine List.map_congr_left fun p _ => ?_
    simp only [Function.comp]
    by_cases hp : p.1 = a <;> simp [hp]
  · rename_i h1
    have hn : getL l a = none := by cases hg : getL l a with
      | none => rfl
      | some x => rw [hg] at h1; exact absurd rfl h1
    rw [List.map_append]
    congr 1
    · have : l.map (fun p => if p.1 = a then (a, w) else p) = l := by
        have e : ∀ p ∈ l, (fun p : κ × υ => if p.1 = a then (a, w) else p) p = id p := fun p hp => if_neg (getL_none.1 hn p hp)
        rw [List.map_congr_left e, List.map_id]
      exact this
    · simp
theorem putL_same {l : List (κ × υ)} {a : κ} {v : υ} (hd : KeysApart l) (h : getL l a = some v) : putL l a v = l := by
  unfold putL
  have e : ∀ p ∈ l, (fun p : κ × υ => if p.1 = a then (a, v) else p) p = id p := by
    intro p hp
    by_cases e : p.1 = a
    · have := getL_of_mem hd (a := p.1) (v := p.2) hp
      rw [e, h] at this
      injection this with this
      show (if p.1 = a then (a, v) else p) = p
      rw [if_pos e, this, ← e]
    · exact if_neg e
  rw [h, if_pos (by rfl : (some v).isSome = true), List.map_congr_left e, List.map_id]
/-- the entry. -/
theorem MapT.entry (E : KeyEnc P kt ek ok) (h : MapT ek ev ok W b l) (ht : P.underlying t = some (.map kt et)) (a : κ) (ha : ok a) (z : υ) (hz : ∀ w, (zeroValue et).run P w = .ok (ev z) w) (hroom : l.length < maxLen) (w : World) (hw : w.heap[b]? = W.heap[b]?) :
    ∃ (o : Obj) (s : Nat), (Instr.mapEntry t (.map (some b)) (ek a)).run P w = .ok (.tuple #[ev ((getL l a).getD z), goInt (s : Int)]) (setBlock w b o) ∧ MapT ek ev ok (setBlock w b o) b (putL l a ((getL l a).getD z)) ∧ StampAt ek (setBlock w b o) b a s := by
  have hd := h.apart
  obtain ⟨es, ck, hb, hst, hsz, hl, hok⟩ := h
  rw [← hw] at hb
  obtain ⟨x, hx⟩ := E.lit a ha
  have hlen := congrArg List.length hl
  simp at hlen
  rcases find_at E hl hok hd a ha w with ⟨h1, h2, h3⟩ | ⟨v0, j, e, h1, h2, h3, h4, h5, h6⟩
  · rw [h1]
    have hpok : ∀ p ∈ putL l a z, ok p.1 := by
      intro p hp
      rcases mem_put hp with ⟨hp, _⟩ | rfl
      · exact hok p hp
      · exact ha
    refine ⟨.map (es.push ⟨ek a, ev z, ck⟩) (ck + 1), ck, ?_, ⟨_, _, heap_setBlock_same hb _, stamped_push hst h3, by simp; omega, ?_, hpok⟩, ⟨_, _, heap_setBlock_same hb _, ⟨ek a, ev z, ck⟩, by simp, rfl, rfl⟩⟩
    · unfold Instr.mapEntry
      simp [run_underlying ht, MapKept.run_getObj_map hb, E.K.check w _ hx, h2, hz, MapKept.run_setObj_map _ hb, Result.andThen, setBlock]
    · unfold putL; rw [h1]; simp [hl]
  · rw [h1]
    have hj : es[j]? = some e := by simpa using h3
    have hsame : es.modify j (fun e' => { e' with key := ek a }) = es := by
      apply Array.toList_inj.1
      rw [Array.toList_modify, modify_eq_set _ _ _ _ h3]
      apply List.ext_getElem?
      intro i
      rw [List.getElem?_set]
      by_cases hij : j = i
      · subst hij
        have hlt := (List.getElem?_eq_some_iff.1 h3).1
        rw [if_pos rfl, if_pos hlt, h3]
        congr 1
        cases e
        simp at h4
        simp [h4]
      · rw [if_neg hij]
    refine ⟨.map es ck, e.born, ?_, ⟨_, _, heap_setBlock_same hb _, hst, hsz, ?_, ?_⟩, ⟨_, _, heap_setBlock_same hb _, e, List.mem_of_getElem? h3, rfl, h4⟩⟩
    · unfold Instr.mapEntry
      have hcl : ∀ q : Value, (Instr.keyThatStays q q).run P w = .ok q w → True := fun _ _ => trivial
      simp [run_underlying ht, MapKept.run_getObj_map hb, E.K.check w _ hx, h2, hj, h4, E.K.stays w hx, MapKept.run_setObj_map _ hb, Result.andThen, setBlock, hsame, h5]
    · show _ = (putL l a v0).map _
      rw [putL_same hd h1]; exact hl
    · intro p hp
      have : p ∈ putL l a v0 := hp
      rw [putL_same hd h1] at this
      exact hok p this
/-- its element, by the stamp. -/
theorem MapT.entryStore (h : MapT ek ev ok W b l) (inj : ∀ a b, ek a = ek b → a = b) (a : κ) (s : Nat) (hs : StampAt ek W b a s) (v : υ) (w : World) (hw : w.heap[b]? = W.heap[b]?) :
    ∃ o, (Instr.entryStore t (.map (some b)) (goInt s) (ev v)).run P w = .ok () (setBlock w b o) ∧ MapT ek ev ok (setBlock w b o) b (putL l a v) := by
  have hd := h.apart
  obtain ⟨es, ck, hb, hst, hsz, hl, hok⟩ := h
  obtain ⟨es', ck', hb', e, he, hes, hek⟩ := hs
  rw [hb] at hb'
  injection hb' with hb'
  injection hb' with e1 e2
  subst e1; subst e2
  rw [← hw] at hb
  obtain ⟨j, hj⟩ := List.getElem?_of_mem he
  have hja : es[j]? = some e := by simpa using hj
  have hborn := ((stamped_iff es ck).1 hst).2.1
  have hlj : ∃ v0, l[j]? = some (a, v0) := by
    have hq : (es.toList.map (fun e => (e.key, e.val)))[j]? = some (e.key, e.val) := by rw [List.getElem?_map, hj]; rfl
    rw [hl, List.getElem?_map] at hq
    cases hp : l[j]? with
    | none => rw [hp] at hq; cases hq
    | some p =>
      rw [hp] at hq; simp at hq
      have := inj _ _ (hq.1.trans hek)
      exact ⟨p.2, by rw [← this]⟩
  obtain ⟨v0, hv0⟩ := hlj
  have hga : getL l a = some v0 := getL_of_mem hd (List.mem_of_getElem? hv0)
  have hfind : es.findIdx? (fun x => (x.born : Int) == (s : Int)) = some j := by
    have hjl : j < es.size := (Array.getElem?_eq_some_iff.1 hja).1
    have hje : es[j] = e := (Array.getElem?_eq_some_iff.1 hja).2
    rw [Array.findIdx?_eq_some_iff_getElem]
    refine ⟨hjl, by rw [hje, hes]; simp, fun i hi => ?_⟩
    have hil : i < es.size := by omega
    intro hc
    have hbi0 : ((es[i]'hil).born : Int) = (s : Int) := by simpa using hc
    have hbi : (es[i]'hil).born = s := Int.ofNat_inj.mp hbi0
    have hpw := List.pairwise_iff_getElem.1 hborn i j (by simpa using hil) (by simpa using hjl) hi
    simp only [List.getElem_map, Array.getElem_toList] at hpw
    exact hpw (by rw [hbi, hje, hes])
  refine ⟨.map (es.modify j fun e' => { e' with val := ev v }) ck, ?_, ⟨_, _, heap_setBlock_same hb _, stamped_modify hst _ _ (fun _ _ => rfl) (fun _ _ _ => rfl), by simpa using hsz, ?_, ?_⟩⟩
  · have hai : (asInt (goInt (s : Int))).run P w = .ok (s : Int) w := rfl
    unfold Instr.entryStore
    simp [MapKept.run_getObj_map hb, hai, hfind, MapKept.run_setObj_map _ hb, Result.andThen, setBlock]
  · rw [Array.toList_modify, modify_eq_set _ _ _ _ hj, List.map_set, hl]
    unfold putL
    rw [hga, if_pos (by rfl : (some v0).isSome = true), List.map_map]
    apply List.ext_getElem?
    intro i
    rw [List.getElem?_set, List.getElem?_map, List.getElem?_map]
    by_cases hij : j = i
    · subst hij
      have hjl : j < l.length := (List.getElem?_eq_some_iff.1 hv0).1
      rw [if_pos rfl, hv0]
      simp [hjl, hek]
    · rw [if_neg hij]
      cases hi : l[i]? with
      | none => simp
      | some p =>
        have : p.1 ≠ a := by
          intro e1
          have hpw := List.pairwise_iff_getElem.1 hd
          obtain ⟨hjl, hje⟩ := List.getElem?_eq_some_iff.1 hv0
          obtain ⟨hil, hie⟩ := List.getElem?_eq_some_iff.1 hi
          rcases Nat.lt_or_gt_of_ne hij with hlt | hgt
          · exact hpw j i hjl hil hlt (by rw [hje, hie, e1])
          · exact hpw i j hil hjl hgt (by rw [hje, hie, e1])
        simp [this]
  · intro p hp
    rcases mem_put hp with ⟨hp, _⟩ | rfl
    · exact hok p hp
    · exact hok (a, v0) (List.mem_of_getElem? hv0)
end
/-! ### at the operation -/
section
variable {P : Program} {o : Oper} {a : Act} {w w' : World} {K : Act → World → Prop} {Q : Exit → Act → World → Prop}
theorem wp_look (t : TypeId) (x y : Operand) (c : Bool) (ho : o.op = .lookup t x y c) {b : Nat} {k v : Value} (hx : a.eval x = .map (some b)) (hy : a.eval y = k) (hr : (Instr.lookup t (.map (some b)) k c).run P w = .ok v w')
    (h : K (a.put o.dst v) w') : o.wp P a w K Q := by
  unfold Oper.wp execOp
  simp only [ho, hx, hy, Sem.run_bind, hr, Result.andThen_ok, Sem.run_pure]
  exact h
theorem wp_mapEntry (t : TypeId) (x y : Operand) (ho : o.op = .mapEntry t x y) {b : Nat} {k v : Value} (hx : a.eval x = .map (some b)) (hy : a.eval y = k) (hr : (Instr.mapEntry t (.map (some b)) k).run P w = .ok v w')
    (h : K (a.put o.dst v) w') : o.wp P a w K Q := by
  unfold Oper.wp execOp
  simp only [ho, hx, hy, Sem.run_bind, hr, Result.andThen_ok, Sem.run_pure]
  exact h
theorem wp_entryStore (t : TypeId) (x y z : Operand) (ho : o.op = .entryStore t x y z) {b : Nat} {k v : Value} (hx : a.eval x = .map (some b)) (hy : a.eval y = k) (hz : a.eval z = v) (hr : (Instr.entryStore t (.map (some b)) k v).run P w = .ok () w')
    (h : K (a.put o.dst undef) w') : o.wp P a w K Q := by
  unfold Oper.wp execOp
  simp only [ho, hx, hy, hz, Sem.run_bind, hr, Result.andThen_ok, Sem.run_pure]
  exact h
end
end Go.Proofs.Ytcoclbcjbpjblaa
