/-
  RANGE OVER A MAP THAT IS A LIST OF PAIRS: which pairs are still to come; deletes on the way.
-/
import Derived.Test.YtcoclbcjbpjblaaDoorMapT
namespace Go.Proofs.YtcoclbcjbpjblaaDoor
open Go.RowKit Go.Maps Go.ChangeMaps Go.MapKept

section
variable {κ υ : Type}
/-- block r goes through the map of block b; 'left': what is still to come. -/
def RangeT (ek : κ → Value) (ev : υ → Value) (ok : κ → Prop) (W : World) (b r : Nat) (l left : List (κ × υ)) : Prop :=
  ∃ es clock since seen c0, W.heap[b]? = some (.map es clock) ∧ Stamped es clock ∧ es.size ≤ maxLen ∧ es.toList.map (fun e => (e.key, e.val)) = l.map (fun p => (ek p.1, ev p.2)) ∧ (∀ p ∈ l, ok p.1) ∧
    W.heap[r]? = some (.mapIter (some b) since seen c0) ∧ (∀ x ∈ es.toList, x.born < since) ∧ since ≤ c0 ∧ since ≤ clock ∧ (∀ p ∈ left, p ∈ l) ∧
    (es.toList.filter (fun e => !seen.contains e.born)).map (fun e => (e.key, e.val)) = left.map (fun p => (ek p.1, ev p.2))
variable {P : Program} {kt et t : TypeId} {ek : κ → Value} {ev : υ → Value} {ok : κ → Prop} {W W' : World} {b r : Nat} {l left : List (κ × υ)}
theorem RangeT.map (h : RangeT ek ev ok W b r l left) : MapT ek ev ok W b l := by
  obtain ⟨es, c, _, _, _, h1, h2, h3, h4, h5, _⟩ := h
  exact ⟨es, c, h1, h2, h3, h4, h5⟩
theorem RangeT.lt (h : RangeT ek ev ok W b r l left) : r < W.heap.size := by
  obtain ⟨es, c, _, _, _, _, _, _, _, _, hr, _⟩ := h
  exact (Array.getElem?_eq_some_iff.1 hr).1
theorem RangeT.ne (h : RangeT ek ev ok W b r l left) : r ≠ b := by
  obtain ⟨es, c, _, _, _, hb, _, _, _, _, hr, _⟩ := h
  intro e; rw [e, hb] at hr; cases hr
theorem RangeT.of_block (h : RangeT ek ev ok W b r l left) (hb : W'.heap[b]? = W.heap[b]?) (hr : W'.heap[r]? = W.heap[r]?) : RangeT ek ev ok W' b r l left := by
  obtain ⟨es, c, s, sn, c0, h1, h2, h3, h4, h5, h6, hh⟩ := h
  exact ⟨es, c, s, sn, c0, hb.trans h1, h2, h3, h4, h5, hr.trans h6, hh⟩
theorem RangeT.below (h : RangeT ek ev ok W b r l left) (hb : Below W.heap.size W W') : RangeT ek ev ok W' b r l left := h.of_block (hb.block b h.map.lt) (hb.block r h.lt)
theorem RangeT.kept {F : Nat → Prop} (h : RangeT ek ev ok W b r l left) (hk : Kept F W W') (hb : ¬ F b) (hr : ¬ F r) : RangeT ek ev ok W' b r l left := h.of_block (hk.block b h.map.lt hb) (hk.block r h.lt hr)
theorem leftOf_list (es : Array MapEntry) (seen : Array Nat) : (leftOf es seen).toList = es.toList.filter (fun e => !seen.contains e.born) := by
  unfold leftOf; simp
theorem RangeT.left_eq (h : RangeT ek ev ok W b r l left) : W.rangeLeft b r = left.length := by
  obtain ⟨es, c, s, sn, c0, h1, h2, h3, h4, h5, h6, _, _, _, _, hl⟩ := h
  simp only [World.rangeLeft, h1, h6]
  have := congrArg List.length hl
  simp only [List.length_map, ← leftOf_list, Array.length_toList] at this
  exact this
/-- 'range m'. -/
theorem MapT.range (h : MapT ek ev ok W b l) (ht : P.underlying t = some (.map kt et)) :
    ∃ W', (Instr.range t (.map (some b))).run P W = .ok (.pointer (some ⟨W.heap.size, 0, none⟩)) W' ∧ RangeT ek ev ok W' b W.heap.size l l ∧ Below W.heap.size W W' ∧ W'.heap.size = W.heap.size + 1 := by
  have hlt := h.lt
  obtain ⟨es, c, hb, hst, hs, hl, hok⟩ := h
  refine ⟨_, run_range_map W t kt et b es c ht hb, ⟨es, c, c, #[], c, ((MapKept.heap_alloc W _).2 b hlt).trans hb, hst, hs, hl, hok, (MapKept.heap_alloc W _).1, hst.1, Nat.le_refl _, Nat.le_refl _, fun _ h => h, ?_⟩, (Below.refl _ _).alloc (Nat.le_refl _) _, by simp⟩
  rw [List.filter_eq_self.2 (by simp)]
  exact hl
/-- the step. -/
theorem RangeT.next (h : RangeT ek ev ok W b r l left) (ty : TypeId) :
    (left = [] ∧ (Instr.next (.pointer (some ⟨r, 0, none⟩)) false ty).run P W = .ok (.tuple #[.bool false]) W) ∨
    ∃ i p W', left[i]? = some p ∧ p ∈ l ∧ (Instr.next (.pointer (some ⟨r, 0, none⟩)) false ty).run P W = .ok (.tuple #[.bool true, ek p.1, ev p.2]) W' ∧
      RangeT ek ev ok W' b r l (left.eraseIdx i) ∧ Kept (fun k => k = r) W W' ∧ W'.heap.size = W.heap.size ∧ (Instr.entry (.pointer (some ⟨r, 0, none⟩))).run P W' = .ok (.tuple #[ek p.1, ev p.2]) W' := by
  have hne := h.ne
  obtain ⟨es, clock, since, seen, c0, hb, hst, hs, hl, hok, hr, hold, hsc, hsk, hlm, hlf⟩ := h
  rcases run_next_at (P := P) W ty r b since c0 seen es clock hr hb hold hsc with ⟨h0, hrun⟩ | ⟨e, he, w1, hal, hrun⟩
  · refine .inl ⟨?_, hrun⟩
    have h1 : (leftOf es seen).toList.length = 0 := by simpa using h0
    have h2 := congrArg List.length hlf
    rw [← leftOf_list, List.length_map, List.length_map, h1] at h2
    exact List.length_eq_zero_iff.1 h2.symm
  · obtain ⟨hem, hes⟩ := mem_left he
    rw [leftOf_list] at he
    obtain ⟨i, hi⟩ := List.getElem?_of_mem he
    have hmi : (left.map (fun p => (ek p.1, ev p.2)))[i]? = some (e.key, e.val) := by rw [← hlf, List.getElem?_map, hi]; rfl
    rw [List.getElem?_map] at hmi
    cases hli : left[i]? with
    | none => rw [hli] at hmi; cases hmi
    | some p =>
      rw [hli] at hmi
      simp at hmi
      have hr1 : w1.heap[r]? = some (.mapIter (some b) since seen c0) := by rcases hal with rfl | rfl <;> exact hr
      have hb1 : w1.heap[b]? = some (.map es clock) := by rcases hal with rfl | rfl <;> exact hb
      have hset := heap_set (o' := .mapIter (some b) since (seen.push e.born) clock) hr1
      have hb' : (setBlock w1 r (.mapIter (some b) since (seen.push e.born) clock)).heap[b]? = some (.map es clock) := (hset.2 b (fun e1 => hne e1.symm)).trans hb1
      have hborn := ((stamped_iff es clock).1 hst).2.1
      have hrun2 := run_entry_at (P := P) _ r b since seen es clock e hset.1 hb' hem hborn
      rw [← hmi.1, ← hmi.2] at hrun hrun2
      refine .inr ⟨i, p, _, hli, hlm p (List.mem_of_getElem? hli), hrun, ⟨es, clock, since, seen.push e.born, clock, hb', hst, hs, hl, hok, hset.1, hold, hsk, hsk, fun q hq => hlm q ((List.eraseIdx_sublist _ _).subset hq), ?_⟩, ?_, ?_, hrun2⟩
      · rw [map_eraseIdx, ← hlf, ← map_eraseIdx]
        congr 1
        have hap : (es.toList.filter fun x => !seen.contains x.born).Pairwise fun x y => ¬ ((x.born == e.born) = true ∧ (y.born == e.born) = true) := by
          have h1 : es.toList.Pairwise fun x y => x.born ≠ y.born := by
            have := hborn; unfold List.Nodup at this; rwa [List.pairwise_map] at this
          exact (h1.filter _).imp fun {x y} hne ⟨e1, e2⟩ => hne ((beq_iff_eq.1 e1).trans (beq_iff_eq.1 e2).symm)
        rw [← filter_eq_eraseIdx (fun x : MapEntry => x.born == e.born) _ i e hi (by simp) hap, List.filter_filter]
        congr 1
        funext x
        rw [contains_push]
        cases seen.contains x.born <;> cases (x.born == e.born) <;> rfl
      · rcases hal with rfl | rfl <;> exact ⟨rfl, rfl, rfl, by simp [setBlock], fun k hk hf => hset.2 k hf⟩
      · rcases hal with rfl | rfl <;> simp [setBlock]
theorem filter_alike {α β γ : Type} (f : α → γ) (g : β → γ) (q : α → Bool) (q' : β → Bool) : ∀ (L : List α) (M : List β), L.map f = M.map g → (∀ x ∈ L, ∀ p ∈ M, f x = g p → q x = q' p) → (L.filter q).map f = (M.filter q').map g
  | [], [], _, _ => rfl
  | [], _ :: _, h, _ => by simp at h
  | _ :: _, [], h, _ => by simp at h
  | x :: L, p :: M, h, hq => by
    simp only [List.map_cons, List.cons.injEq] at h
    have ih := filter_alike f g q q' L M h.2 fun x hx p hp => hq x (List.mem_cons_of_mem _ hx) p (List.mem_cons_of_mem _ hp)
    have e := hq x (by simp) p (by simp) h.1
    simp only [List.filter_cons]
    rw [e]
    cases q' p
    · simpa using ih
    · simpa [h.1] using ih
/-- a delete on the way. -/
theorem RangeT.drop [DecidableEq κ] (E : KeyEnc P kt ek ok) (h : RangeT ek ev ok W b r l left) (ht : P.underlying t = some (.map kt et)) (a : κ) (ha : ok a) :
    ∃ W', (∀ ty, (Builtin.delete_ #[t, kt] ty #[.map (some b), ek a]).run P W = .ok (.tuple #[]) W') ∧ RangeT ek ev ok W' b r (delL l a) (delL left a) ∧ Kept (fun k => k = b) W W' ∧ W'.heap.size = W.heap.size := by
  have hne := h.ne
  have hd := h.map.apart
  obtain ⟨es, clock, since, seen, c0, hb, hst, hs, hl, hok, hr, hold, hsc, hsk, hlm, hlf⟩ := h
  obtain ⟨x, hx⟩ := E.lit a ha
  have hpok : ∀ p ∈ delL l a, ok p.1 := fun p hp => hok p (mem_del.1 hp).1
  have hlm' : ∀ p ∈ delL left a, p ∈ delL l a := fun p hp => mem_del.2 ⟨hlm p (mem_del.1 hp).1, (mem_del.1 hp).2⟩
  rcases find_at E hl hok hd a ha W with ⟨h1, h2, h3⟩ | ⟨v0, j, e, h1, h2, h3, h4, h5, h6⟩
  · have el : delL l a = l := by
      unfold delL; rw [List.filter_eq_self]; intro p hp
      simpa using getL_none.1 h1 p hp
    have el2 : delL left a = left := by
      unfold delL; rw [List.filter_eq_self]; intro p hp
      simpa using getL_none.1 h1 p (hlm p hp)
    refine ⟨setBlock W b (.map es clock), ?_, ⟨es, clock, since, seen, c0, heap_setBlock_same hb _, hst, hs, by rw [el]; exact hl, hpok, (heap_setBlock_other hb _ hne).trans hr, hold, hsc, hsk, hlm', by rw [el2]; exact hlf⟩, Kept.setBlock _ rfl, by simp [setBlock]⟩
    intro ty; simp [Builtin.delete_, run_underlying ht, MapKept.run_getObj_map hb, E.K.check W _ hx, h2, MapKept.run_setObj_map _ hb, Result.andThen, setBlock]
  · have hjl : j < es.toList.length := (List.getElem?_eq_some_iff.1 h3).1
    have hjs : j < es.size := by simpa using hjl
    have hem : e ∈ es.toList := List.mem_of_getElem? h3
    have hsub : (es.eraseIdxIfInBounds j).toList = es.toList.eraseIdx j := by
      unfold Array.eraseIdxIfInBounds
      rw [dif_pos hjs]
      simp
    have hborn := ((stamped_iff es clock).1 hst).2.1
    have hkeys := ((stamped_iff es clock).1 hst).2.2
    have hfe : es.toList.eraseIdx j = es.toList.filter (fun x => !(x.born == e.born)) := by
      refine (filter_eq_eraseIdx (fun x : MapEntry => x.born == e.born) _ j e h3 (by simp) ?_).symm
      have h1 : es.toList.Pairwise fun x y => x.born ≠ y.born := by
        have := hborn; unfold List.Nodup at this; rwa [List.pairwise_map] at this
      exact h1.imp fun {x y} hne ⟨e1, e2⟩ => hne ((beq_iff_eq.1 e1).trans (beq_iff_eq.1 e2).symm)
    have hq : ∀ x ∈ es.toList, ∀ p : κ × υ, (x.key, x.val) = (ek p.1, ev p.2) → (!(x.born == e.born)) = !decide (p.1 = a) := by
      intro x hx p hxp
      simp at hxp
      by_cases hpa : p.1 = a
      · have hk : x.key = e.key := by rw [hxp.1, hpa, h4]
        have : x = e := entry_eq_of_key hkeys hx hem hk
        simp [this, hpa]
      · have : x.born ≠ e.born := fun hbe => hpa (E.inj _ _ (by rw [← hxp.1, born_inj hborn hx hem hbe, h4]))
        simp [this, hpa]
    refine ⟨setBlock W b (.map (es.eraseIdxIfInBounds j) clock), ?_, ⟨_, clock, since, seen, c0, heap_setBlock_same hb _, stamped_erase hst j, Nat.le_trans (MapFrom.size_erase es j) hs, ?_, hpok, (heap_setBlock_other hb _ hne).trans hr, fun x hx => hold x ?_, hsc, hsk, hlm', ?_⟩, Kept.setBlock _ rfl, by simp [setBlock]⟩
    · intro ty; simp [Builtin.delete_, run_underlying ht, MapKept.run_getObj_map hb, E.K.check W _ hx, h2, MapKept.run_setObj_map _ hb, Result.andThen, setBlock]
    · rw [hsub, hfe]
      exact filter_alike _ _ _ _ _ _ hl fun x hx p _ => hq x hx p
    · rw [hsub] at hx; exact (List.eraseIdx_sublist _ _).subset hx
    · rw [hsub, hfe, List.filter_filter]
      have : (fun x : MapEntry => !seen.contains x.born && !(x.born == e.born)) = fun x => !(x.born == e.born) && !seen.contains x.born := by funext x; rw [Bool.and_comm]
      rw [this, ← List.filter_filter]
      exact filter_alike _ _ _ _ _ _ hlf fun x hx p _ => hq x (List.mem_filter.1 hx).1 p
theorem RangeT.ne_map {κ' υ' : Type} {ek' : κ' → Value} {ev' : υ' → Value} {ok' : κ' → Prop} {l' : List (κ' × υ')} {a : Nat} (h : RangeT ek ev ok W b r l left) (h' : MapT ek' ev' ok' W a l') : r ≠ a := by
  obtain ⟨es, c, _, _, _, _, _, _, _, _, hr, _⟩ := h
  obtain ⟨es', c', h1, _⟩ := h'
  rintro rfl; rw [h1] at hr; cases hr
/-- two runs of one delete. -/
theorem RangeT.drop' [DecidableEq κ] (E : KeyEnc P kt ek ok) (h : RangeT ek ev ok W b r l left) (ht : P.underlying t = some (.map kt et)) (a : κ) (ha : ok a) {W' : World} (hrun : ∀ ty, (Builtin.delete_ #[t, kt] ty #[.map (some b), ek a]).run P W = .ok (.tuple #[]) W') :
    RangeT ek ev ok W' b r (delL l a) (delL left a) := by
  obtain ⟨W1, h1, h2, _⟩ := h.drop E ht a ha
  have := (h1 0).symm.trans (hrun 0)
  injection this with _ e
  rw [← e]; exact h2
end
end Go.Proofs.YtcoclbcjbpjblaaDoor
