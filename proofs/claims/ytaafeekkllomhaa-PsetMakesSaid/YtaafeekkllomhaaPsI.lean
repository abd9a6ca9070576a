/-
  SETS OF PREFIXES against the reference's lists (carrefourref02): plain laws; the statements' in.
-/
import Derived.Test.YtaafeekkllomhaaPsO
import Derived.Test.YtaafeekkllomhaaItZ
namespace Go.Proofs.Ytaafeekkllomhaa
open Go.RowKit

def toIt (p : Pf) : It3 := (p.1.toNat, p.2, 0)
def ofIt (x : It3) : Pf := ((x.1 : Int), x.2.1)
theorem of_to {p : Pf} (h : OkP p) : ofIt (toIt p) = p := by
  unfold ofIt toIt
  obtain ⟨a, n⟩ := p
  have := h.1
  simp only at this
  simp only [Prod.mk.injEq, and_true]
  omega
def uStep (acc : List Pf) (p : Pf) : List Pf := if p ∈ acc then acc else acc ++ [p]
def uniq (l : List Pf) : List Pf := l.foldl uStep []
theorem uniq_snoc (l : List Pf) (p : Pf) : uniq (l ++ [p]) = uStep (uniq l) p := by unfold uniq; rw [List.foldl_append]; rfl
theorem uniq_from : ∀ (l acc : List Pf), acc.Nodup → (l.foldl uStep acc).Nodup ∧ (∀ p, p ∈ l.foldl uStep acc ↔ p ∈ acc ∨ p ∈ l) ∧ (l.foldl uStep acc).length ≤ acc.length + l.length
  | [], acc, h => ⟨h, fun p => by simp, by simp⟩
  | x :: l, acc, h => by
    rw [List.foldl_cons]
    unfold uStep
    by_cases hx : x ∈ acc
    · rw [if_pos hx]
      obtain ⟨h1, h2, h3⟩ := uniq_from l acc h
      refine ⟨h1, fun p => ?_, by rw [List.length_cons]; exact Nat.le_trans h3 (by omega)⟩
      have := h2 p
      unfold uStep at this
      rw [this, List.mem_cons]
      constructor
      · rintro (k | k)
        · exact .inl k
        · exact .inr (.inr k)
      · rintro (k | rfl | k)
        · exact .inl k
        · exact .inl hx
        · exact .inr k
    · rw [if_neg hx]
      obtain ⟨h1, h2, h3⟩ := uniq_from l (acc ++ [x]) (by
        rw [List.nodup_append]
        exact ⟨h, List.nodup_cons.2 ⟨by simp, List.nodup_nil⟩, fun a ha b hb e => by rw [List.mem_singleton.1 hb] at e; subst e; exact hx ha⟩)
      refine ⟨h1, fun p => ?_, by rw [List.length_append, List.length_singleton] at h3; rw [List.length_cons]; exact Nat.le_trans h3 (by omega)⟩
      have := h2 p
      unfold uStep at this
      rw [this, List.mem_append, List.mem_singleton, List.mem_cons, or_assoc]
theorem uniq_mem (l : List Pf) (p : Pf) : p ∈ uniq l ↔ p ∈ l := by have := (uniq_from l [] List.nodup_nil).2.1 p; simpa [uniq] using this
theorem uniq_nodup (l : List Pf) : (uniq l).Nodup := (uniq_from l [] List.nodup_nil).1
theorem uniq_len (l : List Pf) : (uniq l).length ≤ l.length := by have := (uniq_from l [] List.nodup_nil).2.2; simpa [uniq] using this
theorem find_neg {q : Pf} (hq : OkP q) : ∀ (l : List Pf) (k : Nat), (∀ p ∈ l, OkP p) → (findF q.1.toNat q.2 (l.map toIt) k < 0 ↔ q ∉ l)
  | [], k, _ => by simp [findF]
  | p :: l, k, h => by
    rw [List.map_cons]
    unfold findF
    have ih := find_neg hq l (k + 1) (fun p hp => h p (List.mem_cons_of_mem _ hp))
    have hp := h p (List.mem_cons_self ..)
    by_cases e : p = q
    · subst e
      rw [if_pos ⟨rfl, rfl⟩]
      simp
    · rw [if_neg]
      · rw [ih, List.mem_cons, not_or]
        exact ⟨fun h => ⟨fun e2 => e e2.symm, h⟩, fun h => h.2⟩
      · rintro ⟨h1, h2⟩
        apply e
        have a := of_to hp
        have b := of_to hq
        rw [← a, ← b]
        unfold ofIt toIt at *
        simp only at h1 h2 ⊢
        rw [h1, h2]
theorem lessI_to {p q : Pf} (hp : OkP p) (hq : OkP q) : lessI (toIt p) (toIt q) = true ↔ plt p q := by
  rw [less_iff]
  unfold toIt plt
  have := hp.1
  have := hq.1
  simp only
  omega
theorem sorted_is {ps : List Pf} (hok : ∀ p ∈ ps, OkP p) (hr : rights ps = true) : refSorted ((uniq ps).map toIt) 0 0 = (setOf ps).map toIt := by
  have hoku : ∀ p ∈ uniq ps, OkP p := fun p hp => hok p ((uniq_mem ps p).1 hp)
  have hf : filtI ((uniq ps).map toIt) 0 0 = (uniq ps).map toIt := by
    unfold filtI
    rw [List.filter_eq_self]
    intro x hx
    obtain ⟨p, hp, rfl⟩ := List.mem_map.1 hx
    have hp2 := hoku p hp
    have hpr := List.all_eq_true.1 hr p ((uniq_mem ps p).1 hp)
    have h00 : rightB 0 0 = true := by decide +kernel
    have e := of_to hp2
    unfold ofIt toIt at e
    have e1 : ((p.1.toNat : Nat) : Int) = p.1 := congrArg Prod.fst e
    show coversB ((0 : Nat) : Int) 0 ((p.1.toNat : Nat) : Int) p.2 = true
    rw [e1]
    have hs : sizeI 0 = 4294967296 := by decide +kernel
    have := rightB_range hpr
    exact (covers_iff 0 0 p.1 p.2 h00).2 ⟨hpr, this.1, hp2.1, by rw [hs]; have := hp2.2; omega⟩
  unfold refSorted
  rw [hf]
  have hd : ((uniq ps).map toIt).Pairwise D3 := by
    rw [List.pairwise_map]
    refine (uniq_nodup ps).imp_of_mem fun {a b} ha hb hne => ?_
    rintro ⟨h1, h2⟩
    apply hne
    rw [← of_to (hoku a ha), ← of_to (hoku b hb)]
    unfold ofIt toIt at *
    simp only at h1 h2 ⊢
    rw [h1, h2]
  obtain ⟨h1, h2⟩ := sel_spec _ ((uniq ps).map toIt) rfl hd
  generalize selS ((uniq ps).map toIt).length ((uniq ps).map toIt) = L at h1 h2
  have hform : ∀ x ∈ L, ∃ p ∈ ps, x = toIt p := fun x hx => by
    obtain ⟨p, hp, rfl⟩ := List.mem_map.1 ((h1 x).1 hx)
    exact ⟨p, (uniq_mem ps p).1 hp, rfl⟩
  have e : setOf ps = L.map ofIt := by
    refine setOf_is ?_ fun p => ?_
    · rw [Srt, List.pairwise_map]
      refine h2.imp_of_mem fun {a b} ha hb hl => ?_
      obtain ⟨p, hp, rfl⟩ := hform a ha
      obtain ⟨q, hq, rfl⟩ := hform b hb
      rw [of_to (hok p hp), of_to (hok q hq)]
      exact (lessI_to (hok p hp) (hok q hq)).1 hl
    · rw [List.mem_map]
      constructor
      · rintro ⟨x, hx, rfl⟩
        obtain ⟨q, hq, rfl⟩ := hform x hx
        rw [of_to (hok q hq)]; exact hq
      · intro hp
        exact ⟨toIt p, (h1 _).2 (List.mem_map.2 ⟨p, (uniq_mem ps p).2 hp, rfl⟩), of_to (hok p hp)⟩
  rw [e, List.map_map]
  conv => lhs; rw [← List.map_id L]
  refine List.map_congr_left fun x hx => ?_
  obtain ⟨p, hp, rfl⟩ := hform x hx
  show toIt p = toIt (ofIt (toIt p))
  rw [of_to (hok p hp)]
set_option maxHeartbeats 1600000 in
set_option maxRecDepth 100000 in
theorem law_in (v : Value) (xs : List Pf) (p : Pf) (w : World) (h : PsAt w v xs) : Calls Try.prog 23 #[v, .agg #[.int .u32 p.1, .int .i64 p.2]] w fun e w' => e = .returned (.bool (decide (p ∈ xs))) ∧ Below w.heap.size w w' := by
  obtain ⟨sa, cap, rfl, hlc, hcm, hV⟩ := h
  have HV := Lib.hid hV
  unfold maxLen at hcm
  clear hV
  go_enter Try.func23, Try.ntmps23
  go_upto_region 1 with (fail)
  obtain ⟨W0, hW, c0, c1, hB⟩ := box2 w (.int .u32 p.1) (.int .i64 p.2) 35
  rw [← hW]
  have C0 := Lib.hid c0
  have C1 := Lib.hid c1
  have HB := Lib.hid hB
  clear hW c0 c1 hB
  go_wp2_with fail
  go_loopw [9] (fun i9 wr => ∃ k : Nat, k ≤ xs.length ∧ i9 = .int .i64 k ∧ Hid (p ∉ xs.take k) ∧ Hid (Below W0.heap.size W0 wr)) (fun i9 _ => xs.length - (intOf i9).toNat)
  case atStart => exact ⟨0, by omega, rfl, Lib.hid (by simp), Lib.hid (Below.refl _ _)⟩
  case round =>
    obtain ⟨k, hk, rfl, N, BR⟩ := hrel
    by_cases hlt : k < xs.length
    · obtain ⟨q, hq⟩ : ∃ q, xs[k]? = some q := ⟨_, List.getElem?_eq_getElem hlt⟩
      obtain ⟨b1, off1, hsa, hP⟩ := HV.out (by omega)
      subst hsa
      obtain ⟨x0, x1⟩ := ps_two hP hq
      have x0 := cell_below (cell_below x0 HB.out) BR.out
      have x1 := cell_below (cell_below x1 HB.out) BR.out
      have c0 := cell_below C0.out BR.out
      have c1 := cell_below C1.out BR.out
      have i0 : (0 : Int) ≤ (k : Int) := by omega
      have i1 : (k : Int) < (xs.length : Int) := by omega
      have HQ := Lib.hid hq
      clear hP hq
      go_upto_region 4 with (fail)
      obtain ⟨W5, hW, y0, y1, hb5⟩ := box2 wr (.int .u32 q.1) (.int .i64 q.2) 35
      rw [← hW]
      have c0 := cell_below c0 hb5
      have c1 := cell_below c1 hb5
      have B5 := Lib.hid (below_on BR.out hb5)
      clear hW hb5 x0 x1
      by_cases e : q = p
      · have EQ : (q.1 == p.1 && q.2 == p.2) = true := by rw [pair_eq]; simp [e]
        have HM : Hid (decide (p ∈ xs) = true) := Lib.hid (by rw [← e]; simpa using List.mem_of_getElem? HQ.out)
        clear e
        go_wp2_with fail
        go_ret
        exact ⟨ret_bool HM.out.symm, below_on HB.out B5.out⟩
      · have EQ : (q.1 == p.1 && q.2 == p.2) = false := by rw [pair_eq]; simp [e]
        have N2 : Hid (p ∉ xs.take (k + 1)) := Lib.hid (by
          rw [List.take_add_one, HQ.out]
          simp only [Option.toList_some, List.mem_append, List.mem_singleton, not_or]
          exact ⟨N.out, fun h => e h.symm⟩)
        clear e
        go_wp2_with fail
        exact ⟨⟨k + 1, by omega, by go_num, N2, B5⟩, by simp [intOf]; omega⟩
    · obtain rfl : k = xs.length := by omega
      have HM : Hid (decide (p ∈ xs) = false) := Lib.hid (by have := N.out; rw [List.take_length] at this; simpa using this)
      clear N
      go_wp2_with fail
      go_ret
      exact ⟨ret_bool HM.out.symm, below_on HB.out BR.out⟩
end Go.Proofs.Ytaafeekkllomhaa
