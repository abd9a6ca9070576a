/-
  PLAIN LAWS ON TEXTS READ: the two ways to read a text agree; what is read is written just so.
-/
import Derived.Test.YtgmpbppiakjpdaaDoorTxtL
import Derived.Test.YtgmpbppiakjpdaaDoorTxtR
namespace Go.Proofs.YtgmpbppiakjpdaaDoor
open Go.RowKit Go.Shelf

/-! ### the reference's way -/
def undot : List UInt8 → Option (List UInt8)
  | [] => none
  | c :: t => if c = 46 then some t else none
theorem undot_no {c : UInt8} {t : List UInt8} (h : c ≠ 46) : undot (c :: t) = none := by unfold undot; exact if_neg h
theorem undot_yes (t : List UInt8) : undot (46 :: t) = some t := rfl
/-- k numbers to come, a dot ahead of each but the first; what is left. -/
def adGo : Nat → Nat → List UInt8 → Option (Nat × List UInt8)
  | 0, a, r => some (a, r)
  | k + 1, a, r =>
    match (if k = 3 then some r else undot r) with
    | none => none
    | some r1 => if numOk (lead 4 r1) 255 then adGo k (a * 256 + valD (lead 4 r1) 0) (r1.drop (lead 4 r1).length) else none
def numGo (k a : Nat) (r : List UInt8) : Option (Nat × List UInt8) :=
  if numOk (lead 4 r) 255 then adGo k (a * 256 + valD (lead 4 r) 0) (r.drop (lead 4 r).length) else none
theorem adGo_top (a : Nat) (l : List UInt8) : adGo 4 a l = numGo 3 a l := rfl
theorem adGo_step {k : Nat} (hk : k < 3) (a : Nat) (r : List UInt8) : adGo (k + 1) a r = match undot r with | none => none | some t => numGo k a t := by
  have h3 : k ≠ 3 := by omega
  unfold adGo
  rw [if_neg h3]
  rfl
/-- an address with nothing left. -/
def fin : Option (Nat × List UInt8) → Option Nat
  | some (v, []) => some v
  | _ => none

/-! ### the digits ahead -/
theorem lead_dig : ∀ (m : Nat) (r : List UInt8), ∀ x ∈ lead m r, dig x = true
  | 0, r, x, h => by simp [lead] at h
  | m + 1, [], x, h => by simp [lead] at h
  | m + 1, c :: r, x, h => by
    unfold lead at h
    split at h
    · next hc =>
      rcases List.mem_cons.1 h with rfl | h
      · exact hc
      · exact lead_dig m r x h
    · simp at h
theorem lead_app : ∀ (m : Nat) (r : List UInt8), r = lead m r ++ r.drop (lead m r).length
  | 0, r => by simp [lead]
  | m + 1, [] => by simp [lead]
  | m + 1, c :: r => by
    unfold lead
    split
    · next hc =>
      have ih := lead_app m r
      simp only [List.length_cons, List.drop_succ_cons, List.cons_append]
      exact congrArg (c :: ·) ih
    · simp
theorem lead_all : ∀ (m : Nat) (p q : List UInt8), (∀ x ∈ p, dig x = true) → p.length ≤ m → (∀ c t, q = c :: t → dig c = false) → lead m (p ++ q) = p
  | 0, [], q, _, _, _ => by simp [lead]
  | m + 1, [], q, _, _, h => by
    cases q with
    | nil => rfl
    | cons c t =>
      have := h c t rfl
      simp [lead, this]
  | 0, x :: p, q, _, h, _ => by simp at h
  | m + 1, x :: p, q, hd, hl, h => by
    have hx : dig x = true := hd x (by simp)
    have ih := lead_all m p q (fun y hy => hd y (by simp [hy])) (by simpa using hl) h
    simp [lead, hx, ih]
theorem dig46 : dig 46 = false := by decide
theorem dig47 : dig 47 = false := by decide
theorem num_dig {l : List UInt8} {m : Nat} (h : numOk l m = true) : (∀ x ∈ l, dig x = true) ∧ l.length ≤ 4 := by
  simp [numOk, numS] at h
  exact ⟨h.1.2, by omega⟩
theorem lead_hit {p t : List UInt8} {m : Nat} {c : UInt8} (hc : dig c = false) (h : numOk p m = true) : lead 4 (p ++ c :: t) = p :=
  lead_all 4 p _ (num_dig h).1 (num_dig h).2 (fun c' t' e => by cases e; exact hc)
theorem lead_self {p : List UInt8} {m : Nat} (h : numOk p m = true) : lead 4 p = p := by
  have := lead_all 4 p [] (num_dig h).1 (num_dig h).2 (fun c' t' e => by cases e)
  simpa using this
theorem split_at (c : UInt8) : ∀ r : List UInt8, (∃ p t, r = p ++ c :: t ∧ ∀ x ∈ p, x ≠ c) ∨ ∀ x ∈ r, x ≠ c
  | [] => .inr (by simp)
  | x :: r => by
    by_cases hx : x = c
    · subst hx; exact .inl ⟨[], r, rfl, by simp⟩
    · rcases split_at c r with ⟨p, t, rfl, hp⟩ | h
      · exact .inl ⟨x :: p, t, rfl, by simpa [hx] using hp⟩
      · exact .inr (by simpa [hx] using h)
theorem lead_no (c : UInt8) (hc : dig c = false) (m : Nat) (r : List UInt8) : ∀ x ∈ lead m r, x ≠ c := by
  intro x hx e
  subst e
  have := lead_dig m r x hx
  rw [hc] at this
  cases this
theorem mem_drop_of {x : UInt8} {r : List UInt8} {n : Nat} (h : x ∈ r.drop n) : x ∈ r := List.mem_of_mem_drop h

/-! ### the address -/
theorem parse_ref : ∀ (k : Nat), k ≤ 3 → ∀ (a : Nat) (r : List UInt8), parseGo (k + 1) a r = fin (numGo k a r) := by
  intro k
  induction k with
  | zero =>
    intro _ a r
    unfold parseGo numGo
    have ha := lead_app 4 r
    rcases split_at 46 r with ⟨p, t, hr, hp⟩ | hno
    · rw [hr, cut_hit 46 p t hp]
      rw [hr] at ha
      have hne : (p ++ 46 :: t).drop (lead 4 (p ++ 46 :: t)).length ≠ [] := by
        intro e
        rw [e] at ha
        have hm : (46 : UInt8) ∈ lead 4 (p ++ 46 :: t) := by
          rw [List.append_nil] at ha; rw [← ha]; simp
        exact lead_no 46 dig46 4 _ 46 hm rfl
      simp only [Nat.lt_irrefl, decide_false]
      simp only [Bool.true_beq, Bool.and_false, Bool.false_eq_true, if_false]
      split
      · unfold adGo fin
        split
        · next h => exact absurd (Prod.mk.inj (Option.some.inj h)).2 hne
        · rfl
      · rfl
    · rw [cut_miss 46 r hno]
      simp only [Nat.lt_irrefl, decide_false, Bool.false_beq, Bool.not_false, Bool.and_true]
      cases hn : numOk r 255
      · simp only [Bool.false_eq_true, if_false]
        split
        · next h =>
          unfold adGo fin
          split
          · next v h2 =>
            have he := (Prod.mk.inj (Option.some.inj h2)).2
            rw [he, List.append_nil] at ha
            rw [← ha, hn] at h
            cases h
          · rfl
        · rfl
      · rw [lead_self hn, hn]
        simp only [if_true, List.drop_length]
        rfl
  | succ k ih =>
    intro hk a r
    have hs := fun a r => adGo_step (k := k) (by omega) a r
    unfold parseGo numGo
    have ha := lead_app 4 r
    rcases split_at 46 r with ⟨p, t, hr, hp⟩ | hno
    · have hcut := cut_hit 46 p t hp
      rw [hr, hcut]
      have hdk : decide (0 < k + 1) = true := by simp
      rw [hdk]
      cases hn : numOk p 255
      · simp only [Bool.false_and, Bool.false_eq_true, if_false]
        split
        · next h =>
          rw [hs]
          rw [hr] at ha
          cases hd : (p ++ 46 :: t).drop (lead 4 (p ++ 46 :: t)).length with
          | nil => rfl
          | cons c t' =>
            by_cases hc : c = 46
            · subst hc
              rw [hd] at ha
              have h2 := cut_hit 46 (lead 4 (p ++ 46 :: t)) t' (lead_no 46 dig46 4 _)
              rw [← ha, hcut] at h2
              have := (Prod.mk.inj h2).1
              rw [← this, hn] at h
              cases h
            · rw [undot_no hc]; rfl
        · rfl
      · rw [lead_hit dig46 hn, hn]
        simp only [Bool.true_and, if_true, BEq.rfl]
        rw [hs, List.drop_left]
        exact ih (by omega) _ _
    · rw [cut_miss 46 r hno]
      have hdk : decide (0 < k + 1) = true := by simp
      rw [hdk]
      simp only [Bool.false_beq, Bool.not_true, Bool.and_false, Bool.false_eq_true, if_false]
      split
      · rw [hs]
        cases hd : r.drop (lead 4 r).length with
        | nil => rfl
        | cons c t' =>
          have hc : c ≠ 46 := hno c (mem_drop_of (by rw [hd]; simp))
          rw [undot_no hc]; rfl
      · rfl
theorem parseL_ref (l : List UInt8) : parseL l = fin (adGo 4 0 l) := by
  rw [adGo_top]; exact parse_ref 3 (by omega) 0 l

/-! ### the net -/
theorem lead_stop {c : UInt8} (hc : dig c = false) : ∀ (m : Nat) (f b : List UInt8), lead m (f ++ c :: b) = lead m f
  | 0, f, b => by simp [lead]
  | m + 1, [], b => by simp [lead, hc]
  | m + 1, x :: f, b => by
    have ih := lead_stop hc m f b
    simp [lead, ih]
theorem lead_le (m : Nat) (r : List UInt8) : (lead m r).length ≤ r.length := by
  have := congrArg List.length (lead_app m r)
  simp at this
  omega
theorem num_front : ∀ (k : Nat), k ≤ 3 → ∀ (a : Nat) (f b : List UInt8), numGo k a (f ++ 47 :: b) = (numGo k a f).map fun x => (x.1, x.2 ++ 47 :: b) := by
  intro k
  induction k with
  | zero =>
    intro _ a f b
    unfold numGo
    rw [lead_stop dig47]
    split
    · unfold adGo
      rw [List.drop_append_of_le_length (lead_le 4 f)]
      rfl
    · rfl
  | succ k ih =>
    intro hk a f b
    have hs := fun a r => adGo_step (k := k) (by omega) a r
    unfold numGo
    rw [lead_stop dig47]
    split
    · rw [hs, hs, List.drop_append_of_le_length (lead_le 4 f)]
      cases hd : f.drop (lead 4 f).length with
      | nil => rfl
      | cons c t =>
        simp only [List.cons_append]
        by_cases hc : c = 46
        · subst hc
          rw [undot_yes, undot_yes]; exact ih (by omega) _ _ _
        · rw [undot_no hc, undot_no hc]; rfl
    · rfl
theorem num_rest : ∀ (k : Nat), k ≤ 3 → ∀ (a : Nat) (f : List UInt8) (v : Nat) (r : List UInt8), numGo k a f = some (v, r) → ∀ x ∈ r, x ∈ f := by
  intro k
  induction k with
  | zero =>
    intro _ a f v r h x hx
    unfold numGo at h
    split at h
    · unfold adGo at h
      have := (Prod.mk.inj (Option.some.inj h)).2
      rw [← this] at hx
      exact mem_drop_of hx
    · cases h
  | succ k ih =>
    intro hk a f v r h x hx
    have hs := fun a r => adGo_step (k := k) (by omega) a r
    unfold numGo at h
    split at h
    · rw [hs] at h
      cases hd : f.drop (lead 4 f).length with
      | nil => rw [hd] at h; cases h
      | cons c t =>
        rw [hd] at h
        by_cases hc : c = 46
        · subst hc
          rw [undot_yes] at h
          have := ih (by omega) _ _ _ _ h x hx
          exact mem_drop_of (n := (lead 4 f).length) (by rw [hd]; simp [this])
        · rw [undot_no hc] at h; cases h
    · cases h
/-- what the reference's ParsePrefix gives back. -/
def refPP (l : List UInt8) : Nat × Nat × Nat :=
  match adGo 4 0 l with
  | some (a, c :: t) => if c = 47 ∧ numOk (lead 4 t) 32 = true ∧ (lead 4 t).length = t.length then (if rightB a (valD (lead 4 t) 0) then (a, valD (lead 4 t) 0, 0) else (0, 0, 1)) else (0, 0, 2)
  | _ => (0, 0, 2)
theorem lead_whole {t : List UInt8} (h : (lead 4 t).length = t.length) : lead 4 t = t := by
  have := lead_app 4 t
  rw [h, List.drop_length, List.append_nil] at this
  exact this.symm
theorem refPP_eq (l : List UInt8) : refPP l = ppR l := by
  unfold refPP ppR
  rw [adGo_top]
  rcases split_at 47 l with ⟨f, b, rfl, hf⟩ | hno
  · rw [cut_hit 47 f b hf, num_front 3 (by omega), parseL_ref, adGo_top]
    cases hg : numGo 3 0 f with
    | none => rfl
    | some x =>
      obtain ⟨v, r⟩ := x
      cases r with
      | nil =>
        simp only [Option.map, List.nil_append, fin]
        cases hn : numOk b 32
        · rw [if_neg]
          · rfl
          · rintro ⟨_, h1, h2⟩
            rw [lead_whole h2, hn] at h1
            cases h1
        · rw [lead_self hn, if_pos ⟨trivial, hn, rfl⟩]
          rfl
      | cons c t =>
        have hc : c ≠ 47 := hf c (num_rest 3 (by omega) _ _ _ _ hg c (by simp))
        simp only [Option.map, List.cons_append, fin]
        rw [if_neg (fun h => hc h.1)]
  · rw [cut_miss 47 l hno]
    have h0 : numOk [] 32 = false := rfl
    have hr : (match parseL l with
      | none => ((0, 0, 2) : Nat × Nat × Nat)
      | some a => if numOk [] 32 then (if rightB a (valD [] 0) then (a, valD [] 0, 0) else (0, 0, 1)) else (0, 0, 2)) = (0, 0, 2) := by
      rw [h0]; cases parseL l <;> rfl
    refine Eq.trans ?_ hr.symm
    cases hg : numGo 3 0 l with
    | none => rfl
    | some x =>
      obtain ⟨v, r⟩ := x
      cases r with
      | nil => rfl
      | cons c t =>
        have hc : c ≠ 47 := hno c (num_rest 3 (by omega) _ _ _ _ hg c (by simp))
        simp only
        rw [if_neg (fun h => hc h.1)]

/-! ### what is read is written just so -/
theorem chD_eq {a : UInt8} {n : Nat} (hd : dig a = true) (h : n % 10 = a.toNat - 48) : chD n = a := by
  simp [dig] at hd
  refine UInt8.toNat_inj.1 ?_
  have := chD_nat n
  omega
theorem dec_val {l : List UInt8} {m : Nat} (h : numOk l m = true) : Lib.decDigits (valD l 0) = l := by
  match l, h with
  | [], h => simp [numOk, numS] at h
  | [a], h =>
    have hd := (num_dig h).1
    have h1 := (num_1 a m).1 h
    simp only [valD]
    rw [dec_one _ (by omega), chD_eq (hd a (by simp)) (by omega)]
  | [a, b], h =>
    have hd := (num_dig h).1
    have h1 := (num_2 a b m).1 h
    simp only [valD]
    rw [dec_two _ (by omega) (by omega), chD_eq (hd a (by simp)) (by omega), chD_eq (hd b (by simp)) (by omega)]
  | [a, b, c], h =>
    have hd := (num_dig h).1
    have h1 := (num_3 a b c m).1 h
    simp only [valD]
    rw [dec_three _ (by omega) (by omega), chD_eq (hd a (by simp)) (by omega), chD_eq (hd b (by simp)) (by omega), chD_eq (hd c (by simp)) (by omega)]
  | a :: b :: c :: d :: l', h =>
    rw [num_4 _ _ (by simp)] at h
    cases h
theorem go_inv {k a v : Nat} {r : List UInt8} (h : parseGo (k + 1) a r = some v) : ∃ p t, numOk p 255 = true ∧ parseGo k (a * 256 + valD p 0) t = some v ∧ ((0 < k ∧ r = p ++ 46 :: t) ∨ (k = 0 ∧ r = p)) := by
  unfold parseGo at h
  split at h
  · next hc =>
    simp at hc
    refine ⟨_, _, hc.1, h, ?_⟩
    rcases split_at 46 r with ⟨p, t, rfl, hp⟩ | hno
    · rw [cut_hit 46 p t hp] at hc ⊢
      exact .inl ⟨by simpa using hc.2, rfl⟩
    · rw [cut_miss 46 r hno] at hc ⊢
      exact .inr ⟨by simpa using hc.2, rfl⟩
  · cases h
theorem text_parse {l : List UInt8} {a : Nat} (h : parseL l = some a) : textL a = l := by
  obtain ⟨p3, t3, n3, h, hr3⟩ := go_inv h
  obtain ⟨p2, t2, n2, h, hr2⟩ := go_inv h
  obtain ⟨p1, t1, n1, h, hr1⟩ := go_inv h
  obtain ⟨p0, t0, n0, h, hr0⟩ := go_inv h
  rcases hr3 with ⟨_, rfl⟩ | ⟨c, _⟩
  rotate_left
  · omega
  rcases hr2 with ⟨_, rfl⟩ | ⟨c, _⟩
  rotate_left
  · omega
  rcases hr1 with ⟨_, rfl⟩ | ⟨c, _⟩
  rotate_left
  · omega
  rcases hr0 with ⟨c, _⟩ | ⟨_, rfl⟩
  · omega
  have e := Option.some.inj h
  have v3 := num_lt n3
  have v2 := num_lt n2
  have v1 := num_lt n1
  have v0 := num_lt n0
  have d3 := dec_val n3
  have d2 := dec_val n2
  have d1 := dec_val n1
  have d0 := dec_val n0
  generalize valD p3 0 = x3 at *
  generalize valD p2 0 = x2 at *
  generalize valD p1 0 = x1 at *
  generalize valD t1 0 = x0 at *
  clear h n3 n2 n1 n0
  have o3 : octet a 3 = x3 := by unfold octet; simp only [Nat.reduceMul, Nat.reducePow]; omega
  have o2 : octet a 2 = x2 := by unfold octet; simp only [Nat.reduceMul, Nat.reducePow]; omega
  have o1 : octet a 1 = x1 := by unfold octet; simp only [Nat.reduceMul, Nat.reducePow]; omega
  have o0 : octet a 0 = x0 := by unfold octet; simp only [Nat.reduceMul, Nat.reducePow]; omega
  unfold textL
  rw [o3, o2, o1, o0, d3, d2, d1, d0]
theorem full_pp {l : List UInt8} {a n : Nat} (h : ppR l = (a, n, 0)) : fullT a n = l := by
  unfold ppR at h
  rcases split_at 47 l with ⟨f, b, rfl, hf⟩ | hno
  · rw [cut_hit 47 f b hf] at h
    simp only at h
    cases hp : parseL f with
    | none => rw [hp] at h; simp at h
    | some x =>
      rw [hp] at h
      simp only at h
      cases hn : numOk b 32
      · rw [hn] at h; simp at h
      · rw [hn] at h
        simp only [if_true] at h
        cases hR : rightB x (valD b 0)
        · rw [hR] at h; simp at h
        · rw [hR] at h
          simp only [if_true] at h
          have h1 := (Prod.mk.inj h).1
          have h2 := (Prod.mk.inj (Prod.mk.inj h).2).1
          subst h1; subst h2
          rw [fullT_yes hR]
          unfold fullL
          rw [text_parse hp, dec_val hn]
          simp
  · rw [cut_miss 47 l hno] at h
    simp only at h
    have h0 : numOk [] 32 = false := rfl
    cases hp : parseL l with
    | none => rw [hp] at h; simp at h
    | some x => rw [hp] at h; simp only at h; rw [h0] at h; simp at h
end Go.Proofs.YtgmpbppiakjpdaaDoor
