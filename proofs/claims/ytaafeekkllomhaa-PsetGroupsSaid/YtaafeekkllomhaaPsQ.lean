/-
  SETS OF PREFIXES, the plain side of part and Group: numbers that tell who lies in the same sets; the groups.
-/
import Derived.Test.YtaafeekkllomhaaPsP
import Derived.Test.YtaafeekkllomhaaMapT
namespace Go.Proofs.Ytaafeekkllomhaa
open Go.RowKit

def sameB (by_ : List (List Pf)) (p q : Pf) : Bool := by_.all fun s => decide (p ∈ s) == decide (q ∈ s)
theorem sameB_iff {by_ : List (List Pf)} {p q : Pf} : sameB by_ p q = true ↔ ∀ s ∈ by_, (p ∈ s ↔ q ∈ s) := by
  unfold sameB
  rw [List.all_eq_true]
  constructor
  · intro h s hs
    have := h s hs
    simpa using this
  · intro h s hs
    have := h s hs
    simpa using this
theorem sameB_snoc {by_ : List (List Pf)} {s : List Pf} {p q : Pf} : sameB (by_ ++ [s]) p q = true ↔ sameB by_ p q = true ∧ (p ∈ s ↔ q ∈ s) := by
  rw [sameB_iff, sameB_iff]
  constructor
  · intro h
    exact ⟨fun t ht => h t (List.mem_append_left _ ht), h s (List.mem_append_right _ (List.mem_singleton.2 rfl))⟩
  · rintro ⟨h1, h2⟩ t ht
    rcases List.mem_append.1 ht with ht | ht
    · exact h1 t ht
    · rw [List.mem_singleton.1 ht]; exact h2
/-- the numbers after some sets. -/
structure EqS (all : List Pf) (done : List (List Pf)) (cls : List Int) (L : Nat) : Prop where
  len : cls.length = all.length
  rng : ∀ (i : Nat) (c : Int), cls[i]? = some c → 0 ≤ c ∧ c ≤ L
  eq : ∀ (i j : Nat) (p q : Pf) (c d : Int), all[i]? = some p → all[j]? = some q → cls[i]? = some c → cls[j]? = some d → (c = d ↔ sameB done p q = true)
theorem eqs_start (all : List Pf) : EqS all [] (List.replicate all.length 0) 0 := by
  refine ⟨by simp, fun i c h => ?_, fun i j p q c d _ _ h1 h2 => ?_⟩
  · have := List.eq_of_mem_replicate (List.mem_of_getElem? h)
    omega
  · have := List.eq_of_mem_replicate (List.mem_of_getElem? h1)
    have := List.eq_of_mem_replicate (List.mem_of_getElem? h2)
    constructor
    · intro _
      simp [sameB]
    · intro _
      omega
/-- the numbers within a set: those of P have been moved. -/
structure InS (all : List Pf) (cls0 : List Int) (L0 : Nat) (P : List Pf) (cls : List Int) (L : Nat) (M : List (Int × Int)) : Prop where
  len : cls.length = all.length
  le : L0 ≤ L
  le2 : L ≤ L0 + P.length
  mlen : M.length ≤ P.length
  at_ : ∀ (i : Nat) (p : Pf) (c0 : Int), all[i]? = some p → cls0[i]? = some c0 → ∃ c, cls[i]? = some c ∧ (p ∈ P → getL M c0 = some c) ∧ (p ∉ P → c = c0)
  inj : ∀ a b v, getL M a = some v → getL M b = some v → a = b
  rng : ∀ a v, getL M a = some v → (L0 : Int) < v ∧ v ≤ L
theorem ins_start {all : List Pf} {cls0 : List Int} {L0 : Nat} (hl : cls0.length = all.length) : InS all cls0 L0 [] cls0 L0 [] :=
  ⟨hl, Nat.le_refl _, by simp, by simp, fun i p c0 _ h => ⟨c0, h, fun h => by simp at h, fun _ => rfl⟩, fun a b v h => by simp [getL] at h, fun a v h => by simp [getL] at h⟩
theorem ins_skip {all : List Pf} {cls0 cls : List Int} {L0 L : Nat} {P : List Pf} {M : List (Int × Int)} {p : Pf} (h : InS all cls0 L0 P cls L M) (hp : p ∉ all) : InS all cls0 L0 (P ++ [p]) cls L M := by
  refine ⟨h.len, h.le, by have := h.le2; simp; omega, by have := h.mlen; simp; omega, fun i q c0 hq hc => ?_, h.inj, h.rng⟩
  obtain ⟨c, h1, h2, h3⟩ := h.at_ i q c0 hq hc
  have hne : q ≠ p := fun e => hp (e ▸ List.mem_of_getElem? hq)
  refine ⟨c, h1, fun hm => h2 ?_, fun hm => h3 (fun k => hm (List.mem_append_left _ k))⟩
  rcases List.mem_append.1 hm with hm | hm
  · exact hm
  · exact absurd (List.mem_singleton.1 hm) hne
theorem nodup_at {all : List Pf} (hd : all.Nodup) {i k : Nat} {p : Pf} (hi : all[i]? = some p) (hk : all[k]? = some p) : i = k := by
  obtain ⟨h1, e1⟩ := List.getElem?_eq_some_iff.1 hi
  obtain ⟨h2, e2⟩ := List.getElem?_eq_some_iff.1 hk
  exact (List.getElem_inj hd).1 (e1.trans e2.symm)
theorem ins_move {all : List Pf} {cls0 cls : List Int} {L0 L L' : Nat} {P : List Pf} {M M' : List (Int × Int)} {p : Pf} {k : Nat} {c : Int} {t : Int} (h : InS all cls0 L0 P cls L M) (hd : all.Nodup) (hk : all[k]? = some p) (hp : p ∉ P) (hc : cls[k]? = some c)
    (hL : L ≤ L') (hL2 : L' ≤ L + 1) (hML : M'.length ≤ M.length + 1) (hto : getL M' c = some t) (hsame : ∀ a v, getL M a = some v → getL M' a = some v) (hinj : ∀ a b v, getL M' a = some v → getL M' b = some v → a = b) (hrng : ∀ a v, getL M' a = some v → (L0 : Int) < v ∧ v ≤ L') :
    InS all cls0 L0 (P ++ [p]) (cls.set k t) L' M' := by
  obtain ⟨hkl, -⟩ := List.getElem?_eq_some_iff.1 hk
  refine ⟨by rw [List.length_set, h.len], Nat.le_trans h.le hL, by have := h.le2; simp; omega, by have := h.mlen; simp; omega, fun i q c0 hq hc0 => ?_, hinj, hrng⟩
  obtain ⟨c1, h1, h2, h3⟩ := h.at_ i q c0 hq hc0
  by_cases e : i = k
  · subst e
    rw [hk] at hq
    obtain rfl := Option.some.inj hq
    rw [hc] at h1
    obtain rfl := Option.some.inj h1
    obtain rfl := h3 hp
    exact ⟨t, List.getElem?_set_self (by rw [h.len]; exact hkl), fun _ => hto, fun hm => absurd (List.mem_append_right _ (List.mem_singleton.2 rfl)) hm⟩
  · have hne : q ≠ p := fun e2 => e (nodup_at hd (e2 ▸ hq) hk)
    refine ⟨c1, by rw [List.getElem?_set_ne (fun e2 => e e2.symm)]; exact h1, fun hm => hsame _ _ (h2 ?_), fun hm => h3 (fun k => hm (List.mem_append_left _ k))⟩
    rcases List.mem_append.1 hm with hm | hm
    · exact hm
    · exact absurd (List.mem_singleton.1 hm) hne
theorem ins_known {all : List Pf} {cls0 cls : List Int} {L0 L : Nat} {P : List Pf} {M : List (Int × Int)} {p : Pf} {k : Nat} {c : Int} {t : Int} (h : InS all cls0 L0 P cls L M) (hd : all.Nodup) (hk : all[k]? = some p) (hp : p ∉ P) (hc : cls[k]? = some c) (hg : getL M c = some t) :
    InS all cls0 L0 (P ++ [p]) (cls.set k t) L M :=
  ins_move h hd hk hp hc (Nat.le_refl _) (by omega) (by omega) hg (fun _ _ h => h) h.inj h.rng
theorem ins_new {all : List Pf} {cls0 cls : List Int} {L0 L : Nat} {P : List Pf} {M : List (Int × Int)} {p : Pf} {k : Nat} {c : Int} (h : InS all cls0 L0 P cls L M) (hd : all.Nodup) (hk : all[k]? = some p) (hp : p ∉ P) (hc : cls[k]? = some c) (hg : getL M c = none) :
    InS all cls0 L0 (P ++ [p]) (cls.set k ((L : Int) + 1)) (L + 1) (putL M c ((L : Int) + 1)) := by
  have hput : ∀ b, getL (putL M c ((L : Int) + 1)) b = if b = c then some ((L : Int) + 1) else getL M b := fun b => getL_put M c b _
  refine ins_move h hd hk hp hc (by omega) (by omega) (by rw [len_put]; split <;> omega) (by rw [hput, if_pos rfl]) (fun a v ha => ?_) (fun a b v ha hb => ?_) (fun a v ha => ?_)
  · rw [hput, if_neg]
    · exact ha
    · intro e; rw [e, hg] at ha; cases ha
  · rw [hput] at ha hb
    by_cases e1 : a = c
    · by_cases e2 : b = c
      · rw [e1, e2]
      · rw [if_pos e1] at ha
        rw [if_neg e2] at hb
        have := (h.rng _ _ hb).2
        have := Option.some.inj ha
        omega
    · by_cases e2 : b = c
      · rw [if_neg e1] at ha
        rw [if_pos e2] at hb
        have := (h.rng _ _ ha).2
        have := Option.some.inj hb
        omega
      · rw [if_neg e1] at ha
        rw [if_neg e2] at hb
        exact h.inj a b v ha hb
  · rw [hput] at ha
    have := h.le
    by_cases e1 : a = c
    · rw [if_pos e1] at ha
      have := Option.some.inj ha
      omega
    · rw [if_neg e1] at ha
      have := h.rng _ _ ha
      omega
theorem ins_end {all : List Pf} {done : List (List Pf)} {cls0 cls : List Int} {L0 L : Nat} {s : List Pf} {M : List (Int × Int)} (h0 : EqS all done cls0 L0) (h : InS all cls0 L0 s cls L M) : EqS all (done ++ [s]) cls L := by
  have key : ∀ (i : Nat) (c : Int), cls[i]? = some c → ∃ p c0, all[i]? = some p ∧ cls0[i]? = some c0 ∧ (p ∈ s → getL M c0 = some c) ∧ (p ∉ s → c = c0) := by
    intro i c hc
    have hi := (List.getElem?_eq_some_iff.1 hc).1
    rw [h.len] at hi
    obtain ⟨c1, h1, h2, h3⟩ := h.at_ i _ _ (List.getElem?_eq_getElem hi) (List.getElem?_eq_getElem (by rw [h0.len]; exact hi))
    rw [hc] at h1
    obtain rfl := Option.some.inj h1
    exact ⟨_, _, List.getElem?_eq_getElem hi, List.getElem?_eq_getElem (by rw [h0.len]; exact hi), h2, h3⟩
  refine ⟨h.len, fun i c hc => ?_, fun i j p q c d hp hq hc hd => ?_⟩
  · obtain ⟨p, c0, h1, h2, h3, h4⟩ := key i c hc
    have hr := h0.rng i c0 h2
    have hle := h.le
    by_cases hm : p ∈ s
    · have := h.rng _ _ (h3 hm); omega
    · rw [h4 hm]; omega
  · obtain ⟨p', c0, a1, a2, a3, a4⟩ := key i c hc
    obtain ⟨q', d0, b1, b2, b3, b4⟩ := key j d hd
    rw [hp] at a1
    rw [hq] at b1
    obtain rfl := Option.some.inj a1
    obtain rfl := Option.some.inj b1
    have hE := h0.eq i j p q c0 d0 hp hq a2 b2
    have ra := h0.rng i c0 a2
    have rb := h0.rng j d0 b2
    rw [sameB_snoc, ← hE]
    by_cases m1 : p ∈ s
    · by_cases m2 : q ∈ s
      · have g1 := a3 m1
        have g2 := b3 m2
        constructor
        · intro e
          subst e
          exact ⟨h.inj _ _ _ g1 g2, by simp [m1, m2]⟩
        · rintro ⟨e, -⟩
          subst e
          rw [g1] at g2
          exact Option.some.inj g2
      · have g1 := h.rng _ _ (a3 m1)
        have g2 := b4 m2
        constructor
        · intro e; omega
        · rintro ⟨-, e⟩
          exact absurd (e.1 m1) m2
    · by_cases m2 : q ∈ s
      · have g1 := h.rng _ _ (b3 m2)
        have g2 := a4 m1
        constructor
        · intro e; omega
        · rintro ⟨-, e⟩
          exact absurd (e.2 m2) m1
      · rw [a4 m1, b4 m2]
        simp [m1, m2]
/-! ### the groups -/
def repStep (sm : Pf → Pf → Bool) (acc : List Pf) (p : Pf) : List Pf := if acc.any (fun r => sm r p) then acc else acc ++ [p]
def reps (sm : Pf → Pf → Bool) (l : List Pf) : List Pf := l.foldl (repStep sm) []
def grpL (sm : Pf → Pf → Bool) (l : List Pf) : List (List Pf) := (reps sm l).map fun r => l.filter fun p => sm r p
theorem reps_snoc (sm : Pf → Pf → Bool) (l : List Pf) (p : Pf) : reps sm (l ++ [p]) = repStep sm (reps sm l) p := by unfold reps; rw [List.foldl_append]; rfl
/-- what is true of those that stand for the groups. -/
structure RepsOk (sm : Pf → Pf → Bool) (l : List Pf) : Prop where
  sub : ∀ r ∈ reps sm l, r ∈ l
  cov : ∀ p ∈ l, ∃ r ∈ reps sm l, sm r p = true
  apart : (reps sm l).Pairwise fun r r' => sm r r' = false
structure SmOk (sm : Pf → Pf → Bool) : Prop where
  refl : ∀ p, sm p p = true
  symm : ∀ p q, sm p q = sm q p
  trans : ∀ p q r, sm p q = true → sm q r = true → sm p r = true
theorem same_ok (by_ : List (List Pf)) : SmOk (sameB by_) := by
  refine ⟨fun p => sameB_iff.2 fun s _ => Iff.rfl, fun p q => ?_, fun p q r h k => sameB_iff.2 fun s hs => (sameB_iff.1 h s hs).trans (sameB_iff.1 k s hs)⟩
  rw [Bool.eq_iff_iff, sameB_iff, sameB_iff]
  exact ⟨fun h s hs => (h s hs).symm, fun h s hs => (h s hs).symm⟩
theorem reps_ok {sm : Pf → Pf → Bool} (hs : SmOk sm) : ∀ (n : Nat) (l : List Pf), l.length = n → RepsOk sm l
  | 0, l, h => by
    obtain rfl := List.length_eq_zero_iff.1 h
    exact ⟨fun r h => by simp [reps] at h, fun p h => by simp at h, List.Pairwise.nil⟩
  | n + 1, l, h => by
    have hne : l ≠ [] := fun e => by subst e; simp at h
    obtain ⟨m, p, rfl⟩ : ∃ m p, l = m ++ [p] := ⟨l.dropLast, l.getLast hne, (List.dropLast_concat_getLast hne).symm⟩
    have ih := reps_ok hs n m (by simpa using h)
    have hst := reps_snoc sm m p
    unfold repStep at hst
    by_cases hc : (reps sm m).any (fun r => sm r p) = true
    · rw [if_pos hc] at hst
      obtain ⟨r, h1, h2⟩ := List.any_eq_true.1 hc
      refine ⟨fun x hx => ?_, fun x hx => ?_, ?_⟩
      · rw [hst] at hx; exact List.mem_append_left _ (ih.sub x hx)
      · rw [hst]
        rcases List.mem_append.1 hx with hx | hx
        · exact ih.cov x hx
        · rw [List.mem_singleton.1 hx]; exact ⟨r, h1, h2⟩
      · rw [hst]; exact ih.apart
    · rw [if_neg hc] at hst
      refine ⟨fun x hx => ?_, fun x hx => ?_, ?_⟩
      · rw [hst] at hx
        rcases List.mem_append.1 hx with hx | hx
        · exact List.mem_append_left _ (ih.sub x hx)
        · exact List.mem_append_right _ hx
      · rw [hst]
        rcases List.mem_append.1 hx with hx | hx
        · obtain ⟨r, h1, h2⟩ := ih.cov x hx
          exact ⟨r, List.mem_append_left _ h1, h2⟩
        · rw [List.mem_singleton.1 hx]
          exact ⟨p, List.mem_append_right _ (List.mem_singleton.2 rfl), hs.refl p⟩
      · rw [hst, List.pairwise_append]
        refine ⟨ih.apart, List.pairwise_singleton _ _, fun a ha b hb => ?_⟩
        rw [List.mem_singleton.1 hb]
        cases hab : sm a p
        · rfl
        · exact absurd (List.any_eq_true.2 ⟨a, ha, hab⟩) hc
theorem reps_ok' (by_ : List (List Pf)) (l : List Pf) : RepsOk (sameB by_) l := reps_ok (same_ok by_) _ l rfl
/-- where Group stands: the numbers' map, the groups. -/
structure GrS (sm : Pf → Pf → Bool) (f : Pf → Int) (l : List Pf) (M : List (Int × Int)) : Prop where
  at_ : ∀ (c : Int) (g : Int), getL M c = some g ↔ ∃ (k : Nat) (r : Pf), (reps sm l)[k]? = some r ∧ f r = c ∧ g = k
  len : M.length ≤ l.length
theorem grs_start (sm : Pf → Pf → Bool) (f : Pf → Int) : GrS sm f [] [] := ⟨fun c g => by simp [getL, reps], by simp⟩
theorem reps_len {sm : Pf → Pf → Bool} (l : List Pf) : (reps sm l).length ≤ l.length := by
  have : ∀ (l acc : List Pf), (l.foldl (repStep sm) acc).length ≤ acc.length + l.length := by
    intro l
    induction l with
    | nil => intro acc; simp
    | cons x l ih =>
      intro acc
      rw [List.foldl_cons]
      have h := ih (repStep sm acc x)
      have : (repStep sm acc x).length ≤ acc.length + 1 := by unfold repStep; split <;> simp
      rw [List.length_cons]; omega
  have := this l []
  simpa [reps] using this
theorem pairwise_at {R : Pf → Pf → Prop} {l : List Pf} (h : l.Pairwise R) {i j : Nat} {p q : Pf} (hi : l[i]? = some p) (hj : l[j]? = some q) (hij : i < j) : R p q := by
  obtain ⟨h1, rfl⟩ := List.getElem?_eq_some_iff.1 hi
  obtain ⟨h2, rfl⟩ := List.getElem?_eq_some_iff.1 hj
  exact List.pairwise_iff_getElem.1 h i j h1 h2 hij
/-- the number is known: the prefix goes behind the others of its group. -/
theorem grs_known {sm : Pf → Pf → Bool} {f : Pf → Int} {l : List Pf} {M : List (Int × Int)} {p : Pf} {g : Int} (hs : SmOk sm) (h : GrS sm f l M) (hf : ∀ q ∈ l, (f q = f p ↔ sm q p = true)) (hg : getL M (f p) = some g) :
    ∃ (k : Nat) (x : List Pf), g = k ∧ (grpL sm l)[k]? = some x ∧ GrS sm f (l ++ [p]) M ∧ grpL sm (l ++ [p]) = (grpL sm l).set k (x ++ [p]) := by
  obtain ⟨k, r, h1, h2, rfl⟩ := (h.at_ _ _).1 hg
  have ho := reps_ok hs _ l rfl
  have hrl := ho.sub r (List.mem_of_getElem? h1)
  have hrp : sm r p = true := (hf r hrl).1 h2
  have hst : reps sm (l ++ [p]) = reps sm l := by
    rw [reps_snoc]; unfold repStep
    rw [if_pos (List.any_eq_true.2 ⟨r, List.mem_of_getElem? h1, hrp⟩)]
  refine ⟨k, l.filter fun q => sm r q, rfl, by unfold grpL; rw [List.getElem?_map, h1]; rfl, ⟨fun c g => by rw [hst]; exact h.at_ c g, by have := h.len; simp; omega⟩, ?_⟩
  unfold grpL
  rw [hst]
  apply List.ext_getElem?
  intro i
  rw [List.getElem?_map]
  by_cases e : i = k
  · subst e
    have hil := (List.getElem?_eq_some_iff.1 h1).1
    rw [List.getElem?_set_self (by simpa using hil), h1]
    simp [List.filter_append, hrp]
  · rw [List.getElem?_set_ne (fun e2 => e e2.symm), List.getElem?_map]
    cases hr : (reps sm l)[i]? with
    | none => rfl
    | some r' =>
      have hne : sm r' p = false := by
        cases hb : sm r' p with
        | false => rfl
        | true =>
          have h3 : sm r' r = true := hs.trans _ _ _ hb (by rw [hs.symm]; exact hrp)
          rcases Nat.lt_or_gt_of_ne e with hlt | hlt
          · rw [pairwise_at ho.apart hr h1 hlt] at h3; cases h3
          · have := pairwise_at ho.apart h1 hr hlt
            rw [hs.symm, h3] at this; cases this
      simp [List.filter_append, hne]
/-- the number is new: a group of its own. -/
theorem grs_new {sm : Pf → Pf → Bool} {f : Pf → Int} {l : List Pf} {M : List (Int × Int)} {p : Pf} (hs : SmOk sm) (h : GrS sm f l M) (hf : ∀ q ∈ l, (f q = f p ↔ sm q p = true)) (hg : getL M (f p) = none) :
    GrS sm f (l ++ [p]) (putL M (f p) ((grpL sm l).length : Int)) ∧ grpL sm (l ++ [p]) = grpL sm l ++ [[p]] := by
  have ho := reps_ok hs _ l rfl
  have hno : ∀ r ∈ reps sm l, sm r p = false := by
    intro r hr
    cases hb : sm r p with
    | false => rfl
    | true =>
      obtain ⟨k, hk⟩ := List.mem_iff_getElem?.1 hr
      have := (h.at_ (f p) k).2 ⟨k, r, hk, (hf r (ho.sub r hr)).2 hb, rfl⟩
      rw [hg] at this; cases this
  have hst : reps sm (l ++ [p]) = reps sm l ++ [p] := by
    rw [reps_snoc]; unfold repStep
    rw [if_neg]
    intro hc
    obtain ⟨r, h1, h2⟩ := List.any_eq_true.1 hc
    rw [hno r h1] at h2; cases h2
  have hall : ∀ q ∈ l, sm p q = false := by
    intro q hq
    cases hb : sm p q with
    | false => rfl
    | true =>
      obtain ⟨r, h1, h2⟩ := ho.cov q hq
      have := hs.trans r q p h2 (by rw [hs.symm]; exact hb)
      rw [hno r h1] at this; cases this
  refine ⟨⟨fun c g => ?_, by have := h.len; rw [len_put]; simp; split <;> omega⟩, ?_⟩
  · rw [getL_put, hst]
    have hlen : (grpL sm l).length = (reps sm l).length := by unfold grpL; simp
    by_cases e : c = f p
    · rw [if_pos e, hlen]
      constructor
      · intro hh
        refine ⟨(reps sm l).length, p, by simp, e.symm, (Option.some.inj hh).symm⟩
      · rintro ⟨k, r, h1, h2, h3⟩
        by_cases hk : k < (reps sm l).length
        · rw [List.getElem?_append_left hk] at h1
          have := (h.at_ c g).2 ⟨k, r, h1, h2, h3⟩
          rw [e, hg] at this; cases this
        · have hk2 := (List.getElem?_eq_some_iff.1 h1).1
          simp at hk2
          have : k = (reps sm l).length := by omega
          rw [h3, this]
    · rw [if_neg e, h.at_]
      constructor
      · rintro ⟨k, r, h1, h2, h3⟩
        exact ⟨k, r, by rw [List.getElem?_append_left (List.getElem?_eq_some_iff.1 h1).1]; exact h1, h2, h3⟩
      · rintro ⟨k, r, h1, h2, h3⟩
        by_cases hk : k < (reps sm l).length
        · rw [List.getElem?_append_left hk] at h1
          exact ⟨k, r, h1, h2, h3⟩
        · rw [List.getElem?_append_right (by omega)] at h1
          have hk2 := (List.getElem?_eq_some_iff.1 h1)
          simp at hk2
          rw [hk2.2] at e
          exact absurd h2.symm e
  · unfold grpL
    rw [hst, List.map_append]
    congr 1
    · apply List.map_congr_left
      intro r hr
      simp [List.filter_append, hno r hr]
    · have : l.filter (fun q => sm p q) = [] := by
        rw [List.filter_eq_nil_iff]
        intro q hq
        rw [hall q hq]; simp
      simp [List.filter_append, this, hs.refl]
end Go.Proofs.Ytaafeekkllomhaa
