/-
  WHAT A PEER SAYS, AND WHAT THERE IS BEHIND IT: plain.
-/
import Derived.Test.YtadlecnlgkhneaaAdV
namespace Go.Proofs.Ytadlecnlgkhneaa
open Go.RowKit

abbrev Rts := List (Pf × At)
def hadB (R : Rts) (p : Pf) : Bool := (getL R p).isSome
def turnB (R : Rts) (ns : List Pf) (a : At) (p : Pf) : Bool := match getL R p with | none => decide (p ∈ ns) | some b => !(decide (p ∈ ns)) || !(sameA b a)
def dropAll (R : Rts) (ps : List Pf) : Rts := ps.foldl delL R
def putP (R : Rts) (p : Pf) (a : At) : Rts := delL R p ++ [(p, a)]
def putAll (R : Rts) (ps : List Pf) (a : At) : Rts := ps.foldl (fun R p => putP R p a) R
def saidP (gone nets : List Pf) : List Pf := setOf (gone ++ nets)
def netsP (own : Int) (nets : List Pf) (a : At) : List Pf := if passB a.path own then [] else setOf nets
def cntP (R : Rts) (said ns : List Pf) : Int := (R.length : Int) + ns.length - (said.filter (hadB R)).length
/-- what Update answers, and what there is then. -/
def updP (own most : Int) (R : Rts) (kind : Int) (gone nets : List Pf) (a : At) : Int × List Pf × Rts :=
  if kind = 2 then
    if rights (gone ++ nets) then
      if cntP R (saidP gone nets) (netsP own nets a) > most then (32, [], R)
      else (0, (saidP gone nets).filter (turnB R (netsP own nets a) a), putAll (dropAll R (saidP gone nets)) (netsP own nets a) a)
    else (1, [], R)
  else (1, [], R)
theorem dropAll_snoc (R : Rts) (ps : List Pf) (p : Pf) : dropAll R (ps ++ [p]) = delL (dropAll R ps) p := by unfold dropAll; rw [List.foldl_append]; rfl
theorem putAll_snoc (R : Rts) (ps : List Pf) (p : Pf) (a : At) : putAll R (ps ++ [p]) a = putP (putAll R ps a) p a := by unfold putAll; rw [List.foldl_append]; rfl
theorem take_snoc {α : Type} {l : List α} {k : Nat} {x : α} (h : l[k]? = some x) : l.take (k + 1) = l.take k ++ [x] := by rw [List.take_add_one, h]; rfl
theorem getL_dropAll (R : Rts) : ∀ (ps : List Pf) (p : Pf), getL (dropAll R ps) p = if p ∈ ps then none else getL R p
  | ps, p => by
    unfold dropAll
    induction ps generalizing R with
    | nil => simp
    | cons q ps ih =>
      rw [List.foldl_cons, ih, getL_del]
      by_cases h1 : p ∈ ps
      · rw [if_pos h1, if_pos (List.mem_cons_of_mem _ h1)]
      · by_cases h2 : p = q
        · subst h2; simp
        · rw [if_neg h1, if_neg h2, if_neg (by simp [h1, h2])]
theorem apart_dropAll {R : Rts} (h : KeysApart R) (ps : List Pf) : KeysApart (dropAll R ps) := by
  unfold dropAll
  induction ps generalizing R with
  | nil => exact h
  | cons q ps ih => exact ih (apart_del h q)
theorem len_dropAll {R : Rts} (h : KeysApart R) : ∀ {ps : List Pf}, ps.Nodup → (dropAll R ps).length + (ps.filter (hadB R)).length = R.length
  | ps, hn => by
    induction ps generalizing R with
    | nil => simp [dropAll]
    | cons q ps ih =>
      obtain ⟨h1, h2⟩ := List.nodup_cons.1 hn
      have ih := ih (apart_del h q) h2
      have e : dropAll R (q :: ps) = dropAll (delL R q) ps := rfl
      have e2 : ps.filter (hadB (delL R q)) = ps.filter (hadB R) := by
        refine List.filter_congr fun p hp => ?_
        unfold hadB
        rw [getL_del, if_neg (fun (e : p = q) => h1 (e ▸ hp))]
      rw [e2] at ih
      rw [e]
      have hl := len_del h q
      rw [List.filter_cons]
      by_cases hq : hadB R q = true
      · rw [if_pos hq]
        unfold hadB at hq
        rw [hq] at hl
        simp only [if_true] at hl
        have : 0 < R.length := by
          obtain ⟨v, hv⟩ := Option.isSome_iff_exists.1 hq
          exact List.length_pos_of_mem (getL_mem hv)
        simp only [List.length_cons]
        omega
      · rw [if_neg hq]
        unfold hadB at hq
        rw [if_neg hq] at hl
        omega
theorem getL_put1 (R : Rts) (p : Pf) (a : At) (q : Pf) : getL (putP R p a) q = if q = p then some a else getL R q := by
  unfold putP
  rw [getL_append, getL_del]
  by_cases h : q = p
  · subst h
    rw [if_pos rfl, if_pos rfl]
    simp [getL]
  · rw [if_neg h, if_neg h]
    have : getL [(p, a)] q = none := by rw [getL_none]; intro x hx; simp at hx; subst hx; exact fun e => h e.symm
    rw [this]; cases getL R q <;> rfl
theorem apart_put1 {R : Rts} (h : KeysApart R) (p : Pf) (a : At) : KeysApart (putP R p a) := by
  unfold putP KeysApart
  rw [List.pairwise_append]
  refine ⟨apart_del h p, by simp, fun x hx y hy => ?_⟩
  simp at hy; subst hy
  exact (mem_del.1 hx).2
theorem getL_putAll (a : At) : ∀ (ps : List Pf) (R : Rts) (q : Pf), getL (putAll R ps a) q = if q ∈ ps then some a else getL R q
  | [], R, q => by simp [putAll]
  | p :: ps, R, q => by
    have ih := getL_putAll a ps (putP R p a) q
    have e : putAll R (p :: ps) a = putAll (putP R p a) ps a := rfl
    rw [e, ih, getL_put1]
    by_cases h1 : q ∈ ps
    · rw [if_pos h1, if_pos (List.mem_cons_of_mem _ h1)]
    · by_cases h2 : q = p
      · subst h2; simp
      · rw [if_neg h1, if_neg h2, if_neg (by simp [h1, h2])]
theorem apart_putAll (a : At) : ∀ (ps : List Pf) {R : Rts}, KeysApart R → KeysApart (putAll R ps a)
  | [], _, h => h
  | p :: ps, _, h => apart_putAll a ps (apart_put1 h p a)
theorem delL_no {R : Rts} {p : Pf} (h : getL R p = none) : delL R p = R := by
  unfold delL
  rw [List.filter_eq_self]
  intro q hq
  simpa using getL_none.1 h q hq
/-- those that are put are all new. -/
theorem len_putAll (a : At) : ∀ (ps : List Pf) (R : Rts), ps.Nodup → (∀ p ∈ ps, getL R p = none) → (putAll R ps a).length = R.length + ps.length
  | [], R, _, _ => by simp [putAll]
  | p :: ps, R, hn, h => by
    obtain ⟨h1, h2⟩ := List.nodup_cons.1 hn
    have e : putAll R (p :: ps) a = putAll (putP R p a) ps a := rfl
    rw [e, len_putAll a ps _ h2 (fun q hq => by
      rw [getL_put1, if_neg (fun (e : q = p) => h1 (e ▸ hq))]
      exact h q (List.mem_cons_of_mem _ hq))]
    unfold putP
    rw [delL_no (h p (List.mem_cons_self ..)), List.length_append]
    simp only [List.length_cons, List.length_nil]
    omega
theorem said_srt (gone nets : List Pf) : Srt (saidP gone nets) ∧ ∀ p, p ∈ saidP gone nets ↔ p ∈ gone ∨ p ∈ nets := by
  have := setOf_srt (gone ++ nets)
  exact ⟨this.1, fun p => by rw [saidP, this.2 p, List.mem_append]⟩
theorem nets_srt (own : Int) (nets : List Pf) (a : At) : Srt (netsP own nets a) ∧ ∀ p, p ∈ netsP own nets a → p ∈ nets := by
  unfold netsP
  split
  · exact ⟨List.Pairwise.nil, fun p hp => by simp at hp⟩
  · exact ⟨(setOf_srt nets).1, fun p hp => ((setOf_srt nets).2 p).1 hp⟩
theorem cnt_len {R : Rts} (h : KeysApart R) {said ns : List Pf} (hn : said.Nodup) : cntP R said ns = ((dropAll R said).length : Int) + ns.length := by
  have := len_dropAll h hn
  unfold cntP
  omega
theorem filter_take {α : Type} (f : α → Bool) {l : List α} {k : Nat} {x : α} (h : l[k]? = some x) : (l.take (k + 1)).filter f = (l.take k).filter f ++ if f x then [x] else [] := by
  rw [take_snoc h, List.filter_append]
  congr 1
  by_cases hf : f x = true
  · rw [if_pos hf]; simp [hf]
  · rw [if_neg hf]; simp [hf]
theorem rights_mem {ps : List Pf} (h : rights ps = true) : ∀ p ∈ ps, rightB p.1 p.2 = true := by
  unfold rights at h
  rw [List.all_eq_true] at h
  exact h
theorem get_left (R : Rts) {said : List Pf} (h : Srt said) {k : Nat} {x : Pf} (hx : said[k]? = some x) : getL (dropAll R (said.take k)) x = getL R x := by
  rw [getL_dropAll, if_neg]
  intro hm
  obtain ⟨i, hi⟩ := List.mem_iff_getElem?.1 hm
  have hil : i < k := by have := (List.getElem?_eq_some_iff.1 hi).1; rw [List.length_take] at this; omega
  rw [List.getElem?_take_of_lt hil] at hi
  exact plt_irrefl x (srt_lt h hi hx hil)
theorem drop_next (R : Rts) {said : List Pf} {k : Nat} {x : Pf} (hx : said[k]? = some x) : dropAll R (said.take (k + 1)) = delL (dropAll R (said.take k)) x := by
  rw [take_snoc hx, dropAll_snoc]
theorem put_next (R : Rts) (a : At) {ns : List Pf} {k : Nat} {x : Pf} (hx : ns[k]? = some x) : putAll R (ns.take (k + 1)) a = putP (putAll R (ns.take k) a) x a := by
  rw [take_snoc hx, putAll_snoc]
end Go.Proofs.Ytadlecnlgkhneaa
