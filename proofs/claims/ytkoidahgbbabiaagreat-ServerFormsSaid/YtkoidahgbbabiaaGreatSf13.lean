/- Texts of one proof, one behind another. -/
import Derived.Test.YtkoidahgbbabiaaGreatSf12
import Derived.Test.YtkoidahgbbabiaaGreatSf6
import Derived.Test.YtkoidahgbbabiaaGreatSf7
import Derived.Test.YtkoidahgbbabiaaGreatSf2
import Derived.Test.YtkoidahgbbabiaaGreatSf1
/-
  WHAT A PEER SAYS, AND WHAT THERE IS BEHIND IT: plain.
-/
namespace Go.Proofs.YtkoidahgbbabiaaGreat
open Go.RowKit
abbrev Rts := List (Pf × At)
def hadB (R : Rts) (p : Pf) : Bool := (getL R p).isSome
def turnB (R : Rts) (ns : List Pf) (a : At) (p : Pf) : Bool := match getL R p with | none => decide (p ∈ ns) | some b => !(decide (p ∈ ns)) || !(sameA b a)
def dropAll (R : Rts) (ps : List Pf) : Rts := ps.foldl delL R
def putP (R : Rts) (p : Pf) (a : At) : Rts := delL R p ++ [(p, a)]
def putAll (R : Rts) (ps : List Pf) (a : At) : Rts := ps.foldl (fun R p => putP R p a) R
def saidP (gone nets : List Pf) : List Pf := setOf (gone ++ nets)
def netsP (own : Int) (nets : List Pf) (a : At) : List Pf := if passB a.path own then [] else setOf nets
def cntP (R : Rts) (said ns : List Pf) : Int := (R.length : Int) + ns.length - (said.filter (hadB R)).length
def updP (own most : Int) (R : Rts) (kind : Int) (gone nets : List Pf) (a : At) : Int × List Pf × Rts :=
  if kind = 2 then
    if rights (gone ++ nets) then
      if cntP R (saidP gone nets) (netsP own nets a) > most then (32, [], R)
      else (0, (saidP gone nets).filter (turnB R (netsP own nets a) a), putAll (dropAll R (saidP gone nets)) (netsP own nets a) a)
    else (1, [], R)
  else (1, [], R)
theorem dropAll_snoc (R : Rts) (ps : List Pf) (p : Pf) : dropAll R (ps ++ [p]) = delL (dropAll R ps) p := by unfold dropAll; rw [List.foldl_append]; rfl
theorem putAll_snoc (R : Rts) (ps : List Pf) (p : Pf) (a : At) : putAll R (ps ++ [p]) a = putP (putAll R ps a) p a := by unfold putAll; rw [List.foldl_append]; rfl
theorem take_snoc {α : Type} {l : List α} {k : Nat} {x : α} (h : l[k]? = some x) : l.take (k + 1) = l.take k ++ [x] := by rw [List.take_add_one, h]; rfl
theorem getL_dropAll (R : Rts) : ∀ (ps : List Pf) (p : Pf), getL (dropAll R ps) p = if p ∈ ps then none else getL R p
  | ps, p => by
    unfold dropAll
    induction ps generalizing R with
    | nil => simp
    | cons q ps ih =>
      rw [List.foldl_cons, ih, getL_del]
      by_cases h1 : p ∈ ps
      · rw [if_pos h1, if_pos (List.mem_cons_of_mem _ h1)]
      · by_cases h2 : p = q
        · subst h2; simp
        · rw [if_neg h1, if_neg h2, if_neg (by simp [h1, h2])]
theorem len_dropAll {R : Rts} (h : KeysApart R) : ∀ {ps : List Pf}, ps.Nodup → (dropAll R ps).length + (ps.filter (hadB R)).length = R.length
  | ps, hn => by
    induction ps generalizing R with
    | nil => simp [dropAll]
    | cons q ps ih =>
      obtain ⟨h1, h2⟩ := List.nodup_cons.1 hn
      have ih := ih (apart_del h q) h2
      have e : dropAll R (q :: ps) = dropAll (delL R q) ps := rfl
      have e2 : ps.filter (hadB (delL R q)) = ps.filter (hadB R) := by
        refine List.filter_congr fun p hp => ?_
        unfold hadB
        rw [getL_del, if_neg (fun (e : p = q) => h1 (e ▸ hp))]
      rw [e2] at ih
      rw [e]
      have hl := len_del h q
      rw [List.filter_cons]
      by_cases hq : hadB R q = true
      · rw [if_pos hq]
        unfold hadB at hq
        rw [hq] at hl
        simp only [if_true] at hl
        have : 0 < R.length := by
          obtain ⟨v, hv⟩ := Option.isSome_iff_exists.1 hq
          exact List.length_pos_of_mem (getL_mem hv)
        simp only [List.length_cons]
        omega
      · rw [if_neg hq]
        unfold hadB at hq
        rw [if_neg hq] at hl
        omega
theorem getL_put1 (R : Rts) (p : Pf) (a : At) (q : Pf) : getL (putP R p a) q = if q = p then some a else getL R q := by
  unfold putP
  rw [getL_append, getL_del]
  by_cases h : q = p
  · subst h
    rw [if_pos rfl, if_pos rfl]
    simp [getL]
  · rw [if_neg h, if_neg h]
    have : getL [(p, a)] q = none := by rw [getL_none]; intro x hx; simp at hx; subst hx; exact fun e => h e.symm
    rw [this]; cases getL R q <;> rfl
theorem getL_putAll (a : At) : ∀ (ps : List Pf) (R : Rts) (q : Pf), getL (putAll R ps a) q = if q ∈ ps then some a else getL R q
  | [], R, q => by simp [putAll]
  | p :: ps, R, q => by
    have ih := getL_putAll a ps (putP R p a) q
    have e : putAll R (p :: ps) a = putAll (putP R p a) ps a := rfl
    rw [e, ih, getL_put1]
    by_cases h1 : q ∈ ps
    · rw [if_pos h1, if_pos (List.mem_cons_of_mem _ h1)]
    · by_cases h2 : q = p
      · subst h2; simp
      · rw [if_neg h1, if_neg h2, if_neg (by simp [h1, h2])]
theorem delL_no {R : Rts} {p : Pf} (h : getL R p = none) : delL R p = R := by
  unfold delL
  rw [List.filter_eq_self]
  intro q hq
  simpa using getL_none.1 h q hq
theorem len_putAll (a : At) : ∀ (ps : List Pf) (R : Rts), ps.Nodup → (∀ p ∈ ps, getL R p = none) → (putAll R ps a).length = R.length + ps.length
  | [], R, _, _ => by simp [putAll]
  | p :: ps, R, hn, h => by
    obtain ⟨h1, h2⟩ := List.nodup_cons.1 hn
    have e : putAll R (p :: ps) a = putAll (putP R p a) ps a := rfl
    rw [e, len_putAll a ps _ h2 (fun q hq => by
      rw [getL_put1, if_neg (fun (e : q = p) => h1 (e ▸ hq))]
      exact h q (List.mem_cons_of_mem _ hq))]
    unfold putP
    rw [delL_no (h p (List.mem_cons_self ..)), List.length_append]
    simp only [List.length_cons, List.length_nil]
    omega
theorem said_srt (gone nets : List Pf) : Srt (saidP gone nets) ∧ ∀ p, p ∈ saidP gone nets ↔ p ∈ gone ∨ p ∈ nets := by
  have := setOf_srt (gone ++ nets)
  exact ⟨this.1, fun p => by rw [saidP, this.2 p, List.mem_append]⟩
theorem nets_srt (own : Int) (nets : List Pf) (a : At) : Srt (netsP own nets a) ∧ ∀ p, p ∈ netsP own nets a → p ∈ nets := by
  unfold netsP
  split
  · exact ⟨List.Pairwise.nil, fun p hp => by simp at hp⟩
  · exact ⟨(setOf_srt nets).1, fun p hp => ((setOf_srt nets).2 p).1 hp⟩
theorem cnt_len {R : Rts} (h : KeysApart R) {said ns : List Pf} (hn : said.Nodup) : cntP R said ns = ((dropAll R said).length : Int) + ns.length := by
  have := len_dropAll h hn
  unfold cntP
  omega
theorem filter_take {α : Type} (f : α → Bool) {l : List α} {k : Nat} {x : α} (h : l[k]? = some x) : (l.take (k + 1)).filter f = (l.take k).filter f ++ if f x then [x] else [] := by
  rw [take_snoc h, List.filter_append]
  congr 1
  by_cases hf : f x = true
  · rw [if_pos hf]; simp [hf]
  · rw [if_neg hf]; simp [hf]
theorem rights_mem {ps : List Pf} (h : rights ps = true) : ∀ p ∈ ps, rightB p.1 p.2 = true := by
  unfold rights at h
  rw [List.all_eq_true] at h
  exact h
theorem get_left (R : Rts) {said : List Pf} (h : Srt said) {k : Nat} {x : Pf} (hx : said[k]? = some x) : getL (dropAll R (said.take k)) x = getL R x := by
  rw [getL_dropAll, if_neg]
  intro hm
  obtain ⟨i, hi⟩ := List.mem_iff_getElem?.1 hm
  have hil : i < k := by have := (List.getElem?_eq_some_iff.1 hi).1; rw [List.length_take] at this; omega
  rw [List.getElem?_take_of_lt hil] at hi
  exact plt_irrefl x (srt_lt h hi hx hil)
theorem drop_next (R : Rts) {said : List Pf} {k : Nat} {x : Pf} (hx : said[k]? = some x) : dropAll R (said.take (k + 1)) = delL (dropAll R (said.take k)) x := by
  rw [take_snoc hx, dropAll_snoc]
theorem put_next (R : Rts) (a : At) {ns : List Pf} {k : Nat} {x : Pf} (hx : ns[k]? = some x) : putAll R (ns.take (k + 1)) a = putP (putAll R (ns.take k) a) x a := by
  rw [take_snoc hx, putAll_snoc]
end Go.Proofs.YtkoidahgbbabiaaGreat
/-
  WHATEVER A PEER SAYS, BY A LIST: plain: the list of routes, as the law keeps it, has what the rib has; how many have turned.
-/
namespace Go.Proofs.YtkoidahgbbabiaaGreat
open Go.RowKit
structure Rel (R L : Rts) : Prop where
  r : KeysApart R
  l : KeysApart L
  eq : ∀ p, getL R p = getL L p
theorem keys_nodup {R : Rts} (h : KeysApart R) : (R.map (·.1)).Nodup := by
  unfold KeysApart at h
  rw [List.nodup_iff_pairwise_ne, List.pairwise_map]
  exact h
theorem mem_keys {R : Rts} {p : Pf} : p ∈ R.map (·.1) ↔ (getL R p).isSome = true := by
  rw [List.mem_map]
  constructor
  · rintro ⟨x, hx, rfl⟩
    by_cases h : getL R x.1 = none
    · exact absurd rfl (getL_none.1 h x hx)
    · exact Option.isSome_iff_ne_none.2 h
  · intro h
    obtain ⟨a, ha⟩ := Option.isSome_iff_exists.1 h
    exact ⟨(p, a), getL_mem ha, rfl⟩
theorem Rel.len {R L : Rts} (h : Rel R L) : R.length = L.length := by
  have : (R.map (·.1)).Perm (L.map (·.1)) := (List.perm_ext_iff_of_nodup (keys_nodup h.r) (keys_nodup h.l)).2 fun p => by rw [mem_keys, mem_keys, h.eq]
  simpa using this.length_eq
theorem Rel.nil : Rel [] [] := ⟨List.Pairwise.nil, List.Pairwise.nil, fun _ => rfl⟩
end Go.Proofs.YtkoidahgbbabiaaGreat
/-
  THE SERVER, PLAIN: participants; who says what; who offers it rc whom; which is the best one.
-/
namespace Go.Proofs.YtkoidahgbbabiaaGreat
open Go.RowKit
structure Pm where
  as_ : Int
  id : Nat
  there : Bool
  R : Rts
  news : Pf → Bool
def cdOf (i : Nat) (p : Pf) (id : Nat) (a : At) : Cd := ⟨(i : Int), p.1.toNat, p.2, a, id⟩
def saidOne (p : Pf) (i : Nat) (m : Pm) : List Cd := match getL m.R p with | none => [] | some a => [cdOf i p m.id a]
def saidF (p : Pf) : Nat → List Pm → List Cd
  | _, [] => []
  | i, m :: ms => saidOne p i m ++ saidF p (i + 1) ms
def saidS (ms : List Pm) (p : Pf) : List Cd := saidF p 0 ms
def goesC (own : Int) (bl : Nat → Bool) (rc : Nat) (t : Int) (c : Cd) : Bool := goesB own bl c.a c.peer.toNat rc t
def offL (own : Int) (bl : Nat → Bool) (rc : Nat) (t : Int) (l : List Cd) : List Cd := l.filter (goesC own bl rc t)
def asOf (ms : List Pm) (rc : Nat) : Int := ((ms[rc]?).map (·.as_)).getD 0
def offS (own : Int) (bl : Nat → Bool) (ms : List Pm) (rc : Nat) (p : Pf) : List Cd := offL own bl rc (asOf ms rc) (saidS ms p)
def pickB (l : List Cd) : Option (Int × At) := if bestI l < 0 then none else (l[(bestI l).toNat]?).map fun c => (c.peer, c.a)
def bestS (own : Int) (bl : Nat → Bool) (ms : List Pm) (rc : Nat) (p : Pf) : Option (Int × At) := pickB (offS own bl ms rc p)
theorem saidF_snoc (p : Pf) : ∀ (ms : List Pm) (i : Nat) (m : Pm), saidF p i (ms ++ [m]) = saidF p i ms ++ saidOne p (i + ms.length) m
  | [], i, m => by simp [saidF]
  | x :: ms, i, m => by
    rw [List.cons_append, saidF, saidF_snoc p ms (i + 1) m, saidF, List.length_cons, List.append_assoc, show i + 1 + ms.length = i + (ms.length + 1) by omega]
theorem saidS_take (p : Pf) {ms : List Pm} {k : Nat} {m : Pm} (h : ms[k]? = some m) : saidS (ms.take (k + 1)) p = saidS (ms.take k) p ++ saidOne p k m := by
  unfold saidS
  rw [take_snoc h, saidF_snoc]
  have : (ms.take k).length = k := by rw [List.length_take]; have := (List.getElem?_eq_some_iff.1 h).1; omega
  rw [this, Nat.zero_add]
theorem saidF_mem {p : Pf} {c : Cd} : ∀ {ms : List Pm} {i : Nat}, c ∈ saidF p i ms → ∃ (k : Nat) (m : Pm) (a : At), ms[k]? = some m ∧ getL m.R p = some a ∧ c = cdOf (i + k) p m.id a
  | [], i, h => by simp [saidF] at h
  | m :: ms, i, h => by
    rw [saidF, List.mem_append] at h
    rcases h with h | h
    · unfold saidOne at h
      cases hg : getL m.R p with
      | none => rw [hg] at h; simp at h
      | some a =>
        rw [hg] at h
        exact ⟨0, m, a, rfl, hg, List.mem_singleton.1 h⟩
    · obtain ⟨k, m', a, h1, h2, h3⟩ := saidF_mem h
      exact ⟨k + 1, m', a, by simpa using h1, h2, by rw [h3]; congr 1; omega⟩
theorem saidS_mem {p : Pf} {c : Cd} {ms : List Pm} (h : c ∈ saidS ms p) : ∃ (k : Nat) (m : Pm) (a : At), ms[k]? = some m ∧ getL m.R p = some a ∧ c = cdOf k p m.id a := by
  obtain ⟨k, m, a, h1, h2, h3⟩ := saidF_mem h
  exact ⟨k, m, a, h1, h2, by rw [h3, Nat.zero_add]⟩
theorem saidF_len (p : Pf) : ∀ (ms : List Pm) (i : Nat), (saidF p i ms).length ≤ ms.length
  | [], _ => by simp [saidF]
  | m :: ms, i => by
    rw [saidF, List.length_append, List.length_cons]
    have := saidF_len p ms (i + 1)
    have : (saidOne p i m).length ≤ 1 := by unfold saidOne; split <;> simp
    omega
theorem saidS_len (p : Pf) (ms : List Pm) : (saidS ms p).length ≤ ms.length := saidF_len p ms 0
theorem saidF_congr {p : Pf} : ∀ {ms ns : List Pm} {i : Nat}, ms.length = ns.length → (∀ (k : Nat) (m n : Pm), ms[k]? = some m → ns[k]? = some n → m.id = n.id ∧ getL m.R p = getL n.R p) → saidF p i ms = saidF p i ns
  | [], [], _, _, _ => rfl
  | [], _ :: _, _, h, _ => by simp at h
  | _ :: _, [], _, h, _ => by simp at h
  | m :: ms, n :: ns, i, hl, h => by
    rw [saidF, saidF, saidF_congr (by simpa using hl) fun k x y hx hy => h (k + 1) x y (by simpa using hx) (by simpa using hy)]
    obtain ⟨h1, h2⟩ := h 0 m n rfl rfl
    unfold saidOne
    rw [h1, h2]
theorem pickB_none {l : List Cd} : pickB l = none ↔ l = [] := by
  constructor
  · intro h
    by_cases e : l = []
    · exact e
    · obtain ⟨i, c, h1, h2, -⟩ := bestI_spec e
      unfold pickB at h
      rw [h2, if_neg (by omega), Int.toNat_natCast, h1] at h
      cases h
  · rintro rfl; rfl
theorem pickB_some {l : List Cd} (h : l ≠ []) : ∃ (i : Nat) (c : Cd), l[i]? = some c ∧ bestI l = i ∧ pickB l = some (c.peer, c.a) := by
  obtain ⟨i, c, h1, h2, -⟩ := bestI_spec h
  refine ⟨i, c, h1, h2, ?_⟩
  unfold pickB
  rw [h2, if_neg (by omega), Int.toNat_natCast, h1]
  rfl
structure Sv where
  own : Int
  most : Int
  bl : Nat → Bool
  ms : List Pm
  best : Nat → Pf → Option (Int × At)
def sameB : Option (Int × At) → Option (Int × At) → Bool
  | none, none => true
  | some x, some y => x.1 == y.1 && sameA x.2 y.2
  | _, _ => false
theorem sameB_iff (x y : Option (Int × At)) : sameB x y = true ↔ x = y := by
  match x, y with
  | none, none => simp [sameB]
  | none, some _ => simp [sameB]
  | some _, none => simp [sameB]
  | some (i, a), some (j, b) => simp [sameB, sameA_iff]
def updB (f : Nat → Pf → Option (Int × At)) (rc : Nat) (p : Pf) (b : Option (Int × At)) : Nat → Pf → Option (Int × At) := fun i q => if i = rc ∧ q = p then b else f i q
def Pm.mark (m : Pm) (p : Pf) (c : Bool) : Pm := { m with news := fun q => m.news q || (c && decide (q = p)) }
def setBestS (S : Sv) (rc : Nat) (p : Pf) (b : Option (Int × At)) : Sv := { S with best := updB S.best rc p b }
def markS (S : Sv) (rc : Nat) (p : Pf) (c : Bool) : Sv := { S with ms := S.ms.modify rc fun m => m.mark p (m.there && c) }
def newBest (S : Sv) (rc : Nat) (l : List Cd) : Option (Int × At) := pickB (offL S.own S.bl rc (asOf S.ms rc) l)
def renewP (S : Sv) (rc : Nat) (p : Pf) (l : List Cd) : Sv := markS (setBestS S rc p (newBest S rc l)) rc p (!sameB (S.best rc p) (newBest S rc l))
def turn1 (S : Sv) (p : Pf) (l : List Cd) (k : Nat) : Sv := (List.range k).foldl (fun S rc => renewP S rc p l) S
def turnP (S : Sv) (p : Pf) : Sv := turn1 S p (saidS S.ms p) S.ms.length
def turnS (S : Sv) (ps : List Pf) : Sv := ps.foldl turnP S
theorem turn1_succ (S : Sv) (p : Pf) (l : List Cd) (k : Nat) : turn1 S p l (k + 1) = renewP (turn1 S p l k) k p l := by
  unfold turn1; rw [List.range_succ, List.foldl_append]; rfl
theorem turnS_snoc (S : Sv) (ps : List Pf) (p : Pf) : turnS S (ps ++ [p]) = turnP (turnS S ps) p := by unfold turnS; rw [List.foldl_append]; rfl
theorem turnS_app (S : Sv) (ps qs : List Pf) : turnS S (ps ++ qs) = turnS (turnS S ps) qs := by unfold turnS; rw [List.foldl_append]
@[simp] theorem markS_own (S : Sv) (rc : Nat) (p : Pf) (c : Bool) : (markS S rc p c).own = S.own := rfl
@[simp] theorem markS_bl (S : Sv) (rc : Nat) (p : Pf) (c : Bool) : (markS S rc p c).bl = S.bl := rfl
@[simp] theorem markS_best (S : Sv) (rc : Nat) (p : Pf) (c : Bool) : (markS S rc p c).best = S.best := rfl
theorem markS_len (S : Sv) (rc : Nat) (p : Pf) (c : Bool) : (markS S rc p c).ms.length = S.ms.length := by unfold markS; simp
theorem markS_get (S : Sv) (rc : Nat) (p : Pf) (c : Bool) (i : Nat) : (markS S rc p c).ms[i]? = (S.ms[i]?).map fun m => if i = rc then m.mark p (m.there && c) else m := by
  unfold markS
  simp only [List.getElem?_modify]
  cases S.ms[i]? with
  | none => rfl
  | some m =>
    simp only [Option.map_some, Option.map_eq_map, eq_comm (a := rc)]
structure SvKin (S T : Sv) : Prop where
  own : T.own = S.own
  most : T.most = S.most
  bl : T.bl = S.bl
  len : T.ms.length = S.ms.length
  mem : ∀ (i : Nat) (m : Pm), S.ms[i]? = some m → ∃ n, T.ms[i]? = some n ∧ n.as_ = m.as_ ∧ n.id = m.id ∧ n.there = m.there ∧ n.R = m.R
theorem SvKin.refl (S : Sv) : SvKin S S := ⟨rfl, rfl, rfl, rfl, fun _ m h => ⟨m, h, rfl, rfl, rfl, rfl⟩⟩
theorem SvKin.trans {S T U : Sv} (h : SvKin S T) (k : SvKin T U) : SvKin S U :=
  ⟨k.own.trans h.own, k.most.trans h.most, k.bl.trans h.bl, k.len.trans h.len, fun i m hm => by
    obtain ⟨n, h1, h2, h3, h4, h5⟩ := h.mem i m hm
    obtain ⟨o, k1, k2, k3, k4, k5⟩ := k.mem i n h1
    exact ⟨o, k1, k2.trans h2, k3.trans h3, k4.trans h4, k5.trans h5⟩⟩
theorem SvKin.back {S T : Sv} (h : SvKin S T) {i : Nat} {n : Pm} (hn : T.ms[i]? = some n) : ∃ m, S.ms[i]? = some m ∧ n.as_ = m.as_ ∧ n.id = m.id ∧ n.there = m.there ∧ n.R = m.R := by
  have hi : i < S.ms.length := by rw [← h.len]; exact (List.getElem?_eq_some_iff.1 hn).1
  obtain ⟨m, hm⟩ : ∃ m, S.ms[i]? = some m := ⟨_, List.getElem?_eq_getElem hi⟩
  obtain ⟨n', h1, h2⟩ := h.mem i m hm
  rw [hn] at h1; injection h1 with h1; subst h1
  exact ⟨m, hm, h2⟩
theorem SvKin.said {S T : Sv} (h : SvKin S T) (p : Pf) : saidS T.ms p = saidS S.ms p :=
  saidF_congr h.len fun k m n hm hn => by
    obtain ⟨m', h1, h2, h3, h4, h5⟩ := h.back hm
    rw [hn] at h1; injection h1 with h1; subst h1
    exact ⟨h3, by rw [h5]⟩
theorem SvKin.asO {S T : Sv} (h : SvKin S T) (rc : Nat) : asOf T.ms rc = asOf S.ms rc := by
  unfold asOf
  cases hm : S.ms[rc]? with
  | none =>
    have : T.ms[rc]? = none := by rw [List.getElem?_eq_none_iff] at hm ⊢; rw [h.len]; exact hm
    rw [this]
  | some m =>
    obtain ⟨n, h1, h2, -⟩ := h.mem rc m hm
    rw [h1]; simp [h2]
theorem kin_mark (S : Sv) (rc : Nat) (p : Pf) (c : Bool) : SvKin S (markS S rc p c) :=
  ⟨rfl, rfl, rfl, markS_len .., fun i m hm => by
    rw [markS_get, hm]
    refine ⟨_, rfl, ?_⟩
    split <;> exact ⟨rfl, rfl, rfl, rfl⟩⟩
theorem kin_best (S : Sv) (rc : Nat) (p : Pf) (b : Option (Int × At)) : SvKin S (setBestS S rc p b) := ⟨rfl, rfl, rfl, rfl, fun _ m h => ⟨m, h, rfl, rfl, rfl, rfl⟩⟩
theorem kin_renew (S : Sv) (rc : Nat) (p : Pf) (l : List Cd) : SvKin S (renewP S rc p l) := (kin_best S rc p _).trans (kin_mark _ rc p _)
theorem kin_turn1 (S : Sv) (p : Pf) (l : List Cd) : ∀ k, SvKin S (turn1 S p l k)
  | 0 => SvKin.refl S
  | k + 1 => by rw [turn1_succ]; exact (kin_turn1 S p l k).trans (kin_renew ..)
theorem kin_turn : ∀ (ps : List Pf) (S : Sv), SvKin S (turnS S ps)
  | [], S => SvKin.refl S
  | p :: ps, S => (kin_turn1 S p _ _).trans (kin_turn ps (turnP S p))
def bestIn (S : Sv) (rc : Nat) (p : Pf) : Option (Int × At) := bestS S.own S.bl S.ms rc p
theorem SvKin.bestIn {S T : Sv} (h : SvKin S T) (rc : Nat) (p : Pf) : bestIn T rc p = bestIn S rc p := by
  unfold Proofs.YtkoidahgbbabiaaGreat.bestIn bestS offS
  rw [h.own, h.bl, h.asO, h.said]
theorem newBest_said (S : Sv) (rc : Nat) (p : Pf) : newBest S rc (saidS S.ms p) = bestIn S rc p := rfl
theorem SvKin.newBest {S T : Sv} (h : SvKin S T) (rc : Nat) (l : List Cd) : newBest T rc l = newBest S rc l := by
  unfold Proofs.YtkoidahgbbabiaaGreat.newBest
  rw [h.own, h.bl, h.asO]
theorem turn1_best (S : Sv) (p : Pf) (l : List Cd) : ∀ (k i : Nat) (q : Pf), (turn1 S p l k).best i q = if i < k ∧ q = p then newBest S i l else S.best i q
  | 0, i, q => by rw [if_neg (by omega)]; rfl
  | k + 1, i, q => by
    rw [turn1_succ]
    unfold renewP setBestS
    simp only [markS_best]
    unfold updB
    rw [turn1_best S p l k, (kin_turn1 S p l k).newBest]
    by_cases h : i = k ∧ q = p
    · obtain ⟨rfl, rfl⟩ := h
      rw [if_pos ⟨rfl, rfl⟩, if_pos ⟨by omega, rfl⟩]
    · rw [if_neg h]
      by_cases h2 : i < k ∧ q = p
      · rw [if_pos h2, if_pos ⟨by omega, h2.2⟩]
      · rw [if_neg h2, if_neg (fun h3 => ?_)]
        by_cases e : i = k
        · exact h ⟨e, h3.2⟩
        · exact h2 ⟨by omega, h3.2⟩
theorem turn1_mem (S : Sv) (p : Pf) (l : List Cd) : ∀ (k i : Nat) (m : Pm), S.ms[i]? = some m → (turn1 S p l k).ms[i]? = some (if i < k then m.mark p (m.there && !sameB (S.best i p) (newBest S i l)) else m)
  | 0, i, m, hm => by rw [if_neg (by omega)]; exact hm
  | k + 1, i, m, hm => by
    rw [turn1_succ]
    unfold renewP
    rw [markS_get]
    unfold setBestS
    simp only
    rw [turn1_mem S p l k i m hm, (kin_turn1 S p l k).newBest, turn1_best, if_neg (by omega)]
    simp only [Option.map_some, Option.some.injEq]
    by_cases h : i = k
    · subst h
      rw [if_pos rfl, if_neg (by omega), if_pos (by omega)]
    · rw [if_neg h]
      by_cases h2 : i < k
      · rw [if_pos h2, if_pos (by omega)]
      · rw [if_neg h2, if_neg (by omega)]
theorem mark_news (m : Pm) (p : Pf) (c : Bool) (q : Pf) : (m.mark p c).news q = (m.news q || (c && decide (q = p))) := rfl
theorem turnS_best : ∀ (ps : List Pf) (S : Sv) (i : Nat) (q : Pf), i < S.ms.length → (turnS S ps).best i q = if q ∈ ps then bestIn S i q else S.best i q
  | [], S, i, q, _ => by rw [if_neg (by simp)]; rfl
  | p :: ps, S, i, q, hi => by
    have hk : SvKin S (turnP S p) := kin_turn1 S p _ _
    show (turnS (turnP S p) ps).best i q = _
    rw [turnS_best ps (turnP S p) i q (by rw [hk.len]; exact hi), hk.bestIn]
    by_cases h : q ∈ ps
    · rw [if_pos h, if_pos (List.mem_cons_of_mem _ h)]
    · rw [if_neg h]
      unfold turnP
      rw [turn1_best]
      by_cases e : q = p
      · subst e
        rw [if_pos ⟨hi, rfl⟩, if_pos (List.mem_cons_self ..), newBest_said]
      · rw [if_neg (fun h2 => e h2.2), if_neg (by simp [e, h])]
theorem turnS_news : ∀ (ps : List Pf) (S : Sv) (i : Nat) (m : Pm), S.ms[i]? = some m → ∃ n, (turnS S ps).ms[i]? = some n ∧ n.as_ = m.as_ ∧ n.id = m.id ∧ n.there = m.there ∧ n.R = m.R ∧ ∀ q, n.news q = (m.news q || (m.there && (decide (q ∈ ps) && !sameB (S.best i q) (bestIn S i q))))
  | [], S, i, m, hm => ⟨m, hm, rfl, rfl, rfl, rfl, fun q => by simp⟩
  | p :: ps, S, i, m, hm => by
    have hi := (List.getElem?_eq_some_iff.1 hm).1
    have hk : SvKin S (turnP S p) := kin_turn1 S p _ _
    have h1 : (turnP S p).ms[i]? = some (m.mark p (m.there && !sameB (S.best i p) (bestIn S i p))) := by
      unfold turnP
      rw [turn1_mem S p _ _ i m hm, if_pos hi, newBest_said]
    obtain ⟨n, n1, n2, n3, n4, n5, n6⟩ := turnS_news ps (turnP S p) i _ h1
    refine ⟨n, n1, n2, n3, n4, n5, fun q => ?_⟩
    rw [n6, mark_news, hk.bestIn]
    have hb : (turnP S p).best i q = if q = p then bestIn S i q else S.best i q := by
      unfold turnP
      rw [turn1_best]
      by_cases e : q = p
      · subst e; rw [if_pos ⟨hi, rfl⟩, if_pos rfl, newBest_said]
      · rw [if_neg (fun h => e h.2), if_neg e]
    rw [hb]
    have hth : (m.mark p (m.there && !sameB (S.best i p) (bestIn S i p))).there = m.there := rfl
    rw [hth]
    by_cases e : q = p
    · subst e
      have : sameB (bestIn S i q) (bestIn S i q) = true := (sameB_iff _ _).2 rfl
      simp [this]
    · have h3 : decide (q ∈ p :: ps) = decide (q ∈ ps) := by simp [e]
      rw [if_neg e, h3]
      simp [e]
end Go.Proofs.YtkoidahgbbabiaaGreat
/-
  ALL ROUTES OF A PEER: New, Len, Get.
-/
namespace Go.Proofs.YtkoidahgbbabiaaGreat
open Go.RowKit
set_option maxHeartbeats 1600000 in
set_option maxRecDepth 100000 in
theorem ad_New (peer own most : Int) (w : World) : Calls Tryz.prog 57 #[.int .i64 peer, .int .i64 own, .int .i64 most] w fun e w' => ∃ rb, e = .returned (.pointer (some ⟨rb, 0, none⟩)) ∧ RibAt w' rb peer own (min (max most 0) 256) [] (fun k => w.heap.size ≤ k ∧ k < w'.heap.size) ∧ Below w.heap.size w w' := by
  have FIN : Hid (∀ m w1, m = min (max most 0) 256 → TrI w1 w.heap.size (fun _ => none) [] (min (max m 0) 4096) → Below w.heap.size w w1 → RibAt (w1.alloc (.cells #[.int .i64 peer, .int .i64 own, .int .i64 m, .pointer (some ⟨w.heap.size, 0, none⟩)] 169)) w1.heap.size peer own (min (max most 0) 256) [] (fun k => w.heap.size ≤ k ∧ k < (w1.alloc (.cells #[.int .i64 peer, .int .i64 own, .int .i64 m, .pointer (some ⟨w.heap.size, 0, none⟩)] 169)).heap.size)) := Lib.hid (by
    intro m w1 hm ht hb
    rw [← hm]
    have e : min (max m 0) 4096 = m := by omega
    rw [e] at ht
    have hlt := ht.lt
    refine ⟨w.heap.size, fun _ => none, [], ⟨heap_alloc_new w1 _, ht.below ((Below.refl _ _).alloc (Nat.le_refl _) _), by simp, by simp, by simp, ?_, ?_, by simp, ?_, by simp, by omega, by omega, by simp; omega⟩, rfl⟩
    · have := hb.size; simp; omega
    · intro b hb'
      rcases hb' with rfl | ⟨k, hk⟩
      · simp; omega
      · cases hk
    · intro x
      rcases x with x | ⟨k, hk⟩
      · omega
      · cases hk)
  have TN := Lib.hid (fun m => trI_New m w)
  go_enter Tryz.func57, Tryz.ntmps57
  go_upto_region 2 with (fail)
  all_goals
    go_wp2_with fail
    refine (TN.out _).mono ?_
    rintro e w1 ⟨rfl, T1, hb⟩
    have T := Lib.hid T1
    have HB := Lib.hid hb
    clear T1 hb
    go_wp2_with fail
    go_ret
    exact ⟨_, rfl, FIN.out _ _ (by omega) T.out HB.out, HB.out.alloc HB.out.size _⟩
abbrev rtC (peer : Int) (p : Pf) (v : AV) : Array Value := #[.int .i64 peer, .int .u32 p.1, .int .i64 p.2, .int .i64 v.has, .int .i64 v.origin, .slice v.ps v.pn v.pc, .int .u32 v.hop, .int .i64 v.med, .int .i64 v.loc, .int .i64 v.aggrAs, .int .u32 v.aggrId, .slice v.cs v.cn v.cc, .slice v.os v.on v.oc]
theorem rt_one (peer : Int) (p : Pf) (v : AV) : ((rtC peer p v).all (·.oneCell')) = true := by simp [Value.oneCell']
theorem results_GetR (tmps : Array Value) (W : World) (b : Nat) (C : Array Value) (hC : C.size = 13) (c : Bool) (h4 : tmps.getD 4 undef = .pointer (some ⟨b, 0, none⟩)) (h5 : tmps.getD 5 undef = .bool c) (hb : W.heap[b]? = some (.cells C 61 (0, 0))) :
    (results Tryz.f75 tmps).run Tryz.prog W = .ok (.tuple #[.agg C, .bool c]) W := by
  have hl := run_loadVar_row (P := Tryz.prog) W b 61 61 C (0, 0) _ hb Tryz.underlying61 rfl (by rw [hC]; kernel_rfl)
  unfold results
  rw [Tryz.results75]
  simp [h4, h5, hl, asAddr, -Array.getD_eq_getD_getElem?]
theorem box_pr (w : World) (a n : Int) : ∃ W0, W0 = (w.alloc (.cells #[.int .u32 a, .int .i64 n] 53)).alloc (.cells #[.int .i64 0, .int .u32 0, .int .i64 0, .int .i64 0, .int .i64 0, .slice none 0 0, .int .u32 0, .int .i64 0, .int .i64 0, .int .i64 0, .int .u32 0, .slice none 0 0, .slice none 0 0] 61) ∧ W0.cell? ⟨w.heap.size, 0, none⟩ = some (.int .u32 a) ∧ W0.cell? ⟨w.heap.size, 1, none⟩ = some (.int .i64 n) ∧ W0.heap[w.heap.size + 1]? = some (.cells (rtC 0 (0, 0) av0) 61 (0, 0)) ∧ Below w.heap.size w W0 := by
  obtain ⟨W0, h1, h2, h3, h4⟩ := boxTwo w #[.int .u32 a, .int .i64 n] 53 (rtC 0 (0, 0) av0) 61
  exact ⟨W0, h1, row_cell h2 0, row_cell h2 1, h3, h4⟩
def GetPost (peer : Int) (R : List (Pf × At)) (p : Pf) (w : World) (e : Ending) (w' : World) : Prop :=
  (getL R p = none ∧ e = .returned (.tuple #[.agg (rtC 0 (0, 0) av0), .bool false]) ∧ Below w.heap.size w w') ∨
  ∃ (a : At) (v : AV), getL R p = some a ∧ e = .returned (.tuple #[.agg (rtC peer p v), .bool true]) ∧ AtSz a ∧ Fresh w.heap.size w' (fun W => AvU W a v) ∧ Below w.heap.size w w'
theorem box_zk {W : World} {p : World → Prop} (h : ∀ w1 : World, w1.heap[W.heap.size]? = some (.cells av0.C 42 (0, 0)) → Below W.heap.size W w1 → p w1) : p (W.alloc (.cells #[.int .i64 0, .int .i64 0, .slice none 0 0, .int .u32 0, .int .i64 0, .int .i64 0, .int .i64 0, .int .u32 0, .slice none 0 0, .slice none 0 0] 42)) :=
  h _ (heap_alloc_new W _) ((Below.refl _ _).alloc (Nat.le_refl _) _)
theorem setRow_k {W : World} {p : World → Prop} {g : Nat} {old cs : Array Value} {t : TypeId} (hg : W.heap[g]? = some (.cells old t (0, 0))) (h : ∀ w1 : World, w1.heap[g]? = some (.cells cs t (0, 0)) → Kept (fun b => b = g) W w1 → p w1) : p (W.setRow g cs) :=
  h _ (setRow_heap _ _ _ _ _ _ hg) (kept_setRow _ _ rfl)
theorem rib_get {rb tb : Nat} {N : Nat → Option Nat} {E : List Ent} {peer own most : Int} {F : Nat → Prop} (p : Pf) (W : World) (h : RibIn W rb tb N E peer own most F) (hp : OkP p) :
    (findE E p = none → Calls Tryz.prog 97 #[.pointer (some ⟨tb, 0, none⟩), .agg #[.int .u32 p.1, .int .i64 p.2]] W fun e w' => e = .returned (.tuple #[av0.V, .bool false]) ∧ Below W.heap.size W w') ∧
      ∀ x, findE E p = some x → Calls Tryz.prog 97 #[.pointer (some ⟨tb, 0, none⟩), .agg #[.int .u32 p.1, .int .i64 p.2]] W fun e w' => e = .returned (.tuple #[x.v.V, .bool true]) ∧ Below W.heap.size W w' := by
  have ht := h.tri
  by_cases hr : rightB p.1 p.2 = true
  · obtain ⟨a, n, rfl, ha, hn, -, hr'⟩ := (show RgtP p from ⟨hp, hr⟩).nat
    have key := find_kvs h.rgt (p := ((a : Int), (n : Int))) ⟨hp, hr⟩
    have G := trI_Get a n W ht ha hr'
    have e1 : pKey ((a : Int), (n : Int)) = keyN a n := rfl
    rw [e1] at key
    refine ⟨fun hn => ?_, fun x hx => ?_⟩
    · rw [hn] at key
      refine G.mono ?_
      rintro e w' ⟨rfl, hb⟩
      exact ⟨(getE_no key).symm, hb⟩
    · rw [hx] at key
      refine G.mono ?_
      rintro e w' ⟨rfl, hb⟩
      exact ⟨(getE_yes key).symm, hb⟩
  · refine ⟨fun _ => trI_Get_no _ p.1 p.2 W hp.1 hp.2 (by simpa using hr), fun x hx => ?_⟩
    obtain ⟨hm, rfl⟩ := findE_mem hx
    exact absurd (h.rgt x hm).2 hr
set_option maxHeartbeats 3200000 in
set_option maxRecDepth 100000 in
theorem ad_Get_in {rb tb : Nat} {N : Nat → Option Nat} {E : List Ent} {peer own most : Int} {F : Nat → Prop} (p : Pf) (w : World) (h : RibIn w rb tb N E peer own most F) (hp : OkP p) :
    Calls Tryz.prog 75 #[.pointer (some ⟨rb, 0, none⟩), .agg #[.int .u32 p.1, .int .i64 p.2]] w (GetPost peer (rts E) p w) := by
  have hfind := find_rts E p
  have TG := Lib.hid (fun W (hb : Below w.heap.size w W) => rib_get p W (h.below hb) hp)
  have HI := Lib.hid h
  have HL : Hid (rb < w.heap.size) := Lib.hid (row_lt h.row)
  obtain ⟨r0, _, _, r3⟩ := h.cells
  have R0 := Lib.hid r0
  have R3 := Lib.hid r3
  clear h r0 r3
  go_enter Tryz.func75, Tryz.ntmps75
  go_upto_region 1 with (fail)
  obtain ⟨W0, hW0, c0, c1, rz, hB⟩ := box_pr w p.1 p.2
  rw [← hW0]; clear hW0
  have RZ := Lib.hid rz
  have HB := Lib.hid hB
  have q3 := cell_below R3.out hB
  clear rz hB
  cases hx : findE E p with
  | none =>
    have GP := Lib.hid (fun W (hb : Below W0.heap.size W0 W) => (TG.out W (below_on HB.out hb)).1 hx)
    have FN : Hid (getL (rts E) p = none) := Lib.hid (by rw [hfind, hx]; rfl)
    clear hx hfind TG
    go_upto_region 3 with (fail)
    go_cut [6, 7] (fun s6 s7 wx => s7 = .bool false ∧ Hid (Below W0.heap.size W0 wx))
    case first =>
      refine wp_region_held_drew (S := fun w' => Below W0.heap.size W0 w') (by kernel_rfl) ?_ (fun hHeld => ?_)
      · exact (Below.refl _ _).drew
      generalize World.drew W0 = wd at hHeld ⊢
      refine qy 0 ?_ ?_ ?_ hHeld ?_; rotate_left 1; (· rfl); (· intro w' hSw; (try clear hHeld); go_simp; try with_reducible rfl)
      try simp only [zp1, zp3, zp4, zp5]
      refine qy 4 ?_ ?_ ?_ hHeld ?_; rotate_left 1; (· rfl); (· intro w' hSw; have c0 := cell_below c0 hSw; have c1 := cell_below c1 hSw; have q3 := cell_below q3 hSw; (try clear hHeld); go_simp; try with_reducible rfl)
      try simp only [zp1, zp3, zp4, zp5]
      refine rg_call2 (i := 1) (j := 9) (atS at0) (atS (atS (atS (atS (atS (atS (atS (atS (atS at0))))))))) (by kernel_rfl) ?_ ?_ (fun K hK => ?_) (fun K hK => ?_)
      · rfl
      · rfl
      · (try clear hb); go_simp; go_wp2_with fail; refine hK.out _ _ ?_ (fun hHeld => ?_); (· exact hHeld); clear hK K
        try simp only [zp1, zp3, zp4, zp5]
        refine qy 2 ?_ ?_ ?_ hHeld ?_; rotate_left 1; (· rfl); (· intro w' hSw; (try clear hHeld); go_simp; try with_reducible rfl)
        try simp only [zp1, zp3, zp4, zp5]
        refine qy 3 ?_ ?_ ?_ hHeld ?_; rotate_left 1; (· rfl); (· intro w' hSw; have c0 := cell_below c0 hSw; have c1 := cell_below c1 hSw; have q3 := cell_below q3 hSw; (try clear hHeld); go_simp; try with_reducible rfl)
        try simp only [zp1, zp3, zp4, zp5]
        refine rg_call2 (i := 5) (j := 9) (atS (atS (atS (atS (atS at0))))) (atS (atS (atS (atS (atS (atS (atS (atS (atS at0))))))))) (by kernel_rfl) ?_ ?_ (fun K hK => ?_) (fun K hK => ?_)
        · rfl
        · rfl
        · (try clear hb); go_simp; (refine (GP.out _ hHeld).mono ?_; rintro e w1 ⟨rfl, hb⟩); (try replace hz := (hb.block _ (row_lt hz)).trans hz); go_wp2_with fail; refine hK.out _ _ ?_ (fun hHeld => ?_); (· exact hHeld.trans (hb.mono hHeld.size)); clear hK K
          try simp only [zp1, zp3, zp4, zp5]
          refine qy 6 ?_ ?_ ?_ hHeld ?_; rotate_left 1; (· rfl); (· intro w' hSw; (try clear hHeld); go_simp; try with_reducible rfl)
          try simp only [zp1, zp3, zp4, zp5]
          refine qy 7 ?_ ?_ ?_ hHeld ?_; rotate_left 1; (· rfl); (· intro w' hSw; (try clear hHeld); go_simp; try with_reducible rfl)
          try simp only [zp1, zp3, zp4, zp5]
          refine qy 8 ?_ ?_ ?_ hHeld ?_; rotate_left 1; (· rfl); (· intro w' hSw; (try clear hHeld); go_simp; try with_reducible rfl)
          try simp only [zp1, zp3, zp4, zp5]
          refine rg_call (i := 9) (atN rfl) (by kernel_rfl) ?_ (fun K hK => ?_); (· rfl); (try clear hb); go_simp; refine box_zk (p := K _) ?_; intro w1 hz hb; have hgs := hHeld.size; refine hK.out _ _ ?_ (fun hHeld => ?_); (· exact below_on hHeld hb); clear hK K
          try simp only [zp1, zp3, zp4, zp5]
          refine rg_call (i := 10) (atN rfl) (by kernel_rfl) ?_ (fun K hK => ?_); (· rfl); (try clear hb); refine wp_store_rowat 42 (.tmp 6) (.tmp 18) rfl _ rfl 42 av0.C _ rfl hz (by kernel_rfl) rfl (AV.one _) ?_; refine setRow_k hz (p := K _) ?_; intro w2 hr hk2; refine hK.out _ _ ?_ (fun hHeld => ?_); (· exact hHeld.trans (hk2.below hHeld.size (by rintro k rfl; exact hgs))); clear hK K
          try simp only [Act.put]
          refine qy 11 ?_ ?_ ?_ hHeld ?_; rotate_left 1; (· rfl); (· intro w' hSw; (try clear hHeld); go_simp; try with_reducible rfl)
          try simp only [zp1, zp3, zp4, zp5]
          refine wpAnyH_done (by kernel_rfl) ?_ _
          go_wp2_with fail
          go_meet
          exact ⟨rfl, Lib.hid hHeld⟩
        · (try clear hb); go_simp; refine box_zk (p := K _) ?_; intro w1 hz hb; have hgs := hHeld.size; refine hK.out _ _ ?_ (fun hHeld => ?_); (· exact below_on hHeld hb); clear hK K
          try simp only [zp1, zp3, zp4, zp5]
          refine rg_call (i := 5) (atN rfl) (by kernel_rfl) ?_ (fun K hK => ?_); (· rfl); (try clear hb); go_simp; (refine (GP.out _ hHeld).mono ?_; rintro e w1 ⟨rfl, hb⟩); (try replace hz := (hb.block _ (row_lt hz)).trans hz); go_wp2_with fail; refine hK.out _ _ ?_ (fun hHeld => ?_); (· exact hHeld.trans (hb.mono hHeld.size)); clear hK K
          try simp only [zp1, zp3, zp4, zp5]
          refine qy 6 ?_ ?_ ?_ hHeld ?_; rotate_left 1; (· rfl); (· intro w' hSw; (try clear hHeld); go_simp; try with_reducible rfl)
          try simp only [zp1, zp3, zp4, zp5]
          refine qy 7 ?_ ?_ ?_ hHeld ?_; rotate_left 1; (· rfl); (· intro w' hSw; (try clear hHeld); go_simp; try with_reducible rfl)
          try simp only [zp1, zp3, zp4, zp5]
          refine qy 8 ?_ ?_ ?_ hHeld ?_; rotate_left 1; (· rfl); (· intro w' hSw; (try clear hHeld); go_simp; try with_reducible rfl)
          try simp only [zp1, zp3, zp4, zp5]
          refine rg_call (i := 10) (atN rfl) (by kernel_rfl) ?_ (fun K hK => ?_); (· rfl); (try clear hb); refine wp_store_rowat 42 (.tmp 6) (.tmp 18) rfl _ rfl 42 av0.C _ rfl hz (by kernel_rfl) rfl (AV.one _) ?_; refine setRow_k hz (p := K _) ?_; intro w2 hr hk2; refine hK.out _ _ ?_ (fun hHeld => ?_); (· exact hHeld.trans (hk2.below hHeld.size (by rintro k rfl; exact hgs))); clear hK K
          try simp only [Act.put]
          refine qy 11 ?_ ?_ ?_ hHeld ?_; rotate_left 1; (· rfl); (· intro w' hSw; (try clear hHeld); go_simp; try with_reducible rfl)
          try simp only [zp1, zp3, zp4, zp5]
          refine wpAnyH_done (by kernel_rfl) ?_ _
          go_wp2_with fail
          go_meet
          exact ⟨rfl, Lib.hid hHeld⟩
      · (try clear hb); go_simp; refine box_zk (p := K _) ?_; intro w1 hz hb; have hgs := hHeld.size; refine hK.out _ _ ?_ (fun hHeld => ?_); (· exact below_on hHeld hb); clear hK K
        try simp only [zp1, zp3, zp4, zp5]
        refine rg_call (i := 1) (atN rfl) (by kernel_rfl) ?_ (fun K hK => ?_); (· rfl); (try clear hb); go_simp; go_wp2_with fail; refine hK.out _ _ ?_ (fun hHeld => ?_); (· exact hHeld); clear hK K
        try simp only [zp1, zp3, zp4, zp5]
        refine qy 2 ?_ ?_ ?_ hHeld ?_; rotate_left 1; (· rfl); (· intro w' hSw; (try clear hHeld); go_simp; try with_reducible rfl)
        try simp only [zp1, zp3, zp4, zp5]
        refine qy 3 ?_ ?_ ?_ hHeld ?_; rotate_left 1; (· rfl); (· intro w' hSw; have c0 := cell_below c0 hSw; have c1 := cell_below c1 hSw; have q3 := cell_below q3 hSw; (try clear hHeld); go_simp; try with_reducible rfl)
        try simp only [zp1, zp3, zp4, zp5]
        refine rg_call (i := 5) (atN rfl) (by kernel_rfl) ?_ (fun K hK => ?_); (· rfl); (try clear hb); go_simp; (refine (GP.out _ hHeld).mono ?_; rintro e w1 ⟨rfl, hb⟩); (try replace hz := (hb.block _ (row_lt hz)).trans hz); go_wp2_with fail; refine hK.out _ _ ?_ (fun hHeld => ?_); (· exact hHeld.trans (hb.mono hHeld.size)); clear hK K
        try simp only [zp1, zp3, zp4, zp5]
        refine qy 6 ?_ ?_ ?_ hHeld ?_; rotate_left 1; (· rfl); (· intro w' hSw; (try clear hHeld); go_simp; try with_reducible rfl)
        try simp only [zp1, zp3, zp4, zp5]
        refine qy 7 ?_ ?_ ?_ hHeld ?_; rotate_left 1; (· rfl); (· intro w' hSw; (try clear hHeld); go_simp; try with_reducible rfl)
        try simp only [zp1, zp3, zp4, zp5]
        refine qy 8 ?_ ?_ ?_ hHeld ?_; rotate_left 1; (· rfl); (· intro w' hSw; (try clear hHeld); go_simp; try with_reducible rfl)
        try simp only [zp1, zp3, zp4, zp5]
        refine rg_call (i := 10) (atN rfl) (by kernel_rfl) ?_ (fun K hK => ?_); (· rfl); (try clear hb); refine wp_store_rowat 42 (.tmp 6) (.tmp 18) rfl _ rfl 42 av0.C _ rfl hz (by kernel_rfl) rfl (AV.one _) ?_; refine setRow_k hz (p := K _) ?_; intro w2 hr hk2; refine hK.out _ _ ?_ (fun hHeld => ?_); (· exact hHeld.trans (hk2.below hHeld.size (by rintro k rfl; exact hgs))); clear hK K
        try simp only [Act.put]
        refine qy 11 ?_ ?_ ?_ hHeld ?_; rotate_left 1; (· rfl); (· intro w' hSw; (try clear hHeld); go_simp; try with_reducible rfl)
        try simp only [zp1, zp3, zp4, zp5]
        refine wpAnyH_done (by kernel_rfl) ?_ _
        go_wp2_with fail
        go_meet
        exact ⟨rfl, Lib.hid hHeld⟩
    case rest =>
      obtain ⟨rfl, HH⟩ := hcut
      have RZ1 := Lib.hid ((HH.out.block _ (row_lt RZ.out)).trans RZ.out)
      have B1 := Lib.hid (below_on HB.out HH.out)
      obtain ⟨wd, hwd⟩ : ∃ wd : World, wd = wc := ⟨_, rfl⟩
      rw [← hwd] at RZ1 B1 ⊢
      clear hwd c0 c1 q3 HH
      go_wp2_with ((with_reducible refine halt_at (X := .store 61 (.tmp 4) (.tmp 22)) ?_ ?_); (· rfl))
      unfold Halt
      refine st_row rfl 61 _ _ rfl (w.heap.size + 1) rfl 61 (rtC 0 (0, 0) av0) (rtC 0 (0, 0) av0) rfl RZ1.out (by kernel_rfl) rfl (rt_one _ _ _) ?_
      go_wp2_with fail
      refine bodyPost_ret (results_GetR _ _ (w.heap.size + 1) (rtC 0 (0, 0) av0) rfl false ?_ ?_ (setRow_heap _ _ _ _ _ _ RZ1.out)) rfl (.inl ⟨FN.out, rfl, below_setRow B1.out (Nat.le_succ _) _⟩) <;> rfl
  | some x =>
    have GP := Lib.hid (fun W (hb : Below W0.heap.size W0 W) => (TG.out W (below_on HB.out hb)).2 x hx)
    have FN : Hid (getL (rts E) p = some x.a) := Lib.hid (by rw [hfind, hx]; rfl)
    have XM := Lib.hid (findE_mem hx).1
    clear hx hfind TG
    go_upto_region 3 with (fail)
    go_cut [6, 7] (fun s6 s7 wx => ∃ g, s6 = .pointer (some ⟨g, 0, none⟩) ∧ s7 = .bool true ∧ Hid (Below W0.heap.size W0 wx ∧ W0.heap.size ≤ g ∧ wx.heap[g]? = some (.cells x.v.C 42 (0, 0))))
    case first =>
      refine wp_region_held_drew (S := fun w' => Below W0.heap.size W0 w') (by kernel_rfl) ?_ (fun hHeld => ?_)
      · exact (Below.refl _ _).drew
      generalize World.drew W0 = wd at hHeld ⊢
      refine qy 0 ?_ ?_ ?_ hHeld ?_; rotate_left 1; (· rfl); (· intro w' hSw; (try clear hHeld); go_simp; try with_reducible rfl)
      try simp only [zp1, zp3, zp4, zp5]
      refine qy 4 ?_ ?_ ?_ hHeld ?_; rotate_left 1; (· rfl); (· intro w' hSw; have c0 := cell_below c0 hSw; have c1 := cell_below c1 hSw; have q3 := cell_below q3 hSw; (try clear hHeld); go_simp; try with_reducible rfl)
      try simp only [zp1, zp3, zp4, zp5]
      refine rg_call2 (i := 1) (j := 9) (atS at0) (atS (atS (atS (atS (atS (atS (atS (atS (atS at0))))))))) (by kernel_rfl) ?_ ?_ (fun K hK => ?_) (fun K hK => ?_)
      · rfl
      · rfl
      · (try clear hb); go_simp; go_wp2_with fail; refine hK.out _ _ ?_ (fun hHeld => ?_); (· exact hHeld); clear hK K
        try simp only [zp1, zp3, zp4, zp5]
        refine qy 2 ?_ ?_ ?_ hHeld ?_; rotate_left 1; (· rfl); (· intro w' hSw; (try clear hHeld); go_simp; try with_reducible rfl)
        try simp only [zp1, zp3, zp4, zp5]
        refine qy 3 ?_ ?_ ?_ hHeld ?_; rotate_left 1; (· rfl); (· intro w' hSw; have c0 := cell_below c0 hSw; have c1 := cell_below c1 hSw; have q3 := cell_below q3 hSw; (try clear hHeld); go_simp; try with_reducible rfl)
        try simp only [zp1, zp3, zp4, zp5]
        refine rg_call2 (i := 5) (j := 9) (atS (atS (atS (atS (atS at0))))) (atS (atS (atS (atS (atS (atS (atS (atS (atS at0))))))))) (by kernel_rfl) ?_ ?_ (fun K hK => ?_) (fun K hK => ?_)
        · rfl
        · rfl
        · (try clear hb); go_simp; (refine (GP.out _ hHeld).mono ?_; rintro e w1 ⟨rfl, hb⟩); (try replace hz := (hb.block _ (row_lt hz)).trans hz); go_wp2_with fail; refine hK.out _ _ ?_ (fun hHeld => ?_); (· exact hHeld.trans (hb.mono hHeld.size)); clear hK K
          try simp only [zp1, zp3, zp4, zp5]
          refine qy 6 ?_ ?_ ?_ hHeld ?_; rotate_left 1; (· rfl); (· intro w' hSw; (try clear hHeld); go_simp; try with_reducible rfl)
          try simp only [zp1, zp3, zp4, zp5]
          refine qy 7 ?_ ?_ ?_ hHeld ?_; rotate_left 1; (· rfl); (· intro w' hSw; (try clear hHeld); go_simp; try with_reducible rfl)
          try simp only [zp1, zp3, zp4, zp5]
          refine qy 8 ?_ ?_ ?_ hHeld ?_; rotate_left 1; (· rfl); (· intro w' hSw; (try clear hHeld); go_simp; try with_reducible rfl)
          try simp only [zp1, zp3, zp4, zp5]
          refine rg_call (i := 9) (atN rfl) (by kernel_rfl) ?_ (fun K hK => ?_); (· rfl); (try clear hb); go_simp; refine box_zk (p := K _) ?_; intro w1 hz hb; have hgs := hHeld.size; refine hK.out _ _ ?_ (fun hHeld => ?_); (· exact below_on hHeld hb); clear hK K
          try simp only [zp1, zp3, zp4, zp5]
          refine rg_call (i := 10) (atN rfl) (by kernel_rfl) ?_ (fun K hK => ?_); (· rfl); (try clear hb); refine wp_store_rowat 42 (.tmp 6) (.tmp 18) rfl _ rfl 42 av0.C _ rfl hz (by kernel_rfl) rfl (AV.one _) ?_; refine setRow_k hz (p := K _) ?_; intro w2 hr hk2; refine hK.out _ _ ?_ (fun hHeld => ?_); (· exact hHeld.trans (hk2.below hHeld.size (by rintro k rfl; exact hgs))); clear hK K
          try simp only [Act.put]
          refine qy 11 ?_ ?_ ?_ hHeld ?_; rotate_left 1; (· rfl); (· intro w' hSw; (try clear hHeld); go_simp; try with_reducible rfl)
          try simp only [zp1, zp3, zp4, zp5]
          refine wpAnyH_done (by kernel_rfl) ?_ _
          go_wp2_with fail
          go_meet
          exact ⟨_, rfl, rfl, Lib.hid ⟨hHeld, hgs, hr⟩⟩
        · (try clear hb); go_simp; refine box_zk (p := K _) ?_; intro w1 hz hb; have hgs := hHeld.size; refine hK.out _ _ ?_ (fun hHeld => ?_); (· exact below_on hHeld hb); clear hK K
          try simp only [zp1, zp3, zp4, zp5]
          refine rg_call (i := 5) (atN rfl) (by kernel_rfl) ?_ (fun K hK => ?_); (· rfl); (try clear hb); go_simp; (refine (GP.out _ hHeld).mono ?_; rintro e w1 ⟨rfl, hb⟩); (try replace hz := (hb.block _ (row_lt hz)).trans hz); go_wp2_with fail; refine hK.out _ _ ?_ (fun hHeld => ?_); (· exact hHeld.trans (hb.mono hHeld.size)); clear hK K
          try simp only [zp1, zp3, zp4, zp5]
          refine qy 6 ?_ ?_ ?_ hHeld ?_; rotate_left 1; (· rfl); (· intro w' hSw; (try clear hHeld); go_simp; try with_reducible rfl)
          try simp only [zp1, zp3, zp4, zp5]
          refine qy 7 ?_ ?_ ?_ hHeld ?_; rotate_left 1; (· rfl); (· intro w' hSw; (try clear hHeld); go_simp; try with_reducible rfl)
          try simp only [zp1, zp3, zp4, zp5]
          refine qy 8 ?_ ?_ ?_ hHeld ?_; rotate_left 1; (· rfl); (· intro w' hSw; (try clear hHeld); go_simp; try with_reducible rfl)
          try simp only [zp1, zp3, zp4, zp5]
          refine rg_call (i := 10) (atN rfl) (by kernel_rfl) ?_ (fun K hK => ?_); (· rfl); (try clear hb); refine wp_store_rowat 42 (.tmp 6) (.tmp 18) rfl _ rfl 42 av0.C _ rfl hz (by kernel_rfl) rfl (AV.one _) ?_; refine setRow_k hz (p := K _) ?_; intro w2 hr hk2; refine hK.out _ _ ?_ (fun hHeld => ?_); (· exact hHeld.trans (hk2.below hHeld.size (by rintro k rfl; exact hgs))); clear hK K
          try simp only [Act.put]
          refine qy 11 ?_ ?_ ?_ hHeld ?_; rotate_left 1; (· rfl); (· intro w' hSw; (try clear hHeld); go_simp; try with_reducible rfl)
          try simp only [zp1, zp3, zp4, zp5]
          refine wpAnyH_done (by kernel_rfl) ?_ _
          go_wp2_with fail
          go_meet
          exact ⟨_, rfl, rfl, Lib.hid ⟨hHeld, hgs, hr⟩⟩
      · (try clear hb); go_simp; refine box_zk (p := K _) ?_; intro w1 hz hb; have hgs := hHeld.size; refine hK.out _ _ ?_ (fun hHeld => ?_); (· exact below_on hHeld hb); clear hK K
        try simp only [zp1, zp3, zp4, zp5]
        refine rg_call (i := 1) (atN rfl) (by kernel_rfl) ?_ (fun K hK => ?_); (· rfl); (try clear hb); go_simp; go_wp2_with fail; refine hK.out _ _ ?_ (fun hHeld => ?_); (· exact hHeld); clear hK K
        try simp only [zp1, zp3, zp4, zp5]
        refine qy 2 ?_ ?_ ?_ hHeld ?_; rotate_left 1; (· rfl); (· intro w' hSw; (try clear hHeld); go_simp; try with_reducible rfl)
        try simp only [zp1, zp3, zp4, zp5]
        refine qy 3 ?_ ?_ ?_ hHeld ?_; rotate_left 1; (· rfl); (· intro w' hSw; have c0 := cell_below c0 hSw; have c1 := cell_below c1 hSw; have q3 := cell_below q3 hSw; (try clear hHeld); go_simp; try with_reducible rfl)
        try simp only [zp1, zp3, zp4, zp5]
        refine rg_call (i := 5) (atN rfl) (by kernel_rfl) ?_ (fun K hK => ?_); (· rfl); (try clear hb); go_simp; (refine (GP.out _ hHeld).mono ?_; rintro e w1 ⟨rfl, hb⟩); (try replace hz := (hb.block _ (row_lt hz)).trans hz); go_wp2_with fail; refine hK.out _ _ ?_ (fun hHeld => ?_); (· exact hHeld.trans (hb.mono hHeld.size)); clear hK K
        try simp only [zp1, zp3, zp4, zp5]
        refine qy 6 ?_ ?_ ?_ hHeld ?_; rotate_left 1; (· rfl); (· intro w' hSw; (try clear hHeld); go_simp; try with_reducible rfl)
        try simp only [zp1, zp3, zp4, zp5]
        refine qy 7 ?_ ?_ ?_ hHeld ?_; rotate_left 1; (· rfl); (· intro w' hSw; (try clear hHeld); go_simp; try with_reducible rfl)
        try simp only [zp1, zp3, zp4, zp5]
        refine qy 8 ?_ ?_ ?_ hHeld ?_; rotate_left 1; (· rfl); (· intro w' hSw; (try clear hHeld); go_simp; try with_reducible rfl)
        try simp only [zp1, zp3, zp4, zp5]
        refine rg_call (i := 10) (atN rfl) (by kernel_rfl) ?_ (fun K hK => ?_); (· rfl); (try clear hb); refine wp_store_rowat 42 (.tmp 6) (.tmp 18) rfl _ rfl 42 av0.C _ rfl hz (by kernel_rfl) rfl (AV.one _) ?_; refine setRow_k hz (p := K _) ?_; intro w2 hr hk2; refine hK.out _ _ ?_ (fun hHeld => ?_); (· exact hHeld.trans (hk2.below hHeld.size (by rintro k rfl; exact hgs))); clear hK K
        try simp only [Act.put]
        refine qy 11 ?_ ?_ ?_ hHeld ?_; rotate_left 1; (· rfl); (· intro w' hSw; (try clear hHeld); go_simp; try with_reducible rfl)
        try simp only [zp1, zp3, zp4, zp5]
        refine wpAnyH_done (by kernel_rfl) ?_ _
        go_wp2_with fail
        go_meet
        exact ⟨_, rfl, rfl, Lib.hid ⟨hHeld, hgs, hr⟩⟩
    case rest =>
      obtain ⟨g, rfl, rfl, HH⟩ := hcut
      have rz0 := (HH.out.1.block _ (row_lt RZ.out)).trans RZ.out
      have B1 := Lib.hid (below_on HB.out HH.out.1)
      have RG := Lib.hid HH.out.2.2
      have NE0 : Hid (¬ w.heap.size = w.heap.size + 1) := Lib.hid (by omega)
      have NE1 : Hid (¬ rb = w.heap.size + 1) := Lib.hid (by have := HL.out; omega)
      have NE2 : Hid (¬ g = w.heap.size + 1) := Lib.hid (by have := HH.out.2.1; have := row_lt RZ.out; omega)
      have c0 := cell_below c0 HH.out.1
      have c1 := cell_below c1 HH.out.1
      have SZ := Lib.hid (HI.out.szs x XM.out)
      have ON := Lib.hid (HI.out.ent x XM.out).2
      obtain ⟨wd, hwd⟩ : ∃ wd : World, wd = wc := ⟨_, rfl⟩
      rw [← hwd] at rz0 B1 RG c0 c1 ⊢
      clear hwd q3 HH RZ
      have q0 : wd.cell? ⟨rb, 0, none⟩ = some (.int .i64 peer) := (B1.out.cell (p := ⟨rb, 0, none⟩) HL.out).trans R0.out
      have CL : Hid (∀ W, Kept (fun b => b = w.heap.size + 1) wd W → Calls Tryz.prog 85 #[x.v.V] W fun e w' => ∃ u : AV, e = .returned u.V ∧ Fresh W.heap.size w' (fun W => AvU W x.a u) ∧ Below W.heap.size W w') := Lib.hid (fun W hk => av_CloneU x.a x.v W ((ON.out.below (B1.out.trans (hk.below B1.out.size (by rintro k rfl; omega)))).self) SZ.out)
      have rz : wd.drew.heap[w.heap.size + 1]? = some (.cells (rtC 0 (0, 0) av0) 61 (0, 0)) := rz0
      have WZ := Lib.hid (row_lt rz0)
      clear rz0
      go_wp2_with fail
      refine wp_region_held_drew (S := fun w1 => Kept (fun b => b = w.heap.size + 1) wd w1) (by kernel_rfl) ?_ (fun hHeld => ?_)
      · exact (Kept.refl _ _).drew
      generalize World.drew wd = wg at rz hHeld ⊢
      refine qy 0 ?_ ?_ ?_ hHeld ?_; rotate_left 1; (· rfl); (· intro w' hSw; (try clear hHeld); go_simp; try with_reducible rfl)
      try simp only [zp1, zp3, zp4, zp5]
      refine qy 4 ?_ ?_ ?_ hHeld ?_; rotate_left 1; (· rfl); (· intro w' hSw; have c0 := hSw.cell c0 NE0.out; have c1 := hSw.cell c1 NE0.out; have q0 := hSw.cell q0 NE1.out; (try clear hHeld); go_simp; try with_reducible rfl)
      try simp only [zp1, zp3, zp4, zp5]
      refine qy 5 ?_ ?_ ?_ hHeld ?_; rotate_left 1; (· rfl); (· intro w' hSw; refine exec_ld 42 (.tmp 6) ?_ g ?_ 42 x.v.C (0, 0) _ ((hSw.block _ (row_lt RG.out) NE2.out).trans RG.out) Tryz.underlying42 rfl (by kernel_rfl) <;> rfl)
      try simp only [zp1, zp3, zp4, zp5]
      refine rg_call2 (i := 1) (j := 6) (atS at0) (atS (atS (atS (atS (atS (atS at0)))))) (by kernel_rfl) ?_ ?_ (fun K hK => ?_) (fun K hK => ?_)
      · rfl
      · rfl
      · (try clear hb); go_simp; go_wp2_with fail; refine hK.out _ _ ?_ (fun hHeld => ?_); (· exact hHeld); clear hK K
        try simp only [zp1, zp3, zp4, zp5]
        refine qy 2 ?_ ?_ ?_ hHeld ?_; rotate_left 1; (· rfl); (· intro w' hSw; (try clear hHeld); go_simp; try with_reducible rfl)
        try simp only [zp1, zp3, zp4, zp5]
        refine qy 3 ?_ ?_ ?_ hHeld ?_; rotate_left 1; (· rfl); (· intro w' hSw; have c0 := hSw.cell c0 NE0.out; have c1 := hSw.cell c1 NE0.out; have q0 := hSw.cell q0 NE1.out; (try clear hHeld); go_simp; try with_reducible rfl)
        try simp only [zp1, zp3, zp4, zp5]
        refine rg_call (i := 6) (atN rfl) (by kernel_rfl) ?_ (fun K hK => ?_); (· rfl); (try clear hb); go_simp; have hcs := hHeld.size; refine (CL.out _ hHeld).mono ?_; rintro e w1 ⟨u, rfl, fr, hb⟩; have FR := Lib.hid fr; clear fr; replace rz := (hb.block _ (row_lt rz)).trans rz; go_wp2_with fail; refine hK.out _ _ ?_ (fun hHeld => ?_); (· exact hHeld.grow hb); clear hK K
        try simp only [zp1, zp3, zp4, zp5]
        refine qy 7 ?_ ?_ ?_ hHeld ?_; rotate_left 1; (· rfl); (· intro w' hSw; (try clear hHeld); go_simp; try with_reducible rfl)
        try simp only [zp1, zp3, zp4, zp5]
        refine rg_call (i := 8) (atN rfl) (by kernel_rfl) ?_ (fun K hK => ?_); (· rfl); (try clear hb); refine wp_store_rowat 61 (.tmp 4) (.tmp 30) rfl (w.heap.size + 1) rfl 61 (rtC 0 (0, 0) av0) (rtC peer p u) rfl rz (by kernel_rfl) rfl (rt_one _ _ _) ?_; refine setRow_k rz (p := K _) ?_; intro w2 hr hk2; refine hK.out _ _ ?_ (fun hHeld => ?_); (· exact hHeld.trans hk2); clear hK K
        try simp only [Act.put]
        refine qy 9 ?_ ?_ ?_ hHeld ?_; rotate_left 1; (· rfl); (· intro w' hSw; (try clear hHeld); go_simp; try with_reducible rfl)
        try simp only [zp1, zp3, zp4, zp5]
        refine wpAnyH_done (by kernel_rfl) ?_ _
        go_wp2_with fail
        refine bodyPost_ret (results_GetR _ _ (w.heap.size + 1) (rtC peer p u) rfl true ?_ ?_ hr) rfl (.inr ⟨x.a, u, FN.out, rfl, SZ.out, (FR.out.kept hk2 (fun k _ hl e => by have := WZ.out; omega)).wide (fun k hk _ => by have := WZ.out; omega), B1.out.trans (hHeld.below B1.out.size (by rintro k rfl; omega))⟩) <;> rfl
      · (try clear hb); go_simp; have hcs := hHeld.size; refine (CL.out _ hHeld).mono ?_; rintro e w1 ⟨u, rfl, fr, hb⟩; have FR := Lib.hid fr; clear fr; replace rz := (hb.block _ (row_lt rz)).trans rz; go_wp2_with fail; refine hK.out _ _ ?_ (fun hHeld => ?_); (· exact hHeld.grow hb); clear hK K
        try simp only [zp1, zp3, zp4, zp5]
        refine rg_call (i := 1) (atN rfl) (by kernel_rfl) ?_ (fun K hK => ?_); (· rfl); (try clear hb); go_simp; go_wp2_with fail; refine hK.out _ _ ?_ (fun hHeld => ?_); (· exact hHeld); clear hK K
        try simp only [zp1, zp3, zp4, zp5]
        refine qy 2 ?_ ?_ ?_ hHeld ?_; rotate_left 1; (· rfl); (· intro w' hSw; (try clear hHeld); go_simp; try with_reducible rfl)
        try simp only [zp1, zp3, zp4, zp5]
        refine qy 3 ?_ ?_ ?_ hHeld ?_; rotate_left 1; (· rfl); (· intro w' hSw; have c0 := hSw.cell c0 NE0.out; have c1 := hSw.cell c1 NE0.out; have q0 := hSw.cell q0 NE1.out; (try clear hHeld); go_simp; try with_reducible rfl)
        try simp only [zp1, zp3, zp4, zp5]
        refine qy 7 ?_ ?_ ?_ hHeld ?_; rotate_left 1; (· rfl); (· intro w' hSw; (try clear hHeld); go_simp; try with_reducible rfl)
        try simp only [zp1, zp3, zp4, zp5]
        refine rg_call (i := 8) (atN rfl) (by kernel_rfl) ?_ (fun K hK => ?_); (· rfl); (try clear hb); refine wp_store_rowat 61 (.tmp 4) (.tmp 30) rfl (w.heap.size + 1) rfl 61 (rtC 0 (0, 0) av0) (rtC peer p u) rfl rz (by kernel_rfl) rfl (rt_one _ _ _) ?_; refine setRow_k rz (p := K _) ?_; intro w2 hr hk2; refine hK.out _ _ ?_ (fun hHeld => ?_); (· exact hHeld.trans hk2); clear hK K
        try simp only [Act.put]
        refine qy 9 ?_ ?_ ?_ hHeld ?_; rotate_left 1; (· rfl); (· intro w' hSw; (try clear hHeld); go_simp; try with_reducible rfl)
        try simp only [zp1, zp3, zp4, zp5]
        refine wpAnyH_done (by kernel_rfl) ?_ _
        go_wp2_with fail
        refine bodyPost_ret (results_GetR _ _ (w.heap.size + 1) (rtC peer p u) rfl true ?_ ?_ hr) rfl (.inr ⟨x.a, u, FN.out, rfl, SZ.out, (FR.out.kept hk2 (fun k _ hl e => by have := WZ.out; omega)).wide (fun k hk _ => by have := WZ.out; omega), B1.out.trans (hHeld.below B1.out.size (by rintro k rfl; omega))⟩) <;> rfl
theorem ad_Get {rb : Nat} {peer own most : Int} {R : List (Pf × At)} {F : Nat → Prop} (p : Pf) (w : World) (h : RibAt w rb peer own most R F) (hp : OkP p) :
    Calls Tryz.prog 75 #[.pointer (some ⟨rb, 0, none⟩), .agg #[.int .u32 p.1, .int .i64 p.2]] w (GetPost peer R p w) := by
  obtain ⟨tb, N, E, hI, rfl⟩ := h
  exact ad_Get_in p w hI hp
end Go.Proofs.YtkoidahgbbabiaaGreat
