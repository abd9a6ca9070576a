/- Texts of one proof, one behind another. -/
import Derived.Test.YtadlecnlgkhneaaOw16
import Derived.Test.YtadlecnlgkhneaaOw17
/-
  WHAT A PEER SAYS, AND WHAT THERE IS BEHIND IT: plain.
-/
namespace Go.Proofs.Ytadlecnlgkhneaa
open Go.RowKit

abbrev Rts := List (Pf × At)
def hadB (R : Rts) (p : Pf) : Bool := (getL R p).isSome
def turnB (R : Rts) (ns : List Pf) (a : At) (p : Pf) : Bool := match getL R p with | none => decide (p ∈ ns) | some b => !(decide (p ∈ ns)) || !(sameA b a)
def dropAll (R : Rts) (ps : List Pf) : Rts := ps.foldl delL R
def putP (R : Rts) (p : Pf) (a : At) : Rts := delL R p ++ [(p, a)]
def putAll (R : Rts) (ps : List Pf) (a : At) : Rts := ps.foldl (fun R p => putP R p a) R
def saidP (gone nets : List Pf) : List Pf := setOf (gone ++ nets)
def netsP (own : Int) (nets : List Pf) (a : At) : List Pf := if passB a.path own then [] else setOf nets
def cntP (R : Rts) (said ns : List Pf) : Int := (R.length : Int) + ns.length - (said.filter (hadB R)).length
/-- what Update answers, and what there is then. -/
def updP (own most : Int) (R : Rts) (kind : Int) (gone nets : List Pf) (a : At) : Int × List Pf × Rts :=
  if kind = 2 then
    if rights (gone ++ nets) then
      if cntP R (saidP gone nets) (netsP own nets a) > most then (32, [], R)
      else (0, (saidP gone nets).filter (turnB R (netsP own nets a) a), putAll (dropAll R (saidP gone nets)) (netsP own nets a) a)
    else (1, [], R)
  else (1, [], R)
theorem dropAll_snoc (R : Rts) (ps : List Pf) (p : Pf) : dropAll R (ps ++ [p]) = delL (dropAll R ps) p := by unfold dropAll; rw [List.foldl_append]; rfl
theorem putAll_snoc (R : Rts) (ps : List Pf) (p : Pf) (a : At) : putAll R (ps ++ [p]) a = putP (putAll R ps a) p a := by unfold putAll; rw [List.foldl_append]; rfl
theorem take_snoc {α : Type} {l : List α} {k : Nat} {x : α} (h : l[k]? = some x) : l.take (k + 1) = l.take k ++ [x] := by rw [List.take_add_one, h]; rfl
theorem getL_dropAll (R : Rts) : ∀ (ps : List Pf) (p : Pf), getL (dropAll R ps) p = if p ∈ ps then none else getL R p
  | ps, p => by
    unfold dropAll
    induction ps generalizing R with
    | nil => simp
    | cons q ps ih =>
      rw [List.foldl_cons, ih, getL_del]
      by_cases h1 : p ∈ ps
      · rw [if_pos h1, if_pos (List.mem_cons_of_mem _ h1)]
      · by_cases h2 : p = q
        · subst h2; simp
        · rw [if_neg h1, if_neg h2, if_neg (by simp [h1, h2])]
theorem apart_dropAll {R : Rts} (h : KeysApart R) (ps : List Pf) : KeysApart (dropAll R ps) := by
  unfold dropAll
  induction ps generalizing R with
  | nil => exact h
  | cons q ps ih => exact ih (apart_del h q)
theorem len_dropAll {R : Rts} (h : KeysApart R) : ∀ {ps : List Pf}, ps.Nodup → (dropAll R ps).length + (ps.filter (hadB R)).length = R.length
  | ps, hn => by
    induction ps generalizing R with
    | nil => simp [dropAll]
    | cons q ps ih =>
      obtain ⟨h1, h2⟩ := List.nodup_cons.1 hn
      have ih := ih (apart_del h q) h2
      have e : dropAll R (q :: ps) = dropAll (delL R q) ps := rfl
      have e2 : ps.filter (hadB (delL R q)) = ps.filter (hadB R) := by
        refine List.filter_congr fun p hp => ?_
        unfold hadB
        rw [getL_del, if_neg (fun (e : p = q) => h1 (e ▸ hp))]
      rw [e2] at ih
      rw [e]
      have hl := len_del h q
      rw [List.filter_cons]
      by_cases hq : hadB R q = true
      · rw [if_pos hq]
        unfold hadB at hq
        rw [hq] at hl
        simp only [if_true] at hl
        have : 0 < R.length := by
          obtain ⟨v, hv⟩ := Option.isSome_iff_exists.1 hq
          exact List.length_pos_of_mem (getL_mem hv)
        simp only [List.length_cons]
        omega
      · rw [if_neg hq]
        unfold hadB at hq
        rw [if_neg hq] at hl
        omega
theorem getL_put1 (R : Rts) (p : Pf) (a : At) (q : Pf) : getL (putP R p a) q = if q = p then some a else getL R q := by
  unfold putP
  rw [getL_append, getL_del]
  by_cases h : q = p
  · subst h
    rw [if_pos rfl, if_pos rfl]
    simp [getL]
  · rw [if_neg h, if_neg h]
    have : getL [(p, a)] q = none := by rw [getL_none]; intro x hx; simp at hx; subst hx; exact fun e => h e.symm
    rw [this]; cases getL R q <;> rfl
theorem apart_put1 {R : Rts} (h : KeysApart R) (p : Pf) (a : At) : KeysApart (putP R p a) := by
  unfold putP KeysApart
  rw [List.pairwise_append]
  refine ⟨apart_del h p, by simp, fun x hx y hy => ?_⟩
  simp at hy; subst hy
  exact (mem_del.1 hx).2
theorem getL_putAll (a : At) : ∀ (ps : List Pf) (R : Rts) (q : Pf), getL (putAll R ps a) q = if q ∈ ps then some a else getL R q
  | [], R, q => by simp [putAll]
  | p :: ps, R, q => by
    have ih := getL_putAll a ps (putP R p a) q
    have e : putAll R (p :: ps) a = putAll (putP R p a) ps a := rfl
    rw [e, ih, getL_put1]
    by_cases h1 : q ∈ ps
    · rw [if_pos h1, if_pos (List.mem_cons_of_mem _ h1)]
    · by_cases h2 : q = p
      · subst h2; simp
      · rw [if_neg h1, if_neg h2, if_neg (by simp [h1, h2])]
theorem apart_putAll (a : At) : ∀ (ps : List Pf) {R : Rts}, KeysApart R → KeysApart (putAll R ps a)
  | [], _, h => h
  | p :: ps, _, h => apart_putAll a ps (apart_put1 h p a)
theorem delL_no {R : Rts} {p : Pf} (h : getL R p = none) : delL R p = R := by
  unfold delL
  rw [List.filter_eq_self]
  intro q hq
  simpa using getL_none.1 h q hq
/-- those that are put are all new. -/
theorem len_putAll (a : At) : ∀ (ps : List Pf) (R : Rts), ps.Nodup → (∀ p ∈ ps, getL R p = none) → (putAll R ps a).length = R.length + ps.length
  | [], R, _, _ => by simp [putAll]
  | p :: ps, R, hn, h => by
    obtain ⟨h1, h2⟩ := List.nodup_cons.1 hn
    have e : putAll R (p :: ps) a = putAll (putP R p a) ps a := rfl
    rw [e, len_putAll a ps _ h2 (fun q hq => by
      rw [getL_put1, if_neg (fun (e : q = p) => h1 (e ▸ hq))]
      exact h q (List.mem_cons_of_mem _ hq))]
    unfold putP
    rw [delL_no (h p (List.mem_cons_self ..)), List.length_append]
    simp only [List.length_cons, List.length_nil]
    omega
theorem said_srt (gone nets : List Pf) : Srt (saidP gone nets) ∧ ∀ p, p ∈ saidP gone nets ↔ p ∈ gone ∨ p ∈ nets := by
  have := setOf_srt (gone ++ nets)
  exact ⟨this.1, fun p => by rw [saidP, this.2 p, List.mem_append]⟩
theorem nets_srt (own : Int) (nets : List Pf) (a : At) : Srt (netsP own nets a) ∧ ∀ p, p ∈ netsP own nets a → p ∈ nets := by
  unfold netsP
  split
  · exact ⟨List.Pairwise.nil, fun p hp => by simp at hp⟩
  · exact ⟨(setOf_srt nets).1, fun p hp => ((setOf_srt nets).2 p).1 hp⟩
theorem cnt_len {R : Rts} (h : KeysApart R) {said ns : List Pf} (hn : said.Nodup) : cntP R said ns = ((dropAll R said).length : Int) + ns.length := by
  have := len_dropAll h hn
  unfold cntP
  omega
theorem filter_take {α : Type} (f : α → Bool) {l : List α} {k : Nat} {x : α} (h : l[k]? = some x) : (l.take (k + 1)).filter f = (l.take k).filter f ++ if f x then [x] else [] := by
  rw [take_snoc h, List.filter_append]
  congr 1
  by_cases hf : f x = true
  · rw [if_pos hf]; simp [hf]
  · rw [if_neg hf]; simp [hf]
theorem rights_mem {ps : List Pf} (h : rights ps = true) : ∀ p ∈ ps, rightB p.1 p.2 = true := by
  unfold rights at h
  rw [List.all_eq_true] at h
  exact h
theorem get_left (R : Rts) {said : List Pf} (h : Srt said) {k : Nat} {x : Pf} (hx : said[k]? = some x) : getL (dropAll R (said.take k)) x = getL R x := by
  rw [getL_dropAll, if_neg]
  intro hm
  obtain ⟨i, hi⟩ := List.mem_iff_getElem?.1 hm
  have hil : i < k := by have := (List.getElem?_eq_some_iff.1 hi).1; rw [List.length_take] at this; omega
  rw [List.getElem?_take_of_lt hil] at hi
  exact plt_irrefl x (srt_lt h hi hx hil)
theorem drop_next (R : Rts) {said : List Pf} {k : Nat} {x : Pf} (hx : said[k]? = some x) : dropAll R (said.take (k + 1)) = delL (dropAll R (said.take k)) x := by
  rw [take_snoc hx, dropAll_snoc]
theorem put_next (R : Rts) (a : At) {ns : List Pf} {k : Nat} {x : Pf} (hx : ns[k]? = some x) : putAll R (ns.take (k + 1)) a = putP (putAll R (ns.take k) a) x a := by
  rw [take_snoc hx, putAll_snoc]
end Go.Proofs.Ytadlecnlgkhneaa

/-
  ALL ROUTES OF A PEER: what Drop and Put of the trie make of it.
-/
namespace Go.Proofs.Ytadlecnlgkhneaa
open Go.RowKit
theorem own_lt {w : World} {B k n : Nat} {e : TypeId} {v : Value} {xs : List Value} (h : w.ownsRow B e k v n xs) : ∀ g, v.ownBlock = some g → g < w.heap.size := by
  obtain ⟨_, ⟨rfl, _⟩ | ⟨g, cap, cur, rfl, _, hg, _⟩⟩ := h
  · intro g hg; cases hg
  · intro g' hg'; cases hg'; exact row_lt hg
theorem OwnPs.kept {w w' : World} {B : Nat} {v : Value} {xs : List Pf} {F : Nat → Prop} (h : OwnPs w B v xs) (hk : Kept F w w') (hF : ∀ g, v.ownBlock = some g → ¬ F g) : OwnPs w' B v xs :=
  ⟨((own_on h.1).kept hk fun k _ hl => hF k hl).self, h.2⟩
theorem psAt_new (W : World) (x : Pf) (T : TypeId) (hx : OkP x) : PsAt (W.alloc (.cells #[.int .u32 x.1, .int .i64 x.2] T)) (.slice (some ⟨W.heap.size, 0, none⟩) 1 1) [x] := by
  refine ⟨_, 1, rfl, Nat.le_refl _, by simp [maxLen], fun _ => ⟨W.heap.size, 0, rfl, fun i y hy => ?_⟩⟩
  match i, hy with
  | 0, hy =>
    simp at hy
    subst hy
    refine ⟨encP x, rfl, ⟨rfl, hx⟩, fun j c hc => ?_⟩
    rw [row_cell (heap_alloc_new W _)]
    simpa [encP] using hc
theorem Kept.belowOn {F : Nat → Prop} {w w1 w2 : World} (h : Kept F w w1) (hb : Below w.heap.size w1 w2) : Kept F w w2 :=
  ⟨hb.os.trans h.os, hb.tape.trans h.tape, hb.output.trans h.output, Nat.le_trans h.size hb.size, fun k hk hf => (hb.block k hk).trans (h.block k hk hf)⟩
theorem turn_none {R : Rts} {E : List Ent} {ns : List Pf} {a : At} {x : Pf} (hg : getL R x = getL (rts E) x) (hf : findE E x = none) : turnB R ns a x = decide (x ∈ ns) := by
  unfold turnB
  rw [hg, find_rts, hf]
  rfl
theorem turn_some {R : Rts} {E : List Ent} {ns : List Pf} {a : At} {x : Pf} {e : Ent} (hg : getL R x = getL (rts E) x) (hf : findE E x = some e) : turnB R ns a x = (!(decide (x ∈ ns)) || !(sameA e.a a)) := by
  unfold turnB
  rw [hg, find_rts, hf]
  rfl
section
variable {rb tb : Nat} {N : Nat → Option Nat} {E : List Ent} {peer own most : Int} {F : Nat → Prop}
theorem rib_drop (p : Pf) (W : World) (h : RibIn W rb tb N E peer own most F) (hp : RgtP p) :
    Calls Try.prog 32 #[.pointer (some ⟨tb, 0, none⟩), .agg #[.int .u32 p.1, .int .i64 p.2]] W fun e w' => ∃ N' c, e = .returned (.bool c) ∧ RibIn w' rb tb N' (delE E p) peer own most F ∧ Kept (TOwn tb N) W w' := by
  have hp0 := hp
  obtain ⟨a, n, rfl, ha, hn, -, hr'⟩ := hp.nat
  have hl : (kvs E).length ≤ 4096 := by rw [List.length_map]; have := h.room; have := h.most1; omega
  refine (trI_Drop a n W h.tri hl ha hr').mono ?_
  rintro e w' ⟨N', rfl, ht, hs, hk⟩
  exact ⟨N', _, rfl, h.drop hp0 ht hs hk, hk⟩
theorem rib_put (p : Pf) (a : At) (v : AV) (lo : Nat) (W : World) (h : RibIn W rb tb N E peer own most F) (hp : RgtP p) (hz : AtSz a) (hon : Fresh lo W (fun W => AvAt W a v)) (hlo : ∀ b, TOwn tb N b ∨ b = rb → b < lo) (hr : ((delE E p).length : Int) + 1 ≤ most) :
    Calls Try.prog 33 #[.pointer (some ⟨tb, 0, none⟩), .agg #[.int .u32 p.1, .int .i64 p.2], v.V] W fun e w' => ∃ N' c, e = .returned (.int .i64 c) ∧ RibIn w' rb tb N' (delE E p ++ [⟨p, a, v, lo, W.heap.size⟩]) peer own most (fun b => (F b ∨ (lo ≤ b ∧ b < W.heap.size)) ∨ (W.heap.size ≤ b ∧ b < w'.heap.size)) ∧ Kept (TOwn tb N) W w' := by
  have hp0 := hp
  obtain ⟨x, n, rfl, ha, hn, -, hr'⟩ := hp.nat
  have key := find_kvs h.rgt hp0
  have m1 := h.most1
  have R : putR (kvs E) most (keyN x n) v = (0, delL (kvs E) (keyN x n) ++ [(keyN x n, v)]) := by
    cases hg : getL (kvs E) (keyN x n) with
    | none =>
      refine putR_new hg ?_
      have e : delE E ((x : Int), (n : Int)) = E := by
        unfold delE
        rw [List.filter_eq_self]
        intro e he
        simp only [Bool.not_eq_true', decide_eq_false_iff_not]
        intro hx
        have : findE E ((x : Int), (n : Int)) = none := by
          have k2 : getL (kvs E) (pKey ((x : Int), (n : Int))) = none := hg
          rw [key] at k2
          simpa using k2
        unfold findE at this
        rw [List.find?_eq_none] at this
        exact this e he (by simpa using hx)
      rw [e] at hr
      rw [List.length_map]
      omega
    | some u => exact putR_old (by rw [hg]; rfl)
  refine (trI_Put x n v W h.tri (by omega) ha hr').mono ?_
  rintro e w' ⟨N', rfl, ht, hs, hk⟩
  rw [R] at ht
  refine ⟨N', _, rfl, ?_, hk⟩
  have hw : RibIn W rb tb N E peer own most (fun b => F b ∨ (lo ≤ b ∧ b < W.heap.size)) := h.wide fun k hk => .inl hk
  exact hw.put hp0 hz (hon.wide fun k hk hl => ⟨hk, hl⟩) (Nat.le_refl _) (fun b hb hx => by have := hlo b hb; omega) (fun k h1 h2 => .inr ⟨h1, h2⟩) ht hs.2 hk hr
theorem rib_put2 {F0 : Nat → Prop} {w0 : Nat} (p : Pf) (a : At) (v : AV) (lo : Nat) (W W1 : World) (h : RibIn W1 rb tb N E peer own most F) (hb : Below W1.heap.size W1 W) (hF : ∀ b, F b → F0 b ∨ (w0 ≤ b ∧ b < W1.heap.size)) (hw0 : w0 ≤ W1.heap.size)
    (hp : RgtP p) (hz : AtSz a) (hlo : W1.heap.size ≤ lo) (hon : Fresh lo W (fun W => AvAt W a v)) (hr : (E.length : Int) + 1 ≤ most) :
    Calls Try.prog 33 #[.pointer (some ⟨tb, 0, none⟩), .agg #[.int .u32 p.1, .int .i64 p.2], v.V] W fun e w' => ∃ N' E' F' c, e = .returned (.int .i64 c) ∧ RibIn w' rb tb N' E' peer own most F' ∧ rts E' = putP (rts E) p a ∧ (∀ b, F' b → F0 b ∨ (w0 ≤ b ∧ b < w'.heap.size)) ∧ Kept (TOwn tb N) W w' := by
  have hd : (delE E p).length ≤ E.length := List.length_filter_le ..
  refine (rib_put p a v lo W (h.below hb) hp hz hon (fun b hb' => ?_) (by omega)).mono ?_
  · have := row_lt h.row
    rcases hb' with hb' | rfl
    · have := h.tri.own_lt hb'; omega
    · omega
  · rintro e w' ⟨N', c, rfl, hi, hk⟩
    refine ⟨N', _, _, c, rfl, hi, ?_, ?_, hk⟩
    · rw [rts, List.map_append]
      unfold putP
      rw [del_rts]
      rfl
    · have h1 := hk.size
      have h2 := hb.size
      rintro b ((hb | hb) | hb)
      · exact (hF b hb).imp_right fun h => by omega
      · exact .inr (by omega)
      · exact .inr (by omega)
end
/-- how many routes there are on the way. -/
theorem put_room {R : Rts} {said ns : List Pf} {a : At} {most : Int} {k : Nat} (hs : Srt ns) (hsub : ∀ p ∈ ns, p ∈ said) (hk : k < ns.length) (hc : ((dropAll R said).length : Int) + ns.length ≤ most) {E : List Ent} (hE : rts E = putAll (dropAll R said) (ns.take k) a) : (E.length : Int) + 1 ≤ most := by
  have h1 := len_putAll a (ns.take k) (dropAll R said) ((srt_nodup hs).sublist (List.take_sublist k ns)) (fun p hp => by
    rw [getL_dropAll, if_pos (hsub p (List.mem_of_mem_take hp))])
  rw [← hE, List.length_map, List.length_take] at h1
  omega
end Go.Proofs.Ytadlecnlgkhneaa
