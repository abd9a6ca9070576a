/-
  THE REFERENCE's LISTS AND WHAT STANDS IN THE TRIE: plain laws: Put, Drop, Find.
-/
import Derived.Test.YtnklhfdhaclfiaaItC
namespace Go.Proofs.Ytnklhfdhaclfiaa
open Go.RowKit

def enc3 (x : It3) : Nat × Value := (pKey (x.1, x.2.1), .int .i64 x.2.2)
structure Rl (l : List It3) (S : List (Nat × Value)) : Prop where
  map : S = l.map enc3
  ok : ∀ x ∈ l, x.1 < 4294967296 ∧ rightB (x.1 : Int) x.2.1 = true
  ap : l.Pairwise fun x y => ¬ (x.1 = y.1 ∧ x.2.1 = y.2.1)
theorem Rl.nil : Rl [] [] := ⟨rfl, by simp, by simp⟩
theorem net_ok {a : Nat} {n : Int} (h : a < 4294967296) (hr : rightB (a : Int) n = true) : PfOk (a, n) := by
  have := rightB_range hr
  exact ⟨h, by simp only; omega, by simp only; omega⟩
theorem net_key {a b : Nat} {n m : Int} (ha : a < 4294967296) (hb : b < 4294967296) (ra : rightB (a : Int) n = true) (rb : rightB (b : Int) m = true) (h : pKey (a, n) = pKey (b, m)) : a = b ∧ n = m := by
  have h2 := right_len (p := (a, n)) (q := (b, m)) (net_ok ha ra) (net_ok hb rb) ra rb h
  simp only at h2
  subst h2
  obtain ⟨k, rfl⟩ := Int.eq_ofNat_of_zero_le (rightB_range ra).1
  have m1 := right_mod.1 ra
  have m2 := right_mod.1 rb
  obtain ⟨_, e⟩ := keyN_inj ha hb m1.2 m1.2 h
  exact ⟨key_block m1.1 m2.1 e, rfl⟩
theorem findF_spec (a : Nat) (n : Int) : ∀ (l : List It3) (k : Nat), (findF a n l k = -1 ∧ ∀ x ∈ l, ¬ (x.1 = a ∧ x.2.1 = n)) ∨ ∃ (i : Nat) (v : Int), l[i]? = some (a, n, v) ∧ findF a n l k = (k + i : Nat)
  | [], k => .inl ⟨rfl, by simp⟩
  | x :: l, k => by
    unfold findF
    by_cases hx : x.1 = a ∧ x.2.1 = n
    · rw [if_pos hx]
      obtain ⟨xa, xn, xv⟩ := x
      obtain ⟨rfl, rfl⟩ := hx
      exact .inr ⟨0, xv, by simp, by simp⟩
    · rw [if_neg hx]
      rcases findF_spec a n l (k + 1) with ⟨h1, h2⟩ | ⟨i, v, h1, h2⟩
      · refine .inl ⟨h1, fun y hy => ?_⟩
        rcases List.mem_cons.1 hy with rfl | hy
        · exact hx
        · exact h2 y hy
      · exact .inr ⟨i + 1, v, by simpa using h1, by rw [h2]; congr 1; omega⟩
theorem filter_cut {α : Type} (p : α → Bool) : ∀ (l : List α) (i : Nat) (x : α), l[i]? = some x → p x = false → (∀ j y, l[j]? = some y → j ≠ i → p y = true) → l.filter p = l.take i ++ l.drop (i + 1)
  | [], i, x, h, _, _ => by simp at h
  | y :: l, 0, x, h, hx, ho => by
    simp at h; subst h
    rw [List.filter_cons_of_neg (by simpa using hx)]
    simp only [List.take_zero, List.nil_append, List.drop_succ_cons, List.drop_zero]
    rw [List.filter_eq_self]
    intro z hz
    obtain ⟨j, hj⟩ := List.getElem?_of_mem hz
    exact ho (j + 1) z (by simpa using hj) (by omega)
  | y :: l, i + 1, x, h, hx, ho => by
    rw [List.filter_cons_of_pos (ho 0 y rfl (by omega)), filter_cut p l i x (by simpa using h) hx (fun j z hj hne => ho (j + 1) z (by simpa using hj) (by omega))]
    simp
theorem exI_cut : ∀ (l : List It3) (j k : Nat), exI ((k + j : Nat) : Int) l k = l.take j ++ l.drop (j + 1)
  | [], j, k => by simp [exI]
  | y :: l, 0, k => by
    simp only [exI, Nat.add_zero, if_true, List.take_zero, List.nil_append, List.drop_succ_cons, List.drop_zero]
    have : ∀ (m : List It3) (q : Nat), k < q → exI (k : Int) m q = m := by
      intro m
      induction m with
      | nil => intro q _; rfl
      | cons z m ih => intro q hq; simp only [exI]; rw [if_neg (by omega), ih (q + 1) (by omega)]
    exact this l (k + 1) (by omega)
  | y :: l, j + 1, k => by
    have ih := exI_cut l j (k + 1)
    simp only [exI]
    rw [if_neg (by omega), show k + (j + 1) = k + 1 + j by omega, ih]
    simp
theorem exI_none : ∀ (l : List It3) (k : Nat), exI (-1) l k = l
  | [], k => rfl
  | y :: l, k => by simp only [exI]; rw [if_neg (by omega), exI_none l (k + 1)]

theorem Rl.find {l : List It3} {S : List (Nat × Value)} (h : Rl l S) {a : Nat} (n : Int) (ha : a < 4294967296) :
    (findI l a n = -1 ∧ (pRight (a, n) = true → getL S (pKey (a, n)) = none)) ∨
    ∃ (i : Nat) (v : Int), findI l a n = i ∧ l[i]? = some (a, n, v) ∧ pRight (a, n) = true ∧ getL S (pKey (a, n)) = some (.int .i64 v) ∧ delL S (pKey (a, n)) = (l.take i ++ l.drop (i + 1)).map enc3 := by
  rcases findF_spec a n l 0 with ⟨h1, h2⟩ | ⟨i, v, h1, h2⟩
  · refine .inl ⟨h1, fun hr => ?_⟩
    rw [getL_none, h.map]
    intro p hp
    obtain ⟨x, hx, rfl⟩ := List.mem_map.1 hp
    intro e
    obtain ⟨o1, o2⟩ := h.ok x hx
    obtain ⟨e1, e2⟩ := net_key o1 ha o2 hr e
    exact h2 x hx ⟨e1, e2⟩
  · have hm : (a, n, v) ∈ l := List.mem_of_getElem? h1
    have hr : rightB (a : Int) n = true := (h.ok _ hm).2
    have hun : ∀ j y, l[j]? = some y → pKey (y.1, y.2.1) = pKey (a, n) → j = i := by
      intro j y hj e
      obtain ⟨o1, o2⟩ := h.ok y (List.mem_of_getElem? hj)
      obtain ⟨e1, e2⟩ := net_key o1 ha o2 hr e
      have hp := List.pairwise_iff_getElem.1 h.ap
      obtain ⟨lj, gj⟩ := List.getElem?_eq_some_iff.1 hj
      obtain ⟨li, gi⟩ := List.getElem?_eq_some_iff.1 h1
      rcases Nat.lt_trichotomy j i with hlt | he | hlt
      · exact absurd (by rw [gj, gi]; exact ⟨e1, e2⟩) (hp j i lj li hlt)
      · exact he
      · exact absurd (by rw [gj, gi]; exact ⟨e1.symm, e2.symm⟩) (hp i j li lj hlt)
    refine .inr ⟨i, v, by rw [show findI l a n = findF a n l 0 from rfl, h2]; simp, h1, hr, ?_, ?_⟩
    · have hap : KeysApart S := by
        unfold KeysApart
        rw [h.map, List.pairwise_map]
        refine h.ap.imp_of_mem ?_
        intro x y hx hy hne e
        obtain ⟨o1, o2⟩ := h.ok x hx
        obtain ⟨q1, q2⟩ := h.ok y hy
        exact hne (net_key o1 q1 o2 q2 e)
      refine getL_of_mem hap ?_
      rw [h.map]
      exact List.mem_map.2 ⟨_, hm, rfl⟩
    · unfold delL
      rw [h.map, List.filter_map]
      congr 1
      refine filter_cut _ l i (a, n, v) h1 (by simp [enc3]) (fun j y hj hne => ?_)
      simp only [Function.comp, enc3, Bool.not_eq_true']
      exact decide_eq_false (fun e => hne (hun j y hj e))
theorem Rl.apart {l : List It3} {S : List (Nat × Value)} (h : Rl l S) : KeysApart S := by
  unfold KeysApart
  rw [h.map, List.pairwise_map]
  refine h.ap.imp_of_mem ?_
  intro x y hx hy hne e
  obtain ⟨o1, o2⟩ := h.ok x hx
  obtain ⟨q1, q2⟩ := h.ok y hy
  exact hne (net_key o1 q1 o2 q2 e)
theorem cut_sub {α : Type} (l : List α) (i : Nat) : (l.take i ++ l.drop (i + 1)).Sublist l := by
  conv => rhs; rw [← List.take_append_drop i l]
  exact (List.Sublist.refl _).append (by rw [show i + 1 = i + 1 from rfl, ← List.drop_drop]; exact List.drop_sublist ..)
theorem Rl.sub {l m : List It3} {S : List (Nat × Value)} (h : Rl l S) (hs : m.Sublist l) : Rl m (m.map enc3) := ⟨rfl, fun x hx => h.ok x (hs.subset hx), h.ap.sublist hs⟩
theorem Rl.snoc {l : List It3} {S : List (Nat × Value)} (h : Rl l S) {x : It3} (h1 : x.1 < 4294967296) (h2 : rightB (x.1 : Int) x.2.1 = true) (hn : ∀ y ∈ l, ¬ (y.1 = x.1 ∧ y.2.1 = x.2.1)) : Rl (l ++ [x]) (S ++ [enc3 x]) := by
  refine ⟨by rw [h.map]; simp, fun y hy => ?_, ?_⟩
  · rcases List.mem_append.1 hy with hy | hy
    · exact h.ok y hy
    · obtain rfl := List.mem_singleton.1 hy; exact ⟨h1, h2⟩
  · rw [List.pairwise_append]
    exact ⟨h.ap, by simp, fun y hy z hz => by obtain rfl := List.mem_singleton.1 hz; exact hn y hy⟩
/-- Drop. -/
theorem Rl.drop {l : List It3} {S : List (Nat × Value)} (h : Rl l S) {a : Nat} (n : Int) (ha : a < 4294967296) :
    Rl (refDrop l a n).1 (dropA S (a, n)) ∧ (refDrop l a n).2 = (pRight (a, n) && (getL S (pKey (a, n))).isSome) := by
  unfold refDrop dropA
  rcases h.find n ha with ⟨f1, f2⟩ | ⟨i, v, f1, f2, f3, f4, f5⟩
  · rw [f1, if_pos (by omega)]
    by_cases hr : pRight (a, n) = true
    · rw [if_pos hr, delL_none (f2 hr), f2 hr]
      exact ⟨h, by simp⟩
    · rw [if_neg hr]
      exact ⟨h, by simp at hr; simp [hr]⟩
  · rw [f1, if_neg (by omega), if_pos f3, f5, f3, f4, Int.toNat_natCast]
    exact ⟨h.sub (cut_sub l i), rfl⟩
/-- Put. -/
theorem Rl.put {l : List It3} {S : List (Nat × Value)} (h : Rl l S) (most : Int) {x : It3} (hx : x.1 < 4294967296) :
    Rl (refPut l most x).1 (putA S most (x.1, x.2.1) (.int .i64 x.2.2)).2 ∧ (refPut l most x).2 = (putA S most (x.1, x.2.1) (.int .i64 x.2.2)).1 := by
  obtain ⟨a, n, v0⟩ := x
  simp only at hx
  have hlen : S.length = l.length := by rw [h.map, List.length_map]
  unfold refPut putA
  simp only
  by_cases hr : rightB (a : Int) n = true
  · rw [if_pos hr, if_pos hr]
    rcases h.find n hx with ⟨f1, f2⟩ | ⟨i, v, f1, f2, f3, f4, f5⟩
    · have hn : ∀ y ∈ l, ¬ (y.1 = a ∧ y.2.1 = n) := by
        rcases findF_spec a n l 0 with ⟨_, g⟩ | ⟨i, v, _, g⟩
        · exact g
        · rw [show findI l a n = findF a n l 0 from rfl, g] at f1; omega
      rw [f1]
      by_cases hm : most ≤ (l.length : Int)
      · rw [if_pos ⟨by omega, hm⟩, putR_full (f2 hr) (by rw [hlen]; exact hm)]
        exact ⟨h, rfl⟩
      · rw [if_neg (fun e => hm e.2), putR_new (f2 hr) (by rw [hlen]; exact hm), delL_none (f2 hr), exI_none]
        exact ⟨h.snoc (x := (a, n, v0)) hx hr hn, rfl⟩
    · rw [f1, if_neg (by omega), putR_old (by rw [f4]; rfl), f5]
      have e := exI_cut l i 0
      rw [Nat.zero_add] at e
      rw [e]
      refine ⟨(h.sub (cut_sub l i)).snoc (x := (a, n, v0)) hx hr ?_, rfl⟩
      intro y hy hya
      have hs : Rl _ _ := h.sub (cut_sub l i)
      obtain ⟨ya, yn, yv⟩ := y
      obtain ⟨rfl, rfl⟩ := hya
      have : (pKey (ya, yn), (Value.int .i64 yv)) ∈ delL S (pKey (ya, yn)) := by
        rw [f5]; exact List.mem_map.2 ⟨_, hy, rfl⟩
      unfold delL at this
      simp at this
  · rw [if_neg hr, if_neg hr]
    exact ⟨h, rfl⟩
end Go.Proofs.Ytnklhfdhaclfiaa
