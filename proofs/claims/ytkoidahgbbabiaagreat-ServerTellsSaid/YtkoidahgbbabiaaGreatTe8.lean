/- Texts of one proof, one behind another. -/
import Derived.Test.YtkoidahgbbabiaaGreatTe7
import Derived.Test.YtkoidahgbbabiaaGreatTe6
import Derived.Test.YtkoidahgbbabiaaGreatTe4
import Derived.LoopTactic
import Derived.OwnWalk
import Derived.Deep.DeepCutAuto
import Derived.LoopN
import Derived.Lib.SliceRun
import Derived.Sort.Grow
import Derived.Test.YtkoidahgbbabiaaGreatTe1
/-
  WHAT LIES BELOW A NODE, IN ORDER: plain laws.
-/
namespace Go.Proofs.YtkoidahgbbabiaaGreat
open Go.RowKit
theorem here_mem {S : List (Nat × AV)} {A i : Nat} {x : Itm} : x ∈ hereP S A i ↔ x.1 = (A, i) ∧ getL S (keyN A i) = some x.2 := by
  unfold hereP
  cases hg : getL S (keyN A i) with
  | none => simp
  | some v =>
    obtain ⟨y, u⟩ := x
    simp only [List.mem_singleton, Prod.mk.injEq, Option.some.injEq]
    constructor
    · rintro ⟨rfl, rfl⟩; exact ⟨rfl, rfl⟩
    · rintro ⟨rfl, rfl⟩; exact ⟨rfl, rfl⟩
theorem pow_half {i : Nat} (hi : i < 32) : 2 ^ (32 - i) = 2 ^ (31 - i) * 2 ∧ 2 ^ (32 - (i + 1)) = 2 ^ (31 - i) := by
  refine ⟨by rw [show 32 - i = (31 - i) + 1 by omega, Nat.pow_succ], by rw [show 32 - (i + 1) = 31 - i by omega]⟩
structure ItemIn (S : List (Nat × AV)) (A i : Nat) (x : Itm) : Prop where
  form : x.1.1 % 2 ^ (32 - x.1.2) = 0
  le32 : x.1.2 ≤ 32
  deep : i ≤ x.1.2
  lo : A ≤ x.1.1
  hi : x.1.1 < A + 2 ^ (32 - i)
  at_ : getL S (keyN x.1.1 x.1.2) = some x.2
theorem goP_in {S : List (Nat × AV)} : ∀ (d A i : Nat), i + d = 32 → A % 2 ^ (32 - i) = 0 → ∀ x ∈ goP S d A i, ItemIn S A i x
  | 0, A, i, hi, hr, x, hx => by
    obtain ⟨h1, h2⟩ := here_mem.1 hx
    obtain ⟨⟨B, j⟩, v⟩ := x
    cases h1
    exact ⟨hr, by simp only; omega, Nat.le_refl _, Nat.le_refl _, Nat.lt_add_of_pos_right (Nat.pow_pos (by decide)), h2⟩
  | d + 1, A, i, hi, hr, x, hx => by
    obtain ⟨q1, q2⟩ := pow_half (show i < 32 by omega)
    have q3 := Nat.pow_pos (n := 31 - i) (show 0 < 2 by decide)
    unfold goP at hx
    rw [List.mem_append, List.mem_append] at hx
    rcases hx with hx | hx | hx
    · obtain ⟨h1, h2⟩ := here_mem.1 hx
      obtain ⟨⟨B, j⟩, v⟩ := x
      cases h1
      exact ⟨hr, by simp only; omega, Nat.le_refl _, Nat.le_refl _, Nat.lt_add_of_pos_right (Nat.pow_pos (by decide)), h2⟩
    · obtain ⟨a1, a2, a3, a4, a5, a6⟩ := goP_in d A (i + 1) (by omega) (mod_left (by omega) hr) x hx
      exact ⟨a1, a2, by omega, a4, by rw [q2] at a5; omega, a6⟩
    · obtain ⟨a1, a2, a3, a4, a5, a6⟩ := goP_in d (A + 2 ^ (31 - i)) (i + 1) (by omega) (mod_right (by omega) hr) x hx
      exact ⟨a1, a2, by omega, by omega, by rw [q2] at a5; omega, a6⟩
theorem same_block {A B M : Nat} (ha : A % M = 0) (hb : B % M = 0) (h1 : A ≤ B) (h2 : B < A + M) : B = A := by
  obtain ⟨p, rfl⟩ := Nat.dvd_of_mod_eq_zero ha
  obtain ⟨q, rfl⟩ := Nat.dvd_of_mod_eq_zero hb
  have hM : 0 < M := by
    rcases Nat.eq_zero_or_pos M with h | h
    · subst h; simp at h2
    · exact h
  have : q < p + 1 := by
    have : M * q < M * (p + 1) := by rw [Nat.mul_add, Nat.mul_one]; exact h2
    exact Nat.lt_of_mul_lt_mul_left this
  have : p ≤ q := Nat.le_of_mul_le_mul_left h1 hM
  have e : q = p := by omega
  rw [e]
theorem goP_mem {S : List (Nat × AV)} {B j : Nat} {v : AV} (hb : B % 2 ^ (32 - j) = 0) (hj : j ≤ 32) (hg : getL S (keyN B j) = some v) : ∀ (d A i : Nat), i + d = 32 → A % 2 ^ (32 - i) = 0 → i ≤ j → A ≤ B → B < A + 2 ^ (32 - i) → ((B, j), v) ∈ goP S d A i
  | 0, A, i, hi, hr, h1, h2, h3 => by
    obtain rfl : j = i := by omega
    obtain rfl := same_block hr hb h2 h3
    exact here_mem.2 ⟨rfl, hg⟩
  | d + 1, A, i, hi, hr, h1, h2, h3 => by
    obtain ⟨q1, q2⟩ := pow_half (show i < 32 by omega)
    unfold goP
    rw [List.mem_append, List.mem_append]
    by_cases e : j = i
    · subst e
      obtain rfl := same_block hr hb h2 h3
      exact .inl (here_mem.2 ⟨rfl, hg⟩)
    · by_cases hh : B < A + 2 ^ (31 - i)
      · exact .inr (.inl (goP_mem hb hj hg d A (i + 1) (by omega) (mod_left (by omega) hr) (by omega) h2 (by rw [q2]; exact hh)))
      · exact .inr (.inr (goP_mem hb hj hg d (A + 2 ^ (31 - i)) (i + 1) (by omega) (mod_right (by omega) hr) (by omega) (by omega) (by rw [q2]; omega)))
def itLt (x y : Itm) : Prop := x.1.1 < y.1.1 ∨ (x.1.1 = y.1.1 ∧ x.1.2 < y.1.2)
theorem goP_sorted {S : List (Nat × AV)} : ∀ (d A i : Nat), i + d = 32 → A % 2 ^ (32 - i) = 0 → (goP S d A i).Pairwise itLt
  | 0, A, i, hi, hr => by
    unfold goP hereP
    split <;> simp
  | d + 1, A, i, hi, hr => by
    obtain ⟨q1, q2⟩ := pow_half (show i < 32 by omega)
    have q3 := Nat.pow_pos (n := 31 - i) (show 0 < 2 by decide)
    have hl := mod_left (show i < 32 by omega) hr
    have hrr := mod_right (show i < 32 by omega) hr
    unfold goP
    rw [List.pairwise_append, List.pairwise_append]
    refine ⟨?_, ⟨goP_sorted d A (i + 1) (by omega) hl, goP_sorted d _ (i + 1) (by omega) hrr, ?_⟩, ?_⟩
    · unfold hereP; split <;> simp
    · intro x hx y hy
      have hx := goP_in d A (i + 1) (by omega) hl x hx
      have hy := goP_in d _ (i + 1) (by omega) hrr y hy
      have := hx.hi
      rw [q2] at this
      have := hy.lo
      exact .inl (by omega)
    · intro x hx y hy
      obtain ⟨h1, h2⟩ := here_mem.1 hx
      rcases List.mem_append.1 hy with hy | hy
      · have hy := goP_in d A (i + 1) (by omega) hl y hy
        have a1 := hy.lo
        have a2 := hy.deep
        unfold itLt
        rw [h1]
        simp only
        omega
      · have hy := goP_in d _ (i + 1) (by omega) hrr y hy
        have a1 := hy.lo
        unfold itLt
        rw [h1]
        simp only
        omega
theorem key_block {A B i : Nat} (ha : A % 2 ^ (32 - i) = 0) (hb : B % 2 ^ (32 - i) = 0) (h : A / 2 ^ (32 - i) = B / 2 ^ (32 - i)) : A = B := by
  have h1 := Nat.div_add_mod A (2 ^ (32 - i))
  have h2 := Nat.div_add_mod B (2 ^ (32 - i))
  rw [ha] at h1
  rw [hb, ← h] at h2
  omega
end Go.Proofs.YtkoidahgbbabiaaGreat
/-
  SETS OF PREFIXES, the plain side: the strict order of prefixes; rows in strict order; neighbours that are one struck out.
-/
namespace Go.Proofs.YtkoidahgbbabiaaGreat
open Go.RowKit
abbrev Pf := Int × Int
def pcmp (p q : Pf) : Int := prefCmp p.1 p.2 q.1 q.2
def plt (p q : Pf) : Prop := p.1 < q.1 ∨ (p.1 = q.1 ∧ p.2 < q.2)
instance (p q : Pf) : Decidable (plt p q) := by unfold plt; infer_instance
theorem pcmp_val (p q : Pf) : pcmp p q = if plt p q then -1 else if plt q p then 1 else 0 := by
  unfold pcmp prefCmp orI cmpI plt
  repeat' split
  all_goals first | rfl | omega
theorem pcmp_lt {p q : Pf} : pcmp p q < 0 ↔ plt p q := by
  rw [pcmp_val]
  split
  · rename_i h
    simp [h]
  · rename_i h
    split <;> simp [h]
theorem plt_irrefl (p : Pf) : ¬ plt p p := by unfold plt; omega
theorem plt_trans {p q r : Pf} (h : plt p q) (k : plt q r) : plt p r := by unfold plt at *; omega
theorem plt_asymm {p q : Pf} (h : plt p q) : ¬ plt q p := fun k => plt_irrefl p (plt_trans h k)
theorem plt_total {p q : Pf} (h : ¬ plt p q) (k : ¬ plt q p) : p = q := by
  unfold plt at *
  obtain ⟨a, b⟩ := p
  obtain ⟨c, d⟩ := q
  simp only [Prod.mk.injEq] at *
  omega
theorem pcmp_eq {p q : Pf} : pcmp p q = 0 ↔ p = q := by
  rw [pcmp_val]
  split
  · rename_i h
    exact ⟨fun k => absurd k (by decide), fun k => by subst k; exact absurd h (plt_irrefl p)⟩
  · rename_i h
    split
    · rename_i h2
      exact ⟨fun k => absurd k (by decide), fun k => by subst k; exact absurd h2 (plt_irrefl p)⟩
    · rename_i h2
      exact ⟨fun _ => plt_total h h2, fun _ => rfl⟩
abbrev Srt (l : List Pf) : Prop := l.Pairwise plt
theorem srt_ext : ∀ {l m : List Pf}, Srt l → Srt m → (∀ p, p ∈ l ↔ p ∈ m) → l = m
  | [], [], _, _, _ => rfl
  | [], q :: m, _, _, h => by have := (h q).2 (List.mem_cons_self ..); simp at this
  | p :: l, [], _, _, h => by have := (h p).1 (List.mem_cons_self ..); simp at this
  | p :: l, q :: m, hl, hm, h => by
    rw [Srt, List.pairwise_cons] at hl hm
    have e : p = q := by
      have h1 := (h p).1 (List.mem_cons_self ..)
      have h2 := (h q).2 (List.mem_cons_self ..)
      rcases List.mem_cons.1 h1 with h1 | h1
      · exact h1
      · rcases List.mem_cons.1 h2 with h2 | h2
        · exact h2.symm
        · exact absurd (hl.1 q h2) (plt_asymm (hm.1 p h1))
    subst e
    have := srt_ext hl.2 hm.2 fun x => by
      have hx := h x
      rw [List.mem_cons, List.mem_cons] at hx
      constructor
      · intro k
        rcases hx.1 (.inr k) with e | e
        · subst e; exact absurd (hl.1 _ k) (plt_irrefl _)
        · exact e
      · intro k
        rcases hx.2 (.inr k) with e | e
        · subst e; exact absurd (hm.1 _ k) (plt_irrefl _)
        · exact e
    rw [this]
theorem srt_nodup {l : List Pf} (h : Srt l) : l.Nodup := h.imp fun k e => by subst e; exact plt_irrefl _ k
theorem srt_lt {l : List Pf} (h : Srt l) {i j : Nat} {p q : Pf} (hi : l[i]? = some p) (hj : l[j]? = some q) (hij : i < j) : plt p q := by
  obtain ⟨h1, rfl⟩ := List.getElem?_eq_some_iff.1 hi
  obtain ⟨h2, rfl⟩ := List.getElem?_eq_some_iff.1 hj
  exact List.pairwise_iff_getElem.1 h i j h1 h2 hij
def cstep (acc : List Pf) (x : Pf) : List Pf := if acc.getLast? = some x then acc else acc ++ [x]
def comp (l : List Pf) : List Pf := l.foldl cstep []
theorem comp_snoc (l : List Pf) (x : Pf) : comp (l ++ [x]) = cstep (comp l) x := by unfold comp; rw [List.foldl_append]; rfl
theorem cstep_last (acc : List Pf) (x : Pf) : (cstep acc x).getLast? = some x := by
  unfold cstep
  split
  · assumption
  · simp
theorem comp_last_from : ∀ (l acc : List Pf), (l.foldl cstep acc).getLast? = l.getLast?.or acc.getLast?
  | [], acc => by simp
  | x :: l, acc => by
    rw [List.foldl_cons, comp_last_from l, cstep_last, List.getLast?_cons]
    cases l.getLast? <;> simp
theorem comp_last (l : List Pf) : (comp l).getLast? = l.getLast? := by
  unfold comp
  rw [comp_last_from]; simp
theorem comp_next {l : List Pf} {k : Nat} {x y : Pf} (hx : l[k]? = some x) (hy : l[k + 1]? = some y) : comp (l.take (k + 2)) = if x = y then comp (l.take (k + 1)) else comp (l.take (k + 1)) ++ [y] := by
  have h1 : l.take (k + 2) = l.take (k + 1) ++ [y] := by rw [List.take_add_one, hy]; rfl
  have h2 : (l.take (k + 1)).getLast? = some x := by rw [List.take_add_one, hx]; simp
  rw [h1, comp_snoc]
  unfold cstep
  rw [comp_last, h2]
  simp only [Option.some.injEq]
theorem comp_one {l : List Pf} {x : Pf} (hx : l[0]? = some x) : comp (l.take 1) = [x] := by
  rw [List.take_add_one, hx]; rfl
theorem comp_len_from : ∀ (l acc : List Pf), acc.length ≤ (l.foldl cstep acc).length ∧ (l.foldl cstep acc).length ≤ acc.length + l.length
  | [], acc => by simp
  | x :: l, acc => by
    have h := comp_len_from l (cstep acc x)
    have h2 : acc.length ≤ (cstep acc x).length ∧ (cstep acc x).length ≤ acc.length + 1 := by unfold cstep; split <;> simp
    rw [List.foldl_cons, List.length_cons]; omega
theorem comp_len (l : List Pf) : (comp l).length ≤ l.length := by have := (comp_len_from l []).2; unfold comp; simpa using this
theorem comp_whole {l : List Pf} (k : Nat) (h : ∀ (i : Nat) (x y : Pf), i + 1 < k → l[i]? = some x → l[i + 1]? = some y → x ≠ y) (hk : k ≤ l.length) : comp (l.take k) = l.take k := by
  induction k with
  | zero => rfl
  | succ k ih =>
    cases k with
    | zero =>
      obtain ⟨x, hx⟩ : ∃ x, l[0]? = some x := ⟨_, List.getElem?_eq_getElem (by omega)⟩
      rw [comp_one hx, List.take_add_one, hx]; rfl
    | succ k =>
      obtain ⟨x, hx⟩ : ∃ x, l[k]? = some x := ⟨_, List.getElem?_eq_getElem (by omega)⟩
      obtain ⟨y, hy⟩ : ∃ y, l[k + 1]? = some y := ⟨_, List.getElem?_eq_getElem (by omega)⟩
      rw [comp_next hx hy, if_neg (h k x y (by omega) hx hy), ih (fun i x y hi => h i x y (by omega)) (by omega), List.take_add_one (i := k + 1), hy]; rfl
theorem comp_sub_from : ∀ (l acc : List Pf) (p : Pf), p ∈ l.foldl cstep acc → p ∈ acc ∨ p ∈ l
  | [], acc, p, h => .inl h
  | x :: l, acc, p, h => by
    rcases comp_sub_from l (cstep acc x) p h with h | h
    · unfold cstep at h
      split at h
      · exact .inl h
      · rcases List.mem_append.1 h with h | h
        · exact .inl h
        · exact .inr (by rw [List.mem_singleton.1 h]; exact List.mem_cons_self ..)
    · exact .inr (List.mem_cons_of_mem _ h)
theorem comp_sub {l : List Pf} {p : Pf} (h : p ∈ comp l) : p ∈ l := (comp_sub_from l [] p h).resolve_left (by simp)
theorem comp_srt_from : ∀ (l acc : List Pf), Srt acc → (∀ a ∈ acc, ∀ x ∈ l, ¬ plt x a) → l.Pairwise (fun x y => ¬ plt y x) → Srt (l.foldl cstep acc) ∧ ∀ p, p ∈ l.foldl cstep acc ↔ p ∈ acc ∨ p ∈ l
  | [], acc, h, _, _ => ⟨h, fun p => by simp⟩
  | x :: l, acc, h, ha, hl => by
    rw [List.pairwise_cons] at hl
    rw [List.foldl_cons]
    by_cases e : acc.getLast? = some x
    · rw [show cstep acc x = acc by unfold cstep; rw [if_pos e]]
      have ih := comp_srt_from l acc h (fun a h1 y h2 => ha a h1 y (List.mem_cons_of_mem _ h2)) hl.2
      refine ⟨ih.1, fun p => ?_⟩
      rw [ih.2, List.mem_cons]
      constructor
      · rintro (k | k)
        · exact .inl k
        · exact .inr (.inr k)
      · rintro (k | rfl | k)
        · exact .inl k
        · exact .inl (List.mem_of_getLast? e)
        · exact .inr k
    · rw [show cstep acc x = acc ++ [x] by unfold cstep; rw [if_neg e]]
      have hs : Srt (acc ++ [x]) := by
        rw [Srt, List.pairwise_append]
        refine ⟨h, List.pairwise_singleton _ _, fun a h1 y h2 => ?_⟩
        obtain rfl := List.mem_singleton.1 h2
        have h3 := ha a h1 y (List.mem_cons_self ..)
        by_cases h4 : plt a y
        · exact h4
        · exfalso
          obtain rfl := plt_total h4 h3
          obtain ⟨i, hi⟩ := List.mem_iff_getElem?.1 h1
          have hlast : acc[acc.length - 1]? = acc.getLast? := (List.getLast?_eq_getElem? ..).symm
          obtain ⟨hil, -⟩ := List.getElem?_eq_some_iff.1 hi
          obtain ⟨z, hz⟩ : ∃ z, acc[acc.length - 1]? = some z := ⟨_, List.getElem?_eq_getElem (by omega)⟩
          by_cases hi2 : i = acc.length - 1
          · subst hi2
            rw [← hlast, hi] at e
            exact e rfl
          · have h5 := srt_lt h hi hz (by omega)
            exact ha z (List.mem_of_getElem? hz) a (List.mem_cons_self ..) h5
      have ih := comp_srt_from l (acc ++ [x]) hs (fun a h1 y h2 => by
        rcases List.mem_append.1 h1 with h1 | h1
        · exact ha a h1 y (List.mem_cons_of_mem _ h2)
        · obtain rfl := List.mem_singleton.1 h1
          exact hl.1 y h2) hl.2
      refine ⟨ih.1, fun p => ?_⟩
      rw [ih.2, List.mem_append, List.mem_singleton, List.mem_cons, or_assoc]
theorem comp_srt {l : List Pf} (hl : l.Pairwise (fun x y => ¬ plt y x)) : Srt (comp l) ∧ ∀ p, p ∈ comp l ↔ p ∈ l := by
  have h := comp_srt_from l [] List.Pairwise.nil (fun a h => by simp at h) hl
  exact ⟨h.1, fun p => by have := h.2 p; simpa [comp] using this⟩
end Go.Proofs.YtkoidahgbbabiaaGreat
/-
  What is known of memory by the blocks that it lies in; the rows of slices, cell by cell.
-/
namespace Go.Proofs.YtkoidahgbbabiaaGreat
open Go.RowKit
def On (F : Nat → Prop) (w : World) (Q : World → Prop) : Prop := ∀ W : World, (∀ k, F k → k < w.heap.size → W.heap[k]? = w.heap[k]?) → Q W
theorem On.self {F : Nat → Prop} {w : World} {Q : World → Prop} (h : On F w Q) : Q w := h w fun _ _ _ => rfl
theorem On.wide {F G : Nat → Prop} {w : World} {Q : World → Prop} (h : On F w Q) (hFG : ∀ k, F k → k < w.heap.size → G k) : On G w Q := fun W hW => h W fun k hk hl => hW k (hFG k hk hl) hl
theorem On.imp {F : Nat → Prop} {w : World} {Q R : World → Prop} (h : On F w Q) (hQ : ∀ W, Q W → R W) : On F w R := fun W hW => hQ W (h W hW)
theorem On.and {F : Nat → Prop} {w : World} {Q R : World → Prop} (h : On F w Q) (k : On F w R) : On F w fun W => Q W ∧ R W := fun W hW => ⟨h W hW, k W hW⟩
theorem On.kept {F G : Nat → Prop} {w w' : World} {Q : World → Prop} (h : On F w Q) (hk : Kept G w w') (hne : ∀ k, k < w.heap.size → F k → ¬ G k) : On F w' Q := fun W hW =>
  h W fun k hF hl => (hW k hF (Nat.lt_of_lt_of_le hl hk.size)).trans (hk.block k hl (hne k hl hF))
theorem On.below {F : Nat → Prop} {w w' : World} {Q : World → Prop} (h : On F w Q) (hb : Below w.heap.size w w') : On F w' Q := h.kept (G := fun _ => False) (Kept.of_below hb) (fun _ _ _ h => h)
theorem own_on {w : World} {B k n : Nat} {e : TypeId} {v : Value} {xs : List Value} (h : w.ownsRow B e k v n xs) : On (fun b => v.ownBlock = some b) w fun W => W.ownsRow B e k v n xs := by
  intro W hW
  obtain ⟨h1, h2⟩ := h
  refine ⟨h1, h2.imp_right ?_⟩
  rintro ⟨g, cap, cur, rfl, h4, h5, h6⟩
  exact ⟨g, cap, cur, rfl, h4, (hW g rfl (row_lt h5)).trans h5, h6⟩
abbrev Fresh (lo : Nat) (w : World) (Q : World → Prop) : Prop := On (fun k => lo ≤ k) w Q
theorem own_fresh {w : World} {B k n : Nat} {e : TypeId} {v : Value} {xs : List Value} (h : w.ownsRow B e k v n xs) : Fresh B w fun W => W.ownsRow B e k v n xs := (own_on h).wide fun b hb _ => own_form_le h b hb
section
variable {α : Type} {k : Nat}
theorem rows_len {rows : List (List Value)} (h : ∀ r ∈ rows, r.length = k) : rows.flatten.length = rows.length * k := by
  induction rows with
  | nil => simp
  | cons x xs ih => rw [List.flatten_cons, List.length_append, ih (fun r hr => h r (List.mem_cons_of_mem _ hr)), h x (List.mem_cons_self ..), List.length_cons, Nat.succ_mul]; omega
theorem rows_get : ∀ {rows : List (List Value)}, (∀ r ∈ rows, r.length = k) → ∀ (i : Nat) (r : List Value), rows[i]? = some r → ∀ j, j < k → rows.flatten[i * k + j]? = r[j]?
  | [], _, i, x, h, _, _ => by simp at h
  | y :: xs, hk, 0, x, h, j, hj => by
    simp at h; subst h
    rw [List.flatten_cons, Nat.zero_mul, Nat.zero_add, List.getElem?_append_left (by rw [hk y (List.mem_cons_self ..)]; exact hj)]
  | y :: xs, hk, i + 1, x, h, j, hj => by
    have ih := rows_get (rows := xs) (fun r hr => hk r (List.mem_cons_of_mem _ hr)) i x (by simpa using h) j hj
    have hy := hk y (List.mem_cons_self ..)
    rw [List.flatten_cons, List.getElem?_append_right (by rw [hy, Nat.succ_mul]; omega), hy, ← ih]
    congr 1
    rw [Nat.succ_mul]; omega
theorem rows_set {rows : List (List Value)} (h : ∀ r ∈ rows, r.length = k) {i : Nat} {r : List Value} (hr : rows[i]? = some r) {j : Nat} (hj : j < k) (u : Value) : (rows.set i (r.set j u)).flatten = rows.flatten.set (i * k + j) u := by
  induction rows generalizing i with
  | nil => simp at hr
  | cons x xs ih =>
    cases i with
    | zero =>
      simp at hr; subst hr
      have hx := h x (List.mem_cons_self ..)
      rw [List.set_cons_zero, List.flatten_cons, List.flatten_cons, Nat.zero_mul, Nat.zero_add, List.set_append_left _ _ (by omega)]
    | succ i =>
      have hx := h x (List.mem_cons_self ..)
      rw [List.set_cons_succ, List.flatten_cons, List.flatten_cons, ih (fun r hr => h r (List.mem_cons_of_mem _ hr)) (by simpa using hr), List.set_append_right _ _ (by rw [hx, Nat.succ_mul]; omega)]
      congr 2
      rw [hx, Nat.succ_mul]; omega
theorem slat_rows {w : World} {R : α → List Value → Prop} {v : Value} {xs : List α} (h : SlAt w k R v xs) : ∃ (sa : Option Addr) (cap : Nat) (rows : List (List Value)), v = .slice sa xs.length cap ∧ xs.length ≤ cap ∧ cap ≤ maxLen ∧ rows.length = xs.length ∧ (∀ r ∈ rows, r.length = k) ∧
    (∀ (i : Nat) (x : α), xs[i]? = some x → ∃ cs, rows[i]? = some cs ∧ R x cs) ∧ (0 < xs.length → ∃ b off, sa = some ⟨b, off, none⟩ ∧ ∀ q u, rows.flatten[q]? = some u → w.cell? ⟨b, off + q, none⟩ = some u) := by
  obtain ⟨sa, cap, h1, h2, h3, h4⟩ := h
  by_cases h0 : 0 < xs.length
  · obtain ⟨b, off, h5, h6⟩ := h4 h0
    have hone : ∀ i : Fin xs.length, ∃ cs : List Value, cs.length = k ∧ R xs[i] cs ∧ ∀ (j : Nat) (c : Value), cs[j]? = some c → w.cell? ⟨b, off + i * k + j, none⟩ = some c := fun i => h6 i.val _ (List.getElem?_eq_getElem i.isLt)
    obtain ⟨g, hg⟩ := Classical.axiomOfChoice hone
    have hk : ∀ r ∈ List.ofFn g, r.length = k := fun r hr => by
      obtain ⟨i, rfl⟩ := List.mem_ofFn.1 hr
      exact (hg i).1
    refine ⟨sa, cap, List.ofFn g, h1, h2, h3, by simp, hk, fun i x hx => ?_, fun _ => ⟨b, off, h5, fun q u hq => ?_⟩⟩
    · obtain ⟨hi, rfl⟩ := List.getElem?_eq_some_iff.1 hx
      exact ⟨g ⟨i, hi⟩, by rw [List.getElem?_ofFn]; simp [hi], (hg ⟨i, hi⟩).2.1⟩
    · by_cases hk0 : 0 < k
      · have hql := (List.getElem?_eq_some_iff.1 hq).1
        rw [rows_len hk, List.length_ofFn] at hql
        have hi : q / k < xs.length := Nat.div_lt_of_lt_mul (by rw [Nat.mul_comm]; exact hql)
        have hj := Nat.mod_lt q hk0
        have e : q = q / k * k + q % k := by rw [Nat.mul_comm]; exact (Nat.div_add_mod q k).symm
        have hget : (List.ofFn g)[q / k]? = some (g ⟨q / k, hi⟩) := by rw [List.getElem?_ofFn]; simp [hi]
        have := rows_get hk (q / k) _ hget (q % k) hj
        rw [← e, hq] at this
        have := (hg ⟨q / k, hi⟩).2.2 (q % k) u this.symm
        simp only at this
        rw [Nat.add_assoc, ← e] at this
        exact this
      · have hql := (List.getElem?_eq_some_iff.1 hq).1
        rw [rows_len hk] at hql
        have : k = 0 := by omega
        subst this
        simp at hql
  · have : xs = [] := List.length_eq_zero_iff.1 (by omega)
    subst this
    exact ⟨sa, cap, [], h1, h2, h3, rfl, fun r hr => by simp at hr, fun i x hx => by simp at hx, fun h => absurd h h0⟩
theorem own_rows {w : World} {B : Nat} {e : TypeId} {v : Value} {xs : List α} {rows : List (List Value)} {R : α → List Value → Prop} (h : w.ownsRow B e k v xs.length rows.flatten) (hk : ∀ r ∈ rows, r.length = k)
    (hR : ∀ (i : Nat) (x : α), xs[i]? = some x → ∃ cs, rows[i]? = some cs ∧ R x cs) : SlAt w k R v xs := by
  obtain ⟨_, ⟨rfl, h0⟩ | ⟨g, cap, cur, rfl, _, hg, hn, hm, _, hcur⟩⟩ := h
  · obtain rfl := List.length_eq_zero_iff.1 h0
    exact SlAt.nil
  · refine ⟨some ⟨g, 0, none⟩, cap, rfl, hn, hm, fun _ => ⟨g, 0, rfl, fun i x hx => ?_⟩⟩
    obtain ⟨cs, hcs, hr⟩ := hR i x hx
    have hl := hk cs (List.mem_of_getElem? hcs)
    refine ⟨cs, hl, hr, fun j c hc => ?_⟩
    have hj : j < k := by rw [← hl]; exact (List.getElem?_eq_some_iff.1 hc).1
    have hi : i < xs.length := (List.getElem?_eq_some_iff.1 hx).1
    have hf := rows_get hk i cs hcs j hj
    rw [← hcur, hc, List.getElem?_take_of_lt (by
      have : (i + 1) * k ≤ xs.length * k := Nat.mul_le_mul_right _ hi
      rw [Nat.succ_mul] at this; omega)] at hf
    rw [row_cell hg, Nat.zero_add]
    simpa using hf
theorem own_set {w : World} {B n : Nat} {e : TypeId} {v : Value} {xs : List Value} {g c : Nat} (h : w.ownsRow B e k v n xs) (hv : v = .slice (some ⟨g, 0, none⟩) n c) (j : Nat) (u : Value) :
    (w.setCell ⟨g, j, none⟩ u).ownsRow B e k v n (xs.set j u) := by
  obtain ⟨h1, ⟨rfl, _⟩ | ⟨g', cap, cur, rfl, hB, hg, hn, hm, hsz, hcur⟩⟩ := h
  · cases hv
  · injection hv with hv _ _
    injection hv with hv
    injection hv with hv
    subst hv
    refine ⟨by simp [h1], .inr ⟨_, cap, cur.setIfInBounds j u, rfl, hB, set_same hg j u, hn, hm, by simp [hsz], ?_⟩⟩
    rw [← hcur, Array.toList_setIfInBounds, List.take_set]
theorem own_row_cell {w : World} {B n : Nat} {e : TypeId} {v : Value} {xs : List Value} {g c : Nat} (h : w.ownsRow B e k v n xs) (hv : v = .slice (some ⟨g, 0, none⟩) n c) {j : Nat} {u : Value} (hj : xs[j]? = some u) :
    w.cell? ⟨g, j, none⟩ = some u ∧ w.frozen? ⟨g, j, none⟩ = false ∧ B ≤ g ∧ g < w.heap.size := by
  obtain ⟨h1, ⟨rfl, _⟩ | ⟨g', cap, cur, rfl, hB, hg, hn, hm, hsz, hcur⟩⟩ := h
  · cases hv
  · injection hv with hv _ _
    injection hv with hv
    injection hv with hv
    subst hv
    refine ⟨?_, row_free hg j, hB, row_lt hg⟩
    have hl := (List.getElem?_eq_some_iff.1 hj).1
    rw [h1] at hl
    rw [← hcur, List.getElem?_take_of_lt hl] at hj
    rw [row_cell hg]
    simpa using hj
theorem own_slice {w : World} {B n : Nat} {e : TypeId} {v : Value} {xs : List Value} (h : w.ownsRow B e k v n xs) : (v = .slice none 0 0 ∧ n = 0) ∨ ∃ g c, v = .slice (some ⟨g, 0, none⟩) n c := by
  obtain ⟨_, h | ⟨g, cap, cur, rfl, _⟩⟩ := h
  · exact .inl h
  · exact .inr ⟨g, cap, rfl⟩
end
end Go.Proofs.YtkoidahgbbabiaaGreat
/-
  SETS OF PREFIXES: prefixes in memory; ip's Cmp with the draws and blocks that it leaves.
-/
namespace Go.Proofs.YtkoidahgbbabiaaGreat
open Go.RowKit
def encP (p : Pf) : List Value := [.int .u32 p.1, .int .i64 p.2]
theorem encP_len (p : Pf) : (encP p).length = 2 := rfl
theorem encP_one (p : Pf) : ∀ u ∈ encP p, u.oneCell' = true := by
  intro u hu
  unfold encP at hu
  rcases List.mem_cons.1 hu with rfl | hu
  · rfl
  · rcases List.mem_cons.1 hu with rfl | hu
    · rfl
    · simp at hu
def OkP (p : Pf) : Prop := 0 ≤ p.1 ∧ p.1 < 4294967296
def PfC (p : Pf) (cs : List Value) : Prop := cs = encP p ∧ OkP p
abbrev PsAt (w : World) (v : Value) (xs : List Pf) : Prop := SlAt w 2 PfC v xs
theorem PsAt.below {w w' : World} {v : Value} {xs : List Pf} (h : PsAt w v xs) (hb : Below w.heap.size w w') : PsAt w' v xs := SlAt.below h hb fun _ _ h => h
theorem ps_ok {w : World} {v : Value} {xs : List Pf} (h : PsAt w v xs) : ∀ p ∈ xs, OkP p := by
  intro p hp
  obtain ⟨sa, cap, -, -, -, h4⟩ := h
  obtain ⟨i, hi⟩ := List.mem_iff_getElem?.1 hp
  obtain ⟨b, off, -, h6⟩ := h4 (by have := (List.getElem?_eq_some_iff.1 hi).1; omega)
  obtain ⟨cs, -, ⟨-, h⟩, -⟩ := h6 i p hi
  exact h
theorem ps_two {w : World} {xs : List Pf} {b off : Nat} (h : ∀ (i : Nat) (x : Pf), xs[i]? = some x → ∃ cs : List Value, cs.length = 2 ∧ PfC x cs ∧ ∀ (j : Nat) (c : Value), cs[j]? = some c → w.cell? ⟨b, off + i * 2 + j, none⟩ = some c)
    {i : Nat} {x : Pf} (hx : xs[i]? = some x) : w.cell? ⟨b, off + i * 2, none⟩ = some (.int .u32 x.1) ∧ w.cell? ⟨b, off + i * 2 + 1, none⟩ = some (.int .i64 x.2) := by
  obtain ⟨cs, -, ⟨rfl, -⟩, hc⟩ := h i x hx
  exact ⟨hc 0 _ rfl, hc 1 _ rfl⟩
theorem ps_len {w : World} {v : Value} {xs : List Pf} (h : PsAt w v xs) : xs.length ≤ maxLen := by
  obtain ⟨sa, cap, -, h2, h3, -⟩ := h
  omega
structure Dr (w w' : World) : Prop where
  below : Below w.heap.size w w'
  drawn : w.drawn ≤ w'.drawn
theorem Dr.refl (w : World) : Dr w w := ⟨Below.refl _ _, Nat.le_refl _⟩
theorem Dr.on {w w1 w2 : World} (h : Dr w w1) (k : Dr w1 w2) : Dr w w2 := ⟨below_on h.below k.below, Nat.le_trans h.drawn k.drawn⟩
theorem Dr.drew (w : World) : Dr w w.drew := ⟨(Below.refl _ _).drew, Nat.le_succ _⟩
theorem Dr.alloc {w w1 : World} (h : Dr w w1) (o : Obj) : Dr w (w1.alloc o) := ⟨h.below.alloc h.below.size o, h.drawn⟩
theorem Dr.grow {w w' : World} (h : Dr w w') : ∃ q os, w' = Sort.grow (w.drewN q) os := by
  obtain ⟨⟨h1, h2, h3, h4, h5⟩, h6⟩ := h
  refine ⟨w'.drawn - w.drawn, w'.heap.extract w.heap.size w'.heap.size, ?_⟩
  have e : w'.heap = w.heap ++ w'.heap.extract w.heap.size w'.heap.size := by
    apply Array.ext_getElem?
    intro i
    by_cases hi : i < w.heap.size
    · rw [h5 i hi, Array.getElem?_append_left hi]
    · rw [Array.getElem?_append_right (by omega), Array.getElem?_extract]
      split
      · congr 1; omega
      · rw [Array.getElem?_eq_none (by omega)]
  cases w'
  cases w
  simp only at h1 h2 h3 h4 h6 e
  subst h1; subst h2; subst h3
  unfold Sort.grow
  rw [World.drewN]
  simp only [World.mk.injEq, true_and, and_true]
  exact ⟨e, by omega⟩
theorem calls_dr {P : Program} {f : FuncId} {args : Array Value} {w : World} {E : Ending → Prop} (h : Calls P f args w fun e w' => E e ∧ w = w') : Calls P f args w fun e w' => E e ∧ Dr w w' := h.mono fun _ _ ⟨a, b⟩ => ⟨a, b ▸ Dr.refl _⟩
set_option maxHeartbeats 400000 in
theorem ip_CmpD (a n b m : Int) (w : World) :
    Calls Tryz.prog 22 #[.agg #[.int .u32 a, .int .i64 n], .agg #[.int .u32 b, .int .i64 m]] w fun e w' => e = .returned (.int .i64 (prefCmp a n b m)) ∧ Dr w w' := by
  go_enter Tryz.func22, Tryz.ntmps22
  go_wp2_with fail
  obtain ⟨W0, hW0, c0, c1, d0, d1, -⟩ := box22 w (.int .u32 a) (.int .i64 n) (.int .u32 b) (.int .i64 m) 53 53
  have hB : Dr w W0 := by rw [hW0]; exact ((Dr.refl _).alloc _).alloc _
  rw [← hW0]; clear hW0
  refine wp_region_held_drew (S := fun w' => Dr W0 w') (by kernel_rfl) ?_ (fun hHeld => ?_)
  · exact Dr.drew _
  refine rg_yes (i := 0) (v := ?_) at0 (by kernel_rfl) (by kernel_rfl) (by kernel_rfl) (fun _ _ _ h => h) ?_ ?_ hHeld ?_; rotate_left 1; (· rfl); (· intro w' hSw; (try dsimp only at hSw); (try clear hHeld); go_simp; try with_reducible rfl)
  try simp only [zp1, zp3, zp4, zp5]
  refine rg_yes (i := 1) (v := ?_) (atS at0) (by kernel_rfl) (by kernel_rfl) (by kernel_rfl) (fun _ _ _ h => h) ?_ ?_ hHeld ?_; rotate_left 1; (· rfl); (· intro w' hSw; (try dsimp only at hSw); have c0 := cell_below c0 hSw.below; have c1 := cell_below c1 hSw.below; have d0 := cell_below d0 hSw.below; have d1 := cell_below d1 hSw.below; (try clear hHeld); go_simp; try with_reducible rfl)
  try simp only [zp1, zp3, zp4, zp5]
  refine rg_yes (i := 2) (v := ?_) (atS (atS at0)) (by kernel_rfl) (by kernel_rfl) (by kernel_rfl) (fun _ _ _ h => h) ?_ ?_ hHeld ?_; rotate_left 1; (· rfl); (· intro w' hSw; (try dsimp only at hSw); (try clear hHeld); go_simp; try with_reducible rfl)
  try simp only [zp1, zp3, zp4, zp5]
  refine rg_yes (i := 3) (v := ?_) (atS (atS (atS at0))) (by kernel_rfl) (by kernel_rfl) (by kernel_rfl) (fun _ _ _ h => h) ?_ ?_ hHeld ?_; rotate_left 1; (· rfl); (· intro w' hSw; (try dsimp only at hSw); have c0 := cell_below c0 hSw.below; have c1 := cell_below c1 hSw.below; have d0 := cell_below d0 hSw.below; have d1 := cell_below d1 hSw.below; (try clear hHeld); go_simp; try with_reducible rfl)
  try simp only [zp1, zp3, zp4, zp5]
  refine rg_yes (i := 5) (v := ?_) (atS (atS (atS (atS (atS at0))))) (by kernel_rfl) (by kernel_rfl) (by kernel_rfl) (fun _ _ _ h => h) ?_ ?_ hHeld ?_; rotate_left 1; (· rfl); (· intro w' hSw; (try dsimp only at hSw); (try clear hHeld); go_simp; try with_reducible rfl)
  try simp only [zp1, zp3, zp4, zp5]
  refine rg_yes (i := 6) (v := ?_) (atS (atS (atS (atS (atS (atS at0)))))) (by kernel_rfl) (by kernel_rfl) (by kernel_rfl) (fun _ _ _ h => h) ?_ ?_ hHeld ?_; rotate_left 1; (· rfl); (· intro w' hSw; (try dsimp only at hSw); have c0 := cell_below c0 hSw.below; have c1 := cell_below c1 hSw.below; have d0 := cell_below d0 hSw.below; have d1 := cell_below d1 hSw.below; (try clear hHeld); go_simp; try with_reducible rfl)
  try simp only [zp1, zp3, zp4, zp5]
  refine rg_yes (i := 7) (v := ?_) (atS (atS (atS (atS (atS (atS (atS at0))))))) (by kernel_rfl) (by kernel_rfl) (by kernel_rfl) (fun _ _ _ h => h) ?_ ?_ hHeld ?_; rotate_left 1; (· rfl); (· intro w' hSw; (try dsimp only at hSw); (try clear hHeld); go_simp; try with_reducible rfl)
  try simp only [zp1, zp3, zp4, zp5]
  refine rg_yes (i := 8) (v := ?_) (atS (atS (atS (atS (atS (atS (atS (atS at0)))))))) (by kernel_rfl) (by kernel_rfl) (by kernel_rfl) (fun _ _ _ h => h) ?_ ?_ hHeld ?_; rotate_left 1; (· rfl); (· intro w' hSw; (try dsimp only at hSw); have c0 := cell_below c0 hSw.below; have c1 := cell_below c1 hSw.below; have d0 := cell_below d0 hSw.below; have d1 := cell_below d1 hSw.below; (try clear hHeld); go_simp; try with_reducible rfl)
  try simp only [zp1, zp3, zp4, zp5]
  refine rg_call (i := 4) (atS (atS (atS (atS at0)))) (by kernel_rfl) ?_ (fun K hK => ?_); (· rfl); (try clear hb); go_simp; (refine (calls_dr (cmp_CompareAddr a b _)).mono ?_; rintro e w1 ⟨rfl, hb⟩); go_wp2_with fail; refine hK.out _ _ ?_ (fun hHeld => ?_); (· first | exact hHeld.on hb | exact hHeld.alloc _); clear hK K
  try simp only [zp1, zp3, zp4, zp5]
  refine rg_call (i := 9) (atS (atS (atS (atS (atS (atS (atS (atS (atS at0))))))))) (by kernel_rfl) ?_ (fun K hK => ?_); (· rfl); (try clear hb); go_simp; (refine (calls_dr (cmp_CompareInt n m _)).mono ?_; rintro e w1 ⟨rfl, hb⟩); go_wp2_with fail; refine hK.out _ _ ?_ (fun hHeld => ?_); (· first | exact hHeld.on hb | exact hHeld.alloc _); clear hK K
  try simp only [zp1, zp3, zp4, zp5]
  refine rg_call (i := 10) (atS (atS (atS (atS (atS (atS (atS (atS (atS (atS at0)))))))))) (by kernel_rfl) ?_ (fun K hK => ?_); (· rfl); (try clear hb); go_simp; go_wp2_with fail; refine hK.out _ _ ?_ (fun hHeld => ?_); (· first | exact hHeld.on hb | exact hHeld.alloc _); clear hK K
  try simp only [zp1, zp3, zp4, zp5]
  refine rg_call (i := 11) (atS (atS (atS (atS (atS (atS (atS (atS (atS (atS (atS at0))))))))))) (by kernel_rfl) ?_ (fun K hK => ?_); (· rfl); (try clear hb); go_simp; (refine (calls_dr (cmp_OrInt2 _ 2 (cmpI a b) (cmpI n m) _ (by simp) (by simp))).mono ?_; rintro e w1 ⟨rfl, hb⟩); go_wp2_with fail; refine hK.out _ _ ?_ (fun hHeld => ?_); (· first | exact hHeld.on hb | exact hHeld.alloc _); clear hK K
  try simp only [zp1, zp3, zp4, zp5]
  refine rg_yes (i := 12) (v := ?_) (atS (atS (atS (atS (atS (atS (atS (atS (atS (atS (atS (atS at0)))))))))))) (by kernel_rfl) (by kernel_rfl) (by kernel_rfl) (fun _ _ _ h => h) ?_ ?_ hHeld ?_; rotate_left 1; (· rfl); (· intro w' hSw; (try dsimp only at hSw); (try clear hHeld); go_simp; try with_reducible rfl)
  try simp only [zp1, zp3, zp4, zp5]
  refine wpAnyH_done (by kernel_rfl) ?_ _
  have hB' := hB.on hHeld
  clear hHeld hb
  go_wp2
  go_ret
  exact ⟨ret_int rfl, hB'⟩
theorem ps_Cmp (p q : Pf) (w : World) : Calls Tryz.prog 22 #[.agg #[.int .u32 p.1, .int .i64 p.2], .agg #[.int .u32 q.1, .int .i64 q.2]] w fun e w' => e = .returned (.int .i64 (pcmp p q)) ∧ Below w.heap.size w w' := ip_Cmp _ _ _ _ _
end Go.Proofs.YtkoidahgbbabiaaGreat
