/-
  WHAT A NET COVERS OF ALL; the longest of all: plain laws. Below of whatever net.
-/
import Derived.Test.YtnklhfdhaclfiaaTrG
import Derived.Test.YtnklhfdhaclfiaaIpMore
namespace Go.Proofs.Ytnklhfdhaclfiaa
open Go.RowKit

/-- what stands below whatever net. -/
def goB (S : List (Nat × Value)) (p : Pf) : List Itm := if pRight p then goP S (32 - p.2.toNat) p.1 p.2.toNat else []
abbrev covX (p : Pf) (x : Itm) : Bool := coversB (p.1 : Int) p.2 (x.1.1 : Int) (x.1.2 : Int)
theorem sizeN {i : Nat} (hi : i ≤ 32) : sizeI (i : Int) = ((2 ^ (32 - i) : Nat) : Int) := by
  unfold sizeI
  rw [lowN_of _ (by omega) (by omega), show (32 - (i : Int)).toNat = 32 - i by omega]
  simp
theorem cov_iff {a n B j : Nat} (ha : rightB (a : Int) (n : Int) = true) (hb : B % 2 ^ (32 - j) = 0) (hj : j ≤ 32) : coversB (a : Int) (n : Int) (B : Int) (j : Int) = true ↔ n ≤ j ∧ a ≤ B ∧ B < a + 2 ^ (32 - n) := by
  rw [covers_iff _ _ _ _ ha, sizeN (right_mod.1 ha).2]
  have hr : rightB (B : Int) (j : Int) = true := right_mod.2 ⟨hb, hj⟩
  constructor
  · rintro ⟨_, h1, h2, h3⟩; exact ⟨by omega, by omega, by omega⟩
  · rintro ⟨h1, h2, h3⟩; exact ⟨hr, by omega, by omega, by omega⟩
theorem filter_no {p : Itm → Bool} {l : List Itm} (h : ∀ x ∈ l, p x = false) : l.filter p = [] := by
  rw [List.filter_eq_nil_iff]
  intro x hx
  rw [h x hx]; decide
theorem filter_yes {p : Itm → Bool} {l : List Itm} (h : ∀ x ∈ l, p x = true) : l.filter p = l := List.filter_eq_self.2 h
theorem goP_filter {S : List (Nat × Value)} {a n : Nat} (hr : rightB (a : Int) (n : Int) = true) : ∀ (d A i : Nat), i + d = 32 → A % 2 ^ (32 - i) = 0 → i ≤ n → A ≤ a → a < A + 2 ^ (32 - i) →
    (goP S d A i).filter (fun x => coversB (a : Int) (n : Int) (x.1.1 : Int) (x.1.2 : Int)) = goP S (32 - n) a n := by
  intro d
  have hm := right_mod.1 hr
  induction d with
  | zero =>
    intro A i hi hA h1 h2 h3
    obtain rfl : n = i := by omega
    obtain rfl := same_block hA hm.1 h2 h3
    rw [show 32 - n = 0 by omega]
    refine filter_yes fun x hx => ?_
    have ix := goP_in 0 a n hi hm.1 x hx
    exact (cov_iff hr ix.form ix.le32).2 ⟨ix.deep, ix.lo, ix.hi⟩
  | succ d ih =>
    intro A i hi hA h1 h2 h3
    by_cases e : n = i
    · subst e
      obtain rfl := same_block hA hm.1 h2 h3
      rw [show 32 - n = d + 1 by omega]
      refine filter_yes fun x hx => ?_
      have ix := goP_in (d + 1) a n hi hm.1 x hx
      exact (cov_iff hr ix.form ix.le32).2 ⟨ix.deep, ix.lo, ix.hi⟩
    · obtain ⟨q1, q2⟩ := pow_half (show i < 32 by omega)
      have hl := mod_left (show i < 32 by omega) hA
      have hrr := mod_right (show i < 32 by omega) hA
      have hno : ∀ x : Itm, x.1.1 % 2 ^ (32 - x.1.2) = 0 → x.1.2 ≤ 32 → ¬ (n ≤ x.1.2 ∧ a ≤ x.1.1 ∧ x.1.1 < a + 2 ^ (32 - n)) → coversB (a : Int) (n : Int) (x.1.1 : Int) (x.1.2 : Int) = false := fun x f1 f2 f3 => by
        cases h : coversB (a : Int) (n : Int) (x.1.1 : Int) (x.1.2 : Int)
        · rfl
        · exact absurd ((cov_iff hr f1 f2).1 h) f3
      rw [show goP S (d + 1) A i = hereP S A i ++ (goP S d A (i + 1) ++ goP S d (A + 2 ^ (31 - i)) (i + 1)) from rfl, List.filter_append, List.filter_append]
      rw [filter_no (l := hereP S A i) (fun x hx => by
        obtain ⟨g1, _⟩ := here_mem.1 hx
        exact hno x (by rw [g1]; exact hA) (by rw [g1]; simp only; omega) (by rw [g1]; simp only; omega)), List.nil_append]
      by_cases hh : a < A + 2 ^ (31 - i)
      · rw [ih A (i + 1) (by omega) hl (by omega) h2 (by rw [q2]; exact hh), filter_no, List.append_nil]
        intro x hx
        have ix := goP_in d _ (i + 1) (by omega) hrr x hx
        refine hno x ix.form ix.le32 ?_
        rintro ⟨g1, g2, g3⟩
        have lo := ix.lo
        -- the net lies in the left half
        have hd : 2 ^ (32 - n) ∣ 2 ^ (31 - i) := Nat.pow_dvd_pow 2 (by omega)
        obtain ⟨c, hc⟩ := hd
        have hAm : A % 2 ^ (32 - n) = 0 := by
          obtain ⟨t, ht⟩ := Nat.dvd_of_mod_eq_zero hA
          rw [ht, q1, hc]
          rw [show 2 ^ (32 - n) * c * 2 * t = 2 ^ (32 - n) * (c * 2 * t) by rw [Nat.mul_assoc, Nat.mul_assoc, Nat.mul_assoc]]
          exact Nat.mul_mod_right _ _
        obtain ⟨s, hs⟩ := Nat.dvd_of_mod_eq_zero hAm
        obtain ⟨u, hu⟩ := Nat.dvd_of_mod_eq_zero hm.1
        have hlt : u < s + c := by
          rw [hs, hu, hc, ← Nat.mul_add] at hh
          exact Nat.lt_of_mul_lt_mul_left hh
        have : a + 2 ^ (32 - n) ≤ A + 2 ^ (31 - i) := by
          rw [hs, hu, hc, ← Nat.mul_add, show 2 ^ (32 - n) * u + 2 ^ (32 - n) = 2 ^ (32 - n) * (u + 1) by rw [Nat.mul_add, Nat.mul_one]]
          exact Nat.mul_le_mul_left _ hlt
        omega
      · rw [ih (A + 2 ^ (31 - i)) (i + 1) (by omega) hrr (by omega) (by omega) (by rw [q2]; omega), filter_no, List.nil_append]
        intro x hx
        have ix := goP_in d _ (i + 1) (by omega) hl x hx
        refine hno x ix.form ix.le32 ?_
        have hi2 := ix.hi
        rw [q2] at hi2
        omega
theorem goB_filter (S : List (Nat × Value)) {p : Pf} (hp : PfOk p) : (goP S 32 0 0).filter (covX p) = goB S p := by
  unfold goB
  by_cases hr : pRight p = true
  · rw [if_pos hr]
    have r := rightB_range hr
    obtain ⟨a, n⟩ := p
    obtain ⟨m, rfl⟩ := Int.eq_ofNat_of_zero_le r.1
    exact goP_filter (n := m) hr 32 0 0 rfl (by decide) (Nat.zero_le _) (Nat.zero_le _) (by have := hp.1; simpa using this)
  · rw [if_neg hr]
    refine filter_no fun x _ => ?_
    unfold covX coversB hasB
    have : rightB (p.1 : Int) p.2 = false := by simpa using hr
    rw [this]
    simp

/-! ### the longest -/
abbrev hasX (a : Nat) (x : Itm) : Bool := hasB (x.1.1 : Int) (x.1.2 : Int) (a : Int)
def bestF (a : Nat) (b : Int) (l : List Itm) : Int := l.foldl (fun b x => if hasX a x then max b (x.1.2 : Int) else b) b
theorem bestF_snoc (a : Nat) (b : Int) (l : List Itm) (x : Itm) : bestF a b (l ++ [x]) = if hasX a x then max (bestF a b l) (x.1.2 : Int) else bestF a b l := by
  unfold bestF; rw [List.foldl_append]; rfl
theorem bestF_spec (a : Nat) : ∀ (l : List Itm) (b : Int), b ≤ bestF a b l ∧ (bestF a b l = b ∨ ∃ x ∈ l, hasX a x = true ∧ bestF a b l = x.1.2) ∧ ∀ x ∈ l, hasX a x = true → (x.1.2 : Int) ≤ bestF a b l
  | [], b => ⟨Int.le_refl _, .inl rfl, by simp⟩
  | x :: l, b => by
    have e : bestF a b (x :: l) = bestF a (if hasX a x then max b (x.1.2 : Int) else b) l := rfl
    obtain ⟨h1, h2, h3⟩ := bestF_spec a l (if hasX a x then max b (x.1.2 : Int) else b)
    rw [e]
    cases hx : hasX a x
    · rw [hx] at h1 h2 h3
      simp only [Bool.false_eq_true, if_false] at h1 h2 h3 ⊢
      refine ⟨h1, ?_, ?_⟩
      · rcases h2 with h2 | ⟨y, hy, h2⟩
        · exact .inl h2
        · exact .inr ⟨y, by simp [hy], h2⟩
      · intro y hy hh
        rcases List.mem_cons.1 hy with rfl | hy
        · rw [hx] at hh; cases hh
        · exact h3 y hy hh
    · rw [hx] at h1 h2 h3
      simp only [if_true] at h1 h2 h3 ⊢
      refine ⟨by omega, ?_, ?_⟩
      · rcases h2 with h2 | ⟨y, hy, h2⟩
        · rcases Int.le_total b (x.1.2 : Int) with hb | hb
          · exact .inr ⟨x, by simp, hx, by rw [h2]; omega⟩
          · exact .inl (by rw [h2]; omega)
        · exact .inr ⟨y, by simp [hy], h2⟩
      · intro y hy hh
        rcases List.mem_cons.1 hy with rfl | hy
        · omega
        · exact h3 y hy hh
theorem bst_max {S : List (Nat × Value)} {a : Nat} : ∀ (k i : Nat), i < k → (getL S (keyN a i)).isSome = true → ∃ j, bst S a k = some j ∧ i ≤ j
  | k + 1, i, hi, hs => by
    unfold bst
    split
    · exact ⟨k, rfl, by omega⟩
    · next hn =>
      by_cases e : i = k
      · subst e; exact absurd hs hn
      · exact bst_max k i (by omega) hs
theorem has_key {a B j : Nat} (hj : j ≤ 32) (h : hasB (B : Int) (j : Int) (a : Int) = true) : keyN B j = keyN a j := by
  unfold hasB at h
  simp only [Bool.and_eq_true, beq_iff_eq] at h
  obtain ⟨_, h2⟩ := h
  rw [keep_div, lowN_of _ (by omega) (by omega), show (32 - (j : Int)).toNat = 32 - j by omega] at h2
  have h3 : 2 ^ (32 - j) * (a / 2 ^ (32 - j)) = B := by
    have : ((2 ^ (32 - j) * (a / 2 ^ (32 - j)) : Nat) : Int) = (B : Int) := by rw [← h2]; simp
    omega
  unfold keyN
  rw [← h3, Nat.mul_div_cancel_left _ (Nat.pow_pos (by decide))]
theorem key_has {a j : Nat} (hj : j ≤ 32) : hasB ((2 ^ (32 - j) * (a / 2 ^ (32 - j)) : Nat) : Int) (j : Int) (a : Int) = true ∧ keyN (2 ^ (32 - j) * (a / 2 ^ (32 - j))) j = keyN a j ∧ (2 ^ (32 - j) * (a / 2 ^ (32 - j))) % 2 ^ (32 - j) = 0 := by
  have hm : (2 ^ (32 - j) * (a / 2 ^ (32 - j))) % 2 ^ (32 - j) = 0 := Nat.mul_mod_right _ _
  refine ⟨?_, ?_, hm⟩
  · unfold hasB
    simp only [Bool.and_eq_true, beq_iff_eq]
    refine ⟨right_mod.2 ⟨hm, hj⟩, ?_⟩
    rw [keep_div, lowN_of _ (by omega) (by omega), show (32 - (j : Int)).toNat = 32 - j by omega]
    simp
  · unfold keyN
    rw [Nat.mul_div_cancel_left _ (Nat.pow_pos (by decide))]
theorem best_bst {S : List (Nat × Value)} {a : Nat} (ha : a < 4294967296) : bestF a (-1) (goP S 32 0 0) = match bst S a 33 with | none => -1 | some j => (j : Int) := by
  obtain ⟨_, h2, h3⟩ := bestF_spec a (goP S 32 0 0) (-1)
  have hin := goP_in (S := S) 32 0 0 rfl (by decide)
  have hitem : ∀ x ∈ goP S 32 0 0, hasX a x = true → ∃ j, bst S a 33 = some j ∧ x.1.2 ≤ j := fun x hx hh => by
    have ix := hin x hx
    have := ix.at_
    rw [has_key ix.le32 hh] at this
    exact bst_max 33 x.1.2 (by have := ix.le32; omega) (by rw [this]; rfl)
  cases hb : bst S a 33 with
  | none =>
    rcases h2 with h2 | ⟨x, hx, hh, _⟩
    · exact h2
    · obtain ⟨j, hj, _⟩ := hitem x hx hh
      rw [hb] at hj; cases hj
  | some j =>
    obtain ⟨hj, hs⟩ := bst_lt hb
    obtain ⟨v, hv⟩ := Option.isSome_iff_exists.1 hs
    obtain ⟨k1, k2, k3⟩ := key_has (a := a) (j := j) (by omega)
    have hle : 2 ^ (32 - j) * (a / 2 ^ (32 - j)) ≤ a := Nat.mul_div_le a _
    have hmem := goP_mem (S := S) (v := v) k3 (by omega) (by rw [k2]; exact hv) 32 0 0 rfl (by decide) (Nat.zero_le _) (Nat.zero_le _) (by simp; omega)
    have h4 := h3 _ hmem k1
    simp only at h4
    rcases h2 with h2 | ⟨x, hx, hh, h2⟩
    · omega
    · obtain ⟨j', hj', hle'⟩ := hitem x hx hh
      rw [hb] at hj'
      cases hj'
      simp only
      omega

/-! ### Below of whatever net -/
section
variable {tb : Nat} {N : Nat → Option Nat} {S : List (Nat × Value)} {most : Int} {g : Nat} {lb : Array Value} {cont : List Itm → Bool} {Inv : (Nat → Prop) → List Itm → World → Prop}
set_option maxHeartbeats 1600000 in
theorem trI_Below_no (q : Addr) (A i : Int) (w : World) (h0 : 0 ≤ A) (h : A < 4294967296) (hR : rightB A i = false) : Calls Try.prog 16 #[.pointer (some q), .agg #[.int .u32 A, .int .i64 i], .func (.func g) #[] lb] w fun e w' => e = .returned (.tuple #[]) ∧ Below w.heap.size w w' := by
  have nf := fun W => neq_func g lb W
  have FN := Lib.hid (fun W => trI_find_no q A i W h0 h hR)
  go_enter Try.func16, Try.ntmps16
  go_wp2_with fail
  obtain ⟨W0, hW0, c0, c1, hB⟩ := box2 w (.int .u32 A) (.int .i64 i) 31
  rw [← hW0]; clear hW0
  go_region_with (first
    | (go_at_call 42; refine (FN.out _).mono ?_; rintro e w1 ⟨rfl, hb⟩; have hB1 := hB.drew.trans (hb.mono hB.size); have c0 := cell_below (W := W0.drew) c0 hb; have c1 := cell_below (W := W0.drew) c1 hb; clear hb)
    | (go_at_call 44; refine (walk_nilp A i g lb _).mono ?_; rintro e w2 ⟨rfl, hb⟩; have hB2 := hB1.trans (hb.mono hB1.size); clear hb))
  all_goals
    go_wp2_with fail
    go_end0
    exact ⟨rfl, hB2⟩
theorem trI_BelowA (E : EachOk tb N S most g lb cont Inv) (a : Nat) (n : Int) (L : List Itm) (P : Nat → Prop) (w : World) (ha : a < 4294967296) (hI : Inv P L w) :
    Calls Try.prog 16 #[.pointer (some ⟨tb, 0, none⟩), .agg #[.int .u32 a, .int .i64 n], .func (.func g) #[] lb] w (BelowPost Inv P w (runL cont L (goB S (a, n))).1) := by
  by_cases hR : rightB a n = true
  · obtain ⟨m, rfl⟩ := Int.eq_ofNat_of_zero_le (rightB_range hR).1
    have e : goB S (a, (m : Int)) = goP S (32 - m) a m := if_pos hR
    rw [e]
    exact trI_Below E a m L P w ha hR hI
  · refine (trI_Below_no ⟨tb, 0, none⟩ a n w (by omega) (by omega) (by simpa using hR)).mono ?_
    rintro e w' ⟨rfl, hb⟩
    have e : goB S (a, n) = [] := if_neg hR
    rw [e]
    exact ⟨rfl, E.stab _ _ _ _ _ hI hb (fun _ h => .inl h), Kept.of_below hb⟩
end
end Go.Proofs.Ytnklhfdhaclfiaa
