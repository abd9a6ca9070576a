/-
  PLAIN LAWS ON TEXTS: what is written as an address, or a net, reads as it.
-/
import Derived.Test.YtgmpbppiakjpdaaDoorTxtP
import Derived.Test.YtgmpbppiakjpdaaDoorTxtT
namespace Go.Proofs.YtgmpbppiakjpdaaDoor
open Go.RowKit Go.Shelf

/-! ### the first of a byte -/
theorem index_hit (c : UInt8) (r : List UInt8) : ∀ l : List UInt8, (∀ x ∈ l, x ≠ c) → Lib.index (l ++ c :: r) [c] = (l.length : Int)
  | [], _ => by simp [Lib.index, List.isPrefixOf]
  | x :: l, h => by
    have hx : x ≠ c := h x (by simp)
    have ih := index_hit c r l (fun y hy => h y (by simp [hy]))
    have hp : ([c].isPrefixOf (x :: (l ++ c :: r))) = false := by simp [List.isPrefixOf, Ne.symm hx]
    simp only [List.cons_append]
    rw [Lib.index, hp, ih]
    have : ((l.length : Int) == -1) = false := by rw [beq_eq_false_iff_ne]; omega
    simp [this]
theorem index_miss (c : UInt8) : ∀ l : List UInt8, (∀ x ∈ l, x ≠ c) → Lib.index l [c] = -1
  | [], _ => rfl
  | x :: l, h => by
    have hx : x ≠ c := h x (by simp)
    have ih := index_miss c l (fun y hy => h y (by simp [hy]))
    have hp : ([c].isPrefixOf (x :: l)) = false := by simp [List.isPrefixOf, Ne.symm hx]
    rw [Lib.index, hp, ih]
    simp
theorem cut_hit (c : UInt8) (l r : List UInt8) (h : ∀ x ∈ l, x ≠ c) : cutC (l ++ c :: r) c = (l, r, true) := by
  unfold cutC Lib.cut
  rw [index_hit c r l h, if_pos (by omega)]
  simp
theorem cut_miss (c : UInt8) (l : List UInt8) (h : ∀ x ∈ l, x ≠ c) : cutC l c = (l, [], false) := by
  unfold cutC Lib.cut
  rw [index_miss c l h, if_neg (by omega)]

/-! ### numerals -/
theorem chD_nat (n : Nat) : (chD n).toNat = 48 + n % 10 := by
  have := chD_toNat n; omega
theorem dec_two (n : Nat) (h : ¬ n < 10) (h2 : n < 100) : Lib.decDigits n = [chD (n / 10), chD n] := by
  rw [dec_step n h, dec_one (n / 10) (by omega)]; rfl
theorem dec_three (n : Nat) (h : ¬ n < 100) (h2 : n < 1000) : Lib.decDigits n = [chD (n / 10 / 10), chD (n / 10), chD n] := by
  rw [dec_step n (by omega), dec_two (n / 10) (by omega) (by omega)]; rfl
theorem dec_num (n m : Nat) (hn : n < 1000) (hm : n ≤ m) : numOk (Lib.decDigits n) m = true ∧ valD (Lib.decDigits n) 0 = n := by
  by_cases h1 : n < 10
  · rw [dec_one n h1]
    refine ⟨(num_1 _ _).2 ?_, ?_⟩
    · rw [chD_nat]; omega
    · simp only [valD, chD_nat]; omega
  by_cases h2 : n < 100
  · rw [dec_two n h1 h2]
    refine ⟨(num_2 _ _ _).2 ?_, ?_⟩
    · rw [chD_nat, chD_nat]; omega
    · simp only [valD, chD_nat]; omega
  · rw [dec_three n h2 hn]
    refine ⟨(num_3 _ _ _ _).2 ?_, ?_⟩
    · rw [chD_nat, chD_nat, chD_nat]; omega
    · simp only [valD, chD_nat]; omega
theorem dec_dig (n : Nat) (hn : n < 1000) : ∀ x ∈ Lib.decDigits n, dig x = true := by
  have h := (dec_num n n hn (Nat.le_refl _)).1
  simp [numOk, numS] at h
  exact h.1.2
theorem dig_not {x : UInt8} (h : dig x = true) : x ≠ 46 ∧ x ≠ 47 := by
  simp [dig] at h
  constructor
  · rintro rfl; simp at h
  · rintro rfl; simp at h

/-! ### an address' text reads as it -/
theorem oct_lt (a k : Nat) : octet a k < 256 := Nat.mod_lt _ (by decide)
theorem go_step (k acc n : Nat) (r : List UInt8) (hn : n < 256) (hk : 0 < k) : parseGo (k + 1) acc (Lib.decDigits n ++ 46 :: r) = parseGo k (acc * 256 + n) r := by
  obtain ⟨h1, h2⟩ := dec_num n 255 (by omega) (by omega)
  conv => lhs; unfold parseGo
  rw [cut_hit 46 _ r (fun x hx => (dig_not (dec_dig n (by omega) x hx)).1)]
  simp only [h1, h2]
  rw [if_pos (by simp; omega)]
theorem go_last (acc n : Nat) (hn : n < 256) : parseGo 1 acc (Lib.decDigits n) = some (acc * 256 + n) := by
  obtain ⟨h1, h2⟩ := dec_num n 255 (by omega) (by omega)
  unfold parseGo
  rw [cut_miss 46 _ (fun x hx => (dig_not (dec_dig n (by omega) x hx)).1)]
  simp only [h1, h2]
  rfl
theorem oct_sum (a : Nat) (ha : a < 4294967296) : (((0 * 256 + octet a 3) * 256 + octet a 2) * 256 + octet a 1) * 256 + octet a 0 = a := by
  unfold octet
  simp only [Nat.reduceMul, Nat.reducePow]
  omega
theorem parse_text (a : Nat) (ha : a < 4294967296) : parseL (textL a) = some a := by
  unfold parseL textL
  rw [go_step 3 _ _ _ (oct_lt _ _) (by omega), go_step 2 _ _ _ (oct_lt _ _) (by omega), go_step 1 _ _ _ (oct_lt _ _) (by omega), go_last _ _ (oct_lt _ _), oct_sum a ha]
theorem text_47 (a : Nat) : ∀ x ∈ textL a, x ≠ 47 := by
  have h : ∀ k, ∀ x ∈ Lib.decDigits (octet a k), x ≠ 47 := fun k x hx => (dig_not (dec_dig _ (by have := oct_lt a k; omega) x hx)).2
  intro x hx
  unfold textL at hx
  simp only [List.mem_append, List.mem_cons] at hx
  rcases hx with hx | rfl | hx | rfl | hx | rfl | hx
  · exact h 3 x hx
  · decide
  · exact h 2 x hx
  · decide
  · exact h 1 x hx
  · decide
  · exact h 0 x hx

/-! ### a net's text -/
theorem pp_full (a n : Nat) (ha : a < 4294967296) (hn : n ≤ 32) (hr : rightB a n = true) : ppR (fullT a n) = (a, n, 0) := by
  rw [fullT_yes hr]
  unfold fullL ppR
  obtain ⟨h1, h2⟩ := dec_num n 32 (by omega) hn
  rw [show (textL a ++ [47]) ++ Lib.decDigits n = textL a ++ 47 :: Lib.decDigits n by simp, cut_hit 47 _ _ (text_47 a)]
  simp only [parse_text a ha, h1, h2, hr, if_true]
theorem pp_none {a n : Int} (hr : rightB a n = false) : ppR (fullT a n) = (0, 0, 2) := by
  rw [fullT_no hr]
  decide +kernel
theorem pp_example : ppR [49, 48, 46, 48, 46, 48, 46, 48, 47, 56] = (167772160, 8, 0) := by decide +kernel
theorem full_example : fullT 167772160 8 = [49, 48, 46, 48, 46, 48, 46, 48, 47, 56] := by
  have hr : rightB (167772160 : Nat) (8 : Nat) = true := by decide +kernel
  have := fullT_yes hr
  rw [show (167772160 : Int) = ((167772160 : Nat) : Int) from rfl, show (8 : Int) = ((8 : Nat) : Int) from rfl, this]
  unfold fullL textL
  rw [show octet 167772160 3 = 10 by decide, show octet 167772160 2 = 0 by decide, show octet 167772160 1 = 0 by decide, show octet 167772160 0 = 0 by decide, dec_two 10 (by decide) (by decide), dec_one 0 (by decide), dec_one 8 (by decide)]
  decide
end Go.Proofs.YtgmpbppiakjpdaaDoor
