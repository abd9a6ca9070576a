/-
  THE REFERENCE's TEXTS: Text, Full.
-/
import Derived.Test.YtgmpbppiakjpdaaDoorTxtD
namespace Go.Proofs.YtgmpbppiakjpdaaDoor
open Go.RowKit Go.Shelf

/-- the number of the first j bits behind the bit 8k. -/
def accB (a : Int) (k : Nat) : Nat → Int
  | 0 => 0
  | j + 1 => 2 * accB a k j + bitI a ((8 * k + j : Nat) : Int)
theorem accB_succ (a : Int) (k j : Nat) : accB a k (j + 1) = 2 * accB a k j + bitI a ((8 * k + j : Nat) : Int) := rfl
theorem accB_eq (a : Nat) (k : Nat) : ∀ j, 8 * k + j ≤ 32 → accB a k j = ((a / 2 ^ (32 - (8 * k + j)) % 2 ^ j : Nat) : Int)
  | 0, _ => by simp [accB, Nat.mod_one]
  | j + 1, h => by
    have hb := bitI_nat a (31 - (8 * k + j)) (by omega)
    rw [show (31 - ((31 - (8 * k + j) : Nat) : Int)) = ((8 * k + j : Nat) : Int) by omega] at hb
    unfold accB
    rw [accB_eq a k j (by omega), hb, show 32 - (8 * k + j) = (31 - (8 * k + j)) + 1 by omega, show 32 - (8 * k + (j + 1)) = 31 - (8 * k + j) by omega, Nat.pow_succ 2 j, Nat.mul_comm (2 ^ j) 2, Nat.mod_mul, Nat.pow_succ 2 (31 - (8 * k + j)), ← Nat.div_div_eq_div_mul]
    omega
theorem accB_oct (a : Nat) (k : Nat) (hk : k < 4) : accB a k 8 = ((octet a (3 - k) : Nat) : Int) := by
  rw [accB_eq a k 8 (by omega)]
  unfold octet
  rw [show 32 - (8 * k + 8) = 8 * (3 - k) by omega]
/-- the text behind k numbers. -/
def outL (a : Nat) : Nat → List UInt8
  | 0 => []
  | k + 1 => (if 0 < k then outL a k ++ [46] else outL a k) ++ Lib.decDigits (octet a (3 - k))
theorem outL_4 (a : Nat) : outL a 4 = textL a := by
  simp [outL, textL]
theorem outL_len (a : Nat) : ∀ k, (outL a k).length ≤ 21 * k
  | 0 => by simp [outL]
  | k + 1 => by
    have h1 := outL_len a k
    have h2 := dig_len (octet a (3 - k)) (Nat.mod_lt _ (by decide))
    unfold outL
    split <;> simp <;> omega
theorem accB_lo (a : Nat) (k j : Nat) (h : 8 * k + j ≤ 32) (hj : j ≤ 8) : 0 ≤ accB a k j ∧ accB a k j < 256 := by
  rw [accB_eq a k j h]
  have h1 : a / 2 ^ (32 - (8 * k + j)) % 2 ^ j < 2 ^ j := Nat.mod_lt _ (Nat.pow_pos (by decide))
  have h2 : 2 ^ j ≤ 2 ^ 8 := Nat.pow_le_pow_right (by decide) hj
  omega

theorem add_list (x y z : List UInt8) (hx : x.length ≤ 1000) (hy : y.length ≤ 1000) (h : x ++ y = z) (W : World) : (Op.stringOp .add ⟨x.toArray⟩ ⟨y.toArray⟩).run Tryd.prog W = .ok (.string ⟨z.toArray⟩) W := by
  rw [← h]; exact run_string_add_lists (P := Tryd.prog) (w := W) _ _ (by omega) (by omega)
theorem outL_pos (a k : Nat) (h : 0 < k) : (outL a k ++ [46]) ++ Lib.decDigits (octet a (3 - k)) = outL a (k + 1) := by
  rw [outL, if_pos h]

set_option maxHeartbeats 3200000 in
set_option maxRecDepth 100000 in
theorem ref_Text (a : Nat) (ha : a < 4294967296) (w : World) : Calls Tryd.prog 7 #[.int .u32 a] w fun e w' => e = .returned (.string ⟨(textL a).toArray⟩) ∧ Below w.heap.size w w' := by
  have BT := Lib.hid (fun W => ref_Bits' (a : Int) W (by omega) (by omega))
  clear ha
  go_enter Tryd.func7, Tryd.ntmps7
  go_wp2_with fail
  go_loopw [3, 4] (fun o i wr => ∃ k : Nat, k ≤ 4 ∧ i = .int .i64 k ∧ o = .string ⟨(outL a k).toArray⟩ ∧ Below w.heap.size w wr) (fun _ i _ => 4 - (intOf i).toNat)
  case atStart => exact ⟨0, by omega, rfl, rfl, Below.refl _ _⟩
  case round =>
    obtain ⟨k, hk, rfl, rfl, hb⟩ := hrel
    by_cases hlt : k < 4
    · go_wp2_with fail
      refine (BT.out _).mono ?_
      rintro e w1 ⟨⟨g, cap, rfl, hcap, hg, hcs⟩, hb1⟩
      have HC := Lib.hid hcs
      have hB := below_on hb hb1
      clear hcs hb hb1
      go_wp2_with fail
      go_loopw [5, 21] (fun n t wr => ∃ j : Nat, j ≤ 8 ∧ t = .int .i64 j ∧ n = .int .i64 (accB a k j) ∧ wr = w1) (fun _ t _ => 8 - (intOf t).toNat)
      case atStart => exact ⟨0, by omega, rfl, rfl, rfl⟩
      case round =>
        obtain ⟨j, hj, rfl, rfl, rfl⟩ := hrel
        by_cases hj8 : j < 8
        · have hck := HC.out (8 * k + j) (by omega)
          obtain ⟨a0, a1⟩ := accB_lo a k j (by omega) (by omega)
          have hbit := bitI_01 (a : Int) ((8 * k + j : Nat) : Int)
          obtain ⟨b0, b1⟩ := accB_lo a k (j + 1) (by omega) (by omega)
          have ST' := accB_succ a k j
          have hc : ((8 * k + j : Nat) : Int) = 8 * (k : Int) + j := by omega
          rw [hc] at ST' hbit
          clear hc
          have hw : wrap64 (2 * accB a k j + bitI a (8 * (k : Int) + j)) = accB a k (j + 1) := by
            rw [ST']
            rw [ST'] at b0 b1
            generalize accB (a : Int) k j = p at *
            generalize bitI (a : Int) (8 * (k : Int) + j) = q at *
            clear ST' hck
            simp only [wrap64]
            omega
          clear ST' hbit
          go_wp2
          exact ⟨⟨j + 1, by omega, by go_num, congrArg (Value.int .i64) hw, trivial⟩, by simp [intOf]; omega⟩
        · obtain rfl : j = 8 := by omega
          have hoc := accB_oct a k hlt
          rw [hoc]
          clear hoc
          have ol := outL_len a k
          by_cases hk0 : 0 < k
          · have s1 := fun W => add_list (outL a k) [46] (outL a k ++ [46]) (by omega) (by simp) rfl W
            have s2 := fun W => add_list (outL a k ++ [46]) (Lib.decDigits (octet a (3 - k))) (outL a (k + 1)) (by simp; omega) (by have := dig_len (octet a (3 - k)) (Nat.mod_lt _ (by decide)); omega) (outL_pos a k hk0) W
            go_wp2_with fail
            refine (ref_digits (octet a (3 - k)) (by have := Nat.mod_lt (a / 2 ^ (8 * (3 - k))) (show 0 < 256 by decide); unfold octet; omega) _).mono ?_
            rintro e w2 ⟨rfl, hb⟩
            have hB' := below_on hB hb
            clear hb hB
            go_wp2_with fail
            exact ⟨⟨k + 1, by omega, by go_num, rfl, hB'⟩, by simp [intOf]; omega⟩
          · obtain rfl : k = 0 := by omega
            have s2 := fun W => add_list (outL a 0) (Lib.decDigits (octet a 3)) (outL a 1) (by simp [outL]) (by have := dig_len (octet a 3) (Nat.mod_lt _ (by decide)); omega) rfl W
            go_wp2_with fail
            refine (ref_digits (octet a 3) (by have := Nat.mod_lt (a / 2 ^ (8 * 3)) (show 0 < 256 by decide); unfold octet; omega) _).mono ?_
            rintro e w2 ⟨rfl, hb⟩
            have hB' := below_on hB hb
            clear hb hB
            go_wp2_with fail
            exact ⟨⟨1, by omega, by go_num, rfl, hB'⟩, by simp [intOf]⟩
    · obtain rfl : k = 4 := by omega
      have E := Lib.hid (outL_4 a)
      go_wp2
      go_ret
      exact ⟨ret_str E.out, hb⟩

set_option maxHeartbeats 1600000 in
set_option maxRecDepth 100000 in
theorem ref_Full (a n : Int) (w : World) (h0 : 0 ≤ a) (h : a < 4294967296) : Calls Tryd.prog 9 #[.int .u32 a, .int .i64 n] w fun e w' => e = .returned (.string ⟨(fullT a n).toArray⟩) ∧ Below w.heap.size w w' := by
  have CK := ref_Right a n (h0 := h0) (h := h)
  cases hR : rightB a n
  · have E := Lib.hid (fullT_no hR)
    clear h0 h
    go_enter Tryd.func9, Tryd.ntmps9
    go_wp2_with fail
    refine (CK _).mono ?_
    rintro e w1 ⟨rfl, hb⟩
    rw [hR]
    go_wp2_with fail
    go_ret
    exact ⟨ret_str (l := []) E.out.symm, hb⟩
  · obtain ⟨n0, n1⟩ := rightB_range hR
    obtain ⟨x, rfl⟩ := Int.eq_ofNat_of_zero_le h0
    obtain ⟨m, rfl⟩ := Int.eq_ofNat_of_zero_le n0
    have hx : x < 4294967296 := by omega
    have hm32 : m ≤ 32 := by omega
    have E := Lib.hid (fullT_yes hR)
    clear h0 h n0 n1
    go_enter Tryd.func9, Tryd.ntmps9
    go_wp2_with fail
    refine (CK _).mono ?_
    rintro e w1 ⟨rfl, hb⟩
    rw [hR]
    clear CK
    have hs := fun W => add_slash x W
    have hl := fun W => add_len x m (by omega) W
    go_wp2_with fail
    refine (ref_Text x hx _).mono ?_
    rintro e w2 ⟨rfl, hb2⟩
    have hB := below_on hb hb2
    clear hb hb2
    go_wp2_with fail
    refine (ref_digits m (by omega) _).mono ?_
    rintro e w3 ⟨rfl, hb⟩
    have hB' := below_on hB hb
    go_wp2_with fail
    go_ret
    exact ⟨ret_str E.out.symm, hB'⟩
end Go.Proofs.YtgmpbppiakjpdaaDoor
