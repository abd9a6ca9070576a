/-
  ATTRIBUTES: read, cut: numbers of bytes; where an attribute's value begins and ends.
-/
import Derived.Test.YtohkbcdnlmjcjaaDoorA6A
namespace Go.Proofs.YtohkbcdnlmjcjaaDoor
open Go.RowKit

/-- a number out of bytes. -/
def readN (xs : List Nat) : Nat := xs.foldl (fun n b => n * 256 + b) 0
set_option maxRecDepth 100000 in
theorem readN_step {xs : List Nat} {k : Nat} {b : Nat} (h : xs[k]? = some b) : readN (xs.take (k + 1)) = readN (xs.take k) * 256 + b := by
  obtain ⟨h1, h2⟩ := List.getElem?_eq_some_iff.1 h
  unfold readN
  rw [List.take_succ_eq_append_getElem h1, h2, List.foldl_append]
  rfl
set_option maxRecDepth 100000 in
theorem readN_lt {xs : List Nat} (hx : ∀ x ∈ xs, x < 256) (k : Nat) (hk : k ≤ xs.length) : readN (xs.take k) < 256 ^ k := by
  induction k with
  | zero => simp [readN]
  | succ k ih =>
    have h1 : xs[k]? = some xs[k] := List.getElem?_eq_getElem (by omega)
    rw [readN_step h1, Nat.pow_succ]
    have h2 := ih (by omega)
    have h3 := hx xs[k] (List.getElem_mem ..)
    omega
set_option maxRecDepth 100000 in
theorem or_byte (h l : Nat) (h1 : h < 16777216) (l1 : l < 256) : bits .or .i64 ((h : Int) * 256) (l : Int) = (h : Int) * 256 + (l : Int) := by
  show IntKind.i64.wrap ((BitVec.ofInt 64 ((h : Int) * 256) ||| BitVec.ofInt 64 (l : Int)).toNat : Int) = _
  rw [BitVec.toNat_or, ofInt64_nat, ofInt64_nat]
  have e1 : (((h : Int) * 256) % 18446744073709551616).toNat = 2 ^ 8 * h := by omega
  have e2 : (((l : Int)) % 18446744073709551616).toNat = l := by omega
  rw [e1, e2, ← Nat.two_pow_add_eq_or_of_lt (by omega)]
  rw [IntWalk.i64_in _ (by omega)]
  omega
set_option maxHeartbeats 1600000 in
set_option maxRecDepth 100000 in
theorem at_read (v : Value) (xs : List Nat) (w : World) (h : BytesAt w v xs) (h4 : xs.length ≤ 4) : Calls Tryd.prog 62 #[v] w fun e w' => e = .returned (.int .i64 (readN xs)) ∧ w = w' := by
  have BR : ∀ x ∈ xs, x < 256 := fun x hx => by
    obtain ⟨sa, cap, _, _, _, h4⟩ := h
    obtain ⟨i, hi⟩ := List.getElem?_of_mem hx
    obtain ⟨b, off, _, h6⟩ := h4 (by have := (List.getElem?_eq_some_iff.1 hi).1; omega)
    obtain ⟨cs, _, hr, _⟩ := h6 i x hi
    exact hr.2
  obtain ⟨sa, cap, rfl, hlc, hcm, hV⟩ := h
  have HV := Lib.hid hV
  have HB := Lib.hid BR
  unfold maxLen at hcm
  clear hV BR
  go_enter Tryd.func62, Tryd.ntmps62
  go_wp2_with fail
  go_loopw [3, 8] (fun n t wr => ∃ k : Nat, k ≤ xs.length ∧ t = .int .i64 k ∧ n = .int .i64 (readN (xs.take k)) ∧ wr = w) (fun _ t _ => xs.length - (intOf t).toNat)
  case atStart => exact ⟨0, by omega, rfl, rfl, rfl⟩
  case round =>
    obtain ⟨k, hk, rfl, rfl, rfl⟩ := hrel
    by_cases hlt : k < xs.length
    · obtain ⟨x, hx⟩ : ∃ x, xs[k]? = some x := ⟨_, List.getElem?_eq_getElem hlt⟩
      obtain ⟨b, off, hsa, hP⟩ := HV.out (by omega)
      subst hsa
      obtain ⟨cs, _, ⟨rfl, hx2⟩, hc⟩ := hP k x hx
      have x0 := hc 0 _ rfl
      simp only [Nat.add_zero, Nat.mul_one] at x0
      have ST := Lib.hid (readN_step hx)
      have hn : readN (xs.take k) < 16777216 := by
        have h1 := readN_lt HB.out k (by omega)
        have h2 : 256 ^ k ≤ 256 ^ 3 := Nat.pow_le_pow_right (by decide) (by omega)
        omega
      have OB := or_byte (readN (xs.take k)) x hn hx2
      have j0 : (0 : Int) ≤ (k : Int) := by omega
      have j1 : (k : Int) < (xs.length : Int) := by omega
      have n1 : ((readN (xs.take k) : Nat) : Int) < 16777216 := by omega
      have n0 : (0 : Int) ≤ ((readN (xs.take k) : Nat) : Int) := by omega
      clear hP hc hx
      go_wp2_with fail
      exact ⟨⟨k + 1, by omega, by go_num, by rw [ST.out]; congr 1, trivial⟩, by simp [intOf]; omega⟩
    · obtain rfl : k = xs.length := by omega
      have E : Hid (readN (xs.take xs.length) = readN xs) := Lib.hid (by rw [List.take_length])
      go_wp2_with fail
      go_ret
      exact ⟨ret_int (by rw [E.out]), rfl⟩
set_option maxRecDepth 100000 in
/-- a part of a slice. -/
theorem slat_sub {α : Type} {w : World} {R : α → List Value → Prop} {b off cap : Nat} {xs : List α} (h : SlAt w 1 R (.slice (some ⟨b, off, none⟩) xs.length cap) xs) {i j : Nat} (hij : i ≤ j) (hj : j ≤ xs.length) :
    SlAt w 1 R (.slice (some ⟨b, off + i, none⟩) (j - i) (cap - i)) ((xs.take j).drop i) := by
  obtain ⟨sa, c, h1, h2, h3, h4⟩ := h
  injection h1 with h1 _ hc
  subst hc
  have hl : ((xs.take j).drop i).length = j - i := by rw [List.length_drop, List.length_take]; omega
  refine ⟨some ⟨b, off + i, none⟩, cap - i, by rw [hl], by omega, by omega, fun h0 => ⟨b, off + i, rfl, fun q x hx => ?_⟩⟩
  rw [List.getElem?_drop, List.getElem?_take_of_lt (by have := (List.getElem?_eq_some_iff.1 hx).1; rw [List.length_take] at this; omega)] at hx
  obtain ⟨b', off', e, h6⟩ := h4 (by have := (List.getElem?_eq_some_iff.1 hx).1; omega)
  rw [← h1] at e
  injection e with e
  injection e with e1 e2 _
  subst e1; subst e2
  obtain ⟨cs, c1, c2, c3⟩ := h6 _ x hx
  refine ⟨cs, c1, c2, fun p u hu => ?_⟩
  have := c3 p u hu
  rw [← this]
  congr 2
  omega
def longB (x : Nat) : Bool := bits .and .u8 (x : Int) 16 != 0
def fromN : List Nat → Nat
  | [] => 3
  | x :: _ => if longB x then 4 else 3
def cutN (xs : List Nat) : Nat := fromN xs + readN ((xs.take (fromN xs)).drop 2)
def cutV (xs : List Nat) : Value := .tuple (if xs.length < fromN xs then #[.int .i64 0, .int .i64 0, .bool false] else #[.int .i64 (fromN xs), .int .i64 (cutN xs), .bool (decide (cutN xs ≤ xs.length))])
set_option maxRecDepth 100000 in
theorem from_le (xs : List Nat) : fromN xs = 3 ∨ fromN xs = 4 := by
  unfold fromN
  cases xs with
  | nil => exact .inl rfl
  | cons x xs => cases longB x <;> simp
set_option maxRecDepth 100000 in
theorem bytes_lt {w : World} {v : Value} {xs : List Nat} (h : BytesAt w v xs) : ∀ x ∈ xs, x < 256 := fun x hx => by
  obtain ⟨sa, cap, _, _, _, h4⟩ := h
  obtain ⟨i, hi⟩ := List.getElem?_of_mem hx
  obtain ⟨b, off, _, h6⟩ := h4 (by have := (List.getElem?_eq_some_iff.1 hi).1; omega)
  obtain ⟨cs, _, hr, _⟩ := h6 i x hi
  exact hr.2
set_option maxHeartbeats 3200000 in
set_option maxRecDepth 100000 in
theorem at_cut (v : Value) (xs : List Nat) (w : World) (h : BytesAt w v xs) : Calls Tryd.prog 42 #[v] w fun e w' => e = .returned (cutV xs) ∧ w = w' := by
  have H := Lib.hid h
  obtain ⟨sa, cap, rfl, hlc, hcm, hV⟩ := h
  cases xs with
  | nil =>
    have E : Hid (fromN [] = 3) := Lib.hid rfl
    go_enter Tryd.func42, Tryd.ntmps42
    go_wp2_with fail
    exact bodyPost_ret (results_tmp3 Tryd.results42 _ _ _) rfl ⟨rfl, rfl⟩
  | cons x xs =>
    obtain ⟨b, off, rfl, hP⟩ := hV (by simp)
    obtain ⟨cs, _, ⟨rfl, hx2⟩, hc⟩ := hP 0 x rfl
    have x0 := hc 0 _ rfl
    simp only [Nat.add_zero, Nat.zero_mul] at x0
    clear hP hc hV
    obtain ⟨ys, hys⟩ : ∃ ys, x :: xs = ys := ⟨_, rfl⟩
    have hn1 : 1 ≤ ys.length := by rw [← hys]; simp
    rw [hys] at H hlc ⊢
    unfold maxLen at hcm
    have n0 : ((ys.length : Int) > 0) := by omega
    cases hz : (bits .and .u8 (x : Int) 16 != 0)
    · have hb : (bits .and .u8 (x : Int) 16 != 0) = false := hz
      have hb2 : (bits .and .u8 (x : Int) 16 = 0) = True := eq_true (bne_eq_false_iff_eq.1 hz)
      have F : Hid (fromN ys = 3) := Lib.hid (by rw [← hys]; show (if longB x = true then 4 else 3) = 3; rw [show longB x = false from hz]; rfl)
      clear hz
      by_cases hn : ys.length < 3
      · have R : Hid (cutV ys = .tuple #[.int .i64 0, .int .i64 0, .bool false]) := Lib.hid (by unfold cutV; rw [F.out, if_pos hn])
        have hnI : (ys.length : Int) < 3 := by omega
        go_enter Tryd.func42, Tryd.ntmps42
        go_wp2_with fail
        exact bodyPost_ret (results_tmp3 Tryd.results42 _ _ _) rfl ⟨by rw [R.out]; rfl, rfl⟩
      · have R0 : cutV ys = .tuple #[.int .i64 3, .int .i64 (cutN ys), .bool (decide (cutN ys ≤ ys.length))] := by unfold cutV; rw [F.out, if_neg hn]; rfl
        have SB : Hid (BytesAt w (.slice (some ⟨b, off + 2, none⟩) 1 (cap - 2)) ((ys.take 3).drop 2)) := Lib.hid (slat_sub H.out (i := 2) (j := 3) (by omega) (by omega))
        have RD := Lib.hid (at_read _ _ w SB.out (by rw [List.length_drop, List.length_take]; omega))
        have CN : cutN ys = 3 + readN ((ys.take 3).drop 2) := by unfold cutN; rw [F.out]
        rw [CN] at R0
        have RL : readN ((ys.take 3).drop 2) < 65536 := by
          have h1 := readN_lt (xs := (ys.take 3).drop 2) (fun y hy => bytes_lt H.out y (List.mem_of_mem_take (List.mem_of_mem_drop hy))) _ (Nat.le_refl _)
          rw [List.take_length] at h1
          have h2 : ((ys.take 3).drop 2).length ≤ 2 := by rw [List.length_drop, List.length_take]; omega
          have h3 : 256 ^ ((ys.take 3).drop 2).length ≤ 256 ^ 2 := Nat.pow_le_pow_right (by decide) h2
          omega
        generalize readN ((ys.take 3).drop 2) = r at RD R0 RL
        have R : Hid (cutV ys = .tuple #[.int .i64 3, .int .i64 (3 + (r : Int)), .bool (decide (3 + (r : Int) ≤ (ys.length : Int)))]) := Lib.hid (by
          rw [R0, decide_eq_decide.2 (show (3 + r ≤ ys.length) ↔ ((3 : Int) + (r : Int) ≤ (ys.length : Int)) from ⟨fun h => by omega, fun h => by omega⟩)]
          rfl)
        clear R0 CN
        have hnI : ¬ (ys.length : Int) < 3 := by omega
        have hc1 : (3 : Int) ≤ (cap : Int) := by omega
        have hc2 : ¬ (cap : Int) = 2 := by omega
        have hc3 : ¬ cap = 2 := by omega
        have r0 : (0 : Int) ≤ (r : Int) := by omega
        have r1 : (r : Int) ≤ 65535 := by omega
        clear H SB F RL
        go_enter Tryd.func42, Tryd.ntmps42
        go_wp2_with fail
        refine RD.out.mono ?_
        rintro e w1 ⟨rfl, rfl⟩
        go_wp2_with fail
        refine bodyPost_ret (results_tmp3 Tryd.results42 _ _ _) rfl ⟨?_, rfl⟩
        rw [R.out]
        rfl
    · have hb : (bits .and .u8 (x : Int) 16 != 0) = true := hz
      have hb2 : ¬ bits .and .u8 (x : Int) 16 = 0 := bne_iff_ne.1 hz
      have F : Hid (fromN ys = 4) := Lib.hid (by rw [← hys]; show (if longB x = true then 4 else 3) = 4; rw [show longB x = true from hz]; rfl)
      clear hz
      by_cases hn : ys.length < 4
      · have R : Hid (cutV ys = .tuple #[.int .i64 0, .int .i64 0, .bool false]) := Lib.hid (by unfold cutV; rw [F.out, if_pos hn])
        have hnI : (ys.length : Int) < 4 := by omega
        go_enter Tryd.func42, Tryd.ntmps42
        go_wp2_with fail
        exact bodyPost_ret (results_tmp3 Tryd.results42 _ _ _) rfl ⟨by rw [R.out]; rfl, rfl⟩
      · have R0 : cutV ys = .tuple #[.int .i64 4, .int .i64 (cutN ys), .bool (decide (cutN ys ≤ ys.length))] := by unfold cutV; rw [F.out, if_neg hn]; rfl
        have SB : Hid (BytesAt w (.slice (some ⟨b, off + 2, none⟩) 2 (cap - 2)) ((ys.take 4).drop 2)) := Lib.hid (slat_sub H.out (i := 2) (j := 4) (by omega) (by omega))
        have RD := Lib.hid (at_read _ _ w SB.out (by rw [List.length_drop, List.length_take]; omega))
        have CN : cutN ys = 4 + readN ((ys.take 4).drop 2) := by unfold cutN; rw [F.out]
        rw [CN] at R0
        have RL : readN ((ys.take 4).drop 2) < 65536 := by
          have h1 := readN_lt (xs := (ys.take 4).drop 2) (fun y hy => bytes_lt H.out y (List.mem_of_mem_take (List.mem_of_mem_drop hy))) _ (Nat.le_refl _)
          rw [List.take_length] at h1
          have h2 : ((ys.take 4).drop 2).length ≤ 2 := by rw [List.length_drop, List.length_take]; omega
          have h3 : 256 ^ ((ys.take 4).drop 2).length ≤ 256 ^ 2 := Nat.pow_le_pow_right (by decide) h2
          omega
        generalize readN ((ys.take 4).drop 2) = r at RD R0 RL
        have R : Hid (cutV ys = .tuple #[.int .i64 4, .int .i64 (4 + (r : Int)), .bool (decide (4 + (r : Int) ≤ (ys.length : Int)))]) := Lib.hid (by
          rw [R0, decide_eq_decide.2 (show (4 + r ≤ ys.length) ↔ ((4 : Int) + (r : Int) ≤ (ys.length : Int)) from ⟨fun h => by omega, fun h => by omega⟩)]
          rfl)
        clear R0 CN
        have hnI : ¬ (ys.length : Int) < 4 := by omega
        have hc1 : (4 : Int) ≤ (cap : Int) := by omega
        have hc2 : ¬ (cap : Int) = 2 := by omega
        have hc3 : ¬ cap = 2 := by omega
        have r0 : (0 : Int) ≤ (r : Int) := by omega
        have r1 : (r : Int) ≤ 65535 := by omega
        clear H SB F RL
        go_enter Tryd.func42, Tryd.ntmps42
        go_wp2_with fail
        refine RD.out.mono ?_
        rintro e w1 ⟨rfl, rfl⟩
        go_wp2_with fail
        refine bodyPost_ret (results_tmp3 Tryd.results42 _ _ _) rfl ⟨?_, rfl⟩
        rw [R.out]
        rfl
end Go.Proofs.YtohkbcdnlmjcjaaDoor
