/-
  THE NUMBER THAT A TEXT OF DIGITS SAYS: ip.number.
-/
import Derived.Test.YtgmpbppiakjpdaaDoorRgS
import Derived.Test.YtgmpbppiakjpdaaDoorFrame
import Derived.Lib.Slices
import Derived.Laws.IdiomStrings
import Derived.OwnWalk
import Derived.BigCall
import Derived.LoopN
namespace Go.Proofs.YtgmpbppiakjpdaaDoor
open Go.RowKit

def dig (c : UInt8) : Bool := decide (48 ≤ c.toNat) && decide (c.toNat ≤ 57)
def valD : List UInt8 → Nat → Nat
  | [], n => n
  | c :: l, n => valD l (10 * n + (c.toNat - 48))
/-- 1 to 3 digits, no needless nought ahead. -/
def numS (l : List UInt8) : Bool := decide (1 ≤ l.length) && decide (l.length ≤ 3) && !(decide (1 < l.length) && l.head? == some 48) && l.all dig
def numOk (l : List UInt8) (m : Nat) : Bool := numS l && decide (valD l 0 ≤ m)
def numV (l : List UInt8) (m : Nat) : Nat := if numOk l m then valD l 0 else 0
theorem numOk_no {l : List UInt8} {m : Nat} (h : numOk l m = false) : numV l m = 0 := by unfold numV; rw [h]; rfl
theorem numOk_yes {l : List UInt8} {m : Nat} (h : numOk l m = true) : numV l m = valD l 0 := by unfold numV; rw [h]; rfl
theorem mk_g0 (a : UInt8) (l : List UInt8) (h : 0 < (ByteArray.mk (List.toArray (a :: l))).size) : (ByteArray.mk (List.toArray (a :: l)))[0]'h = a := rfl
theorem mk_g1 (a b : UInt8) (l : List UInt8) (h : 1 < (ByteArray.mk (List.toArray (a :: b :: l))).size) : (ByteArray.mk (List.toArray (a :: b :: l)))[1]'h = b := rfl
theorem mk_g2 (a b c : UInt8) (l : List UInt8) (h : 2 < (ByteArray.mk (List.toArray (a :: b :: c :: l))).size) : (ByteArray.mk (List.toArray (a :: b :: c :: l)))[2]'h = c := rfl
attribute [local go_sem] mk_g0 mk_g1 mk_g2

theorem num_no {l : List UInt8} {m : Nat} (h : numOk l m = false) : Ending.returned (.tuple #[.int .i64 0, .bool false]) = Ending.returned (.tuple #[.int .i64 (numV l m), .bool (numOk l m)]) := by rw [numOk_no h, h]; rfl
theorem num_yes {l : List UInt8} {m : Nat} {n : Int} (h : numOk l m = true) (hn : n = valD l 0) : Ending.returned (.tuple #[.int .i64 n, .bool true]) = Ending.returned (.tuple #[.int .i64 (numV l m), .bool (numOk l m)]) := by rw [numOk_yes h, h, hn]
theorem num_1 (a : UInt8) (m : Nat) : numOk [a] m = true ↔ 48 ≤ a.toNat ∧ a.toNat ≤ 57 ∧ a.toNat - 48 ≤ m := by
  simp [numOk, numS, dig, valD]
  omega
theorem head_ne (a : UInt8) : a = 48 ↔ a.toNat = 48 := ⟨fun h => by rw [h]; rfl, fun h => UInt8.toNat_inj.1 (by rw [h]; rfl)⟩
theorem num_2 (a b : UInt8) (m : Nat) : numOk [a, b] m = true ↔ a.toNat ≠ 48 ∧ 48 ≤ a.toNat ∧ a.toNat ≤ 57 ∧ 48 ≤ b.toNat ∧ b.toNat ≤ 57 ∧ 10 * (a.toNat - 48) + (b.toNat - 48) ≤ m := by
  simp [numOk, numS, dig, valD, head_ne]
  omega
theorem num_3 (a b c : UInt8) (m : Nat) : numOk [a, b, c] m = true ↔ a.toNat ≠ 48 ∧ 48 ≤ a.toNat ∧ a.toNat ≤ 57 ∧ 48 ≤ b.toNat ∧ b.toNat ≤ 57 ∧ 48 ≤ c.toNat ∧ c.toNat ≤ 57 ∧ 10 * (10 * (a.toNat - 48) + (b.toNat - 48)) + (c.toNat - 48) ≤ m := by
  simp [numOk, numS, dig, valD, head_ne]
  omega
theorem num_4 (l : List UInt8) (m : Nat) (h : 3 < l.length) : numOk l m = false := by
  simp [numOk, numS]
  omega

set_option maxHeartbeats 3200000 in
set_option maxRecDepth 100000 in
theorem ip_number (l : List UInt8) (m : Nat) (hl : l.length ≤ 1000000) (w : World) : Calls Tryd.prog 21 #[.string ⟨l.toArray⟩, .int .i64 m] w fun e w' => e = .returned (.tuple #[.int .i64 (numV l m), .bool (numOk l m)]) ∧ w = w' := by
  match l, hl with
  | [], hl =>
    go_enter Tryd.func21, Tryd.ntmps21
    go_wp2
    exact bodyPost_ret (v := .tuple #[.int .i64 0, .bool false]) (by simp [results, Tryd.results21, go_sem]) rfl ⟨rfl, rfl⟩
  | [a], hl =>
    have xa : a.toNat < 256 := a.toNat_lt
    by_cases d0 : a.toNat < 48
    · go_enter Tryd.func21, Tryd.ntmps21
      go_wp2
      refine wp_loop_rounds 2 ?_
      rw [rounds_succ]
      go_wp2
      all_goals exact bodyPost_ret (v := .tuple #[.int .i64 0, .bool false]) (by simp [results, Tryd.results21, go_sem]) rfl ⟨num_no (Bool.eq_false_iff.2 (fun h => by rw [num_1 a m] at h; omega)), rfl⟩
    by_cases d1 : 57 < a.toNat
    · go_enter Tryd.func21, Tryd.ntmps21
      go_wp2
      refine wp_loop_rounds 2 ?_
      rw [rounds_succ]
      go_wp2
      all_goals exact bodyPost_ret (v := .tuple #[.int .i64 0, .bool false]) (by simp [results, Tryd.results21, go_sem]) rfl ⟨num_no (Bool.eq_false_iff.2 (fun h => by rw [num_1 a m] at h; omega)), rfl⟩
    go_enter Tryd.func21, Tryd.ntmps21
    go_wp2
    refine wp_loop_rounds 2 ?_
    rw [rounds_succ]
    go_wp2
    rw [rounds_succ]
    go_wp2
    · exact bodyPost_ret (v := .tuple #[.int .i64 0, .bool false]) (by simp [results, Tryd.results21, go_sem]) rfl ⟨num_no (Bool.eq_false_iff.2 (fun h => by rw [num_1 a m] at h; omega)), rfl⟩
    · exact bodyPost_ret (by simp [results, Tryd.results21, go_sem]; rfl) rfl ⟨num_yes ((num_1 a m).2 (by omega)) (by simp only [valD]; omega), rfl⟩
  | [a, b], hl =>
    have xa : a.toNat < 256 := a.toNat_lt
    have xb : b.toNat < 256 := b.toNat_lt
    by_cases d0 : a.toNat = 48
    · go_enter Tryd.func21, Tryd.ntmps21
      go_wp2
      all_goals exact bodyPost_ret (v := .tuple #[.int .i64 0, .bool false]) (by simp [results, Tryd.results21, go_sem]) rfl ⟨num_no (Bool.eq_false_iff.2 (fun h => by rw [num_2 a b m] at h; omega)), rfl⟩
    by_cases d1 : a.toNat < 48
    · go_enter Tryd.func21, Tryd.ntmps21
      go_wp2
      refine wp_loop_rounds 3 ?_
      rw [rounds_succ]
      go_wp2
      all_goals exact bodyPost_ret (v := .tuple #[.int .i64 0, .bool false]) (by simp [results, Tryd.results21, go_sem]) rfl ⟨num_no (Bool.eq_false_iff.2 (fun h => by rw [num_2 a b m] at h; omega)), rfl⟩
    by_cases d2 : 57 < a.toNat
    · go_enter Tryd.func21, Tryd.ntmps21
      go_wp2
      refine wp_loop_rounds 3 ?_
      rw [rounds_succ]
      go_wp2
      all_goals exact bodyPost_ret (v := .tuple #[.int .i64 0, .bool false]) (by simp [results, Tryd.results21, go_sem]) rfl ⟨num_no (Bool.eq_false_iff.2 (fun h => by rw [num_2 a b m] at h; omega)), rfl⟩
    by_cases d3 : b.toNat < 48
    · go_enter Tryd.func21, Tryd.ntmps21
      go_wp2
      refine wp_loop_rounds 3 ?_
      rw [rounds_succ]
      go_wp2
      rw [rounds_succ]
      go_wp2
      all_goals exact bodyPost_ret (v := .tuple #[.int .i64 0, .bool false]) (by simp [results, Tryd.results21, go_sem]) rfl ⟨num_no (Bool.eq_false_iff.2 (fun h => by rw [num_2 a b m] at h; omega)), rfl⟩
    by_cases d4 : 57 < b.toNat
    · go_enter Tryd.func21, Tryd.ntmps21
      go_wp2
      refine wp_loop_rounds 3 ?_
      rw [rounds_succ]
      go_wp2
      rw [rounds_succ]
      go_wp2
      all_goals exact bodyPost_ret (v := .tuple #[.int .i64 0, .bool false]) (by simp [results, Tryd.results21, go_sem]) rfl ⟨num_no (Bool.eq_false_iff.2 (fun h => by rw [num_2 a b m] at h; omega)), rfl⟩
    go_enter Tryd.func21, Tryd.ntmps21
    go_wp2
    refine wp_loop_rounds 3 ?_
    rw [rounds_succ]
    go_wp2
    rw [rounds_succ]
    go_wp2
    rw [rounds_succ]
    go_wp2
    · exact bodyPost_ret (v := .tuple #[.int .i64 0, .bool false]) (by simp [results, Tryd.results21, go_sem]) rfl ⟨num_no (Bool.eq_false_iff.2 (fun h => by rw [num_2 a b m] at h; omega)), rfl⟩
    · exact bodyPost_ret (by simp [results, Tryd.results21, go_sem]; rfl) rfl ⟨num_yes ((num_2 a b m).2 (by omega)) (by simp only [valD]; omega), rfl⟩
  | [a, b, c], hl =>
    have xa : a.toNat < 256 := a.toNat_lt
    have xb : b.toNat < 256 := b.toNat_lt
    have xc : c.toNat < 256 := c.toNat_lt
    by_cases d0 : a.toNat = 48
    · go_enter Tryd.func21, Tryd.ntmps21
      go_wp2
      all_goals exact bodyPost_ret (v := .tuple #[.int .i64 0, .bool false]) (by simp [results, Tryd.results21, go_sem]) rfl ⟨num_no (Bool.eq_false_iff.2 (fun h => by rw [num_3 a b c m] at h; omega)), rfl⟩
    by_cases d1 : a.toNat < 48
    · go_enter Tryd.func21, Tryd.ntmps21
      go_wp2
      refine wp_loop_rounds 4 ?_
      rw [rounds_succ]
      go_wp2
      all_goals exact bodyPost_ret (v := .tuple #[.int .i64 0, .bool false]) (by simp [results, Tryd.results21, go_sem]) rfl ⟨num_no (Bool.eq_false_iff.2 (fun h => by rw [num_3 a b c m] at h; omega)), rfl⟩
    by_cases d2 : 57 < a.toNat
    · go_enter Tryd.func21, Tryd.ntmps21
      go_wp2
      refine wp_loop_rounds 4 ?_
      rw [rounds_succ]
      go_wp2
      all_goals exact bodyPost_ret (v := .tuple #[.int .i64 0, .bool false]) (by simp [results, Tryd.results21, go_sem]) rfl ⟨num_no (Bool.eq_false_iff.2 (fun h => by rw [num_3 a b c m] at h; omega)), rfl⟩
    by_cases d3 : b.toNat < 48
    · go_enter Tryd.func21, Tryd.ntmps21
      go_wp2
      refine wp_loop_rounds 4 ?_
      rw [rounds_succ]
      go_wp2
      rw [rounds_succ]
      go_wp2
      all_goals exact bodyPost_ret (v := .tuple #[.int .i64 0, .bool false]) (by simp [results, Tryd.results21, go_sem]) rfl ⟨num_no (Bool.eq_false_iff.2 (fun h => by rw [num_3 a b c m] at h; omega)), rfl⟩
    by_cases d4 : 57 < b.toNat
    · go_enter Tryd.func21, Tryd.ntmps21
      go_wp2
      refine wp_loop_rounds 4 ?_
      rw [rounds_succ]
      go_wp2
      rw [rounds_succ]
      go_wp2
      all_goals exact bodyPost_ret (v := .tuple #[.int .i64 0, .bool false]) (by simp [results, Tryd.results21, go_sem]) rfl ⟨num_no (Bool.eq_false_iff.2 (fun h => by rw [num_3 a b c m] at h; omega)), rfl⟩
    by_cases d5 : c.toNat < 48
    · go_enter Tryd.func21, Tryd.ntmps21
      go_wp2
      refine wp_loop_rounds 4 ?_
      rw [rounds_succ]
      go_wp2
      rw [rounds_succ]
      go_wp2
      rw [rounds_succ]
      go_wp2
      all_goals exact bodyPost_ret (v := .tuple #[.int .i64 0, .bool false]) (by simp [results, Tryd.results21, go_sem]) rfl ⟨num_no (Bool.eq_false_iff.2 (fun h => by rw [num_3 a b c m] at h; omega)), rfl⟩
    by_cases d6 : 57 < c.toNat
    · go_enter Tryd.func21, Tryd.ntmps21
      go_wp2
      refine wp_loop_rounds 4 ?_
      rw [rounds_succ]
      go_wp2
      rw [rounds_succ]
      go_wp2
      rw [rounds_succ]
      go_wp2
      all_goals exact bodyPost_ret (v := .tuple #[.int .i64 0, .bool false]) (by simp [results, Tryd.results21, go_sem]) rfl ⟨num_no (Bool.eq_false_iff.2 (fun h => by rw [num_3 a b c m] at h; omega)), rfl⟩
    go_enter Tryd.func21, Tryd.ntmps21
    go_wp2
    refine wp_loop_rounds 4 ?_
    rw [rounds_succ]
    go_wp2
    rw [rounds_succ]
    go_wp2
    rw [rounds_succ]
    go_wp2
    rw [rounds_succ]
    go_wp2
    · exact bodyPost_ret (v := .tuple #[.int .i64 0, .bool false]) (by simp [results, Tryd.results21, go_sem]) rfl ⟨num_no (Bool.eq_false_iff.2 (fun h => by rw [num_3 a b c m] at h; omega)), rfl⟩
    · exact bodyPost_ret (by simp [results, Tryd.results21, go_sem]; rfl) rfl ⟨num_yes ((num_3 a b c m).2 (by omega)) (by simp only [valD]; omega), rfl⟩
  | a :: b :: c :: d :: l', hl =>
    go_enter Tryd.func21, Tryd.ntmps21
    go_wp2
    exact bodyPost_ret (v := .tuple #[.int .i64 0, .bool false]) (by simp [results, Tryd.results21, go_sem]) rfl ⟨num_no (num_4 _ _ (by simp)), rfl⟩
end Go.Proofs.YtgmpbppiakjpdaaDoor
