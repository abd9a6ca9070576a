/-
  TWO MATCHES HELD AGAINST EACH OTHER.
-/
import Derived.Test.YtkcikblecinnfaaDoorHdrEq
import Derived.Test.YtkcikblecinnfaaDoorMem
namespace Go.Proofs.YtkcikblecinnfaaDoor
open Go.RowKit

theorem info_u64 : (Tryd.prog.info? 22).map (fun i => (i.zero, i.size, i.bytes)) = some (some (.int .u64 0), 1, 8) := by kernel_rfl
theorem stoArrU : Tryd.prog.cellsOf 22 = 1 := by kernel_rfl
theorem undMatch : Tryd.prog.underlying 25 = some (.struct (Tryd.prog.fieldsOf 25)) := by kernel_rfl
theorem stoMatch : Tryd.prog.stoodInHeld 25 = false := by kernel_rfl
def eqA (f g : Nat → Nat) : Bool := (List.range 9).all fun i => f i == g i
theorem eqA_iff (f g : Nat → Nat) : eqA f g = true ↔ ∀ i, i < 9 → f i = g i := by unfold eqA; simp
theorem cast_beq (a b : Nat) : ((a : Int) == (b : Int)) = (a == b) := by
  by_cases h : a = b
  · rw [h]; simp
  · have h1 : (a == b) = false := by rw [beq_eq_false_iff_ne]; exact h
    rw [h1, beq_eq_false_iff_ne]; intro h'; exact h (Int.ofNat_inj.mp h')
abbrev arr9N (f : Nat → Nat) : Value := .agg #[.int .u64 (f 0), .int .u64 (f 1), .int .u64 (f 2), .int .u64 (f 3), .int .u64 (f 4), .int .u64 (f 5), .int .u64 (f 6), .int .u64 (f 7), .int .u64 (f 8)]
theorem run_equal_arr (d : Nat) (f g : Nat → Nat) (w : World) : (Op.equalIn (d + 2) 23 (arr9N f) (arr9N g)).run Tryd.prog w = .ok (eqA f g) w := by
  obtain ⟨i0, hi, _⟩ := info_parts info_u64
  have := equal_ints (P := Tryd.prog) w d Tryd.underlying23 hi stoArrU Tryd.underlying22 [f 0, f 1, f 2, f 3, f 4, f 5, f 6, f 7, f 8] [g 0, g 1, g 2, g 3, g 4, g 5, g 6, g 7, g 8] rfl rfl
  have e : ((List.range 9).all fun i => ([(f 0 : Int), f 1, f 2, f 3, f 4, f 5, f 6, f 7, f 8] : List Int).getD i 0 == ([(g 0 : Int), g 1, g 2, g 3, g 4, g 5, g 6, g 7, g 8] : List Int).getD i 0) = eqA f g := by
    unfold eqA
    rw [show List.range 9 = [0, 1, 2, 3, 4, 5, 6, 7, 8] from rfl]
    simp [cast_beq]
  rw [e] at this
  exact this
def eqM (m n : Mt) : Bool := eqA m.val n.val && (eqA m.mask n.mask && true)
theorem eqM_iff (m n : Mt) : eqM m n = true ↔ ∀ i, i < 9 → m.val i = n.val i ∧ m.mask i = n.mask i := by
  unfold eqM
  simp only [Bool.and_eq_true, eqA_iff, and_true]
  constructor
  · intro h i hi; exact ⟨h.1 i hi, h.2 i hi⟩
  · intro h; exact ⟨fun i hi => (h i hi).1, fun i hi => (h i hi).2⟩
set_option maxRecDepth 100000 in
theorem run_equal_match (m n : Mt) (w : World) : (Op.equalIn 10000 25 (mtV m) (mtV n)).run Tryd.prog w = .ok (eqM m n) w := by
  rw [run_equalIn_struct w 9999 25 _ _ undMatch stoMatch]
  rw [show (Tryd.prog.fieldsOf 25).toList = _ from by rw [Program.fieldsOf, Tryd.underlying25]]
  unfold eqM
  refine eqFields_cons (by decide) (a := arr9N m.val) (b := arr9N n.val) (by kernel_rfl) (by kernel_rfl) (run_equal_arr 9997 _ _ w) ?_
  refine eqFields_cons (by decide) (a := arr9N m.mask) (b := arr9N n.mask) (by kernel_rfl) (by kernel_rfl) (run_equal_arr 9997 _ _ w) ?_
  exact eqFields_nil
theorem run_eql_match (m n : Mt) (w : World) : (binOp .eql 25 (mtV m) (mtV n)).run Tryd.prog w = .ok (.bool (eqM m n)) w := by
  rw [run_eql_struct, run_equal_match]; rfl
theorem run_neq_match (m n : Mt) (w : World) : (binOp .neq 25 (mtV m) (mtV n)).run Tryd.prog w = .ok (.bool (!eqM m n)) w := by
  rw [run_neq_struct, run_equal_match]; rfl
theorem run_neq_matchZ (m : Mt) (w : World) : (binOp .neq 25 (mtV m) (.agg mtZ)).run Tryd.prog w = .ok (.bool (!eqM m mt0)) w := run_neq_match m mt0 w
end Go.Proofs.YtkcikblecinnfaaDoor
