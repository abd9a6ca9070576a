/-
  TWO KEYS OF CLASSES HELD AGAINST EACH OTHER.
-/
import Derived.Test.YtcoclbcjbpjblaaPool
import Derived.ChangeKeysEq
namespace Go.Proofs.Ytcoclbcjbpjblaa
open Go.RowKit
theorem eqFields_cons {P : Program} {w : World} {d : Nat} {xs ys : Array Value} {f : Field} {fs : List Field} {a b : Value} {r rr : Bool} (hn : f.name ≠ "_") (ha : (part f.type xs f.offset).run P w = .ok a w) (hb : (part f.type ys f.offset).run P w = .ok b w)
    (hr : (Op.equalIn d f.type a b).run P w = .ok r w) (hrr : (Op.eqFields d xs ys fs).run P w = .ok rr w) : (Op.eqFields d xs ys (f :: fs)).run P w = .ok (r && rr) w := by
  simp only [Op.eqFields, hn, ne_eq, not_false_eq_true, if_true, Sem.run_bind, ha, hb, hr, Result.andThen_ok]
  cases r
  · simp
  · simpa using hrr
theorem eqFields_nil {P : Program} {w : World} {d : Nat} {xs ys : Array Value} : (Op.eqFields d xs ys []).run P w = .ok true w := by simp [Op.eqFields]
theorem undKey : Try.prog.underlying 30 = some (.struct (Try.prog.fieldsOf 30)) := by kernel_rfl
theorem stoKey : Try.prog.stoodInHeld 30 = false := by kernel_rfl
def eqK (a1 a2 a3 b1 b2 b3 : Int) : Bool := a1 == b1 && (a2 == b2 && (a3 == b3 && true))
theorem eqK_yes (a1 a2 a3 : Int) : eqK a1 a2 a3 a1 a2 a3 = true := by simp [eqK]
theorem eqK_iff (a1 a2 a3 b1 b2 b3 : Int) : eqK a1 a2 a3 b1 b2 b3 = true ↔ ((a1, a2, a3) : Ky) = (b1, b2, b3) := by simp [eqK]
theorem run_equal_key (a1 a2 a3 b1 b2 b3 : Int) (w : World) : (Op.equalIn 10000 30 (.agg #[.int .i64 a1, .int .i64 a2, .int .i64 a3]) (.agg #[.int .i64 b1, .int .i64 b2, .int .i64 b3])).run Try.prog w = .ok (eqK a1 a2 a3 b1 b2 b3) w := by
  rw [run_equalIn_struct w 9999 30 _ _ undKey stoKey]
  rw [show (Try.prog.fieldsOf 30).toList = _ from by rw [Program.fieldsOf, Try.underlying30]]
  unfold eqK
  refine eqFields_cons (by decide) (by kernel_rfl) (by kernel_rfl) (run_equalIn_int w 9998 3 .i64 .i64 _ _ Try.underlying3) ?_
  refine eqFields_cons (by decide) (by kernel_rfl) (by kernel_rfl) (run_equalIn_int w 9998 3 .i64 .i64 _ _ Try.underlying3) ?_
  refine eqFields_cons (by decide) (by kernel_rfl) (by kernel_rfl) (run_equalIn_int w 9998 3 .i64 .i64 _ _ Try.underlying3) ?_
  exact eqFields_nil
theorem run_eql_key (a1 a2 a3 b1 b2 b3 : Int) (w : World) : (binOp .eql 30 (.agg #[.int .i64 a1, .int .i64 a2, .int .i64 a3]) (.agg #[.int .i64 b1, .int .i64 b2, .int .i64 b3])).run Try.prog w = .ok (.bool (eqK a1 a2 a3 b1 b2 b3)) w := by
  rw [run_eql_struct, run_equal_key]; rfl
theorem run_neq_key (a1 a2 a3 b1 b2 b3 : Int) (w : World) : (binOp .neq 30 (.agg #[.int .i64 a1, .int .i64 a2, .int .i64 a3]) (.agg #[.int .i64 b1, .int .i64 b2, .int .i64 b3])).run Try.prog w = .ok (.bool (!eqK a1 a2 a3 b1 b2 b3)) w := by
  rw [run_neq_struct, run_equal_key]; rfl
attribute [go_sem ↓] run_eql_key run_neq_key
end Go.Proofs.Ytcoclbcjbpjblaa
