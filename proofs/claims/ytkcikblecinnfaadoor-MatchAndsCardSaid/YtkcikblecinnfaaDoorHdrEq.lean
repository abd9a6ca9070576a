/-
  TWO HEADERS HELD AGAINST EACH OTHER.
-/
import Derived.Test.YtkcikblecinnfaaDoorHdr
namespace Go.Proofs.YtkcikblecinnfaaDoor
open Go.RowKit

theorem eqFields_cons {P : Program} {w : World} {d : Nat} {xs ys : Array Value} {f : Field} {fs : List Field} {a b : Value} {r rr : Bool} (hn : f.name ≠ "_") (ha : (part f.type xs f.offset).run P w = .ok a w) (hb : (part f.type ys f.offset).run P w = .ok b w)
    (hr : (Op.equalIn d f.type a b).run P w = .ok r w) (hrr : (Op.eqFields d xs ys fs).run P w = .ok rr w) : (Op.eqFields d xs ys (f :: fs)).run P w = .ok (r && rr) w := by
  simp only [Op.eqFields, hn, ne_eq, not_false_eq_true, if_true, Sem.run_bind, ha, hb, hr, Result.andThen_ok]
  cases r
  · simp
  · simpa using hrr
theorem eqFields_nil {P : Program} {w : World} {d : Nat} {xs ys : Array Value} : (Op.eqFields d xs ys []).run P w = .ok true w := by simp [Op.eqFields]
theorem undHeader : Tryd.prog.underlying 31 = some (.struct (Tryd.prog.fieldsOf 31)) := by kernel_rfl
theorem stoHeader : Tryd.prog.stoodInHeld 31 = false := by kernel_rfl
def eqMac (a0 a1 a2 a3 a4 a5 b0 b1 b2 b3 b4 b5 : Int) : Bool := a0 == b0 && (a1 == b1 && (a2 == b2 && (a3 == b3 && (a4 == b4 && a5 == b5))))
theorem run_equal_macs (d : Nat) (a0 a1 a2 a3 a4 a5 b0 b1 b2 b3 b4 b5 : Int) (w : World) : (Op.equalIn (d + 2) 27 (.agg #[.int .u8 a0, .int .u8 a1, .int .u8 a2, .int .u8 a3, .int .u8 a4, .int .u8 a5]) (.agg #[.int .u8 b0, .int .u8 b1, .int .u8 b2, .int .u8 b3, .int .u8 b4, .int .u8 b5])).run Tryd.prog w =
    .ok (eqMac a0 a1 a2 a3 a4 a5 b0 b1 b2 b3 b4 b5) w := by
  obtain ⟨i0, hi, _⟩ := info_parts info_u8
  have := equal_ints (P := Tryd.prog) w d Tryd.underlying27 hi stoMac Tryd.underlying5 [a0, a1, a2, a3, a4, a5] [b0, b1, b2, b3, b4, b5] rfl rfl
  rw [show List.range 6 = [0, 1, 2, 3, 4, 5] from rfl] at this
  simpa [eqMac] using this
def eqH (a b : Hdr) : Bool := a.port == b.port && (eqMac a.s0 a.s1 a.s2 a.s3 a.s4 a.s5 b.s0 b.s1 b.s2 b.s3 b.s4 b.s5 && (eqMac a.d0 a.d1 a.d2 a.d3 a.d4 a.d5 b.d0 b.d1 b.d2 b.d3 b.d4 b.d5 && (a.ty == b.ty && (a.sip == b.sip && (a.dip == b.dip && (a.proto == b.proto && (a.sp == b.sp && (a.dp == b.dp && true))))))))
theorem eqH_self (a : Hdr) : eqH a a = true := by simp [eqH, eqMac]
set_option maxRecDepth 100000 in
theorem run_equal_header (a b : Hdr) (w : World) : (Op.equalIn 10000 31 (hdrV a) (hdrV b)).run Tryd.prog w = .ok (eqH a b) w := by
  rw [run_equalIn_struct w 9999 31 _ _ undHeader stoHeader]
  rw [show (Tryd.prog.fieldsOf 31).toList = _ from by rw [Program.fieldsOf, Tryd.underlying31]]
  unfold eqH
  refine eqFields_cons (by decide) (by kernel_rfl) (by kernel_rfl) (run_equalIn_int w 9998 3 .i64 .i64 _ _ Tryd.underlying3) ?_
  refine eqFields_cons (by decide) (by kernel_rfl) (by kernel_rfl) (run_equal_macs 9997 _ _ _ _ _ _ _ _ _ _ _ _ w) ?_
  refine eqFields_cons (by decide) (by kernel_rfl) (by kernel_rfl) (run_equal_macs 9997 _ _ _ _ _ _ _ _ _ _ _ _ w) ?_
  refine eqFields_cons (by decide) (by kernel_rfl) (by kernel_rfl) (run_equalIn_int w 9998 3 .i64 .i64 _ _ Tryd.underlying3) ?_
  refine eqFields_cons (by decide) (by kernel_rfl) (by kernel_rfl) (run_equalIn_int w 9998 29 .u32 .u32 _ _ Tryd.underlying29) ?_
  refine eqFields_cons (by decide) (by kernel_rfl) (by kernel_rfl) (run_equalIn_int w 9998 29 .u32 .u32 _ _ Tryd.underlying29) ?_
  refine eqFields_cons (by decide) (by kernel_rfl) (by kernel_rfl) (run_equalIn_int w 9998 3 .i64 .i64 _ _ Tryd.underlying3) ?_
  refine eqFields_cons (by decide) (by kernel_rfl) (by kernel_rfl) (run_equalIn_int w 9998 3 .i64 .i64 _ _ Tryd.underlying3) ?_
  refine eqFields_cons (by decide) (by kernel_rfl) (by kernel_rfl) (run_equalIn_int w 9998 3 .i64 .i64 _ _ Tryd.underlying3) ?_
  exact eqFields_nil
theorem run_eql_header (a b : Hdr) (w : World) : (binOp .eql 31 (hdrV a) (hdrV b)).run Tryd.prog w = .ok (.bool (eqH a b)) w := by
  rw [run_eql_struct, run_equal_header]; rfl
theorem run_neq_header (a b : Hdr) (w : World) : (binOp .neq 31 (hdrV a) (hdrV b)).run Tryd.prog w = .ok (.bool (!eqH a b)) w := by
  rw [run_neq_struct, run_equal_header]; rfl
attribute [go_sem ↓] run_eql_header run_neq_header
end Go.Proofs.YtkcikblecinnfaaDoor
