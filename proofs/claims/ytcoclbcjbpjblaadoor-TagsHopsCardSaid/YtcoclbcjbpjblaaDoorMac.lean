/-
  THE ADDRESSES OF FRAMES: six bytes as a number, and back; two of them held against each other.
-/
import Derived.Test.YtcoclbcjbpjblaaDoorRows
import Derived.Test.YtcoclbcjbpjblaaDoorRg
import Derived.LoopTactic
import Derived.LoopN
import Derived.ChangeKeysEq
namespace Go.Proofs.YtcoclbcjbpjblaaDoor
open Go.RowKit

theorem info_u8 : (Tryd.prog.info? 5).map (fun i => (i.zero, i.size, i.bytes)) = some (some (.int .u8 0), 1, 1) := by kernel_rfl
/-- an address as a value. -/
def macV (b0 b1 b2 b3 b4 b5 : Int) : Value := .agg #[.int .u8 b0, .int .u8 b1, .int .u8 b2, .int .u8 b3, .int .u8 b4, .int .u8 b5]
theorem stoMac : Tryd.prog.cellsOf 5 = 1 := by kernel_rfl
theorem part_int {P : Program} (w : World) {e : TypeId} {k : IntKind} (he : P.underlying e = some (.int k)) (xs : List Int) (i : Nat) (hi : i < xs.length) : (part e (xs.map (Value.int k)).toArray (i * 1)).run P w = .ok (.int k (xs.getD i 0)) w := by
  simp [part, isAgg, run_underlying he, hi]
theorem eqItems_ints {P : Program} (w : World) (d : Nat) {e : TypeId} {k : IntKind} (he : P.underlying e = some (.int k)) (xs ys : List Int) : ∀ is : List Nat, (∀ i ∈ is, i < xs.length ∧ i < ys.length) →
    (Op.eqItems (d + 1) e 1 (xs.map (Value.int k)).toArray (ys.map (Value.int k)).toArray is).run P w = .ok (is.all fun i => xs.getD i 0 == ys.getD i 0) w
  | [], _ => by simp [Op.eqItems]
  | i :: is, h => by
    have h1 := h i (by simp)
    have ih := eqItems_ints w d he xs ys is (fun j hj => h j (by simp [hj]))
    simp only [Op.eqItems, Sem.run_bind, part_int w he xs i h1.1, part_int w he ys i h1.2, Result.andThen_ok, run_equalIn_int w d e k k _ _ he, List.all_cons]
    cases hc : (xs.getD i 0 == ys.getD i 0)
    · simp
    · simpa using ih
theorem equal_ints {P : Program} (w : World) (d : Nat) {t e : TypeId} {n : Nat} {k : IntKind} {i : TypeInfo} (hu : P.underlying t = some (.array n e)) (hi : P.info? e = some i) (hc : P.cellsOf e = 1) (he : P.underlying e = some (.int k)) (xs ys : List Int) (hx : xs.length = n) (hy : ys.length = n) :
    (Op.equalIn (d + 2) t (.agg (xs.map (Value.int k)).toArray) (.agg (ys.map (Value.int k)).toArray)).run P w = .ok ((List.range n).all fun i => xs.getD i 0 == ys.getD i 0) w := by
  rw [run_equalIn_array w (d + 1) _ _ hu hi, hc, eqItems_ints w d he xs ys]
  intro j hj
  have := List.mem_range.1 hj
  omega
theorem run_equal_mac (a0 a1 a2 a3 a4 a5 b0 b1 b2 b3 b4 b5 : Int) (w : World) : (Op.equalIn 10000 27 (.agg #[.int .u8 a0, .int .u8 a1, .int .u8 a2, .int .u8 a3, .int .u8 a4, .int .u8 a5]) (.agg #[.int .u8 b0, .int .u8 b1, .int .u8 b2, .int .u8 b3, .int .u8 b4, .int .u8 b5])).run Tryd.prog w =
    .ok (a0 == b0 && (a1 == b1 && (a2 == b2 && (a3 == b3 && (a4 == b4 && a5 == b5))))) w := by
  obtain ⟨i0, hi, _⟩ := info_parts info_u8
  have := equal_ints (P := Tryd.prog) w 9998 Tryd.underlying27 hi stoMac Tryd.underlying5 [a0, a1, a2, a3, a4, a5] [b0, b1, b2, b3, b4, b5] rfl rfl
  rw [show List.range 6 = [0, 1, 2, 3, 4, 5] from rfl] at this
  simpa using this
theorem run_eql_mac (a0 a1 a2 a3 a4 a5 b0 b1 b2 b3 b4 b5 : Int) (w : World) : (binOp .eql 27 (.agg #[.int .u8 a0, .int .u8 a1, .int .u8 a2, .int .u8 a3, .int .u8 a4, .int .u8 a5]) (.agg #[.int .u8 b0, .int .u8 b1, .int .u8 b2, .int .u8 b3, .int .u8 b4, .int .u8 b5])).run Tryd.prog w =
    .ok (.bool (a0 == b0 && (a1 == b1 && (a2 == b2 && (a3 == b3 && (a4 == b4 && a5 == b5)))))) w := by
  rw [run_eql_struct, run_equal_mac]; rfl
theorem run_neq_mac (a0 a1 a2 a3 a4 a5 b0 b1 b2 b3 b4 b5 : Int) (w : World) : (binOp .neq 27 (.agg #[.int .u8 a0, .int .u8 a1, .int .u8 a2, .int .u8 a3, .int .u8 a4, .int .u8 a5]) (.agg #[.int .u8 b0, .int .u8 b1, .int .u8 b2, .int .u8 b3, .int .u8 b4, .int .u8 b5])).run Tryd.prog w =
    .ok (.bool (!(a0 == b0 && (a1 == b1 && (a2 == b2 && (a3 == b3 && (a4 == b4 && a5 == b5))))))) w := by
  rw [run_neq_struct, run_equal_mac]; rfl
attribute [go_sem ↓] run_eql_mac run_neq_mac

/-- the number of the first k bytes. -/
def foldK (b0 b1 b2 b3 b4 b5 : Int) : Nat → Int
  | 0 => 0
  | 1 => b0
  | 2 => b0 * 256 + b1
  | 3 => (b0 * 256 + b1) * 256 + b2
  | 4 => ((b0 * 256 + b1) * 256 + b2) * 256 + b3
  | 5 => (((b0 * 256 + b1) * 256 + b2) * 256 + b3) * 256 + b4
  | _ => ((((b0 * 256 + b1) * 256 + b2) * 256 + b3) * 256 + b4) * 256 + b5
def macI (b0 b1 b2 b3 b4 b5 : Int) : Int := ((((b0 * 256 + b1) * 256 + b2) * 256 + b3) * 256 + b4) * 256 + b5
def Byte (b : Int) : Prop := 0 ≤ b ∧ b < 256
theorem or_byte (x b : Int) (h0 : 0 ≤ x) (h1 : x < 72057594037927936) (b0 : 0 ≤ b) (b1 : b < 256) : bits .or .u64 (x * 256) b = x * 256 + b := by
  rw [u64_or _ _ (by omega) (by omega) b0 (by omega)]
  obtain ⟨n, rfl⟩ := Int.eq_ofNat_of_zero_le h0
  obtain ⟨m, rfl⟩ := Int.eq_ofNat_of_zero_le b0
  have e1 : ((n : Int) * 256).toNat = 2 ^ 8 * n := by omega
  have e2 : ((m : Int)).toNat = m := by omega
  rw [e1, e2, ← Nat.two_pow_add_eq_or_of_lt (by omega)]
  omega
theorem fold_or (x b : Int) (h0 : 0 ≤ x) (h1 : x < 72057594037927936) (b0 : 0 ≤ b) (b1 : b < 256) : bits .or .u64 (IntKind.u64.wrap (x * 256)) b = x * 256 + b := by
  rw [IntWalk.u64_in _ (by omega), or_byte x b h0 h1 b0 b1]
def byteI (n : Int) (j : Nat) : Int := n / 256 ^ (5 - j) % 256
theorem byteI_ok (n : Int) (j : Nat) : Byte (byteI n j) := by unfold Byte byteI; omega
set_option maxRecDepth 100000 in
set_option maxHeartbeats 3200000 in
theorem head_Of (n : Int) (w : World) (_h0 : 0 ≤ n) (_h1 : n < 18446744073709551616) :
    Calls Tryd.prog 14 #[.int .u64 n] w fun e w' => e = .returned (macV (byteI n 0) (byteI n 1) (byteI n 2) (byteI n 3) (byteI n 4) (byteI n 5)) ∧ Below w.heap.size w w' := by
  go_enter Tryd.func14, Tryd.ntmps14
  go_wp2
  refine wp_loop_rounds 7 ?_
  rw [rounds_succ]
  go_wp2
  rw [rounds_succ]
  go_wp2
  rw [rounds_succ]
  go_wp2
  rw [rounds_succ]
  go_wp2
  rw [rounds_succ]
  go_wp2
  rw [rounds_succ]
  go_wp2
  rw [rounds_succ]
  go_wp2
  refine bodyPost_ret (v := .agg #[.int .u8 (n / 256 / 256 / 256 / 256 / 256 % 256), .int .u8 (n / 256 / 256 / 256 / 256 % 256), .int .u8 (n / 256 / 256 / 256 % 256), .int .u8 (n / 256 / 256 % 256), .int .u8 (n / 256 % 256), .int .u8 (n % 256)]) (by simp [results, Tryd.results14, go_sem]) rfl ⟨?_, ?_⟩
  · unfold macV byteI
    congr 1
    congr 1
    have e0 : n / 256 / 256 / 256 / 256 / 256 % 256 = n / 256 ^ (5 - 0) % 256 := by omega
    have e1 : n / 256 / 256 / 256 / 256 % 256 = n / 256 ^ (5 - 1) % 256 := by omega
    have e2 : n / 256 / 256 / 256 % 256 = n / 256 ^ (5 - 2) % 256 := by omega
    have e3 : n / 256 / 256 % 256 = n / 256 ^ (5 - 3) % 256 := by omega
    have e4 : n / 256 % 256 = n / 256 ^ (5 - 4) % 256 := by omega
    have e5 : n % 256 = n / 256 ^ (5 - 5) % 256 := by omega
    rw [e0, e1, e2, e3, e4, e5]
  · repeat (first | exact Below.refl _ _ | refine Below.alloc ?_ (by simp) _ | refine Below.setCell ?_ (by simp) _ | refine Below.drew ?_)

theorem head_Of' (n : Int) (w : World) (h0 : 0 ≤ n) (h1 : n < 18446744073709551616) :
    Calls Tryd.prog 14 #[.int .u64 n] w fun e w' => e = .returned (.agg #[.int .u8 (byteI n 0), .int .u8 (byteI n 1), .int .u8 (byteI n 2), .int .u8 (byteI n 3), .int .u8 (byteI n 4), .int .u8 (byteI n 5)]) ∧ Below w.heap.size w w' := head_Of n w h0 h1
theorem bytes_ok (n : Int) : Byte (byteI n 0) ∧ Byte (byteI n 1) ∧ Byte (byteI n 2) ∧ Byte (byteI n 3) ∧ Byte (byteI n 4) ∧ Byte (byteI n 5) := ⟨byteI_ok n 0, byteI_ok n 1, byteI_ok n 2, byteI_ok n 3, byteI_ok n 4, byteI_ok n 5⟩
/-- a value of six cells that is boxed. -/
theorem box6 (w : World) (v0 v1 v2 v3 v4 v5 : Value) (T : TypeId) : ∃ W0, W0 = w.alloc (.cells #[v0, v1, v2, v3, v4, v5] T) ∧ (W0.cell? ⟨w.heap.size, 0, none⟩ = some v0 ∧ W0.cell? ⟨w.heap.size, 1, none⟩ = some v1 ∧ W0.cell? ⟨w.heap.size, 2, none⟩ = some v2 ∧ W0.cell? ⟨w.heap.size, 3, none⟩ = some v3 ∧ W0.cell? ⟨w.heap.size, 4, none⟩ = some v4 ∧ W0.cell? ⟨w.heap.size, 5, none⟩ = some v5) ∧ Below w.heap.size w W0 := by
  refine ⟨_, rfl, ⟨?_, ?_, ?_, ?_, ?_, ?_⟩, (Below.refl _ _).alloc (Nat.le_refl _) _⟩ <;> simp
end Go.Proofs.YtcoclbcjbpjblaaDoor
