/-
  ExportNumbers: communities are two numbers of 16 bits; for every two numbers; no condition.
-/
import Derived.Test.YtbodkbaafaamlaaRg
import Derived.Test.YtbodkbaafaamlaaBits
import Derived.Test.YtbodkbaafaamlaaFrame
namespace Go.Proofs.Ytbodkbaafaamlaa
open Go.RowKit

/-- the community of two numbers. -/
def commI (h l : Int) : Int := h % 65536 * 65536 + l % 65536
set_option maxHeartbeats 400000 in
theorem export_Of (h l : Int) (w : World) :
    Calls Try.prog 9 #[.int .i64 h, .int .i64 l] w fun e w' => e = .returned (.int .i64 (commI h l)) ∧ w = w' := by
  have e1 := and_65535 h
  have e2 := and_65535 l
  have e3 := or_side (h % 65536) (l % 65536) (by omega) (by omega) (by omega) (by omega)
  have h1 : 0 ≤ h % 65536 := by omega
  have h2 : h % 65536 < 65536 := by omega
  go_enter Try.func9, Try.ntmps9
  go_wp2
  go_ret
  exact ⟨ret_int (by rfl), rfl⟩
set_option maxHeartbeats 400000 in
theorem law_ExportNumbers (h l : Int) (w : World) :
    Calls Try.prog 3 #[.int .i64 h, .int .i64 l] w fun e w' => e = .returned (.bool true) ∧ Below w.heap.size w w' := by
  have e1 := and_65535 h
  have e2 := and_65535 l
  have b1 : commI 1 2 = 65538 := by decide
  have h1 : 0 ≤ commI h l := by unfold commI; omega
  have h2 : commI h l < 4294967296 := by unfold commI; omega
  have h3 : (commI h l / 65536 == h % 65536) = true := by rw [beq_iff_eq]; unfold commI; omega
  have h4 : (commI h l % 65536 == l % 65536) = true := by rw [beq_iff_eq]; unfold commI; omega
  go_enter Try.func3, Try.ntmps3
  go_wp2_with (go_at_call 9; refine (export_Of _ _ _).mono ?_; rintro e w1 ⟨rfl, rfl⟩)
  go_ret
  exact ⟨ret_bool (by simp [*]), below_same _⟩

namespace exportNumbers
open Go.ChangeShapes Go.WideShapes Go.ChangeAt Go.RowKit
set_option linter.unusedVariables false
set_option maxRecDepth 100000 in
theorem lifted (os : Os) (started : os.Started) (H : Type) (enc : TypeId × Value → H) :
    ReturnsInHanded {} Try.checked os 3 .any (Rows.exportNumbersSpec.pre6 enc Try.prog Try.f3 Rows.exportNumbersRow.domain false) (Rows.exportNumbersSpec.post enc Try.prog Try.f3 false true false false) := by
  refine returnsInHanded_of_change (C := Try.checked) fr_own started (by kernel_rfl) Try.func3
    (ChangeSpec.witness6 (enc := enc) (C := Try.checked) false ⟨#[], #[.int .i64 0, .int .i64 0], []⟩ 8 (by kernel_rfl) (by kernel_rfl) (by kernel_rfl) (by kernel_rfl)) ?_
  intro W base args ds gs before hval0 hW hcnd _
  have hval : ∀ (j : Nat) t v, Try.f3.params[j]? = some t → args[j]? = some v → Value.okWide Try.prog W .any base t v := hval0
  have hW' := hW
  obtain ⟨p, q, hA0, hV, rfl, hfz, hnd⟩ := hW
  have hA : DataW.TrodAll enc Try.prog W 0 (fun _ => true) true Try.f3.params.toList args.toList ds p := hA0
  rw [Try.params3] at hA hval
  obtain ⟨v0, vs0, d0, ds0, p0, q0, hargs, rfl, rfl, h0, r0⟩ := trodAll_cons hA
  obtain ⟨v1, vs1, d1, ds1, p1, q1, rfl, rfl, rfl, h1, r1⟩ := trodAll_cons r0
  obtain ⟨rfl, rfl, rfl⟩ := trodAll_nil r1
  obtain rfl : args = #[v0, v1] := by cases args; simp_all
  obtain ⟨rfl, rfl⟩ := trodVars_none hV
  have lt0 : ∀ x ∈ p0, x.block < W.heap.size := by obtain ⟨m, hm⟩ := h0; exact DataW.trod_lt m _ _ _ hm
  have lt1 : ∀ x ∈ p1, x.block < W.heap.size := by obtain ⟨m, hm⟩ := h1; exact DataW.trod_lt m _ _ _ hm
  obtain ⟨h, rfl, hh0, hh1⟩ := open_i64 (hval 0 3 v0 rfl rfl)
  obtain ⟨l, rfl, hl0, hl1⟩ := open_i64 (hval 1 3 v1 rfl rfl)
  clear hA0 hval0
  refine (law_ExportNumbers h l W).mono fun e W' ⟨he, bel⟩ => ?_
  subst he
  exact ⟨_, rfl, _, _, _, [], _, [], hW', trodAll_mk1 (shut_bool Try.underlying4 _), (trodAll_cons_mk (Below.trod fr_laidOut (by kernel_rfl) (of_decide_eq_true (by kernel_rfl)) h0 bel lt0) (trodAll_cons_mk (Below.trod fr_laidOut (by kernel_rfl) (of_decide_eq_true (by kernel_rfl)) h1 bel lt1) trodAll_mk0)), rfl, bel.frame _, fun h => by cases h⟩
theorem over : Rows.exportNumbersRow.holds Try.pinned (OpenSpec.ofChange Rows.exportNumbersSpec) :=
  OpenClaim.holds_of_wide 3 Try.f3 rfl rfl rfl rfl rfl rfl rfl ⟨rfl, rfl, rfl, rfl, rfl⟩ rfl rfl rfl rfl rfl (by kernel_rfl) Try.func3 (by kernel_rfl)
    (of_decide_eq_true (by kernel_rfl)) (by unfold Func.isWrapper; first | (rw [if_pos (by decide +kernel)]; kernel_rfl) | (rw [if_neg (by decide +kernel)]; exact ⟨rfl, rfl⟩))
    (fun os started H enc _ => lifted os started H enc)
/-- THE STATEMENT ExportNumbers. -/
theorem proved : Rows.ExportNumbersSaid := over
#print axioms proved
end exportNumbers
end Go.Proofs.Ytbodkbaafaamlaa
