/-
  IpMasks: the mask of any length is as the reference has it, and the net of any length in which any address lies is in its form and has it; for every address and every length; no condition.
-/
import Derived.Test.YtjigednphjgboaaIpWalk
import Derived.Test.YtjigednphjgboaaRef01
import Derived.Test.YtjigednphjgboaaFrame
namespace Go.Proofs.Ytjigednphjgboaa
open Go.RowKit

set_option maxHeartbeats 800000 in
theorem law_IpMasks (a n : Int) (w : World) (h0 : 0 ≤ a) (h : a < 4294967296) :
    Calls Try.prog 4 #[.int .u32 a, .int .i64 n] w fun e w' => e = .returned (.bool true) ∧ Below w.heap.size w w' := by
  have b1 : maskI 8 = 4278190080 := by decide
  have k0 := keepI_lo a n h0
  have k1 : keepI a n < 4294967296 := by have := keepI_le a n; omega
  have r1 := right_keep a n
  have r2 := has_keep a n
  obtain ⟨c, hc⟩ : ∃ c, c = cl n := ⟨_, rfl⟩
  rw [← hc] at r1 r2
  have HC := Lib.hid hc
  have hc' : (n < 0 ∧ c = 0) ∨ (¬ n < 0 ∧ 32 < n ∧ c = 32) ∨ (¬ n < 0 ∧ ¬ 32 < n ∧ c = n) := by unfold cl at hc; omega
  clear hc
  rcases hc' with ⟨h1, rfl⟩ | ⟨h1, h2, rfl⟩ | ⟨h1, h2, rfl⟩
  all_goals
    go_enter Try.func4, Try.ntmps4
    go_wp2_with (first | (go_at_call 13; refine (ip_Mask _ _).mono ?_; rintro e w1 ⟨rfl, rfl⟩) | (go_at_call 14; refine (ref_Mask _ _).mono ?_; rintro e w1 ⟨rfl, hB⟩))
    refine (ip_Of _ _ _ h0 h).mono ?_
    rintro e w2 ⟨rfl, hb⟩
    have hB := below_on hB hb
    clear hb
    rw [← HC.out]
    go_wp2_with fail
    obtain ⟨W0, hW0, c0, c1, hb⟩ := box2 w2 (.int .u32 (keepI a _)) (.int .i64 _) 31
    rw [← hW0]; clear hW0
    have hB := below_on hB hb
    clear hb
    go_wp2_with (first | (go_at_call 16; refine (ref_Right _ _ _ k0 k1).mono ?_; rintro e w1 ⟨rfl, hb⟩; have c0 := cell_below c0 hb; have c1 := cell_below c1 hb; have hB := below_on hB hb; clear hb) | (go_at_call 17; refine (ref_Has _ _ _ _ k0 k1 h0 h).mono ?_; rintro e w1 ⟨rfl, hb⟩; have hB := below_on hB hb; clear hb))
    go_ret
    exact ⟨rfl, hB⟩

namespace ipMasks
open Go.ChangeShapes Go.WideShapes Go.ChangeAt Go.RowKit
set_option linter.unusedVariables false
set_option maxRecDepth 100000 in
theorem lifted (os : Os) (started : os.Started) (H : Type) (enc : TypeId × Value → H) :
    ReturnsInHanded {} Try.checked os 4 .any (Rows.ipMasksSpec.pre6 enc Try.prog Try.f4 Rows.ipMasksRow.domain false) (Rows.ipMasksSpec.post enc Try.prog Try.f4 false true false false) := by
  refine returnsInHanded_of_change (C := Try.checked) fr_own started (by kernel_rfl) Try.func4
    (ChangeSpec.witness6 (enc := enc) (C := Try.checked) false ⟨#[], #[.int .u32 0, .int .i64 0], []⟩ 8 (by kernel_rfl) (by kernel_rfl) (by kernel_rfl) (by kernel_rfl)) ?_
  intro W base args ds gs before hval0 hW hcnd _
  have hval : ∀ (j : Nat) t v, Try.f4.params[j]? = some t → args[j]? = some v → Value.okWide Try.prog W .any base t v := hval0
  have hW' := hW
  obtain ⟨p, q, hA0, hV, rfl, hfz, hnd⟩ := hW
  have hA : DataW.TrodAll enc Try.prog W 0 (fun _ => true) true Try.f4.params.toList args.toList ds p := hA0
  rw [Try.params4] at hA hval
  obtain ⟨v0, vs0, d0, ds0, p0, q0, hargs, rfl, rfl, h0, r0⟩ := trodAll_cons hA
  obtain ⟨v1, vs1, d1, ds1, p1, q1, rfl, rfl, rfl, h1, r1⟩ := trodAll_cons r0
  obtain ⟨rfl, rfl, rfl⟩ := trodAll_nil r1
  obtain rfl : args = #[v0, v1] := by cases args; simp_all
  obtain ⟨rfl, rfl⟩ := trodVars_none hV
  have lt0 : ∀ x ∈ p0, x.block < W.heap.size := by obtain ⟨m, hm⟩ := h0; exact DataW.trod_lt m _ _ _ hm
  have lt1 : ∀ x ∈ p1, x.block < W.heap.size := by obtain ⟨m, hm⟩ := h1; exact DataW.trod_lt m _ _ _ hm
  obtain ⟨a, rfl, ha0, ha1⟩ := open_u32 (hval 0 23 v0 rfl rfl)
  obtain ⟨n, rfl, hn0, hn1⟩ := open_i64 (hval 1 3 v1 rfl rfl)
  clear hA0 hval0
  refine (law_IpMasks a n W ha0 ha1).mono fun e W' ⟨he, bel⟩ => ?_
  subst he
  exact ⟨_, rfl, _, _, _, [], _, [], hW', trodAll_mk1 (shut_bool Try.underlying4 _), (trodAll_cons_mk (Below.trod fr_laidOut (by kernel_rfl) (of_decide_eq_true (by kernel_rfl)) h0 bel lt0) (trodAll_cons_mk (Below.trod fr_laidOut (by kernel_rfl) (of_decide_eq_true (by kernel_rfl)) h1 bel lt1) trodAll_mk0)), rfl, bel.frame _, fun h => by cases h⟩
theorem over : Rows.ipMasksRow.holds Try.pinned (OpenSpec.ofChange Rows.ipMasksSpec) :=
  OpenClaim.holds_of_wide 4 Try.f4 rfl rfl rfl rfl rfl rfl rfl ⟨rfl, rfl, rfl, rfl, rfl⟩ rfl rfl rfl rfl rfl (by kernel_rfl) Try.func4 (by kernel_rfl)
    (of_decide_eq_true (by kernel_rfl)) (by unfold Func.isWrapper; first | (rw [if_pos (by decide +kernel)]; kernel_rfl) | (rw [if_neg (by decide +kernel)]; exact ⟨rfl, rfl⟩))
    (fun os started H enc _ => lifted os started H enc)
/-- THE STATEMENT IpMasks. -/
theorem proved : Rows.IpMasksSaid := over
#print axioms proved
end ipMasks
end Go.Proofs.Ytjigednphjgboaa
