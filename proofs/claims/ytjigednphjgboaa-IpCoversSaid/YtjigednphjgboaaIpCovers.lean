/-
  IpCovers: which of any two nets covers the other, and whether they meet, as the reference has it; for every two nets; no condition.
-/
import Derived.Test.YtjigednphjgboaaIpWalk
import Derived.Test.YtjigednphjgboaaRef01
import Derived.Test.YtjigednphjgboaaFrame
namespace Go.Proofs.Ytjigednphjgboaa
open Go.RowKit

set_option maxHeartbeats 1600000 in
theorem law_IpCovers (a n b m : Int) (w : World) (h0 : 0 ≤ a) (h : a < 4294967296) (k0 : 0 ≤ b) (k1 : b < 4294967296) :
    Calls Try.prog 6 #[.agg #[.int .u32 a, .int .i64 n], .agg #[.int .u32 b, .int .i64 m]] w fun e w' => e = .returned (.bool true) ∧ Below w.heap.size w w' := by
  have b1 : coversB 167772160 8 167837696 16 = true := by decide
  cases hR : coversB a n b m <;> cases hR' : coversB b m a n
  all_goals
    go_enter Try.func6, Try.ntmps6
    go_wp2_with fail
    obtain ⟨W0, hW0, c0, c1, d0, d1, hB⟩ := box22 w (.int .u32 a) (.int .i64 n) (.int .u32 b) (.int .i64 m) 31 31
    rw [← hW0]; clear hW0
    go_wp2_with (first | (go_at_call 20; refine (ip_Covers _ _ _ _ _ (by omega) (by omega) (by omega) (by omega)).mono ?_; rintro e w1 ⟨rfl, hb⟩; have c0 := cell_below c0 hb; have c1 := cell_below c1 hb; have d0 := cell_below d0 hb; have d1 := cell_below d1 hb; have hB := below_on hB hb; clear hb) | (go_at_call 22; refine (ip_Meets _ _ _ _ _ (by omega) (by omega) (by omega) (by omega)).mono ?_; rintro e w1 ⟨rfl, hb⟩; have c0 := cell_below c0 hb; have c1 := cell_below c1 hb; have d0 := cell_below d0 hb; have d1 := cell_below d1 hb; have hB := below_on hB hb; clear hb) | (go_at_call 21; refine (ref_Covers _ _ _ _ _ (by omega) (by omega) (by omega) (by omega)).mono ?_; rintro e w1 ⟨rfl, hb⟩; have c0 := cell_below c0 hb; have c1 := cell_below c1 hb; have d0 := cell_below d0 hb; have d1 := cell_below d1 hb; have hB := below_on hB hb; clear hb))
    go_ret
    exact ⟨rfl, hB⟩

namespace ipCovers
open Go.ChangeShapes Go.WideShapes Go.ChangeAt Go.RowKit
set_option linter.unusedVariables false
set_option maxRecDepth 100000 in
theorem lifted (os : Os) (started : os.Started) (H : Type) (enc : TypeId × Value → H) :
    ReturnsInHanded {} Try.checked os 6 .any (Rows.ipCoversSpec.pre6 enc Try.prog Try.f6 Rows.ipCoversRow.domain false) (Rows.ipCoversSpec.post enc Try.prog Try.f6 false true false false) := by
  refine returnsInHanded_of_change (C := Try.checked) fr_own started (by kernel_rfl) Try.func6
    (ChangeSpec.witness6 (enc := enc) (C := Try.checked) false ⟨#[], #[.agg #[.int .u32 0, .int .i64 0], .agg #[.int .u32 0, .int .i64 0]], []⟩ 8 (by kernel_rfl) (by kernel_rfl) (by kernel_rfl) (by kernel_rfl)) ?_
  intro W base args ds gs before hval0 hW hcnd _
  have hval : ∀ (j : Nat) t v, Try.f6.params[j]? = some t → args[j]? = some v → Value.okWide Try.prog W .any base t v := hval0
  have hW' := hW
  obtain ⟨p, q, hA0, hV, rfl, hfz, hnd⟩ := hW
  have hA : DataW.TrodAll enc Try.prog W 0 (fun _ => true) true Try.f6.params.toList args.toList ds p := hA0
  rw [Try.params6] at hA hval
  obtain ⟨v0, vs0, d0, ds0, p0, q0, hargs, rfl, rfl, h0, r0⟩ := trodAll_cons hA
  obtain ⟨v1, vs1, d1, ds1, p1, q1, rfl, rfl, rfl, h1, r1⟩ := trodAll_cons r0
  obtain ⟨rfl, rfl, rfl⟩ := trodAll_nil r1
  obtain rfl : args = #[v0, v1] := by cases args; simp_all
  obtain ⟨rfl, rfl⟩ := trodVars_none hV
  have lt0 : ∀ x ∈ p0, x.block < W.heap.size := by obtain ⟨m, hm⟩ := h0; exact DataW.trod_lt m _ _ _ hm
  have lt1 : ∀ x ∈ p1, x.block < W.heap.size := by obtain ⟨m, hm⟩ := h1; exact DataW.trod_lt m _ _ _ hm
  obtain ⟨a, n, rfl, ha0, ha1, hn0, hn1⟩ := open_pref (hval 0 31 v0 rfl rfl)
  obtain ⟨b, m, rfl, hb0, hb1, hm0, hm1⟩ := open_pref (hval 1 31 v1 rfl rfl)
  clear hA0 hval0
  refine (law_IpCovers a n b m W ha0 ha1 hb0 hb1).mono fun e W' ⟨he, bel⟩ => ?_
  subst he
  exact ⟨_, rfl, _, _, _, [], _, [], hW', trodAll_mk1 (shut_bool Try.underlying4 _), (trodAll_cons_mk (Below.trod fr_laidOut (by kernel_rfl) (of_decide_eq_true (by kernel_rfl)) h0 bel lt0) (trodAll_cons_mk (Below.trod fr_laidOut (by kernel_rfl) (of_decide_eq_true (by kernel_rfl)) h1 bel lt1) trodAll_mk0)), rfl, bel.frame _, fun h => by cases h⟩
theorem over : Rows.ipCoversRow.holds Try.pinned (OpenSpec.ofChange Rows.ipCoversSpec) :=
  OpenClaim.holds_of_wide 6 Try.f6 rfl rfl rfl rfl rfl rfl rfl ⟨rfl, rfl, rfl, rfl, rfl⟩ rfl rfl rfl rfl rfl (by kernel_rfl) Try.func6 (by kernel_rfl)
    (of_decide_eq_true (by kernel_rfl)) (by unfold Func.isWrapper; first | (rw [if_pos (by decide +kernel)]; kernel_rfl) | (rw [if_neg (by decide +kernel)]; exact ⟨rfl, rfl⟩))
    (fun os started H enc _ => lifted os started H enc)
/-- THE STATEMENT IpCovers. -/
theorem proved : Rows.IpCoversSaid := over
#print axioms proved
end ipCovers
end Go.Proofs.Ytjigednphjgboaa
