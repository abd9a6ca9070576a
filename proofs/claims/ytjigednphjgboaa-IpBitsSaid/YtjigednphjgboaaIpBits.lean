/-
  IpBits: any bit of any address is as the reference's list of bits has it, for every address and every place; no condition.
-/
import Derived.Test.YtjigednphjgboaaIpWalk
import Derived.Test.YtjigednphjgboaaRef01
import Derived.Test.YtjigednphjgboaaFrame
namespace Go.Proofs.Ytjigednphjgboaa
open Go.RowKit

set_option maxHeartbeats 400000 in
theorem law_IpBits (a n : Int) (w : World) (h0 : 0 ≤ a) (h : a < 4294967296) :
    Calls Try.prog 3 #[.int .u32 a, .int .i64 n] w fun e w' => e = .returned (.bool true) ∧ Below w.heap.size w w' := by
  have b1 : bitI 1 31 = 1 := by decide
  have b2 : bitI 2147483648 0 = 1 := by decide
  by_cases h1 : n < 0
  · have e : bitI a n = 0 := by unfold bitI; rw [if_neg (by omega)]
    go_enter Try.func3, Try.ntmps3
    go_wp2_with (go_at_call 11; refine (ip_Bit _ _ _ (by omega) (by omega)).mono ?_; rintro e w1 ⟨rfl, rfl⟩)
    go_ret
    exact ⟨rfl, below_same _⟩
  · by_cases h2 : n ≤ 31
    · obtain ⟨k, rfl⟩ := Int.eq_ofNat_of_zero_le (a := n) (by omega)
      go_enter Try.func3, Try.ntmps3
      go_wp2_with (first | (go_at_call 11; refine (ip_Bit _ _ _ (by omega) (by omega)).mono ?_; rintro e w1 ⟨rfl, rfl⟩) | (go_at_call 12; refine (ref_Bits' _ _ h0 h).mono ?_; rintro e w1 ⟨⟨g, cap, rfl, hcap, hg, hcs⟩, hb⟩; have hck := hcs k (by omega); clear hcs))
      go_ret
      exact ⟨rfl, hb⟩
    · have e : bitI a n = 0 := by unfold bitI; rw [if_neg (by omega)]
      go_enter Try.func3, Try.ntmps3
      go_wp2_with (go_at_call 11; refine (ip_Bit _ _ _ (by omega) (by omega)).mono ?_; rintro e w1 ⟨rfl, rfl⟩)
      go_ret
      exact ⟨rfl, below_same _⟩

namespace ipBits
open Go.ChangeShapes Go.WideShapes Go.ChangeAt Go.RowKit
set_option linter.unusedVariables false
set_option maxRecDepth 100000 in
theorem lifted (os : Os) (started : os.Started) (H : Type) (enc : TypeId × Value → H) :
    ReturnsInHanded {} Try.checked os 3 .any (Rows.ipBitsSpec.pre6 enc Try.prog Try.f3 Rows.ipBitsRow.domain false) (Rows.ipBitsSpec.post enc Try.prog Try.f3 false true false false) := by
  refine returnsInHanded_of_change (C := Try.checked) fr_own started (by kernel_rfl) Try.func3
    (ChangeSpec.witness6 (enc := enc) (C := Try.checked) false ⟨#[], #[.int .u32 0, .int .i64 0], []⟩ 8 (by kernel_rfl) (by kernel_rfl) (by kernel_rfl) (by kernel_rfl)) ?_
  intro W base args ds gs before hval0 hW hcnd _
  have hval : ∀ (j : Nat) t v, Try.f3.params[j]? = some t → args[j]? = some v → Value.okWide Try.prog W .any base t v := hval0
  have hW' := hW
  obtain ⟨p, q, hA0, hV, rfl, hfz, hnd⟩ := hW
  have hA : DataW.TrodAll enc Try.prog W 0 (fun _ => true) true Try.f3.params.toList args.toList ds p := hA0
  rw [Try.params3] at hA hval
  obtain ⟨v0, vs0, d0, ds0, p0, q0, hargs, rfl, rfl, h0, r0⟩ := trodAll_cons hA
  obtain ⟨v1, vs1, d1, ds1, p1, q1, rfl, rfl, rfl, h1, r1⟩ := trodAll_cons r0
  obtain ⟨rfl, rfl, rfl⟩ := trodAll_nil r1
  obtain rfl : args = #[v0, v1] := by cases args; simp_all
  obtain ⟨rfl, rfl⟩ := trodVars_none hV
  have lt0 : ∀ x ∈ p0, x.block < W.heap.size := by obtain ⟨m, hm⟩ := h0; exact DataW.trod_lt m _ _ _ hm
  have lt1 : ∀ x ∈ p1, x.block < W.heap.size := by obtain ⟨m, hm⟩ := h1; exact DataW.trod_lt m _ _ _ hm
  obtain ⟨a, rfl, ha0, ha1⟩ := open_u32 (hval 0 23 v0 rfl rfl)
  obtain ⟨n, rfl, hn0, hn1⟩ := open_i64 (hval 1 3 v1 rfl rfl)
  clear hA0 hval0
  refine (law_IpBits a n W ha0 ha1).mono fun e W' ⟨he, bel⟩ => ?_
  subst he
  exact ⟨_, rfl, _, _, _, [], _, [], hW', trodAll_mk1 (shut_bool Try.underlying4 _), (trodAll_cons_mk (Below.trod fr_laidOut (by kernel_rfl) (of_decide_eq_true (by kernel_rfl)) h0 bel lt0) (trodAll_cons_mk (Below.trod fr_laidOut (by kernel_rfl) (of_decide_eq_true (by kernel_rfl)) h1 bel lt1) trodAll_mk0)), rfl, bel.frame _, fun h => by cases h⟩
theorem over : Rows.ipBitsRow.holds Try.pinned (OpenSpec.ofChange Rows.ipBitsSpec) :=
  OpenClaim.holds_of_wide 3 Try.f3 rfl rfl rfl rfl rfl rfl rfl ⟨rfl, rfl, rfl, rfl, rfl⟩ rfl rfl rfl rfl rfl (by kernel_rfl) Try.func3 (by kernel_rfl)
    (of_decide_eq_true (by kernel_rfl)) (by unfold Func.isWrapper; first | (rw [if_pos (by decide +kernel)]; kernel_rfl) | (rw [if_neg (by decide +kernel)]; exact ⟨rfl, rfl⟩))
    (fun os started H enc _ => lifted os started H enc)
/-- THE STATEMENT IpBits. -/
theorem proved : Rows.IpBitsSaid := over
#print axioms proved
end ipBits
end Go.Proofs.Ytjigednphjgboaa
