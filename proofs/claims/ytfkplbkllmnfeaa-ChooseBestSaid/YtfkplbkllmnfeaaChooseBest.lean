/-
  ChooseBest: of any routes the best one is the one that the reference says, step by step; for all candidates; no condition.
-/
import Derived.Test.YtfkplbkllmnfeaaChG
namespace Go.Proofs.Ytfkplbkllmnfeaa
open Go.RowKit

set_option maxHeartbeats 3200000 in
set_option maxRecDepth 100000 in
theorem law_ChooseBest (v : Value) (xs : List Cd) (w : World) (h : CdsAt w v xs) : Calls Try.prog 4 #[v] w fun e w' => e = .returned (.bool true) ∧ Below w.heap.size w w' := by
  have H := Lib.hid h
  have RI := Lib.hid (fun W h => law_right v xs W h)
  clear h
  cases hr : rightL xs
  · rw [hr] at RI
    clear hr
    go_enter Try.func4, Try.ntmps4
    go_wp2_with fail
    refine (law_head _).mono ?_
    rintro e w1 ⟨rfl, hb1⟩
    have H1 := Lib.hid (H.out.below hb1)
    go_wp2_with fail
    refine (RI.out _ H1.out).mono ?_
    rintro e w2 ⟨rfl, hb2⟩
    go_wp2_with fail
    go_ret
    exact ⟨rfl, below_on hb1 hb2⟩
  · rw [hr] at RI
    obtain ⟨h12, hR⟩ := right_of hr
    have RNG := cds_rng H.out
    have hn : xs.length ≤ 100000 := by omega
    have hh : ∀ c ∈ xs, hopsN c.a.path ≤ 4611686018427387904 := fun c hc => by have := (hR c hc).hops; omega
    have BE := Lib.hid (fun W h => ch_Best v xs W h hn hh)
    have PL := Lib.hid (fun W h => law_plains v xs W h hn hh)
    have hok : ∀ r ∈ xs.map rtOf, RtOk r := by
      intro r hr
      obtain ⟨c, hc, rfl⟩ := List.mem_map.1 hr
      exact rt_ok (hR c hc) (RNG c hc)
    have RB := Lib.hid (fun u W h => ref_Best u (xs.map rtOf) W h (by simpa using hn) hok rb6_ne)
    have EQ : Hid (rbestI (xs.map rtOf) = bestI xs) := Lib.hid (by
      cases xs with
      | nil => rfl
      | cons c xs => exact ref_best _ (by simp) (fun d hd => (hR d hd).med))
    rw [EQ.out] at RB
    clear hr h12 hR RNG hn hh hok EQ
    go_enter Try.func4, Try.ntmps4
    go_wp2_with fail
    refine (law_head _).mono ?_
    rintro e w1 ⟨rfl, hb1⟩
    have H1 := Lib.hid (H.out.below hb1)
    go_wp2_with fail
    refine (RI.out _ H1.out).mono ?_
    rintro e w2 ⟨rfl, hb2⟩
    have H2 := Lib.hid (H1.out.below hb2)
    have B2 := Lib.hid (below_on hb1 hb2)
    clear hb1 hb2 H1 RI
    go_wp2_with fail
    refine (BE.out _ H2.out).mono ?_
    rintro e w3 ⟨rfl, hb3⟩
    have H3 := Lib.hid (H2.out.below hb3)
    have B3 := Lib.hid (below_on B2.out hb3)
    clear hb3 H2 B2 BE
    go_wp2_with fail
    refine (PL.out _ H3.out).mono ?_
    rintro e w4 ⟨u, rfl, P4, hb4⟩
    have P4 := Lib.hid P4
    have B4 := Lib.hid (below_on B3.out hb4)
    clear hb4 H3 B3 PL
    go_wp2_with fail
    refine (RB.out _ _ P4.out).mono ?_
    rintro e w5 ⟨rfl, hb5⟩
    have B5 := Lib.hid (below_on B4.out hb5)
    clear hb5 P4 B4 RB
    generalize bestI xs = q
    go_wp2_with fail
    go_ret
    exact ⟨ret_bool (by simp), B5.out⟩
namespace chooseBest
open Go.ChangeShapes Go.WideShapes Go.ChangeAt Go.RowKit
set_option linter.unusedVariables false
set_option maxRecDepth 100000 in
theorem lifted (os : Os) (started : os.Started) (H : Type) (enc : TypeId × Value → H) :
    ReturnsInHanded {} Try.checked os 4 .any (Rows.chooseBestSpec.pre6 enc Try.prog Try.f4 Rows.chooseBestRow.domain false) (Rows.chooseBestSpec.post enc Try.prog Try.f4 false true false false) := by
  refine returnsInHanded_of_change (C := Try.checked) fr_own started (by kernel_rfl) Try.func4
    (ChangeSpec.witness6 (enc := enc) (C := Try.checked) false ⟨#[], #[.slice none 0 0], []⟩ 8 (by kernel_rfl) (by kernel_rfl) (by kernel_rfl) (by kernel_rfl)) ?_
  intro W base args ds gs before hval0 hW hcnd _
  have hval : ∀ (j : Nat) t v, Try.f4.params[j]? = some t → args[j]? = some v → Value.okWide Try.prog W .any base t v := hval0
  have hW' := hW
  obtain ⟨p, q, hA0, hV, rfl, hfz, hnd⟩ := hW
  have hA : DataW.TrodAll enc Try.prog W 0 (fun _ => true) true Try.f4.params.toList args.toList ds p := hA0
  rw [Try.params4] at hA hval
  obtain ⟨v0, vs0, d0, ds0, p0, q0, hargs, rfl, rfl, h0, r0⟩ := trodAll_cons hA
  obtain ⟨rfl, rfl, rfl⟩ := trodAll_nil r0
  obtain rfl : args = #[v0] := by cases args; simp_all
  obtain ⟨rfl, rfl⟩ := trodVars_none hV
  have lt0 : ∀ x ∈ p0, x.block < W.heap.size := by obtain ⟨m, hm⟩ := h0; exact DataW.trod_lt m _ _ _ hm
  obtain ⟨xs, hS⟩ := open_cands (hval 0 40 v0 rfl rfl) h0
  clear hA0 hval0
  refine (law_ChooseBest _ xs W hS).mono fun e W' ⟨he, bel⟩ => ?_
  subst he
  exact ⟨_, rfl, _, _, _, [], _, [], hW', trodAll_mk1 (shut_bool Try.underlying4 _), (trodAll_cons_mk (Below.trod fr_laidOut (by kernel_rfl) (of_decide_eq_true (by kernel_rfl)) h0 bel lt0) trodAll_mk0), rfl, bel.frame _, fun h => by cases h⟩
theorem over : Rows.chooseBestRow.holds Try.pinned (OpenSpec.ofChange Rows.chooseBestSpec) :=
  OpenClaim.holds_of_wide 4 Try.f4 rfl rfl rfl rfl rfl rfl rfl ⟨rfl, rfl, rfl, rfl, rfl⟩ rfl rfl rfl rfl rfl (by kernel_rfl) Try.func4 (by kernel_rfl)
    (of_decide_eq_true (by kernel_rfl)) (by unfold Func.isWrapper; first | (rw [if_pos (by decide +kernel)]; kernel_rfl) | (rw [if_neg (by decide +kernel)]; exact ⟨rfl, rfl⟩))
    (fun os started H enc _ => lifted os started H enc)
/-- THE STATEMENT ChooseBest. -/
theorem proved : Rows.ChooseBestSaid := over
#print axioms proved
end chooseBest
end Go.Proofs.Ytfkplbkllmnfeaa
