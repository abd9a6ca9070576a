/-
  TagsFull: so many keys have tags at once, and no more; a sweep makes room for as many as no prefix has; for every two numbers; no condition.
-/
import Derived.Test.YtcoclbcjbpjblaaTagFullL
import Derived.Test.YtcoclbcjbpjblaaBits
namespace Go.Proofs.Ytcoclbcjbpjblaa
open Go.RowKit
set_option maxRecDepth 100000 in
set_option maxHeartbeats 3200000 in
theorem law_TagsFull (most give : Int) (w : World) : Calls Try.prog 3 #[.int .i64 most, .int .i64 give] w fun e w' => e = .returned (.bool true) ∧ Below w.heap.size w w' := by
  have e1 := and_63 most
  have e2 := and_63 give
  obtain ⟨m, hm⟩ : ∃ m : Nat, most % 64 = (m : Int) := ⟨(most % 64).toNat, by omega⟩
  obtain ⟨q, hq⟩ : ∃ q : Nat, give % 64 = (q : Int) := ⟨(give % 64).toNat, by omega⟩
  have hm63 : m ≤ 63 := by omega
  have hq63 : q ≤ 63 := by omega
  rw [hm] at e1
  rw [hq] at e2
  clear hm hq
  go_enter Try.func3, Try.ntmps3
  go_wp2_with fail
  refine (law_head _).mono ?_
  rintro e w0 ⟨rfl, hB0⟩
  go_wp2_with fail
  refine (pool_New_ok (1 + (m : Int)) (by omega) (by omega) w0).mono ?_
  rintro e w1 ⟨g, a, b, rfl, hp, hg, ha, hb, hB⟩
  have H := Lib.hid (⟨hp, below_on hB0 hB, Nat.le_trans hB0.size hg, Nat.le_trans hB0.size ha, Nat.le_trans hB0.size hb⟩ : Held w w1 g a b (fP m 0))
  clear hp hB hg ha hb hB0
  go_wp2_with fail
  go_loopw [7] (fun t wr => ∃ k : Nat, k ≤ m + 1 ∧ t = .int .i64 k ∧ Held w wr g a b (fP m k)) (fun t _ => m + 1 - (intOf t).toNat)
  case atStart => exact ⟨0, by omega, rfl, H.out⟩
  case round =>
    obtain ⟨k, hk, rfl, hH⟩ := hrel
    clear H
    have H := Lib.hid hH
    clear hH
    have hw : IntKind.i64.wrap ((k : Int) + 1) = ((k + 1 : Nat) : Int) := by rw [IntWalk.i64_in _ (by omega)]; omega
    rcases Nat.lt_or_ge k (m + 1) with hlt | hge
    · have hlt' : (k : Int) < 1 + (m : Int) := by omega
      go_wp2_with fail
      refine (pool_Take_new H.out.at_ (tk k) (ky_ok _ _ _) (by rw [(fP_len m k).1]; unfold maxLen; omega) (by rw [(fP_len m k).2]; unfold maxLen; omega) (m + 1) (by unfold fP; simp only; omega) (by omega) (fP_none m k) k (by omega) (fP_free m k) (fP_all m k)).mono ?_
      rintro e w2 ⟨rfl, hp, hkp⟩
      rw [fP_take] at hp
      have H2 := Lib.hid (H.out.step hp hkp)
      clear hp hkp H
      go_wp2_with fail
      exact ⟨⟨k + 1, by omega, by simp, H2.out⟩, by simp [intOf]; omega⟩
    · obtain rfl : k = m + 1 := by omega
      have hge' : ¬ (((m + 1 : Nat) : Int) < 1 + (m : Int)) := by omega
      go_wp2_with fail
      have ek : ((1 + (m : Int), 0, 0) : Ky) = tk (m + 1) := by unfold tk; congr 1; omega
      refine (pool_Take_full H.out.at_ (1 + (m : Int), 0, 0) (ky_ok _ _ _) (m + 1) (by unfold fP; simp only; omega) (by omega) (by rw [ek]; exact fP_none m (m + 1)) (fP_all m (m + 1))).mono ?_
      rintro e w2 ⟨rfl, hp, hkp⟩
      have H2 := Lib.hid (H.out.step hp hkp)
      clear hp hkp H ek hge' hge hk hw
      go_wp2_with fail
      obtain ⟨G, hG⟩ : ∃ G : Nat, (q : Int) % (1 + (m : Int) + 1) = (G : Int) := ⟨((q : Int) % (1 + (m : Int) + 1)).toNat, by have := Int.emod_nonneg (q : Int) (show 1 + (m : Int) + 1 ≠ 0 by omega); omega⟩
      have hGm : G ≤ m + 1 := by have := Int.emod_lt_of_pos (q : Int) (show 0 < 1 + (m : Int) + 1 by omega); omega
      rw [hG]
      clear hG
      go_loopw [12] (fun t wr => ∃ k : Nat, k ≤ G ∧ t = .int .i64 k ∧ Held w wr g a b (fQ m k)) (fun t _ => G - (intOf t).toNat)
      case atStart => exact ⟨0, by omega, rfl, H2.out⟩
      case round =>
        obtain ⟨k, hk, rfl, hH⟩ := hrel
        clear H2
        have H := Lib.hid hH
        clear hH
        have hw : IntKind.i64.wrap ((k : Int) + 1) = ((k + 1 : Nat) : Int) := by rw [IntWalk.i64_in _ (by omega)]; omega
        rcases Nat.lt_or_ge k G with hlt | hge
        · have hlt' : (k : Int) < (G : Int) := by omega
          go_wp2_with fail
          refine (pool_Give_yes H.out.at_ k (by unfold I64; omega) (tk k) 1 (fQ_get m k (by omega)) (by omega) (by omega) (by rw [fQ_len]; unfold maxLen; omega)).mono ?_
          rintro e w2 ⟨rfl, hp, hkp⟩
          rw [fQ_give m k (by omega)] at hp
          have H2 := Lib.hid (H.out.step hp hkp)
          clear hp hkp H
          go_wp2_with fail
          exact ⟨⟨k + 1, by omega, by simp, H2.out⟩, by simp [intOf]; omega⟩
        · obtain rfl : k = G := by omega
          clear hge hk
          have hge' : ¬ ((k : Int) < (k : Int)) := by omega
          go_wp2_with fail
          refine (pool_Len H.out.at_).mono ?_
          rintro e w3 ⟨rfl, rfl⟩
          rw [fQ_len]
          have e3 : (((m + 1 : Nat) : Int) != 1 + (m : Int)) = false := by rw [bne_eq_false_iff_eq]; omega
          have e3' : (((m + 1 : Nat) : Int) == 1 + (m : Int)) = true := by rw [beq_iff_eq]; omega
          go_wp2_with fail
          refine (pool_Sweep H.out.at_ (by rw [fQ_len]; omega) (fQ_ok m k hm63)).mono ?_
          rintro e w3 ⟨rfl, hp, hkp⟩
          rw [fR_sweep] at hp
          have H2 := Lib.hid (H.out.step hp hkp)
          rw [sweep_n m k hGm]
          clear hp hkp H
          go_wp2_with fail
          refine (pool_Len H2.out.at_).mono ?_
          rintro e w4 ⟨rfl, rfl⟩
          rw [(fR_len m k 0).1, Nat.add_zero]
          have e4 : (((m + 1 - k : Nat) : Int) != 1 + (m : Int) - (k : Int)) = false := by rw [bne_eq_false_iff_eq]; omega
          go_wp2_with fail
          clear e3 e3' e4 hw hge'
          go_loopw [13] (fun t wr => ∃ j : Nat, j ≤ k ∧ t = .int .i64 j ∧ Held w wr g a b (fR m k j)) (fun t _ => k - (intOf t).toNat)
          case atStart => exact ⟨0, by omega, rfl, H2.out⟩
          case round =>
            obtain ⟨j, hj, rfl, hH⟩ := hrel
            clear H2
            have H := Lib.hid hH
            clear hH
            have hw : IntKind.i64.wrap ((j : Int) + 1) = ((j + 1 : Nat) : Int) := by rw [IntWalk.i64_in _ (by omega)]; omega
            have hw2 : IntKind.i64.wrap (1 + (j : Int)) = 1 + (j : Int) := IntWalk.i64_in _ (by omega)
            rcases Nat.lt_or_ge j k with hlt | hge
            · have hlt' : (j : Int) < (k : Int) := by omega
              go_wp2_with fail
              refine (pool_Take_new H.out.at_ (tb j) (ky_ok _ _ _) (by rw [(fR_len m k j).2]; unfold maxLen; omega) (by rw [(fR_len m k j).1]; unfold maxLen; omega) (m + 1) (by unfold fR; simp only; omega) (by omega) (fR_none m k j) j (by omega) (fR_free m k j hlt) (fR_all m k j)).mono ?_
              rintro e w2 ⟨rfl, hp, hkp⟩
              rw [fR_take m k j hlt] at hp
              have H2 := Lib.hid (H.out.step hp hkp)
              clear hp hkp H
              go_wp2_with fail
              exact ⟨⟨j + 1, by omega, by simp, H2.out⟩, by simp [intOf]; omega⟩
            · obtain rfl : j = k := by omega
              have hge' : ¬ ((j : Int) < (j : Int)) := by omega
              go_wp2_with fail
              refine (pool_Len H.out.at_).mono ?_
              rintro e w5 ⟨rfl, rfl⟩
              rw [(fR_len m j j).1]
              have e5 : (((m + 1 - j + j : Nat) : Int) == 1 + (m : Int)) = true := by rw [beq_iff_eq]; omega
              go_wp2_with fail
              go_ret
              exact ⟨rfl, H.out.below⟩
namespace tagsFull
open Go.ChangeShapes Go.WideShapes Go.ChangeAt Go.RowKit
set_option linter.unusedVariables false
set_option maxRecDepth 100000 in
theorem lifted (os : Os) (started : os.Started) (H : Type) (enc : TypeId × Value → H) :
    ReturnsInHanded {} Try.checked os 3 .any (Rows.tagsFullSpec.pre6 enc Try.prog Try.f3 Rows.tagsFullRow.domain false) (Rows.tagsFullSpec.post enc Try.prog Try.f3 false true false false) := by
  refine returnsInHanded_of_change (C := Try.checked) fr_own started (by kernel_rfl) Try.func3
    (ChangeSpec.witness6 (enc := enc) (C := Try.checked) false ⟨#[], #[.int .i64 0, .int .i64 0], []⟩ 8 (by kernel_rfl) (by kernel_rfl) (by kernel_rfl) (by kernel_rfl)) ?_
  intro W base args ds gs before hval0 hW hcnd _
  have hval : ∀ (j : Nat) t v, Try.f3.params[j]? = some t → args[j]? = some v → Value.okWide Try.prog W .any base t v := hval0
  have hW' := hW
  obtain ⟨p, q, hA0, hV, rfl, hfz, hnd⟩ := hW
  have hA : DataW.TrodAll enc Try.prog W 0 (fun _ => true) true Try.f3.params.toList args.toList ds p := hA0
  rw [Try.params3] at hA hval
  obtain ⟨v0, vs0, d0, ds0, p0, q0, hargs, rfl, rfl, h0, r0⟩ := trodAll_cons hA
  obtain ⟨v1, vs1, d1, ds1, p1, q1, rfl, rfl, rfl, h1, r1⟩ := trodAll_cons r0
  obtain ⟨rfl, rfl, rfl⟩ := trodAll_nil r1
  obtain rfl : args = #[v0, v1] := by cases args; simp_all
  obtain ⟨rfl, rfl⟩ := trodVars_none hV
  have lt0 : ∀ x ∈ p0, x.block < W.heap.size := by obtain ⟨m, hm⟩ := h0; exact DataW.trod_lt m _ _ _ hm
  have lt1 : ∀ x ∈ p1, x.block < W.heap.size := by obtain ⟨m, hm⟩ := h1; exact DataW.trod_lt m _ _ _ hm
  obtain ⟨most, rfl, hm0, hm1⟩ := open_i64 (hval 0 3 v0 rfl rfl)
  obtain ⟨give, rfl, hg0, hg1⟩ := open_i64 (hval 1 3 v1 rfl rfl)
  clear hA0 hval0
  refine (law_TagsFull most give W).mono fun e W' ⟨he, bel⟩ => ?_
  subst he
  exact ⟨_, rfl, _, _, _, [], _, [], hW', trodAll_mk1 (shut_bool Try.underlying4 _), (trodAll_cons_mk (Below.trod fr_laidOut (by kernel_rfl) (of_decide_eq_true (by kernel_rfl)) h0 bel lt0) (trodAll_cons_mk (Below.trod fr_laidOut (by kernel_rfl) (of_decide_eq_true (by kernel_rfl)) h1 bel lt1) trodAll_mk0)), rfl, bel.frame _, fun h => by cases h⟩
theorem over : Rows.tagsFullRow.holds Try.pinned (OpenSpec.ofChange Rows.tagsFullSpec) :=
  OpenClaim.holds_of_wide 3 Try.f3 rfl rfl rfl rfl rfl rfl rfl ⟨rfl, rfl, rfl, rfl, rfl⟩ rfl rfl rfl rfl rfl (by kernel_rfl) Try.func3 (by kernel_rfl)
    (of_decide_eq_true (by kernel_rfl)) (by unfold Func.isWrapper; first | (rw [if_pos (by decide +kernel)]; kernel_rfl) | (rw [if_neg (by decide +kernel)]; exact ⟨rfl, rfl⟩))
    (fun os started H enc _ => lifted os started H enc)
/-- THE STATEMENT TagsFull. -/
theorem proved : Rows.TagsFullSaid := over
#print axioms proved
end tagsFull
end Go.Proofs.Ytcoclbcjbpjblaa
