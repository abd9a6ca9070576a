/-
  TrieRoom: at so many nets something may stand; a nil trie has nothing; for every number; no condition.
-/
import Derived.Test.YtnklhfdhaclfiaaTrH
import Derived.Test.YtnklhfdhaclfiaaRef01
import Derived.Test.YtnklhfdhaclfiaaBits
import Derived.Test.YtnklhfdhaclfiaaFrame
namespace Go.Proofs.Ytnklhfdhaclfiaa
open Go.RowKit

/-- what stands behind k rounds. -/
def SR (k : Nat) : List (Nat × Value) := (List.range k).map fun j => (16777216 + j, .int .i64 j)
theorem SR_len (k : Nat) : (SR k).length = k := by simp [SR]
theorem SR_succ (k : Nat) : SR (k + 1) = SR k ++ [(16777216 + k, .int .i64 k)] := by simp [SR, List.range_succ]
theorem SR_none {k κ : Nat} (h : κ < 16777216 ∨ 16777216 + k ≤ κ) : getL (SR k) κ = none := by
  rw [getL_none]
  intro p hp
  simp [SR] at hp
  obtain ⟨j, hj, rfl⟩ := hp
  simp only
  omega
theorem SR_some {k j : Nat} (h : j < k) : (getL (SR k) (16777216 + j)).isSome = true := by
  cases hg : getL (SR k) (16777216 + j) with
  | some v => rfl
  | none =>
    have := getL_none.1 hg (16777216 + j, .int .i64 j) (by simp [SR]; exact ⟨j, h, rfl, rfl⟩)
    simp at this
theorem key_24 (k : Nat) : keyN (k * 256) 24 = 16777216 + k := by
  unfold keyN
  rw [show 32 - 24 = 8 by decide]
  simp only [Nat.reducePow]
  omega
theorem SR_put (k m : Nat) (h : k < m) : putR (SR k) m (keyN (k * 256) 24) (.int .i64 k) = (0, SR (k + 1)) := by
  have h1 := SR_none (k := k) (κ := 16777216 + k) (.inr (Nat.le_refl _))
  rw [key_24 k, putR_new h1 (by rw [SR_len]; omega), delL_none h1, SR_succ]
theorem SR_full (m : Nat) (v : Value) : putR (SR m) m 3 v = (3, SR m) := putR_full (SR_none (.inl (by decide))) (by rw [SR_len]; omega)
theorem SR_ap (m : Nat) : KeysApart (SR m) := by
  unfold KeysApart SR
  rw [List.pairwise_map]
  exact List.Pairwise.imp (fun h e => h (by omega)) (List.nodup_range (n := m))
def SR7 (m : Nat) : List (Nat × Value) := delL (SR m) 16777216 ++ [(16777216, .int .i64 7)]
theorem SR7_put (m : Nat) (h : 0 < m) : putR (SR m) m 16777216 (.int .i64 7) = (0, SR7 m) := putR_old (by have := SR_some h; rwa [Nat.add_zero] at this)
theorem SR7_some (m : Nat) : (getL (SR7 m) 16777216).isSome = true := by unfold SR7; rw [getL_snoc, if_pos rfl]; rfl
theorem SR7_len (m : Nat) (h : 0 < m) : (SR7 m).length = m := by
  have := SR_some h
  rw [Nat.add_zero] at this
  unfold SR7; rw [len_snoc (SR_ap m), this, SR_len]; rfl
theorem SR7_last (m : Nat) (h : 0 < m) (v : Value) : (putR (delL (SR7 m) 16777216) m 3 v).1 = 0 := by
  have h1 : getL (delL (SR7 m) 16777216) 3 = none := by
    rw [getL_del, if_neg (by decide)]
    unfold SR7
    rw [getL_snoc, if_neg (by decide)]
    exact SR_none (.inl (by decide))
  have h2 : (delL (SR7 m) 16777216).length = m - 1 := by
    rw [len_del (show KeysApart (SR7 m) from apart_snoc (SR_ap m) _ _), SR7_some]
    simp only [if_true]
    rw [SR7_len m h]
  rw [putR_new h1 (by rw [h2]; omega)]

set_option maxHeartbeats 3200000 in
set_option maxRecDepth 100000 in
theorem law_TrieRoom (n : Int) (w : World) : Calls Try.prog 7 #[.int .i64 n] w fun e w' => e = .returned (.bool true) ∧ Below w.heap.size w w' := by
  obtain ⟨m, hm⟩ := Int.eq_ofNat_of_zero_le (show 0 ≤ n % 32 by omega)
  have hm32 : m < 32 := by omega
  have hand : bits .and .i64 n 31 = (m : Int) := by rw [and_31, hm]
  clear hm
  have PK : Hid (∀ tb N W (k : Nat) (h : TrI W tb N (SR k) m) (hk : k < m), Calls Try.prog 15 #[.pointer (some ⟨tb, 0, none⟩), .agg #[.int .u32 ((k : Int) * 256), .int .i64 24], .int .i64 k] W (PutPost tb N m W (0, SR (k + 1)))) := Lib.hid fun tb N W k h hk => by
    have := trI_Put (k * 256) 24 k W h (by omega) (by omega) (right_mod.2 ⟨by simp only [Nat.reduceSub, Nat.reducePow]; omega, by decide⟩)
    rw [SR_put k m hk] at this
    exact this
  have PF : Hid (∀ tb N W (h : TrI W tb N (SR m) m), Calls Try.prog 15 #[.pointer (some ⟨tb, 0, none⟩), .agg #[.int .u32 2147483648, .int .i64 1], .int .i64 1] W (PutPost tb N m W (3, SR m))) := Lib.hid fun tb N W h => by
    have := trI_Put 2147483648 1 1 W h (by omega) (by decide) (by decide +kernel)
    rw [show keyN 2147483648 1 = 3 by decide +kernel, SR_full] at this
    exact this
  have P7 : Hid (∀ tb N W (h : TrI W tb N (SR m) m) (_ : 0 < m), Calls Try.prog 15 #[.pointer (some ⟨tb, 0, none⟩), .agg #[.int .u32 0, .int .i64 24], .int .i64 7] W (PutPost tb N m W (0, SR7 m))) := Lib.hid fun tb N W h h0 => by
    have := trI_Put 0 24 7 W h (by omega) (by decide) (by decide +kernel)
    rw [show keyN 0 24 = 16777216 by decide +kernel, SR7_put m h0] at this
    exact this
  have D7 : Hid (∀ tb N W (h : TrI W tb N (SR7 m) m) (_ : 0 < m), Calls Try.prog 24 #[.pointer (some ⟨tb, 0, none⟩), .agg #[.int .u32 0, .int .i64 24]] W (DropPost tb N (SR7 m) m W 16777216)) := Lib.hid fun tb N W h h0 => by
    have := trI_Drop 0 24 W h (by rw [SR7_len m h0]; omega) (by decide) (by decide +kernel)
    rw [show keyN 0 24 = 16777216 by decide +kernel] at this
    exact this
  have PL : Hid (∀ tb N W (h : TrI W tb N (delL (SR7 m) 16777216) m), Calls Try.prog 15 #[.pointer (some ⟨tb, 0, none⟩), .agg #[.int .u32 2147483648, .int .i64 1], .int .i64 1] W (PutPost tb N m W (putR (delL (SR7 m) 16777216) m 3 (.int .i64 1)))) := Lib.hid fun tb N W h => by
    have := trI_Put 2147483648 1 1 W h (by omega) (by decide) (by decide +kernel)
    rw [show keyN 2147483648 1 = 3 by decide +kernel] at this
    exact this
  have PN := Lib.hid (fun (p : Addr) W => trI_Put_no p 1 0 1 W (by decide) (by decide) (by decide +kernel))
  have RT : Hid (∀ W, Calls Try.prog 37 #[.int .u32 0, .int .i64 0] W fun e w' => e = .returned (.bool true) ∧ Below W.heap.size W w') := Lib.hid fun W => by
    have := ref_Right 0 0 W (by decide) (by decide)
    rw [show rightB 0 0 = true by decide +kernel] at this
    exact this
  go_enter Try.func7, Try.ntmps7
  go_wp2_with fail
  refine (law_head _).mono ?_
  rintro e w1 ⟨rfl, hB⟩
  go_wp2_with fail
  refine (trI_New m _).mono ?_
  rintro e w2 ⟨rfl, T, hb⟩
  rw [show min (max (m : Int) 0) 4096 = m by omega] at T
  have S := Lib.hid (LSt.made hB (show TrI w2 w1.heap.size (fun _ => none) (SR 0) m from T) hb)
  clear T hb hB
  generalize (fun _ => none : Nat → Option Nat) = N0 at S
  generalize w1.heap.size = tb at S ⊢
  go_wp2_with fail
  go_loopw [4] (fun i wr => ∃ (k : Nat) (N : Nat → Option Nat), k ≤ m ∧ i = .int .i64 k ∧ Hid (LSt w wr tb N (SR k) m)) (fun i _ => m - (intOf i).toNat)
  case atStart => exact ⟨0, N0, by omega, rfl, S⟩
  case round =>
    obtain ⟨k, N, hk, rfl, T⟩ := hrel
    clear S
    by_cases hlt : k < m
    · have hk31 : k ≤ 31 := by omega
      go_wp2_with fail
      refine (PK.out _ _ _ k T.out.tri hlt).mono ?_
      intro e w3 hp
      obtain ⟨N3, rfl, S3, _, _⟩ := hp.st T.out
      have S3 := Lib.hid S3
      clear hp
      go_wp2_with fail
      exact ⟨⟨k + 1, N3, by omega, by go_num, S3⟩, by simp [intOf]; omega⟩
    · obtain rfl : k = m := by omega
      go_upto_region 11 with (fail)
      obtain ⟨W4, hW4, c0, c1, hb⟩ := box2 wr (.int .u32 2147483648) (.int .i64 1) 31
      rw [← hW4]; clear hW4
      have S4 := Lib.hid (T.out.below hb)
      have n4 : Hid (¬ TOwn tb N wr.heap.size) := Lib.hid fun h => by have := T.out.tri.own_lt h; omega
      clear hb T
      generalize wr.heap.size = mb at c0 c1 n4 ⊢
      go_wp2_with fail
      refine (PF.out _ _ _ S4.out.tri).mono ?_
      intro e w5 hp
      obtain ⟨N5, rfl, S5, X5, K5⟩ := hp.st S4.out
      have n5 := Lib.hid (X5.not_own (size_lt c0) n4.out)
      have c0 := K5.cell c0 n4.out
      have c1 := K5.cell c1 n4.out
      have S5 := Lib.hid S5
      clear hp X5 K5 S4 n4
      go_wp2_with fail
      refine (PN.out _ _).mono ?_
      rintro e w6 ⟨rfl, hb⟩
      have S6 := Lib.hid (S5.out.below hb)
      have c0 := cell_below c0 hb
      have c1 := cell_below c1 hb
      clear hb S5
      by_cases h0 : 0 < k
      · have z0 : decide ((0 : Int) < (k : Int)) = true := by simp; omega
        go_wp2_with fail
        refine (P7.out _ _ _ S6.out.tri h0).mono ?_
        intro e w7 hp
        obtain ⟨N7, rfl, S7, X7, K7⟩ := hp.st S6.out
        have n7 := Lib.hid (X7.not_own (size_lt c0) n5.out)
        have c0 := K7.cell c0 n5.out
        have c1 := K7.cell c1 n5.out
        have S7 := Lib.hid S7
        clear hp X7 K7 S6 n5
        go_wp2_with fail
        refine (D7.out _ _ _ S7.out.tri h0).mono ?_
        intro e w8 hp
        obtain ⟨N8, rfl, S8, X8, K8⟩ := hp.st S7.out
        have n8 := Lib.hid (X8.not_own n7.out)
        have c0 := K8.cell c0 n7.out
        have c1 := K8.cell c1 n7.out
        have S8 := Lib.hid S8
        clear hp X8 K8 S7 n7
        rw [SR7_some]
        go_wp2_with fail
        refine (PL.out _ _ _ S8.out.tri).mono ?_
        intro e w9 hp
        obtain ⟨N9, rfl, S9, X9, K9⟩ := hp.st S8.out
        have c0 := K9.cell c0 n8.out
        have c1 := K9.cell c1 n8.out
        have S9 := Lib.hid S9.bel
        clear hp X9 K9 S8 n8
        rw [SR7_last k h0]
        go_wp2_with fail
        refine (trI_Get_nil 2147483648 1 _).mono ?_
        rintro e wa ⟨rfl, hb⟩
        have S9 := Lib.hid (below_on S9.out hb)
        have c0 := cell_below c0 hb
        have c1 := cell_below c1 hb
        clear hb
        go_wp2_with fail
        refine (trI_Longest_nil 0 _).mono ?_
        rintro e wb ⟨rfl, hb⟩
        have S9 := Lib.hid (below_on S9.out hb)
        have c0 := cell_below c0 hb
        have c1 := cell_below c1 hb
        clear hb
        go_upto_region 18 with (fail)
        obtain ⟨Wc, hWc, _, _, hb⟩ := box2 wb (.int .u32 0) (.int .i64 0) 31
        rw [← hWc]; clear hWc
        have S9 := Lib.hid (below_on S9.out hb)
        have c0 := cell_below c0 hb
        have c1 := cell_below c1 hb
        clear hb
        go_wp2_with fail
        refine (trI_All_nil _).mono ?_
        rintro e wd ⟨rfl, hb⟩
        have S9 := Lib.hid (below_on S9.out hb)
        have c0 := cell_below c0 hb
        have c1 := cell_below c1 hb
        clear hb
        go_wp2_with fail
        refine (trI_Below_nil 2147483648 1 _).mono ?_
        rintro e we ⟨rfl, hb⟩
        have S9 := Lib.hid (below_on S9.out hb)
        have c0 := cell_below c0 hb
        have c1 := cell_below c1 hb
        clear hb
        go_wp2_with fail
        refine (trI_Put_nil 2147483648 1 1 _).mono ?_
        rintro e wf ⟨rfl, hb⟩
        have S9 := Lib.hid (below_on S9.out hb)
        have c0 := cell_below c0 hb
        have c1 := cell_below c1 hb
        clear hb
        go_wp2_with fail
        refine (trI_Drop_nil 2147483648 1 _).mono ?_
        rintro e wg ⟨rfl, hb⟩
        have S9 := Lib.hid (below_on S9.out hb)
        clear hb c0 c1
        go_wp2_with fail
        refine (trI_Len_nil _).mono ?_
        rintro e wh ⟨rfl, rfl⟩
        go_wp2_with fail
        refine (RT.out _).mono ?_
        rintro e wi ⟨rfl, hb⟩
        have S9 := Lib.hid (below_on S9.out hb)
        clear hb
        go_wp2_with fail
        go_ret
        exact ⟨rfl, S9.out⟩
      · have z0 : decide ((0 : Int) < (k : Int)) = false := by simp; omega
        have S9 := Lib.hid S6.out.bel
        clear S6 n5
        obtain ⟨w9, hw9⟩ : ∃ w9, w9 = w6 := ⟨_, rfl⟩
        subst hw9
        go_wp2_with fail
        refine (trI_Get_nil 2147483648 1 _).mono ?_
        rintro e wa ⟨rfl, hb⟩
        have S9 := Lib.hid (below_on S9.out hb)
        have c0 := cell_below c0 hb
        have c1 := cell_below c1 hb
        clear hb
        go_wp2_with fail
        refine (trI_Longest_nil 0 _).mono ?_
        rintro e wb ⟨rfl, hb⟩
        have S9 := Lib.hid (below_on S9.out hb)
        have c0 := cell_below c0 hb
        have c1 := cell_below c1 hb
        clear hb
        go_upto_region 18 with (fail)
        obtain ⟨Wc, hWc, _, _, hb⟩ := box2 wb (.int .u32 0) (.int .i64 0) 31
        rw [← hWc]; clear hWc
        have S9 := Lib.hid (below_on S9.out hb)
        have c0 := cell_below c0 hb
        have c1 := cell_below c1 hb
        clear hb
        go_wp2_with fail
        refine (trI_All_nil _).mono ?_
        rintro e wd ⟨rfl, hb⟩
        have S9 := Lib.hid (below_on S9.out hb)
        have c0 := cell_below c0 hb
        have c1 := cell_below c1 hb
        clear hb
        go_wp2_with fail
        refine (trI_Below_nil 2147483648 1 _).mono ?_
        rintro e we ⟨rfl, hb⟩
        have S9 := Lib.hid (below_on S9.out hb)
        have c0 := cell_below c0 hb
        have c1 := cell_below c1 hb
        clear hb
        go_wp2_with fail
        refine (trI_Put_nil 2147483648 1 1 _).mono ?_
        rintro e wf ⟨rfl, hb⟩
        have S9 := Lib.hid (below_on S9.out hb)
        have c0 := cell_below c0 hb
        have c1 := cell_below c1 hb
        clear hb
        go_wp2_with fail
        refine (trI_Drop_nil 2147483648 1 _).mono ?_
        rintro e wg ⟨rfl, hb⟩
        have S9 := Lib.hid (below_on S9.out hb)
        clear hb c0 c1
        go_wp2_with fail
        refine (trI_Len_nil _).mono ?_
        rintro e wh ⟨rfl, rfl⟩
        go_wp2_with fail
        refine (RT.out _).mono ?_
        rintro e wi ⟨rfl, hb⟩
        have S9 := Lib.hid (below_on S9.out hb)
        clear hb
        go_wp2_with fail
        go_ret
        exact ⟨rfl, S9.out⟩

namespace trieRoom
open Go.ChangeShapes Go.WideShapes Go.ChangeAt Go.RowKit
set_option linter.unusedVariables false
set_option maxRecDepth 100000 in
theorem lifted (os : Os) (started : os.Started) (H : Type) (enc : TypeId × Value → H) :
    ReturnsInHanded {} Try.checked os 7 .any (Rows.trieRoomSpec.pre6 enc Try.prog Try.f7 Rows.trieRoomRow.domain false) (Rows.trieRoomSpec.post enc Try.prog Try.f7 false true false false) := by
  refine returnsInHanded_of_change (C := Try.checked) fr_own started (by kernel_rfl) Try.func7
    (ChangeSpec.witness6 (enc := enc) (C := Try.checked) false ⟨#[], #[.int .i64 0], []⟩ 8 (by kernel_rfl) (by kernel_rfl) (by kernel_rfl) (by kernel_rfl)) ?_
  intro W base args ds gs before hval0 hW hcnd _
  have hval : ∀ (j : Nat) t v, Try.f7.params[j]? = some t → args[j]? = some v → Value.okWide Try.prog W .any base t v := hval0
  have hW' := hW
  obtain ⟨p, q, hA0, hV, rfl, hfz, hnd⟩ := hW
  have hA : DataW.TrodAll enc Try.prog W 0 (fun _ => true) true Try.f7.params.toList args.toList ds p := hA0
  rw [Try.params7] at hA hval
  obtain ⟨v0, vs0, d0, ds0, p0, q0, hargs, rfl, rfl, h0, r0⟩ := trodAll_cons hA
  obtain ⟨rfl, rfl, rfl⟩ := trodAll_nil r0
  obtain rfl : args = #[v0] := by cases args; simp_all
  obtain ⟨rfl, rfl⟩ := trodVars_none hV
  have lt0 : ∀ x ∈ p0, x.block < W.heap.size := by obtain ⟨m, hm⟩ := h0; exact DataW.trod_lt m _ _ _ hm
  obtain ⟨n, rfl, nl, nh⟩ := open_i64 (hval 0 3 v0 rfl rfl)
  clear hA0 hval0
  refine (law_TrieRoom n W).mono fun e W' ⟨he, bel⟩ => ?_
  subst he
  exact ⟨_, rfl, _, _, _, [], _, [], hW', trodAll_mk1 (shut_bool Try.underlying4 _), (trodAll_cons_mk (Below.trod fr_laidOut (by kernel_rfl) (of_decide_eq_true (by kernel_rfl)) h0 bel lt0) trodAll_mk0), rfl, bel.frame _, fun h => by cases h⟩
theorem over : Rows.trieRoomRow.holds Try.pinned (OpenSpec.ofChange Rows.trieRoomSpec) :=
  OpenClaim.holds_of_wide 7 Try.f7 rfl rfl rfl rfl rfl rfl rfl ⟨rfl, rfl, rfl, rfl, rfl⟩ rfl rfl rfl rfl rfl (by kernel_rfl) Try.func7 (by kernel_rfl)
    (of_decide_eq_true (by kernel_rfl)) (by unfold Func.isWrapper; first | (rw [if_pos (by decide +kernel)]; kernel_rfl) | (rw [if_neg (by decide +kernel)]; exact ⟨rfl, rfl⟩))
    (fun os started H enc _ => lifted os started H enc)
/-- THE STATEMENT TrieRoom. -/
theorem proved : Rows.TrieRoomSaid := over
#print axioms proved
end trieRoom
end Go.Proofs.Ytnklhfdhaclfiaa
