/-
  A TRIE OF NUMBERS: Put, Get.
-/
import Derived.Test.YtnklhfdhaclfiaaTrR
namespace Go.Proofs.Ytnklhfdhaclfiaa
open Go.RowKit

theorem TExt.mono {N N' : Nat → Option Nat} {B B' : Nat} (h : TExt N N' B) (hB : B' ≤ B) : TExt N N' B' := ⟨h.1, fun k b hk => (h.2 k b hk).imp_right fun h => by omega⟩
/-- what Put answers, and what stands then. -/
def putR (S : List (Nat × Value)) (most : Int) (κ : Nat) (v : Value) : Int × List (Nat × Value) :=
  if (getL S κ).isSome then (0, delL S κ ++ [(κ, v)]) else if most ≤ S.length then (3, S) else (0, delL S κ ++ [(κ, v)])
theorem putR_old {S : List (Nat × Value)} {most : Int} {κ : Nat} {v : Value} (h : (getL S κ).isSome = true) : putR S most κ v = (0, delL S κ ++ [(κ, v)]) := if_pos h
theorem putR_full {S : List (Nat × Value)} {most : Int} {κ : Nat} {v : Value} (h : getL S κ = none) (hm : most ≤ S.length) : putR S most κ v = (3, S) := by unfold putR; rw [h, if_neg (by decide), if_pos hm]
theorem putR_new {S : List (Nat × Value)} {most : Int} {κ : Nat} {v : Value} (h : getL S κ = none) (hm : ¬ most ≤ S.length) : putR S most κ v = (0, delL S κ ++ [(κ, v)]) := by unfold putR; rw [h, if_neg (by decide), if_neg hm]
theorem ret_put {r : Int × List (Nat × Value)} {c : Int} {S' : List (Nat × Value)} (h : r = (c, S')) : Ending.returned (.int .i64 c) = .returned (.int .i64 r.1) := by rw [h]
/-- what Get answers. -/
def getE (S : List (Nat × Value)) (κ : Nat) : Ending := .returned (.tuple #[(getL S κ).getD zvI, .bool (getL S κ).isSome])
theorem getE_no {S : List (Nat × Value)} {κ : Nat} (h : getL S κ = none) : Ending.returned (.tuple #[.int .i64 0, .bool false]) = getE S κ := by unfold getE; rw [h]; rfl
theorem getE_yes {S : List (Nat × Value)} {κ : Nat} {x : Value} (h : getL S κ = some x) : Ending.returned (.tuple #[x, .bool true]) = getE S κ := by unfold getE; rw [h]; rfl
def PutPost (tb : Nat) (N : Nat → Option Nat) (most : Int) (w : World) (r : Int × List (Nat × Value)) (e : Ending) (w' : World) : Prop :=
  ∃ N', e = .returned (.int .i64 r.1) ∧ TrI w' tb N' r.2 most ∧ TExt N N' w.heap.size ∧ Kept (TOwn tb N) w w'

set_option maxHeartbeats 400000 in
theorem trI_Put_nil (a n v : Int) (w : World) : Calls Try.prog 15 #[.pointer none, .agg #[.int .u32 a, .int .i64 n], .int .i64 v] w fun e w' => e = .returned (.int .i64 1) ∧ Below w.heap.size w w' := by
  go_enter Try.func15, Try.ntmps15
  go_wp2_with fail
  go_ret
  exact ⟨rfl, (Below.refl _ _).alloc (Nat.le_refl _) _⟩
set_option maxHeartbeats 400000 in
theorem trI_Put_no (p : Addr) (a n v : Int) (w : World) (h0 : 0 ≤ a) (h : a < 4294967296) (hR : rightB a n = false) : Calls Try.prog 15 #[.pointer (some p), .agg #[.int .u32 a, .int .i64 n], .int .i64 v] w fun e w' => e = .returned (.int .i64 1) ∧ Below w.heap.size w w' := by
  go_enter Try.func15, Try.ntmps15
  go_wp2_with fail
  obtain ⟨W0, hW0, c0, c1, hB⟩ := box2 w (.int .u32 a) (.int .i64 n) 31
  rw [← hW0]; clear hW0
  refine (ip_Check a n W0 h0 h).mono ?_
  rintro e w1 ⟨rfl, hb⟩
  have hB := below_on hB hb
  rw [hR]
  go_wp2_with fail
  go_ret
  exact ⟨rfl, hB⟩

set_option maxHeartbeats 3200000 in
set_option maxRecDepth 100000 in
theorem trI_Put {tb : Nat} {N : Nat → Option Nat} {S : List (Nat × Value)} {most : Int} (a n : Nat) (v : Int) (w : World) (h : TrI w tb N S most) (hm : most ≤ 4096) (ha : a < 4294967296) (hR : rightB a n = true) :
    Calls Try.prog 15 #[.pointer (some ⟨tb, 0, none⟩), .agg #[.int .u32 a, .int .i64 n], .int .i64 v] w (PutPost tb N most w (putR S most (keyN a n) (.int .i64 v))) := by
  have hn : n ≤ 32 := by have := (rightB_range hR).2; omega
  have CK := ip_Check a n (h0 := by omega) (h := by omega)
  have H := Lib.hid h
  have FD := Lib.hid (fun W (h : TrI W tb N S most) => trI_find a n W h ha hR)
  have RC := Lib.hid (fun W (h : TrI W tb N S most) => trI_reach a n W h ha hn)
  clear h
  generalize hκ : keyN a n = κ at *
  clear hκ
  go_enter Try.func15, Try.ntmps15
  go_wp2_with fail
  obtain ⟨W0, hW0, c0, c1, hB⟩ := box2 w (.int .u32 a) (.int .i64 n) 31
  rw [← hW0]; clear hW0
  refine (CK W0).mono ?_
  rintro e w1 ⟨rfl, hb⟩
  have c0 := cell_below c0 hb
  have c1 := cell_below c1 hb
  have hB := below_on hB hb
  clear hb CK
  rw [hR]
  go_wp2_with fail
  refine (FD.out _ (H.out.below hB)).mono ?_
  rintro e w2 ⟨rfl, hb⟩
  have c0 := cell_below c0 hb
  have c1 := cell_below c1 hb
  have hB := below_on hB hb
  clear hb
  have T2 := Lib.hid (H.out.below hB)
  obtain ⟨_, t1, t2⟩ := T2.out.cells
  cases hg : getL S κ with
  | none =>
    cases hx : N κ with
    | none =>
      have HG := Lib.hid hg
      have HX := Lib.hid hx
      clear hg hx
      by_cases hf : most ≤ (S.length : Int)
      · have E := Lib.hid (putR_full (v := .int .i64 v) HG.out hf)
        go_wp2_with fail
        go_quiet (fail)
        go_wp2_with fail
        go_ret
        exact ⟨N, ret_put E.out, by rw [E.out]; exact T2.out.below (below_drewN (Below.refl _ _) _), TExt.refl _ _, ((Kept.refl (TOwn tb N) w).grow hB).grow (below_drewN (Below.refl _ _) _)⟩
      · have E := Lib.hid (putR_new (v := .int .i64 v) HG.out hf)
        go_wp2_with fail
        go_quiet (fail)
        go_wp2_with fail
        refine (RC.out _ (T2.out.below (below_drewN (Below.refl _ _) _))).mono ?_
        rintro e w4 ⟨N', b4, rfl, hb4, T4, X4, K4⟩
        have K4' := Lib.hid (((Kept.refl (TOwn tb N) w).grow (hB.trans ((below_drewN (Below.refl _ _) nq).mono hB.size))).trans K4)
        have X4' := Lib.hid (X4.mono (show w.heap.size ≤ (w2.drewN nq).heap.size from hB.size))
        obtain ⟨_, _, s2⟩ := T4.cells
        obtain ⟨_, _, e2, e3⟩ := T4.ncells hb4
        have g2 := row_free (T4.node κ b4 hb4) 2
        have g3 := row_free (T4.node κ b4 hb4) 3
        have g4 := row_free T4.row 2
        have n1 : ¬ b4 = tb := fun e => T4.top κ (e ▸ hb4)
        have n2 : ¬ tb = b4 := fun e => n1 e.symm
        have PN := Lib.hid (T4.putNew hb4 HG.out (.int .i64 v))
        have HB4 := Lib.hid hb4
        rw [HG.out] at e2 e3
        have e2 : w4.cell? ⟨b4, 2, none⟩ = some (.bool false) := e2
        have e3 : w4.cell? ⟨b4, 3, none⟩ = some (.int .i64 0) := e3
        clear K4 X4 T4 hb4
        go_wp2_with fail
        go_ret
        refine ⟨N', ret_put E.out, by rw [E.out]; exact PN.out, X4'.out, ?_⟩
        have hown : TOwn tb N b4 ∨ w.heap.size ≤ b4 := (X4'.out.2 _ _ HB4.out).imp_left fun h => .inr ⟨κ, h⟩
        exact ((K4'.out.put _ _ hown).put _ _ (.inl (.inl rfl))).put _ _ hown
    | some b =>
      obtain ⟨_, _, d2, _⟩ := T2.out.ncells hx
      rw [hg] at d2
      have d2 : w2.cell? ⟨b, 2, none⟩ = some (.bool false) := d2
      rw [ptrN_some]
      have HG := Lib.hid hg
      have HX := Lib.hid hx
      clear hg hx
      by_cases hf : most ≤ (S.length : Int)
      · have E := Lib.hid (putR_full (v := .int .i64 v) HG.out hf)
        go_wp2_with fail
        go_quiet (fail)
        go_wp2_with fail
        go_ret
        exact ⟨N, ret_put E.out, by rw [E.out]; exact T2.out.below (below_drewN (Below.refl _ _) _), TExt.refl _ _, ((Kept.refl (TOwn tb N) w).grow hB).grow (below_drewN (Below.refl _ _) _)⟩
      · have E := Lib.hid (putR_new (v := .int .i64 v) HG.out hf)
        go_wp2_with fail
        go_quiet (fail)
        go_wp2_with fail
        refine (RC.out _ (T2.out.below (below_drewN (Below.refl _ _) _))).mono ?_
        rintro e w4 ⟨N', b4, rfl, hb4, T4, X4, K4⟩
        have K4' := Lib.hid (((Kept.refl (TOwn tb N) w).grow (hB.trans ((below_drewN (Below.refl _ _) nq).mono hB.size))).trans K4)
        have X4' := Lib.hid (X4.mono (show w.heap.size ≤ (w2.drewN nq).heap.size from hB.size))
        obtain ⟨_, _, s2⟩ := T4.cells
        obtain ⟨_, _, e2, e3⟩ := T4.ncells hb4
        have g2 := row_free (T4.node κ b4 hb4) 2
        have g3 := row_free (T4.node κ b4 hb4) 3
        have g4 := row_free T4.row 2
        have n1 : ¬ b4 = tb := fun e => T4.top κ (e ▸ hb4)
        have n2 : ¬ tb = b4 := fun e => n1 e.symm
        have PN := Lib.hid (T4.putNew hb4 HG.out (.int .i64 v))
        have HB4 := Lib.hid hb4
        rw [HG.out] at e2 e3
        have e2 : w4.cell? ⟨b4, 2, none⟩ = some (.bool false) := e2
        have e3 : w4.cell? ⟨b4, 3, none⟩ = some (.int .i64 0) := e3
        clear K4 X4 T4 hb4
        go_wp2_with fail
        go_ret
        refine ⟨N', ret_put E.out, by rw [E.out]; exact PN.out, X4'.out, ?_⟩
        have hown : TOwn tb N b4 ∨ w.heap.size ≤ b4 := (X4'.out.2 _ _ HB4.out).imp_left fun h => .inr ⟨κ, h⟩
        exact ((K4'.out.put _ _ hown).put _ _ (.inl (.inl rfl))).put _ _ hown
  | some x =>
    obtain ⟨b, hx⟩ := H.out.dom' (k := κ) (by rw [hg]; rfl)
    obtain ⟨_, _, d2, d3⟩ := T2.out.ncells hx
    have f3 := row_free (T2.out.node κ b hx) 3
    rw [hg] at d2 d3
    have d2 : w2.cell? ⟨b, 2, none⟩ = some (.bool true) := d2
    rw [hx, ptrN_some]
    have PO := Lib.hid (T2.out.putOld hx (by rw [hg]; rfl) (.int .i64 v))
    have E := Lib.hid (putR_old (most := most) (κ := κ) (v := .int .i64 v) (S := S) (by rw [hg]; rfl))
    have KP := Lib.hid (((Kept.refl (TOwn tb N) w).grow hB).put ⟨b, 3, none⟩ (.int .i64 v) (.inl (.inr ⟨κ, hx⟩)))
    have d3 : w2.cell? ⟨b, 3, none⟩ = some x := d3
    clear hg hx
    go_wp2_with fail
    go_ret
    exact ⟨N, ret_put E.out, by rw [E.out]; exact PO.out, TExt.refl _ _, KP.out⟩

set_option maxHeartbeats 400000 in
theorem trI_Get_nil (a n : Int) (w : World) : Calls Try.prog 28 #[.pointer none, .agg #[.int .u32 a, .int .i64 n]] w fun e w' => e = .returned (.tuple #[.int .i64 0, .bool false]) ∧ Below w.heap.size w w' := by
  go_enter Try.func28, Try.ntmps28
  go_wp2_with fail
  obtain ⟨W0, hW0, c0, c1, hB⟩ := box2 w (.int .u32 a) (.int .i64 n) 31
  rw [← hW0]; clear hW0
  go_wp2_with fail
  refine (trI_find_nil a n _).mono ?_
  rintro e w1 ⟨rfl, hb⟩
  have hB := below_on hB hb
  go_wp2_with fail
  exact bodyPost_ret (v := .tuple #[.int .i64 0, .bool false]) (by simp [results, Try.results28, go_sem]) rfl ⟨rfl, hB⟩
set_option maxHeartbeats 400000 in
theorem trI_Get_no (p : Addr) (a n : Int) (w : World) (h0 : 0 ≤ a) (h : a < 4294967296) (hR : rightB a n = false) : Calls Try.prog 28 #[.pointer (some p), .agg #[.int .u32 a, .int .i64 n]] w fun e w' => e = .returned (.tuple #[.int .i64 0, .bool false]) ∧ Below w.heap.size w w' := by
  go_enter Try.func28, Try.ntmps28
  go_wp2_with fail
  obtain ⟨W0, hW0, c0, c1, hB⟩ := box2 w (.int .u32 a) (.int .i64 n) 31
  rw [← hW0]; clear hW0
  go_wp2_with fail
  refine (trI_find_no p a n _ h0 h hR).mono ?_
  rintro e w1 ⟨rfl, hb⟩
  have hB := below_on hB hb
  go_wp2_with fail
  exact bodyPost_ret (v := .tuple #[.int .i64 0, .bool false]) (by simp [results, Try.results28, go_sem]) rfl ⟨rfl, hB⟩
set_option maxHeartbeats 1600000 in
theorem trI_Get {tb : Nat} {N : Nat → Option Nat} {S : List (Nat × Value)} {most : Int} (a n : Nat) (w : World) (h : TrI w tb N S most) (ha : a < 4294967296) (hR : rightB a n = true) :
    Calls Try.prog 28 #[.pointer (some ⟨tb, 0, none⟩), .agg #[.int .u32 a, .int .i64 n]] w fun e w' => e = getE S (keyN a n) ∧ Below w.heap.size w w' := by
  have H := Lib.hid h
  have FD := Lib.hid (fun W (h : TrI W tb N S most) => trI_find a n W h ha hR)
  clear h
  generalize keyN a n = κ at *
  go_enter Try.func28, Try.ntmps28
  go_wp2_with fail
  obtain ⟨W0, hW0, c0, c1, hB⟩ := box2 w (.int .u32 a) (.int .i64 n) 31
  rw [← hW0]; clear hW0
  go_wp2_with fail
  refine (FD.out _ (H.out.below hB)).mono ?_
  rintro e w2 ⟨rfl, hb⟩
  have hB := below_on hB hb
  clear hb
  have T2 := Lib.hid (H.out.below hB)
  cases hx : N κ with
  | none =>
    have E := Lib.hid (getE_no (H.out.none_of hx))
    go_wp2_with fail
    exact bodyPost_ret (v := .tuple #[.int .i64 0, .bool false]) (by simp [results, Try.results28, go_sem]) rfl ⟨E.out, hB⟩
  | some b =>
    obtain ⟨_, _, d2, d3⟩ := T2.out.ncells hx
    rw [ptrN_some]
    cases hg : getL S κ with
    | none =>
      rw [hg] at d2 d3
      have d2 : w2.cell? ⟨b, 2, none⟩ = some (.bool false) := d2
      have E := Lib.hid (getE_no hg)
      clear d3 hg hx
      go_wp2_with fail
      exact bodyPost_ret (v := .tuple #[.int .i64 0, .bool false]) (by simp [results, Try.results28, go_sem]) rfl ⟨E.out, hB⟩
    | some x =>
      rw [hg] at d2 d3
      have d2 : w2.cell? ⟨b, 2, none⟩ = some (.bool true) := d2
      have d3 : w2.cell? ⟨b, 3, none⟩ = some x := d3
      have E := Lib.hid (getE_yes hg)
      clear hg hx
      go_wp2_with fail
      exact bodyPost_ret (v := .tuple #[x, .bool true]) (by simp [results, Try.results28, go_sem]) rfl ⟨E.out, hB⟩
end Go.Proofs.Ytnklhfdhaclfiaa
