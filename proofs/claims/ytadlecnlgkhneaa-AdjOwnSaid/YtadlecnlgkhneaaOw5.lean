/- Texts of one proof, one behind another. -/
import Derived.Test.YtadlecnlgkhneaaOw4
import Derived.Test.YtadlecnlgkhneaaOw1
/-
  A TRIE OF ATTRIBUTES: Put, Get.
-/
namespace Go.Proofs.Ytadlecnlgkhneaa
open Go.RowKit

theorem TExt.mono {N N' : Nat → Option Nat} {B B' : Nat} (h : TExt N N' B) (hB : B' ≤ B) : TExt N N' B' := ⟨h.1, fun k b hk => (h.2 k b hk).imp_right fun h => by omega⟩
/-- what Put answers, and what stands then. -/
def putR (S : List (Nat × AV)) (most : Int) (κ : Nat) (v : AV) : Int × List (Nat × AV) :=
  if (getL S κ).isSome then (0, delL S κ ++ [(κ, v)]) else if most ≤ S.length then (3, S) else (0, delL S κ ++ [(κ, v)])
theorem putR_old {S : List (Nat × AV)} {most : Int} {κ : Nat} {v : AV} (h : (getL S κ).isSome = true) : putR S most κ v = (0, delL S κ ++ [(κ, v)]) := if_pos h
theorem putR_full {S : List (Nat × AV)} {most : Int} {κ : Nat} {v : AV} (h : getL S κ = none) (hm : most ≤ S.length) : putR S most κ v = (3, S) := by unfold putR; rw [h, if_neg (by decide), if_pos hm]
theorem putR_new {S : List (Nat × AV)} {most : Int} {κ : Nat} {v : AV} (h : getL S κ = none) (hm : ¬ most ≤ S.length) : putR S most κ v = (0, delL S κ ++ [(κ, v)]) := by unfold putR; rw [h, if_neg (by decide), if_neg hm]
theorem ret_put {r : Int × List (Nat × AV)} {c : Int} {S' : List (Nat × AV)} (h : r = (c, S')) : Ending.returned (.int .i64 c) = .returned (.int .i64 r.1) := by rw [h]
/-- what Get answers. -/
def getE (S : List (Nat × AV)) (κ : Nat) : Ending := .returned (.tuple #[((getL S κ).getD av0).V, .bool (getL S κ).isSome])
theorem getE_no {S : List (Nat × AV)} {κ : Nat} (h : getL S κ = none) : Ending.returned (.tuple #[av0.V, .bool false]) = getE S κ := by unfold getE; rw [h]; rfl
theorem getE_yes {S : List (Nat × AV)} {κ : Nat} {x : AV} (h : getL S κ = some x) : Ending.returned (.tuple #[x.V, .bool true]) = getE S κ := by unfold getE; rw [h]; rfl
def PutPost (tb : Nat) (N : Nat → Option Nat) (most : Int) (w : World) (r : Int × List (Nat × AV)) (e : Ending) (w' : World) : Prop :=
  ∃ N', e = .returned (.int .i64 r.1) ∧ TrI w' tb N' r.2 most ∧ TExt N N' w.heap.size ∧ Kept (TOwn tb N) w w'

theorem Kept.putAV {F : Nat → Prop} {w w1 : World} (h : Kept F w w1) (v : AV) {b : Nat} (hF : F b ∨ w.heap.size ≤ b) : Kept F w (setAV w1 b v) := by
  unfold setAV
  exact ((((((((((h.put _ _ hF).put _ _ hF).put _ _ hF).put _ _ hF).put _ _ hF).put _ _ hF).put _ _ hF).put _ _ hF).put _ _ hF).put _ _ hF)

theorem box_pa (w : World) (a n : Int) (v : AV) : ∃ W0, W0 = (w.alloc (.cells #[.int .u32 a, .int .i64 n] 29)).alloc (.cells v.C 35) ∧ W0.cell? ⟨w.heap.size, 0, none⟩ = some (.int .u32 a) ∧ W0.cell? ⟨w.heap.size, 1, none⟩ = some (.int .i64 n) ∧ W0.heap[w.heap.size + 1]? = some (.cells v.C 35 (0, 0)) ∧ Below w.heap.size w W0 := by
  obtain ⟨W0, h1, h2, h3, h4⟩ := boxTwo w #[.int .u32 a, .int .i64 n] 29 v.C 35
  exact ⟨W0, h1, row_cell h2 0, row_cell h2 1, h3, h4⟩
set_option maxHeartbeats 400000 in
theorem trI_Put_no (p : Addr) (a n : Int) (v : AV) (w : World) (h0 : 0 ≤ a) (h : a < 4294967296) (hR : rightB a n = false) : Calls Try.prog 33 #[.pointer (some p), .agg #[.int .u32 a, .int .i64 n], v.V] w fun e w' => e = .returned (.int .i64 1) ∧ Below w.heap.size w w' := by
  go_enter Try.func33, Try.ntmps33
  go_upto_region 1 with (fail)
  obtain ⟨W0, hW0, c0, c1, rv, hB⟩ := box_pa w a n v
  rw [← hW0]; clear hW0
  go_wp2_with fail
  refine (ip_Check a n W0 h0 h).mono ?_
  rintro e w1 ⟨rfl, hb⟩
  have hB := below_on hB hb
  rw [hR]
  go_wp2_with fail
  go_ret
  exact ⟨rfl, hB⟩

set_option maxHeartbeats 3200000 in
set_option maxRecDepth 100000 in
theorem trI_Put {tb : Nat} {N : Nat → Option Nat} {S : List (Nat × AV)} {most : Int} (a n : Nat) (v : AV) (w : World) (h : TrI w tb N S most) (hm : most ≤ 4096) (ha : a < 4294967296) (hR : rightB a n = true) :
    Calls Try.prog 33 #[.pointer (some ⟨tb, 0, none⟩), .agg #[.int .u32 a, .int .i64 n], v.V] w (PutPost tb N most w (putR S most (keyN a n) v)) := by
  have hn : n ≤ 32 := by have := (rightB_range hR).2; omega
  have CK := ip_Check a n (h0 := by omega) (h := by omega)
  have H := Lib.hid h
  have FD := Lib.hid (fun W (h : TrI W tb N S most) => trI_find a n W h ha hR)
  have RC := Lib.hid (fun W (h : TrI W tb N S most) => trI_reach a n W h ha hn)
  clear h
  generalize hκ : keyN a n = κ at *
  clear hκ
  go_enter Try.func33, Try.ntmps33
  go_upto_region 1 with (fail)
  obtain ⟨W0, hW0, c0, c1, rv, hB⟩ := box_pa w a n v
  rw [← hW0]; clear hW0
  have RV0 := Lib.hid rv
  have bn : Hid (¬ TOwn tb N (w.heap.size + 1)) := Lib.hid fun ho => by have := H.out.own_lt ho; omega
  clear rv
  go_wp2_with fail
  refine (CK W0).mono ?_
  rintro e w1 ⟨rfl, hb⟩
  have c0 := cell_below c0 hb
  have c1 := cell_below c1 hb
  have RV1 := Lib.hid ((hb.block _ (row_lt RV0.out)).trans RV0.out)
  have hB := below_on hB hb
  clear hb CK RV0
  rw [hR]
  go_wp2_with fail
  refine (FD.out _ (H.out.below hB)).mono ?_
  rintro e w2 ⟨rfl, hb⟩
  have c0 := cell_below c0 hb
  have c1 := cell_below c1 hb
  have RV := Lib.hid ((hb.block _ (row_lt RV1.out)).trans RV1.out)
  have hB := below_on hB hb
  clear hb RV1
  have T2 := Lib.hid (H.out.below hB)
  obtain ⟨_, t1, t2⟩ := T2.out.cells
  cases hg : getL S κ with
  | none =>
    cases hx : N κ with
    | none =>
      have HG := Lib.hid hg
      have HX := Lib.hid hx
      clear hg hx
      by_cases hf : most ≤ (S.length : Int)
      · have E := Lib.hid (putR_full (v := v) HG.out hf)
        go_wp2_with fail
        go_quiet (fail)
        go_wp2_with fail
        go_ret
        exact ⟨N, ret_put E.out, by rw [E.out]; exact T2.out.below (below_drewN (Below.refl _ _) _), TExt.refl _ _, ((Kept.refl (TOwn tb N) w).grow hB).grow (below_drewN (Below.refl _ _) _)⟩
      · have E := Lib.hid (putR_new (v := v) HG.out hf)
        go_wp2_with fail
        go_quiet (fail)
        go_wp2_with fail
        refine (RC.out _ (T2.out.below (below_drewN (Below.refl _ _) _))).mono ?_
        rintro e w4 ⟨N', b4, rfl, hb4, T4, X4, K4⟩
        have K4' := Lib.hid (((Kept.refl (TOwn tb N) w).grow (hB.trans ((below_drewN (Below.refl _ _) nq).mono hB.size))).trans K4)
        have X4' := Lib.hid (X4.mono (show w.heap.size ≤ (w2.drewN nq).heap.size from hB.size))
        obtain ⟨_, _, s2⟩ := T4.cells
        obtain ⟨_, _, e2⟩ := T4.ncells hb4
        have g2 := row_free (T4.node κ b4 hb4) 2
        have g4 := row_free T4.row 2
        have n1 : ¬ b4 = tb := fun e => T4.top κ (e ▸ hb4)
        have n2 : ¬ tb = b4 := fun e => n1 e.symm
        have PN := Lib.hid (T4.putNew hb4 HG.out v)
        have HB4 := Lib.hid hb4
        have RV4 : Hid (w4.heap[w.heap.size + 1]? = some (.cells v.C 35 (0, 0))) := Lib.hid ((K4.block _ (row_lt RV.out) bn.out).trans RV.out)
        rw [HG.out] at e2
        have e2 : w4.cell? ⟨b4, 2, none⟩ = some (.bool false) := e2
        have NT4 := Lib.hid (set_same (T4.node κ b4 hb4) 2 (.bool true))
        have hown : Hid (TOwn tb N b4 ∨ w.heap.size ≤ b4) := Lib.hid ((X4'.out.2 _ _ HB4.out).imp_left fun h => .inr ⟨κ, h⟩)
        have q1 : Hid (¬ (w.heap.size + 1 = b4)) := Lib.hid (fun e => by
          rcases X4.2 _ _ hb4 with h | h
          · exact bn.out (.inr ⟨κ, by rw [e]; exact h⟩)
          · have := row_lt RV.out; have h : w2.heap.size ≤ b4 := h; omega)
        have q2 : Hid (¬ (w.heap.size + 1 = tb)) := Lib.hid (fun e => bn.out (.inl e))
        clear K4 X4 T4 hb4
        go_wp2_with (with_reducible refine halt_at (X := .load 35 (.tmp 5)) ?_ ?_; (· rfl))
        obtain ⟨W5, hW5⟩ : ∃ W5, W5 = (w4.setCell ⟨b4, 2, none⟩ (.bool true)).setCell ⟨tb, 2, none⟩ (.int .i64 ((S.length : Int) + 1)) := ⟨_, rfl⟩
        have RV5 : Hid (W5.heap[w.heap.size + 1]? = some (.cells v.C 35 (0, 0))) := Lib.hid (by rw [hW5, set_other _ _ _ q2.out, set_other _ _ _ q1.out]; exact RV4.out)
        have NT5 : Hid (W5.there b4 3 10) := Lib.hid (node_there (by rw [hW5, set_other _ _ _ n1]; exact NT4.out))
        have PN5 : Hid (TrI (setAV W5 b4 v) tb N' (delL S κ ++ [(κ, v)]) most) := Lib.hid (by rw [hW5]; exact PN.out)
        have K5 : Hid (Kept (TOwn tb N) w (setAV W5 b4 v)) := Lib.hid (by rw [hW5]; exact ((K4'.out.put _ _ hown.out).put _ _ (.inl (.inl rfl))).putAV v hown.out)
        rw [← hW5]
        clear hW5 s2 e2 g2 g4 PN RV4 NT4
        unfold Halt
        refine ld_at (by rfl) 35 (.tmp 5) rfl (w.heap.size + 1) rfl 35 v.C (0, 0) _ RV5.out Try.underlying35 rfl (by kernel_rfl) ?_
        go_wp2_with (with_reducible refine halt_at (X := .store 35 (.tmp 52) (.tmp 50)) ?_ ?_; (· rfl))
        unfold Halt
        refine wpList_store_mid rfl 35 (.tmp 52) (.tmp 50) rfl b4 3 v.C rfl rfl NT5.out (by kernel_rfl) v.one ?_
        rw [setAV_eq]
        generalize setAV W5 b4 v = W6 at PN5 K5 ⊢
        go_wp2_with fail
        go_ret
        exact ⟨N', ret_put E.out, by rw [E.out]; exact PN5.out, X4'.out, K5.out⟩
    | some b =>
      obtain ⟨_, _, d2⟩ := T2.out.ncells hx
      rw [hg] at d2
      have d2 : w2.cell? ⟨b, 2, none⟩ = some (.bool false) := d2
      rw [ptrN_some]
      have HG := Lib.hid hg
      have HX := Lib.hid hx
      clear hg hx
      by_cases hf : most ≤ (S.length : Int)
      · have E := Lib.hid (putR_full (v := v) HG.out hf)
        go_wp2_with fail
        go_quiet (fail)
        go_wp2_with fail
        go_ret
        exact ⟨N, ret_put E.out, by rw [E.out]; exact T2.out.below (below_drewN (Below.refl _ _) _), TExt.refl _ _, ((Kept.refl (TOwn tb N) w).grow hB).grow (below_drewN (Below.refl _ _) _)⟩
      · have E := Lib.hid (putR_new (v := v) HG.out hf)
        go_wp2_with fail
        go_quiet (fail)
        go_wp2_with fail
        refine (RC.out _ (T2.out.below (below_drewN (Below.refl _ _) _))).mono ?_
        rintro e w4 ⟨N', b4, rfl, hb4, T4, X4, K4⟩
        have K4' := Lib.hid (((Kept.refl (TOwn tb N) w).grow (hB.trans ((below_drewN (Below.refl _ _) nq).mono hB.size))).trans K4)
        have X4' := Lib.hid (X4.mono (show w.heap.size ≤ (w2.drewN nq).heap.size from hB.size))
        obtain ⟨_, _, s2⟩ := T4.cells
        obtain ⟨_, _, e2⟩ := T4.ncells hb4
        have g2 := row_free (T4.node κ b4 hb4) 2
        have g4 := row_free T4.row 2
        have n1 : ¬ b4 = tb := fun e => T4.top κ (e ▸ hb4)
        have n2 : ¬ tb = b4 := fun e => n1 e.symm
        have PN := Lib.hid (T4.putNew hb4 HG.out v)
        have HB4 := Lib.hid hb4
        have RV4 : Hid (w4.heap[w.heap.size + 1]? = some (.cells v.C 35 (0, 0))) := Lib.hid ((K4.block _ (row_lt RV.out) bn.out).trans RV.out)
        rw [HG.out] at e2
        have e2 : w4.cell? ⟨b4, 2, none⟩ = some (.bool false) := e2
        have NT4 := Lib.hid (set_same (T4.node κ b4 hb4) 2 (.bool true))
        have hown : Hid (TOwn tb N b4 ∨ w.heap.size ≤ b4) := Lib.hid ((X4'.out.2 _ _ HB4.out).imp_left fun h => .inr ⟨κ, h⟩)
        have q1 : Hid (¬ (w.heap.size + 1 = b4)) := Lib.hid (fun e => by
          rcases X4.2 _ _ hb4 with h | h
          · exact bn.out (.inr ⟨κ, by rw [e]; exact h⟩)
          · have := row_lt RV.out; have h : w2.heap.size ≤ b4 := h; omega)
        have q2 : Hid (¬ (w.heap.size + 1 = tb)) := Lib.hid (fun e => bn.out (.inl e))
        clear K4 X4 T4 hb4
        go_wp2_with (with_reducible refine halt_at (X := .load 35 (.tmp 5)) ?_ ?_; (· rfl))
        obtain ⟨W5, hW5⟩ : ∃ W5, W5 = (w4.setCell ⟨b4, 2, none⟩ (.bool true)).setCell ⟨tb, 2, none⟩ (.int .i64 ((S.length : Int) + 1)) := ⟨_, rfl⟩
        have RV5 : Hid (W5.heap[w.heap.size + 1]? = some (.cells v.C 35 (0, 0))) := Lib.hid (by rw [hW5, set_other _ _ _ q2.out, set_other _ _ _ q1.out]; exact RV4.out)
        have NT5 : Hid (W5.there b4 3 10) := Lib.hid (node_there (by rw [hW5, set_other _ _ _ n1]; exact NT4.out))
        have PN5 : Hid (TrI (setAV W5 b4 v) tb N' (delL S κ ++ [(κ, v)]) most) := Lib.hid (by rw [hW5]; exact PN.out)
        have K5 : Hid (Kept (TOwn tb N) w (setAV W5 b4 v)) := Lib.hid (by rw [hW5]; exact ((K4'.out.put _ _ hown.out).put _ _ (.inl (.inl rfl))).putAV v hown.out)
        rw [← hW5]
        clear hW5 s2 e2 g2 g4 PN RV4 NT4
        unfold Halt
        refine ld_at (by rfl) 35 (.tmp 5) rfl (w.heap.size + 1) rfl 35 v.C (0, 0) _ RV5.out Try.underlying35 rfl (by kernel_rfl) ?_
        go_wp2_with (with_reducible refine halt_at (X := .store 35 (.tmp 52) (.tmp 50)) ?_ ?_; (· rfl))
        unfold Halt
        refine wpList_store_mid rfl 35 (.tmp 52) (.tmp 50) rfl b4 3 v.C rfl rfl NT5.out (by kernel_rfl) v.one ?_
        rw [setAV_eq]
        generalize setAV W5 b4 v = W6 at PN5 K5 ⊢
        go_wp2_with fail
        go_ret
        exact ⟨N', ret_put E.out, by rw [E.out]; exact PN5.out, X4'.out, K5.out⟩
  | some x =>
    obtain ⟨b, hx⟩ := H.out.dom' (k := κ) (by rw [hg]; rfl)
    obtain ⟨_, _, d2⟩ := T2.out.ncells hx
    have NT := Lib.hid (node_there (T2.out.node κ b hx))
    rw [hg] at d2
    have d2 : w2.cell? ⟨b, 2, none⟩ = some (.bool true) := d2
    rw [hx, ptrN_some]
    have PO := Lib.hid (T2.out.putOld hx (by rw [hg]; rfl) v)
    have E := Lib.hid (putR_old (most := most) (κ := κ) (v := v) (S := S) (by rw [hg]; rfl))
    have KP := Lib.hid (((Kept.refl (TOwn tb N) w).grow hB).putAV v (b := b) (.inl (.inr ⟨κ, hx⟩)))
    clear hg hx
    go_wp2_with (with_reducible refine halt_at (X := .load 35 (.tmp 5)) ?_ ?_; (· rfl))
    unfold Halt
    refine ld_at (by rfl) 35 (.tmp 5) rfl (w.heap.size + 1) rfl 35 v.C (0, 0) _ RV.out Try.underlying35 rfl (by kernel_rfl) ?_
    go_wp2_with (with_reducible refine halt_at (X := .store 35 (.tmp 52) (.tmp 50)) ?_ ?_; (· rfl))
    unfold Halt
    refine wpList_store_mid rfl 35 (.tmp 52) (.tmp 50) rfl b 3 v.C rfl rfl NT.out (by kernel_rfl) v.one ?_
    rw [setAV_eq]
    generalize setAV w2 b v = W5 at PO KP ⊢
    go_wp2_with fail
    go_ret
    exact ⟨N, ret_put E.out, by rw [E.out]; exact PO.out, TExt.refl _ _, KP.out⟩

theorem results_Get (tmps : Array Value) (W : World) (b : Nat) (v : AV) (c : Bool) (h4 : tmps.getD 4 undef = .pointer (some ⟨b, 0, none⟩)) (h5 : tmps.getD 5 undef = .bool c) (hb : W.heap[b]? = some (.cells v.C 35 (0, 0))) :
    (results Try.f30 tmps).run Try.prog W = .ok (.tuple #[v.V, .bool c]) W := by
  have hl := run_loadVar_row (P := Try.prog) W b 35 35 v.C (0, 0) _ hb Try.underlying35 rfl (by kernel_rfl)
  unfold results
  rw [Try.results30]
  simp [h4, h5, hl, asAddr, -Array.getD_eq_getD_getElem?]
theorem box_pz (w : World) (a n : Int) : ∃ W0, W0 = (w.alloc (.cells #[.int .u32 a, .int .i64 n] 29)).alloc (.cells #[.int .i64 0, .int .i64 0, .slice none 0 0, .int .u32 0, .int .i64 0, .int .i64 0, .int .i64 0, .int .u32 0, .slice none 0 0, .slice none 0 0] 35) ∧ W0.cell? ⟨w.heap.size, 0, none⟩ = some (.int .u32 a) ∧ W0.cell? ⟨w.heap.size, 1, none⟩ = some (.int .i64 n) ∧ W0.heap[w.heap.size + 1]? = some (.cells av0.C 35 (0, 0)) ∧ Below w.heap.size w W0 := by
  obtain ⟨W0, h1, h2, h3, h4⟩ := boxTwo w #[.int .u32 a, .int .i64 n] 29 av0.C 35
  exact ⟨W0, h1, row_cell h2 0, row_cell h2 1, h3, h4⟩
theorem box_z (w : World) : ∃ W0, W0 = w.alloc (.cells #[.int .i64 0, .int .i64 0, .slice none 0 0, .int .u32 0, .int .i64 0, .int .i64 0, .int .i64 0, .int .u32 0, .slice none 0 0, .slice none 0 0] 35) ∧ W0.heap[w.heap.size]? = some (.cells av0.C 35 (0, 0)) ∧ Below w.heap.size w W0 ∧ W0.heap.size = w.heap.size + 1 := box1 w av0.C 35
set_option maxHeartbeats 1600000 in
set_option maxRecDepth 100000 in
theorem trI_Get_no (p : Addr) (a n : Int) (w : World) (h0 : 0 ≤ a) (h : a < 4294967296) (hR : rightB a n = false) : Calls Try.prog 30 #[.pointer (some p), .agg #[.int .u32 a, .int .i64 n]] w fun e w' => e = .returned (.tuple #[av0.V, .bool false]) ∧ Below w.heap.size w w' := by
  have E : Hid (Ending.returned (.tuple #[av0.V, .bool false]) = .returned (.tuple #[av0.V, .bool false])) := Lib.hid rfl
  go_enter Try.func30, Try.ntmps30
  go_upto_region 1 with (fail)
  obtain ⟨W0, hW0, c0, c1, rz, hB⟩ := box_pz w a n
  rw [← hW0]; clear hW0
  have RZ0 := Lib.hid rz
  clear rz
  go_wp2_with fail
  refine (trI_find_no p a n _ h0 h hR).mono ?_
  rintro e w2 ⟨rfl, hb⟩
  have hB := below_on hB hb
  have RZ := Lib.hid ((hb.block _ (row_lt RZ0.out)).trans RZ0.out)
  clear hb RZ0 c0 c1
  go_upto_region 4 with (fail); (obtain ⟨W3, hW3, rz, hb3, -⟩ := box_z w2); rw [← hW3]; clear hW3; (have R3 := Lib.hid rz); (have RZ3 := Lib.hid ((hb3.block _ (row_lt RZ.out)).trans RZ.out)); (have B3 := Lib.hid (below_on hB hb3)); clear rz hb3; go_wp2_with (with_reducible refine halt_at (X := .load 35 (.tmp 7)) ?_ ?_; (· rfl)); unfold Halt; refine ld_at (by rfl) 35 (.tmp 7) rfl w2.heap.size rfl 35 av0.C (0, 0) _ R3.out Try.underlying35 rfl (by kernel_rfl) ?_; go_wp2_with (with_reducible refine halt_at (X := .store 35 (.tmp 4) (.tmp 20)) ?_ ?_; (· rfl)); unfold Halt; refine st_row rfl 35 _ _ rfl (w.heap.size + 1) rfl 35 av0.C av0.C rfl RZ3.out (by kernel_rfl) rfl av0.one ?_; go_wp2_with fail; refine bodyPost_ret (results_Get _ _ (w.heap.size + 1) av0 false ?_ ?_ (setRow_heap _ _ _ _ _ _ RZ3.out)) rfl ⟨(by first | exact E.out | rfl), below_setRow B3.out (Nat.le_succ _) _⟩ <;> rfl
set_option maxHeartbeats 1600000 in
set_option maxRecDepth 100000 in
theorem trI_Get {tb : Nat} {N : Nat → Option Nat} {S : List (Nat × AV)} {most : Int} (a n : Nat) (w : World) (h : TrI w tb N S most) (ha : a < 4294967296) (hR : rightB a n = true) :
    Calls Try.prog 30 #[.pointer (some ⟨tb, 0, none⟩), .agg #[.int .u32 a, .int .i64 n]] w fun e w' => e = getE S (keyN a n) ∧ Below w.heap.size w w' := by
  have H := Lib.hid h
  have FD := Lib.hid (fun W (h : TrI W tb N S most) => trI_find a n W h ha hR)
  clear h
  generalize keyN a n = κ at *
  go_enter Try.func30, Try.ntmps30
  go_upto_region 1 with (fail)
  obtain ⟨W0, hW0, c0, c1, rz, hB⟩ := box_pz w a n
  rw [← hW0]; clear hW0
  have RZ0 := Lib.hid rz
  clear rz
  go_wp2_with fail
  refine (FD.out _ (H.out.below hB)).mono ?_
  rintro e w2 ⟨rfl, hb⟩
  have hB := below_on hB hb
  have RZ := Lib.hid ((hb.block _ (row_lt RZ0.out)).trans RZ0.out)
  clear hb RZ0 c0 c1
  have T2 := Lib.hid (H.out.below hB)
  cases hx : N κ with
  | none =>
    have E := Lib.hid (getE_no (H.out.none_of hx))
    go_upto_region 4 with (fail); (obtain ⟨W3, hW3, rz, hb3, -⟩ := box_z w2); rw [← hW3]; clear hW3; (have R3 := Lib.hid rz); (have RZ3 := Lib.hid ((hb3.block _ (row_lt RZ.out)).trans RZ.out)); (have B3 := Lib.hid (below_on hB hb3)); clear rz hb3; go_wp2_with (with_reducible refine halt_at (X := .load 35 (.tmp 7)) ?_ ?_; (· rfl)); unfold Halt; refine ld_at (by rfl) 35 (.tmp 7) rfl w2.heap.size rfl 35 av0.C (0, 0) _ R3.out Try.underlying35 rfl (by kernel_rfl) ?_; go_wp2_with (with_reducible refine halt_at (X := .store 35 (.tmp 4) (.tmp 20)) ?_ ?_; (· rfl)); unfold Halt; refine st_row rfl 35 _ _ rfl (w.heap.size + 1) rfl 35 av0.C av0.C rfl RZ3.out (by kernel_rfl) rfl av0.one ?_; go_wp2_with fail; refine bodyPost_ret (results_Get _ _ (w.heap.size + 1) av0 false ?_ ?_ (setRow_heap _ _ _ _ _ _ RZ3.out)) rfl ⟨(by first | exact E.out | rfl), below_setRow B3.out (Nat.le_succ _) _⟩ <;> rfl
  | some b =>
    obtain ⟨_, _, d2⟩ := T2.out.ncells hx
    rw [ptrN_some]
    cases hg : getL S κ with
    | none =>
      rw [hg] at d2
      have d2 : w2.cell? ⟨b, 2, none⟩ = some (.bool false) := d2
      have E := Lib.hid (getE_no hg)
      clear hg hx
      go_upto_region 4 with (fail); (obtain ⟨W3, hW3, rz, hb3, -⟩ := box_z w2); rw [← hW3]; clear hW3; (have R3 := Lib.hid rz); (have RZ3 := Lib.hid ((hb3.block _ (row_lt RZ.out)).trans RZ.out)); (have B3 := Lib.hid (below_on hB hb3)); clear rz hb3; go_wp2_with (with_reducible refine halt_at (X := .load 35 (.tmp 7)) ?_ ?_; (· rfl)); unfold Halt; refine ld_at (by rfl) 35 (.tmp 7) rfl w2.heap.size rfl 35 av0.C (0, 0) _ R3.out Try.underlying35 rfl (by kernel_rfl) ?_; go_wp2_with (with_reducible refine halt_at (X := .store 35 (.tmp 4) (.tmp 20)) ?_ ?_; (· rfl)); unfold Halt; refine st_row rfl 35 _ _ rfl (w.heap.size + 1) rfl 35 av0.C av0.C rfl RZ3.out (by kernel_rfl) rfl av0.one ?_; go_wp2_with fail; refine bodyPost_ret (results_Get _ _ (w.heap.size + 1) av0 false ?_ ?_ (setRow_heap _ _ _ _ _ _ RZ3.out)) rfl ⟨(by first | exact E.out | rfl), below_setRow B3.out (Nat.le_succ _) _⟩ <;> rfl
    | some x =>
      have NR := node_range (T2.out.node κ b hx)
      rw [hg] at d2 NR
      have d2 : w2.cell? ⟨b, 2, none⟩ = some (.bool true) := d2
      have NR : Hid (w2.rangeAt b 3 x.C.toList) := Lib.hid NR
      have E := Lib.hid (getE_yes hg)
      clear hg hx
      go_wp2_with (with_reducible refine halt_at (X := .load 35 (.tmp 23)) ?_ ?_; (· rfl))
      unfold Halt
      refine wpList_load_mid rfl 35 (.tmp 23) rfl b 3 rfl x.C.toList _ NR.out Try.underlying35 rfl (by kernel_rfl) ?_
      go_wp2_with (with_reducible refine halt_at (X := .store 35 (.tmp 4) (.tmp 24)) ?_ ?_; (· rfl))
      unfold Halt
      refine st_row rfl 35 _ _ rfl (w.heap.size + 1) rfl 35 av0.C x.C rfl RZ.out (by kernel_rfl) rfl x.one ?_
      go_wp2_with fail
      refine bodyPost_ret (results_Get _ _ (w.heap.size + 1) x true ?_ ?_ (setRow_heap _ _ _ _ _ _ RZ.out)) rfl ⟨E.out, below_setRow hB (Nat.le_succ _) _⟩ <;> rfl
end Go.Proofs.Ytadlecnlgkhneaa

/-
  Steps of a region that draws its order, with one look for all conditions.
-/
namespace Go.Proofs.Ytadlecnlgkhneaa
open Go.RowKit
theorem atN {α : Type} {l : List α} {n : Nat} {x : α} (h : l[n]? = some x) : (List.toArray l)[n]? = some x := by simpa using h
section
variable {P : Program} {ops : Array Oper} {Q : Exit → Act → World → Prop} {md : Region.Mode} {S : World → Prop}
theorem three {a b c : Bool} (h : (a && (b && c)) = true) : a = true ∧ b = true ∧ c = true := by simpa using h
/-- an operation whose guard is false is passed by (one look for all). -/
theorem rgn {i : Nat} {oi : Oper} {fuel : Nat} {listed : Array Bool} {a : Act} {w : World} (hi : ops[i]? = some oi)
    (hk : (Region.noSelect ops && (Region.free md ops listed i && (Region.ready md ops listed).contains i)) = true)
    (hQ : ∀ c a w, Q (.panic c) (a.put oi.dst undef) w → Q (.panic c) a w) (hw : Region.wanted oi (yielded ops a.tmps) = false) (hS : S w)
    (h : wpAnyH P md ops Q S fuel (listed.setIfInBounds i true) (a.put oi.dst undef) w) : wpAnyH P md ops Q S (fuel + 1) listed a w :=
  rg_no hi (three hk).1 (three hk).2.1 (three hk).2.2 hQ hw hS h
/-- an operation that only computes, or reads what S says of memory (one look for all). -/
theorem rgy {i : Nat} {oi : Oper} {v : Value} {fuel : Nat} {listed : Array Bool} {a : Act} {w : World} (hi : ops[i]? = some oi)
    (hk : (Region.noSelect ops && (Region.free md ops listed i && (Region.ready md ops listed).contains i)) = true)
    (hQ : ∀ c a w, Q (.panic c) (a.put oi.dst v) w → Q (.panic c) a w) (hw : Region.wanted oi (yielded ops a.tmps) = true) (hy : ∀ w, S w → (execOp a.eval oi).run P w = .ok (.value v) w) (hS : S w)
    (h : wpAnyH P md ops Q S fuel (listed.setIfInBounds i true) (a.put oi.dst v) w) : wpAnyH P md ops Q S (fuel + 1) listed a w :=
  rg_yes hi (three hk).1 (three hk).2.1 (three hk).2.2 hQ hw hy hS h
end
end Go.Proofs.Ytadlecnlgkhneaa
