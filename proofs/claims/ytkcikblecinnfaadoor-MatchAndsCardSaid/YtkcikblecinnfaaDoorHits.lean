/-
  MATCHES: Hits.
-/
import Derived.Test.YtkcikblecinnfaaDoorMem
namespace Go.Proofs.YtkcikblecinnfaaDoor
open Go.RowKit

def hitI (g v k : Int) : Int := bits .and .u64 (bits .xor .u64 g v) k
def hitsM (m : Mt) (h : Hdr) : Bool := (List.range 9).all fun j : Nat => hitI (getI h j) (m.val j) (m.mask j) == 0
theorem hitsM_yes {m : Mt} {h : Hdr} (hj : ∀ j : Nat, j < 9 → (hitI (getI h j) (m.val j) (m.mask j) == 0) = true) : hitsM m h = true := by
  unfold hitsM; simpa using hj
theorem hitsM_no {m : Mt} {h : Hdr} {j : Nat} (hj : j < 9) (hn : (hitI (getI h j) (m.val j) (m.mask j) == 0) = false) : hitsM m h = false := by
  unfold hitsM; rw [List.all_eq_false]; exact ⟨j, by simpa using hj, by simp [hn]⟩
set_option maxRecDepth 100000 in
set_option maxHeartbeats 1600000 in
theorem match_Hits (m : Mt) (h : Hdr) (w : World) (hT : Wid w) (ok : h.Ok) :
    Calls Tryd.prog 11 #[mtV m, hdrV h] w fun e w' => e = .returned (.bool (hitsM m h)) ∧ Below w.heap.size w w' := by
  have HT := Lib.hid hT
  have OK := Lib.hid ok
  clear hT ok
  go_enter Tryd.func11, Tryd.ntmps11
  go_wp2_with fail
  obtain ⟨W0, hW0, hm, hB⟩ := boxM w m
  rw [← hW0]
  have hs : W0.heap.size = w.heap.size + 1 := by rw [hW0]; simp
  obtain ⟨W1, hW1, hx, hb⟩ := boxH W0 h
  rw [← hW1]
  rw [hs] at hx
  replace hm := hm.below hb
  replace hB := below_on hB hb
  clear hb hW0 hW1 hs
  have C0 := Lib.hid (⟨hB, HT.out.below hB, hm, hx⟩ : Below w.heap.size w W1 ∧ Wid W1 ∧ MBox W1 w.heap.size m ∧ HBox W1 (w.heap.size + 1) h)
  clear hB hm hx
  go_loopw [6] (fun t wr => ∃ k : Nat, k ≤ 9 ∧ t = .int .i64 k ∧ (∀ j : Nat, j < k → (hitI (getI h j) (m.val j) (m.mask j) == 0) = true) ∧ (Below w.heap.size w wr ∧ Wid wr ∧ MBox wr w.heap.size m ∧ HBox wr (w.heap.size + 1) h)) (fun t _ => 9 - (intOf t).toNat)
  case atStart => exact ⟨0, by omega, rfl, fun j h => absurd h (by omega), C0.out⟩
  case round =>
    obtain ⟨k, hk, rfl, hj, hC⟩ := hrel
    have C := Lib.hid hC
    have HJ := Lib.hid hj
    clear hC hj C0
    rcases Nat.lt_or_ge k 9 with hlt | hge
    · have hk9 : ((k : Int) < 9) := by omega
      have hw : IntKind.i64.wrap ((k : Int) + 1) = ((k + 1 : Nat) : Int) := by rw [IntWalk.i64_in _ (by omega)]; omega
      have cv := C.out.2.2.1.val k hlt
      have cm := C.out.2.2.1.mask k hlt
      go_wp2_with fail
      refine wp_region_held_drew (S := fun w' => Below wr.heap.size wr w') (by kernel_rfl) ?_ (fun hHeld => ?_)
      · exact (Below.refl _ _).drew
      refine rg_yes (i := 0) (v := ?_) at0 (by kernel_rfl) (by kernel_rfl) (by kernel_rfl) (fun _ _ _ h => h) ?_ ?_ hHeld ?_; rotate_left 1; (· rfl); (· intro w' hSw; (try dsimp only at hSw); refine exec_ld 31 (.tmp 3) ?_ (w.heap.size + 1) ?_ 31 _ (0, 0) _ (C.out.2.2.2.below hSw) Tryd.underlying31 rfl (by kernel_rfl) <;> rfl)
      try simp only [Act.put, List.setIfInBounds_toArray, List.set_cons_zero, List.set_cons_succ]
      refine rg_yes (i := 1) (v := ?_) (atS at0) (by kernel_rfl) (by kernel_rfl) (by kernel_rfl) (fun _ _ _ h => h) ?_ ?_ hHeld ?_; rotate_left 1; (· rfl); (· intro w' hSw; (try dsimp only at hSw); (try clear hHeld); go_simp; try with_reducible rfl)
      try simp only [Act.put, List.setIfInBounds_toArray, List.set_cons_zero, List.set_cons_succ]
      refine rg_yes (i := 3) (v := ?_) (atS (atS (atS at0))) (by kernel_rfl) (by kernel_rfl) (by kernel_rfl) (fun _ _ _ h => h) ?_ ?_ hHeld ?_; rotate_left 1; (· rfl); (· intro w' hSw; (try dsimp only at hSw); (try clear hHeld); go_simp; try with_reducible rfl)
      try simp only [Act.put, List.setIfInBounds_toArray, List.set_cons_zero, List.set_cons_succ]
      refine rg_yes (i := 4) (v := ?_) (atS (atS (atS (atS at0)))) (by kernel_rfl) (by kernel_rfl) (by kernel_rfl) (fun _ _ _ h => h) ?_ ?_ hHeld ?_; rotate_left 1; (· rfl); (· intro w' hSw; (try dsimp only at hSw); (try clear hHeld); go_simp; try with_reducible rfl)
      try simp only [Act.put, List.setIfInBounds_toArray, List.set_cons_zero, List.set_cons_succ]
      refine rg_yes (i := 5) (v := ?_) (atS (atS (atS (atS (atS at0))))) (by kernel_rfl) (by kernel_rfl) (by kernel_rfl) (fun _ _ _ h => h) ?_ ?_ hHeld ?_; rotate_left 1; (· rfl); (· intro w' hSw; (try dsimp only at hSw); have cv := cell_below cv hSw; have cm := cell_below cm hSw; (try clear hHeld); go_simp; try with_reducible rfl)
      try simp only [Act.put, List.setIfInBounds_toArray, List.set_cons_zero, List.set_cons_succ]
      refine rg_yes (i := 6) (v := ?_) (atS (atS (atS (atS (atS (atS at0)))))) (by kernel_rfl) (by kernel_rfl) (by kernel_rfl) (fun _ _ _ h => h) ?_ ?_ hHeld ?_; rotate_left 1; (· rfl); (· intro w' hSw; (try dsimp only at hSw); have cv := cell_below cv hSw; have cm := cell_below cm hSw; (try clear hHeld); go_simp; try with_reducible rfl)
      try simp only [Act.put, List.setIfInBounds_toArray, List.set_cons_zero, List.set_cons_succ]
      refine rg_yes (i := 8) (v := ?_) (atS (atS (atS (atS (atS (atS (atS (atS at0)))))))) (by kernel_rfl) (by kernel_rfl) (by kernel_rfl) (fun _ _ _ h => h) ?_ ?_ hHeld ?_; rotate_left 1; (· rfl); (· intro w' hSw; (try dsimp only at hSw); (try clear hHeld); go_simp; try with_reducible rfl)
      try simp only [Act.put, List.setIfInBounds_toArray, List.set_cons_zero, List.set_cons_succ]
      refine rg_yes (i := 9) (v := ?_) (atS (atS (atS (atS (atS (atS (atS (atS (atS at0))))))))) (by kernel_rfl) (by kernel_rfl) (by kernel_rfl) (fun _ _ _ h => h) ?_ ?_ hHeld ?_; rotate_left 1; (· rfl); (· intro w' hSw; (try dsimp only at hSw); (try clear hHeld); go_simp; try with_reducible rfl)
      try simp only [Act.put, List.setIfInBounds_toArray, List.set_cons_zero, List.set_cons_succ]
      refine rg_yes (i := 10) (v := ?_) (atS (atS (atS (atS (atS (atS (atS (atS (atS (atS at0)))))))))) (by kernel_rfl) (by kernel_rfl) (by kernel_rfl) (fun _ _ _ h => h) ?_ ?_ hHeld ?_; rotate_left 1; (· rfl); (· intro w' hSw; (try dsimp only at hSw); have cv := cell_below cv hSw; have cm := cell_below cm hSw; (try clear hHeld); go_simp; try with_reducible rfl)
      try simp only [Act.put, List.setIfInBounds_toArray, List.set_cons_zero, List.set_cons_succ]
      refine rg_yes (i := 11) (v := ?_) (atS (atS (atS (atS (atS (atS (atS (atS (atS (atS (atS at0))))))))))) (by kernel_rfl) (by kernel_rfl) (by kernel_rfl) (fun _ _ _ h => h) ?_ ?_ hHeld ?_; rotate_left 1; (· rfl); (· intro w' hSw; (try dsimp only at hSw); have cv := cell_below cv hSw; have cm := cell_below cm hSw; (try clear hHeld); go_simp; try with_reducible rfl)
      try simp only [Act.put, List.setIfInBounds_toArray, List.set_cons_zero, List.set_cons_succ]
      refine rg_call (i := 2) (atS (atS at0)) (by kernel_rfl) ?_ (fun K hK => ?_); (· rfl); (try clear hb); go_simp; (refine (head_Get _ _ _ (C.out.2.1.below hHeld) OK.out).mono ?_; rintro e w1 ⟨rfl, hb⟩); go_wp2_with fail; refine hK.out _ _ ?_ (fun hHeld => ?_); (· exact hHeld.trans (hb.mono hHeld.size)); clear hK K
      try simp only [Act.put, List.setIfInBounds_toArray, List.set_cons_zero, List.set_cons_succ]
      refine rg_yes (i := 7) (v := ?_) (atS (atS (atS (atS (atS (atS (atS at0))))))) (by kernel_rfl) (by kernel_rfl) (by kernel_rfl) (fun _ _ _ h => h) ?_ ?_ hHeld ?_; rotate_left 1; (· rfl); (· intro w' hSw; (try dsimp only at hSw); (try clear hHeld); go_simp; try with_reducible rfl)
      try simp only [Act.put, List.setIfInBounds_toArray, List.set_cons_zero, List.set_cons_succ]
      refine rg_yes (i := 12) (v := ?_) (atS (atS (atS (atS (atS (atS (atS (atS (atS (atS (atS (atS at0)))))))))))) (by kernel_rfl) (by kernel_rfl) (by kernel_rfl) (fun _ _ _ h => h) ?_ ?_ hHeld ?_; rotate_left 1; (· rfl); (· intro w' hSw; (try dsimp only at hSw); (try clear hHeld); go_simp; try with_reducible rfl)
      try simp only [Act.put, List.setIfInBounds_toArray, List.set_cons_zero, List.set_cons_succ]
      refine rg_yes (i := 13) (v := ?_) (atS (atS (atS (atS (atS (atS (atS (atS (atS (atS (atS (atS (atS at0))))))))))))) (by kernel_rfl) (by kernel_rfl) (by kernel_rfl) (fun _ _ _ h => h) ?_ ?_ hHeld ?_; rotate_left 1; (· rfl); (· intro w' hSw; (try dsimp only at hSw); (try clear hHeld); go_simp; try with_reducible rfl)
      try simp only [Act.put, List.setIfInBounds_toArray, List.set_cons_zero, List.set_cons_succ]
      refine wpAnyH_done (by kernel_rfl) ?_ _
      have hb := hHeld
      clear hHeld
      have C2 := Lib.hid (⟨below_on C.out.1 hb, C.out.2.1.below hb, C.out.2.2.1.below hb, C.out.2.2.2.below hb⟩ : Below w.heap.size w w1 ∧ Wid w1 ∧ MBox w1 w.heap.size m ∧ HBox w1 (w.heap.size + 1) h)
      clear hb cv cm C
      cases hr : (hitI (getI h k) (m.val k) (m.mask k) == 0)
      · have HN := Lib.hid (hitsM_no hlt hr)
        have h0 : (bits .and .u64 (bits .xor .u64 (getI h k) (m.val k)) (m.mask k) != 0) = true := by unfold hitI at hr; simp [bne, hr]
        clear hr
        generalize (bits .and .u64 (bits .xor .u64 (getI h k) (m.val k)) (m.mask k)) = z at *
        go_wp2_with fail
        go_ret
        exact ⟨ret_bool (by rw [HN.out]), C2.out.1⟩
      · have HJ2 : Hid (∀ j : Nat, j < k + 1 → (hitI (getI h j) (m.val j) (m.mask j) == 0) = true) := Lib.hid fun j hj => by
          rcases (by omega : j < k ∨ j = k) with h | rfl
          · exact HJ.out j h
          · exact hr
        have h0 : (bits .and .u64 (bits .xor .u64 (getI h k) (m.val k)) (m.mask k) != 0) = false := by unfold hitI at hr; simp [bne, hr]
        clear hr HJ
        generalize (bits .and .u64 (bits .xor .u64 (getI h k) (m.val k)) (m.mask k)) = z at *
        go_wp2_with fail
        refine ⟨⟨k + 1, by omega, by simp, HJ2.out, C2.out⟩, by simp [intOf]; omega⟩
    · obtain rfl : k = 9 := by omega
      have HY := Lib.hid (hitsM_yes HJ.out)
      clear HJ
      go_wp2_with fail
      go_ret
      exact ⟨ret_bool (by rw [HY.out]), C.out.1⟩
end Go.Proofs.YtkcikblecinnfaaDoor
