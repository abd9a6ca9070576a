/-
  MATCHES: Exact, Covers.
-/
import Derived.Test.YtkcikblecinnfaaDoorOn
namespace Go.Proofs.YtkcikblecinnfaaDoor
open Go.RowKit

def fullN (f : Int) : Nat := (fullI f).toNat
theorem fullN_eq (f : Int) : ((fullN f : Nat) : Int) = fullI f := by unfold fullN; have := fullI_lo f; omega
set_option maxRecDepth 100000 in
set_option maxHeartbeats 1600000 in
theorem match_Exact (f : Int) (v : Nat) (w : World) (hT : Wid w) :
    Calls Tryd.prog 14 #[.int .i64 f, .int .u64 v] w fun e w' => e = .returned (.tuple #[mtV (onM f v (fullN f)), .int .i64 (errI (onOk f v (fullN f)))]) ∧ Below w.heap.size w w' := by
  have HT := Lib.hid hT
  clear hT
  go_enter Tryd.func14, Tryd.ntmps14
  go_wp2_with fail
  obtain ⟨W0, hW0, hz, hB⟩ := boxZ w
  rw [← hW0]
  clear hW0
  refine (head_Full f _ (HT.out.below hB)).mono ?_
  rintro e w9 ⟨rfl, rfl⟩
  rw [← fullN_eq f]
  generalize hk : fullN f = k
  have HK := Lib.hid hk
  clear hk
  have HZ := Lib.hid hz
  have HB := Lib.hid hB
  clear hz hB
  go_wp2_with fail
  refine (match_On f v k _ (HT.out.below HB.out)).mono ?_
  rintro e w1 ⟨rfl, hb⟩
  have HZ1 := Lib.hid (HZ.out.below hb)
  have HB1 := Lib.hid (below_setRow (below_on HB.out hb) (g := w.heap.size) (Nat.le_refl _) (mtC (onM f v k)))
  clear hb HZ HB HT
  go_wp2_with (refine st_row rfl 25 _ _ rfl w.heap.size rfl 25 (mtC mt0) (mtC (onM f v k)) rfl HZ1.out (by kernel_rfl) rfl (mt_one _) ?_)
  refine bodyPost_ret (results_Exact _ _ w.heap.size (onM f v k) (errI (onOk f v k)) ?_ ?_ (HZ1.out.row _)) ?_ ?_
  · rfl
  · rfl
  · rfl
  exact ⟨by rw [HK.out], HB1.out⟩

/-! ### Covers -/
def covI (a p b q : Int) : Bool := (bits .andNot .u64 p q == 0) && (bits .and .u64 (bits .xor .u64 a b) p == 0)
def coversM (m n : Mt) : Bool := (List.range 9).all fun j : Nat => covI (m.val j) (m.mask j) (n.val j) (n.mask j)
theorem coversM_yes {m n : Mt} (hj : ∀ j : Nat, j < 9 → covI (m.val j) (m.mask j) (n.val j) (n.mask j) = true) : coversM m n = true := by
  unfold coversM; simpa using hj
theorem coversM_no {m n : Mt} {j : Nat} (hj : j < 9) (hn : covI (m.val j) (m.mask j) (n.val j) (n.mask j) = false) : coversM m n = false := by
  unfold coversM; rw [List.all_eq_false]; exact ⟨j, by simpa using hj, by simp [hn]⟩
set_option maxRecDepth 100000 in
set_option maxHeartbeats 1600000 in
theorem match_Covers (m n : Mt) (w : World) :
    Calls Tryd.prog 19 #[mtV m, mtV n] w fun e w' => e = .returned (.bool (coversM m n)) ∧ Below w.heap.size w w' := by
  go_enter Tryd.func19, Tryd.ntmps19
  go_wp2_with fail
  obtain ⟨W0, hW0, hm, hB⟩ := boxM w m
  rw [← hW0]
  have hs : W0.heap.size = w.heap.size + 1 := by rw [hW0]; simp
  obtain ⟨W1, hW1, hx, hb⟩ := boxM W0 n
  rw [← hW1]
  rw [hs] at hx
  replace hm := hm.below hb
  replace hB := below_on hB hb
  clear hb hW0 hW1 hs
  have C0 := Lib.hid (⟨hB, hm, hx⟩ : Below w.heap.size w W1 ∧ MBox W1 w.heap.size m ∧ MBox W1 (w.heap.size + 1) n)
  clear hB hm hx
  go_loopw [6] (fun t wr => ∃ k : Nat, k ≤ 9 ∧ t = .int .i64 k ∧ (∀ j : Nat, j < k → covI (m.val j) (m.mask j) (n.val j) (n.mask j) = true) ∧ (Below w.heap.size w wr ∧ MBox wr w.heap.size m ∧ MBox wr (w.heap.size + 1) n)) (fun t _ => 9 - (intOf t).toNat)
  case atStart => exact ⟨0, by omega, rfl, fun j h => absurd h (by omega), C0.out⟩
  case round =>
    obtain ⟨k, hk, rfl, hj, hC⟩ := hrel
    have C := Lib.hid hC
    have HJ := Lib.hid hj
    clear hC hj C0
    rcases Nat.lt_or_ge k 9 with hlt | hge
    · have hk9 : ((k : Int) < 9) := by omega
      have hw : IntKind.i64.wrap ((k : Int) + 1) = ((k + 1 : Nat) : Int) := by rw [IntWalk.i64_in _ (by omega)]; omega
      have cv := C.out.2.1.val k hlt
      have cm := C.out.2.1.mask k hlt
      have dv := C.out.2.2.val k hlt
      have dm := C.out.2.2.mask k hlt
      cases h1 : (bits .andNot .u64 (m.mask k) (n.mask k) == 0)
      · have HN := Lib.hid (coversM_no hlt (show covI (m.val k) (m.mask k) (n.val k) (n.mask k) = false by unfold covI; rw [h1]; rfl))
        have h0 : (bits .andNot .u64 (m.mask k) (n.mask k) != 0) = true := by simp [bne, h1]
        clear h1
        go_wp2_with (go_quiet (fail))
        go_ret
        exact ⟨ret_bool (by rw [HN.out]), below_drewN'' C.out.1 _⟩
      · have h0 : (bits .andNot .u64 (m.mask k) (n.mask k) != 0) = false := by simp [bne, h1]
        cases h2 : (bits .and .u64 (bits .xor .u64 (m.val k) (n.val k)) (m.mask k) == 0)
        · have HN := Lib.hid (coversM_no hlt (show covI (m.val k) (m.mask k) (n.val k) (n.mask k) = false by unfold covI; rw [h1, h2]; rfl))
          have h3 : (bits .and .u64 (bits .xor .u64 (m.val k) (n.val k)) (m.mask k) != 0) = true := by simp [bne, h2]
          clear h1 h2
          go_wp2_with (go_quiet (fail))
          go_ret
          exact ⟨ret_bool (by rw [HN.out]), below_drewN'' C.out.1 _⟩
        · have HY := Lib.hid (show covI (m.val k) (m.mask k) (n.val k) (n.mask k) = true by unfold covI; rw [h1, h2]; rfl)
          have h3 : (bits .and .u64 (bits .xor .u64 (m.val k) (n.val k)) (m.mask k) != 0) = false := by simp [bne, h2]
          clear h1 h2
          have HJ2 : Hid (∀ j : Nat, j < k + 1 → covI (m.val j) (m.mask j) (n.val j) (n.mask j) = true) := Lib.hid fun j hj => by
            rcases (by omega : j < k ∨ j = k) with h | rfl
            · exact HJ.out j h
            · exact HY.out
          clear HJ
          have C2 : Hid (∀ q, Below w.heap.size w (wr.drewN q) ∧ MBox (wr.drewN q) w.heap.size m ∧ MBox (wr.drewN q) (w.heap.size + 1) n) := Lib.hid fun q =>
            ⟨below_drewN'' C.out.1 q, C.out.2.1.below (below_drewN'' (Below.refl _ _) q), C.out.2.2.below (below_drewN'' (Below.refl _ _) q)⟩
          go_wp2_with (go_quiet (fail))
          refine ⟨⟨k + 1, by omega, by simp, HJ2.out, C2.out _⟩, by simp [intOf]; omega⟩
    · obtain rfl : k = 9 := by omega
      have HY := Lib.hid (coversM_yes HJ.out)
      clear HJ
      go_wp2_with fail
      go_ret
      exact ⟨ret_bool (by rw [HY.out]), C.out.1⟩
end Go.Proofs.YtkcikblecinnfaaDoor
