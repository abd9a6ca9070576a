/-
  MATCHES: And.
-/
import Derived.Test.YtkcikblecinnfaaDoorCovers
namespace Go.Proofs.YtkcikblecinnfaaDoor
open Go.RowKit

def clashI (a p b q : Int) : Int := bits .and .u64 (bits .and .u64 (bits .xor .u64 a b) p) q
def andOk (m n : Mt) : Bool := (List.range 9).all fun j : Nat => clashI (m.val j) (m.mask j) (n.val j) (n.mask j) == 0
theorem andOk_yes {m n : Mt} (hj : ∀ j : Nat, j < 9 → (clashI (m.val j) (m.mask j) (n.val j) (n.mask j) == 0) = true) : andOk m n = true := by
  unfold andOk; simpa using hj
theorem andOk_no {m n : Mt} {j : Nat} (hj : j < 9) (hn : (clashI (m.val j) (m.mask j) (n.val j) (n.mask j) == 0) = false) : andOk m n = false := by
  unfold andOk; rw [List.all_eq_false]; exact ⟨j, by simpa using hj, by simp [hn]⟩
/-- both, in the first k fields. -/
def both (m n : Mt) (k : Nat) : Mt := ⟨fun i => if i < k then m.val i ||| n.val i else m.val i, fun i => if i < k then m.mask i ||| n.mask i else m.mask i⟩
def andM (m n : Mt) : Mt := if andOk m n then both m n 9 else mt0
theorem both_step (m n : Mt) (k : Nat) : setM (setV (both m n k) k (m.val k ||| n.val k)) k (m.mask k ||| n.mask k) = both m n (k + 1) := by
  unfold setM setV both
  congr 1
  · funext i
    simp only
    by_cases h : i = k
    · subst h; simp
    · by_cases h2 : i < k
      · rw [if_neg h, if_pos h2, if_pos (by omega)]
      · rw [if_neg h, if_neg h2, if_neg (by omega)]
  · funext i
    simp only
    by_cases h : i = k
    · subst h; simp
    · by_cases h2 : i < k
      · rw [if_neg h, if_pos h2, if_pos (by omega)]
      · rw [if_neg h, if_neg h2, if_neg (by omega)]
theorem both_zero (m n : Mt) : both m n 0 = m := by unfold both; simp
theorem both_at (m n : Mt) (k : Nat) : (both m n k).val k = m.val k ∧ (both m n k).mask k = m.mask k := by unfold both; simp
theorem results_And (tmps : Array Value) (W : World) (b : Nat) (m : Mt) (e : Bool) (h6 : tmps.getD 4 undef = .pointer (some ⟨b, 0, none⟩)) (h7 : tmps.getD 5 undef = .bool e) (hb : MBox W b m) :
    (results Tryd.f18 tmps).run Tryd.prog W = .ok (.tuple #[mtV m, .bool e]) W := by
  have hl := hb.get
  unfold results
  rw [Tryd.results18]
  simp [h6, h7, hl, asAddr, -Array.getD_eq_getD_getElem?]
set_option maxRecDepth 100000 in
set_option maxHeartbeats 3200000 in
theorem match_And (m n : Mt) (w : World) (om : m.Ok) (on : n.Ok) :
    Calls Tryd.prog 18 #[mtV m, mtV n] w fun e w' => e = .returned (.tuple #[mtV (andM m n), .bool (andOk m n)]) ∧ Below w.heap.size w w' := by
  have OM := Lib.hid om
  have ON := Lib.hid on
  clear om on
  go_enter Tryd.func18, Tryd.ntmps18
  go_wp2_with fail
  obtain ⟨W0, hW0, hm, hB⟩ := boxM w m
  rw [← hW0]
  have hs : W0.heap.size = w.heap.size + 1 := by rw [hW0]; simp
  obtain ⟨W1, hW1, hx, hb⟩ := boxM W0 n
  rw [← hW1]
  have hs1 : W1.heap.size = w.heap.size + 2 := by rw [hW1]; simp [hs]
  rw [hs] at hx
  replace hm := hm.below hb
  replace hB := below_on hB hb
  clear hb hW0 hW1 hs
  obtain ⟨W2, hW2, hz, hb⟩ := boxZ W1
  rw [← hW2]
  rw [hs1] at hz
  replace hm := hm.below hb
  replace hx := hx.below hb
  replace hB := below_on hB hb
  clear hb hW2 hs1
  have C0 := Lib.hid (⟨hB, by rw [both_zero]; exact hm, hx, hz⟩ : Below w.heap.size w W2 ∧ MBox W2 w.heap.size (both m n 0) ∧ MBox W2 (w.heap.size + 1) n ∧ MBox W2 (w.heap.size + 2) mt0)
  clear hB hm hx hz
  go_loopw [7] (fun t wr => ∃ k : Nat, k ≤ 9 ∧ t = .int .i64 k ∧ (∀ j : Nat, j < k → (clashI (m.val j) (m.mask j) (n.val j) (n.mask j) == 0) = true) ∧ (Below w.heap.size w wr ∧ MBox wr w.heap.size (both m n k) ∧ MBox wr (w.heap.size + 1) n ∧ MBox wr (w.heap.size + 2) mt0)) (fun t _ => 9 - (intOf t).toNat)
  case atStart => exact ⟨0, by omega, rfl, fun j h => absurd h (by omega), C0.out⟩
  case round =>
    obtain ⟨k, hk, rfl, hj, hC⟩ := hrel
    have C := Lib.hid hC
    have HJ := Lib.hid hj
    clear hC hj C0
    rcases Nat.lt_or_ge k 9 with hlt | hge
    · have hk9 : ((k : Int) < 9) := by omega
      have hw : IntKind.i64.wrap ((k : Int) + 1) = ((k + 1 : Nat) : Int) := by rw [IntWalk.i64_in _ (by omega)]; omega
      have cv := C.out.2.1.val k hlt
      have cm := C.out.2.1.mask k hlt
      rw [(both_at m n k).1] at cv
      rw [(both_at m n k).2] at cm
      have dv := C.out.2.2.1.val k hlt
      have dm := C.out.2.2.1.mask k hlt
      cases h1 : (clashI (m.val k) (m.mask k) (n.val k) (n.mask k) == 0)
      · have HN := Lib.hid (andOk_no hlt h1)
        have h0 : (bits .and .u64 (bits .and .u64 (bits .xor .u64 (m.val k) (n.val k)) (m.mask k)) (n.mask k) != 0) = true := by unfold clashI at h1; simp [bne, h1]
        clear h1
        have C2 : Hid (∀ q, Below w.heap.size w (wr.drewN q) ∧ MBox (wr.drewN q) (w.heap.size + 2) mt0) := Lib.hid fun q =>
          ⟨below_drewN'' C.out.1 q, C.out.2.2.2.below (below_drewN'' (Below.refl _ _) q)⟩
        go_wp2_with fail
        go_quiet (fail)
        obtain ⟨W3, hW3⟩ : ∃ W3, W3 = wr.drewN nq := ⟨_, rfl⟩
        have C3 := Lib.hid (C2.out nq)
        rw [← hW3] at C3 ⊢
        clear hW3 cv cm dv dm
        go_wp2_with (refine st_row rfl 25 _ _ rfl (w.heap.size + 2) rfl 25 (mtC mt0) (mtC mt0) rfl C3.out.2 (by kernel_rfl) rfl (mt_one _) ?_)
        refine bodyPost_ret (results_And _ _ (w.heap.size + 2) mt0 false ?_ ?_ (C3.out.2.row _)) ?_ ?_
        · rfl
        · rfl
        · rfl
        refine ⟨?_, below_setRow C3.out.1 (by omega) _⟩
        unfold andM
        rw [HN.out]
        rfl
      · have h0 : (bits .and .u64 (bits .and .u64 (bits .xor .u64 (m.val k) (n.val k)) (m.mask k)) (n.mask k) != 0) = false := by unfold clashI at h1; simp [bne, h1]
        have HJ2 : Hid (∀ j : Nat, j < k + 1 → (clashI (m.val j) (m.mask j) (n.val j) (n.mask j) == 0) = true) := Lib.hid fun j hj => by
          rcases (by omega : j < k ∨ j = k) with h | rfl
          · exact HJ.out j h
          · exact h1
        clear h1 HJ
        go_wp2_with fail
        go_quiet (fail)
        have hb := below_drewN'' (Below.refl wr.heap.size wr) nq
        have C3 := Lib.hid (⟨below_on C.out.1 hb, C.out.2.1.below hb, C.out.2.2.1.below hb, C.out.2.2.2.below hb⟩ : Below w.heap.size w (wr.drewN nq) ∧ MBox (wr.drewN nq) w.heap.size (both m n k) ∧ MBox (wr.drewN nq) (w.heap.size + 1) n ∧ MBox (wr.drewN nq) (w.heap.size + 2) mt0)
        generalize wr.drewN nq = W3 at C3 ⊢
        clear hb C cv cm dv dm
        have cv := C3.out.2.1.val k hlt
        rw [(both_at m n k).1] at cv
        have dv := C3.out.2.2.1.val k hlt
        have uv := C3.out.2.1.unfrozen k
        have ho := u64_or_nat _ _ (OM.out.val k hlt) (ON.out.val k hlt)
        go_wp2_with fail
        go_region
        have C4 : Hid (Below w.heap.size w (W3.setCell ⟨w.heap.size, k, none⟩ (.int .u64 ((m.val k ||| n.val k : Nat) : Int))).drew ∧ MBox (W3.setCell ⟨w.heap.size, k, none⟩ (.int .u64 ((m.val k ||| n.val k : Nat) : Int))).drew w.heap.size (setV (both m n k) k (m.val k ||| n.val k)) ∧ MBox (W3.setCell ⟨w.heap.size, k, none⟩ (.int .u64 ((m.val k ||| n.val k : Nat) : Int))).drew (w.heap.size + 1) n ∧ MBox (W3.setCell ⟨w.heap.size, k, none⟩ (.int .u64 ((m.val k ||| n.val k : Nat) : Int))).drew (w.heap.size + 2) mt0) := Lib.hid
          ⟨(below_put C3.out.1 _ k (Nat.le_refl _) _).drew, C3.out.2.1.setVal k _ hlt, C3.out.2.2.1.other w.heap.size k _ (by omega), C3.out.2.2.2.other w.heap.size k _ (by omega)⟩
        generalize (W3.setCell ⟨w.heap.size, k, none⟩ (.int .u64 ((m.val k ||| n.val k : Nat) : Int))).drew = W4 at C4 ⊢
        clear C3 cv dv uv ho h0
        have cm := C4.out.2.1.mask k hlt
        rw [show (setV (both m n k) k (m.val k ||| n.val k)).mask k = m.mask k from (both_at m n k).2] at cm
        have dm := C4.out.2.2.1.mask k hlt
        have um := C4.out.2.1.unfrozen (9 + k)
        have ho := u64_or_nat _ _ (OM.out.mask k hlt) (ON.out.mask k hlt)
        go_wp2_with fail
        go_region
        have C5 : Hid (Below w.heap.size w (W4.setCell ⟨w.heap.size, 9 + k, none⟩ (.int .u64 ((m.mask k ||| n.mask k : Nat) : Int))).drew ∧ MBox (W4.setCell ⟨w.heap.size, 9 + k, none⟩ (.int .u64 ((m.mask k ||| n.mask k : Nat) : Int))).drew w.heap.size (both m n (k + 1)) ∧ MBox (W4.setCell ⟨w.heap.size, 9 + k, none⟩ (.int .u64 ((m.mask k ||| n.mask k : Nat) : Int))).drew (w.heap.size + 1) n ∧ MBox (W4.setCell ⟨w.heap.size, 9 + k, none⟩ (.int .u64 ((m.mask k ||| n.mask k : Nat) : Int))).drew (w.heap.size + 2) mt0) := Lib.hid
          ⟨(below_put C4.out.1 _ (9 + k) (Nat.le_refl _) _).drew, by rw [← both_step]; exact C4.out.2.1.setMask k _ hlt, C4.out.2.2.1.other w.heap.size (9 + k) _ (by omega), C4.out.2.2.2.other w.heap.size (9 + k) _ (by omega)⟩
        generalize (W4.setCell ⟨w.heap.size, 9 + k, none⟩ (.int .u64 ((m.mask k ||| n.mask k : Nat) : Int))).drew = W5 at C5 ⊢
        clear C4 cm dm um ho
        go_wp2_with fail
        refine ⟨⟨k + 1, by omega, by simp, HJ2.out, C5.out⟩, by simp [intOf]; omega⟩
    · obtain rfl : k = 9 := by omega
      have HY := Lib.hid (andOk_yes HJ.out)
      clear HJ
      go_wp2_with (with_reducible refine halt_at (X := .load 25 (.tmp 2)) ?_ ?_; (· rfl))
      unfold Halt
      refine ld_at (by rfl) 25 (.tmp 2) rfl w.heap.size rfl 25 (mtC (both m n 9)) (0, 0) _ C.out.2.1 Tryd.underlying25 rfl (by kernel_rfl) ?_
      go_wp2_with (refine st_row rfl 25 _ _ rfl (w.heap.size + 2) rfl 25 (mtC mt0) (mtC (both m n 9)) rfl C.out.2.2.2 (by kernel_rfl) rfl (mt_one _) ?_)
      refine bodyPost_ret (results_And _ _ (w.heap.size + 2) (both m n 9) true ?_ ?_ (C.out.2.2.2.row _)) ?_ ?_
      · rfl
      · rfl
      · rfl
      refine ⟨?_, below_setRow C.out.1 (by omega) _⟩
      unfold andM
      rw [HY.out]
      rfl
end Go.Proofs.YtkcikblecinnfaaDoor
