/-
  MATCHES: On, Exact.
-/
import Derived.Test.YtkcikblecinnfaaDoorMem
namespace Go.Proofs.YtkcikblecinnfaaDoor
open Go.RowKit

def m1 (f v k : Nat) : Mt := setM (setV mt0 f v) f k
def onOk (f v k : Int) : Bool := (decide (0 ≤ f) && decide (f < 9)) && rightI f v k
def onM (f : Int) (v k : Nat) : Mt := if onOk f v k then m1 f.toNat v k else mt0
theorem results_On (tmps : Array Value) (W : World) (b : Nat) (m : Mt) (e : Int) (h6 : tmps.getD 6 undef = .pointer (some ⟨b, 0, none⟩)) (h7 : tmps.getD 7 undef = .int .i64 e) (hb : MBox W b m) :
    (results Tryd.f12 tmps).run Tryd.prog W = .ok (.tuple #[mtV m, .int .i64 e]) W := by
  have hl := hb.get
  unfold results
  rw [Tryd.results12]
  simp [h6, h7, hl, asAddr, -Array.getD_eq_getD_getElem?]
theorem results_Exact (tmps : Array Value) (W : World) (b : Nat) (m : Mt) (e : Int) (h6 : tmps.getD 4 undef = .pointer (some ⟨b, 0, none⟩)) (h7 : tmps.getD 5 undef = .int .i64 e) (hb : MBox W b m) :
    (results Tryd.f14 tmps).run Tryd.prog W = .ok (.tuple #[mtV m, .int .i64 e]) W := by
  have hl := hb.get
  unfold results
  rw [Tryd.results14]
  simp [h6, h7, hl, asAddr, -Array.getD_eq_getD_getElem?]
set_option maxRecDepth 100000 in
set_option maxHeartbeats 1600000 in
theorem match_On (f : Int) (v k : Nat) (w : World) (hT : Wid w) :
    Calls Tryd.prog 12 #[.int .i64 f, .int .u64 v, .int .u64 k] w fun e w' => e = .returned (.tuple #[mtV (onM f v k), .int .i64 (errI (onOk f v k))]) ∧ Below w.heap.size w w' := by
  have HT0 := Lib.hid hT
  clear hT
  go_enter Tryd.func12, Tryd.ntmps12
  go_wp2_with fail
  obtain ⟨W0, hW0, hz, hB⟩ := boxZ w
  rw [← hW0]
  clear hW0
  have HT := Lib.hid (HT0.out.below hB)
  cases hf : (decide (0 ≤ f) && decide (f < 9))
  · have E1 := Lib.hid hf
    have EO : Hid (onOk f v k = false) := by refine Lib.hid ?_; unfold onOk; rw [hf]; rfl
    clear hf
    have HZ := Lib.hid hz
    have HB := Lib.hid (below_setRow hB (g := w.heap.size) (Nat.le_refl _) (mtC mt0))
    clear hz hB
    refine (match_isField _ _).mono ?_
    rintro e w9 ⟨rfl, rfl⟩
    rw [E1.out]
    go_wp2_with (refine st_row rfl 25 _ _ rfl w.heap.size rfl 25 (mtC mt0) (mtC mt0) rfl HZ.out (by kernel_rfl) rfl (mt_one _) ?_)
    refine bodyPost_ret (results_On _ _ w.heap.size mt0 1 ?_ ?_ (HZ.out.row mt0)) ?_ ?_
    · rfl
    · rfl
    · rfl
    refine ⟨?_, HB.out⟩
    unfold onM
    rw [EO.out]
    rfl
  · have E1 := Lib.hid hf
    cases hr : rightI f v k
    · have E2 := Lib.hid hr
      have EO : Hid (onOk f v k = false) := by refine Lib.hid ?_; unfold onOk; rw [hf, hr]; rfl
      clear hf hr
      have HZ := Lib.hid hz
      have HB := Lib.hid (below_setRow hB (g := w.heap.size) (Nat.le_refl _) (mtC mt0))
      clear hz hB
      refine (match_isField _ _).mono ?_
      rintro e w9 ⟨rfl, rfl⟩
      rw [E1.out]
      go_wp2_with (first | (go_at_call 26; refine (match_isField _ _).mono ?_; rintro e w9 ⟨rfl, rfl⟩; rw [E1.out]) | (go_at_call 23; refine (match_right _ _ _ _ HT.out).mono ?_; rintro e w9 ⟨rfl, rfl⟩; rw [E2.out]) | (refine st_row rfl 25 _ _ rfl w.heap.size rfl 25 (mtC mt0) (mtC mt0) rfl HZ.out (by kernel_rfl) rfl (mt_one _) ?_))
      refine bodyPost_ret (results_On _ _ w.heap.size mt0 1 ?_ ?_ (HZ.out.row mt0)) ?_ ?_
      · rfl
      · rfl
      · rfl
      refine ⟨?_, HB.out⟩
      unfold onM
      rw [EO.out]
      rfl
    · have E2 := Lib.hid hr
      have EO : Hid (onOk f v k = true) := by refine Lib.hid ?_; unfold onOk; rw [hf, hr]; rfl
      have hf2 : 0 ≤ f ∧ f < 9 := by simpa using hf
      clear hf hr
      obtain ⟨n, rfl⟩ := Int.eq_ofNat_of_zero_le hf2.1
      have hn : n < 9 := by omega
      have hk9 : ((n : Int) < 9) := hf2.2
      clear hf2
      have HZ := Lib.hid hz
      have HB := Lib.hid hB
      clear hz hB
      refine (match_isField _ _).mono ?_
      rintro e w9 ⟨rfl, rfl⟩
      rw [E1.out]
      go_wp2_with (first | (go_at_call 26; refine (match_isField _ _).mono ?_; rintro e w9 ⟨rfl, rfl⟩; rw [E1.out]) | (go_at_call 23; refine (match_right _ _ _ _ HT.out).mono ?_; rintro e w9 ⟨rfl, rfl⟩; rw [E2.out]) | (with_reducible refine halt_at (X := .fieldAddr 25 (.tmp 8) 0) ?_ ?_; (· rfl)))
      obtain ⟨W2, hW2, hq, hb⟩ := boxZ W0
      rw [← hW2]
      clear hW2
      have hz := HZ.out.below hb
      have hz1 := HZ.out.lt
      have hB := below_on HB.out hb
      clear hb HZ HB HT HT0
      generalize W0.heap.size = B2 at *
      have cv := hq.val n hn
      have uv := hq.unfrozen n
      have hq2 := Lib.hid (hq.setVal n v hn)
      have hz2 := Lib.hid (hz.other B2 n (.int .u64 v) (by omega))
      have hB2 := Lib.hid (below_put hB B2 n (by omega) (.int .u64 v))
      clear hq hz hB
      unfold Halt
      go_wp2_with (with_reducible refine halt_at (X := .fieldAddr 25 (.tmp 8) 1) ?_ ?_; (· rfl))
      obtain ⟨W3, hW3⟩ : ∃ W3, W3 = W2.setCell ⟨B2, n, none⟩ (.int .u64 v) := ⟨_, rfl⟩
      rw [← hW3] at hq2 hz2 hB2 ⊢
      clear hW3 cv uv
      have cm := hq2.out.mask n hn
      have um := hq2.out.unfrozen (9 + n)
      have hq3 := Lib.hid (hq2.out.setMask n k hn)
      have hz3 := Lib.hid (hz2.out.other B2 (9 + n) (.int .u64 k) (by omega))
      have hB3 := Lib.hid (below_put hB2.out B2 (9 + n) (by omega) (.int .u64 k))
      clear hq2 hz2 hB2
      unfold Halt
      go_wp2_with (with_reducible refine halt_at (X := .load 25 (.tmp 8)) ?_ ?_; (· rfl))
      obtain ⟨W4, hW4⟩ : ∃ W4, W4 = W3.setCell ⟨B2, 9 + n, none⟩ (.int .u64 k) := ⟨_, rfl⟩
      rw [← hW4] at hq3 hz3 hB3 ⊢
      clear hW4 cm um
      have HB := Lib.hid (below_setRow hB3.out (g := w.heap.size) (Nat.le_refl _) (mtC (m1 n v k)))
      unfold Halt
      refine ld_at (by rfl) 25 (.tmp 8) rfl B2 rfl 25 (mtC (m1 n v k)) (0, 0) _ hq3.out Tryd.underlying25 rfl (by kernel_rfl) ?_
      go_wp2_with (refine st_row rfl 25 _ _ rfl w.heap.size rfl 25 (mtC mt0) (mtC (m1 n v k)) rfl hz3.out (by kernel_rfl) rfl (mt_one _) ?_)
      refine bodyPost_ret (results_On _ _ w.heap.size (m1 n v k) 0 ?_ ?_ (hz3.out.row _)) ?_ ?_
      · rfl
      · rfl
      · rfl
      refine ⟨?_, HB.out⟩
      unfold onM
      rw [EO.out]
      rfl
end Go.Proofs.YtkcikblecinnfaaDoor
