/-
  MATCHES: Net.
-/
import Derived.Test.YtkcikblecinnfaaDoorLawM
import Derived.Test.YtkcikblecinnfaaDoorIpWalk
namespace Go.Proofs.YtkcikblecinnfaaDoor
open Go.RowKit

def maskN (n : Int) : Nat := (maskI n).toNat
theorem maskN_eq (n : Int) : ((maskN n : Nat) : Int) = maskI n := by unfold maskN; have := maskI_lo n; omega
theorem maskN_hi (n : Int) : maskN n < 4294967296 := by have := maskN_eq n; have := maskI_hi n; omega
def netOk (f a n : Int) : Bool := (f == 4 || f == 5) && rightB a n
def netE (f : Int) (a : Nat) (n : Int) : Bool := netOk f a n && onOk f a (maskN n)
def netM (f : Int) (a : Nat) (n : Int) : Mt := if netOk f a n then onM f a (maskN n) else mt0
theorem results_Net (tmps : Array Value) (W : World) (b : Nat) (m : Mt) (e : Int) (h6 : tmps.getD 4 undef = .pointer (some ⟨b, 0, none⟩)) (h7 : tmps.getD 5 undef = .int .i64 e) (hb : MBox W b m) :
    (results Tryd.f15 tmps).run Tryd.prog W = .ok (.tuple #[mtV m, .int .i64 e]) W := by
  have hl := hb.get
  unfold results
  rw [Tryd.results15]
  simp [h6, h7, hl, asAddr, -Array.getD_eq_getD_getElem?]
set_option maxRecDepth 100000 in
set_option maxHeartbeats 1000000 in
theorem match_Net (f : Int) (a : Nat) (n : Int) (w : World) (hT : Wid w) (ha : a < 4294967296) :
    Calls Tryd.prog 15 #[.int .i64 f, .agg #[.int .u32 a, .int .i64 n]] w fun e w' => e = .returned (.tuple #[mtV (netM f a n), .int .i64 (errI (netE f a n))]) ∧ Below w.heap.size w w' := by
  have HT := Lib.hid hT
  clear hT
  have a0 : (0 : Int) ≤ a := by omega
  have a1 : (a : Int) < 4294967296 := by omega
  have hwa : IntKind.u64.wrap (a : Int) = a := IntWalk.u64_in _ (by omega)
  have hwm : IntKind.u64.wrap (maskI n) = maskN n := by have := maskI_lo n; have := maskI_hi n; rw [IntWalk.u64_in _ (by omega), maskN_eq]
  have hC : Hid (∀ W, Calls Tryd.prog 16 #[.agg #[.int .u32 a, .int .i64 n]] W fun e w' => e = .returned (.int .i64 (errI (rightB a n))) ∧ Below W.heap.size W w') := Lib.hid fun W => ip_Check a n W a0 a1
  have EN : Hid (netOk f a n = ((f == 4 || f == 5) && rightB a n)) := rfl
  rcases (by omega : f = 4 ∨ (f ≠ 4 ∧ f = 5) ∨ (f ≠ 4 ∧ f ≠ 5)) with rfl | ⟨h4, rfl⟩ | ⟨h4, h5⟩
  · cases hr : rightB a n
    · have EN2 : Hid (netOk 4 a n = false) := Lib.hid (by rw [EN.out, hr]; rfl)
      have HC : Hid (∀ W, Calls Tryd.prog 16 #[.agg #[.int .u32 a, .int .i64 n]] W fun e w' => e = .returned (.int .i64 1) ∧ Below W.heap.size W w') := Lib.hid fun W => by have := hC.out W; rwa [hr] at this
      clear hC hr EN
      go_enter Tryd.func15, Tryd.ntmps15
      go_wp2_with fail
      obtain ⟨W0, hW0, c0, c1, hB⟩ := box2 w (.int .u32 a) (.int .i64 n) 42
      rw [← hW0]
      have hs : W0.heap.size = w.heap.size + 1 := by rw [hW0]; simp
      clear hW0
      obtain ⟨W1, hW1, hz, hb⟩ := boxZ W0
      rw [← hW1]
      rw [hs] at hz
      clear hW1
      have c0 := cell_below c0 hb
      have c1 := cell_below c1 hb
      replace hB := below_on hB hb
      clear hb hs
      refine (HC.out _).mono ?_
      rintro e w2 ⟨rfl, hb⟩
      have HZ := Lib.hid (hz.below hb)
      have HB := Lib.hid (below_setRow (below_on hB hb) (g := w.heap.size + 1) (by omega) (mtC mt0))
      clear hb hz hB c0 c1
      go_wp2_with (refine st_row rfl 25 _ _ rfl (w.heap.size + 1) rfl 25 (mtC mt0) (mtC mt0) rfl HZ.out (by kernel_rfl) rfl (mt_one _) ?_)
      refine bodyPost_ret (results_Net _ _ (w.heap.size + 1) mt0 1 ?_ ?_ (HZ.out.row mt0)) ?_ ?_
      · rfl
      · rfl
      · rfl
      refine ⟨?_, HB.out⟩
      unfold netM netE
      rw [EN2.out]
      rfl
    · have EN2 : Hid (netOk 4 a n = true) := Lib.hid (by rw [EN.out, hr]; rfl)
      have HC : Hid (∀ W, Calls Tryd.prog 16 #[.agg #[.int .u32 a, .int .i64 n]] W fun e w' => e = .returned (.int .i64 0) ∧ Below W.heap.size W w') := Lib.hid fun W => by have := hC.out W; rwa [hr] at this
      clear hC hr EN
      go_enter Tryd.func15, Tryd.ntmps15
      go_wp2_with fail
      obtain ⟨W0, hW0, c0, c1, hB⟩ := box2 w (.int .u32 a) (.int .i64 n) 42
      rw [← hW0]
      have hs : W0.heap.size = w.heap.size + 1 := by rw [hW0]; simp
      clear hW0
      obtain ⟨W1, hW1, hz, hb⟩ := boxZ W0
      rw [← hW1]
      rw [hs] at hz
      clear hW1
      have c0 := cell_below c0 hb
      have c1 := cell_below c1 hb
      replace hB := below_on hB hb
      clear hb hs
      refine (HC.out _).mono ?_
      rintro e w2 ⟨rfl, hb⟩
      replace hz := hz.below hb
      have c0 := cell_below c0 hb
      have c1 := cell_below c1 hb
      replace hB := below_on hB hb
      clear hb HC
      have hz0 : w.heap.size + 1 ≤ w2.heap.size := Nat.le_of_lt hz.lt
      have HW : Hid (∀ W, Below (w.heap.size + 1) w2 W → Below w.heap.size w W ∧ Wid W) := Lib.hid fun W h =>
        have hb := hB.trans (h.mono (Nat.le_succ _))
        ⟨hb, HT.out.below hb⟩
      clear hB
      replace hz : MBox w2.drew (w.heap.size + 1) mt0 := hz
      go_wp2_with fail
      refine wp_region_held_drew (S := fun w' => Below (w.heap.size + 1) w2 w') (by kernel_rfl) ?_ (fun hHeld => ?_)
      · exact (Below.refl _ _).drew
      generalize World.drew w2 = wd at hz hHeld ⊢
      refine rg_yes (i := 0) (v := ?_) at0 (by kernel_rfl) (by kernel_rfl) (by kernel_rfl) (fun _ _ _ h => h) ?_ ?_ hHeld ?_; rotate_left 1; (· rfl); (· intro w' hSw; (try dsimp only at hSw); (try clear hHeld); go_simp; try with_reducible rfl)
      try simp only [Act.put, List.setIfInBounds_toArray, List.set_cons_zero, List.set_cons_succ]
      refine rg_yes (i := 1) (v := ?_) (atS at0) (by kernel_rfl) (by kernel_rfl) (by kernel_rfl) (fun _ _ _ h => h) ?_ ?_ hHeld ?_; rotate_left 1; (· rfl); (· intro w' hSw; (try dsimp only at hSw); (try clear hHeld); go_simp; try with_reducible rfl)
      try simp only [Act.put, List.setIfInBounds_toArray, List.set_cons_zero, List.set_cons_succ]
      refine rg_yes (i := 2) (v := ?_) (atS (atS at0)) (by kernel_rfl) (by kernel_rfl) (by kernel_rfl) (fun _ _ _ h => h) ?_ ?_ hHeld ?_; rotate_left 1; (· rfl); (· intro w' hSw; (try dsimp only at hSw); have c0 := (hSw.cell (p := ⟨w.heap.size, 0, none⟩) (Nat.lt_succ_self _)).trans c0; have c1 := (hSw.cell (p := ⟨w.heap.size, 1, none⟩) (Nat.lt_succ_self _)).trans c1; (try clear hHeld); go_simp; try with_reducible rfl)
      try simp only [Act.put, List.setIfInBounds_toArray, List.set_cons_zero, List.set_cons_succ]
      refine rg_yes (i := 3) (v := ?_) (atS (atS (atS at0))) (by kernel_rfl) (by kernel_rfl) (by kernel_rfl) (fun _ _ _ h => h) ?_ ?_ hHeld ?_; rotate_left 1; (· rfl); (· intro w' hSw; (try dsimp only at hSw); (try clear hHeld); go_simp; try with_reducible rfl)
      try simp only [Act.put, List.setIfInBounds_toArray, List.set_cons_zero, List.set_cons_succ]
      refine rg_yes (i := 4) (v := ?_) (atS (atS (atS (atS at0)))) (by kernel_rfl) (by kernel_rfl) (by kernel_rfl) (fun _ _ _ h => h) ?_ ?_ hHeld ?_; rotate_left 1; (· rfl); (· intro w' hSw; (try dsimp only at hSw); (try clear hHeld); go_simp; try with_reducible rfl)
      try simp only [Act.put, List.setIfInBounds_toArray, List.set_cons_zero, List.set_cons_succ]
      refine rg_yes (i := 5) (v := ?_) (atS (atS (atS (atS (atS at0))))) (by kernel_rfl) (by kernel_rfl) (by kernel_rfl) (fun _ _ _ h => h) ?_ ?_ hHeld ?_; rotate_left 1; (· rfl); (· intro w' hSw; (try dsimp only at hSw); have c0 := (hSw.cell (p := ⟨w.heap.size, 0, none⟩) (Nat.lt_succ_self _)).trans c0; have c1 := (hSw.cell (p := ⟨w.heap.size, 1, none⟩) (Nat.lt_succ_self _)).trans c1; (try clear hHeld); go_simp; try with_reducible rfl)
      try simp only [Act.put, List.setIfInBounds_toArray, List.set_cons_zero, List.set_cons_succ]
      refine rg_call (i := 6) (atS (atS (atS (atS (atS (atS at0)))))) (by kernel_rfl) ?_ (fun K hK => ?_); (· rfl); (try clear hb); go_simp; (refine (calls_below (ip_Mask n _)).mono ?_; rintro e w1 ⟨rfl, hb⟩); replace hz := hz.below hb; go_wp2_with fail; refine hK.out _ _ ?_ (fun hHeld => ?_); (· exact hHeld.trans (hb.mono (Nat.le_trans hz0 hHeld.size))); clear hK K
      try simp only [Act.put, List.setIfInBounds_toArray, List.set_cons_zero, List.set_cons_succ]
      refine rg_yes (i := 7) (v := ?_) (atS (atS (atS (atS (atS (atS (atS at0))))))) (by kernel_rfl) (by kernel_rfl) (by kernel_rfl) (fun _ _ _ h => h) ?_ ?_ hHeld ?_; rotate_left 1; (· rfl); (· intro w' hSw; (try dsimp only at hSw); (try clear hHeld); go_simp; try with_reducible rfl)
      try simp only [Act.put, List.setIfInBounds_toArray, List.set_cons_zero, List.set_cons_succ]
      refine rg_call (i := 8) (atS (atS (atS (atS (atS (atS (atS (atS at0)))))))) (by kernel_rfl) ?_ (fun K hK => ?_); (· rfl); (try clear hb); go_simp; (refine (match_On 4 a (maskN n) _ (HW.out _ hHeld).2).mono ?_; rintro e w1 ⟨rfl, hb⟩); replace hz := hz.below hb; go_wp2_with fail; refine hK.out _ _ ?_ (fun hHeld => ?_); (· exact hHeld.trans (hb.mono (Nat.le_trans hz0 hHeld.size))); clear hK K
      try simp only [Act.put, List.setIfInBounds_toArray, List.set_cons_zero, List.set_cons_succ]
      refine rg_yes (i := 9) (v := ?_) (atS (atS (atS (atS (atS (atS (atS (atS (atS at0))))))))) (by kernel_rfl) (by kernel_rfl) (by kernel_rfl) (fun _ _ _ h => h) ?_ ?_ hHeld ?_; rotate_left 1; (· rfl); (· intro w' hSw; (try dsimp only at hSw); (try clear hHeld); go_simp; try with_reducible rfl)
      try simp only [Act.put, List.setIfInBounds_toArray, List.set_cons_zero, List.set_cons_succ]
      refine rg_yes (i := 10) (v := ?_) (atS (atS (atS (atS (atS (atS (atS (atS (atS (atS at0)))))))))) (by kernel_rfl) (by kernel_rfl) (by kernel_rfl) (fun _ _ _ h => h) ?_ ?_ hHeld ?_; rotate_left 1; (· rfl); (· intro w' hSw; (try dsimp only at hSw); (try clear hHeld); go_simp; try with_reducible rfl)
      try simp only [Act.put, List.setIfInBounds_toArray, List.set_cons_zero, List.set_cons_succ]
      refine rg_call (i := 11) (atS (atS (atS (atS (atS (atS (atS (atS (atS (atS (atS at0))))))))))) (by kernel_rfl) ?_ (fun K hK => ?_); (· rfl); (try clear hb); refine wp_store_rowat 25 (.tmp 4) (.tmp 27) rfl _ rfl 25 (mtC mt0) (mtC (onM 4 a (maskN n))) rfl hz (by kernel_rfl) rfl (mt_one _) ?_; refine hK.out _ _ ?_ (fun hHeld => ?_); (· exact below_setRow hHeld (Nat.le_refl _) _); clear hK K
      try simp only [Act.put]
      refine rg_yes (i := 12) (v := ?_) (atS (atS (atS (atS (atS (atS (atS (atS (atS (atS (atS (atS at0)))))))))))) (by kernel_rfl) (by kernel_rfl) (by kernel_rfl) (fun _ _ _ h => h) ?_ ?_ hHeld ?_; rotate_left 1; (· rfl); (· intro w' hSw; (try dsimp only at hSw); (try clear hHeld); go_simp; try with_reducible rfl)
      try simp only [Act.put, List.setIfInBounds_toArray, List.set_cons_zero, List.set_cons_succ]
      refine wpAnyH_done (by kernel_rfl) ?_ _
      have HZ := Lib.hid (hz.row (onM 4 a (maskN n)))
      have HB := Lib.hid (HW.out _ hHeld).1
      clear hz hHeld c0 c1
      go_wp2_with fail
      refine bodyPost_ret (results_Net _ _ (w.heap.size + 1) (onM 4 a (maskN n)) (errI (onOk 4 a (maskN n))) ?_ ?_ HZ.out) ?_ ?_
      · rfl
      · rfl
      · rfl
      refine ⟨?_, HB.out⟩
      unfold netM netE
      rw [EN2.out]
      rfl
  · cases hr : rightB a n
    · have EN2 : Hid (netOk 5 a n = false) := Lib.hid (by rw [EN.out, hr]; rfl)
      have HC : Hid (∀ W, Calls Tryd.prog 16 #[.agg #[.int .u32 a, .int .i64 n]] W fun e w' => e = .returned (.int .i64 1) ∧ Below W.heap.size W w') := Lib.hid fun W => by have := hC.out W; rwa [hr] at this
      clear hC hr EN
      go_enter Tryd.func15, Tryd.ntmps15
      go_wp2_with fail
      obtain ⟨W0, hW0, c0, c1, hB⟩ := box2 w (.int .u32 a) (.int .i64 n) 42
      rw [← hW0]
      have hs : W0.heap.size = w.heap.size + 1 := by rw [hW0]; simp
      clear hW0
      obtain ⟨W1, hW1, hz, hb⟩ := boxZ W0
      rw [← hW1]
      rw [hs] at hz
      clear hW1
      have c0 := cell_below c0 hb
      have c1 := cell_below c1 hb
      replace hB := below_on hB hb
      clear hb hs
      refine (HC.out _).mono ?_
      rintro e w2 ⟨rfl, hb⟩
      have HZ := Lib.hid (hz.below hb)
      have HB := Lib.hid (below_setRow (below_on hB hb) (g := w.heap.size + 1) (by omega) (mtC mt0))
      clear hb hz hB c0 c1
      go_wp2_with (refine st_row rfl 25 _ _ rfl (w.heap.size + 1) rfl 25 (mtC mt0) (mtC mt0) rfl HZ.out (by kernel_rfl) rfl (mt_one _) ?_)
      refine bodyPost_ret (results_Net _ _ (w.heap.size + 1) mt0 1 ?_ ?_ (HZ.out.row mt0)) ?_ ?_
      · rfl
      · rfl
      · rfl
      refine ⟨?_, HB.out⟩
      unfold netM netE
      rw [EN2.out]
      rfl
    · have EN2 : Hid (netOk 5 a n = true) := Lib.hid (by rw [EN.out, hr]; rfl)
      have HC : Hid (∀ W, Calls Tryd.prog 16 #[.agg #[.int .u32 a, .int .i64 n]] W fun e w' => e = .returned (.int .i64 0) ∧ Below W.heap.size W w') := Lib.hid fun W => by have := hC.out W; rwa [hr] at this
      clear hC hr EN
      go_enter Tryd.func15, Tryd.ntmps15
      go_wp2_with fail
      obtain ⟨W0, hW0, c0, c1, hB⟩ := box2 w (.int .u32 a) (.int .i64 n) 42
      rw [← hW0]
      have hs : W0.heap.size = w.heap.size + 1 := by rw [hW0]; simp
      clear hW0
      obtain ⟨W1, hW1, hz, hb⟩ := boxZ W0
      rw [← hW1]
      rw [hs] at hz
      clear hW1
      have c0 := cell_below c0 hb
      have c1 := cell_below c1 hb
      replace hB := below_on hB hb
      clear hb hs
      refine (HC.out _).mono ?_
      rintro e w2 ⟨rfl, hb⟩
      replace hz := hz.below hb
      have c0 := cell_below c0 hb
      have c1 := cell_below c1 hb
      replace hB := below_on hB hb
      clear hb HC
      have hz0 : w.heap.size + 1 ≤ w2.heap.size := Nat.le_of_lt hz.lt
      have HW : Hid (∀ W, Below (w.heap.size + 1) w2 W → Below w.heap.size w W ∧ Wid W) := Lib.hid fun W h =>
        have hb := hB.trans (h.mono (Nat.le_succ _))
        ⟨hb, HT.out.below hb⟩
      clear hB
      replace hz : MBox w2.drew (w.heap.size + 1) mt0 := hz
      go_wp2_with fail
      refine wp_region_held_drew (S := fun w' => Below (w.heap.size + 1) w2 w') (by kernel_rfl) ?_ (fun hHeld => ?_)
      · exact (Below.refl _ _).drew
      generalize World.drew w2 = wd at hz hHeld ⊢
      refine rg_yes (i := 0) (v := ?_) at0 (by kernel_rfl) (by kernel_rfl) (by kernel_rfl) (fun _ _ _ h => h) ?_ ?_ hHeld ?_; rotate_left 1; (· rfl); (· intro w' hSw; (try dsimp only at hSw); (try clear hHeld); go_simp; try with_reducible rfl)
      try simp only [Act.put, List.setIfInBounds_toArray, List.set_cons_zero, List.set_cons_succ]
      refine rg_yes (i := 1) (v := ?_) (atS at0) (by kernel_rfl) (by kernel_rfl) (by kernel_rfl) (fun _ _ _ h => h) ?_ ?_ hHeld ?_; rotate_left 1; (· rfl); (· intro w' hSw; (try dsimp only at hSw); (try clear hHeld); go_simp; try with_reducible rfl)
      try simp only [Act.put, List.setIfInBounds_toArray, List.set_cons_zero, List.set_cons_succ]
      refine rg_yes (i := 2) (v := ?_) (atS (atS at0)) (by kernel_rfl) (by kernel_rfl) (by kernel_rfl) (fun _ _ _ h => h) ?_ ?_ hHeld ?_; rotate_left 1; (· rfl); (· intro w' hSw; (try dsimp only at hSw); have c0 := (hSw.cell (p := ⟨w.heap.size, 0, none⟩) (Nat.lt_succ_self _)).trans c0; have c1 := (hSw.cell (p := ⟨w.heap.size, 1, none⟩) (Nat.lt_succ_self _)).trans c1; (try clear hHeld); go_simp; try with_reducible rfl)
      try simp only [Act.put, List.setIfInBounds_toArray, List.set_cons_zero, List.set_cons_succ]
      refine rg_yes (i := 3) (v := ?_) (atS (atS (atS at0))) (by kernel_rfl) (by kernel_rfl) (by kernel_rfl) (fun _ _ _ h => h) ?_ ?_ hHeld ?_; rotate_left 1; (· rfl); (· intro w' hSw; (try dsimp only at hSw); (try clear hHeld); go_simp; try with_reducible rfl)
      try simp only [Act.put, List.setIfInBounds_toArray, List.set_cons_zero, List.set_cons_succ]
      refine rg_yes (i := 4) (v := ?_) (atS (atS (atS (atS at0)))) (by kernel_rfl) (by kernel_rfl) (by kernel_rfl) (fun _ _ _ h => h) ?_ ?_ hHeld ?_; rotate_left 1; (· rfl); (· intro w' hSw; (try dsimp only at hSw); (try clear hHeld); go_simp; try with_reducible rfl)
      try simp only [Act.put, List.setIfInBounds_toArray, List.set_cons_zero, List.set_cons_succ]
      refine rg_yes (i := 5) (v := ?_) (atS (atS (atS (atS (atS at0))))) (by kernel_rfl) (by kernel_rfl) (by kernel_rfl) (fun _ _ _ h => h) ?_ ?_ hHeld ?_; rotate_left 1; (· rfl); (· intro w' hSw; (try dsimp only at hSw); have c0 := (hSw.cell (p := ⟨w.heap.size, 0, none⟩) (Nat.lt_succ_self _)).trans c0; have c1 := (hSw.cell (p := ⟨w.heap.size, 1, none⟩) (Nat.lt_succ_self _)).trans c1; (try clear hHeld); go_simp; try with_reducible rfl)
      try simp only [Act.put, List.setIfInBounds_toArray, List.set_cons_zero, List.set_cons_succ]
      refine rg_call (i := 6) (atS (atS (atS (atS (atS (atS at0)))))) (by kernel_rfl) ?_ (fun K hK => ?_); (· rfl); (try clear hb); go_simp; (refine (calls_below (ip_Mask n _)).mono ?_; rintro e w1 ⟨rfl, hb⟩); replace hz := hz.below hb; go_wp2_with fail; refine hK.out _ _ ?_ (fun hHeld => ?_); (· exact hHeld.trans (hb.mono (Nat.le_trans hz0 hHeld.size))); clear hK K
      try simp only [Act.put, List.setIfInBounds_toArray, List.set_cons_zero, List.set_cons_succ]
      refine rg_yes (i := 7) (v := ?_) (atS (atS (atS (atS (atS (atS (atS at0))))))) (by kernel_rfl) (by kernel_rfl) (by kernel_rfl) (fun _ _ _ h => h) ?_ ?_ hHeld ?_; rotate_left 1; (· rfl); (· intro w' hSw; (try dsimp only at hSw); (try clear hHeld); go_simp; try with_reducible rfl)
      try simp only [Act.put, List.setIfInBounds_toArray, List.set_cons_zero, List.set_cons_succ]
      refine rg_call (i := 8) (atS (atS (atS (atS (atS (atS (atS (atS at0)))))))) (by kernel_rfl) ?_ (fun K hK => ?_); (· rfl); (try clear hb); go_simp; (refine (match_On 5 a (maskN n) _ (HW.out _ hHeld).2).mono ?_; rintro e w1 ⟨rfl, hb⟩); replace hz := hz.below hb; go_wp2_with fail; refine hK.out _ _ ?_ (fun hHeld => ?_); (· exact hHeld.trans (hb.mono (Nat.le_trans hz0 hHeld.size))); clear hK K
      try simp only [Act.put, List.setIfInBounds_toArray, List.set_cons_zero, List.set_cons_succ]
      refine rg_yes (i := 9) (v := ?_) (atS (atS (atS (atS (atS (atS (atS (atS (atS at0))))))))) (by kernel_rfl) (by kernel_rfl) (by kernel_rfl) (fun _ _ _ h => h) ?_ ?_ hHeld ?_; rotate_left 1; (· rfl); (· intro w' hSw; (try dsimp only at hSw); (try clear hHeld); go_simp; try with_reducible rfl)
      try simp only [Act.put, List.setIfInBounds_toArray, List.set_cons_zero, List.set_cons_succ]
      refine rg_yes (i := 10) (v := ?_) (atS (atS (atS (atS (atS (atS (atS (atS (atS (atS at0)))))))))) (by kernel_rfl) (by kernel_rfl) (by kernel_rfl) (fun _ _ _ h => h) ?_ ?_ hHeld ?_; rotate_left 1; (· rfl); (· intro w' hSw; (try dsimp only at hSw); (try clear hHeld); go_simp; try with_reducible rfl)
      try simp only [Act.put, List.setIfInBounds_toArray, List.set_cons_zero, List.set_cons_succ]
      refine rg_call (i := 11) (atS (atS (atS (atS (atS (atS (atS (atS (atS (atS (atS at0))))))))))) (by kernel_rfl) ?_ (fun K hK => ?_); (· rfl); (try clear hb); refine wp_store_rowat 25 (.tmp 4) (.tmp 27) rfl _ rfl 25 (mtC mt0) (mtC (onM 5 a (maskN n))) rfl hz (by kernel_rfl) rfl (mt_one _) ?_; refine hK.out _ _ ?_ (fun hHeld => ?_); (· exact below_setRow hHeld (Nat.le_refl _) _); clear hK K
      try simp only [Act.put]
      refine rg_yes (i := 12) (v := ?_) (atS (atS (atS (atS (atS (atS (atS (atS (atS (atS (atS (atS at0)))))))))))) (by kernel_rfl) (by kernel_rfl) (by kernel_rfl) (fun _ _ _ h => h) ?_ ?_ hHeld ?_; rotate_left 1; (· rfl); (· intro w' hSw; (try dsimp only at hSw); (try clear hHeld); go_simp; try with_reducible rfl)
      try simp only [Act.put, List.setIfInBounds_toArray, List.set_cons_zero, List.set_cons_succ]
      refine wpAnyH_done (by kernel_rfl) ?_ _
      have HZ := Lib.hid (hz.row (onM 5 a (maskN n)))
      have HB := Lib.hid (HW.out _ hHeld).1
      clear hz hHeld c0 c1
      go_wp2_with fail
      refine bodyPost_ret (results_Net _ _ (w.heap.size + 1) (onM 5 a (maskN n)) (errI (onOk 5 a (maskN n))) ?_ ?_ HZ.out) ?_ ?_
      · rfl
      · rfl
      · rfl
      refine ⟨?_, HB.out⟩
      unfold netM netE
      rw [EN2.out]
      rfl
  · have EN2 : Hid (netOk f a n = false) := Lib.hid (by rw [EN.out]; simp [h4, h5])
    have e4 : (f != 4) = true := by simp [h4]
    have e5 : (f != 5) = true := by simp [h5]
    clear hC EN
    go_enter Tryd.func15, Tryd.ntmps15
    go_wp2_with (with_reducible refine halt_at (X := .build 25 #[]) ?_ ?_; (· rfl))
    obtain ⟨W0, hW0, _, _, hB⟩ := box2 w (.int .u32 a) (.int .i64 n) 42
    rw [← hW0]
    have hs : W0.heap.size = w.heap.size + 1 := by rw [hW0]; simp
    clear hW0
    obtain ⟨W1, hW1, hz, hb⟩ := boxZ W0
    rw [← hW1]
    rw [hs] at hz
    clear hW1
    have HZ := Lib.hid hz
    have HB := Lib.hid (below_setRow (below_on hB hb) (g := w.heap.size + 1) (by omega) (mtC mt0))
    clear hb hz hB
    unfold Halt
    go_wp2_with (refine st_row rfl 25 _ _ rfl (w.heap.size + 1) rfl 25 (mtC mt0) (mtC mt0) rfl HZ.out (by kernel_rfl) rfl (mt_one _) ?_)
    refine bodyPost_ret (results_Net _ _ (w.heap.size + 1) mt0 1 ?_ ?_ (HZ.out.row mt0)) ?_ ?_
    · rfl
    · rfl
    · rfl
    refine ⟨?_, HB.out⟩
    unfold netM netE
    rw [EN2.out]
    rfl
end Go.Proofs.YtkcikblecinnfaaDoor
