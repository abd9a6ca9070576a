/-
  MatchNets, the walk: matches of nets cover and meet as the nets do.
-/
import Derived.Test.YtkcikblecinnfaaDoorNetLaws
namespace Go.Proofs.YtkcikblecinnfaaDoor
open Go.RowKit

set_option maxRecDepth 100000 in
set_option maxHeartbeats 3200000 in
theorem law_MatchNets (a b : Nat) (n m : Int) (w : World) (hT : Wid w) (ha : a < 4294967296) (hb' : b < 4294967296) :
    Calls Tryd.prog 5 #[.agg #[.int .u32 a, .int .i64 n], .agg #[.int .u32 b, .int .i64 m]] w fun e w' => e = .returned (.bool true) ∧ Below w.heap.size w w' := by
  have HT := Lib.hid hT
  clear hT
  have HCa : Hid (∀ W, Calls Tryd.prog 16 #[.agg #[.int .u32 a, .int .i64 n]] W fun e w' => e = .returned (.int .i64 (errI (rightB a n))) ∧ Below W.heap.size W w') := Lib.hid fun W => ip_Check a n W (by omega) (by omega)
  have HCb : Hid (∀ W, Calls Tryd.prog 16 #[.agg #[.int .u32 b, .int .i64 m]] W fun e w' => e = .returned (.int .i64 (errI (rightB b m))) ∧ Below W.heap.size W w') := Lib.hid fun W => ip_Check b m W (by omega) (by omega)
  go_enter Tryd.func5, Tryd.ntmps5
  go_wp2_with fail
  obtain ⟨W0, hW0, c0, c1, d0, d1, hB⟩ := box22 w (.int .u32 a) (.int .i64 n) (.int .u32 b) (.int .i64 m) 42 42
  rw [← hW0]; clear hW0
  refine (law_example _ (HT.out.below hB)).mono ?_
  rintro e w1 ⟨rfl, hb⟩
  replace c0 := cell_below c0 hb; replace c1 := cell_below c1 hb; replace d0 := cell_below d0 hb; replace d1 := cell_below d1 hb; replace hB := below_on hB hb
  clear hb
  go_wp2_with fail
  refine (match_Net 5 a n _ (HT.out.below hB) ha).mono ?_
  rintro e w2 ⟨rfl, hb⟩
  rw [net_E a n ha]
  replace c0 := cell_below c0 hb; replace c1 := cell_below c1 hb; replace d0 := cell_below d0 hb; replace d1 := cell_below d1 hb; replace hB := below_on hB hb
  clear hb
  go_wp2_with (first | (refine st_fresh rfl 25 _ _ rfl rfl (mtC mt0) (mtC (netM 5 a n)) rfl (by kernel_rfl) rfl (mt_one _) ?_) | (with_reducible refine halt_at (X := .load 42 (.tmp 3)) ?_ ?_; (· rfl)))
  obtain ⟨W3, hW3, hp, hb⟩ := boxM w2 (netM 5 a n)
  rw [← hW3]; clear hW3
  replace c0 := cell_below c0 hb; replace c1 := cell_below c1 hb; replace d0 := cell_below d0 hb; replace d1 := cell_below d1 hb; replace hB := below_on hB hb
  clear hb
  unfold Halt
  have HP := Lib.hid hp
  clear hp
  go_wp2_with fail
  refine (match_Net 5 b m _ (HT.out.below hB) hb').mono ?_
  rintro e w4 ⟨rfl, hb⟩
  rw [net_E b m hb']
  replace c0 := cell_below c0 hb; replace c1 := cell_below c1 hb; replace d0 := cell_below d0 hb; replace d1 := cell_below d1 hb; replace hB := below_on hB hb
  have hp := HP.out.below hb
  clear hb HP
  have HP := Lib.hid hp
  clear hp
  have hzz : w2.heap.size = w2.heap.size := rfl
  cases hra : rightB a n
  · have HA : Hid (∀ W, Calls Tryd.prog 16 #[.agg #[.int .u32 a, .int .i64 n]] W fun e w' => e = .returned (.int .i64 1) ∧ Below W.heap.size W w') := Lib.hid fun W => by have := HCa.out W; rwa [hra] at this
    clear HCa hra
    rw [show errI false = 1 from rfl]
    go_wp2_with (first | (refine st_fresh rfl 25 _ _ rfl rfl (mtC mt0) (mtC (netM 5 b m)) rfl (by kernel_rfl) rfl (mt_one _) ?_) | (with_reducible refine halt_at (X := .load 42 (.tmp 2)) ?_ ?_; (· rfl)))
    obtain ⟨W5, hW5, _, hb⟩ := boxM w4 (netM 5 b m)
    rw [← hW5]; clear hW5
    replace c0 := cell_below c0 hb; replace c1 := cell_below c1 hb; replace d0 := cell_below d0 hb; replace d1 := cell_below d1 hb; replace hB := below_on hB hb
    clear hb
    unfold Halt
    go_wp2_with fail
    refine (HA.out _).mono ?_
    rintro e w6 ⟨rfl, hb⟩
    replace hB := below_on hB hb
    clear hb c0 c1 d0 d1
    go_wp2_with fail
    go_ret
    exact ⟨rfl, hB⟩
  · have HA : Hid (∀ W, Calls Tryd.prog 16 #[.agg #[.int .u32 a, .int .i64 n]] W fun e w' => e = .returned (.int .i64 0) ∧ Below W.heap.size W w') := Lib.hid fun W => by have := HCa.out W; rwa [hra] at this
    rw [show errI true = 0 from rfl]
    cases hrb : rightB b m
    · have HBc : Hid (∀ W, Calls Tryd.prog 16 #[.agg #[.int .u32 b, .int .i64 m]] W fun e w' => e = .returned (.int .i64 1) ∧ Below W.heap.size W w') := Lib.hid fun W => by have := HCb.out W; rwa [hrb] at this
      clear HCa HCb hra hrb
      rw [show errI false = 1 from rfl]
      go_wp2_with (first | (refine st_fresh rfl 25 _ _ rfl rfl (mtC mt0) (mtC (netM 5 b m)) rfl (by kernel_rfl) rfl (mt_one _) ?_) | (with_reducible refine halt_at (X := .load 42 (.tmp 2)) ?_ ?_; (· rfl)))
      obtain ⟨W5, hW5, _, hb⟩ := boxM w4 (netM 5 b m)
      rw [← hW5]; clear hW5
      replace c0 := cell_below c0 hb; replace c1 := cell_below c1 hb; replace d0 := cell_below d0 hb; replace d1 := cell_below d1 hb; replace hB := below_on hB hb
      clear hb
      unfold Halt
      go_wp2_with fail
      refine (HA.out _).mono ?_
      rintro e w6 ⟨rfl, hb⟩
      replace c0 := cell_below c0 hb; replace c1 := cell_below c1 hb; replace d0 := cell_below d0 hb; replace d1 := cell_below d1 hb; replace hB := below_on hB hb
      clear hb
      go_wp2_with fail
      refine (HBc.out _).mono ?_
      rintro e w7 ⟨rfl, hb⟩
      replace hB := below_on hB hb
      clear hb c0 c1 d0 d1
      go_wp2_with fail
      go_ret
      exact ⟨rfl, hB⟩
    · have hcv := net_covers a b n m ha hb' hra hrb
      have hmv := net_meets a b n m ha hb' hra hrb
      have OP : Hid (netM 5 a n).Ok := Lib.hid (by rw [net_M a n ha hra]; exact m1_ok _ _ (by omega) (by have := maskN_hi n; omega))
      have OQ : Hid (netM 5 b m).Ok := Lib.hid (by rw [net_M b m hb' hrb]; exact m1_ok _ _ (by omega) (by have := maskN_hi m; omega))
      clear HCa HCb HA hra hrb
      rw [show errI true = 0 from rfl]
      generalize netM 5 a n = P at *
      generalize netM 5 b m = Q at *
      have HIp : Hid (∀ W, Calls Tryd.prog 20 #[.agg #[.int .u32 a, .int .i64 n], .agg #[.int .u32 b, .int .i64 m]] W fun e w' => e = .returned (.bool (coversM P Q)) ∧ Below W.heap.size W w') := Lib.hid fun W => by
        have := ip_Covers a n b m W (by omega) (by omega) (by omega) (by omega); rwa [← hcv] at this
      have HMe : Hid (∀ W, Calls Tryd.prog 21 #[.agg #[.int .u32 a, .int .i64 n], .agg #[.int .u32 b, .int .i64 m]] W fun e w' => e = .returned (.bool (andOk P Q)) ∧ Below W.heap.size W w') := Lib.hid fun W => by
        have := ip_Meets a n b m W (by omega) (by omega) (by omega) (by omega); rwa [← hmv] at this
      have HCo : Hid (∀ W, Calls Tryd.prog 19 #[mtV P, mtV Q] W fun e w' => e = .returned (.bool (coversM P Q)) ∧ Below W.heap.size W w') := Lib.hid fun W => match_Covers P Q W
      clear hcv hmv
      have C0 := Lib.hid c0
      have C1 := Lib.hid c1
      have D0 := Lib.hid d0
      have D1 := Lib.hid d1
      clear c0 c1 d0 d1
      go_wp2_with (first | (refine st_fresh rfl 25 _ _ rfl rfl (mtC mt0) (mtC Q) rfl (by kernel_rfl) rfl (mt_one _) ?_) | (with_reducible refine halt_at (X := .load 25 (.tmp 5)) ?_ ?_; (· rfl)))
      obtain ⟨W5, hW5, hq, hb⟩ := boxM w4 Q
      rw [← hW5]; clear hW5
      have hp := HP.out.below hb
      have c0 := C0.out
      have c1 := C1.out
      have d0 := D0.out
      have d1 := D1.out
      replace c0 := cell_below c0 hb; replace c1 := cell_below c1 hb; replace d0 := cell_below d0 hb; replace d1 := cell_below d1 hb; replace hB := below_on hB hb
      clear hb HP C0 C1 D0 D1
      unfold Halt
      refine ld_at (by rfl) 25 (.tmp 5) rfl w2.heap.size rfl 25 (mtC (P)) (0, 0) _ hp Tryd.underlying25 rfl (by kernel_rfl) ?_
      have HP := Lib.hid hp
      have HQ := Lib.hid hq
      have C0 := Lib.hid c0
      have C1 := Lib.hid c1
      have D0 := Lib.hid d0
      have D1 := Lib.hid d1
      clear c0 c1 d0 d1 hp hq
      go_wp2_with (with_reducible refine halt_at (X := .load 25 (.tmp 7)) ?_ ?_; (· rfl))
      unfold Halt
      refine ld_at (by rfl) 25 (.tmp 7) rfl w4.heap.size rfl 25 (mtC (Q)) (0, 0) _ HQ.out Tryd.underlying25 rfl (by kernel_rfl) ?_
      go_wp2_with fail
      refine (match_And P Q _ OP.out OQ.out).mono ?_
      rintro e w6 ⟨rfl, hb⟩
      have hp := HP.out.below hb
      have hq := HQ.out.below hb
      have c0 := cell_below C0.out hb
      have c1 := cell_below C1.out hb
      have d0 := cell_below D0.out hb
      have d1 := cell_below D1.out hb
      replace hB := below_on hB hb
      clear hb HP HQ C0 C1 D0 D1
      generalize andM P Q = X
      obtain ⟨W7, hW7, _, hb⟩ := boxM w6 X
      have HP := Lib.hid (hp.below hb)
      have HQ := Lib.hid (hq.below hb)
      have C0 := Lib.hid (cell_below c0 hb)
      have C1 := Lib.hid (cell_below c1 hb)
      have D0 := Lib.hid (cell_below d0 hb)
      have D1 := Lib.hid (cell_below d1 hb)
      have HB := Lib.hid (below_on hB hb)
      clear hb hp hq c0 c1 d0 d1 hB
      cases hcv : coversM P Q <;> cases hmv : andOk P Q
      all_goals
        rw [hcv] at HIp HCo
        rw [hmv] at HMe
        clear hcv hmv
        go_wp2_with (refine st_fresh rfl 25 _ _ rfl rfl (mtC mt0) (mtC X) rfl (by kernel_rfl) rfl (mt_one _) ?_)
        rw [← hW7]
        clear hW7
        have c0 := C0.out
        have c1 := C1.out
        have d0 := D0.out
        have d1 := D1.out
        refine wp_region_held_drew (S := fun w' => Below W7.heap.size W7 w') (by kernel_rfl) ?_ (fun hHeld => ?_)
        · exact (Below.refl _ _).drew
        refine rg_yes (i := 0) (v := ?_) at0 (by kernel_rfl) (by kernel_rfl) (by kernel_rfl) (fun _ _ _ h => h) ?_ ?_ hHeld ?_; rotate_left 1; (· rfl); (· intro w' hSw; (try dsimp only at hSw); refine exec_ld 25 (.tmp 5) ?_ w2.heap.size ?_ 25 _ (0, 0) _ (HP.out.below hSw) Tryd.underlying25 rfl (by kernel_rfl) <;> rfl)
        try simp only [Act.put, List.setIfInBounds_toArray, List.set_cons_zero, List.set_cons_succ]
        refine rg_yes (i := 1) (v := ?_) (atS at0) (by kernel_rfl) (by kernel_rfl) (by kernel_rfl) (fun _ _ _ h => h) ?_ ?_ hHeld ?_; rotate_left 1; (· rfl); (· intro w' hSw; (try dsimp only at hSw); refine exec_ld 25 (.tmp 7) ?_ w4.heap.size ?_ 25 _ (0, 0) _ (HQ.out.below hSw) Tryd.underlying25 rfl (by kernel_rfl) <;> rfl)
        try simp only [Act.put, List.setIfInBounds_toArray, List.set_cons_zero, List.set_cons_succ]
        refine rg_yes (i := 3) (v := ?_) (atS (atS (atS at0))) (by kernel_rfl) (by kernel_rfl) (by kernel_rfl) (fun _ _ _ h => h) ?_ ?_ hHeld ?_; rotate_left 1; (· rfl); (· intro w' hSw; (try dsimp only at hSw); have c0 := cell_below c0 hSw; have c1 := cell_below c1 hSw; have d0 := cell_below d0 hSw; have d1 := cell_below d1 hSw; (try clear hHeld); go_simp; try with_reducible rfl)
        try simp only [Act.put, List.setIfInBounds_toArray, List.set_cons_zero, List.set_cons_succ]
        refine rg_yes (i := 4) (v := ?_) (atS (atS (atS (atS at0)))) (by kernel_rfl) (by kernel_rfl) (by kernel_rfl) (fun _ _ _ h => h) ?_ ?_ hHeld ?_; rotate_left 1; (· rfl); (· intro w' hSw; (try dsimp only at hSw); have c0 := cell_below c0 hSw; have c1 := cell_below c1 hSw; have d0 := cell_below d0 hSw; have d1 := cell_below d1 hSw; (try clear hHeld); go_simp; try with_reducible rfl)
        try simp only [Act.put, List.setIfInBounds_toArray, List.set_cons_zero, List.set_cons_succ]
        refine rg_call (i := 2) (atS (atS at0)) (by kernel_rfl) ?_ (fun K hK => ?_); (· rfl); (try clear hb); go_simp; (refine (HCo.out _).mono ?_; rintro e w1 ⟨rfl, hb⟩); go_wp2_with fail; refine hK.out _ _ ?_ (fun hHeld => ?_); (· exact hHeld.trans (hb.mono hHeld.size)); clear hK K
        try simp only [Act.put, List.setIfInBounds_toArray, List.set_cons_zero, List.set_cons_succ]
        refine rg_call (i := 5) (atS (atS (atS (atS (atS at0))))) (by kernel_rfl) ?_ (fun K hK => ?_); (· rfl); (try clear hb); go_simp; (refine (HIp.out _).mono ?_; rintro e w1 ⟨rfl, hb⟩); go_wp2_with fail; refine hK.out _ _ ?_ (fun hHeld => ?_); (· exact hHeld.trans (hb.mono hHeld.size)); clear hK K
        try simp only [Act.put, List.setIfInBounds_toArray, List.set_cons_zero, List.set_cons_succ]
        refine rg_yes (i := 6) (v := ?_) (atS (atS (atS (atS (atS (atS at0)))))) (by kernel_rfl) (by kernel_rfl) (by kernel_rfl) (fun _ _ _ h => h) ?_ ?_ hHeld ?_; rotate_left 1; (· rfl); (· intro w' hSw; (try dsimp only at hSw); (try clear hHeld); go_simp; try with_reducible rfl)
        try simp only [Act.put, List.setIfInBounds_toArray, List.set_cons_zero, List.set_cons_succ]
        refine rg_yes (i := 7) (v := ?_) (atS (atS (atS (atS (atS (atS (atS at0))))))) (by kernel_rfl) (by kernel_rfl) (by kernel_rfl) (fun _ _ _ h => h) ?_ ?_ hHeld ?_; rotate_left 1; (· rfl); (· intro w' hSw; (try dsimp only at hSw); (try clear hHeld); go_simp; try with_reducible rfl)
        try simp only [Act.put, List.setIfInBounds_toArray, List.set_cons_zero, List.set_cons_succ]
        first | (refine rg_no (i := 8) (atS (atS (atS (atS (atS (atS (atS (atS at0)))))))) (by kernel_rfl) (by kernel_rfl) (by kernel_rfl) (fun _ _ _ h => h) ?_ hHeld ?_; (· rfl)) | (refine rg_yes (i := 8) (v := ?_) (atS (atS (atS (atS (atS (atS (atS (atS at0)))))))) (by kernel_rfl) (by kernel_rfl) (by kernel_rfl) (fun _ _ _ h => h) ?_ ?_ hHeld ?_; rotate_left 1; (· rfl); (· intro w' hSw; (try dsimp only at hSw); (try clear hHeld); go_simp; try with_reducible rfl))
        try simp only [Act.put, List.setIfInBounds_toArray, List.set_cons_zero, List.set_cons_succ]
        first | (refine rg_no (i := 9) (atS (atS (atS (atS (atS (atS (atS (atS (atS at0))))))))) (by kernel_rfl) (by kernel_rfl) (by kernel_rfl) (fun _ _ _ h => h) ?_ hHeld ?_; (· rfl)) | (refine rg_yes (i := 9) (v := ?_) (atS (atS (atS (atS (atS (atS (atS (atS (atS at0))))))))) (by kernel_rfl) (by kernel_rfl) (by kernel_rfl) (fun _ _ _ h => h) ?_ ?_ hHeld ?_; rotate_left 1; (· rfl); (· intro w' hSw; (try dsimp only at hSw); have c0 := cell_below c0 hSw; have c1 := cell_below c1 hSw; have d0 := cell_below d0 hSw; have d1 := cell_below d1 hSw; (try clear hHeld); go_simp; try with_reducible rfl))
        try simp only [Act.put, List.setIfInBounds_toArray, List.set_cons_zero, List.set_cons_succ]
        first | (refine rg_no (i := 10) (atS (atS (atS (atS (atS (atS (atS (atS (atS (atS at0)))))))))) (by kernel_rfl) (by kernel_rfl) (by kernel_rfl) (fun _ _ _ h => h) ?_ hHeld ?_; (· rfl)) | (refine rg_yes (i := 10) (v := ?_) (atS (atS (atS (atS (atS (atS (atS (atS (atS (atS at0)))))))))) (by kernel_rfl) (by kernel_rfl) (by kernel_rfl) (fun _ _ _ h => h) ?_ ?_ hHeld ?_; rotate_left 1; (· rfl); (· intro w' hSw; (try dsimp only at hSw); have c0 := cell_below c0 hSw; have c1 := cell_below c1 hSw; have d0 := cell_below d0 hSw; have d1 := cell_below d1 hSw; (try clear hHeld); go_simp; try with_reducible rfl))
        try simp only [Act.put, List.setIfInBounds_toArray, List.set_cons_zero, List.set_cons_succ]
        first | (refine rg_no (i := 11) (atS (atS (atS (atS (atS (atS (atS (atS (atS (atS (atS at0))))))))))) (by kernel_rfl) (by kernel_rfl) (by kernel_rfl) (fun _ _ _ h => h) ?_ hHeld ?_; (· rfl)) | (refine rg_call (i := 11) (atS (atS (atS (atS (atS (atS (atS (atS (atS (atS (atS at0))))))))))) (by kernel_rfl) ?_ (fun K hK => ?_); (· rfl); (try clear hb); go_simp; (refine (HMe.out _).mono ?_; rintro e w1 ⟨rfl, hb⟩); go_wp2_with fail; refine hK.out _ _ ?_ (fun hHeld => ?_); (· exact hHeld.trans (hb.mono hHeld.size)); clear hK K)
        try simp only [Act.put, List.setIfInBounds_toArray, List.set_cons_zero, List.set_cons_succ]
        first | (refine rg_no (i := 12) (atS (atS (atS (atS (atS (atS (atS (atS (atS (atS (atS (atS at0)))))))))))) (by kernel_rfl) (by kernel_rfl) (by kernel_rfl) (fun _ _ _ h => h) ?_ hHeld ?_; (· rfl)) | (refine rg_yes (i := 12) (v := ?_) (atS (atS (atS (atS (atS (atS (atS (atS (atS (atS (atS (atS at0)))))))))))) (by kernel_rfl) (by kernel_rfl) (by kernel_rfl) (fun _ _ _ h => h) ?_ ?_ hHeld ?_; rotate_left 1; (· rfl); (· intro w' hSw; (try dsimp only at hSw); (try clear hHeld); go_simp; try with_reducible rfl))
        try simp only [Act.put, List.setIfInBounds_toArray, List.set_cons_zero, List.set_cons_succ]
        refine rg_yes (i := 13) (v := ?_) (atS (atS (atS (atS (atS (atS (atS (atS (atS (atS (atS (atS (atS at0))))))))))))) (by kernel_rfl) (by kernel_rfl) (by kernel_rfl) (fun _ _ _ h => h) ?_ ?_ hHeld ?_; rotate_left 1; (· rfl); (· intro w' hSw; (try dsimp only at hSw); (try clear hHeld); go_simp; try with_reducible rfl)
        try simp only [Act.put, List.setIfInBounds_toArray, List.set_cons_zero, List.set_cons_succ]
        refine rg_yes (i := 14) (v := ?_) (atS (atS (atS (atS (atS (atS (atS (atS (atS (atS (atS (atS (atS (atS at0)))))))))))))) (by kernel_rfl) (by kernel_rfl) (by kernel_rfl) (fun _ _ _ h => h) ?_ ?_ hHeld ?_; rotate_left 1; (· rfl); (· intro w' hSw; (try dsimp only at hSw); (try clear hHeld); go_simp; try with_reducible rfl)
        try simp only [Act.put, List.setIfInBounds_toArray, List.set_cons_zero, List.set_cons_succ]
        refine wpAnyH_done (by kernel_rfl) ?_ _
        have HB2 := Lib.hid (below_on HB.out hHeld)
        clear hHeld c0 c1 d0 d1 HB HP HQ C0 C1 D0 D1
        go_wp2_with fail
        go_ret
        exact ⟨rfl, HB2.out⟩
end Go.Proofs.YtkcikblecinnfaaDoor
