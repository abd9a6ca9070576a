/- Texts of one proof, one behind another. -/
import Derived.Test.YtohkbcdnlmjcjaaDoorFm21
import Derived.Test.YtohkbcdnlmjcjaaDoorFm24
/-
  AttrForm walked.
-/
namespace Go.Proofs.YtohkbcdnlmjcjaaDoor
open Go.RowKit

set_option maxHeartbeats 12800000 in
set_option maxRecDepth 100000 in
theorem law_AttrForm (v : Value) (xs : List Nat) (w : World) (h : BytesAt w v xs) (hT : Tabs w) : Calls Tryd.prog 6 #[v] w fun e w' => e = .returned (.bool true) ∧ Below w.heap.size w w' := by
  have H := Lib.hid h
  have HT := Lib.hid hT
  obtain ⟨sa, cap, rfl, -⟩ := h
  clear hT
  go_enter Tryd.func6, Tryd.ntmps6
  go_wp2_with fail
  refine (law_head w HT.out).mono ?_
  rintro e w1 ⟨rfl, hb1⟩
  have B1 := Lib.hid hb1
  clear hb1
  by_cases hl : xs.length > 5000
  · have e1 : decide ((xs.length : Int) > 5000) = true := by simp; omega
    go_wp2_with fail
    go_ret
    exact ⟨rfl, B1.out⟩
  · have e1 : decide ((xs.length : Int) > 5000) = false := by simp; omega
    have HL := Lib.hid (show xs.length ≤ 5000 by omega)
    have DC := Lib.hid (at_Decode (.slice sa xs.length cap) xs w1 (BytesAt.below H.out B1.out) (HT.out.below B1.out) (by omega))
    clear hl
    go_wp2_with fail
    refine DC.out.mono ?_
    rintro e w2 ⟨hb2, hp⟩
    have B2 := Lib.hid (below_on B1.out hb2)
    clear DC hb2
    by_cases hd : (decP atO [] xs).1 = 0
    · rw [if_pos hd] at hp
      obtain ⟨os, vp, vc, vo, o1, o2, o3, o4, rfl⟩ := hp
      obtain ⟨seen', hrt⟩ := decP_right xs.length atO [] xs 0 (Nat.le_refl _) rt_start (bytes_lt H.out) hd
      obtain ⟨ck, el⟩ := rt_check hrt o1 o2
      have ar : ({ (decP atO [] xs).2 with others := os } : At).Rng := o4
      generalize ({ (decP atO [] xs).2 with others := os } : At) = a at ck el ar o3 ⊢
      have CK := Lib.hid ck
      have EL := Lib.hid el
      have AR := Lib.hid ar
      have AL := Lib.hid o3
      obtain ⟨⟨sp, cp, rfl, -⟩, ⟨sc, cc, rfl, -⟩, ⟨so, co, rfl, -⟩⟩ := o3
      clear hd o1 o2 o4 hrt ck el ar
      go_wp2_with ((with_reducible refine halt_at (X := .store 28 (.tmp 3) (.tmp 17)) ?_ ?_); (· rfl))
      unfold Halt
      obtain ⟨W, hW, qa, qf, hb⟩ := boxTwo w2 atZ6 28 fltZ 54
      rw [← hW]
      clear hW
      refine st_row rfl 28 (.tmp 3) (.tmp 17) rfl w2.heap.size rfl 28 atZ6 (atV a (.slice sp a.path.length cp) (.slice sc a.comms.length cc) (.slice so a.others.length co)).toArray rfl qa sz_attrs rfl (by simp [atV, Value.oneCell']) ?_
      obtain ⟨W1, hW1⟩ : ∃ W1, W1 = W.setRow w2.heap.size (atV a (.slice sp a.path.length cp) (.slice sc a.comms.length cc) (.slice so a.others.length co)).toArray := ⟨_, rfl⟩
      have A1 : Hid (W1.heap[w2.heap.size]? = some (.cells (atV a (.slice sp a.path.length cp) (.slice sc a.comms.length cc) (.slice so a.others.length co)).toArray 28 (0, 0))) := Lib.hid (by rw [hW1]; exact setRow_heap _ _ _ _ _ _ qa)
      have F1 : Hid (W1.heap[w2.heap.size + 1]? = some (.cells fltZ 54 (0, 0))) := Lib.hid (by rw [hW1, setRow_other _ _ _ _ (by omega)]; exact qf)
      have B3 : Hid (Below w2.heap.size w2 W1) := Lib.hid (hb.trans ((by rw [hW1]; exact kept_row _ _ rfl : Kept (fun k => k = w2.heap.size) W W1).below hb.size (fun k hk => by omega)))
      rw [← hW1]
      clear hW1 qa qf hb
      go_wp2_with ((with_reducible refine halt_at (X := .store 54 (.tmp 4) (.tmp 18)) ?_ ?_); (· rfl))
      unfold Halt
      refine st_row rfl 54 (.tmp 4) (.tmp 18) rfl (w2.heap.size + 1) rfl 54 fltZ fltZ rfl F1.out sz_fault rfl (by simp [Value.oneCell']) ?_
      obtain ⟨W2, hW2⟩ : ∃ W2, W2 = W1.setRow (w2.heap.size + 1) fltZ := ⟨_, rfl⟩
      have A2 : Hid (W2.heap[w2.heap.size]? = some (.cells (atV a (.slice sp a.path.length cp) (.slice sc a.comms.length cc) (.slice so a.others.length co)).toArray 28 (0, 0))) := Lib.hid (by rw [hW2, setRow_other _ _ _ _ (by omega)]; exact A1.out)
      have F2 : Hid (W2.heap[w2.heap.size + 1]? = some (.cells fltZ 54 (0, 0))) := Lib.hid (by rw [hW2]; exact setRow_heap _ _ _ _ _ _ F1.out)
      have B4 : Hid (Below w2.heap.size w2 W2) := Lib.hid (B3.out.trans ((by rw [hW2]; exact kept_row _ _ rfl : Kept (fun k => k = w2.heap.size + 1) W1 W2).below B3.out.size (fun k hk => by omega)))
      rw [← hW2]
      clear hW2 A1 F1 B3
      have y0 : W2.cell? ⟨w2.heap.size + 1, 0, none⟩ = some (.int .i64 0) := row_cell F2.out 0
      have y1 : W2.cell? ⟨w2.heap.size + 1, 1, none⟩ = some (.int .i64 0) := row_cell F2.out 1
      have y2 : W2.cell? ⟨w2.heap.size + 1, 2, none⟩ = some (.string ⟨#[]⟩) := row_cell F2.out 2
      have NQ := flt_same W2
      have CC := Lib.hid (at_Check a _ _ _ W2 (AL.out.below B4.out))
      rw [show checkI a = 0 by unfold checkI; rw [CK.out]; rfl] at CC
      go_wp2_with ((with_reducible refine halt_at (X := .load 28 (.tmp 3)) ?_ ?_); (· rfl))
      unfold Halt
      clear y0 y1 y2 NQ F2
      refine ld_at (by rfl) 28 (.tmp 3) rfl w2.heap.size rfl 28 (atV a (.slice sp a.path.length cp) (.slice sc a.comms.length cc) (.slice so a.others.length co)).toArray (0, 0) _ A2.out Tryd.underlying28 rfl sz_attrs ?_
      go_wp2_with fail
      refine CC.out.mono ?_
      rintro e w5 ⟨rfl, hb5⟩
      have B5 := Lib.hid (below_on B4.out hb5)
      have A5 := Lib.hid ((hb5.block _ (row_lt A2.out)).trans A2.out)
      clear CC hb5 A2 B4
      have EP := enc_path CK.out
      have EO := enc_oths a
      have EC := Lib.hid (at_Encode a _ _ _ w5 (AL.out.below B5.out) AR.out (HT.out.below (below_on B2.out B5.out)) (by have := EL.out; have := HL.out; omega) (by have := EL.out; have := HL.out; omega))
      have EI : encI a = 0 ∨ (encI a = 6 ∧ 4000 < xs.length) := by
        unfold encI
        rw [CK.out, if_pos rfl]
        by_cases hx : xs.length ≤ 4000
        · left
          have l1 : (encL a).length ≤ 4000 := by have := EL.out; omega
          rw [if_pos (List.all_eq_true.2 fun o ho => by have := EO.2 o ho; simp; omega), if_pos (by omega)]
        · split
          · split
            · exact .inl rfl
            · exact .inr ⟨rfl, by omega⟩
          · exact .inr ⟨rfl, by omega⟩
      clear EP EO
      go_wp2_with ((with_reducible refine halt_at (X := .load 28 (.tmp 3)) ?_ ?_); (· rfl))
      unfold Halt
      refine ld_at (by rfl) 28 (.tmp 3) rfl w2.heap.size rfl 28 (atV a (.slice sp a.path.length cp) (.slice sc a.comms.length cc) (.slice so a.others.length co)).toArray (0, 0) _ A5.out Tryd.underlying28 rfl sz_attrs ?_
      go_wp2_with fail
      refine EC.out.mono ?_
      rintro e w6 ⟨vb, rfl, ok, nok, hb6⟩
      have B6 := Lib.hid (below_on B5.out hb6)
      have A6 := Lib.hid ((hb6.block _ (row_lt A5.out)).trans A5.out)
      clear EC hb6 A5 B5
      rcases EI with h0 | ⟨h6, hx⟩
      · have OB := Lib.hid (ok h0)
        rw [h0]
        have E4 : Hid ((encL a).length ≤ 4096) := Lib.hid (by
          unfold encI at h0
          rw [CK.out, if_pos rfl] at h0
          split at h0
          · split at h0
            · assumption
            · cases h0
          · cases h0)
        have OBY : ∀ o ∈ a.others, ∀ y ∈ o.2, y < 256 := fun o ho => by
          obtain ⟨cs, u, -, -, hu⟩ := slat_all AL.out.2.2 o ho
          exact bytes_rng hu
        have DC := Lib.hid (at_Decode vb (encL a) w6 (ownB_bytes OB.out (enc_lt OBY)) (HT.out.below (below_on B2.out B6.out)) (by have := E4.out; omega))
        clear ok nok h0 OBY
        go_wp2_with fail
        refine DC.out.mono ?_
        rintro e w7 hp7
        rw [enc_its] at hp7
        obtain ⟨vp7, vc7, vo7, rfl, al7, hb7⟩ := dec_post CK.out AR.out E4.out (List.Perm.refl _) hp7
        have AL7 := Lib.hid al7
        have A7 := Lib.hid ((hb7.block _ (row_lt A6.out)).trans A6.out)
        have B7 := Lib.hid (below_on B6.out hb7)
        obtain ⟨⟨sp7, cp7, rfl, -⟩, ⟨sc7, cc7, rfl, -⟩, ⟨so7, co7, rfl, -⟩⟩ := al7
        clear DC hp7 hb7 A6 B6 OB
        go_wp2_with ((with_reducible refine halt_at (X := .store 28 (.tmp 7) (.tmp 60)) ?_ ?_); (· rfl))
        unfold Halt
        obtain ⟨V, hV, ra, rf, hb⟩ := boxTwo w7 atZ6 28 fltZ 54
        rw [← hV]
        clear hV
        refine st_row rfl 28 (.tmp 7) (.tmp 60) rfl w7.heap.size rfl 28 atZ6 (atV a (.slice sp7 a.path.length cp7) (.slice sc7 a.comms.length cc7) (.slice so7 a.others.length co7)).toArray rfl ra sz_attrs rfl (by simp [atV, Value.oneCell']) ?_
        obtain ⟨V1, hV1⟩ : ∃ V1, V1 = V.setRow w7.heap.size (atV a (.slice sp7 a.path.length cp7) (.slice sc7 a.comms.length cc7) (.slice so7 a.others.length co7)).toArray := ⟨_, rfl⟩
        have C1 : Hid (V1.heap[w7.heap.size]? = some (.cells (atV a (.slice sp7 a.path.length cp7) (.slice sc7 a.comms.length cc7) (.slice so7 a.others.length co7)).toArray 28 (0, 0))) := Lib.hid (by rw [hV1]; exact setRow_heap _ _ _ _ _ _ ra)
        have G1 : Hid (V1.heap[w7.heap.size + 1]? = some (.cells fltZ 54 (0, 0))) := Lib.hid (by rw [hV1, setRow_other _ _ _ _ (by omega)]; exact rf)
        have D1 : Hid (Below w7.heap.size w7 V1) := Lib.hid (hb.trans ((by rw [hV1]; exact kept_row _ _ rfl : Kept (fun k => k = w7.heap.size) V V1).below hb.size (fun k hk => by omega)))
        rw [← hV1]
        clear hV1 ra rf hb
        go_wp2_with ((with_reducible refine halt_at (X := .store 54 (.tmp 8) (.tmp 61)) ?_ ?_); (· rfl))
        unfold Halt
        refine st_row rfl 54 (.tmp 8) (.tmp 61) rfl (w7.heap.size + 1) rfl 54 fltZ fltZ rfl G1.out sz_fault rfl (by simp [Value.oneCell']) ?_
        obtain ⟨V2, hV2⟩ : ∃ V2, V2 = V1.setRow (w7.heap.size + 1) fltZ := ⟨_, rfl⟩
        have C2 : Hid (V2.heap[w7.heap.size]? = some (.cells (atV a (.slice sp7 a.path.length cp7) (.slice sc7 a.comms.length cc7) (.slice so7 a.others.length co7)).toArray 28 (0, 0))) := Lib.hid (by rw [hV2, setRow_other _ _ _ _ (by omega)]; exact C1.out)
        have G2 : Hid (V2.heap[w7.heap.size + 1]? = some (.cells fltZ 54 (0, 0))) := Lib.hid (by rw [hV2]; exact setRow_heap _ _ _ _ _ _ G1.out)
        have D2 : Hid (Below w7.heap.size w7 V2) := Lib.hid (D1.out.trans ((by rw [hV2]; exact kept_row _ _ rfl : Kept (fun k => k = w7.heap.size + 1) V1 V2).below D1.out.size (fun k hk => by omega)))
        rw [← hV2]
        have A8 := Lib.hid ((D2.out.block _ (row_lt A7.out)).trans A7.out)
        have B8 := Lib.hid (below_on B7.out D2.out)
        have B5a := B7
        have B8a := D2
        clear hV2 C1 G1 D1 A7
        have AZ : Hid (AtSz a) := Lib.hid ⟨by have := (enc_path CK.out).1; have := E4.out; omega, fun s hs => by have := (enc_path CK.out).2 s hs; have := E4.out; unfold SgSz; omega, by have := enc_comms CK.out; have := E4.out; omega, by have := (enc_oths a).1; have := E4.out; omega, fun o ho => by have := (enc_oths a).2 o ho; have := E4.out; unfold OthSz; omega⟩
        have SM1 : Hid (∀ W, Below V2.heap.size V2 W → Calls Tryd.prog 23 #[.agg (atV a (.slice sp7 a.path.length cp7) (.slice sc7 a.comms.length cc7) (.slice so7 a.others.length co7)).toArray, .agg (atV a (.slice sp a.path.length cp) (.slice sc a.comms.length cc) (.slice so a.others.length co)).toArray] W fun e W' => e = .returned (.bool true) ∧ Below W.heap.size W W') := Lib.hid fun W hW => by
          have h := at_Same a a _ _ _ _ _ _ W (AL7.out.below (below_on D2.out hW)) (AL.out.below (below_on (below_on B5a.out B8a.out) hW))
          rw [sameA_refl] at h
          exact h
        have SM2 : Hid (∀ W, Below V2.heap.size V2 W → Calls Tryd.prog 23 #[.agg (atV a (.slice sp a.path.length cp) (.slice sc a.comms.length cc) (.slice so a.others.length co)).toArray, .agg (atV a (.slice sp7 a.path.length cp7) (.slice sc7 a.comms.length cc7) (.slice so7 a.others.length co7)).toArray] W fun e W' => e = .returned (.bool true) ∧ Below W.heap.size W W') := Lib.hid fun W hW => by
          have h := at_Same a a _ _ _ _ _ _ W (AL.out.below (below_on (below_on B5a.out B8a.out) hW)) (AL7.out.below (below_on D2.out hW))
          rw [sameA_refl] at h
          exact h
        have CL1 : Hid (∀ W, Below V2.heap.size V2 W → Calls Tryd.prog 14 #[.agg (atV a (.slice sp a.path.length cp) (.slice sc a.comms.length cc) (.slice so a.others.length co)).toArray] W (ClonePost W a)) := Lib.hid fun W hW => at_Clone a _ _ _ W (AL.out.below (below_on (below_on B5a.out B8a.out) hW)) AZ.out
        have SM3 : Hid (∀ W vp vc vo, Below V2.heap.size V2 W → AtL W a vp vc vo → Calls Tryd.prog 23 #[.agg (atV a vp vc vo).toArray, .agg (atV a (.slice sp a.path.length cp) (.slice sc a.comms.length cc) (.slice so a.others.length co)).toArray] W fun e W' => e = .returned (.bool true) ∧ Below W.heap.size W W') := Lib.hid fun W vp vc vo hW hL => by
          have h := at_Same a a vp vc vo _ _ _ W hL (AL.out.below (below_on (below_on B5a.out B8a.out) hW))
          rw [sameA_refl] at h
          exact h
        go_upto_region 14 with (fail)
        refine wp_region_held_drew (S := fun w' => Below V2.heap.size V2 w') (by kernel_rfl) ?_ (fun hHeld => ?_)
        · exact (Below.refl _ _).drew
        refine rgy (i := 0) (v := ?_) (atN rfl) (by kernel_rfl) (fun _ _ _ h => h) ?_ ?_ hHeld ?_; rotate_left 1; (· rfl); (· intro w' hSw; refine exec_ld 54 (.tmp 8) ?_ (w7.heap.size + 1) ?_ 54 fltZ (0, 0) _ ((hSw.block _ (row_lt G2.out)).trans G2.out) Tryd.underlying54 rfl sz_fault <;> rfl)
        try simp only [Act.put, List.setIfInBounds_toArray, List.set_cons_zero, List.set_cons_succ]
        refine rgy (i := 1) (v := ?_) (atN rfl) (by kernel_rfl) (fun _ _ _ h => h) ?_ ?_ hHeld ?_; rotate_left 1; (· rfl); (· intro w' hSw; (try clear hHeld); go_simp; try with_reducible rfl)
        try simp only [Act.put, List.setIfInBounds_toArray, List.set_cons_zero, List.set_cons_succ]
        refine rgy (i := 2) (v := ?_) (atN rfl) (by kernel_rfl) (fun _ _ _ h => h) ?_ ?_ hHeld ?_; rotate_left 1; (· rfl); (· intro w' hSw; have fe := flt_eql w'; go_simp; try with_reducible rfl)
        try simp only [Act.put, List.setIfInBounds_toArray, List.set_cons_zero, List.set_cons_succ]
        refine rgy (i := 3) (v := ?_) (atN rfl) (by kernel_rfl) (fun _ _ _ h => h) ?_ ?_ hHeld ?_; rotate_left 1; (· rfl); (· intro w' hSw; (try clear hHeld); go_simp; try with_reducible rfl)
        try simp only [Act.put, List.setIfInBounds_toArray, List.set_cons_zero, List.set_cons_succ]
        first | (refine rgn (i := 4) (atN rfl) (by kernel_rfl) (fun _ _ _ h => h) ?_ hHeld ?_; (· rfl)) | (refine rgy (i := 4) (v := ?_) (atN rfl) (by kernel_rfl) (fun _ _ _ h => h) ?_ ?_ hHeld ?_; rotate_left 1; (· rfl); (· intro w' hSw; refine exec_ld 28 (.tmp 7) ?_ w7.heap.size ?_ 28 _ (0, 0) _ ((hSw.block _ (row_lt C2.out)).trans C2.out) Tryd.underlying28 rfl sz_attrs <;> rfl))
        try simp only [Act.put, List.setIfInBounds_toArray, List.set_cons_zero, List.set_cons_succ]
        first | (refine rgn (i := 5) (atN rfl) (by kernel_rfl) (fun _ _ _ h => h) ?_ hHeld ?_; (· rfl)) | (refine rgy (i := 5) (v := ?_) (atN rfl) (by kernel_rfl) (fun _ _ _ h => h) ?_ ?_ hHeld ?_; rotate_left 1; (· rfl); (· intro w' hSw; refine exec_ld 28 (.tmp 3) ?_ w2.heap.size ?_ 28 _ (0, 0) _ ((hSw.block _ (row_lt A8.out)).trans A8.out) Tryd.underlying28 rfl sz_attrs <;> rfl))
        try simp only [Act.put, List.setIfInBounds_toArray, List.set_cons_zero, List.set_cons_succ]
        first | (refine rgn (i := 6) (atN rfl) (by kernel_rfl) (fun _ _ _ h => h) ?_ hHeld ?_; (· rfl)) | (refine rg_call (i := 6) (atN rfl) (by kernel_rfl) ?_ (fun K hK => ?_); (· rfl); (try clear hb); go_simp; (refine (SM1.out _ hHeld).mono ?_; rintro e w1 ⟨rfl, hb⟩); go_wp2_with fail; refine hK.out _ _ ?_ (fun hHeld => ?_); (· exact hHeld.trans (hb.mono hHeld.size)); clear hK K)
        try simp only [Act.put, List.setIfInBounds_toArray, List.set_cons_zero, List.set_cons_succ]
        refine rgy (i := 7) (v := ?_) (atN rfl) (by kernel_rfl) (fun _ _ _ h => h) ?_ ?_ hHeld ?_; rotate_left 1; (· rfl); (· intro w' hSw; (try clear hHeld); go_simp; try with_reducible rfl)
        try simp only [Act.put, List.setIfInBounds_toArray, List.set_cons_zero, List.set_cons_succ]
        refine rgy (i := 8) (v := ?_) (atN rfl) (by kernel_rfl) (fun _ _ _ h => h) ?_ ?_ hHeld ?_; rotate_left 1; (· rfl); (· intro w' hSw; (try clear hHeld); go_simp; try with_reducible rfl)
        try simp only [Act.put, List.setIfInBounds_toArray, List.set_cons_zero, List.set_cons_succ]
        first | (refine rgn (i := 9) (atN rfl) (by kernel_rfl) (fun _ _ _ h => h) ?_ hHeld ?_; (· rfl)) | (refine rgy (i := 9) (v := ?_) (atN rfl) (by kernel_rfl) (fun _ _ _ h => h) ?_ ?_ hHeld ?_; rotate_left 1; (· rfl); (· intro w' hSw; refine exec_ld 28 (.tmp 3) ?_ w2.heap.size ?_ 28 _ (0, 0) _ ((hSw.block _ (row_lt A8.out)).trans A8.out) Tryd.underlying28 rfl sz_attrs <;> rfl))
        try simp only [Act.put, List.setIfInBounds_toArray, List.set_cons_zero, List.set_cons_succ]
        first | (refine rgn (i := 10) (atN rfl) (by kernel_rfl) (fun _ _ _ h => h) ?_ hHeld ?_; (· rfl)) | (refine rgy (i := 10) (v := ?_) (atN rfl) (by kernel_rfl) (fun _ _ _ h => h) ?_ ?_ hHeld ?_; rotate_left 1; (· rfl); (· intro w' hSw; refine exec_ld 28 (.tmp 7) ?_ w7.heap.size ?_ 28 _ (0, 0) _ ((hSw.block _ (row_lt C2.out)).trans C2.out) Tryd.underlying28 rfl sz_attrs <;> rfl))
        try simp only [Act.put, List.setIfInBounds_toArray, List.set_cons_zero, List.set_cons_succ]
        first | (refine rgn (i := 11) (atN rfl) (by kernel_rfl) (fun _ _ _ h => h) ?_ hHeld ?_; (· rfl)) | (refine rg_call (i := 11) (atN rfl) (by kernel_rfl) ?_ (fun K hK => ?_); (· rfl); (try clear hb); go_simp; (refine (SM2.out _ hHeld).mono ?_; rintro e w1 ⟨rfl, hb⟩); go_wp2_with fail; refine hK.out _ _ ?_ (fun hHeld => ?_); (· exact hHeld.trans (hb.mono hHeld.size)); clear hK K)
        try simp only [Act.put, List.setIfInBounds_toArray, List.set_cons_zero, List.set_cons_succ]
        refine rgy (i := 12) (v := ?_) (atN rfl) (by kernel_rfl) (fun _ _ _ h => h) ?_ ?_ hHeld ?_; rotate_left 1; (· rfl); (· intro w' hSw; (try clear hHeld); go_simp; try with_reducible rfl)
        try simp only [Act.put, List.setIfInBounds_toArray, List.set_cons_zero, List.set_cons_succ]
        refine rgy (i := 13) (v := ?_) (atN rfl) (by kernel_rfl) (fun _ _ _ h => h) ?_ ?_ hHeld ?_; rotate_left 1; (· rfl); (· intro w' hSw; (try clear hHeld); go_simp; try with_reducible rfl)
        try simp only [Act.put, List.setIfInBounds_toArray, List.set_cons_zero, List.set_cons_succ]
        first | (refine rgn (i := 14) (atN rfl) (by kernel_rfl) (fun _ _ _ h => h) ?_ hHeld ?_; (· rfl)) | (refine rgy (i := 14) (v := ?_) (atN rfl) (by kernel_rfl) (fun _ _ _ h => h) ?_ ?_ hHeld ?_; rotate_left 1; (· rfl); (· intro w' hSw; refine exec_ld 28 (.tmp 3) ?_ w2.heap.size ?_ 28 _ (0, 0) _ ((hSw.block _ (row_lt A8.out)).trans A8.out) Tryd.underlying28 rfl sz_attrs <;> rfl))
        try simp only [Act.put, List.setIfInBounds_toArray, List.set_cons_zero, List.set_cons_succ]
        first | (refine rgn (i := 16) (atN rfl) (by kernel_rfl) (fun _ _ _ h => h) ?_ hHeld ?_; (· rfl)) | (refine rgy (i := 16) (v := ?_) (atN rfl) (by kernel_rfl) (fun _ _ _ h => h) ?_ ?_ hHeld ?_; rotate_left 1; (· rfl); (· intro w' hSw; refine exec_ld 28 (.tmp 3) ?_ w2.heap.size ?_ 28 _ (0, 0) _ ((hSw.block _ (row_lt A8.out)).trans A8.out) Tryd.underlying28 rfl sz_attrs <;> rfl))
        try simp only [Act.put, List.setIfInBounds_toArray, List.set_cons_zero, List.set_cons_succ]
        first | (refine rgn (i := 15) (atN rfl) (by kernel_rfl) (fun _ _ _ h => h) ?_ hHeld ?_; (· rfl)) | (refine rg_call (i := 15) (atN rfl) (by kernel_rfl) ?_ (fun K hK => ?_); (· rfl); (try clear hb); go_simp; refine (CL1.out _ hHeld).mono ?_; rintro e w9 ⟨vp9, vc9, vo9, rfl, fr9, hb⟩; have FR := Lib.hid fr9.self.1; clear fr9; go_wp2_with fail; refine hK.out _ _ ?_ (fun hHeld => ?_); (· exact below_on hHeld hb); clear hK K)
        try simp only [Act.put, List.setIfInBounds_toArray, List.set_cons_zero, List.set_cons_succ]
        first | (refine rgn (i := 17) (atN rfl) (by kernel_rfl) (fun _ _ _ h => h) ?_ hHeld ?_; (· rfl)) | (refine rg_call (i := 17) (atN rfl) (by kernel_rfl) ?_ (fun K hK => ?_); (· rfl); (try clear hb); go_simp; refine (SM3.out _ vp9 vc9 vo9 hHeld FR.out).mono ?_; rintro e w1 ⟨rfl, hb⟩; go_wp2_with fail; refine hK.out _ _ ?_ (fun hHeld => ?_); (· exact below_on hHeld hb); clear hK K)
        try simp only [Act.put, List.setIfInBounds_toArray, List.set_cons_zero, List.set_cons_succ]
        refine rgy (i := 18) (v := ?_) (atN rfl) (by kernel_rfl) (fun _ _ _ h => h) ?_ ?_ hHeld ?_; rotate_left 1; (· rfl); (· intro w' hSw; (try clear hHeld); go_simp; try with_reducible rfl)
        try simp only [Act.put, List.setIfInBounds_toArray, List.set_cons_zero, List.set_cons_succ]
        refine rgy (i := 19) (v := ?_) (atN rfl) (by kernel_rfl) (fun _ _ _ h => h) ?_ ?_ hHeld ?_; rotate_left 1; (· rfl); (· intro w' hSw; (try clear hHeld); go_simp; try with_reducible rfl)
        try simp only [Act.put, List.setIfInBounds_toArray, List.set_cons_zero, List.set_cons_succ]
        refine wpAnyH_done (by kernel_rfl) ?_ _
        go_wp2_with fail
        go_ret
        exact ⟨rfl, below_on B2.out (below_on B8.out hHeld)⟩
      · have vn := nok (by rw [h6]; decide)
        subst vn
        rw [h6]
        have e4 : decide ((xs.length : Int) > 4000) = true := by simp; omega
        clear ok nok h6
        go_wp2_with fail
        go_ret
        exact ⟨rfl, below_on B2.out B6.out⟩
    · rw [if_neg hd] at hp
      obtain ⟨st, rfl⟩ := hp
      have C11 := decP_code xs.length atO [] xs (Nat.le_refl _)
      obtain ⟨c, hc⟩ : ∃ c, (decP atO [] xs).1 = c := ⟨_, rfl⟩
      rw [hc] at hd C11 ⊢
      have k1 : (1 : Int) ≤ (c : Int) := by omega
      have k2 : (c : Int) ≤ 11 := by omega
      clear hc
      go_wp2_with ((with_reducible refine halt_at (X := .store 28 (.tmp 3) (.tmp 17)) ?_ ?_); (· rfl))
      unfold Halt
      obtain ⟨W, hW, qa, qf, hb⟩ := boxTwo w2 atZ6 28 fltZ 54
      rw [← hW]
      clear hW
      refine st_row rfl 28 (.tmp 3) (.tmp 17) rfl w2.heap.size rfl 28 atZ6 atZ6 rfl qa sz_attrs rfl (by simp [Value.oneCell']) ?_
      obtain ⟨W1, hW1⟩ : ∃ W1, W1 = W.setRow w2.heap.size atZ6 := ⟨_, rfl⟩
      have A1 : Hid (W1.heap[w2.heap.size]? = some (.cells atZ6 28 (0, 0))) := Lib.hid (by rw [hW1]; exact setRow_heap _ _ _ _ _ _ qa)
      have F1 : Hid (W1.heap[w2.heap.size + 1]? = some (.cells fltZ 54 (0, 0))) := Lib.hid (by rw [hW1, setRow_other _ _ _ _ (by omega)]; exact qf)
      have B3 : Hid (Below w2.heap.size w2 W1) := Lib.hid (hb.trans ((by rw [hW1]; exact kept_row _ _ rfl : Kept (fun k => k = w2.heap.size) W W1).below hb.size (fun k hk => by omega)))
      rw [← hW1]
      clear hW1 qa qf hb
      go_wp2_with ((with_reducible refine halt_at (X := .store 54 (.tmp 4) (.tmp 18)) ?_ ?_); (· rfl))
      unfold Halt
      refine st_row rfl 54 (.tmp 4) (.tmp 18) rfl (w2.heap.size + 1) rfl 54 fltZ #[.int .i64 3, .int .i64 c, .string st] rfl F1.out sz_fault rfl (by simp [Value.oneCell']) ?_
      obtain ⟨W2, hW2⟩ : ∃ W2, W2 = W1.setRow (w2.heap.size + 1) #[.int .i64 3, .int .i64 c, .string st] := ⟨_, rfl⟩
      have A2 : Hid (W2.heap[w2.heap.size]? = some (.cells atZ6 28 (0, 0))) := Lib.hid (by rw [hW2, setRow_other _ _ _ _ (by omega)]; exact A1.out)
      have F2 : Hid (W2.heap[w2.heap.size + 1]? = some (.cells #[.int .i64 3, .int .i64 c, .string st] 54 (0, 0))) := Lib.hid (by rw [hW2]; exact setRow_heap _ _ _ _ _ _ F1.out)
      have B4 : Hid (Below w2.heap.size w2 W2) := Lib.hid (B3.out.trans ((by rw [hW2]; exact kept_row _ _ rfl : Kept (fun k => k = w2.heap.size + 1) W1 W2).below B3.out.size (fun k hk => by omega)))
      rw [← hW2]
      clear hW2 A1 F1 B3 hd C11
      have y0 : W2.cell? ⟨w2.heap.size + 1, 0, none⟩ = some (.int .i64 3) := row_cell F2.out 0
      have y1 : W2.cell? ⟨w2.heap.size + 1, 1, none⟩ = some (.int .i64 c) := row_cell F2.out 1
      have y2 : W2.cell? ⟨w2.heap.size + 1, 2, none⟩ = some (.string st) := row_cell F2.out 2
      have NQ := flt_any W2 c st
      have SM := Lib.hid (at_Same atO atO (.slice none 0 0) (.slice none 0 0) (.slice none 0 0) (.slice none 0 0) (.slice none 0 0) (.slice none 0 0) W2 ⟨SlAt.nil, SlAt.nil, SlAt.nil⟩ ⟨SlAt.nil, SlAt.nil, SlAt.nil⟩)
      rw [sameA_refl] at SM
      obtain ⟨z0, z1, z2, z3, z4, z5, z6, z7, z8, z9⟩ := at10 A2.out
      go_wp2_with fail
      refine SM.out.mono ?_
      rintro e w5 ⟨rfl, hb5⟩
      have BF := Lib.hid (below_on B2.out (below_on B4.out hb5))
      clear hb5 SM NQ y0 y1 y2 z0 z1 z2 z3 z4 z5 z6 z7 z8 z9
      go_wp2_with fail
      go_ret
      exact ⟨rfl, BF.out⟩
end Go.Proofs.YtohkbcdnlmjcjaaDoor
