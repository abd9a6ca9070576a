/- Texts of one proof, one behind another. -/
import Derived.Test.YtohkbcdnlmjcjaaDoorWr27
import Derived.Test.YtohkbcdnlmjcjaaDoorWr28
/-
  AttrWrites walked.
-/
namespace Go.Proofs.YtohkbcdnlmjcjaaDoor
open Go.RowKit

set_option maxRecDepth 100000 in
theorem small_sz {a : At} (h : Small a) : AtSz a :=
  ⟨by have := h.path; omega, fun s hs => by have := h.segs s hs; unfold SgSz; omega, by have := h.comms; omega, by have := h.others; omega, fun o ho => by have := h.vals o ho; unfold OthSz; omega⟩
set_option maxHeartbeats 12800000 in
set_option maxRecDepth 100000 in
theorem law_AttrWrites (a : At) (vp vc vo : Value) (w : World) (hA : AtL w a vp vc vo) (hr : a.Rng) (hT : Tabs w) :
    Calls Tryd.prog 4 #[.agg (atV a vp vc vo).toArray] w fun e w' => e = .returned (.bool true) ∧ Below w.heap.size w w' := by
  show Calls Tryd.prog 4 #[.agg #[.int .i64 a.has, .int .i64 a.origin, vp, .int .u32 a.hop, .int .i64 a.med, .int .i64 a.loc, .int .i64 a.aggrAs, .int .u32 a.aggrId, vc, vo]] w _
  have HA := Lib.hid hA
  have HR := Lib.hid hr
  have HT := Lib.hid hT
  have BG := Lib.hid (fun W h => law_big a vp vc vo W h)
  have OBY : Hid (∀ o ∈ a.others, ∀ y ∈ o.2, y < 256) := Lib.hid fun o ho => by
    obtain ⟨cs, u, -, -, hu⟩ := slat_all hA.2.2 o ho
    exact bytes_rng hu
  obtain ⟨⟨sp, cp, rfl, -⟩, ⟨sc, cc, rfl, -⟩, ⟨so, co, rfl, -⟩⟩ := hA
  clear hr hT
  go_enter Tryd.func4, Tryd.ntmps4
  go_upto_region 1 with (fail)
  obtain ⟨W0, hW0, q, hb0, _⟩ := boxA w (.int .i64 a.has) (.int .i64 a.origin) (.slice sp a.path.length cp) (.int .u32 a.hop) (.int .i64 a.med) (.int .i64 a.loc) (.int .i64 a.aggrAs) (.int .u32 a.aggrId) (.slice sc a.comms.length cc) (.slice so a.others.length co)
  rw [← hW0]
  clear hW0
  have Q0 := Lib.hid q
  have B0 := Lib.hid hb0
  clear q hb0
  go_wp2_with fail
  refine (law_head _ (HT.out.below B0.out)).mono ?_
  rintro e w1 ⟨rfl, hb1⟩
  have Q1 := Lib.hid ((hb1.block _ (row_lt Q0.out)).trans Q0.out)
  have B1 := Lib.hid (below_on B0.out hb1)
  clear hb1 Q0 B0
  go_wp2_with ((with_reducible refine halt_at (X := .load 28 (.tmp 1)) ?_ ?_); (· rfl))
  unfold Halt
  refine ld_at (by rfl) 28 (.tmp 1) rfl w.heap.size rfl 28 #[.int .i64 a.has, .int .i64 a.origin, .slice sp a.path.length cp, .int .u32 a.hop, .int .i64 a.med, .int .i64 a.loc, .int .i64 a.aggrAs, .int .u32 a.aggrId, .slice sc a.comms.length cc, .slice so a.others.length co] (0, 0) _ Q1.out Tryd.underlying28 rfl sz_attrs ?_
  go_wp2_with fail
  refine (BG.out _ (HA.out.below B1.out)).mono ?_
  rintro e w2 ⟨b, rfl, hsm, hb2⟩
  have Q2 := Lib.hid ((hb2.block _ (row_lt Q1.out)).trans Q1.out)
  have B2 := Lib.hid (below_on B1.out hb2)
  have SM := Lib.hid hsm
  clear hb2 Q1 B1 hsm BG
  cases b
  case true =>
    go_wp2_with fail
    go_ret
    exact ⟨rfl, B2.out⟩
  have SM2 := Lib.hid (SM.out rfl)
  clear SM
  -- Clone
  have CL := Lib.hid (at_Clone a _ _ _ w2 (HA.out.below B2.out) (small_sz SM2.out))
  go_wp2_with ((with_reducible refine halt_at (X := .load 28 (.tmp 1)) ?_ ?_); (· rfl))
  unfold Halt
  refine ld_at (by rfl) 28 (.tmp 1) rfl w.heap.size rfl 28 #[.int .i64 a.has, .int .i64 a.origin, .slice sp a.path.length cp, .int .u32 a.hop, .int .i64 a.med, .int .i64 a.loc, .int .i64 a.aggrAs, .int .u32 a.aggrId, .slice sc a.comms.length cc, .slice so a.others.length co] (0, 0) _ Q2.out Tryd.underlying28 rfl sz_attrs ?_
  go_wp2_with fail
  refine CL.out.mono ?_
  rintro e w3 ⟨vp3, vc3, vo3, rfl, fr, hb3⟩
  have FR := Lib.hid fr.self.1
  obtain ⟨⟨mp, dp, rfl, -⟩, ⟨mc, dc, rfl, -⟩, ⟨mo, do_, rfl, -⟩⟩ := fr.self.1
  have Q3 := Lib.hid ((hb3.block _ (row_lt Q2.out)).trans Q2.out)
  have B3 := Lib.hid (below_on B2.out hb3)
  clear hb3 fr Q2 B2 CL
  go_wp2_with ((with_reducible refine halt_at (X := .store 28 (.tmp 3) (.tmp 15)) ?_ ?_); (· rfl))
  unfold Halt
  refine st_fresh rfl 28 (.tmp 3) (.tmp 15) rfl rfl _ #[.int .i64 a.has, .int .i64 a.origin, .slice mp a.path.length dp, .int .u32 a.hop, .int .i64 a.med, .int .i64 a.loc, .int .i64 a.aggrAs, .int .u32 a.aggrId, .slice mc a.comms.length dc, .slice mo a.others.length do_] rfl sz_attrs rfl (by simp [Value.oneCell']) ?_
  obtain ⟨w4, hw4, c4, hb4, -⟩ := boxA w3 (.int .i64 a.has) (.int .i64 a.origin) (.slice mp a.path.length dp) (.int .u32 a.hop) (.int .i64 a.med) (.int .i64 a.loc) (.int .i64 a.aggrAs) (.int .u32 a.aggrId) (.slice mc a.comms.length dc) (.slice mo a.others.length do_)
  rw [← hw4]
  have C4 := Lib.hid c4
  have Q4 := Lib.hid ((hb4.block _ (row_lt Q3.out)).trans Q3.out)
  have B4 := Lib.hid (below_on B3.out hb4)
  have LM : Hid (AtL w4 a (.slice mp a.path.length dp) (.slice mc a.comms.length dc) (.slice mo a.others.length do_)) := Lib.hid (FR.out.below hb4)
  clear hw4 c4 hb4 Q3 B3 FR
  -- Encode
  have EC := Lib.hid (at_Encode a _ _ _ w4 LM.out HR.out (HT.out.below B4.out) (by have := SM2.out.path; omega) (by have := SM2.out.others; omega))
  go_wp2_with ((with_reducible refine halt_at (X := .load 28 (.tmp 3)) ?_ ?_); (· rfl))
  unfold Halt
  refine ld_at (by rfl) 28 (.tmp 3) rfl w3.heap.size rfl 28 #[.int .i64 a.has, .int .i64 a.origin, .slice mp a.path.length dp, .int .u32 a.hop, .int .i64 a.med, .int .i64 a.loc, .int .i64 a.aggrAs, .int .u32 a.aggrId, .slice mc a.comms.length dc, .slice mo a.others.length do_] (0, 0) _ C4.out Tryd.underlying28 rfl sz_attrs ?_
  go_wp2_with fail
  refine EC.out.mono ?_
  rintro e w5 ⟨vb, rfl, ok5, nok5, hb5⟩
  have C5 := Lib.hid ((hb5.block _ (row_lt C4.out)).trans C4.out)
  have Q5 := Lib.hid ((hb5.block _ (row_lt Q4.out)).trans Q4.out)
  have B5 := Lib.hid (below_on B4.out hb5)
  have L5 := Lib.hid (LM.out.below hb5)
  obtain ⟨zs, hzs⟩ : ∃ zs, zs = if encI a = 0 then encL a else [] := ⟨_, rfl⟩
  have VB : Hid (BytesAt w5 vb zs) := Lib.hid (by
    by_cases h0 : encI a = 0
    · rw [hzs, if_pos h0]; exact ownB_bytes (ok5 h0) (enc_lt OBY.out)
    · rw [hzs, if_neg h0, nok5 h0]; exact bytes_nil w5)
  have HZ := Lib.hid hzs
  clear hb5 ok5 nok5 hzs C4 Q4 B4 LM EC
  obtain ⟨sb, cb, rfl, -⟩ := id VB.out
  -- the reference's
  have PL := Lib.hid (fun W (h : AtL W a (.slice sp a.path.length cp) (.slice sc a.comms.length cc) (.slice so a.others.length co)) => r_Plain a _ _ _ W h HR.out SM2.out)
  have PM := Lib.hid (fun W (h : AtL W a (.slice mp a.path.length dp) (.slice mc a.comms.length dc) (.slice mo a.others.length do_)) => r_Plain a _ _ _ W h HR.out SM2.out)
  have RE := Lib.hid (fun vp vc vo W (h : AtL W a vp vc vo) => r_Encode a vp vc vo W h HR.out (by have := SM2.out.path; omega) (by have := SM2.out.others; omega))
  go_wp2_with ((with_reducible refine halt_at (X := .load 28 (.tmp 1)) ?_ ?_); (· rfl))
  unfold Halt
  refine ld_at (by rfl) 28 (.tmp 1) rfl w.heap.size rfl 28 #[.int .i64 a.has, .int .i64 a.origin, .slice sp a.path.length cp, .int .u32 a.hop, .int .i64 a.med, .int .i64 a.loc, .int .i64 a.aggrAs, .int .u32 a.aggrId, .slice sc a.comms.length cc, .slice so a.others.length co] (0, 0) _ Q5.out Tryd.underlying28 rfl sz_attrs ?_
  go_wp2_with fail
  refine (PL.out w5 (HA.out.below B5.out)).mono ?_
  rintro e w6 ⟨vp6, vo6, rfl, al6, hb6⟩
  have C6 := Lib.hid ((hb6.block _ (row_lt C5.out)).trans C5.out)
  have Q6 := Lib.hid ((hb6.block _ (row_lt Q5.out)).trans Q5.out)
  have B6 := Lib.hid (below_on B5.out hb6)
  have L6 := Lib.hid (L5.out.below hb6)
  have V6 := Lib.hid (BytesAt.below VB.out hb6)
  have RC := Lib.hid (RE.out _ _ _ w6 al6)
  obtain ⟨⟨sp6, cp6, rfl, -⟩, -, ⟨so6, co6, rfl, -⟩⟩ := al6
  clear hb6 C5 Q5 B5 L5 VB RE
  go_wp2_with fail
  refine RC.out.mono ?_
  rintro e w7 ⟨vw, rfl, ok7, nok7, hb7⟩
  have C7 := Lib.hid ((hb7.block _ (row_lt C6.out)).trans C6.out)
  have Q7 := Lib.hid ((hb7.block _ (row_lt Q6.out)).trans Q6.out)
  have B7 := Lib.hid (below_on B6.out hb7)
  have L7 := Lib.hid (L6.out.below hb7)
  have V7 := Lib.hid (BytesAt.below V6.out hb7)
  have VW : Hid (BytesAt w7 vw zs) := Lib.hid (by
    rw [HZ.out]
    by_cases h0 : encI a = 0
    · rw [if_pos h0]; exact ownB_bytes (ok7 h0) (enc_lt OBY.out)
    · rw [if_neg h0, nok7 h0]; exact bytes_nil w7)
  clear hb7 ok7 nok7 C6 Q6 B6 L6 V6 RC
  obtain ⟨sw, cw, rfl, -⟩ := id VW.out
  obtain ⟨n, hn⟩ : ∃ n, encI a = n := ⟨_, rfl⟩
  have NE := Lib.hid hn
  rw [hn]
  clear hn
  have SB : Hid (∀ W, Below w7.heap.size w7 W → Calls Tryd.prog 18 #[.slice sb zs.length cb, .slice sw zs.length cw] W fun e w' => e = .returned (.bool true) ∧ Below W.heap.size W w') := Lib.hid fun W hW => by
    have h := r_Same5 _ _ zs zs W (BytesAt.below V7.out hW) (BytesAt.below VW.out hW)
    rw [decide_eq_true (rfl : zs = zs)] at h
    exact h.mono fun _ _ ⟨h1, h2⟩ => ⟨h1, h2 ▸ Below.refl _ _⟩
  have HW : Hid (∀ W, Below w7.heap.size w7 W → AtL W a (.slice sp a.path.length cp) (.slice sc a.comms.length cc) (.slice so a.others.length co)) := Lib.hid fun W hW => HA.out.below (below_on B7.out hW)
  have MW : Hid (∀ W, Below w7.heap.size w7 W → AtL W a (.slice mp a.path.length dp) (.slice mc a.comms.length dc) (.slice mo a.others.length do_)) := Lib.hid fun W hW => L7.out.below hW
  have CK := Lib.hid (fun W hW => at_Check a _ _ _ W (HW.out W hW))
  have RT := Lib.hid (fun vp vc vo W (h : AtL W a vp vc vo) => r_Right a vp vc vo W h HR.out)
  have SS := Lib.hid (fun vp vc vo up uc uo W (h : AtL W a vp vc vo) (h' : AtL W a up uc uo) => r_Same6 a vp vc vo up uc uo W h h')
  have d0 : (n != n) = false := by simp
  go_upto_region 8 with (fail)
  go_cut [52] from 27 to 52 (fun s wx => s = .bool false ∧ Hid (Below w7.heap.size w7 wx))
  case first =>
    rcases hck : checkB a with _ | _
    · have C0 : checkI a = 1 := by unfold checkI; rw [hck]; rfl
      rw [hck] at RT
      rw [C0] at CK
      clear hck C0
      refine wp_region_held_drew (S := fun w' => Below w7.heap.size w7 w') (by kernel_rfl) ?_ (fun hHeld => ?_)
      · exact (Below.refl _ _).drew
      refine rgy (i := 0) (v := ?_) (atN rfl) (by kernel_rfl) (fun _ _ _ h => h) ?_ ?_ hHeld ?_; rotate_left 1; (· rfl); (· intro w' hSw; (try clear hHeld); go_simp; try with_reducible rfl)
      try simp only [Act.put, List.setIfInBounds_toArray, List.set_cons_zero, List.set_cons_succ]
      refine rgy (i := 1) (v := ?_) (atN rfl) (by kernel_rfl) (fun _ _ _ h => h) ?_ ?_ hHeld ?_; rotate_left 1; (· rfl); (· intro w' hSw; (try clear hHeld); go_simp; try with_reducible rfl)
      try simp only [Act.put, List.setIfInBounds_toArray, List.set_cons_zero, List.set_cons_succ]
      refine rgy (i := 2) (v := ?_) (atN rfl) (by kernel_rfl) (fun _ _ _ h => h) ?_ ?_ hHeld ?_; rotate_left 1; (· rfl); (· intro w' hSw; (try clear hHeld); go_simp; try with_reducible rfl)
      try simp only [Act.put, List.setIfInBounds_toArray, List.set_cons_zero, List.set_cons_succ]
      refine rgy (i := 3) (v := ?_) (atN rfl) (by kernel_rfl) (fun _ _ _ h => h) ?_ ?_ hHeld ?_; rotate_left 1; (· rfl); (· intro w' hSw; (try clear hHeld); go_simp; try with_reducible rfl)
      try simp only [Act.put, List.setIfInBounds_toArray, List.set_cons_zero, List.set_cons_succ]
      first | (refine rgn (i := 4) (atN rfl) (by kernel_rfl) (fun _ _ _ h => h) ?_ hHeld ?_; (· rfl)) | (refine rgy (i := 4) (v := ?_) (atN rfl) (by kernel_rfl) (fun _ _ _ h => h) ?_ ?_ hHeld ?_; rotate_left 1; (· rfl); (· intro w' hSw; (try clear hHeld); go_simp; try with_reducible rfl))
      try simp only [Act.put, List.setIfInBounds_toArray, List.set_cons_zero, List.set_cons_succ]
      first | (refine rgn (i := 5) (atN rfl) (by kernel_rfl) (fun _ _ _ h => h) ?_ hHeld ?_; (· rfl)) | (refine rgy (i := 5) (v := ?_) (atN rfl) (by kernel_rfl) (fun _ _ _ h => h) ?_ ?_ hHeld ?_; rotate_left 1; (· rfl); (· intro w' hSw; (try clear hHeld); go_simp; try with_reducible rfl))
      try simp only [Act.put, List.setIfInBounds_toArray, List.set_cons_zero, List.set_cons_succ]
      first | (refine rgn (i := 6) (atN rfl) (by kernel_rfl) (fun _ _ _ h => h) ?_ hHeld ?_; (· rfl)) | (refine rg_call (i := 6) (atN rfl) (by kernel_rfl) ?_ (fun K hK => ?_); (· rfl); (try clear hb); go_simp; (refine (SB.out _ hHeld).mono ?_; rintro e w1 ⟨rfl, hb⟩); go_wp2_with fail; refine hK.out _ _ ?_ (fun hHeld => ?_); (· exact hHeld.trans (hb.mono hHeld.size)); clear hK K)
      try simp only [Act.put, List.setIfInBounds_toArray, List.set_cons_zero, List.set_cons_succ]
      first | (refine rgn (i := 7) (atN rfl) (by kernel_rfl) (fun _ _ _ h => h) ?_ hHeld ?_; (· rfl)) | (refine rgy (i := 7) (v := ?_) (atN rfl) (by kernel_rfl) (fun _ _ _ h => h) ?_ ?_ hHeld ?_; rotate_left 1; (· rfl); (· intro w' hSw; (try clear hHeld); go_simp; try with_reducible rfl))
      try simp only [Act.put, List.setIfInBounds_toArray, List.set_cons_zero, List.set_cons_succ]
      refine rgy (i := 8) (v := ?_) (atN rfl) (by kernel_rfl) (fun _ _ _ h => h) ?_ ?_ hHeld ?_; rotate_left 1; (· rfl); (· intro w' hSw; (try clear hHeld); go_simp; try with_reducible rfl)
      try simp only [Act.put, List.setIfInBounds_toArray, List.set_cons_zero, List.set_cons_succ]
      refine rgy (i := 9) (v := ?_) (atN rfl) (by kernel_rfl) (fun _ _ _ h => h) ?_ ?_ hHeld ?_; rotate_left 1; (· rfl); (· intro w' hSw; (try clear hHeld); go_simp; try with_reducible rfl)
      try simp only [Act.put, List.setIfInBounds_toArray, List.set_cons_zero, List.set_cons_succ]
      first | (refine rgn (i := 10) (atN rfl) (by kernel_rfl) (fun _ _ _ h => h) ?_ hHeld ?_; (· rfl)) | (refine rgy (i := 10) (v := ?_) (atN rfl) (by kernel_rfl) (fun _ _ _ h => h) ?_ ?_ hHeld ?_; rotate_left 1; (· rfl); (· intro w' hSw; refine exec_ld 28 (.tmp 1) ?_ w.heap.size ?_ 28 _ (0, 0) _ ((hSw.block _ (row_lt Q7.out)).trans Q7.out) Tryd.underlying28 rfl sz_attrs <;> rfl))
      try simp only [Act.put, List.setIfInBounds_toArray, List.set_cons_zero, List.set_cons_succ]
      first | (refine rgn (i := 13) (atN rfl) (by kernel_rfl) (fun _ _ _ h => h) ?_ hHeld ?_; (· rfl)) | (refine rgy (i := 13) (v := ?_) (atN rfl) (by kernel_rfl) (fun _ _ _ h => h) ?_ ?_ hHeld ?_; rotate_left 1; (· rfl); (· intro w' hSw; refine exec_ld 28 (.tmp 1) ?_ w.heap.size ?_ 28 _ (0, 0) _ ((hSw.block _ (row_lt Q7.out)).trans Q7.out) Tryd.underlying28 rfl sz_attrs <;> rfl))
      try simp only [Act.put, List.setIfInBounds_toArray, List.set_cons_zero, List.set_cons_succ]
      first | (refine rgn (i := 11) (atN rfl) (by kernel_rfl) (fun _ _ _ h => h) ?_ hHeld ?_; (· rfl)) | (refine rg_call (i := 11) (atN rfl) (by kernel_rfl) ?_ (fun K hK => ?_); (· rfl); (try clear hb); go_simp; (refine (CK.out _ hHeld).mono ?_; rintro e w1 ⟨rfl, hb⟩); go_wp2_with fail; refine hK.out _ _ ?_ (fun hHeld => ?_); (· exact hHeld.trans (hb.mono hHeld.size)); clear hK K)
      try simp only [Act.put, List.setIfInBounds_toArray, List.set_cons_zero, List.set_cons_succ]
      first | (refine rgn (i := 12) (atN rfl) (by kernel_rfl) (fun _ _ _ h => h) ?_ hHeld ?_; (· rfl)) | (refine rgy (i := 12) (v := ?_) (atN rfl) (by kernel_rfl) (fun _ _ _ h => h) ?_ ?_ hHeld ?_; rotate_left 1; (· rfl); (· intro w' hSw; (try clear hHeld); go_simp; try with_reducible rfl))
      try simp only [Act.put, List.setIfInBounds_toArray, List.set_cons_zero, List.set_cons_succ]
      first | (refine rgn (i := 14) (atN rfl) (by kernel_rfl) (fun _ _ _ h => h) ?_ hHeld ?_; (· rfl)) | (refine rg_call (i := 14) (atN rfl) (by kernel_rfl) ?_ (fun K hK => ?_); (· rfl); (try clear hb); go_simp; refine (PL.out _ (HW.out _ hHeld)).mono ?_; rintro e wp ⟨vpp, vpo, rfl, alp, hb⟩; have FP := Lib.hid alp; have BP := Lib.hid (below_on hHeld hb); clear alp hb hHeld; go_wp2_with fail; refine hK.out _ _ ?_ (fun hHeld => ?_); (· exact BP.out); clear hK K)
      try simp only [Act.put, List.setIfInBounds_toArray, List.set_cons_zero, List.set_cons_succ]
      first | (refine rgn (i := 15) (atN rfl) (by kernel_rfl) (fun _ _ _ h => h) ?_ hHeld ?_; (· rfl)) | (refine rg_call (i := 15) (atN rfl) (by kernel_rfl) ?_ (fun K hK => ?_); (· rfl); (try clear hb); go_simp; refine (RT.out _ _ _ _ FP.out).mono ?_; rintro e wq ⟨rfl, hb⟩; have BQ := Lib.hid (below_on BP.out hb); clear hb FP BP; go_wp2_with fail; refine hK.out _ _ ?_ (fun hHeld => ?_); (· exact BQ.out); clear hK K)
      try simp only [Act.put, List.setIfInBounds_toArray, List.set_cons_zero, List.set_cons_succ]
      first | (refine rgn (i := 16) (atN rfl) (by kernel_rfl) (fun _ _ _ h => h) ?_ hHeld ?_; (· rfl)) | (refine rgy (i := 16) (v := ?_) (atN rfl) (by kernel_rfl) (fun _ _ _ h => h) ?_ ?_ hHeld ?_; rotate_left 1; (· rfl); (· intro w' hSw; (try clear hHeld); go_simp; try with_reducible rfl))
      try simp only [Act.put, List.setIfInBounds_toArray, List.set_cons_zero, List.set_cons_succ]
      refine rgy (i := 17) (v := ?_) (atN rfl) (by kernel_rfl) (fun _ _ _ h => h) ?_ ?_ hHeld ?_; rotate_left 1; (· rfl); (· intro w' hSw; (try clear hHeld); go_simp; try with_reducible rfl)
      try simp only [Act.put, List.setIfInBounds_toArray, List.set_cons_zero, List.set_cons_succ]
      refine rgy (i := 18) (v := ?_) (atN rfl) (by kernel_rfl) (fun _ _ _ h => h) ?_ ?_ hHeld ?_; rotate_left 1; (· rfl); (· intro w' hSw; (try clear hHeld); go_simp; try with_reducible rfl)
      try simp only [Act.put, List.setIfInBounds_toArray, List.set_cons_zero, List.set_cons_succ]
      first | (refine rgn (i := 19) (atN rfl) (by kernel_rfl) (fun _ _ _ h => h) ?_ hHeld ?_; (· rfl)) | (refine rgy (i := 19) (v := ?_) (atN rfl) (by kernel_rfl) (fun _ _ _ h => h) ?_ ?_ hHeld ?_; rotate_left 1; (· rfl); (· intro w' hSw; refine exec_ld 28 (.tmp 3) ?_ w3.heap.size ?_ 28 _ (0, 0) _ ((hSw.block _ (row_lt C7.out)).trans C7.out) Tryd.underlying28 rfl sz_attrs <;> rfl))
      try simp only [Act.put, List.setIfInBounds_toArray, List.set_cons_zero, List.set_cons_succ]
      first | (refine rgn (i := 21) (atN rfl) (by kernel_rfl) (fun _ _ _ h => h) ?_ hHeld ?_; (· rfl)) | (refine rgy (i := 21) (v := ?_) (atN rfl) (by kernel_rfl) (fun _ _ _ h => h) ?_ ?_ hHeld ?_; rotate_left 1; (· rfl); (· intro w' hSw; refine exec_ld 28 (.tmp 1) ?_ w.heap.size ?_ 28 _ (0, 0) _ ((hSw.block _ (row_lt Q7.out)).trans Q7.out) Tryd.underlying28 rfl sz_attrs <;> rfl))
      try simp only [Act.put, List.setIfInBounds_toArray, List.set_cons_zero, List.set_cons_succ]
      first | (refine rgn (i := 20) (atN rfl) (by kernel_rfl) (fun _ _ _ h => h) ?_ hHeld ?_; (· rfl)) | (refine rg_call (i := 20) (atN rfl) (by kernel_rfl) ?_ (fun K hK => ?_); (· rfl); (try clear hb); go_simp; refine (PM.out _ (MW.out _ hHeld)).mono ?_; rintro e wp ⟨vpp, vpo, rfl, alp, hb⟩; have FP := Lib.hid alp; have BP := Lib.hid (below_on hHeld hb); clear alp hb hHeld; go_wp2_with fail; refine hK.out _ _ ?_ (fun hHeld => ?_); (· exact BP.out); clear hK K)
      try simp only [Act.put, List.setIfInBounds_toArray, List.set_cons_zero, List.set_cons_succ]
      first | (refine rgn (i := 22) (atN rfl) (by kernel_rfl) (fun _ _ _ h => h) ?_ hHeld ?_; (· rfl)) | (refine rg_call (i := 22) (atN rfl) (by kernel_rfl) ?_ (fun K hK => ?_); (· rfl); (try clear hb); go_simp; refine (PL.out _ (HW.out _ BP.out)).mono ?_; rintro e wq ⟨vqp, vqo, rfl, alq, hb⟩; have FQ := Lib.hid alq; have FP2 := Lib.hid (FP.out.below hb); have BQ := Lib.hid (below_on BP.out hb); clear alq hb; go_wp2_with fail; refine hK.out _ _ ?_ (fun hHeld => ?_); (· exact BQ.out); clear hK K)
      try simp only [Act.put, List.setIfInBounds_toArray, List.set_cons_zero, List.set_cons_succ]
      first | (refine rgn (i := 23) (atN rfl) (by kernel_rfl) (fun _ _ _ h => h) ?_ hHeld ?_; (· rfl)) | (refine rg_call (i := 23) (atN rfl) (by kernel_rfl) ?_ (fun K hK => ?_); (· rfl); (try clear hb); go_simp; refine (SS.out _ _ _ _ _ _ _ FP2.out FQ.out).mono ?_; rintro e wr ⟨rfl, hb⟩; have BR := Lib.hid (below_on BQ.out hb); clear hb; go_wp2_with fail; refine hK.out _ _ ?_ (fun hHeld => ?_); (· exact BR.out); clear hK K)
      try simp only [Act.put, List.setIfInBounds_toArray, List.set_cons_zero, List.set_cons_succ]
      first | (refine rgn (i := 24) (atN rfl) (by kernel_rfl) (fun _ _ _ h => h) ?_ hHeld ?_; (· rfl)) | (refine rgy (i := 24) (v := ?_) (atN rfl) (by kernel_rfl) (fun _ _ _ h => h) ?_ ?_ hHeld ?_; rotate_left 1; (· rfl); (· intro w' hSw; (try clear hHeld); go_simp; try with_reducible rfl))
      try simp only [Act.put, List.setIfInBounds_toArray, List.set_cons_zero, List.set_cons_succ]
      refine rgy (i := 25) (v := ?_) (atN rfl) (by kernel_rfl) (fun _ _ _ h => h) ?_ ?_ hHeld ?_; rotate_left 1; (· rfl); (· intro w' hSw; (try clear hHeld); go_simp; try with_reducible rfl)
      try simp only [Act.put, List.setIfInBounds_toArray, List.set_cons_zero, List.set_cons_succ]
      refine wpAnyH_done (by kernel_rfl) ?_ _
      go_wp2_with fail
      go_meet
      exact ⟨rfl, Lib.hid hHeld⟩
    · have C0 : checkI a = 0 := by unfold checkI; rw [hck]; rfl
      rw [hck] at RT
      rw [C0] at CK
      clear hck C0
      refine wp_region_held_drew (S := fun w' => Below w7.heap.size w7 w') (by kernel_rfl) ?_ (fun hHeld => ?_)
      · exact (Below.refl _ _).drew
      refine rgy (i := 0) (v := ?_) (atN rfl) (by kernel_rfl) (fun _ _ _ h => h) ?_ ?_ hHeld ?_; rotate_left 1; (· rfl); (· intro w' hSw; (try clear hHeld); go_simp; try with_reducible rfl)
      try simp only [Act.put, List.setIfInBounds_toArray, List.set_cons_zero, List.set_cons_succ]
      refine rgy (i := 1) (v := ?_) (atN rfl) (by kernel_rfl) (fun _ _ _ h => h) ?_ ?_ hHeld ?_; rotate_left 1; (· rfl); (· intro w' hSw; (try clear hHeld); go_simp; try with_reducible rfl)
      try simp only [Act.put, List.setIfInBounds_toArray, List.set_cons_zero, List.set_cons_succ]
      refine rgy (i := 2) (v := ?_) (atN rfl) (by kernel_rfl) (fun _ _ _ h => h) ?_ ?_ hHeld ?_; rotate_left 1; (· rfl); (· intro w' hSw; (try clear hHeld); go_simp; try with_reducible rfl)
      try simp only [Act.put, List.setIfInBounds_toArray, List.set_cons_zero, List.set_cons_succ]
      refine rgy (i := 3) (v := ?_) (atN rfl) (by kernel_rfl) (fun _ _ _ h => h) ?_ ?_ hHeld ?_; rotate_left 1; (· rfl); (· intro w' hSw; (try clear hHeld); go_simp; try with_reducible rfl)
      try simp only [Act.put, List.setIfInBounds_toArray, List.set_cons_zero, List.set_cons_succ]
      first | (refine rgn (i := 4) (atN rfl) (by kernel_rfl) (fun _ _ _ h => h) ?_ hHeld ?_; (· rfl)) | (refine rgy (i := 4) (v := ?_) (atN rfl) (by kernel_rfl) (fun _ _ _ h => h) ?_ ?_ hHeld ?_; rotate_left 1; (· rfl); (· intro w' hSw; (try clear hHeld); go_simp; try with_reducible rfl))
      try simp only [Act.put, List.setIfInBounds_toArray, List.set_cons_zero, List.set_cons_succ]
      first | (refine rgn (i := 5) (atN rfl) (by kernel_rfl) (fun _ _ _ h => h) ?_ hHeld ?_; (· rfl)) | (refine rgy (i := 5) (v := ?_) (atN rfl) (by kernel_rfl) (fun _ _ _ h => h) ?_ ?_ hHeld ?_; rotate_left 1; (· rfl); (· intro w' hSw; (try clear hHeld); go_simp; try with_reducible rfl))
      try simp only [Act.put, List.setIfInBounds_toArray, List.set_cons_zero, List.set_cons_succ]
      first | (refine rgn (i := 6) (atN rfl) (by kernel_rfl) (fun _ _ _ h => h) ?_ hHeld ?_; (· rfl)) | (refine rg_call (i := 6) (atN rfl) (by kernel_rfl) ?_ (fun K hK => ?_); (· rfl); (try clear hb); go_simp; (refine (SB.out _ hHeld).mono ?_; rintro e w1 ⟨rfl, hb⟩); go_wp2_with fail; refine hK.out _ _ ?_ (fun hHeld => ?_); (· exact hHeld.trans (hb.mono hHeld.size)); clear hK K)
      try simp only [Act.put, List.setIfInBounds_toArray, List.set_cons_zero, List.set_cons_succ]
      first | (refine rgn (i := 7) (atN rfl) (by kernel_rfl) (fun _ _ _ h => h) ?_ hHeld ?_; (· rfl)) | (refine rgy (i := 7) (v := ?_) (atN rfl) (by kernel_rfl) (fun _ _ _ h => h) ?_ ?_ hHeld ?_; rotate_left 1; (· rfl); (· intro w' hSw; (try clear hHeld); go_simp; try with_reducible rfl))
      try simp only [Act.put, List.setIfInBounds_toArray, List.set_cons_zero, List.set_cons_succ]
      refine rgy (i := 8) (v := ?_) (atN rfl) (by kernel_rfl) (fun _ _ _ h => h) ?_ ?_ hHeld ?_; rotate_left 1; (· rfl); (· intro w' hSw; (try clear hHeld); go_simp; try with_reducible rfl)
      try simp only [Act.put, List.setIfInBounds_toArray, List.set_cons_zero, List.set_cons_succ]
      refine rgy (i := 9) (v := ?_) (atN rfl) (by kernel_rfl) (fun _ _ _ h => h) ?_ ?_ hHeld ?_; rotate_left 1; (· rfl); (· intro w' hSw; (try clear hHeld); go_simp; try with_reducible rfl)
      try simp only [Act.put, List.setIfInBounds_toArray, List.set_cons_zero, List.set_cons_succ]
      first | (refine rgn (i := 10) (atN rfl) (by kernel_rfl) (fun _ _ _ h => h) ?_ hHeld ?_; (· rfl)) | (refine rgy (i := 10) (v := ?_) (atN rfl) (by kernel_rfl) (fun _ _ _ h => h) ?_ ?_ hHeld ?_; rotate_left 1; (· rfl); (· intro w' hSw; refine exec_ld 28 (.tmp 1) ?_ w.heap.size ?_ 28 _ (0, 0) _ ((hSw.block _ (row_lt Q7.out)).trans Q7.out) Tryd.underlying28 rfl sz_attrs <;> rfl))
      try simp only [Act.put, List.setIfInBounds_toArray, List.set_cons_zero, List.set_cons_succ]
      first | (refine rgn (i := 13) (atN rfl) (by kernel_rfl) (fun _ _ _ h => h) ?_ hHeld ?_; (· rfl)) | (refine rgy (i := 13) (v := ?_) (atN rfl) (by kernel_rfl) (fun _ _ _ h => h) ?_ ?_ hHeld ?_; rotate_left 1; (· rfl); (· intro w' hSw; refine exec_ld 28 (.tmp 1) ?_ w.heap.size ?_ 28 _ (0, 0) _ ((hSw.block _ (row_lt Q7.out)).trans Q7.out) Tryd.underlying28 rfl sz_attrs <;> rfl))
      try simp only [Act.put, List.setIfInBounds_toArray, List.set_cons_zero, List.set_cons_succ]
      first | (refine rgn (i := 11) (atN rfl) (by kernel_rfl) (fun _ _ _ h => h) ?_ hHeld ?_; (· rfl)) | (refine rg_call (i := 11) (atN rfl) (by kernel_rfl) ?_ (fun K hK => ?_); (· rfl); (try clear hb); go_simp; (refine (CK.out _ hHeld).mono ?_; rintro e w1 ⟨rfl, hb⟩); go_wp2_with fail; refine hK.out _ _ ?_ (fun hHeld => ?_); (· exact hHeld.trans (hb.mono hHeld.size)); clear hK K)
      try simp only [Act.put, List.setIfInBounds_toArray, List.set_cons_zero, List.set_cons_succ]
      first | (refine rgn (i := 12) (atN rfl) (by kernel_rfl) (fun _ _ _ h => h) ?_ hHeld ?_; (· rfl)) | (refine rgy (i := 12) (v := ?_) (atN rfl) (by kernel_rfl) (fun _ _ _ h => h) ?_ ?_ hHeld ?_; rotate_left 1; (· rfl); (· intro w' hSw; (try clear hHeld); go_simp; try with_reducible rfl))
      try simp only [Act.put, List.setIfInBounds_toArray, List.set_cons_zero, List.set_cons_succ]
      first | (refine rgn (i := 14) (atN rfl) (by kernel_rfl) (fun _ _ _ h => h) ?_ hHeld ?_; (· rfl)) | (refine rg_call (i := 14) (atN rfl) (by kernel_rfl) ?_ (fun K hK => ?_); (· rfl); (try clear hb); go_simp; refine (PL.out _ (HW.out _ hHeld)).mono ?_; rintro e wp ⟨vpp, vpo, rfl, alp, hb⟩; have FP := Lib.hid alp; have BP := Lib.hid (below_on hHeld hb); clear alp hb hHeld; go_wp2_with fail; refine hK.out _ _ ?_ (fun hHeld => ?_); (· exact BP.out); clear hK K)
      try simp only [Act.put, List.setIfInBounds_toArray, List.set_cons_zero, List.set_cons_succ]
      first | (refine rgn (i := 15) (atN rfl) (by kernel_rfl) (fun _ _ _ h => h) ?_ hHeld ?_; (· rfl)) | (refine rg_call (i := 15) (atN rfl) (by kernel_rfl) ?_ (fun K hK => ?_); (· rfl); (try clear hb); go_simp; refine (RT.out _ _ _ _ FP.out).mono ?_; rintro e wq ⟨rfl, hb⟩; have BQ := Lib.hid (below_on BP.out hb); clear hb FP BP; go_wp2_with fail; refine hK.out _ _ ?_ (fun hHeld => ?_); (· exact BQ.out); clear hK K)
      try simp only [Act.put, List.setIfInBounds_toArray, List.set_cons_zero, List.set_cons_succ]
      first | (refine rgn (i := 16) (atN rfl) (by kernel_rfl) (fun _ _ _ h => h) ?_ hHeld ?_; (· rfl)) | (refine rgy (i := 16) (v := ?_) (atN rfl) (by kernel_rfl) (fun _ _ _ h => h) ?_ ?_ hHeld ?_; rotate_left 1; (· rfl); (· intro w' hSw; (try clear hHeld); go_simp; try with_reducible rfl))
      try simp only [Act.put, List.setIfInBounds_toArray, List.set_cons_zero, List.set_cons_succ]
      refine rgy (i := 17) (v := ?_) (atN rfl) (by kernel_rfl) (fun _ _ _ h => h) ?_ ?_ hHeld ?_; rotate_left 1; (· rfl); (· intro w' hSw; (try clear hHeld); go_simp; try with_reducible rfl)
      try simp only [Act.put, List.setIfInBounds_toArray, List.set_cons_zero, List.set_cons_succ]
      refine rgy (i := 18) (v := ?_) (atN rfl) (by kernel_rfl) (fun _ _ _ h => h) ?_ ?_ hHeld ?_; rotate_left 1; (· rfl); (· intro w' hSw; (try clear hHeld); go_simp; try with_reducible rfl)
      try simp only [Act.put, List.setIfInBounds_toArray, List.set_cons_zero, List.set_cons_succ]
      first | (refine rgn (i := 19) (atN rfl) (by kernel_rfl) (fun _ _ _ h => h) ?_ hHeld ?_; (· rfl)) | (refine rgy (i := 19) (v := ?_) (atN rfl) (by kernel_rfl) (fun _ _ _ h => h) ?_ ?_ hHeld ?_; rotate_left 1; (· rfl); (· intro w' hSw; refine exec_ld 28 (.tmp 3) ?_ w3.heap.size ?_ 28 _ (0, 0) _ ((hSw.block _ (row_lt C7.out)).trans C7.out) Tryd.underlying28 rfl sz_attrs <;> rfl))
      try simp only [Act.put, List.setIfInBounds_toArray, List.set_cons_zero, List.set_cons_succ]
      first | (refine rgn (i := 21) (atN rfl) (by kernel_rfl) (fun _ _ _ h => h) ?_ hHeld ?_; (· rfl)) | (refine rgy (i := 21) (v := ?_) (atN rfl) (by kernel_rfl) (fun _ _ _ h => h) ?_ ?_ hHeld ?_; rotate_left 1; (· rfl); (· intro w' hSw; refine exec_ld 28 (.tmp 1) ?_ w.heap.size ?_ 28 _ (0, 0) _ ((hSw.block _ (row_lt Q7.out)).trans Q7.out) Tryd.underlying28 rfl sz_attrs <;> rfl))
      try simp only [Act.put, List.setIfInBounds_toArray, List.set_cons_zero, List.set_cons_succ]
      first | (refine rgn (i := 20) (atN rfl) (by kernel_rfl) (fun _ _ _ h => h) ?_ hHeld ?_; (· rfl)) | (refine rg_call (i := 20) (atN rfl) (by kernel_rfl) ?_ (fun K hK => ?_); (· rfl); (try clear hb); go_simp; refine (PM.out _ (MW.out _ hHeld)).mono ?_; rintro e wp ⟨vpp, vpo, rfl, alp, hb⟩; have FP := Lib.hid alp; have BP := Lib.hid (below_on hHeld hb); clear alp hb hHeld; go_wp2_with fail; refine hK.out _ _ ?_ (fun hHeld => ?_); (· exact BP.out); clear hK K)
      try simp only [Act.put, List.setIfInBounds_toArray, List.set_cons_zero, List.set_cons_succ]
      first | (refine rgn (i := 22) (atN rfl) (by kernel_rfl) (fun _ _ _ h => h) ?_ hHeld ?_; (· rfl)) | (refine rg_call (i := 22) (atN rfl) (by kernel_rfl) ?_ (fun K hK => ?_); (· rfl); (try clear hb); go_simp; refine (PL.out _ (HW.out _ BP.out)).mono ?_; rintro e wq ⟨vqp, vqo, rfl, alq, hb⟩; have FQ := Lib.hid alq; have FP2 := Lib.hid (FP.out.below hb); have BQ := Lib.hid (below_on BP.out hb); clear alq hb; go_wp2_with fail; refine hK.out _ _ ?_ (fun hHeld => ?_); (· exact BQ.out); clear hK K)
      try simp only [Act.put, List.setIfInBounds_toArray, List.set_cons_zero, List.set_cons_succ]
      first | (refine rgn (i := 23) (atN rfl) (by kernel_rfl) (fun _ _ _ h => h) ?_ hHeld ?_; (· rfl)) | (refine rg_call (i := 23) (atN rfl) (by kernel_rfl) ?_ (fun K hK => ?_); (· rfl); (try clear hb); go_simp; refine (SS.out _ _ _ _ _ _ _ FP2.out FQ.out).mono ?_; rintro e wr ⟨rfl, hb⟩; have BR := Lib.hid (below_on BQ.out hb); clear hb; go_wp2_with fail; refine hK.out _ _ ?_ (fun hHeld => ?_); (· exact BR.out); clear hK K)
      try simp only [Act.put, List.setIfInBounds_toArray, List.set_cons_zero, List.set_cons_succ]
      first | (refine rgn (i := 24) (atN rfl) (by kernel_rfl) (fun _ _ _ h => h) ?_ hHeld ?_; (· rfl)) | (refine rgy (i := 24) (v := ?_) (atN rfl) (by kernel_rfl) (fun _ _ _ h => h) ?_ ?_ hHeld ?_; rotate_left 1; (· rfl); (· intro w' hSw; (try clear hHeld); go_simp; try with_reducible rfl))
      try simp only [Act.put, List.setIfInBounds_toArray, List.set_cons_zero, List.set_cons_succ]
      refine rgy (i := 25) (v := ?_) (atN rfl) (by kernel_rfl) (fun _ _ _ h => h) ?_ ?_ hHeld ?_; rotate_left 1; (· rfl); (· intro w' hSw; (try clear hHeld); go_simp; try with_reducible rfl)
      try simp only [Act.put, List.setIfInBounds_toArray, List.set_cons_zero, List.set_cons_succ]
      refine wpAnyH_done (by kernel_rfl) ?_ _
      go_wp2_with fail
      go_meet
      exact ⟨rfl, Lib.hid hHeld⟩
  case rest =>
  obtain ⟨h52, BX⟩ := hcut
  subst h52
  obtain ⟨w8, hw8⟩ : ∃ wv : World, wv = wc := ⟨_, rfl⟩
  rw [← hw8] at BX ⊢
  clear hw8 wc d0 SB CK RT
  rcases enc_cases a with ⟨h0, hck, hl⟩ | h6 | h1
  · have N0 : n = 0 := by rw [← NE.out]; exact h0
    subst N0
    have HC := Lib.hid hck
    have HL := Lib.hid hl
    have hz : zs = encL a := by rw [HZ.out, if_pos h0]
    have V8 : Hid (BytesAt w8 (.slice sb zs.length cb) ((itsOf a).flatMap (It.bytes a))) := Lib.hid (by rw [← enc_its, ← hz]; exact BytesAt.below V7.out BX.out)
    have B8 := Lib.hid (below_on B7.out BX.out)
    have Q8 := Lib.hid ((BX.out.block _ (row_lt Q7.out)).trans Q7.out)
    have H8 := Lib.hid (fun W (hW : Below w8.heap.size w8 W) => HW.out W (below_on BX.out hW))
    have DC := Lib.hid (at_Decode (.slice sb zs.length cb) ((itsOf a).flatMap (It.bytes a)) w8 V8.out (HT.out.below B8.out) (by rw [← enc_its]; omega))
    clear hck hl h0 hz V7 VW L7 Q7 C7 B7 HW MW BX NE HZ
    go_wp2_with fail
    refine DC.out.mono ?_
    rintro e w9 hp9
    obtain ⟨vp9, vc9, vo9, rfl, al9, hb9⟩ := dec_post HC.out HR.out HL.out (List.Perm.refl _) hp9
    have AL9 := Lib.hid al9
    have Q9 := Lib.hid ((hb9.block _ (row_lt Q8.out)).trans Q8.out)
    have B9 := Lib.hid (below_on B8.out hb9)
    have H9 := Lib.hid (fun W (hW : Below w9.heap.size w9 W) => H8.out W (below_on hb9 hW))
    obtain ⟨⟨sp9, cp9, rfl, -⟩, ⟨sc9, cc9, rfl, -⟩, ⟨so9, co9, rfl, -⟩⟩ := al9
    clear DC hp9 hb9 Q8 B8 V8 H8
    go_wp2_with ((with_reducible refine halt_at (X := .store 28 (.tmp 8) (.tmp 58)) ?_ ?_); (· rfl))
    unfold Halt
    obtain ⟨V, hV, ra, rf, hb⟩ := boxTwo w9 atZ6 28 fltZ 54
    rw [← hV]
    clear hV
    refine st_row rfl 28 (.tmp 8) (.tmp 58) rfl w9.heap.size rfl 28 atZ6 (atV a (.slice sp9 a.path.length cp9) (.slice sc9 a.comms.length cc9) (.slice so9 a.others.length co9)).toArray rfl ra sz_attrs rfl (by simp [atV, Value.oneCell']) ?_
    obtain ⟨V1, hV1⟩ : ∃ V1, V1 = V.setRow w9.heap.size (atV a (.slice sp9 a.path.length cp9) (.slice sc9 a.comms.length cc9) (.slice so9 a.others.length co9)).toArray := ⟨_, rfl⟩
    have C1 : Hid (V1.heap[w9.heap.size]? = some (.cells (atV a (.slice sp9 a.path.length cp9) (.slice sc9 a.comms.length cc9) (.slice so9 a.others.length co9)).toArray 28 (0, 0))) := Lib.hid (by rw [hV1]; exact setRow_heap _ _ _ _ _ _ ra)
    have G1 : Hid (V1.heap[w9.heap.size + 1]? = some (.cells fltZ 54 (0, 0))) := Lib.hid (by rw [hV1, setRow_other _ _ _ _ (by omega)]; exact rf)
    have D1 : Hid (Below w9.heap.size w9 V1) := Lib.hid (hb.trans ((by rw [hV1]; exact kept_row _ _ rfl : Kept (fun k => k = w9.heap.size) V V1).below hb.size (fun k hk => by omega)))
    rw [← hV1]
    clear hV1 ra rf hb
    go_wp2_with ((with_reducible refine halt_at (X := .store 54 (.tmp 9) (.tmp 59)) ?_ ?_); (· rfl))
    unfold Halt
    refine st_row rfl 54 (.tmp 9) (.tmp 59) rfl (w9.heap.size + 1) rfl 54 fltZ fltZ rfl G1.out sz_fault rfl (by simp [Value.oneCell']) ?_
    obtain ⟨V2, hV2⟩ : ∃ V2, V2 = V1.setRow (w9.heap.size + 1) fltZ := ⟨_, rfl⟩
    have C2 : Hid (V2.heap[w9.heap.size]? = some (.cells (atV a (.slice sp9 a.path.length cp9) (.slice sc9 a.comms.length cc9) (.slice so9 a.others.length co9)).toArray 28 (0, 0))) := Lib.hid (by rw [hV2, setRow_other _ _ _ _ (by omega)]; exact C1.out)
    have G2 : Hid (V2.heap[w9.heap.size + 1]? = some (.cells fltZ 54 (0, 0))) := Lib.hid (by rw [hV2]; exact setRow_heap _ _ _ _ _ _ G1.out)
    have D2 : Hid (Below w9.heap.size w9 V2) := Lib.hid (D1.out.trans ((by rw [hV2]; exact kept_row _ _ rfl : Kept (fun k => k = w9.heap.size + 1) V1 V2).below D1.out.size (fun k hk => by omega)))
    rw [← hV2]
    have A2 := Lib.hid ((D2.out.block _ (row_lt Q9.out)).trans Q9.out)
    have BV := Lib.hid (below_on B9.out D2.out)
    have X2 := Lib.hid (AL9.out.below D2.out)
    have P1 := Lib.hid (fun W (hW : Below V2.heap.size V2 W) => r_Plain a _ _ _ W (X2.out.below hW) HR.out SM2.out)
    have P2 := Lib.hid (fun W (hW : Below V2.heap.size V2 W) => PL.out W (H9.out W (below_on D2.out hW)))
    clear hV2 C1 G1 D1 H9 Q9 AL9
    go_upto_region 13 with (fail)
    refine wp_region_held_drew (S := fun w' => Below V2.heap.size V2 w') (by kernel_rfl) ?_ (fun hHeld => ?_)
    · exact (Below.refl _ _).drew
    refine rgy (i := 0) (v := ?_) (atN rfl) (by kernel_rfl) (fun _ _ _ h => h) ?_ ?_ hHeld ?_; rotate_left 1; (· rfl); (· intro w' hSw; refine exec_ld 54 (.tmp 9) ?_ (w9.heap.size + 1) ?_ 54 fltZ (0, 0) _ ((hSw.block _ (row_lt G2.out)).trans G2.out) Tryd.underlying54 rfl sz_fault <;> rfl)
    try simp only [Act.put, List.setIfInBounds_toArray, List.set_cons_zero, List.set_cons_succ]
    refine rgy (i := 1) (v := ?_) (atN rfl) (by kernel_rfl) (fun _ _ _ h => h) ?_ ?_ hHeld ?_; rotate_left 1; (· rfl); (· intro w' hSw; (try clear hHeld); go_simp; try with_reducible rfl)
    try simp only [Act.put, List.setIfInBounds_toArray, List.set_cons_zero, List.set_cons_succ]
    refine rgy (i := 2) (v := ?_) (atN rfl) (by kernel_rfl) (fun _ _ _ h => h) ?_ ?_ hHeld ?_; rotate_left 1; (· rfl); (· intro w' hSw; have fe := flt_eql w'; go_simp; try with_reducible rfl)
    try simp only [Act.put, List.setIfInBounds_toArray, List.set_cons_zero, List.set_cons_succ]
    refine rgy (i := 3) (v := ?_) (atN rfl) (by kernel_rfl) (fun _ _ _ h => h) ?_ ?_ hHeld ?_; rotate_left 1; (· rfl); (· intro w' hSw; (try clear hHeld); go_simp; try with_reducible rfl)
    try simp only [Act.put, List.setIfInBounds_toArray, List.set_cons_zero, List.set_cons_succ]
    first | (refine rgn (i := 4) (atN rfl) (by kernel_rfl) (fun _ _ _ h => h) ?_ hHeld ?_; (· rfl)) | (refine rgy (i := 4) (v := ?_) (atN rfl) (by kernel_rfl) (fun _ _ _ h => h) ?_ ?_ hHeld ?_; rotate_left 1; (· rfl); (· intro w' hSw; refine exec_ld 28 (.tmp 8) ?_ w9.heap.size ?_ 28 _ (0, 0) _ ((hSw.block _ (row_lt C2.out)).trans C2.out) Tryd.underlying28 rfl sz_attrs <;> rfl))
    try simp only [Act.put, List.setIfInBounds_toArray, List.set_cons_zero, List.set_cons_succ]
    first | (refine rgn (i := 6) (atN rfl) (by kernel_rfl) (fun _ _ _ h => h) ?_ hHeld ?_; (· rfl)) | (refine rgy (i := 6) (v := ?_) (atN rfl) (by kernel_rfl) (fun _ _ _ h => h) ?_ ?_ hHeld ?_; rotate_left 1; (· rfl); (· intro w' hSw; refine exec_ld 28 (.tmp 1) ?_ w.heap.size ?_ 28 _ (0, 0) _ ((hSw.block _ (row_lt A2.out)).trans A2.out) Tryd.underlying28 rfl sz_attrs <;> rfl))
    try simp only [Act.put, List.setIfInBounds_toArray, List.set_cons_zero, List.set_cons_succ]
    first | (refine rgn (i := 5) (atN rfl) (by kernel_rfl) (fun _ _ _ h => h) ?_ hHeld ?_; (· rfl)) | (refine rg_call (i := 5) (atN rfl) (by kernel_rfl) ?_ (fun K hK => ?_); (· rfl); (try clear hb); go_simp; refine (P1.out _ hHeld).mono ?_; rintro e wp ⟨vpp, vpo, rfl, alp, hb⟩; have FP := Lib.hid alp; have BP := Lib.hid (below_on hHeld hb); clear alp hb hHeld; go_wp2_with fail; refine hK.out _ _ ?_ (fun hHeld => ?_); (· exact BP.out); clear hK K)
    try simp only [Act.put, List.setIfInBounds_toArray, List.set_cons_zero, List.set_cons_succ]
    first | (refine rgn (i := 7) (atN rfl) (by kernel_rfl) (fun _ _ _ h => h) ?_ hHeld ?_; (· rfl)) | (refine rg_call (i := 7) (atN rfl) (by kernel_rfl) ?_ (fun K hK => ?_); (· rfl); (try clear hb); go_simp; refine (P2.out _ BP.out).mono ?_; rintro e wq ⟨vqp, vqo, rfl, alq, hb⟩; have FQ := Lib.hid alq; have FP2 := Lib.hid (FP.out.below hb); have BQ := Lib.hid (below_on BP.out hb); clear alq hb; go_wp2_with fail; refine hK.out _ _ ?_ (fun hHeld => ?_); (· exact BQ.out); clear hK K)
    try simp only [Act.put, List.setIfInBounds_toArray, List.set_cons_zero, List.set_cons_succ]
    first | (refine rgn (i := 8) (atN rfl) (by kernel_rfl) (fun _ _ _ h => h) ?_ hHeld ?_; (· rfl)) | (refine rg_call (i := 8) (atN rfl) (by kernel_rfl) ?_ (fun K hK => ?_); (· rfl); (try clear hb); go_simp; refine (SS.out _ _ _ _ _ _ _ FP2.out FQ.out).mono ?_; rintro e wr ⟨rfl, hb⟩; have BR := Lib.hid (below_on BQ.out hb); clear hb; go_wp2_with fail; refine hK.out _ _ ?_ (fun hHeld => ?_); (· exact BR.out); clear hK K)
    try simp only [Act.put, List.setIfInBounds_toArray, List.set_cons_zero, List.set_cons_succ]
    refine rgy (i := 9) (v := ?_) (atN rfl) (by kernel_rfl) (fun _ _ _ h => h) ?_ ?_ hHeld ?_; rotate_left 1; (· rfl); (· intro w' hSw; (try clear hHeld); go_simp; try with_reducible rfl)
    try simp only [Act.put, List.setIfInBounds_toArray, List.set_cons_zero, List.set_cons_succ]
    refine rgy (i := 10) (v := ?_) (atN rfl) (by kernel_rfl) (fun _ _ _ h => h) ?_ ?_ hHeld ?_; rotate_left 1; (· rfl); (· intro w' hSw; (try clear hHeld); go_simp; try with_reducible rfl)
    try simp only [Act.put, List.setIfInBounds_toArray, List.set_cons_zero, List.set_cons_succ]
    refine wpAnyH_done (by kernel_rfl) ?_ _
    go_wp2_with fail
    go_ret
    exact ⟨rfl, below_on BV.out hHeld⟩
  · have N6 : n = 6 := by rw [← NE.out]; exact h6
    subst N6
    clear h6
    go_wp2_with fail
    go_ret
    exact ⟨rfl, below_on B7.out BX.out⟩
  · have N6 : n = 1 := by rw [← NE.out]; exact h1
    subst N6
    clear h1
    go_wp2_with fail
    go_ret
    exact ⟨rfl, below_on B7.out BX.out⟩
end Go.Proofs.YtohkbcdnlmjcjaaDoor
