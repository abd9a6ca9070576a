/- Texts of one proof, one behind another. -/
import Derived.Test.YtkoidahgbbabiaaGreatSf18
import Derived.Test.YtkoidahgbbabiaaGreatSf11
import Derived.Test.YtkoidahgbbabiaaGreatSf7
import Derived.Test.YtkoidahgbbabiaaGreatSf1
/-
  THE SERVER: who leaves takes its routes along.
-/
namespace Go.Proofs.YtkoidahgbbabiaaGreat
open Go.RowKit
theorem rts_right {W : World} {rb : Nat} {peer own most : Int} {R : Rts} {F : Nat → Prop} (h : RibAt W rb peer own most R F) {p : Pf} (hp : (getL R p).isSome = true) : RgtP p := by
  obtain ⟨tb, N, E, hI, rfl⟩ := h
  obtain ⟨a, ha⟩ := Option.isSome_iff_exists.1 hp
  rw [find_rts] at ha
  cases hf : findE E p with
  | none => rw [hf] at ha; cases ha
  | some e =>
    obtain ⟨h1, rfl⟩ := findE_mem hf
    exact hI.rgt e h1
theorem away_is (S : Sv) (i : Nat) : modS (modS S i (withThere false)) i (withNews fun _ => false) = awayS S i := by rw [modS_mod]; rfl
section
variable {W : World} {rho : Nat → Role} {sb fb : Nat} {ls : List Pl} {S : Sv}
set_option maxRecDepth 100000 in
theorem sv_Leave_nil (n : Int) (W : World) : Calls Tryz.prog 24 #[.pointer none, .int .i64 n] W fun e w' => e = .returned (.tuple #[.slice none 0 0, .int .i64 1]) ∧ W = w' := by
  have MB := Lib.hid (sv_member_nil n W)
  go_enter Tryz.func24, Tryz.ntmps24
  go_wp2_with fail
  refine MB.out.mono ?_
  rintro e w1 ⟨rfl, rfl⟩
  go_wp2_with fail
  refine bodyPost_ret (v := .tuple #[.slice none 0 0, .int .i64 1]) (by simp [results, Tryz.results24, go_sem]) rfl ⟨rfl, rfl⟩
def LeavePost (sb fb : Nat) (ls : List Pl) (S : Sv) (i : Nat) (m : Pm) (rho : Nat → Role) (W : World) (e : Ending) (w' : World) : Prop :=
  ∃ (rho' : Nat → Role) (s : Option Addr) (c : Nat) (L : List Pf), e = .returned (.tuple #[.slice s L.length c, .int .i64 0]) ∧ L.Pairwise plt ∧ (∀ p, p ∈ L ↔ (getL m.R p).isSome = true) ∧ SrvM w' rho' sb fb ls (leaveS S i L) ∧ Step rho rho' W w' ∧ On (fun k => rho' k = .no) w' (fun W => PsAt W (.slice s L.length c) L)
set_option maxHeartbeats 6400000 in
set_option maxRecDepth 100000 in
theorem sv_Leave (h : SrvM W rho sb fb ls S) {i : Nat} {m : Pm} (hm : S.ms[i]? = some m) (hth : m.there = true) :
    Calls Tryz.prog 24 #[.pointer (some ⟨sb, 0, none⟩), .int .i64 i] W (LeavePost sb fb ls S i m rho W) := by
  obtain ⟨l, hl, hM⟩ := h.get hm
  have m2 : W.cell? ⟨l.mb, 2, none⟩ = some (.bool true) := by rw [← hth]; exact row_cell hM.row 2
  have m2f : W.frozen? ⟨l.mb, 2, none⟩ = false := row_free hM.row 2
  have MB := Lib.hid (sv_member h hl)
  have HS := Lib.hid h
  have HL := Lib.hid hl
  have HM := Lib.hid hm
  have ROW := Lib.hid hM.row
  clear h hm hl hM hth
  go_enter Tryz.func24, Tryz.ntmps24
  go_wp2_with fail
  refine MB.out.mono ?_
  rintro e w1 ⟨rfl, rfl⟩
  have X1 := Lib.hid (HS.out.setT HM.out HL.out false (Kept.setCell ⟨l.mb, 2, none⟩ (.bool false) rfl) (set_same ROW.out 2 (.bool false)))
  go_upto_region 7 with (fail)
  obtain ⟨w2, hw2⟩ : ∃ w2 : World, w2 = W.setCell ⟨l.mb, 2, none⟩ (.bool false) := ⟨_, rfl⟩
  rw [← hw2] at X1 ⊢
  have HM2 : Hid ((modS S i (withThere false)).ms[i]? = some (withThere false m)) := Lib.hid (by rw [modS_get, HM.out]; simp)
  have hM2 := X1.out.1.bod.mem i _ l HM2.out HL.out
  have b5 : w2.cell? ⟨l.mb, 5, none⟩ = some (.map (some l.nb)) := row_cell hM2.row 5
  obtain ⟨N, hN⟩ := hM2.news
  obtain ⟨o2, hs2, hm2⟩ := hN.map.empty Tryz.underlying128 w2 rfl
  have hk2 : Kept (fun k => k = l.nb) w2 (ChangeMaps.setBlock w2 l.nb o2) := Kept.setBlock o2 rfl
  have PN := Lib.hid (X1.out.1.setN HM2.out HL.out (fun _ => false) (N' := []) (fun p => rfl) (fun x hx => by cases hx) hk2 hm2)
  clear hw2 hM2 hN hm2 hk2 m2 m2f
  go_upto_region 8 with (fail)
  obtain ⟨w3, hw3⟩ : ∃ w3 : World, w3 = ChangeMaps.setBlock w2 l.nb o2 := ⟨_, rfl⟩
  rw [← hw3] at PN ⊢
  have D3 : Hid (SrvM w3 rho sb fb ls (awayS S i) ∧ Step rho rho W w3) := Lib.hid ⟨by rw [← away_is]; exact PN.out.1, X1.out.2.trans PN.out.2⟩
  have HM3 : Hid ((awayS S i).ms[i]? = some { m with there := false, news := fun _ => false }) := Lib.hid (by unfold awayS; rw [modS_get, HM.out]; simp)
  have hM3 := D3.out.1.bod.mem i _ l HM3.out HL.out
  have b3 : w3.cell? ⟨l.mb, 3, none⟩ = some (.pointer (some ⟨l.rb, 0, none⟩)) := row_cell hM3.row 3
  have CL := Lib.hid (ad_Clear w3 hM3.rib (fun k hk => D3.out.1.dom k (by rw [hk]; intro e; cases e)))
  have RGT : Hid (∀ p, (getL m.R p).isSome = true → RgtP p) := Lib.hid (fun p hp => rts_right hM3.rib hp)
  clear b5 hs2 hw3 X1 PN hM3
  go_wp2_with fail
  refine CL.out.mono ?_
  rintro e w4 ⟨v, L, F', rfl, ow, srt, mem, hrb, hF', hv, hk⟩
  obtain ⟨s, c, rfl, -⟩ := own_form ow.1
  have SR := Lib.hid (D3.out.1.setRib HM3.out HL.out hrb hF' hk (fun p a h => by simp [getL] at h))
  have NO : Hid (On (fun k => extP rho w3 F' (.rib i) k = .no) w4 (fun W => PsAt W (.slice s L.length c) L)) := Lib.hid (((own_on ow.1).wide (G := fun k => extP rho w3 F' (.rib i) k = .no) fun k hk _ => extP_no (own_form_le ow.1 k hk) (hv k hk)).imp fun W h => OwnPs.at ⟨h, ow.2⟩)
  have ST := Lib.hid (D3.out.2.trans SR.out.2)
  generalize extP rho w3 F' (.rib i) = rho4 at SR NO ST
  have MEM : Hid (∀ p, p ∈ L ↔ (getL m.R p).isSome = true) := Lib.hid mem
  have SRT := Lib.hid srt
  have TN := Lib.hid (sv_turn SR.out.1 (.slice s L.length c) L NO.out (fun p hp => RGT.out p ((MEM.out p).1 hp)))
  clear ow srt mem hrb hF' hv hk CL b3 D3
  go_wp2_with fail
  refine TN.out.mono ?_
  rintro e w5 ⟨rho5, rfl, hs5, st5⟩
  have FIN : Hid (LeavePost sb fb ls S i m rho W (.returned (.tuple #[.slice s L.length c, .int .i64 0])) w5) := Lib.hid ⟨rho5, s, c, L, rfl, SRT.out, MEM.out, hs5, ST.out.trans st5, st5.free NO.out⟩
  clear TN hs5 st5 NO ST SR
  go_wp2_with fail
  refine bodyPost_ret (v := .tuple #[.slice s L.length c, .int .i64 0]) (by simp [results, Tryz.results24, go_sem]) rfl FIN.out
end
end Go.Proofs.YtkoidahgbbabiaaGreat
/-
  THE SERVER: a receiver's best route to a prefix, walked.
-/
namespace Go.Proofs.YtkoidahgbbabiaaGreat
open Go.RowKit
section
variable {W : World} {rho : Nat → Role} {sb fb : Nat} {ls : List Pl} {S : Sv}
set_option maxHeartbeats 1600000 in
set_option maxRecDepth 100000 in
theorem best_none (p : Pf) {f : Value} (n : Int) (W : World) (MB : ∀ w1, Below W.heap.size W w1 → Calls Tryz.prog 58 #[f, .int .i64 n] w1 fun e w2 => e = .returned (.pointer none) ∧ w1 = w2) :
    Calls Tryz.prog 27 #[f, .int .i64 n, .agg #[.int .u32 p.1, .int .i64 p.2]] W fun e w' => e = .returned (.tuple #[.agg (rtC 0 (0, 0) av0), .bool false]) ∧ Below W.heap.size W w' := by
  have MB := Lib.hid MB
  go_enter Tryz.func27, Tryz.ntmps27
  go_upto_region 1 with (fail)
  obtain ⟨W0, hW0, c0, c1, rz, hB⟩ := box_pr W p.1 p.2
  rw [← hW0]
  have B0 := Lib.hid hB
  have RZ := Lib.hid rz
  clear hW0 hB rz
  go_wp2_with fail
  refine (MB.out _ B0.out).mono ?_
  rintro e w1 ⟨rfl, rfl⟩
  go_wp2_with ((with_reducible refine halt_at (X := .store 61 (.tmp 6) (.tmp 16)) ?_ ?_); (· rfl))
  unfold Halt
  refine st_row rfl 61 _ _ rfl (W.heap.size + 1) rfl 61 (rtC 0 (0, 0) av0) (rtC 0 (0, 0) av0) rfl RZ.out (by kernel_rfl) rfl (rt_one _ _ _) ?_
  go_wp2_with fail
  refine bodyPost_ret (results_BestOf _ _ (W.heap.size + 1) (rtC 0 (0, 0) av0) rfl false ?_ ?_ (setRow_heap _ _ _ _ _ _ RZ.out)) rfl ⟨rfl, below_setRow B0.out (Nat.le_succ _) _⟩ <;> rfl
theorem sv_Best_nil (n : Int) (W : World) (p : Pf) : Calls Tryz.prog 27 #[.pointer none, .int .i64 n, .agg #[.int .u32 p.1, .int .i64 p.2]] W fun e w' => e = .returned (.tuple #[.agg (rtC 0 (0, 0) av0), .bool false]) ∧ Below W.heap.size W w' :=
  best_none p n W fun w1 _ => sv_member_nil n w1
set_option maxHeartbeats 3200000 in
set_option maxRecDepth 100000 in
theorem sv_Best (h : SrvM W rho sb fb ls S) {i : Nat} {m : Pm} (hm : S.ms[i]? = some m) (p : Pf) (hp : KOk p) :
    Calls Tryz.prog 27 #[.pointer (some ⟨sb, 0, none⟩), .int .i64 i, .agg #[.int .u32 p.1, .int .i64 p.2]] W (BestPost (S.best i p) p W) := by
  obtain ⟨l, hl, hM⟩ := h.get hm
  obtain ⟨L, hL⟩ := hM.bests
  have MB := Lib.hid (fun w' (hb : Below W.heap.size W w') => sv_member (h.below hb) hl)
  have HP := Lib.hid hp
  have BL := Lib.hid hL
  have mb4 : W.cell? ⟨l.mb, 4, none⟩ = some (.map (some l.bb)) := row_cell hM.row 4
  have BG := Lib.hid (hL.get p)
  obtain ⟨old, hold⟩ : ∃ old, getL L p = old := ⟨_, rfl⟩
  have HOLD := Lib.hid hold
  rw [hold] at BG
  clear h hm hl hM hp hL hold
  go_enter Tryz.func27, Tryz.ntmps27
  go_upto_region 1 with (fail)
  obtain ⟨W0, hW0, p0, p1, rz, hB⟩ := box_pr W p.1 p.2
  rw [← hW0]
  obtain ⟨pb, hpb⟩ : ∃ pb, pb = W.heap.size := ⟨_, rfl⟩
  rw [← hpb] at p0 p1 rz
  have PB := Lib.hid hpb
  have B0 := Lib.hid hB
  have RZ := Lib.hid rz
  have mb4 := cell_below mb4 hB
  rw [← hpb]
  clear hW0 hB rz hpb
  go_wp2_with fail
  refine (MB.out W0 B0.out).mono ?_
  rintro e w1 ⟨rfl, rfl⟩
  go_upto_region 4 with (fail)
  have LK : Hid (∀ w', Below W0.heap.size W0 w' → (Instr.lookup 64 (.map (some l.bb)) (pfV p) true).run Tryz.prog w' = .ok (.tuple #[((getL L p).map bvV).getD (.agg (rtC 0 (0, 0) av0)), .bool (getL L p).isSome]) w') := Lib.hid (fun w' hb => BL.out.map.look pf_enc Tryz.underlying64 p HP.out zero_rt w' ((below_on B0.out hb).block _ BL.out.map.lt) true)
  rw [HOLD.out] at LK
  obtain ⟨ov, hov⟩ : ∃ ov : Int × Pf × AV, ovOf old = ov := ⟨_, rfl⟩
  have EV : Hid ((old.map bvV).getD (.agg (rtC 0 (0, 0) av0)) = .agg (rtC ov.1 ov.2.1 ov.2.2)) := Lib.hid (by rw [← hov]; cases old <;> rfl)
  rw [EV.out] at LK
  have HOV := Lib.hid hov
  clear hov
  obtain ⟨had, hhad⟩ : ∃ had, old.isSome = had := ⟨_, rfl⟩
  rw [hhad] at LK
  have HHAD := Lib.hid hhad
  clear hhad
  go_cut [9, 10] from 17 to 25 (fun s9 s10 wx => ∃ b9 : Nat, s9 = .pointer (some ⟨b9, 0, none⟩) ∧ s10 = .bool had ∧ Hid (Below W0.heap.size W0 wx ∧ wx.heap[b9]? = some (.cells (rtC ov.1 ov.2.1 ov.2.2) 61 (0, 0)) ∧ W0.heap.size ≤ b9))
  case first =>
    refine wp_region_held_drew (S := fun w' => Below W0.heap.size W0 w') (by kernel_rfl) ?_ (fun hHeld => ?_)
    · exact (Below.refl _ _).drew
    generalize World.drew W0 = wd at hHeld ⊢
    refine qy 0 ?_ ?_ ?_ hHeld ?_; rotate_left 1; (· rfl); (· intro w' hSw; (try clear hHeld); go_simp; try with_reducible rfl)
    try simp only [zp1, zp3, zp4, zp5]
    refine qy 4 ?_ ?_ ?_ hHeld ?_; rotate_left 1; (· rfl); (· intro w' hSw; have p0 := cell_below p0 hSw; have p1 := cell_below p1 hSw; have mb4 := cell_below mb4 hSw; (try clear hHeld); go_simp; try with_reducible rfl)
    try simp only [zp1, zp3, zp4, zp5]
    refine rg_call2 (i := 1) (j := 9) (atS at0) (atS (atS (atS (atS (atS (atS (atS (atS (atS at0))))))))) (by kernel_rfl) ?_ ?_ (fun K hK => ?_) (fun K hK => ?_)
    · rfl
    · rfl
    · (try clear hb); go_simp; go_wp2_with fail; refine hK.out _ _ ?_ (fun hHeld => ?_); (· exact hHeld); clear hK K
      try simp only [zp1, zp3, zp4, zp5]
      refine qy 2 ?_ ?_ ?_ hHeld ?_; rotate_left 1; (· rfl); (· intro w' hSw; (try clear hHeld); go_simp; try with_reducible rfl)
      try simp only [zp1, zp3, zp4, zp5]
      refine qy 3 ?_ ?_ ?_ hHeld ?_; rotate_left 1; (· rfl); (· intro w' hSw; have p0 := cell_below p0 hSw; have p1 := cell_below p1 hSw; have mb4 := cell_below mb4 hSw; (try clear hHeld); go_simp; try with_reducible rfl)
      try simp only [zp1, zp3, zp4, zp5]
      refine qy 5 ?_ ?_ ?_ hHeld ?_; rotate_left 1; (· rfl); (· intro w' hSw; have lk := LK.out w' hSw; (try clear hHeld); go_simp; try with_reducible rfl)
      try simp only [zp1, zp3, zp4, zp5]
      refine qy 6 ?_ ?_ ?_ hHeld ?_; rotate_left 1; (· rfl); (· intro w' hSw; (try clear hHeld); go_simp; try with_reducible rfl)
      try simp only [zp1, zp3, zp4, zp5]
      refine qy 7 ?_ ?_ ?_ hHeld ?_; rotate_left 1; (· rfl); (· intro w' hSw; (try clear hHeld); go_simp; try with_reducible rfl)
      try simp only [zp1, zp3, zp4, zp5]
      refine qy 8 ?_ ?_ ?_ hHeld ?_; rotate_left 1; (· rfl); (· intro w' hSw; (try clear hHeld); go_simp; try with_reducible rfl)
      try simp only [zp1, zp3, zp4, zp5]
      refine rg_call (i := 9) (atN rfl) (by kernel_rfl) ?_ (fun K hK => ?_); (· rfl); (try clear hb); go_simp; refine box_zrt (p := K _) ?_; intro w1 hz hb1; have hgs := hHeld.size; refine hK.out _ _ ?_ (fun hHeld => ?_); (· exact below_on hHeld hb1); clear hK K
      try simp only [zp1, zp3, zp4, zp5]
      refine rg_call (i := 10) (atN rfl) (by kernel_rfl) ?_ (fun K hK => ?_); (· rfl); (try clear hb); refine wp_store_rowat 61 (.tmp 9) (.tmp 24) rfl _ rfl 61 (rtC 0 (0, 0) av0) _ rfl hz (by kernel_rfl) rfl (rt_one _ _ _) ?_; refine setRow_k hz (p := K _) ?_; intro w2 hr hk2; refine hK.out _ _ ?_ (fun hHeld => ?_); (· exact hHeld.trans (hk2.below hHeld.size (by rintro k rfl; exact hgs))); clear hK K
      try simp only [Act.put]
      refine qy 11 ?_ ?_ ?_ hHeld ?_; rotate_left 1; (· rfl); (· intro w' hSw; (try clear hHeld); go_simp; try with_reducible rfl)
      try simp only [zp1, zp3, zp4, zp5]
      refine wpAnyH_done (by kernel_rfl) ?_ _
      go_wp2_with fail
      go_meet
      exact ⟨_, rfl, rfl, Lib.hid ⟨hHeld, hr, hgs⟩⟩
    · (try clear hb); go_simp; refine box_zrt (p := K _) ?_; intro w1 hz hb1; have hgs := hHeld.size; refine hK.out _ _ ?_ (fun hHeld => ?_); (· exact below_on hHeld hb1); clear hK K
      try simp only [zp1, zp3, zp4, zp5]
      refine rg_call (i := 1) (atN rfl) (by kernel_rfl) ?_ (fun K hK => ?_); (· rfl); (try clear hb); go_simp; go_wp2_with fail; refine hK.out _ _ ?_ (fun hHeld => ?_); (· exact hHeld); clear hK K
      try simp only [zp1, zp3, zp4, zp5]
      refine qy 2 ?_ ?_ ?_ hHeld ?_; rotate_left 1; (· rfl); (· intro w' hSw; (try clear hHeld); go_simp; try with_reducible rfl)
      try simp only [zp1, zp3, zp4, zp5]
      refine qy 3 ?_ ?_ ?_ hHeld ?_; rotate_left 1; (· rfl); (· intro w' hSw; have p0 := cell_below p0 hSw; have p1 := cell_below p1 hSw; have mb4 := cell_below mb4 hSw; (try clear hHeld); go_simp; try with_reducible rfl)
      try simp only [zp1, zp3, zp4, zp5]
      refine qy 5 ?_ ?_ ?_ hHeld ?_; rotate_left 1; (· rfl); (· intro w' hSw; have lk := LK.out w' hSw; (try clear hHeld); go_simp; try with_reducible rfl)
      try simp only [zp1, zp3, zp4, zp5]
      refine qy 6 ?_ ?_ ?_ hHeld ?_; rotate_left 1; (· rfl); (· intro w' hSw; (try clear hHeld); go_simp; try with_reducible rfl)
      try simp only [zp1, zp3, zp4, zp5]
      refine qy 7 ?_ ?_ ?_ hHeld ?_; rotate_left 1; (· rfl); (· intro w' hSw; (try clear hHeld); go_simp; try with_reducible rfl)
      try simp only [zp1, zp3, zp4, zp5]
      refine qy 8 ?_ ?_ ?_ hHeld ?_; rotate_left 1; (· rfl); (· intro w' hSw; (try clear hHeld); go_simp; try with_reducible rfl)
      try simp only [zp1, zp3, zp4, zp5]
      refine rg_call (i := 10) (atN rfl) (by kernel_rfl) ?_ (fun K hK => ?_); (· rfl); (try clear hb); refine wp_store_rowat 61 (.tmp 9) (.tmp 24) rfl _ rfl 61 (rtC 0 (0, 0) av0) _ rfl hz (by kernel_rfl) rfl (rt_one _ _ _) ?_; refine setRow_k hz (p := K _) ?_; intro w2 hr hk2; refine hK.out _ _ ?_ (fun hHeld => ?_); (· exact hHeld.trans (hk2.below hHeld.size (by rintro k rfl; exact hgs))); clear hK K
      try simp only [Act.put]
      refine qy 11 ?_ ?_ ?_ hHeld ?_; rotate_left 1; (· rfl); (· intro w' hSw; (try clear hHeld); go_simp; try with_reducible rfl)
      try simp only [zp1, zp3, zp4, zp5]
      refine wpAnyH_done (by kernel_rfl) ?_ _
      go_wp2_with fail
      go_meet
      exact ⟨_, rfl, rfl, Lib.hid ⟨hHeld, hr, hgs⟩⟩
  case rest =>
    obtain ⟨b9, rfl, rfl, HH⟩ := hcut
    obtain ⟨w1, hw1⟩ : ∃ w1 : World, w1 = wc := ⟨_, rfl⟩
    rw [← hw1] at HH ⊢
    have B1 := Lib.hid (below_on B0.out HH.out.1)
    have Q9 := Lib.hid HH.out.2.1
    have RZ1 := Lib.hid ((HH.out.1.block _ (row_lt RZ.out)).trans RZ.out)
    clear hw1 HH LK p0 p1 mb4 RZ
    rcases had with _ | _
    · have BN : Hid (S.best i p = none) := Lib.hid (by rw [← BG.out]; have := HHAD.out; cases old <;> simp_all)
      go_wp2_with ((with_reducible refine halt_at (X := .store 61 (.tmp 6) (.tmp 28)) ?_ ?_); (· rfl))
      unfold Halt
      refine st_row rfl 61 _ _ rfl (pb + 1) rfl 61 (rtC 0 (0, 0) av0) (rtC 0 (0, 0) av0) rfl RZ1.out (by kernel_rfl) rfl (rt_one _ _ _) ?_
      go_wp2_with fail
      refine bodyPost_ret (results_BestOf _ _ (pb + 1) (rtC 0 (0, 0) av0) rfl false ?_ ?_ (setRow_heap _ _ _ _ _ _ RZ1.out)) rfl (.inl ⟨BN.out, rfl, below_setRow B1.out (by have := PB.out; omega) _⟩) <;> rfl
    · obtain ⟨b, hb⟩ : ∃ b, old = some b := by
        have := HHAD.out
        cases old with
        | none => simp at this
        | some b => exact ⟨b, rfl⟩
      have hv := BL.out.val (p, b) (getL_mem (HOLD.out.trans hb))
      have BS : Hid (S.best i p = some (b.peer, b.a)) := Lib.hid (by rw [← BG.out, hb]; rfl)
      obtain ⟨op, onet, ova⟩ := ov
      have ho : (b.peer, b.net, b.v) = (op, onet, ova) := by have := HOV.out; rw [hb] at this; exact this
      injection ho with ho1 ho2
      injection ho2 with ho2 ho3
      obtain rfl : onet = p := ho2.symm.trans hv.1
      have GA := Lib.hid hv.2.2.1
      have AV := Lib.hid ((hv.2.2.2.below B1.out).self.at)
      rw [ho3] at AV
      rw [ho1] at BS
      have CL := Lib.hid (sv_clone op onet b.a ova w1 AV.out GA.out.sz)
      clear hb hv ho1 ho2 ho3 HOV HOLD
      go_wp2_with ((with_reducible refine halt_at (X := .load 61 (.tmp 9)) ?_ ?_); (· rfl))
      unfold Halt
      refine ld_at (by rfl) 61 (.tmp 9) rfl b9 rfl 61 (rtC op onet ova) (0, 0) _ Q9.out Tryz.underlying61 rfl sz_rt ?_
      go_wp2_with fail
      refine CL.out.mono ?_
      rintro e w2 ⟨u, rfl, fr, hb2⟩
      have FR := Lib.hid fr
      have B2 := Lib.hid (below_on B1.out hb2)
      have RZ2 := Lib.hid ((hb2.block _ (row_lt RZ1.out)).trans RZ1.out)
      have LT : Hid (pb + 1 < w1.heap.size) := Lib.hid (row_lt RZ1.out)
      clear fr hb2 CL
      go_wp2_with ((with_reducible refine halt_at (X := .store 61 (.tmp 6) (.tmp 30)) ?_ ?_); (· rfl))
      unfold Halt
      refine st_row rfl 61 _ _ rfl (pb + 1) rfl 61 (rtC 0 (0, 0) av0) (rtC op onet u) rfl RZ2.out (by kernel_rfl) rfl (rt_one _ _ _) ?_
      have HK := Lib.hid (kept_setRow (w := w2) (F := fun k => k = pb + 1) (pb + 1) (rtC op onet u) rfl)
      have FU : Hid (Fresh W.heap.size (w2.setRow (pb + 1) (rtC op onet u)) (fun W => AvU W b.a u)) := Lib.hid ((FR.out.kept HK.out (fun k _ hl e => by have := LT.out; omega)).wide (fun k hk _ => by have := LT.out; have := PB.out; omega))
      go_wp2_with fail
      refine bodyPost_ret (results_BestOf _ _ (pb + 1) (rtC op onet u) rfl true ?_ ?_ (setRow_heap _ _ _ _ _ _ RZ2.out)) rfl (.inr ⟨op, b.a, u, BS.out, rfl, GA.out, FU.out, below_setRow B2.out (by have := PB.out; omega) _⟩) <;> rfl
end
end Go.Proofs.YtkoidahgbbabiaaGreat
/-
  THE SERVER, MADE: participants as they are handed in; what there is of a server under way.
-/
namespace Go.Proofs.YtkoidahgbbabiaaGreat
open Go.RowKit
abbrev Sd := Int × Nat
def sdL (x : Sd) : List Value := [.int .i64 x.1, .int .u32 x.2]
def SdC (x : Sd) (cs : List Value) : Prop := cs = sdL x ∧ x.2 < 4294967296 ∧ I64r x.1
abbrev SdsAt (W : World) (v : Value) (xs : List Sd) : Prop := SlAt W 2 SdC v xs
def sysB (n : Int) : Bool := decide (1 ≤ n ∧ n ≤ 65535)
def sdB (x : Sd) : Bool := sysB x.1 && !(x.2 == 0)
def newCd (own : Int) (xs : List Sd) : Int := if sysB own = false ∨ xs.length = 0 then 1 else if 16 < xs.length then 3 else if xs.all sdB then 0 else 1
def pmOf (x : Sd) : Pm := ⟨x.1, x.2, false, [], fun _ => false⟩
def newSv (own most : Int) (xs : List Sd) : Sv := ⟨own, min (max most 0) 256, fun _ => false, xs.map pmOf, fun _ _ => none⟩
set_option maxRecDepth 100000 in
theorem sv_system (n : Int) (w : World) : Calls Tryz.prog 56 #[.int .i64 n] w fun e w' => e = .returned (.bool (sysB n)) ∧ w = w' := by
  by_cases h1 : 1 ≤ n
  · by_cases h2 : n ≤ 65535
    · have e : sysB n = true := by unfold sysB; simp [h1, h2]
      have d1 : decide (n ≥ 1) = true := by simpa using h1
      have d2 : decide (n ≤ 65535) = true := by simpa using h2
      rw [e]
      clear e h1 h2
      go_enter Tryz.func56, Tryz.ntmps56
      go_wp2_with fail
      go_ret
      exact ⟨rfl, rfl⟩
    · have e : sysB n = false := by unfold sysB; simp [h2]
      have d1 : decide (n ≥ 1) = true := by simpa using h1
      have d2 : decide (n ≤ 65535) = false := by simpa using h2
      rw [e]
      clear e h1 h2
      go_enter Tryz.func56, Tryz.ntmps56
      go_wp2_with fail
      go_ret
      exact ⟨rfl, rfl⟩
  · have e : sysB n = false := by unfold sysB; simp [h1]
    have d1 : decide (n ≥ 1) = false := by simpa using h1
    rw [e]
    clear e h1
    go_enter Tryz.func56, Tryz.ntmps56
    go_wp2_with fail
    go_ret
    exact ⟨rfl, rfl⟩
def plC (l : Pl) : List Value := [.pointer (some ⟨l.mb, 0, none⟩)]
structure NewAt (w0 W : World) (sb fb : Nat) (own most : Int) (xs : List Sd) (k : Nat) (s : Option Addr) (c : Nat) (ls : List Pl) (rho : Nat → Role) : Prop where
  top : W.heap[sb]? = some (.cells #[.slice s k c, .pointer (some ⟨fb, 0, none⟩)] 125 (0, 0))
  row : W.ownsRow w0.heap.size 126 1 (.slice s k c) k (ls.flatMap plC)
  fil : FilAt W fb own (fun _ => false)
  mem : ∀ (i : Nat) l x, ls[i]? = some l → xs[i]? = some x → PmAt W rho own most i (pmOf x) (fun _ => none) l
  len : ls.length = k
  low : ∀ j, rho j ≠ .no → w0.heap.size ≤ j ∧ j < W.heap.size
  nfb : rho fb = .no
  nsb : rho sb = .no
  fs : fb ≠ sb
  srow : ∀ g, (Value.slice s k c).ownBlock = some g → rho g = .no ∧ g ≠ sb ∧ g ≠ fb
  gsb : w0.heap.size ≤ sb
  gfb : w0.heap.size ≤ fb
  bel : Below w0.heap.size w0 W
noncomputable def newRho (rho : Nat → Role) (W : World) (i lo hi bb nb mb : Nat) (k : Nat) : Role := by
  classical exact if k < W.heap.size then rho k else if lo ≤ k ∧ k < hi then .rib i else if k = bb then .best i else if k = nb then .news i else if k = mb then .mem i else .no
theorem NewAt.below {w0 W W' : World} {sb fb : Nat} {own most : Int} {xs : List Sd} {k : Nat} {s : Option Addr} {c : Nat} {ls : List Pl} {rho : Nat → Role} (h : NewAt w0 W sb fb own most xs k s c ls rho) (hb : Below W.heap.size W W') : NewAt w0 W' sb fb own most xs k s c ls rho :=
  ⟨(hb.block _ (row_lt h.top)).trans h.top, own_below h.row hb, h.fil.below hb, fun i l x hl hx => (h.mem i l x hl hx).kept (fun _ _ => rfl) (Kept.of_below (F := fun _ => False) hb) fun _ _ _ h => h, h.len, fun j hj => ⟨(h.low j hj).1, Nat.lt_of_lt_of_le (h.low j hj).2 hb.size⟩, h.nfb, h.nsb, h.fs, h.srow, h.gsb, h.gfb, below_on h.bel hb⟩
section
variable {w0 W W4 W5 W6 : World} {sb fb : Nat} {own most : Int} {xs : List Sd} {k : Nat} {s : Option Addr} {c : Nat} {ls : List Pl} {rho : Nat → Role}
theorem NewAt.step (h : NewAt w0 W sb fb own most xs k s c ls rho) {x : Sd} (hx : xs[k]? = some x) (hx1 : 1 ≤ x.1 ∧ x.1 ≤ 65535) (hx2 : 0 < x.2 ∧ x.2 < 4294967296) {rb lo hi bb nb mb : Nat}
    (hrib : RibAt W4 rb k own most [] (fun j => lo ≤ j ∧ j < hi)) (hb : BestT W4 bb []) (hn : NewsT W4 nb []) (hm : W4.heap[mb]? = some (.cells (mbC (pmOf x) ⟨mb, rb, bb, nb⟩) 130 (0, 0)))
    (b04 : Below W.heap.size W W4) (hlo : W.heap.size ≤ lo) (hhi : hi ≤ W4.heap.size) (gbb : W.heap.size ≤ bb) (gnb : W.heap.size ≤ nb) (gmb : W.heap.size ≤ mb)
    (n1 : ¬ (lo ≤ bb ∧ bb < hi)) (n2 : ¬ (lo ≤ nb ∧ nb < hi)) (n3 : ¬ (lo ≤ mb ∧ mb < hi)) (n4 : nb ≠ bb) (n5 : mb ≠ bb) (n6 : mb ≠ nb)
    (b45 : Below W4.heap.size W4 W5) {v' : Value} (hown : W6.ownsRow w0.heap.size 126 1 v' (k + 1) (ls.flatMap plC ++ [.pointer (some ⟨mb, 0, none⟩)]))
    (hg : Kept (fun b => (Value.slice s k c).ownBlock = some b) W5 W6) (hat : v'.ownBlock = (Value.slice s k c).ownBlock ∨ v'.ownBlock = some W5.heap.size) :
    ∃ (s' : Option Addr) (c' : Nat) (rho' : Nat → Role), v' = .slice s' (k + 1) c' ∧ NewAt w0 (W6.setCell ⟨sb, 0, none⟩ v') sb fb own most xs (k + 1) s' c' (ls ++ [⟨mb, rb, bb, nb⟩]) rho' := by
  obtain ⟨s', c', rfl, -⟩ := own_form hown
  have hn7 := hn.lt
  have hb7 := hb.lt
  have hm7 := row_lt hm
  have s4 := b04.size
  have s5 := b45.size
  have s6 := hg.size
  have fbl := h.fil.lt
  have sbl := row_lt h.top
  have ol := own_lt h.row
  -- all but the top's block and the row's is as it was
  have K : Kept (fun b => b = sb ∨ (Value.slice s k c).ownBlock = some b) W4 (W6.setCell ⟨sb, 0, none⟩ (.slice s' (k + 1) c')) :=
    ((Kept.of_below b45).trans (hg.imp fun b hb => .inr hb)).trans (Kept.setCell _ _ (.inl rfl))
  have K0 : Kept (fun b => b = sb ∨ (Value.slice s k c).ownBlock = some b) W (W6.setCell ⟨sb, 0, none⟩ (.slice s' (k + 1) c')) := (Kept.of_below b04).trans K
  have hr : ∀ j, rho j ≠ .no → newRho rho W k lo hi bb nb mb j = rho j := fun j hj => by
    unfold newRho; rw [if_pos (h.low j hj).2]
  have r1 : ∀ j, lo ≤ j → j < hi → newRho rho W k lo hi bb nb mb j = .rib k := fun j h1 h2 => by
    unfold newRho; rw [if_neg (by omega), if_pos ⟨h1, h2⟩]
  have r2 : newRho rho W k lo hi bb nb mb bb = .best k := by unfold newRho; rw [if_neg (by omega), if_neg n1, if_pos rfl]
  have r3 : newRho rho W k lo hi bb nb mb nb = .news k := by unfold newRho; rw [if_neg (by omega), if_neg n2, if_neg n4, if_pos rfl]
  have r4 : newRho rho W k lo hi bb nb mb mb = .mem k := by unfold newRho; rw [if_neg (by omega), if_neg n3, if_neg n5, if_neg n6, if_pos rfl]
  have hrow6 : W6.heap[sb]? = some (.cells #[.slice s k c, .pointer (some ⟨fb, 0, none⟩)] 125 (0, 0)) := by
    rw [hg.block _ (by omega) (fun e => (h.srow _ e).2.1 rfl), b45.block _ (by omega), b04.block _ sbl]
    exact h.top
  have notg : ∀ j, W.heap.size ≤ j → ¬ (j = sb ∨ (Value.slice s k c).ownBlock = some j) := fun j hj e => by
    rcases e with e | e
    · omega
    · have := ol j e; omega
  have hnew : ∀ g, (Value.slice s' (k + 1) c').ownBlock = some g → (Value.slice s k c).ownBlock = some g ∨ g = W5.heap.size := fun g hgg => by
    rcases hat with e | e
    · rw [e] at hgg; exact .inl hgg
    · rw [e] at hgg; injection hgg with hgg; exact .inr hgg.symm
  refine ⟨s', c', newRho rho W k lo hi bb nb mb, rfl, ?_, ?_, ?_, ?_, ?_, ?_, ?_, ?_, h.fs, ?_, h.gsb, h.gfb, ?_⟩
  · rw [set_same hrow6]; simp
  · have := ((own_on hown).kept (Kept.setCell (F := fun b => b = sb) ⟨sb, 0, none⟩ (.slice s' (k + 1) c') rfl) fun g _ hg' e => by
      have e : g = sb := e
      subst e
      rcases hnew g hg' with h1 | h1
      · exact (h.srow _ h1).2.1 rfl
      · omega).self
    rw [List.flatMap_append]
    exact this
  · exact h.fil.kept K0 (fun e => by
      rcases e with e | e
      · exact h.fs e
      · exact (h.srow _ e).2.2 rfl)
  · intro i l y hl hy
    by_cases hi' : i < ls.length
    · rw [List.getElem?_append_left hi'] at hl
      exact (h.mem i l y hl hy).kept hr K0 fun j hj ho e => by
        have no : rho j ≠ .no := by rcases ho with q | q | q | q | q <;> rw [q] <;> intro e <;> cases e
        rcases e with e | e
        · exact no (e ▸ h.nsb)
        · exact no (h.srow _ e).1
    · have : i = k := by
        have := (List.getElem?_eq_some_iff.1 hl).1
        rw [List.length_append] at this
        simp at this
        have := h.len
        omega
      subst this
      rw [hx] at hy; injection hy with hy; subst hy
      rw [List.getElem?_append_right (by rw [h.len]; omega), h.len] at hl
      simp at hl; subst hl
      refine ⟨?_, r4, ?_, r2, r3, ⟨[], ?_, fun p => rfl, fun y hy => by cases hy⟩, ⟨[], ?_, fun p => rfl, fun y hy => by cases hy⟩, fun p a hg => by simp [pmOf, getL] at hg, hx2, hx1⟩
      · exact (K.block _ hm7 (notg _ gmb)).trans hm
      · exact (hrib.kept K fun j _ hF => notg j (by omega)).wide fun j hF => r1 j hF.1 hF.2
      · exact hb.kept K (notg _ gbb)
      · exact hn.kept K (notg _ gnb)
  · rw [List.length_append, h.len]; rfl
  · intro j hj
    by_cases h1 : j < W.heap.size
    · have : rho j ≠ .no := by intro e; apply hj; unfold newRho; rw [if_pos h1]; exact e
      have := h.low j this
      have := K0.size
      omega
    · have h0 := h.bel.size
      have e : j < W4.heap.size := by
        by_cases e1 : lo ≤ j ∧ j < hi
        · omega
        · by_cases e2 : j = bb
          · omega
          · by_cases e3 : j = nb
            · omega
            · by_cases e4 : j = mb
              · omega
              · exact absurd (by unfold newRho; rw [if_neg h1, if_neg e1, if_neg e2, if_neg e3, if_neg e4]) hj
      have := K.size
      omega
  · unfold newRho; rw [if_pos fbl]; exact h.nfb
  · unfold newRho; rw [if_pos sbl]; exact h.nsb
  · intro g hgg
    rcases hnew g hgg with h1 | h1
    · have := ol g h1
      refine ⟨?_, (h.srow g h1).2⟩
      unfold newRho; rw [if_pos (by omega)]; exact (h.srow g h1).1
    · refine ⟨?_, by omega, by omega⟩
      unfold newRho
      rw [if_neg (by omega), if_neg (by omega), if_neg (by omega), if_neg (by omega), if_neg (by omega)]
  · exact h.bel.trans (K0.below h.bel.size (by
      rintro j (rfl | e)
      · exact h.gsb
      · exact own_form_le h.row j e))
theorem NewAt.done (h : NewAt w0 W sb fb own most xs xs.length s c ls rho) (ho : 1 ≤ own ∧ own ≤ 65535) (hf : xs.length ≤ 16) {most0 : Int} (hm : most = min (max most0 0) 256) :
    ∃ rho', SrvM W rho' sb fb ls (newSv own most0 xs) ∧ (∀ k, rho' k ≠ .no → w0.heap.size ≤ k) := by
  classical
  have sbl := row_lt h.top
  have ol := own_lt h.row
  obtain ⟨R, hR⟩ : ∃ R : Nat → Role, R = fun k => if k = sb ∨ (Value.slice s xs.length c).ownBlock = some k then .top else if k = fb then .fil else rho k := ⟨_, rfl⟩
  have e0 : ∀ k, rho k ≠ .no → R k = rho k := fun k hk => by
    rw [hR]
    have : ¬ (k = sb ∨ (Value.slice s xs.length c).ownBlock = some k) := by
      rintro (rfl | e)
      · exact hk h.nsb
      · exact hk (h.srow k e).1
    simp only [this, if_false]
    exact if_neg (fun e : k = fb => hk (by rw [e]; exact h.nfb))
  have e1 : R sb = .top := by rw [hR]; simp
  have e2 : R fb = .fil := by
    rw [hR]
    have : ¬ (fb = sb ∨ (Value.slice s xs.length c).ownBlock = some fb) := by
      rintro (e | e)
      · exact h.fs e
      · exact (h.srow fb e).2.2 rfl
    simp [this]
  have e3 : ∀ g, (Value.slice s xs.length c).ownBlock = some g → R g = .top := fun g hg => by rw [hR]; simp [hg]
  have dom : ∀ k, R k ≠ .no → w0.heap.size ≤ k ∧ k < W.heap.size := fun k hk => by
    rw [hR] at hk
    by_cases h1 : k = sb ∨ (Value.slice s xs.length c).ownBlock = some k
    · rcases h1 with rfl | h1
      · exact ⟨h.gsb, sbl⟩
      · exact ⟨own_form_le h.row k h1, ol k h1⟩
    · simp only [h1, if_false] at hk
      by_cases h2 : k = fb
      · subst h2; exact ⟨h.gfb, h.fil.lt⟩
      · rw [if_neg h2] at hk
        exact h.low k hk
  refine ⟨R, ⟨?_, ⟨h.fil, e2, by rw [h.len]; simp [newSv], by simpa [newSv] using hf, ?_, fun k hk => (dom k hk).2, ho⟩, e1⟩, fun k hk => (dom k hk).1⟩
  · intro V hV
    refine ⟨s, c, ?_, ?_⟩
    · rw [hV sb e1 sbl, h.len]; exact h.top
    · have ho := (own_on h.row) V fun g hg hl => hV g (e3 g hg) hl
      rw [← h.len] at ho
      exact own_slat (fun _ => rfl) ho
  · intro i m l hm' hl
    simp only [newSv, List.getElem?_map] at hm'
    cases hx : xs[i]? with
    | none => rw [hx] at hm'; simp at hm'
    | some x =>
      rw [hx] at hm'
      simp at hm'; subst hm'
      have := (h.mem i l x hl hx).kept (G := fun _ => False) e0 (Kept.refl _ W) fun _ _ _ h => h
      rw [hm] at this
      exact this
end
end Go.Proofs.YtkoidahgbbabiaaGreat
/-
  THE LAWS ON SERVERS: so many participants; attributes of so many hops; prefixes.
-/
namespace Go.Proofs.YtkoidahgbbabiaaGreat
open Go.RowKit
def sdsN (n : Nat) : List Sd := (List.range n).map fun (i : Nat) => (((65001 + (i : Int)), i + 1) : Sd)
theorem sdsN_len (n : Nat) : (sdsN n).length = n := by simp [sdsN]
theorem sdsN_succ (n : Nat) : sdsN (n + 1) = sdsN n ++ [((65001 + (n : Int)), n + 1)] := by simp [sdsN, List.range_succ]
theorem info_side : (Tryz.prog.info? 75).map (fun i => (i.zero, i.size, i.bytes)) = some (some (.agg #[.int .i64 0, .int .u32 0]), 2, 16) := by kernel_rfl
theorem sd_one (x : Sd) : ∀ u ∈ sdL x, u.oneCell' = true := by
  intro u hu
  unfold sdL at hu
  simp at hu
  rcases hu with rfl | rfl <;> rfl
set_option maxHeartbeats 1600000 in
set_option maxRecDepth 100000 in
theorem l_sides14 (n : Nat) (hn : n ≤ 16) (w : World) : Calls Tryz.prog 15 #[.int .i64 n] w fun e w' => ∃ (s : Option Addr) (c : Nat), e = .returned (.slice s n c) ∧ w'.ownsRow w.heap.size 75 2 (.slice s n c) n ((sdsN n).flatMap sdL) ∧ Below w.heap.size w w' := by
  obtain ⟨i0, hii, hz0, hz1, hz2⟩ := info_parts info_side
  have O0 : Hid ((w.alloc (.cells #[] 75)).ownsRow w.heap.size 75 2 (.slice (some ⟨w.heap.size, 0, none⟩) 0 0) 0 ((sdsN 0).flatMap sdL)) := Lib.hid (own_empty (Nat.le_refl _))
  have B0 : Hid (Below w.heap.size w (w.alloc (.cells #[] 75))) := Lib.hid ((Below.refl _ _).alloc (Nat.le_refl _) _)
  go_enter Tryz.func15, Tryz.ntmps15
  go_wp2_with fail
  go_loopw [3, 4] (fun t3 t4 wr => ∃ (k : Nat) (s : Option Addr) (c : Nat), k ≤ n ∧ t4 = .int .i64 k ∧ t3 = .slice s k c ∧ Hid (wr.ownsRow w.heap.size 75 2 (.slice s k c) k ((sdsN k).flatMap sdL)) ∧ Hid (Below w.heap.size w wr)) (fun _ t4 _ => n - (intOf t4).toNat)
  case atStart => exact ⟨0, _, 0, by omega, rfl, rfl, O0, B0⟩
  case round =>
    clear O0 B0
    obtain ⟨k, s, c, hk, rfl, rfl, OW, BV⟩ := hrel
    by_cases hkn : k < n
    · have d0 : decide ((k : Int) < (n : Int)) = true := by simp; omega
      have z1 : IntKind.i64.wrap ((65001 : Int) + (k : Int)) = 65001 + (k : Int) := by rw [IntWalk.i64_in _ (by omega)]
      have z2 : IntKind.i64.wrap ((k : Int) + 1) = (k : Int) + 1 := by rw [IntWalk.i64_in _ (by omega)]
      have z3 : IntKind.u32.wrap ((k : Int) + 1) = (k : Int) + 1 := by unfold IntKind.wrap IntKind.bits IntKind.signed; simp; omega
      obtain ⟨ab, hab⟩ : ∃ ab, ab = wr.heap.size := ⟨_, rfl⟩
      have hal : Below wr.heap.size wr (wr.alloc (.cells #[.int .i64 (65001 + (k : Int)), .int .u32 ((k : Int) + 1)] 75)) := (Below.refl _ _).alloc (Nat.le_refl _) _
      have OA := Lib.hid (own_below OW.out hal)
      have NC := Lib.hid (new_cells wr #[.int .i64 (65001 + (k : Int)), .int .u32 ((k : Int) + 1)] 75)
      have BA := Lib.hid (below_on BV.out hal)
      clear hal OW BV hab
      go_wp2_with (at_builtin; refine wpList_append_own_at _ rfl _ _ 29 rfl w.heap.size 75 i0 _ 2 16 Tryz.underlying29 hii hz0 hz1 hz2 rfl (by decide) (.slice s k c) k ((sdsN k).flatMap sdL) rfl OA.out ⟨wr.heap.size, 0, none⟩ 1 1 [.int .i64 (65001 + (k : Int)), .int .u32 ((k : Int) + 1)] rfl rfl NC.out (sd_one (65001 + (k : Int), k + 1)) (by unfold maxLen; omega) (by omega) (by have := BA.out.size; omega) ?_)
      intro v3 w5 h2 h3 _ hat
      obtain ⟨s3, c3, hv3, -⟩ := own_form h2
      subst hv3
      have O3 : Hid (w5.ownsRow w.heap.size 75 2 (.slice s3 (k + 1) c3) (k + 1) ((sdsN (k + 1)).flatMap sdL)) := Lib.hid (by rw [sdsN_succ, List.flatMap_append]; exact h2)
      have B3 : Hid (Below w.heap.size w w5) := Lib.hid (BA.out.trans ((kept_gr h3).below BA.out.size fun g hg => own_form_le OA.out g hg))
      clear h2 h3 hat OA NC BA
      go_wp2_with fail
      exact ⟨⟨k + 1, s3, c3, by omega, by go_num, rfl, O3, B3⟩, by simp [intOf]; omega⟩
    · obtain rfl : k = n := by omega
      have d0 : decide ((k : Int) < (k : Int)) = false := by simp
      have O1 := Lib.hid OW.out
      have B1 := Lib.hid BV.out
      clear OW BV
      go_wp2_with fail
      go_ret
      exact ⟨s, c, rfl, O1.out, B1.out⟩
def netP (n : Nat) : Pf := ((n * 16777216 : Nat), 8)
theorem netP_ok {n : Nat} (h : n < 256) : OkP (netP n) := by unfold netP OkP; simp only; omega
theorem netP_right (n : Nat) : rightB (netP n).1 (netP n).2 = true := by
  unfold netP
  have : rightB ((n * 16777216 : Nat) : Int) ((8 : Nat) : Int) = true := right_mod.2 ⟨by simp, by decide⟩
  exact this
theorem netP_rgt {n : Nat} (h : n < 256) : RgtP (netP n) := ⟨netP_ok h, netP_right n⟩
set_option maxHeartbeats 400000 in
theorem l_net14 (n : Nat) (h : n < 256) (w : World) : Calls Tryz.prog 32 #[.int .i64 n] w fun e w' => e = .returned (.agg #[.int .u32 (netP n).1, .int .i64 (netP n).2]) ∧ Below w.heap.size w w' := by
  have z1 : IntKind.u32.wrap (n : Int) = n := by unfold IntKind.wrap IntKind.bits IntKind.signed; simp; omega
  go_enter Tryz.func32, Tryz.ntmps32
  go_wp2_with fail
  exact bodyPost_ret (v := .agg #[.int .u32 ((n : Int) * 16777216), .int .i64 8]) (by simp [results, Tryz.results32, go_sem]) rfl ⟨by unfold netP; simp, (Below.refl _ _).alloc (Nat.le_refl _) _⟩
def hopL (n : Nat) : List Int := (List.range n).map fun (i : Nat) => (100 : Int) + (i : Int)
theorem hopL_succ (n : Nat) : hopL (n + 1) = hopL n ++ [(100 : Int) + (n : Int)] := by simp [hopL, List.range_succ]
def iL14 (x : Int) : List Value := [.int .i64 x]
theorem i_one14 (x : Int) : ∀ u ∈ iL14 x, u.oneCell' = true := by
  intro u hu
  simp [iL14] at hu
  subst hu; rfl
def atP (n : Nat) : At := ⟨14, 0, [(false, hopL n)], 167772161, 0, 0, 0, 0, [], []⟩
def avP (b : Nat) : AV := ⟨14, 0, some ⟨b, 0, none⟩, 1, 1, 167772161, 0, 0, 0, 0, none, 0, 0, none, 0, 0⟩
theorem info_intP : (Tryz.prog.info? 3).map (fun i => (i.zero, i.size, i.bytes)) = some (some (.int .i64 0), 1, 8) := by kernel_rfl
theorem path_at {W : World} {b n B : Nat} {s : Option Addr} {c : Nat} (h1 : W.heap[b]? = some (.cells #[.bool false, .slice s n c] 121 (0, 0))) (h2 : W.ownsRow B 3 1 (.slice s n c) n ((hopL n).flatMap iL14)) (hn : n ≤ 100 := by omega) : AvAt W (atP n) (avP b) := by
  refine ⟨some ⟨b, 0, none⟩, 1, none, 0, none, 0, rfl, ?_, SlAt.nil, SlAt.nil⟩
  refine ⟨_, 1, rfl, Nat.le_refl _, by simp [maxLen], fun _ => ⟨b, 0, rfl, fun i x hx => ?_⟩⟩
  obtain ⟨rfl, rfl⟩ : i = 0 ∧ x = (false, hopL n) := by
    have h := (List.getElem?_eq_some_iff.1 hx).1
    simp [atP] at h
    subst h
    simp [atP] at hx
    exact ⟨rfl, hx.symm⟩
  refine ⟨[.bool false, .slice s n c], rfl, ⟨_, rfl, ?_⟩, fun j u hu => ?_⟩
  · have e : (hopL n).length = n := by simp [hopL]
    have h3 : W.ownsRow B 3 1 (.slice s n c) (hopL n).length ((hopL n).flatMap iL14) := by rw [e]; exact h2
    have := own_slat (C := iL14) (fun _ => rfl) h3
    refine this.imp fun y cs hy hc => ⟨hc, ?_⟩
    obtain ⟨i, hi, rfl⟩ := List.mem_map.1 hy
    have := List.mem_range.1 hi
    unfold I64r; omega
  · rw [row_cell h1]
    simpa using hu
theorem box_avz (w : World) : ∃ W0, W0 = w.alloc (.cells #[.int .i64 0, .int .i64 0, .slice none 0 0, .int .u32 0, .int .i64 0, .int .i64 0, .int .i64 0, .int .u32 0, .slice none 0 0, .slice none 0 0] 42) ∧ W0.heap[w.heap.size]? = some (.cells av0.C 42 (0, 0)) ∧ Below w.heap.size w W0 ∧ W0.heap.size = w.heap.size + 1 := box1 w av0.C 42
set_option maxHeartbeats 1600000 in
set_option maxRecDepth 100000 in
theorem l_path14 (n : Nat) (hn : n ≤ 100) (w : World) : Calls Tryz.prog 55 #[.int .i64 n] w fun e w' => ∃ b : Nat, e = .returned (avP b).V ∧ Fresh w.heap.size w' (fun W => AvAt W (atP n) (avP b)) ∧ Below w.heap.size w w' := by
  obtain ⟨i0, hii, hz0, hz1, hz2⟩ := info_parts info_intP
  go_enter Tryz.func55, Tryz.ntmps55
  go_upto_region 1 with (fail)
  obtain ⟨W0, hW0, q0, hB, hz⟩ := box_avz w
  have SZ0 : Hid (W0.heap.size = w.heap.size + 1) := Lib.hid hz
  clear hz
  rw [← hW0]
  have Q0 := Lib.hid q0
  have B0 := Lib.hid hB
  have O0 : Hid ((W0.alloc (.cells #[] 3)).ownsRow (w.heap.size + 1) 3 1 (.slice (some ⟨W0.heap.size, 0, none⟩) 0 0) 0 ((hopL 0).flatMap iL14)) := Lib.hid (own_empty (by have h1 := row_lt q0; omega))
  have B1 : Hid (Below W0.heap.size W0 (W0.alloc (.cells #[] 3))) := Lib.hid ((Below.refl _ _).alloc (Nat.le_refl _) _)
  clear hW0 q0 hB
  go_wp2_with fail
  go_loopw [3, 4] (fun t3 t4 wr => ∃ (k : Nat) (s : Option Addr) (c : Nat), k ≤ n ∧ t4 = .int .i64 k ∧ t3 = .slice s k c ∧ Hid (wr.ownsRow (w.heap.size + 1) 3 1 (.slice s k c) k ((hopL k).flatMap iL14)) ∧ Hid (Below W0.heap.size W0 wr)) (fun _ t4 _ => n - (intOf t4).toNat)
  case atStart => exact ⟨0, _, 0, by omega, rfl, rfl, O0, B1⟩
  case round =>
    clear O0 B1
    obtain ⟨k, s, c, hk, rfl, rfl, OW, BV⟩ := hrel
    by_cases hkn : k < n
    · have d0 : decide ((k : Int) < (n : Int)) = true := by simp; omega
      have z1 : IntKind.i64.wrap ((100 : Int) + (k : Int)) = 100 + (k : Int) := by rw [IntWalk.i64_in _ (by omega)]
      have hal : Below wr.heap.size wr (wr.alloc (.cells #[.int .i64 (100 + (k : Int))] 3)) := (Below.refl _ _).alloc (Nat.le_refl _) _
      have OA := Lib.hid (own_below OW.out hal)
      have NC := Lib.hid (new_cells wr #[.int .i64 (100 + (k : Int))] 3)
      have BA := Lib.hid (below_on BV.out hal)
      have WB : Hid (w.heap.size + 1 ≤ (wr.alloc (.cells #[.int .i64 (100 + (k : Int))] 3)).heap.size) := Lib.hid (by have h1 := row_lt Q0.out; have h2 := BA.out.size; omega)
      clear hal OW BV
      go_wp2_with (at_builtin; refine wpList_append_own_at _ rfl _ _ 39 rfl (w.heap.size + 1) 3 i0 _ 1 8 Tryz.underlying39 hii hz0 hz1 hz2 rfl (by decide) (.slice s k c) k ((hopL k).flatMap iL14) rfl OA.out ⟨wr.heap.size, 0, none⟩ 1 1 [.int .i64 (100 + (k : Int))] rfl rfl NC.out (i_one14 (100 + (k : Int))) (by unfold maxLen; omega) (by omega) WB.out ?_)
      intro v3 w5 h2 h3 _ hat
      obtain ⟨s3, c3, hv3, -⟩ := own_form h2
      subst hv3
      have O3 : Hid (w5.ownsRow (w.heap.size + 1) 3 1 (.slice s3 (k + 1) c3) (k + 1) ((hopL (k + 1)).flatMap iL14)) := Lib.hid (by rw [hopL_succ, List.flatMap_append]; exact h2)
      have B3 : Hid (Below W0.heap.size W0 w5) := Lib.hid (BA.out.trans ((kept_gr h3).below BA.out.size fun g hg => by have := own_form_le OA.out g hg; have h1 := SZ0.out; omega))
      clear h2 h3 hat OA NC BA
      go_wp2_with fail
      exact ⟨⟨k + 1, s3, c3, by omega, by go_num, rfl, O3, B3⟩, by simp [intOf]; omega⟩
    · obtain rfl : k = n := by omega
      have d0 : decide ((k : Int) < (k : Int)) = false := by simp
      have O1 := Lib.hid OW.out
      have B1 := Lib.hid BV.out
      clear OW BV
      go_wp2_with ((with_reducible refine halt_at (X := .store 42 (.tmp 2) (.tmp 19)) ?_ ?_); (· rfl))
      unfold Halt
      obtain ⟨w2, hw2, q2, hb2, hz2⟩ := box1 wr #[.bool false, .slice s k c] 121
      rw [← hw2]
      obtain ⟨sgb, hsgb⟩ : ∃ b, b = wr.heap.size := ⟨_, rfl⟩
      rw [← hsgb] at q2 ⊢
      have Q2 := Lib.hid q2
      have O2 := Lib.hid (own_below O1.out hb2)
      have B2 := Lib.hid (below_on B1.out hb2)
      have Q02 := Lib.hid ((B2.out.block _ (row_lt Q0.out)).trans Q0.out)
      have LSG : Hid (w.heap.size + 1 ≤ sgb) := Lib.hid (by rw [hsgb]; have h1 := B1.out.size; have h2 := SZ0.out; omega)
      clear hw2 q2 hb2 hz2 hsgb O1 B1
      refine st_row rfl 42 _ _ rfl w.heap.size rfl 42 av0.C (avP sgb).C rfl Q02.out (by kernel_rfl) rfl (AV.one _) ?_
      have Q3 := Lib.hid (setRow_heap _ _ _ (avP sgb).C _ _ Q02.out)
      have K3 := Lib.hid (kept_setRow (w := w2) (F := fun k => k = w.heap.size) w.heap.size (avP sgb).C rfl)
      have LT := Lib.hid (row_lt Q2.out)
      generalize w2.setRow w.heap.size (avP sgb).C = w3 at Q3 K3 ⊢
      go_wp2_with fail
      refine bodyPost_ret (v := .agg (avP sgb).C) (results_cell_row Tryz.results55 _ w3 w.heap.size 42 (avP sgb).C (0, 0) _ rfl Q3.out Tryz.underlying42 rfl sz_avS) rfl ⟨sgb, rfl, ?_, ?_⟩
      · have h2 : Fresh (w.heap.size + 1) w3 (fun W => W.ownsRow (w.heap.size + 1) 3 1 (.slice s k c) k ((hopL k).flatMap iL14)) :=
          (((own_on O2.out).kept K3.out (fun g _ hg e => by have := own_form_le O2.out g hg; omega)).wide fun g hg _ => own_form_le O2.out g hg)
        have h1 : Fresh (w.heap.size + 1) w3 (fun W => W.heap[sgb]? = some (.cells #[.bool false, .slice s k c] 121 (0, 0))) := fun V hV => by
          have h3 := LSG.out
          have h4 := LT.out
          have h5 := K3.out.size
          show V.heap[sgb]? = _
          rw [hV sgb h3 (by omega), K3.out.block sgb h4 (by omega)]
          exact Q2.out
        exact ((h1.and h2).imp fun W h => path_at h.1 h.2).wide fun k hk _ => by omega
      · exact (below_on B0.out B2.out).trans (K3.out.below (by have h1 := B0.out.size; have h2 := B2.out.size; omega) (by rintro j rfl; exact Nat.le_refl _))
end Go.Proofs.YtkoidahgbbabiaaGreat
/-
  STRIPPED: what goes out of attributes at a participant's door: (*Filter).Strip.
-/
namespace Go.Proofs.YtkoidahgbbabiaaGreat
open Go.RowKit
theorem own_slice'' {w : World} {B k n : Nat} {e : TypeId} {v : Value} {xs : List Value} (h : w.ownsRow B e k v n xs) : (v = .slice none 0 0 ∧ n = 0) ∨ ∃ g c cur, v = .slice (some ⟨g, 0, none⟩) n c ∧ w.heap[g]? = some (.cells cur e (0, 0)) ∧ n ≤ c := by
  obtain ⟨_, ⟨rfl, h0⟩ | ⟨g, cap, cur, rfl, _, hg, hn, _⟩⟩ := h
  · exact .inl ⟨rfl, h0⟩
  · exact .inr ⟨g, cap, cur, rfl, hg, hn⟩
theorem own_within {w : World} {B k n g c lo hi : Nat} {e : TypeId} {xs : List Value} (h : On (fun b => lo ≤ b ∧ b < hi) w (fun W => W.ownsRow B e k (.slice (some ⟨g, 0, none⟩) n c) n xs)) : lo ≤ g ∧ g < hi := by
  apply Classical.byContradiction
  intro hF
  have hV := h { w with heap := w.heap.modify g fun _ => .map #[] 0 } (fun b hb _ => by
    have hne : g ≠ b := fun e => hF (e ▸ hb)
    simp [Array.getElem?_modify, hne])
  rcases own_slice'' hV with ⟨h0, -⟩ | ⟨g', c', cur, e1, h1, -⟩
  · cases h0
  · injection e1 with e1
    injection e1 with e1
    injection e1 with e1
    subst e1
    simp only [Array.getElem?_modify, if_true] at h1
    cases hg : w.heap[g]? with
    | none => rw [hg] at h1; cases h1
    | some x => rw [hg] at h1; simp at h1
def stripHas (has : Int) (no : Bool) : Int := bits .andNot .i64 (if no then bits .andNot .i64 has 256 else has) 32
def stripA (own : Int) (a : At) : At := ⟨stripHas a.has (decide (a.comms.filter (keepO own) = [])), a.origin, a.path, a.hop, a.med, 0, a.aggrAs, a.aggrId, a.comms.filter (keepO own), a.others⟩
theorem box3 (w : World) (C : Array Value) (T : TypeId) (D : Array Value) (U : TypeId) (E : Array Value) (V : TypeId) : ∃ W0, W0 = ((w.alloc (.cells C T)).alloc (.cells D U)).alloc (.cells E V) ∧ W0.heap[w.heap.size]? = some (.cells C T (0, 0)) ∧ W0.heap[w.heap.size + 1]? = some (.cells D U (0, 0)) ∧ W0.heap[w.heap.size + 1 + 1]? = some (.cells E V (0, 0)) ∧ Below w.heap.size w W0 ∧ W0.heap.size = w.heap.size + 1 + 1 + 1 := by
  have b1 : Below w.heap.size w (w.alloc (.cells C T)) := (Below.refl _ _).alloc (Nat.le_refl _) _
  have q1 := heap_alloc_new w (.cells C T)
  generalize hW1 : w.alloc (.cells C T) = W1 at *
  have z1 : W1.heap.size = w.heap.size + 1 := by rw [← hW1]; simp
  have b2 : Below W1.heap.size W1 (W1.alloc (.cells D U)) := (Below.refl _ _).alloc (Nat.le_refl _) _
  have q2 := heap_alloc_new W1 (.cells D U)
  generalize hW2 : W1.alloc (.cells D U) = W2 at *
  have z2 : W2.heap.size = w.heap.size + 1 + 1 := by rw [← hW2]; simp [z1]
  have b3 : Below W2.heap.size W2 (W2.alloc (.cells E V)) := (Below.refl _ _).alloc (Nat.le_refl _) _
  have q3 := heap_alloc_new W2 (.cells E V)
  rw [z1] at q2
  rw [z2] at q3
  exact ⟨_, rfl, (b3.block _ (by omega)).trans ((b2.block _ (by omega)).trans q1), (b3.block _ (by omega)).trans q2, q3, below_on (below_on b1 b2) b3, by simp [z2]⟩
abbrev stC (a : At) (h l : Int) (sp : Option Addr) (cp : Nat) (v8 : Value) (so : Option Addr) (co : Nat) : Array Value := #[.int .i64 h, .int .i64 a.origin, .slice sp a.path.length cp, .int .u32 a.hop, .int .i64 a.med, .int .i64 l, .int .i64 a.aggrAs, .int .u32 a.aggrId, v8, .slice so a.others.length co]
theorem results_Strip (tmps : Array Value) (W : World) (b : Nat) (C : Array Value) (hC : C.size = 10) (h4 : tmps.getD 4 undef = .pointer (some ⟨b, 0, none⟩)) (hb : W.heap[b]? = some (.cells C 42 (0, 0))) :
    (results Tryz.f39 tmps).run Tryz.prog W = .ok (.agg C) W := results_cell_row Tryz.results39 tmps W b 42 C (0, 0) _ h4 hb Tryz.underlying42 rfl (by rw [hC]; kernel_rfl)
theorem flat_i64 : ∀ cs : List Int, cs.flatMap i64L = cs.map fun x => Value.int .i64 x
  | [] => rfl
  | y :: l => by rw [List.flatMap_cons, List.map_cons, flat_i64 l]; rfl
theorem kept_wide {F G : Nat → Prop} {w w' : World} (h : Kept F w w') (hg : ∀ b, F b → G b) : Kept G w w' := ⟨h.os, h.tape, h.output, h.size, fun k hk hn => h.block k hk fun hf => hn (hg k hf)⟩
theorem st_DeleteV {lo hi : Nat} {vc : Value} (cs : List Int) (tb fb : Nat) (own : Int) (w : World) (h : On (fun b => lo ≤ b ∧ b < hi) w (fun W => W.ownsRow lo 3 1 vc cs.length (cs.flatMap i64L))) (hr : ∀ x ∈ cs, I64r x) (ht : CapAt w tb fb own) (h1 : tb < lo) (h2 : fb < lo) :
    Calls Tryz.prog 86 #[vc, .func (.func 87) #[] #[.pointer (some ⟨tb, 0, none⟩)]] w fun e w' => ∃ (s : Option Addr) (c : Nat), e = .returned (.slice s (cs.filter (keepO own)).length c) ∧ On (fun b => lo ≤ b ∧ b < hi) w' (fun W => IntsAt W (.slice s (cs.filter (keepO own)).length c) (cs.filter (keepO own))) ∧ Kept (fun b => lo ≤ b ∧ b < hi) w w' := by
  rcases own_slice'' h.self with ⟨rfl, h0⟩ | ⟨g, c, cur, rfl, hg, hn⟩
  · obtain rfl := List.length_eq_zero_iff.1 h0
    refine (st_Delete_nil _ w).mono ?_
    rintro e w' ⟨rfl, rfl⟩
    exact ⟨none, 0, rfl, fun _ _ => SlAt.nil, Kept.refl _ _⟩
  · obtain ⟨g1, g2⟩ := own_within h
    obtain ⟨sa, cap, e0, m1, m2, -⟩ := own_slat (C := i64L) i64L_len h.self
    injection e0 with _ _ e0
    subst e0
    have R : IntRow w g cs.length cs := ⟨fun i x hx => by
      have := (own_row_cell h.self rfl (j := i) (u := .int .i64 x) (by
        rw [flat_i64, List.getElem?_map, hx]; rfl)).1
      exact this, fun j hj => by
      rw [Nat.zero_add]
      have := own_row_cell h.self rfl (j := j) (u := .int .i64 (cs[j])) (by
        rw [flat_i64, List.getElem?_map, List.getElem?_eq_getElem hj]; rfl)
      exact ⟨by rw [this.1]; rfl, this.2.1⟩⟩
    refine (st_Delete g cs.length c cs tb fb own w R (Nat.le_refl _) hn m2 ht (by omega) (by omega)).mono ?_
    rintro e w' ⟨rfl, R', K'⟩
    refine ⟨_, c, rfl, fun V hV => ⟨_, c, rfl, Nat.le_trans (List.length_filter_le _ _) hn, m2, fun _ => ⟨g, 0, rfl, fun i x hx => ⟨[.int .i64 x], rfl, ⟨rfl, hr x (List.mem_filter.1 (List.mem_of_getElem? hx)).1⟩, fun j u hu => ?_⟩⟩⟩, kept_wide K' (by rintro b rfl; exact ⟨g1, g2⟩)⟩
    match j, hu with
    | 0, hu =>
      simp at hu
      subst hu
      have := R'.1 i x hx
      rw [← World.cell?_of_block (hV g ⟨g1, g2⟩ (size_lt this))] at this
      simpa using this
set_option maxHeartbeats 6400000 in
set_option maxRecDepth 100000 in
theorem ex_Strip (a : At) (vp vc vo : Value) (fb : Nat) (own : Int) (w : World) (hA : AtL w a vp vc vo) (hz : AtSz a) (hf : w.cell? ⟨fb, 0, none⟩ = some (.int .i64 own)) :
    Calls Tryz.prog 39 #[.pointer (some ⟨fb, 0, none⟩), .agg (atV a vp vc vo).toArray] w fun e w' => ∃ u : AV, e = .returned u.V ∧ Fresh w.heap.size w' (fun W => AvAt W (stripA own a) u) ∧ Below w.heap.size w w' := by
  show Calls Tryz.prog 39 #[.pointer (some ⟨fb, 0, none⟩), .agg #[.int .i64 a.has, .int .i64 a.origin, vp, .int .u32 a.hop, .int .i64 a.med, .int .i64 a.loc, .int .i64 a.aggrAs, .int .u32 a.aggrId, vc, vo]] w _
  have HF := Lib.hid hf
  have CL := Lib.hid (fun W (hb : Below w.heap.size w W) => at_CloneS a vp vc vo W (hA.below hb) hz)
  clear hA hz hf
  go_enter Tryz.func39, Tryz.ntmps39
  go_upto_region 1 with (fail)
  obtain ⟨W0, hW0, qf, qa, qz, hb0, hs0⟩ := box3 w #[.pointer (some ⟨fb, 0, none⟩)] 82 #[.int .i64 a.has, .int .i64 a.origin, vp, .int .u32 a.hop, .int .i64 a.med, .int .i64 a.loc, .int .i64 a.aggrAs, .int .u32 a.aggrId, vc, vo] 42 atZ 42
  rw [← hW0]
  have B0 := Lib.hid hb0
  have S0 := Lib.hid hs0
  have QF := Lib.hid qf
  have QA := Lib.hid qa
  have QZ := Lib.hid qz
  have FW : Hid (fb < w.heap.size) := Lib.hid (size_lt HF.out)
  clear hW0 qf qa qz hb0 hs0
  go_wp2_with ((with_reducible refine halt_at (X := .load 42 (.tmp 3)) ?_ ?_); (· rfl))
  unfold Halt
  refine ld_at (by rfl) 42 (.tmp 3) rfl (w.heap.size + 1) rfl 42 _ (0, 0) _ QA.out Tryz.underlying42 rfl sz_avS ?_
  go_wp2_with fail
  refine (CL.out W0 B0.out).mono ?_
  rintro e w1 ⟨vp1, vc1, vo1, lo2, lo3, rfl, l1, l2, l3, onR, onC, rng, hb1⟩
  obtain ⟨sp1, cp1, rfl, -⟩ := id onR.self.1.1
  obtain ⟨so1, co1, rfl, -⟩ := id onR.self.2.1
  obtain ⟨sc1, cc1, rfl, -⟩ := own_form onC.self
  have QA1 := (hb1.block _ (row_lt QA.out)).trans QA.out
  have LO := Lib.hid (And.intro l1 (And.intro l2 l3))
  have RNG := Lib.hid rng
  have QF1 := Lib.hid ((hb1.block _ (row_lt QF.out)).trans QF.out)
  have QZ1 := Lib.hid ((hb1.block _ (row_lt QZ.out)).trans QZ.out)
  have B1 := Lib.hid (below_on B0.out hb1)
  have ONR := Lib.hid onR
  have ONC := Lib.hid onC
  clear l1 l2 l3 onR onC rng hb1 CL QF QZ
  go_wp2_with ((with_reducible refine halt_at (X := .store 42 (.tmp 3) (.tmp 6)) ?_ ?_); (· rfl))
  unfold Halt
  refine st_row rfl 42 (.tmp 3) (.tmp 6) rfl (w.heap.size + 1) rfl 42 _ (stC a a.has a.loc sp1 cp1 (.slice sc1 a.comms.length cc1) so1 co1) rfl QA1 sz_avS rfl (by simp [Value.oneCell']) ?_
  obtain ⟨w2, hw2⟩ : ∃ w2, w2 = w1.setRow (w.heap.size + 1) (stC a a.has a.loc sp1 cp1 (.slice sc1 a.comms.length cc1) so1 co1) := ⟨_, rfl⟩
  have QA2 : Hid (w2.heap[w.heap.size + 1]? = some (.cells (stC a a.has a.loc sp1 cp1 (.slice sc1 a.comms.length cc1) so1 co1) 42 (0, 0))) := Lib.hid (by rw [hw2]; exact setRow_heap _ _ _ _ _ _ QA1)
  have KB : Kept (fun b => b = w.heap.size + 1) w1 w2 := by rw [hw2]; exact kept_setRow _ _ rfl
  rw [← hw2]
  have QF2 := Lib.hid ((KB.block _ (row_lt QF1.out) (by omega)).trans QF1.out)
  have QZ2 := Lib.hid ((KB.block _ (row_lt QZ1.out) (by omega)).trans QZ1.out)
  have B2 : Hid (Below w.heap.size w w2) := Lib.hid (B1.out.trans (KB.below B1.out.size (fun b hb => by omega)))
  have ONR2 := Lib.hid (ONR.out.kept KB (fun k _ hk e => by have := hk.1; have := S0.out; omega))
  have ONC2 := Lib.hid (ONC.out.kept KB (fun k _ hk e => by have := LO.out.1; have := hk.1; have := S0.out; omega))
  have f0 : w2.cell? ⟨w.heap.size, 0, none⟩ = some (.pointer (some ⟨fb, 0, none⟩)) := row_cell QF2.out 0
  have a8 : w2.cell? ⟨w.heap.size + 1, 8, none⟩ = some (.slice sc1 a.comms.length cc1) := row_cell QA2.out 8
  have DE := Lib.hid (st_DeleteV a.comms w.heap.size fb own w2 ONC2.out RNG.out ⟨f0, cell_below HF.out B2.out⟩ (by have := LO.out.1; have := S0.out; omega) (by have := LO.out.1; have := S0.out; have := FW.out; omega))
  clear hw2 KB QA1 QA QF1 QZ1 B1 ONR ONC
  simp only [Act.put]
  go_wp2_with fail
  refine DE.out.mono ?_
  rintro e w3 ⟨s3, c3, rfl, i3, k3⟩
  obtain ⟨F, hF⟩ : ∃ F, a.comms.filter (keepO own) = F := ⟨_, rfl⟩
  have HFL := Lib.hid hF
  rw [hF] at i3 ⊢
  clear hF
  have QA3 := (k3.block _ (row_lt QA2.out) (by have := LO.out.1; have := S0.out; omega)).trans QA2.out
  have QZ3 := Lib.hid ((k3.block _ (row_lt QZ2.out) (by have := LO.out.1; have := S0.out; omega)).trans QZ2.out)
  have B3 : Hid (Below w.heap.size w w3) := Lib.hid (B2.out.trans (k3.below B2.out.size (fun b hb => by have := LO.out.1; have := S0.out; omega)))
  have ONR3 := Lib.hid (ONR2.out.kept k3 (fun k _ hk e => by omega))
  have a8 : w3.cell? ⟨w.heap.size + 1, 8, none⟩ = some (.slice sc1 a.comms.length cc1) := row_cell QA3 8
  have f8 := row_free QA3 8
  go_upto_region 5 with (fail)
  obtain ⟨w4, hw4⟩ : ∃ w4, w4 = w3.setCell ⟨w.heap.size + 1, 8, none⟩ (.slice s3 F.length c3) := ⟨_, rfl⟩
  have KB : Kept (fun b => b = w.heap.size + 1) w3 w4 := by rw [hw4]; exact Kept.setCell _ _ rfl
  have QA4 : Hid (w4.heap[w.heap.size + 1]? = some (.cells (stC a a.has a.loc sp1 cp1 (.slice s3 F.length c3) so1 co1) 42 (0, 0))) := Lib.hid (by
    rw [hw4]
    have := set_same QA3 8 (.slice s3 F.length c3)
    simpa using this)
  have QZ4 := Lib.hid ((KB.block _ (row_lt QZ3.out) (by omega)).trans QZ3.out)
  have B4 : Hid (Below w.heap.size w w4) := Lib.hid (B3.out.trans (KB.below B3.out.size (fun b hb => by omega)))
  have ONR4 := Lib.hid (ONR3.out.kept KB (fun k _ hk e => by have := hk.1; have := S0.out; omega))
  have I4 := Lib.hid (i3.kept KB (fun k _ hk e => by have := hk.1; have := LO.out.1; have := S0.out; omega))
  rw [← hw4]
  clear hw4 KB QA3 QZ3 B3 ONR3 i3 k3 a8 f8 QA2 QZ2 B2 ONR2 ONC2 DE QF2 f0
  have y8 : w4.cell? ⟨w.heap.size + 1, 8, none⟩ = some (.slice s3 F.length c3) := row_cell QA4.out 8
  have fr8 := row_free QA4.out 8
  obtain ⟨z, hz⟩ : ∃ z, ((F.length : Int) == 0) = z := ⟨_, rfl⟩
  have ZF : Hid (z = decide (F = [])) := Lib.hid (by
    rw [← hz]
    clear hz
    cases F with
    | nil => rfl
    | cons x l =>
      show (((l.length + 1 : Nat) : Int) == 0) = false
      rw [beq_eq_false_iff_ne]; omega)
  go_upto_if 18 with (fail)
  clear hz
  go_cut [19] from 19 to 23 (fun _ wx => ∃ (s9 : Option Addr) (c9 : Nat), Hid (wx.heap[w.heap.size + 1]? = some (.cells (stC a (if decide (F = []) then bits .andNot .i64 a.has 256 else a.has) a.loc sp1 cp1 (.slice s9 F.length c9) so1 co1) 42 (0, 0))) ∧ Hid (On (fun b => lo2 ≤ b ∧ b < lo3) wx fun W => IntsAt W (.slice s9 F.length c9) F) ∧ Hid (Kept (fun b => b = w.heap.size + 1) w4 wx))
  case first =>
    rcases z with _ | _
    · have E : Hid ((if decide (F = []) then bits .andNot .i64 a.has 256 else a.has) = a.has) := Lib.hid (by rw [← ZF.out]; rfl)
      go_wp2_with fail
      go_meet
      exact ⟨s3, c3, by rw [E.out]; exact QA4, I4, Lib.hid (Kept.refl _ _)⟩
    · have hF : F = [] := by have := ZF.out; simpa using this.symm
      subst hF
      go_upto_region 7 with (fail)
      obtain ⟨w5, hw5⟩ : ∃ w5, w5 = w4.setCell ⟨w.heap.size + 1, 8, none⟩ (.slice none 0 0) := ⟨_, rfl⟩
      have KC : Kept (fun b => b = w.heap.size + 1) w4 w5 := by rw [hw5]; exact Kept.setCell _ _ rfl
      have QA5 : w5.heap[w.heap.size + 1]? = some (.cells (stC a a.has a.loc sp1 cp1 (.slice none 0 0) so1 co1) 42 (0, 0)) := by
        rw [hw5]
        have := set_same QA4.out 8 (.slice none 0 0)
        simpa using this
      rw [← hw5]
      have HQ := Lib.hid QA5
      have HC := Lib.hid KC
      have y0 : w5.cell? ⟨w.heap.size + 1, 0, none⟩ = some (.int .i64 a.has) := row_cell QA5 0
      have fr0 := row_free QA5 0
      clear hw5 KC QA5 y8 fr8
      go_wp2_with fail
      go_meet
      refine ⟨none, 0, Lib.hid ?_, Lib.hid (fun _ _ => SlAt.nil), Lib.hid (HC.out.trans (Kept.setCell _ _ rfl))⟩
      have := set_same HQ.out 0 (.int .i64 (bits .andNot .i64 a.has 256))
      simpa using this
  case rest =>
    obtain ⟨s9, c9, QA5, I5, K5⟩ := hcut
    obtain ⟨w5, hw5⟩ : ∃ w5 : World, w5 = wc := ⟨_, rfl⟩
    rw [← hw5] at QA5 I5 K5 ⊢
    obtain ⟨h1, hh1⟩ : ∃ h1, (if decide (F = []) then bits .andNot .i64 a.has 256 else a.has) = h1 := ⟨_, rfl⟩
    have HH1 := Lib.hid hh1
    rw [hh1] at QA5
    have QZ5 := Lib.hid ((K5.out.block _ (row_lt QZ4.out) (by omega)).trans QZ4.out)
    have B5 : Hid (Below w.heap.size w w5) := Lib.hid (B4.out.trans (K5.out.below B4.out.size (fun b hb => by omega)))
    have ONR5 := Lib.hid (ONR4.out.kept K5.out (fun k _ hk e => by have := hk.1; have := S0.out; omega))
    have y5 : w5.cell? ⟨w.heap.size + 1, 5, none⟩ = some (.int .i64 a.loc) := row_cell QA5.out 5
    have fr5 := row_free QA5.out 5
    clear hw5 hh1 K5 QZ4 B4 ONR4 I4 QA4 y8 fr8
    go_upto_region 9 with (fail)
    obtain ⟨w6, hw6⟩ : ∃ w6, w6 = w5.setCell ⟨w.heap.size + 1, 5, none⟩ (.int .i64 0) := ⟨_, rfl⟩
    have KC : Kept (fun b => b = w.heap.size + 1) w5 w6 := by rw [hw6]; exact Kept.setCell _ _ rfl
    have QA6 : w6.heap[w.heap.size + 1]? = some (.cells (stC a h1 0 sp1 cp1 (.slice s9 F.length c9) so1 co1) 42 (0, 0)) := by
      rw [hw6]
      have := set_same QA5.out 5 (.int .i64 0)
      simpa using this
    rw [← hw6]
    have HQ := Lib.hid QA6
    have HC := Lib.hid KC
    have y0 : w6.cell? ⟨w.heap.size + 1, 0, none⟩ = some (.int .i64 h1) := row_cell QA6 0
    have fr0 := row_free QA6 0
    clear hw6 KC QA6 y5 fr5
    go_upto_region 10 with (fail)
    obtain ⟨w7, hw7⟩ : ∃ w7, w7 = w6.setCell ⟨w.heap.size + 1, 0, none⟩ (.int .i64 (bits .andNot .i64 h1 32)) := ⟨_, rfl⟩
    have KD : Kept (fun b => b = w.heap.size + 1) w5 w7 := by rw [hw7]; exact HC.out.trans (Kept.setCell _ _ rfl)
    have QA7 : w7.heap[w.heap.size + 1]? = some (.cells (stC a (bits .andNot .i64 h1 32) 0 sp1 cp1 (.slice s9 F.length c9) so1 co1) 42 (0, 0)) := by
      rw [hw7]
      have := set_same HQ.out 0 (.int .i64 (bits .andNot .i64 h1 32))
      simpa using this
    rw [← hw7]
    have HQ7 := Lib.hid QA7
    have QZ7 := Lib.hid ((KD.block _ (row_lt QZ5.out) (by omega)).trans QZ5.out)
    have B7 : Hid (Below w.heap.size w w7) := Lib.hid (B5.out.trans (KD.below B5.out.size (fun b hb => by omega)))
    have ONR7 := Lib.hid (ONR5.out.kept KD (fun k _ hk e => by have := hk.1; have := S0.out; omega))
    have I7 := Lib.hid (I5.out.kept KD (fun k _ hk e => by have := hk.1; have := LO.out.1; have := S0.out; omega))
    clear hw7 KD QA7 y0 fr0 HQ HC QA5 I5 QZ5 B5 ONR5
    go_wp2_with ((with_reducible refine halt_at (X := .load 42 (.tmp 3)) ?_ ?_); (· rfl))
    unfold Halt
    refine ld_at (by rfl) 42 (.tmp 3) rfl (w.heap.size + 1) rfl 42 _ (0, 0) _ HQ7.out Tryz.underlying42 rfl sz_avS ?_
    go_wp2_with ((with_reducible refine halt_at (X := .store 42 (.tmp 4) (.tmp 29)) ?_ ?_); (· rfl))
    unfold Halt
    refine st_row rfl 42 (.tmp 4) (.tmp 29) rfl (w.heap.size + 1 + 1) rfl 42 atZ (stC a (bits .andNot .i64 h1 32) 0 sp1 cp1 (.slice s9 F.length c9) so1 co1) rfl QZ7.out sz_avS rfl (by simp [Value.oneCell']) ?_
    have KZ : Kept (fun b => b = w.heap.size + 1 + 1) w7 (w7.setRow (w.heap.size + 1 + 1) (stC a (bits .andNot .i64 h1 32) 0 sp1 cp1 (.slice s9 F.length c9) so1 co1)) := kept_setRow _ _ rfl
    have ONR8 := Lib.hid ((ONR7.out.kept KZ (fun k _ hk e => by have := hk.1; have := S0.out; omega)).wide (G := fun k => w.heap.size ≤ k) (fun k hk _ => by have := hk.1; have := S0.out; omega))
    have I8 := Lib.hid ((I7.out.kept KZ (fun k _ hk e => by have := hk.1; have := LO.out.1; have := S0.out; omega)).wide (G := fun k => w.heap.size ≤ k) (fun k hk _ => by have := hk.1; have := LO.out.1; have := S0.out; omega))
    have B8 : Hid (Below w.heap.size w (w7.setRow (w.heap.size + 1 + 1) (stC a (bits .andNot .i64 h1 32) 0 sp1 cp1 (.slice s9 F.length c9) so1 co1))) := Lib.hid (B7.out.trans (KZ.below B7.out.size (fun b hb => by omega)))
    clear KZ ONR7 I7 B7
    simp only [Act.put]
    go_wp2_with fail
    refine bodyPost_ret (results_Strip _ _ (w.heap.size + 1 + 1) _ ?_ ?_ (setRow_heap _ _ _ _ _ _ QZ7.out)) rfl ⟨avOf (stripA own a) sp1 cp1 s9 c9 so1 co1, ?_, fun V hV => ⟨sp1, cp1, s9, c9, so1, co1, rfl, ?_⟩, B8.out⟩
    · rfl
    · rfl
    · have e1 := HFL.out
      have e2 := HH1.out
      unfold stripA avOf stripHas
      simp only [e1]
      rw [e2]
    · have e1 := HFL.out
      unfold stripA
      simp only [e1]
      have OR := ONR8.out V hV
      exact ⟨OR.1.1.imp fun _ _ _ ⟨u, h1, h2, _⟩ => ⟨u, h1, h2⟩, I8.out V hV, OR.2.1.imp fun _ _ _ ⟨u, h1, h2, _⟩ => ⟨u, h1, h2.1, h2.2⟩⟩
end Go.Proofs.YtkoidahgbbabiaaGreat
