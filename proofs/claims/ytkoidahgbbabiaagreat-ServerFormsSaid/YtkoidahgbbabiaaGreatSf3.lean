/- Texts of one proof, one behind another. -/
import Derived.Test.YtkoidahgbbabiaaGreatSf2
import Derived.Test.YtkoidahgbbabiaaGreatSf1
import Derived.LoopTactic
import Derived.OwnWalk
import Derived.Deep.DeepCutAuto
import Derived.LoopN
/-
  ATTRIBUTES: Clone: the communities lie apart from all else.
-/
namespace Go.Proofs.YtkoidahgbbabiaaGreat
open Go.RowKit
def ClonePostS (w : World) (a : At) (e : Ending) (w' : World) : Prop := ∃ vp vc vo lo2 lo3, e = .returned (.agg (atV a vp vc vo).toArray) ∧ w.heap.size ≤ lo2 ∧ lo2 ≤ lo3 ∧ lo3 ≤ w'.heap.size ∧
  On (fun k => w.heap.size ≤ k ∧ (k < lo2 ∨ lo3 ≤ k)) w' (fun W => (SlAt W 2 (SegU W) vp a.path ∧ NF W 2 vp) ∧ (SlAt W 2 (OthU W) vo a.others ∧ NF W 2 vo)) ∧
  On (fun k => lo2 ≤ k ∧ k < lo3) w' (fun W => W.ownsRow lo2 3 1 vc a.comms.length (a.comms.flatMap i64L)) ∧ (∀ x ∈ a.comms, I64r x) ∧ Below w.heap.size w w'
set_option maxHeartbeats 6400000 in
set_option maxRecDepth 100000 in
theorem at_CloneS (a : At) (vp vc vo : Value) (w : World) (hA : AtL w a vp vc vo) (hz : AtSz a) : Calls Tryz.prog 85 #[.agg (atV a vp vc vo).toArray] w (ClonePostS w a) := by
  show Calls Tryz.prog 85 #[.agg #[.int .i64 a.has, .int .i64 a.origin, vp, .int .u32 a.hop, .int .i64 a.med, .int .i64 a.loc, .int .i64 a.aggrAs, .int .u32 a.aggrId, vc, vo]] w _
  have HZ := Lib.hid hz
  have HP := Lib.hid (slat_rows hA.1)
  have HC := Lib.hid hA.2.1
  have HO := Lib.hid (slat_rows hA.2.2)
  clear hz hA
  obtain ⟨sa, cap, rowsP, rfl, hlc, hcm, p1, p2, p3, p4⟩ := HP.out
  obtain ⟨so, co, rowsO, rfl, olc, ocm, o1, o2, o3, o4⟩ := HO.out
  obtain ⟨sc, cc, rfl, ck⟩ : ∃ sc cc, vc = .slice sc a.comms.length cc ∧ a.comms.length ≤ cc ∧ cc ≤ maxLen := by obtain ⟨sc, cc, h, h2, h3, _⟩ := HC.out; exact ⟨sc, cc, h, h2, h3⟩
  have CS := Lib.hid (fun W (hW : Below w.heap.size w W) => sl_CloneSeg sa a.path.length cap rowsP.flatten W (by rw [rows_len p2, p1]) (Nat.le_trans hlc hcm) (fun h0 => by
    obtain ⟨b, off, h1, h2⟩ := p4 h0
    exact ⟨b, off, h1, fun q u hq => cell_below (h2 q u hq) hW⟩) (fun u hu => by
      obtain ⟨r, hr, hur⟩ := List.mem_flatten.1 hu
      obtain ⟨i, hi⟩ := List.getElem?_of_mem hr
      obtain ⟨s, hs⟩ : ∃ s, a.path[i]? = some s := ⟨_, List.getElem?_eq_getElem (by have := (List.getElem?_eq_some_iff.1 hi).1; omega)⟩
      obtain ⟨cs, h1, u1, rfl, ⟨_, _, rfl, _⟩⟩ := p3 i s hs
      rw [hi] at h1
      cases h1
      simp at hur
      rcases hur with rfl | rfl <;> rfl) HZ.out.path)
  have COt := Lib.hid (fun W (hW : Below w.heap.size w W) => sl_CloneOther so a.others.length co rowsO.flatten W (by rw [rows_len o2, o1]) (Nat.le_trans olc ocm) (fun h0 => by
    obtain ⟨b, off, h1, h2⟩ := o4 h0
    exact ⟨b, off, h1, fun q u hq => cell_below (h2 q u hq) hW⟩) (fun u hu => by
      obtain ⟨r, hr, hur⟩ := List.mem_flatten.1 hu
      obtain ⟨i, hi⟩ := List.getElem?_of_mem hr
      obtain ⟨s, hs⟩ : ∃ s, a.others[i]? = some s := ⟨_, List.getElem?_eq_getElem (by have := (List.getElem?_eq_some_iff.1 hi).1; omega)⟩
      obtain ⟨cs, h1, u1, rfl, _, ⟨_, _, rfl, _⟩⟩ := o3 i s hs
      rw [hi] at h1
      cases h1
      simp at hur
      rcases hur with rfl | rfl <;> rfl) HZ.out.others)
  have CC := Lib.hid (fun W (hW : Below w.heap.size w W) => clone_ints (.slice sc a.comms.length cc) a.comms W (HC.out.below hW) HZ.out.comms)
  have P3 := Lib.hid p3
  have O3 := Lib.hid o3
  have P12 := Lib.hid (And.intro p1 p2)
  have O12 := Lib.hid (And.intro o1 o2)
  unfold maxLen at hcm ocm
  clear p1 p2 p3 p4 o1 o2 o3 o4 HP HO ck
  go_enter Tryz.func85, Tryz.ntmps85
  go_upto_region 1 with (fail)
  obtain ⟨W0, hW0, qa, qz, hb0, hs0⟩ := boxAZ w #[.int .i64 a.has, .int .i64 a.origin, .slice sa a.path.length cap, .int .u32 a.hop, .int .i64 a.med, .int .i64 a.loc, .int .i64 a.aggrAs, .int .u32 a.aggrId, .slice sc a.comms.length cc, .slice so a.others.length co]
  rw [← hW0]
  clear hW0
  have a2 : W0.cell? ⟨w.heap.size, 2, none⟩ = some (.slice sa a.path.length cap) := row_cell qa 2
  have QA := Lib.hid qa
  have QZ := Lib.hid qz
  have B0 := Lib.hid hb0
  have S0 := Lib.hid hs0
  clear qa qz hb0 hs0
  go_wp2_with fail
  refine (CS.out _ B0.out).mono ?_
  rintro e w1 ⟨vp1, rfl, ow1, hb1⟩
  have a2 := cell_below a2 hb1
  have f2 := row_free ((hb1.block _ (row_lt QA.out)).trans QA.out) 2
  obtain ⟨sp1, cp1, rfl, k1⟩ := own_form ow1
  have K1 := Lib.hid k1
  have RU0 : RowsUp (fun s : Sg => .bool s.1) (fun W u s => IntsAt W u s.2) w W0.heap.size 121 w1 (.slice sp1 a.path.length cp1) a.path 0 rowsP := ⟨P12.out.2, P12.out.1, ow1, fun j x hx => by
    obtain ⟨cs, h1, u, rfl, h2⟩ := P3.out j x hx
    exact ⟨u, h1, fun h => absurd h (by omega), fun _ => h2⟩⟩
  clear k1 ow1
  go_upto_region 2 with (fail)
  obtain ⟨W2, hW2⟩ : ∃ W2, W2 = w1.setCell ⟨w.heap.size, 2, none⟩ (.slice sp1 a.path.length cp1) := ⟨_, rfl⟩
  have KB : Kept (fun b => b = w.heap.size) w1 W2 := by rw [hW2]; exact Kept.setCell _ _ rfl
  have QA2 : Hid (W2.heap[w.heap.size]? = some (.cells #[.int .i64 a.has, .int .i64 a.origin, .slice sp1 a.path.length cp1, .int .u32 a.hop, .int .i64 a.med, .int .i64 a.loc, .int .i64 a.aggrAs, .int .u32 a.aggrId, .slice sc a.comms.length cc, .slice so a.others.length co] 42 (0, 0))) := Lib.hid (by
    rw [hW2]
    have := set_same ((hb1.block _ (row_lt QA.out)).trans QA.out) 2 (.slice sp1 a.path.length cp1)
    simpa using this)
  have QZ2 : Hid (W2.heap[w.heap.size + 1]? = some (.cells atZ 42 (0, 0))) := Lib.hid (by
    have h1 := (hb1.block _ (row_lt QZ.out)).trans QZ.out
    exact (KB.block _ (row_lt h1) (by omega)).trans h1)
  have RU2 := Lib.hid (RU0.kept KB (fun k hk e => by have := S0.out; omega))
  have B2 : Hid (Below w.heap.size w W2) := Lib.hid ((below_on B0.out hb1).trans (KB.below (by have := hb1.size; have := S0.out; omega) (fun k hk => by omega)))
  rw [← hW2]
  clear hW2 KB RU0 a2 f2 hb1 QA QZ
  generalize W0.heap.size = lo at S0 RU2
  clear CS P3 P12 B0
  have y2 : W2.cell? ⟨w.heap.size, 2, none⟩ = some (.slice sp1 a.path.length cp1) := row_cell QA2.out 2
  go_wp2_with fail
  clear y2
  go_loopw [12] (fun t wr => ∃ (i : Nat) (rows : List (List Value)), i ≤ a.path.length ∧ t = .int .i64 i ∧ Hid (RowsUp (fun s : Sg => .bool s.1) (fun W u s => IntsAt W u s.2) w lo 121 wr (.slice sp1 a.path.length cp1) a.path i rows) ∧ Hid (wr.heap[w.heap.size]? = some (.cells #[.int .i64 a.has, .int .i64 a.origin, .slice sp1 a.path.length cp1, .int .u32 a.hop, .int .i64 a.med, .int .i64 a.loc, .int .i64 a.aggrAs, .int .u32 a.aggrId, .slice sc a.comms.length cc, .slice so a.others.length co] 42 (0, 0))) ∧ Hid (wr.heap[w.heap.size + 1]? = some (.cells atZ 42 (0, 0))) ∧ Hid (Below w.heap.size w wr)) (fun t _ => a.path.length - (intOf t).toNat)
  case atStart => exact ⟨0, rowsP, by omega, rfl, RU2, QA2, QZ2, B2⟩
  case round =>
    clear RU2 QA2 QZ2 B2
    obtain ⟨i, rows, hi, rfl, RU, QA, QZ, B⟩ := hrel
    by_cases hlt : i < a.path.length
    · obtain ⟨s, hs⟩ : ∃ s, a.path[i]? = some s := ⟨_, List.getElem?_eq_getElem hlt⟩
      obtain ⟨u, hr, _, hin⟩ := RU.out.at_ i s hs
      have IN := hin (Nat.le_refl _)
      obtain ⟨g, rfl⟩ := K1.out (by omega)
      obtain ⟨x1, f1, lg, gl⟩ := own_row_cell RU.out.own rfl (j := i * 2 + 1) (u := u) (by rw [rows_get RU.out.two i _ hr 1 (by decide)]; rfl)
      have y2 : wr.cell? ⟨w.heap.size, 2, none⟩ = some (.slice (some ⟨g, 0, none⟩) a.path.length cp1) := row_cell QA.out 2
      have Y2 := Lib.hid y2
      have NE : Hid (w.heap.size ≠ g) := Lib.hid (by have := S0.out; omega)
      have NE1 : Hid (w.heap.size + 1 ≠ g) := Lib.hid (by have := S0.out; omega)
      have LG : Hid (w.heap.size ≤ g) := Lib.hid (by have := S0.out; omega)
      have F1 := Lib.hid f1
      have CI := Lib.hid (fun W (hW : Below w.heap.size w W) => clone_ints u s.2 W (IN.below hW) (HZ.out.segs s (List.mem_of_getElem? hs)))
      have RG := Lib.hid (ints_rng IN)
      have x1d : (World.drew wr).cell? ⟨g, i * 2 + 1, none⟩ = some u := x1
      have X1 := Lib.hid x1
      have HS := Lib.hid hs
      have HR := Lib.hid hr
      have j0 : (0 : Int) ≤ (i : Int) := by omega
      have j1 : (i : Int) < (a.path.length : Int) := by omega
      clear hs hr hin IN lg gl f1 x1
      go_upto_region 5 with (fail)
      refine wp_region_held_drew (S := fun w' => Kept (fun b => b = g) wr w') (by kernel_rfl) ?_ (fun hHeld => ?_)
      · exact (Kept.refl _ _).drew
      refine rg_yes (i := 0) (v := ?_) at0 (by kernel_rfl) (by kernel_rfl) (by kernel_rfl) (fun _ _ _ h => h) ?_ ?_ hHeld ?_; rotate_left 1; (· rfl); (· intro w' hSw; (try dsimp only at hSw); (try clear hHeld); go_simp; try with_reducible rfl)
      try simp only [zp1, zp3, zp4, zp5]
      refine rg_yes (i := 1) (v := ?_) (atS at0) (by kernel_rfl) (by kernel_rfl) (by kernel_rfl) (fun _ _ _ h => h) ?_ ?_ hHeld ?_; rotate_left 1; (· rfl); (· intro w' hSw; (try dsimp only at hSw); have y2 := hSw.cell Y2.out NE.out; (try clear hHeld); go_simp; try with_reducible rfl)
      try simp only [zp1, zp3, zp4, zp5]
      refine rg_yes (i := 2) (v := ?_) (atS (atS at0)) (by kernel_rfl) (by kernel_rfl) (by kernel_rfl) (fun _ _ _ h => h) ?_ ?_ hHeld ?_; rotate_left 1; (· rfl); (· intro w' hSw; (try dsimp only at hSw); (try clear hHeld); go_simp; try with_reducible rfl)
      try simp only [zp1, zp3, zp4, zp5]
      refine rg_yes (i := 3) (v := ?_) (atS (atS (atS at0))) (by kernel_rfl) (by kernel_rfl) (by kernel_rfl) (fun _ _ _ h => h) ?_ ?_ hHeld ?_; rotate_left 1; (· rfl); (· intro w' hSw; (try dsimp only at hSw); (try clear hHeld); go_simp; try with_reducible rfl)
      try simp only [zp1, zp3, zp4, zp5]
      refine rg_yes (i := 4) (v := ?_) (atS (atS (atS (atS at0)))) (by kernel_rfl) (by kernel_rfl) (by kernel_rfl) (fun _ _ _ h => h) ?_ ?_ hHeld ?_; rotate_left 1; (· rfl); (· intro w' hSw; (try dsimp only at hSw); have y2 := hSw.cell Y2.out NE.out; (try clear hHeld); go_simp; try with_reducible rfl)
      try simp only [zp1, zp3, zp4, zp5]
      refine rg_yes (i := 5) (v := ?_) (atS (atS (atS (atS (atS at0))))) (by kernel_rfl) (by kernel_rfl) (by kernel_rfl) (fun _ _ _ h => h) ?_ ?_ hHeld ?_; rotate_left 1; (· rfl); (· intro w' hSw; (try dsimp only at hSw); (try clear hHeld); go_simp; try with_reducible rfl)
      try simp only [zp1, zp3, zp4, zp5]
      refine rg_yes (i := 6) (v := ?_) (atS (atS (atS (atS (atS (atS at0)))))) (by kernel_rfl) (by kernel_rfl) (by kernel_rfl) (fun _ _ _ h => h) ?_ ?_ hHeld ?_; rotate_left 1; (· rfl); (· intro w' hSw; (try dsimp only at hSw); have y2 := hSw.cell Y2.out NE.out; (try clear hHeld); go_simp; try with_reducible rfl)
      try simp only [zp1, zp3, zp4, zp5]
      refine rg_yes (i := 7) (v := ?_) (atS (atS (atS (atS (atS (atS (atS at0))))))) (by kernel_rfl) (by kernel_rfl) (by kernel_rfl) (fun _ _ _ h => h) ?_ ?_ hHeld ?_; rotate_left 1; (· rfl); (· intro w' hSw; (try dsimp only at hSw); (try clear hHeld); go_simp; try with_reducible rfl)
      try simp only [zp1, zp3, zp4, zp5]
      refine rg_call (i := 8) (atS (atS (atS (atS (atS (atS (atS (atS at0)))))))) (by kernel_rfl) ?_ (fun K hK => ?_); (· rfl); (try clear hb); go_simp; go_wp2_with fail; refine hK.out _ _ ?_ (fun hHeld => ?_); (· exact hHeld); clear hK K
      try simp only [zp1, zp3, zp4, zp5]
      refine rg_call (i := 9) (atS (atS (atS (atS (atS (atS (atS (atS (atS at0))))))))) (by kernel_rfl) ?_ (fun K hK => ?_); (· rfl); (try clear hb); go_simp; (refine (CI.out _ (B.out.drew)).mono ?_; rintro e w5 ⟨u', rfl, ow5, hb5⟩); obtain ⟨su, cu, rfl, -⟩ := own_form ow5; have HB5 : Hid (Below wr.heap.size wr w5) := Lib.hid ((Below.refl _ _).drew.trans hb5); have x5 := cell_below X1.out HB5.out; have f5 : w5.frozen? ⟨g, i * 2 + 1, none⟩ = false := (HB5.out.frozen (p := ⟨g, i * 2 + 1, none⟩) (size_lt X1.out)).trans F1.out; go_wp2_with fail; refine hK.out _ _ ?_ (fun hHeld => ?_); (· exact hHeld.trans (Kept.of_below hb5)); clear hK K
      try simp only [zp1, zp3, zp4, zp5]
      refine rg_yes (i := 10) (v := ?_) (atS (atS (atS (atS (atS (atS (atS (atS (atS (atS at0)))))))))) (by kernel_rfl) (by kernel_rfl) (by kernel_rfl) (fun _ _ _ h => h) ?_ ?_ hHeld ?_; rotate_left 1; (· rfl); (· intro w' hSw; (try dsimp only at hSw); have y2 := hSw.cell Y2.out NE.out; (try clear hHeld); go_simp; try with_reducible rfl)
      try simp only [zp1, zp3, zp4, zp5]
      refine rg_yes (i := 11) (v := ?_) (atS (atS (atS (atS (atS (atS (atS (atS (atS (atS (atS at0))))))))))) (by kernel_rfl) (by kernel_rfl) (by kernel_rfl) (fun _ _ _ h => h) ?_ ?_ hHeld ?_; rotate_left 1; (· rfl); (· intro w' hSw; (try dsimp only at hSw); (try clear hHeld); go_simp; try with_reducible rfl)
      try simp only [zp1, zp3, zp4, zp5]
      refine rg_call (i := 12) (atS (atS (atS (atS (atS (atS (atS (atS (atS (atS (atS (atS at0)))))))))))) (by kernel_rfl) ?_ (fun K hK => ?_); (· rfl); (try clear hb); go_simp; go_wp2_with fail; refine hK.out _ _ ?_ (fun hHeld => ?_); (· exact hHeld.trans (Kept.setCell _ _ rfl)); clear hK K
      try simp only [zp1, zp3, zp4, zp5]
      refine wpAnyH_done (by kernel_rfl) ?_ _
      have STP := Lib.hid (RU.out.step HS.out HR.out HB5.out rfl ((own_fresh ow5).imp (fun W h => ⟨own_i64s h RG.out, own_nf h⟩)))
      have HK := Lib.hid hHeld
      have NB6 : Hid (Below w.heap.size w (w5.setCell ⟨g, i * 2 + 1, none⟩ (.slice su s.2.length cu))) := Lib.hid ((below_on B.out HB5.out).setCell LG.out _)
      have QA6 := Lib.hid ((hHeld.block _ (row_lt QA.out) NE.out).trans QA.out)
      have QZ6 := Lib.hid ((hHeld.block _ (row_lt QZ.out) NE1.out).trans QZ.out)
      clear hHeld HK x1d HB5 x5 f5 ow5 RU QA QZ B y2 Y2 CI
      go_wp2_with fail
      exact ⟨⟨i + 1, _, by omega, by go_num, STP, QA6, QZ6, NB6⟩, by simp [intOf]; omega⟩
    · obtain rfl : i = a.path.length := by omega
      have DP := Lib.hid (RU.out.done)
      clear RU hlt hi
      have a8 : wr.cell? ⟨w.heap.size, 8, none⟩ = some (.slice sc a.comms.length cc) := row_cell QA.out 8
      go_wp2_with fail
      refine (CC.out _ B.out).mono ?_
      rintro e w3 ⟨vc1, rfl, ow3, hb3⟩
      obtain ⟨sc1, cc1, rfl, -⟩ := own_form ow3
      have a8 := cell_below a8 hb3
      have f8 := row_free ((hb3.block _ (row_lt QA.out)).trans QA.out) 8
      go_upto_region 8 with (fail)
      obtain ⟨W3, hW3⟩ : ∃ W3, W3 = w3.setCell ⟨w.heap.size, 8, none⟩ (.slice sc1 a.comms.length cc1) := ⟨_, rfl⟩
      have KB : Kept (fun b => b = w.heap.size) w3 W3 := by rw [hW3]; exact Kept.setCell _ _ rfl
      have QA3 : Hid (W3.heap[w.heap.size]? = some (.cells #[.int .i64 a.has, .int .i64 a.origin, .slice sp1 a.path.length cp1, .int .u32 a.hop, .int .i64 a.med, .int .i64 a.loc, .int .i64 a.aggrAs, .int .u32 a.aggrId, .slice sc1 a.comms.length cc1, .slice so a.others.length co] 42 (0, 0))) := Lib.hid (by
        rw [hW3]
        have := set_same ((hb3.block _ (row_lt QA.out)).trans QA.out) 8 (.slice sc1 a.comms.length cc1)
        simpa using this)
      have QZ3 : Hid (W3.heap[w.heap.size + 1]? = some (.cells atZ 42 (0, 0))) := Lib.hid (by
        have h1 := (hb3.block _ (row_lt QZ.out)).trans QZ.out
        exact (KB.block _ (row_lt h1) (by omega)).trans h1)
      have LW : lo ≤ wr.heap.size := by have := row_lt QZ.out; have := S0.out; omega
      have DP3 := Lib.hid (((DP.out.wide (G := fun k => lo ≤ k ∧ k < wr.heap.size) (fun k h hl => ⟨h, hl⟩)).below hb3).kept KB (fun k _ hl e => by have := S0.out; omega))
      have DC3 : Hid (On (fun k => wr.heap.size ≤ k ∧ k < W3.heap.size) W3 fun W => W.ownsRow wr.heap.size 3 1 (.slice sc1 a.comms.length cc1) a.comms.length (a.comms.flatMap i64L)) := Lib.hid (((own_fresh ow3).kept KB (fun k _ hl e => by have := S0.out; omega)).wide fun k hk hl => ⟨hk, hl⟩)
      have L2 : Hid (lo ≤ wr.heap.size ∧ wr.heap.size ≤ W3.heap.size) := Lib.hid ⟨LW, Nat.le_trans hb3.size KB.size⟩
      have B3 : Hid (Below w.heap.size w W3) := Lib.hid ((below_on B.out hb3).trans (KB.below (by have := (below_on B.out hb3).size; omega) (fun k hk => by omega)))
      rw [← hW3]
      clear hW3 KB a8 f8 hb3 QA QZ B DP ow3 LW
      have a9 : W3.cell? ⟨w.heap.size, 9, none⟩ = some (.slice so a.others.length co) := row_cell QA3.out 9
      go_wp2_with fail
      refine (COt.out _ B3.out).mono ?_
      rintro e w4 ⟨vo1, rfl, ow4, hb4⟩
      have a9 := cell_below a9 hb4
      have f9 := row_free ((hb4.block _ (row_lt QA3.out)).trans QA3.out) 9
      obtain ⟨so1, co1, rfl, k1⟩ := own_form ow4
      have O1 := Lib.hid k1
      have LW : lo ≤ W3.heap.size := by have := row_lt QZ3.out; have := S0.out; omega
      have RU0 : RowsUp (fun s : Oth => .int .i64 s.1) (fun W u s => I64r s.1 ∧ BytesAt W u s.2) w W3.heap.size 159 w4 (.slice so1 a.others.length co1) a.others 0 rowsO := ⟨O12.out.2, O12.out.1, ow4, fun j x hx => by
        obtain ⟨cs, h1, u, rfl, h2⟩ := O3.out j x hx
        exact ⟨u, h1, fun h => absurd h (by omega), fun _ => h2⟩⟩
      clear k1 ow4
      go_upto_region 9 with (fail)
      obtain ⟨W4, hW4⟩ : ∃ W4, W4 = w4.setCell ⟨w.heap.size, 9, none⟩ (.slice so1 a.others.length co1) := ⟨_, rfl⟩
      have KB : Kept (fun b => b = w.heap.size) w4 W4 := by rw [hW4]; exact Kept.setCell _ _ rfl
      have QA4 : Hid (W4.heap[w.heap.size]? = some (.cells #[.int .i64 a.has, .int .i64 a.origin, .slice sp1 a.path.length cp1, .int .u32 a.hop, .int .i64 a.med, .int .i64 a.loc, .int .i64 a.aggrAs, .int .u32 a.aggrId, .slice sc1 a.comms.length cc1, .slice so1 a.others.length co1] 42 (0, 0))) := Lib.hid (by
        rw [hW4]
        have := set_same ((hb4.block _ (row_lt QA3.out)).trans QA3.out) 9 (.slice so1 a.others.length co1)
        simpa using this)
      have QZ4 : Hid (W4.heap[w.heap.size + 1]? = some (.cells atZ 42 (0, 0))) := Lib.hid (by
        have h1 := (hb4.block _ (row_lt QZ3.out)).trans QZ3.out
        exact (KB.block _ (row_lt h1) (by omega)).trans h1)
      have S4 : Hid (W3.heap.size ≤ W4.heap.size) := Lib.hid (Nat.le_trans hb4.size KB.size)
      have DP4 := Lib.hid ((DP3.out.below hb4).kept KB (fun k _ hl e => by have := S0.out; omega))
      have DC4 := Lib.hid ((DC3.out.below hb4).kept KB (fun k _ hl e => by have := S0.out; have := L2.out; omega))
      have RU4 := Lib.hid (RU0.kept KB (fun k hk e => by have := S0.out; omega))
      have B4 : Hid (Below w.heap.size w W4) := Lib.hid ((below_on B3.out hb4).trans (KB.below (by have := (below_on B3.out hb4).size; omega) (fun k hk => by omega)))
      rw [← hW4]
      clear hW4 KB RU0 a9 f9 hb4 QA3 QZ3 DP3 DC3 B3
      have L3 := Lib.hid LW
      clear LW
      generalize W3.heap.size = lo3 at DC4 RU4 L3 L2 S4
      obtain ⟨lo2, hlo2⟩ : ∃ lo2, wr.heap.size = lo2 := ⟨_, rfl⟩
      rw [hlo2] at DP4 DC4 L2
      clear hlo2
      have y9 : W4.cell? ⟨w.heap.size, 9, none⟩ = some (.slice so1 a.others.length co1) := row_cell QA4.out 9
      go_wp2_with fail
      clear y9
      go_loopw [39] (fun t wr => ∃ (i : Nat) (rows : List (List Value)), i ≤ a.others.length ∧ t = .int .i64 i ∧ Hid (RowsUp (fun s : Oth => .int .i64 s.1) (fun W u s => I64r s.1 ∧ BytesAt W u s.2) w lo3 159 wr (.slice so1 a.others.length co1) a.others i rows) ∧ Hid (On (fun k => lo ≤ k ∧ k < lo2) wr fun W => SlAt W 2 (fun x cs => ∃ u, cs = [.bool x.1, u] ∧ IntsAt W u x.2 ∧ NF W 1 u) (.slice sp1 a.path.length cp1) a.path ∧ NF W 2 (.slice sp1 a.path.length cp1)) ∧ Hid (On (fun k => lo2 ≤ k ∧ k < lo3) wr fun W => W.ownsRow lo2 3 1 (.slice sc1 a.comms.length cc1) a.comms.length (a.comms.flatMap i64L)) ∧ Hid (lo3 ≤ wr.heap.size) ∧ Hid (wr.heap[w.heap.size]? = some (.cells #[.int .i64 a.has, .int .i64 a.origin, .slice sp1 a.path.length cp1, .int .u32 a.hop, .int .i64 a.med, .int .i64 a.loc, .int .i64 a.aggrAs, .int .u32 a.aggrId, .slice sc1 a.comms.length cc1, .slice so1 a.others.length co1] 42 (0, 0))) ∧ Hid (wr.heap[w.heap.size + 1]? = some (.cells atZ 42 (0, 0))) ∧ Hid (Below w.heap.size w wr)) (fun t _ => a.others.length - (intOf t).toNat)
      case atStart => exact ⟨0, rowsO, by omega, rfl, RU4, DP4, DC4, S4, QA4, QZ4, B4⟩
      case round =>
        clear RU4 DP4 DC4 S4 QA4 QZ4 B4
        obtain ⟨i, rows, hi, rfl, RU, DP, DC, LO3, QA, QZ, B⟩ := hrel
        by_cases hlt : i < a.others.length
        · obtain ⟨s, hs⟩ : ∃ s, a.others[i]? = some s := ⟨_, List.getElem?_eq_getElem hlt⟩
          obtain ⟨u, hr, _, hin⟩ := RU.out.at_ i s hs
          have IN := (hin (Nat.le_refl _)).2
          have IR := Lib.hid (hin (Nat.le_refl _)).1
          obtain ⟨g, rfl⟩ := O1.out (by omega)
          obtain ⟨x1, f1, lg, gl⟩ := own_row_cell RU.out.own rfl (j := i * 2 + 1) (u := u) (by rw [rows_get RU.out.two i _ hr 1 (by decide)]; rfl)
          have y2 : wr.cell? ⟨w.heap.size, 9, none⟩ = some (.slice (some ⟨g, 0, none⟩) a.others.length co1) := row_cell QA.out 9
          have Y2 := Lib.hid y2
          have NE : Hid (w.heap.size ≠ g) := Lib.hid (by have := S0.out; have := L3.out; omega)
          have NE1 : Hid (w.heap.size + 1 ≠ g) := Lib.hid (by have := S0.out; have := L3.out; omega)
          have LG : Hid (w.heap.size ≤ g) := Lib.hid (by have := S0.out; have := L3.out; omega)
          have LG3 := Lib.hid lg
          have F1 := Lib.hid f1
          have CI := Lib.hid (fun W (hW : Below w.heap.size w W) => clone_bytes u s.2 W (IN.below hW) (HZ.out.vals s (List.mem_of_getElem? hs)))
          have RG := Lib.hid (bytes_rng IN)
          have x1d : (World.drew wr).cell? ⟨g, i * 2 + 1, none⟩ = some u := x1
          have X1 := Lib.hid x1
          have HS := Lib.hid hs
          have HR := Lib.hid hr
          have j0 : (0 : Int) ≤ (i : Int) := by omega
          have j1 : (i : Int) < (a.others.length : Int) := by omega
          clear hs hr hin IN lg gl f1 x1
          go_upto_region 12 with (fail)
          refine wp_region_held_drew (S := fun w' => Kept (fun b => b = g) wr w') (by kernel_rfl) ?_ (fun hHeld => ?_)
          · exact (Kept.refl _ _).drew
          refine rg_yes (i := 0) (v := ?_) at0 (by kernel_rfl) (by kernel_rfl) (by kernel_rfl) (fun _ _ _ h => h) ?_ ?_ hHeld ?_; rotate_left 1; (· rfl); (· intro w' hSw; (try dsimp only at hSw); (try clear hHeld); go_simp; try with_reducible rfl)
          try simp only [zp1, zp3, zp4, zp5]
          refine rg_yes (i := 1) (v := ?_) (atS at0) (by kernel_rfl) (by kernel_rfl) (by kernel_rfl) (fun _ _ _ h => h) ?_ ?_ hHeld ?_; rotate_left 1; (· rfl); (· intro w' hSw; (try dsimp only at hSw); have y2 := hSw.cell Y2.out NE.out; (try clear hHeld); go_simp; try with_reducible rfl)
          try simp only [zp1, zp3, zp4, zp5]
          refine rg_yes (i := 2) (v := ?_) (atS (atS at0)) (by kernel_rfl) (by kernel_rfl) (by kernel_rfl) (fun _ _ _ h => h) ?_ ?_ hHeld ?_; rotate_left 1; (· rfl); (· intro w' hSw; (try dsimp only at hSw); (try clear hHeld); go_simp; try with_reducible rfl)
          try simp only [zp1, zp3, zp4, zp5]
          refine rg_yes (i := 3) (v := ?_) (atS (atS (atS at0))) (by kernel_rfl) (by kernel_rfl) (by kernel_rfl) (fun _ _ _ h => h) ?_ ?_ hHeld ?_; rotate_left 1; (· rfl); (· intro w' hSw; (try dsimp only at hSw); (try clear hHeld); go_simp; try with_reducible rfl)
          try simp only [zp1, zp3, zp4, zp5]
          refine rg_yes (i := 4) (v := ?_) (atS (atS (atS (atS at0)))) (by kernel_rfl) (by kernel_rfl) (by kernel_rfl) (fun _ _ _ h => h) ?_ ?_ hHeld ?_; rotate_left 1; (· rfl); (· intro w' hSw; (try dsimp only at hSw); have y2 := hSw.cell Y2.out NE.out; (try clear hHeld); go_simp; try with_reducible rfl)
          try simp only [zp1, zp3, zp4, zp5]
          refine rg_yes (i := 5) (v := ?_) (atS (atS (atS (atS (atS at0))))) (by kernel_rfl) (by kernel_rfl) (by kernel_rfl) (fun _ _ _ h => h) ?_ ?_ hHeld ?_; rotate_left 1; (· rfl); (· intro w' hSw; (try dsimp only at hSw); (try clear hHeld); go_simp; try with_reducible rfl)
          try simp only [zp1, zp3, zp4, zp5]
          refine rg_yes (i := 6) (v := ?_) (atS (atS (atS (atS (atS (atS at0)))))) (by kernel_rfl) (by kernel_rfl) (by kernel_rfl) (fun _ _ _ h => h) ?_ ?_ hHeld ?_; rotate_left 1; (· rfl); (· intro w' hSw; (try dsimp only at hSw); have y2 := hSw.cell Y2.out NE.out; (try clear hHeld); go_simp; try with_reducible rfl)
          try simp only [zp1, zp3, zp4, zp5]
          refine rg_yes (i := 7) (v := ?_) (atS (atS (atS (atS (atS (atS (atS at0))))))) (by kernel_rfl) (by kernel_rfl) (by kernel_rfl) (fun _ _ _ h => h) ?_ ?_ hHeld ?_; rotate_left 1; (· rfl); (· intro w' hSw; (try dsimp only at hSw); (try clear hHeld); go_simp; try with_reducible rfl)
          try simp only [zp1, zp3, zp4, zp5]
          refine rg_call (i := 8) (atS (atS (atS (atS (atS (atS (atS (atS at0)))))))) (by kernel_rfl) ?_ (fun K hK => ?_); (· rfl); (try clear hb); go_simp; go_wp2_with fail; refine hK.out _ _ ?_ (fun hHeld => ?_); (· exact hHeld); clear hK K
          try simp only [zp1, zp3, zp4, zp5]
          refine rg_call (i := 9) (atS (atS (atS (atS (atS (atS (atS (atS (atS at0))))))))) (by kernel_rfl) ?_ (fun K hK => ?_); (· rfl); (try clear hb); go_simp; (refine (CI.out _ (B.out.drew)).mono ?_; rintro e w5 ⟨u', rfl, ow5, hb5⟩); obtain ⟨su, cu, rfl, -⟩ := own_form ow5; have HB5 : Hid (Below wr.heap.size wr w5) := Lib.hid ((Below.refl _ _).drew.trans hb5); have x5 := cell_below X1.out HB5.out; have f5 : w5.frozen? ⟨g, i * 2 + 1, none⟩ = false := (HB5.out.frozen (p := ⟨g, i * 2 + 1, none⟩) (size_lt X1.out)).trans F1.out; go_wp2_with fail; refine hK.out _ _ ?_ (fun hHeld => ?_); (· exact hHeld.trans (Kept.of_below hb5)); clear hK K
          try simp only [zp1, zp3, zp4, zp5]
          refine rg_yes (i := 10) (v := ?_) (atS (atS (atS (atS (atS (atS (atS (atS (atS (atS at0)))))))))) (by kernel_rfl) (by kernel_rfl) (by kernel_rfl) (fun _ _ _ h => h) ?_ ?_ hHeld ?_; rotate_left 1; (· rfl); (· intro w' hSw; (try dsimp only at hSw); have y2 := hSw.cell Y2.out NE.out; (try clear hHeld); go_simp; try with_reducible rfl)
          try simp only [zp1, zp3, zp4, zp5]
          refine rg_yes (i := 11) (v := ?_) (atS (atS (atS (atS (atS (atS (atS (atS (atS (atS (atS at0))))))))))) (by kernel_rfl) (by kernel_rfl) (by kernel_rfl) (fun _ _ _ h => h) ?_ ?_ hHeld ?_; rotate_left 1; (· rfl); (· intro w' hSw; (try dsimp only at hSw); (try clear hHeld); go_simp; try with_reducible rfl)
          try simp only [zp1, zp3, zp4, zp5]
          refine rg_call (i := 12) (atS (atS (atS (atS (atS (atS (atS (atS (atS (atS (atS (atS at0)))))))))))) (by kernel_rfl) ?_ (fun K hK => ?_); (· rfl); (try clear hb); go_simp; go_wp2_with fail; refine hK.out _ _ ?_ (fun hHeld => ?_); (· exact hHeld.trans (Kept.setCell _ _ rfl)); clear hK K
          try simp only [zp1, zp3, zp4, zp5]
          refine wpAnyH_done (by kernel_rfl) ?_ _
          have STP := Lib.hid (RU.out.step HS.out HR.out HB5.out rfl ((own_fresh ow5).imp (fun W h => ⟨⟨IR.out, own_u8s h RG.out⟩, own_nf h⟩)))
          have NB6 : Hid (Below w.heap.size w (w5.setCell ⟨g, i * 2 + 1, none⟩ (.slice su s.2.length cu))) := Lib.hid ((below_on B.out HB5.out).setCell LG.out _)
          have QA6 := Lib.hid ((hHeld.block _ (row_lt QA.out) NE.out).trans QA.out)
          have QZ6 := Lib.hid ((hHeld.block _ (row_lt QZ.out) NE1.out).trans QZ.out)
          have DP6 := Lib.hid (DP.out.kept hHeld (fun k _ hl e => by have := LG3.out; have := L2.out; omega))
          have S6 := Lib.hid (Nat.le_trans LO3.out hHeld.size)
          have DC6 := Lib.hid (DC.out.kept hHeld (fun k _ hl e => by have := LG3.out; omega))
          clear hHeld x1d HB5 x5 f5 ow5 RU QA QZ B DP DC y2 Y2 CI
          go_wp2_with fail
          exact ⟨⟨i + 1, _, by omega, by go_num, STP, DP6, DC6, S6, QA6, QZ6, NB6⟩, by simp [intOf]; omega⟩
        · obtain rfl : i = a.others.length := by omega
          have DO := Lib.hid (RU.out.done)
          have RC := Lib.hid (ints_rng HC.out)
          have K3 : Kept (fun k => k = w.heap.size + 1) wr (wr.setRow (w.heap.size + 1) #[.int .i64 a.has, .int .i64 a.origin, .slice sp1 a.path.length cp1, .int .u32 a.hop, .int .i64 a.med, .int .i64 a.loc, .int .i64 a.aggrAs, .int .u32 a.aggrId, .slice sc1 a.comms.length cc1, .slice so1 a.others.length co1]) := kept_setRow _ _ rfl
          have FP := Lib.hid (((DP.out.kept K3 (fun k _ hl e => by have := S0.out; omega)).wide (G := fun k => w.heap.size ≤ k ∧ (k < lo2 ∨ lo3 ≤ k)) (fun k hk _ => by have := S0.out; omega)).and ((DO.out.kept K3 (fun k _ hl e => by have := S0.out; have := L3.out; omega)).wide (G := fun k => w.heap.size ≤ k ∧ (k < lo2 ∨ lo3 ≤ k)) (fun k hk _ => by have := S0.out; have := L3.out; omega)))
          have FC := Lib.hid (DC.out.kept K3 (fun k _ hl e => by have := S0.out; have := L2.out; omega))
          have L4 : Hid (lo3 ≤ wr.heap.size) := Lib.hid LO3.out
          clear RU DP DC DO hlt hi K3
          obtain ⟨y0, y1, y2, y3, y4, y5, y6, y7, y8, y9⟩ := atc_cells QA.out
          have z0 := row_free QZ.out
          go_wp2_with ((with_reducible refine halt_at (X := .store 42 (.tmp 2) (.tmp 55)) ?_ ?_); (· rfl))
          unfold Halt
          refine st_row rfl 42 (.tmp 2) (.tmp 55) rfl (w.heap.size + 1) rfl 42 atZ #[.int .i64 a.has, .int .i64 a.origin, .slice sp1 a.path.length cp1, .int .u32 a.hop, .int .i64 a.med, .int .i64 a.loc, .int .i64 a.aggrAs, .int .u32 a.aggrId, .slice sc1 a.comms.length cc1, .slice so1 a.others.length co1] rfl QZ.out ?_ rfl (by simp [Value.oneCell']) ?_
          · kernel_rfl
          go_wp2_with fail
          refine bodyPost_ret (results_Clone _ _ (w.heap.size + 1) _ ?_ ?_ (setRow_heap _ _ _ _ _ _ QZ.out)) rfl ⟨_, _, _, lo2, lo3, rfl, ?_, L2.out.2, ?_, FP.out, FC.out, RC.out, below_setRow B.out (Nat.le_succ _) _⟩
          · rfl
          · rfl
          · have := S0.out; have := L2.out; omega
          · exact Nat.le_trans L4.out (below_setRow (Below.refl 0 wr) (Nat.zero_le _) _).size
end Go.Proofs.YtkoidahgbbabiaaGreat
/-
  CHOOSE: ranks; cmp.Compare, cmp.Or of three; ahead, behind.
-/
namespace Go.Proofs.YtkoidahgbbabiaaGreat
open Go.RowKit
def cmpIc (a b : Int) : Int := if a < b then -1 else if b < a then 1 else 0
set_option maxHeartbeats 400000 in
theorem cmpc_CompareAddr (a b : Int) (w : World) :
    Calls Tryz.prog 64 #[.int .u32 a, .int .u32 b] w fun e w' => e = .returned (.int .i64 (cmpIc a b)) ∧ w = w' := by
  go_enter Tryz.func64, Tryz.ntmps64
  go_wp2
  all_goals
    go_ret
    exact ⟨ret_int (by unfold cmpIc; repeat (first | rw [if_pos (by omega)] | rw [if_neg (by omega)])), rfl⟩
set_option maxHeartbeats 400000 in
theorem cmpc_CompareInt (a b : Int) (w : World) :
    Calls Tryz.prog 65 #[.int .i64 a, .int .i64 b] w fun e w' => e = .returned (.int .i64 (cmpIc a b)) ∧ w = w' := by
  go_enter Tryz.func65, Tryz.ntmps65
  go_wp2
  all_goals
    go_ret
    exact ⟨ret_int (by unfold cmpIc; repeat (first | rw [if_pos (by omega)] | rw [if_neg (by omega)])), rfl⟩
def or3 (x y z : Int) : Int := if x = 0 then (if y = 0 then z else y) else x
set_option maxHeartbeats 800000 in
theorem cmp_OrInt3 (g c : Nat) (x y z : Int) (w : World) (hx : w.cell? ⟨g, 0, none⟩ = some (.int .i64 x)) (hy : w.cell? ⟨g, 1, none⟩ = some (.int .i64 y)) (hz : w.cell? ⟨g, 2, none⟩ = some (.int .i64 z)) :
    Calls Tryz.prog 63 #[.slice (some ⟨g, 0, none⟩) 3 c] w fun e w' => e = .returned (.int .i64 (or3 x y z)) ∧ w = w' := by
  by_cases e1 : x = 0
  · by_cases e2 : y = 0
    · subst e1; subst e2
      by_cases e3 : z = 0
      · subst e3
        go_enter Tryz.func63, Tryz.ntmps63
        go_wp2
        refine wp_loop_rounds 4 ?_
        iterate 4 (rw [rounds_succ]; go_wp2)
        go_ret
        exact ⟨rfl, rfl⟩
      · have n3 : (z != 0) = true := by simpa using e3
        go_enter Tryz.func63, Tryz.ntmps63
        go_wp2
        refine wp_loop_rounds 4 ?_
        iterate 3 (rw [rounds_succ]; go_wp2)
        go_ret
        exact ⟨ret_int (by unfold or3; simp), rfl⟩
    · subst e1
      have n3 : (y != 0) = true := by simpa using e2
      go_enter Tryz.func63, Tryz.ntmps63
      go_wp2
      refine wp_loop_rounds 4 ?_
      iterate 2 (rw [rounds_succ]; go_wp2)
      go_ret
      exact ⟨ret_int (by unfold or3; simp [e2]), rfl⟩
  · have n3 : (x != 0) = true := by simpa using e1
    go_enter Tryz.func63, Tryz.ntmps63
    go_wp2
    refine wp_loop_rounds 4 ?_
    rw [rounds_succ]
    go_wp2
    go_ret
    exact ⟨ret_int (by unfold or3; simp [e1]), rfl⟩
structure Rk where
  place : Int
  loc : Int
  hops : Int
  origin : Int
  first : Int
  med : Int
  id : Nat
  peer : Int
def rkL (r : Rk) : List Value := [.int .i64 r.place, .int .i64 r.loc, .int .i64 r.hops, .int .i64 r.origin, .int .i64 r.first, .int .i64 r.med, .int .u32 r.id, .int .i64 r.peer]
abbrev rkA (r : Rk) : Array Value := #[.int .i64 r.place, .int .i64 r.loc, .int .i64 r.hops, .int .i64 r.origin, .int .i64 r.first, .int .i64 r.med, .int .u32 r.id, .int .i64 r.peer]
def aheadI (a b : Rk) : Int := or3 (cmpIc b.loc a.loc) (cmpIc a.hops b.hops) (cmpIc a.origin b.origin)
def behindI (a b : Rk) : Int := or3 (cmpIc a.id b.id) (cmpIc a.peer b.peer) (cmpIc a.place b.place)
theorem boxR (w : World) (a b : Rk) : ∃ W0, W0 = (w.alloc (.cells (rkA a) 200)).alloc (.cells (rkA b) 200) ∧ W0.heap[w.heap.size]? = some (.cells (rkA a) 200 (0, 0)) ∧ W0.heap[w.heap.size + 1]? = some (.cells (rkA b) 200 (0, 0)) ∧ Below w.heap.size w W0 := by
  refine ⟨_, rfl, ?_, ?_, ((Below.refl _ _).alloc (Nat.le_refl _) _).alloc (by simp) _⟩
  · have h1 := heap_alloc_new w (.cells (rkA a) 200)
    have h2 : Below (w.alloc (.cells (rkA a) 200)).heap.size (w.alloc (.cells (rkA a) 200)) ((w.alloc (.cells (rkA a) 200)).alloc (.cells (rkA b) 200)) := (Below.refl _ _).alloc (Nat.le_refl _) _
    exact (h2.block _ (row_lt h1)).trans h1
  · have h1 := heap_alloc_new (w.alloc (.cells (rkA a) 200)) (.cells (rkA b) 200)
    simpa using h1
set_option maxHeartbeats 1600000 in
set_option maxRecDepth 100000 in
theorem ch_ahead (a b : Rk) (w : World) :
    Calls Tryz.prog 165 #[.agg (rkA a), .agg (rkA b)] w fun e w' => e = .returned (.int .i64 (aheadI a b)) ∧ Below w.heap.size w w' := by
  go_enter Tryz.func165, Tryz.ntmps165
  go_wp2_with fail
  obtain ⟨W0, hW0, ra, rb, hB⟩ := boxR w a b
  rw [← hW0]; clear hW0
  have c0 : W0.cell? ⟨w.heap.size, 0, none⟩ = some (.int .i64 a.place) := row_cell ra 0
  have c1 : W0.cell? ⟨w.heap.size, 1, none⟩ = some (.int .i64 a.loc) := row_cell ra 1
  have c2 : W0.cell? ⟨w.heap.size, 2, none⟩ = some (.int .i64 a.hops) := row_cell ra 2
  have c3 : W0.cell? ⟨w.heap.size, 3, none⟩ = some (.int .i64 a.origin) := row_cell ra 3
  have c6 : W0.cell? ⟨w.heap.size, 6, none⟩ = some (.int .u32 a.id) := row_cell ra 6
  have c7 : W0.cell? ⟨w.heap.size, 7, none⟩ = some (.int .i64 a.peer) := row_cell ra 7
  have d0 : W0.cell? ⟨w.heap.size + 1, 0, none⟩ = some (.int .i64 b.place) := row_cell rb 0
  have d1 : W0.cell? ⟨w.heap.size + 1, 1, none⟩ = some (.int .i64 b.loc) := row_cell rb 1
  have d2 : W0.cell? ⟨w.heap.size + 1, 2, none⟩ = some (.int .i64 b.hops) := row_cell rb 2
  have d3 : W0.cell? ⟨w.heap.size + 1, 3, none⟩ = some (.int .i64 b.origin) := row_cell rb 3
  have d6 : W0.cell? ⟨w.heap.size + 1, 6, none⟩ = some (.int .u32 b.id) := row_cell rb 6
  have d7 : W0.cell? ⟨w.heap.size + 1, 7, none⟩ = some (.int .i64 b.peer) := row_cell rb 7
  clear ra rb
  refine wp_region_held_drew (S := fun w' => Below W0.heap.size W0 w') (by kernel_rfl) ?_ (fun hHeld => ?_)
  · exact (Below.refl _ _).drew
  refine rg_yes (i := 0) (v := ?_) at0 (by kernel_rfl) (by kernel_rfl) (by kernel_rfl) (fun _ _ _ h => h) ?_ ?_ hHeld ?_; rotate_left 1; (· rfl); (· intro w' hSw; (try dsimp only at hSw); (try clear hHeld); go_simp; try with_reducible rfl)
  try simp only [zp1, zp3, zp4, zp5]
  refine rg_yes (i := 1) (v := ?_) (atS at0) (by kernel_rfl) (by kernel_rfl) (by kernel_rfl) (fun _ _ _ h => h) ?_ ?_ hHeld ?_; rotate_left 1; (· rfl); (· intro w' hSw; (try dsimp only at hSw); have c1 := cell_below c1 hSw; have c2 := cell_below c2 hSw; have c3 := cell_below c3 hSw; have d1 := cell_below d1 hSw; have d2 := cell_below d2 hSw; have d3 := cell_below d3 hSw; (try clear hHeld); go_simp; try with_reducible rfl)
  try simp only [zp1, zp3, zp4, zp5]
  refine rg_yes (i := 2) (v := ?_) (atS (atS at0)) (by kernel_rfl) (by kernel_rfl) (by kernel_rfl) (fun _ _ _ h => h) ?_ ?_ hHeld ?_; rotate_left 1; (· rfl); (· intro w' hSw; (try dsimp only at hSw); (try clear hHeld); go_simp; try with_reducible rfl)
  try simp only [zp1, zp3, zp4, zp5]
  refine rg_yes (i := 3) (v := ?_) (atS (atS (atS at0))) (by kernel_rfl) (by kernel_rfl) (by kernel_rfl) (fun _ _ _ h => h) ?_ ?_ hHeld ?_; rotate_left 1; (· rfl); (· intro w' hSw; (try dsimp only at hSw); have c1 := cell_below c1 hSw; have c2 := cell_below c2 hSw; have c3 := cell_below c3 hSw; have d1 := cell_below d1 hSw; have d2 := cell_below d2 hSw; have d3 := cell_below d3 hSw; (try clear hHeld); go_simp; try with_reducible rfl)
  try simp only [zp1, zp3, zp4, zp5]
  refine rg_yes (i := 5) (v := ?_) (atS (atS (atS (atS (atS at0))))) (by kernel_rfl) (by kernel_rfl) (by kernel_rfl) (fun _ _ _ h => h) ?_ ?_ hHeld ?_; rotate_left 1; (· rfl); (· intro w' hSw; (try dsimp only at hSw); (try clear hHeld); go_simp; try with_reducible rfl)
  try simp only [zp1, zp3, zp4, zp5]
  refine rg_yes (i := 6) (v := ?_) (atS (atS (atS (atS (atS (atS at0)))))) (by kernel_rfl) (by kernel_rfl) (by kernel_rfl) (fun _ _ _ h => h) ?_ ?_ hHeld ?_; rotate_left 1; (· rfl); (· intro w' hSw; (try dsimp only at hSw); have c1 := cell_below c1 hSw; have c2 := cell_below c2 hSw; have c3 := cell_below c3 hSw; have d1 := cell_below d1 hSw; have d2 := cell_below d2 hSw; have d3 := cell_below d3 hSw; (try clear hHeld); go_simp; try with_reducible rfl)
  try simp only [zp1, zp3, zp4, zp5]
  refine rg_yes (i := 7) (v := ?_) (atS (atS (atS (atS (atS (atS (atS at0))))))) (by kernel_rfl) (by kernel_rfl) (by kernel_rfl) (fun _ _ _ h => h) ?_ ?_ hHeld ?_; rotate_left 1; (· rfl); (· intro w' hSw; (try dsimp only at hSw); (try clear hHeld); go_simp; try with_reducible rfl)
  try simp only [zp1, zp3, zp4, zp5]
  refine rg_yes (i := 8) (v := ?_) (atS (atS (atS (atS (atS (atS (atS (atS at0)))))))) (by kernel_rfl) (by kernel_rfl) (by kernel_rfl) (fun _ _ _ h => h) ?_ ?_ hHeld ?_; rotate_left 1; (· rfl); (· intro w' hSw; (try dsimp only at hSw); have c1 := cell_below c1 hSw; have c2 := cell_below c2 hSw; have c3 := cell_below c3 hSw; have d1 := cell_below d1 hSw; have d2 := cell_below d2 hSw; have d3 := cell_below d3 hSw; (try clear hHeld); go_simp; try with_reducible rfl)
  try simp only [zp1, zp3, zp4, zp5]
  refine rg_yes (i := 10) (v := ?_) (atS (atS (atS (atS (atS (atS (atS (atS (atS (atS at0)))))))))) (by kernel_rfl) (by kernel_rfl) (by kernel_rfl) (fun _ _ _ h => h) ?_ ?_ hHeld ?_; rotate_left 1; (· rfl); (· intro w' hSw; (try dsimp only at hSw); (try clear hHeld); go_simp; try with_reducible rfl)
  try simp only [zp1, zp3, zp4, zp5]
  refine rg_yes (i := 11) (v := ?_) (atS (atS (atS (atS (atS (atS (atS (atS (atS (atS (atS at0))))))))))) (by kernel_rfl) (by kernel_rfl) (by kernel_rfl) (fun _ _ _ h => h) ?_ ?_ hHeld ?_; rotate_left 1; (· rfl); (· intro w' hSw; (try dsimp only at hSw); have c1 := cell_below c1 hSw; have c2 := cell_below c2 hSw; have c3 := cell_below c3 hSw; have d1 := cell_below d1 hSw; have d2 := cell_below d2 hSw; have d3 := cell_below d3 hSw; (try clear hHeld); go_simp; try with_reducible rfl)
  try simp only [zp1, zp3, zp4, zp5]
  refine rg_yes (i := 12) (v := ?_) (atS (atS (atS (atS (atS (atS (atS (atS (atS (atS (atS (atS at0)))))))))))) (by kernel_rfl) (by kernel_rfl) (by kernel_rfl) (fun _ _ _ h => h) ?_ ?_ hHeld ?_; rotate_left 1; (· rfl); (· intro w' hSw; (try dsimp only at hSw); (try clear hHeld); go_simp; try with_reducible rfl)
  try simp only [zp1, zp3, zp4, zp5]
  refine rg_yes (i := 13) (v := ?_) (atS (atS (atS (atS (atS (atS (atS (atS (atS (atS (atS (atS (atS at0))))))))))))) (by kernel_rfl) (by kernel_rfl) (by kernel_rfl) (fun _ _ _ h => h) ?_ ?_ hHeld ?_; rotate_left 1; (· rfl); (· intro w' hSw; (try dsimp only at hSw); have c1 := cell_below c1 hSw; have c2 := cell_below c2 hSw; have c3 := cell_below c3 hSw; have d1 := cell_below d1 hSw; have d2 := cell_below d2 hSw; have d3 := cell_below d3 hSw; (try clear hHeld); go_simp; try with_reducible rfl)
  try simp only [zp1, zp3, zp4, zp5]
  refine rg_call (i := 4) (atS (atS (atS (atS at0)))) (by kernel_rfl) ?_ (fun K hK => ?_); (· rfl); (try clear hb); go_simp; (refine (calls_below (cmpc_CompareInt _ _ _)).mono ?_; rintro e w1 ⟨rfl, hb⟩); go_wp2_with fail; refine hK.out _ _ ?_ (fun hHeld => ?_); (· first | exact hHeld.trans (hb.mono hHeld.size) | exact hHeld.alloc hHeld.size _); clear hK K
  try simp only [zp1, zp3, zp4, zp5]
  refine rg_call (i := 9) (atS (atS (atS (atS (atS (atS (atS (atS (atS at0))))))))) (by kernel_rfl) ?_ (fun K hK => ?_); (· rfl); (try clear hb); go_simp; (refine (calls_below (cmpc_CompareInt _ _ _)).mono ?_; rintro e w1 ⟨rfl, hb⟩); go_wp2_with fail; refine hK.out _ _ ?_ (fun hHeld => ?_); (· first | exact hHeld.trans (hb.mono hHeld.size) | exact hHeld.alloc hHeld.size _); clear hK K
  try simp only [zp1, zp3, zp4, zp5]
  refine rg_call (i := 14) (atS (atS (atS (atS (atS (atS (atS (atS (atS (atS (atS (atS (atS (atS at0)))))))))))))) (by kernel_rfl) ?_ (fun K hK => ?_); (· rfl); (try clear hb); go_simp; (refine (calls_below (cmpc_CompareInt _ _ _)).mono ?_; rintro e w1 ⟨rfl, hb⟩); go_wp2_with fail; refine hK.out _ _ ?_ (fun hHeld => ?_); (· first | exact hHeld.trans (hb.mono hHeld.size) | exact hHeld.alloc hHeld.size _); clear hK K
  try simp only [zp1, zp3, zp4, zp5]
  refine rg_call (i := 15) (atS (atS (atS (atS (atS (atS (atS (atS (atS (atS (atS (atS (atS (atS (atS at0))))))))))))))) (by kernel_rfl) ?_ (fun K hK => ?_); (· rfl); (try clear hb); go_simp; go_wp2_with fail; refine hK.out _ _ ?_ (fun hHeld => ?_); (· first | exact hHeld.trans (hb.mono hHeld.size) | exact hHeld.alloc hHeld.size _); clear hK K
  try simp only [zp1, zp3, zp4, zp5]
  refine rg_call (i := 16) (atS (atS (atS (atS (atS (atS (atS (atS (atS (atS (atS (atS (atS (atS (atS (atS at0)))))))))))))))) (by kernel_rfl) ?_ (fun K hK => ?_); (· rfl); (try clear hb); go_simp; (refine (calls_below (cmp_OrInt3 _ 3 (cmpIc b.loc a.loc) (cmpIc a.hops b.hops) (cmpIc a.origin b.origin) _ (by simp) (by simp) (by simp))).mono ?_; rintro e w1 ⟨rfl, hb⟩); go_wp2_with fail; refine hK.out _ _ ?_ (fun hHeld => ?_); (· first | exact hHeld.trans (hb.mono hHeld.size) | exact hHeld.alloc hHeld.size _); clear hK K
  try simp only [zp1, zp3, zp4, zp5]
  refine rg_yes (i := 17) (v := ?_) (atS (atS (atS (atS (atS (atS (atS (atS (atS (atS (atS (atS (atS (atS (atS (atS (atS at0))))))))))))))))) (by kernel_rfl) (by kernel_rfl) (by kernel_rfl) (fun _ _ _ h => h) ?_ ?_ hHeld ?_; rotate_left 1; (· rfl); (· intro w' hSw; (try dsimp only at hSw); (try clear hHeld); go_simp; try with_reducible rfl)
  try simp only [zp1, zp3, zp4, zp5]
  refine wpAnyH_done (by kernel_rfl) ?_ _
  have hB' := below_on hB hHeld
  clear hHeld hb
  go_wp2
  go_ret
  exact ⟨ret_int rfl, hB'⟩
set_option maxHeartbeats 1600000 in
set_option maxRecDepth 100000 in
theorem ch_behind (a b : Rk) (w : World) :
    Calls Tryz.prog 166 #[.agg (rkA a), .agg (rkA b)] w fun e w' => e = .returned (.int .i64 (behindI a b)) ∧ Below w.heap.size w w' := by
  go_enter Tryz.func166, Tryz.ntmps166
  go_wp2_with fail
  obtain ⟨W0, hW0, ra, rb, hB⟩ := boxR w a b
  rw [← hW0]; clear hW0
  have c0 : W0.cell? ⟨w.heap.size, 0, none⟩ = some (.int .i64 a.place) := row_cell ra 0
  have c1 : W0.cell? ⟨w.heap.size, 1, none⟩ = some (.int .i64 a.loc) := row_cell ra 1
  have c2 : W0.cell? ⟨w.heap.size, 2, none⟩ = some (.int .i64 a.hops) := row_cell ra 2
  have c3 : W0.cell? ⟨w.heap.size, 3, none⟩ = some (.int .i64 a.origin) := row_cell ra 3
  have c6 : W0.cell? ⟨w.heap.size, 6, none⟩ = some (.int .u32 a.id) := row_cell ra 6
  have c7 : W0.cell? ⟨w.heap.size, 7, none⟩ = some (.int .i64 a.peer) := row_cell ra 7
  have d0 : W0.cell? ⟨w.heap.size + 1, 0, none⟩ = some (.int .i64 b.place) := row_cell rb 0
  have d1 : W0.cell? ⟨w.heap.size + 1, 1, none⟩ = some (.int .i64 b.loc) := row_cell rb 1
  have d2 : W0.cell? ⟨w.heap.size + 1, 2, none⟩ = some (.int .i64 b.hops) := row_cell rb 2
  have d3 : W0.cell? ⟨w.heap.size + 1, 3, none⟩ = some (.int .i64 b.origin) := row_cell rb 3
  have d6 : W0.cell? ⟨w.heap.size + 1, 6, none⟩ = some (.int .u32 b.id) := row_cell rb 6
  have d7 : W0.cell? ⟨w.heap.size + 1, 7, none⟩ = some (.int .i64 b.peer) := row_cell rb 7
  clear ra rb
  refine wp_region_held_drew (S := fun w' => Below W0.heap.size W0 w') (by kernel_rfl) ?_ (fun hHeld => ?_)
  · exact (Below.refl _ _).drew
  refine rg_yes (i := 0) (v := ?_) at0 (by kernel_rfl) (by kernel_rfl) (by kernel_rfl) (fun _ _ _ h => h) ?_ ?_ hHeld ?_; rotate_left 1; (· rfl); (· intro w' hSw; (try dsimp only at hSw); (try clear hHeld); go_simp; try with_reducible rfl)
  try simp only [zp1, zp3, zp4, zp5]
  refine rg_yes (i := 1) (v := ?_) (atS at0) (by kernel_rfl) (by kernel_rfl) (by kernel_rfl) (fun _ _ _ h => h) ?_ ?_ hHeld ?_; rotate_left 1; (· rfl); (· intro w' hSw; (try dsimp only at hSw); have c0 := cell_below c0 hSw; have c6 := cell_below c6 hSw; have c7 := cell_below c7 hSw; have d0 := cell_below d0 hSw; have d6 := cell_below d6 hSw; have d7 := cell_below d7 hSw; (try clear hHeld); go_simp; try with_reducible rfl)
  try simp only [zp1, zp3, zp4, zp5]
  refine rg_yes (i := 2) (v := ?_) (atS (atS at0)) (by kernel_rfl) (by kernel_rfl) (by kernel_rfl) (fun _ _ _ h => h) ?_ ?_ hHeld ?_; rotate_left 1; (· rfl); (· intro w' hSw; (try dsimp only at hSw); (try clear hHeld); go_simp; try with_reducible rfl)
  try simp only [zp1, zp3, zp4, zp5]
  refine rg_yes (i := 3) (v := ?_) (atS (atS (atS at0))) (by kernel_rfl) (by kernel_rfl) (by kernel_rfl) (fun _ _ _ h => h) ?_ ?_ hHeld ?_; rotate_left 1; (· rfl); (· intro w' hSw; (try dsimp only at hSw); have c0 := cell_below c0 hSw; have c6 := cell_below c6 hSw; have c7 := cell_below c7 hSw; have d0 := cell_below d0 hSw; have d6 := cell_below d6 hSw; have d7 := cell_below d7 hSw; (try clear hHeld); go_simp; try with_reducible rfl)
  try simp only [zp1, zp3, zp4, zp5]
  refine rg_yes (i := 5) (v := ?_) (atS (atS (atS (atS (atS at0))))) (by kernel_rfl) (by kernel_rfl) (by kernel_rfl) (fun _ _ _ h => h) ?_ ?_ hHeld ?_; rotate_left 1; (· rfl); (· intro w' hSw; (try dsimp only at hSw); (try clear hHeld); go_simp; try with_reducible rfl)
  try simp only [zp1, zp3, zp4, zp5]
  refine rg_yes (i := 6) (v := ?_) (atS (atS (atS (atS (atS (atS at0)))))) (by kernel_rfl) (by kernel_rfl) (by kernel_rfl) (fun _ _ _ h => h) ?_ ?_ hHeld ?_; rotate_left 1; (· rfl); (· intro w' hSw; (try dsimp only at hSw); have c0 := cell_below c0 hSw; have c6 := cell_below c6 hSw; have c7 := cell_below c7 hSw; have d0 := cell_below d0 hSw; have d6 := cell_below d6 hSw; have d7 := cell_below d7 hSw; (try clear hHeld); go_simp; try with_reducible rfl)
  try simp only [zp1, zp3, zp4, zp5]
  refine rg_yes (i := 7) (v := ?_) (atS (atS (atS (atS (atS (atS (atS at0))))))) (by kernel_rfl) (by kernel_rfl) (by kernel_rfl) (fun _ _ _ h => h) ?_ ?_ hHeld ?_; rotate_left 1; (· rfl); (· intro w' hSw; (try dsimp only at hSw); (try clear hHeld); go_simp; try with_reducible rfl)
  try simp only [zp1, zp3, zp4, zp5]
  refine rg_yes (i := 8) (v := ?_) (atS (atS (atS (atS (atS (atS (atS (atS at0)))))))) (by kernel_rfl) (by kernel_rfl) (by kernel_rfl) (fun _ _ _ h => h) ?_ ?_ hHeld ?_; rotate_left 1; (· rfl); (· intro w' hSw; (try dsimp only at hSw); have c0 := cell_below c0 hSw; have c6 := cell_below c6 hSw; have c7 := cell_below c7 hSw; have d0 := cell_below d0 hSw; have d6 := cell_below d6 hSw; have d7 := cell_below d7 hSw; (try clear hHeld); go_simp; try with_reducible rfl)
  try simp only [zp1, zp3, zp4, zp5]
  refine rg_yes (i := 10) (v := ?_) (atS (atS (atS (atS (atS (atS (atS (atS (atS (atS at0)))))))))) (by kernel_rfl) (by kernel_rfl) (by kernel_rfl) (fun _ _ _ h => h) ?_ ?_ hHeld ?_; rotate_left 1; (· rfl); (· intro w' hSw; (try dsimp only at hSw); (try clear hHeld); go_simp; try with_reducible rfl)
  try simp only [zp1, zp3, zp4, zp5]
  refine rg_yes (i := 11) (v := ?_) (atS (atS (atS (atS (atS (atS (atS (atS (atS (atS (atS at0))))))))))) (by kernel_rfl) (by kernel_rfl) (by kernel_rfl) (fun _ _ _ h => h) ?_ ?_ hHeld ?_; rotate_left 1; (· rfl); (· intro w' hSw; (try dsimp only at hSw); have c0 := cell_below c0 hSw; have c6 := cell_below c6 hSw; have c7 := cell_below c7 hSw; have d0 := cell_below d0 hSw; have d6 := cell_below d6 hSw; have d7 := cell_below d7 hSw; (try clear hHeld); go_simp; try with_reducible rfl)
  try simp only [zp1, zp3, zp4, zp5]
  refine rg_yes (i := 12) (v := ?_) (atS (atS (atS (atS (atS (atS (atS (atS (atS (atS (atS (atS at0)))))))))))) (by kernel_rfl) (by kernel_rfl) (by kernel_rfl) (fun _ _ _ h => h) ?_ ?_ hHeld ?_; rotate_left 1; (· rfl); (· intro w' hSw; (try dsimp only at hSw); (try clear hHeld); go_simp; try with_reducible rfl)
  try simp only [zp1, zp3, zp4, zp5]
  refine rg_yes (i := 13) (v := ?_) (atS (atS (atS (atS (atS (atS (atS (atS (atS (atS (atS (atS (atS at0))))))))))))) (by kernel_rfl) (by kernel_rfl) (by kernel_rfl) (fun _ _ _ h => h) ?_ ?_ hHeld ?_; rotate_left 1; (· rfl); (· intro w' hSw; (try dsimp only at hSw); have c0 := cell_below c0 hSw; have c6 := cell_below c6 hSw; have c7 := cell_below c7 hSw; have d0 := cell_below d0 hSw; have d6 := cell_below d6 hSw; have d7 := cell_below d7 hSw; (try clear hHeld); go_simp; try with_reducible rfl)
  try simp only [zp1, zp3, zp4, zp5]
  refine rg_call (i := 4) (atS (atS (atS (atS at0)))) (by kernel_rfl) ?_ (fun K hK => ?_); (· rfl); (try clear hb); go_simp; (refine (calls_below (cmpc_CompareAddr a.id b.id _)).mono ?_; rintro e w1 ⟨rfl, hb⟩); go_wp2_with fail; refine hK.out _ _ ?_ (fun hHeld => ?_); (· first | exact hHeld.trans (hb.mono hHeld.size) | exact hHeld.alloc hHeld.size _); clear hK K
  try simp only [zp1, zp3, zp4, zp5]
  refine rg_call (i := 9) (atS (atS (atS (atS (atS (atS (atS (atS (atS at0))))))))) (by kernel_rfl) ?_ (fun K hK => ?_); (· rfl); (try clear hb); go_simp; (refine (calls_below (cmpc_CompareInt _ _ _)).mono ?_; rintro e w1 ⟨rfl, hb⟩); go_wp2_with fail; refine hK.out _ _ ?_ (fun hHeld => ?_); (· first | exact hHeld.trans (hb.mono hHeld.size) | exact hHeld.alloc hHeld.size _); clear hK K
  try simp only [zp1, zp3, zp4, zp5]
  refine rg_call (i := 14) (atS (atS (atS (atS (atS (atS (atS (atS (atS (atS (atS (atS (atS (atS at0)))))))))))))) (by kernel_rfl) ?_ (fun K hK => ?_); (· rfl); (try clear hb); go_simp; (refine (calls_below (cmpc_CompareInt _ _ _)).mono ?_; rintro e w1 ⟨rfl, hb⟩); go_wp2_with fail; refine hK.out _ _ ?_ (fun hHeld => ?_); (· first | exact hHeld.trans (hb.mono hHeld.size) | exact hHeld.alloc hHeld.size _); clear hK K
  try simp only [zp1, zp3, zp4, zp5]
  refine rg_call (i := 15) (atS (atS (atS (atS (atS (atS (atS (atS (atS (atS (atS (atS (atS (atS (atS at0))))))))))))))) (by kernel_rfl) ?_ (fun K hK => ?_); (· rfl); (try clear hb); go_simp; go_wp2_with fail; refine hK.out _ _ ?_ (fun hHeld => ?_); (· first | exact hHeld.trans (hb.mono hHeld.size) | exact hHeld.alloc hHeld.size _); clear hK K
  try simp only [zp1, zp3, zp4, zp5]
  refine rg_call (i := 16) (atS (atS (atS (atS (atS (atS (atS (atS (atS (atS (atS (atS (atS (atS (atS (atS at0)))))))))))))))) (by kernel_rfl) ?_ (fun K hK => ?_); (· rfl); (try clear hb); go_simp; (refine (calls_below (cmp_OrInt3 _ 3 (cmpIc a.id b.id) (cmpIc a.peer b.peer) (cmpIc a.place b.place) _ (by simp) (by simp) (by simp))).mono ?_; rintro e w1 ⟨rfl, hb⟩); go_wp2_with fail; refine hK.out _ _ ?_ (fun hHeld => ?_); (· first | exact hHeld.trans (hb.mono hHeld.size) | exact hHeld.alloc hHeld.size _); clear hK K
  try simp only [zp1, zp3, zp4, zp5]
  refine rg_yes (i := 17) (v := ?_) (atS (atS (atS (atS (atS (atS (atS (atS (atS (atS (atS (atS (atS (atS (atS (atS (atS at0))))))))))))))))) (by kernel_rfl) (by kernel_rfl) (by kernel_rfl) (fun _ _ _ h => h) ?_ ?_ hHeld ?_; rotate_left 1; (· rfl); (· intro w' hSw; (try dsimp only at hSw); (try clear hHeld); go_simp; try with_reducible rfl)
  try simp only [zp1, zp3, zp4, zp5]
  refine wpAnyH_done (by kernel_rfl) ?_ _
  have hB' := below_on hB hHeld
  clear hHeld hb
  go_wp2
  go_ret
  exact ⟨ret_int rfl, hB'⟩
end Go.Proofs.YtkoidahgbbabiaaGreat
