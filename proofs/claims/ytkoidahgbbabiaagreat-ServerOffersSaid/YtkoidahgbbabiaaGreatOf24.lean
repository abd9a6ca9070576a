/- Texts of one proof, one behind another. -/
import Derived.Test.YtkoidahgbbabiaaGreatOf23
import Derived.Test.YtkoidahgbbabiaaGreatOf1
/-
  THE SERVER: whether a participant's route goes to another one; whether two routes are one.
-/
namespace Go.Proofs.YtkoidahgbbabiaaGreat
open Go.RowKit
def sameBE (x y : BE) : Bool := x.peer == y.peer && (decide (x.p = y.p) && sameA x.a y.a)
theorem sameBE_iff {x y : BE} : sameBE x y = true ↔ x.peer = y.peer ∧ x.p = y.p ∧ x.a = y.a := by
  unfold sameBE
  simp [sameA_iff]
set_option maxHeartbeats 1600000 in
set_option maxRecDepth 100000 in
theorem l_same14 (x y : BE) (w : World) (hx : AvAt w x.a x.v) (hy : AvAt w y.a y.v) : Calls Tryz.prog 29 #[.agg (rtC x.peer x.p x.v), .agg (rtC y.peer y.p y.v)] w fun e w' => e = .returned (.bool (sameBE x y)) ∧ Below w.heap.size w w' := by
  have SM := Lib.hid (fun W (hb : Below w.heap.size w W) => av_Same x.a y.a x.v y.v W (hx.below hb) (hy.below hb))
  clear hx hy
  go_enter Tryz.func29, Tryz.ntmps29
  go_upto_region 1 with (fail)
  obtain ⟨W0, hW0, q0, q1, hB⟩ := boxTwo w (rtC x.peer x.p x.v) 61 (rtC y.peer y.p y.v) 61
  rw [← hW0]
  have x0 : W0.cell? ⟨w.heap.size, 0, none⟩ = some (.int .i64 x.peer) := row_cell q0 0
  have x1 : W0.cell? ⟨w.heap.size, 1, none⟩ = some (.int .u32 x.p.1) := row_cell q0 1
  have x2 : W0.cell? ⟨w.heap.size, 2, none⟩ = some (.int .i64 x.p.2) := row_cell q0 2
  have y0 : W0.cell? ⟨w.heap.size + 1, 0, none⟩ = some (.int .i64 y.peer) := row_cell q1 0
  have y1 : W0.cell? ⟨w.heap.size + 1, 1, none⟩ = some (.int .u32 y.p.1) := row_cell q1 1
  have y2 : W0.cell? ⟨w.heap.size + 1, 2, none⟩ = some (.int .i64 y.p.2) := row_cell q1 2
  have RX := Lib.hid (rt_range q0)
  have RY := Lib.hid (rt_range q1)
  have B0 := Lib.hid hB
  obtain ⟨b0, hb0⟩ : ∃ b, b = w.heap.size := ⟨_, rfl⟩
  obtain ⟨b1, hb1⟩ : ∃ b, b = w.heap.size + 1 := ⟨_, rfl⟩
  rw [← hb1, ← hb0]
  rw [← hb1] at y0 y1 y2 RY
  rw [← hb0] at x0 x1 x2 RX
  clear hW0 q0 q1 hB hb0 hb1
  by_cases h1 : x.peer = y.peer
  · have e1 : (x.peer == y.peer) = true := by simpa using h1
    have e2 : (x.peer = y.peer) = True := eq_true h1
    by_cases h2 : x.p = y.p
    · have e3 : (x.p.1 == y.p.1 && x.p.2 == y.p.2) = true := by rw [h2]; simp
      have e4 : x.p.1 == y.p.1 := by rw [h2]; simp
      have e5 : x.p.2 == y.p.2 := by rw [h2]; simp
      have SV : Hid (sameBE x y = sameA x.a y.a) := Lib.hid (by unfold sameBE; rw [e1, decide_eq_true h2]; rfl)
      clear h1 h2
      go_wp2_with ((with_reducible refine halt_at (X := .load 42 (.tmp 18)) ?_ ?_); (· rfl))
      unfold Halt
      refine ldm_at (by rfl) 42 (.tmp 18) rfl b0 3 rfl x.v.C.toList _ RX.out Tryz.underlying42 rfl sz_avS ?_
      go_wp2_with ((with_reducible refine halt_at (X := .load 42 (.tmp 20)) ?_ ?_); (· rfl))
      unfold Halt
      refine ldm_at (by rfl) 42 (.tmp 20) rfl b1 3 rfl y.v.C.toList _ RY.out Tryz.underlying42 rfl sz_avS ?_
      go_wp2_with fail
      refine (SM.out W0 B0.out).mono ?_
      rintro e w1 ⟨rfl, hb⟩
      have B1 := Lib.hid (below_on B0.out hb)
      clear hb SM x0 x1 x2 y0 y1 y2 e3
      go_wp2_with fail
      go_ret
      exact ⟨by rw [SV.out]; rfl, B1.out⟩
    · have e3 : (x.p.1 == y.p.1 && x.p.2 == y.p.2) = false := by
        rw [Bool.eq_false_iff]
        intro h
        simp at h
        exact h2 (Prod.ext h.1 h.2)
      have SV : Hid (sameBE x y = false) := Lib.hid (by unfold sameBE; rw [decide_eq_false h2]; simp)
      clear h1 h2
      go_wp2_with fail
      go_ret
      exact ⟨by rw [SV.out]; rfl, B0.out⟩
  · have e1 : (x.peer == y.peer) = false := by simpa using h1
    have e2 : (x.peer = y.peer) = False := eq_false h1
    have SV : Hid (sameBE x y = false) := Lib.hid (by unfold sameBE; rw [e1]; rfl)
    clear h1
    go_wp2_with fail
    go_ret
    exact ⟨by rw [SV.out]; rfl, B0.out⟩
def goesS (own : Int) (bl : Nat → Bool) (R : Rts) (i j : Nat) (t : Int) (p : Pf) : Bool := match getL R p with | none => false | some a => goesB own bl a i j t
section
variable {W : World} {rho : Nat → Role} {sb fb : Nat} {ls : List Pl} {S : Sv}
set_option maxHeartbeats 6400000 in
set_option maxRecDepth 100000 in
theorem sv_Goes (h : SrvM W rho sb fb ls S) {i j : Nat} {m n : Pm} (hm : S.ms[i]? = some m) (hn : S.ms[j]? = some n) (p : Pf) (hp : OkP p) :
    Calls Tryz.prog 31 #[.pointer (some ⟨sb, 0, none⟩), .int .i64 i, .int .i64 j, .agg #[.int .u32 p.1, .int .i64 p.2]] W fun e w' => e = .returned (.bool (goesS S.own S.bl m.R i j n.as_ p)) ∧ Below W.heap.size W w' := by
  obtain ⟨l, hl, hM⟩ := h.get hm
  obtain ⟨l2, hl2, hM2⟩ := h.get hn
  obtain ⟨s, cap, -, cf, -⟩ := h.cells
  have few := h.bod.few
  have hi : i < 16 := by have := (List.getElem?_eq_some_iff.1 hm).1; omega
  have hj : j < 16 := by have := (List.getElem?_eq_some_iff.1 hn).1; omega
  have HIJ := Lib.hid (And.intro hi hj)
  have m3 : W.cell? ⟨l.mb, 3, none⟩ = some (.pointer (some ⟨l.rb, 0, none⟩)) := row_cell hM.row 3
  have mas : W.cell? ⟨l2.mb, 0, none⟩ = some (.int .i64 n.as_) := row_cell hM2.row 0
  have MB := Lib.hid (fun w' (hb : Below W.heap.size W w') => sv_member (h.below hb) hl)
  have MB2 := Lib.hid (fun w' (hb : Below W.heap.size W w') => sv_member (h.below hb) hl2)
  have GT := Lib.hid (fun w' (hb : Below W.heap.size W w') => ad_Get p w' (hM.rib.below hb) hp)
  have FL := Lib.hid (fun w' (hb : Below W.heap.size W w') => (h.below hb).bod.fil)
  have M3 := Lib.hid m3
  have MAS := Lib.hid mas
  have CF := Lib.hid cf
  clear h hm hn hl hl2 hM hM2 hp m3 mas cf hi hj few
  obtain ⟨t, ht⟩ : ∃ t, n.as_ = t := ⟨_, rfl⟩
  rw [ht] at MAS ⊢
  clear ht
  go_enter Tryz.func31, Tryz.ntmps31
  go_upto_region 1 with (fail)
  obtain ⟨W0, hW0, p0, p1, hB⟩ := box2 W (.int .u32 p.1) (.int .i64 p.2) 53
  rw [← hW0]
  obtain ⟨pb, hpb⟩ : ∃ pb, pb = W.heap.size := ⟨_, rfl⟩
  rw [← hpb] at p0 p1 ⊢
  have B0 := Lib.hid hB
  have m3 := cell_below M3.out hB
  have mas := cell_below MAS.out hB
  have f1 := cell_below CF.out hB
  have GT0 := Lib.hid (fun w' (hb : Below W0.heap.size W0 w') => GT.out w' (below_on B0.out hb))
  clear hW0 hB hpb GT M3
  go_wp2_with fail
  refine (MB.out _ B0.out).mono ?_
  rintro e w1 ⟨rfl, rfl⟩
  go_wp2_with fail
  refine (MB2.out _ B0.out).mono ?_
  rintro e w1 ⟨rfl, rfl⟩
  go_upto_region 4 with (fail)
  cases hg : getL m.R p with
  | none =>
    have GN : Hid (∀ w', Below W0.heap.size W0 w' → Calls Tryz.prog 75 #[.pointer (some ⟨l.rb, 0, none⟩), .agg #[.int .u32 p.1, .int .i64 p.2]] w' fun e w2 => e = .returned (.tuple #[.agg (rtC 0 (0, 0) av0), .bool false]) ∧ Below w'.heap.size w' w2) := Lib.hid (fun w' hb => (GT0.out w' hb).mono fun e w2 h => by
      rcases h with ⟨-, h1, h2⟩ | ⟨a, v, h1, -⟩
      · exact ⟨h1, h2⟩
      · rw [hg] at h1; cases h1)
    have SV : Hid (goesS S.own S.bl m.R i j t p = false) := Lib.hid (by unfold goesS; rw [hg])
    clear hg GT0
    go_cut [11, 12] from 25 to 33 (fun s11 s12 wx => s12 = .bool false ∧ Hid (Below W0.heap.size W0 wx))
    case first =>
      refine wp_region_held_drew (S := fun w' => Below W0.heap.size W0 w') (by kernel_rfl) ?_ (fun hHeld => ?_)
      · exact (Below.refl _ _).drew
      generalize World.drew W0 = wd at hHeld ⊢
      refine qy 0 ?_ ?_ ?_ hHeld ?_; rotate_left 1; (· rfl); (· intro w' hSw; (try clear hHeld); go_simp; try with_reducible rfl)
      try simp only [zp1, zp3, zp4, zp5]
      refine qy 4 ?_ ?_ ?_ hHeld ?_; rotate_left 1; (· rfl); (· intro w' hSw; have p0 := cell_below p0 hSw; have p1 := cell_below p1 hSw; have m3 := cell_below m3 hSw; (try clear hHeld); go_simp; try with_reducible rfl)
      try simp only [zp1, zp3, zp4, zp5]
      refine rg_call2 (i := 1) (j := 9) (atS at0) (atS (atS (atS (atS (atS (atS (atS (atS (atS at0))))))))) (by kernel_rfl) ?_ ?_ (fun K hK => ?_) (fun K hK => ?_)
      · rfl
      · rfl
      · (try clear hb); go_simp; go_wp2_with fail; refine hK.out _ _ ?_ (fun hHeld => ?_); (· exact hHeld); clear hK K
        try simp only [zp1, zp3, zp4, zp5]
        refine qy 2 ?_ ?_ ?_ hHeld ?_; rotate_left 1; (· rfl); (· intro w' hSw; (try clear hHeld); go_simp; try with_reducible rfl)
        try simp only [zp1, zp3, zp4, zp5]
        refine qy 3 ?_ ?_ ?_ hHeld ?_; rotate_left 1; (· rfl); (· intro w' hSw; have p0 := cell_below p0 hSw; have p1 := cell_below p1 hSw; have m3 := cell_below m3 hSw; (try clear hHeld); go_simp; try with_reducible rfl)
        try simp only [zp1, zp3, zp4, zp5]
        refine rg_call2 (i := 5) (j := 9) (atS (atS (atS (atS (atS at0))))) (atS (atS (atS (atS (atS (atS (atS (atS (atS at0))))))))) (by kernel_rfl) ?_ ?_ (fun K hK => ?_) (fun K hK => ?_)
        · rfl
        · rfl
        · (try clear hb); go_simp; (refine (GN.out _ hHeld).mono ?_; rintro e w1 ⟨rfl, hb⟩); (try replace hz := (hb.block _ (row_lt hz)).trans hz); go_wp2_with fail; refine hK.out _ _ ?_ (fun hHeld => ?_); (· exact hHeld.trans (hb.mono hHeld.size)); clear hK K
          try simp only [zp1, zp3, zp4, zp5]
          refine qy 6 ?_ ?_ ?_ hHeld ?_; rotate_left 1; (· rfl); (· intro w' hSw; (try clear hHeld); go_simp; try with_reducible rfl)
          try simp only [zp1, zp3, zp4, zp5]
          refine qy 7 ?_ ?_ ?_ hHeld ?_; rotate_left 1; (· rfl); (· intro w' hSw; (try clear hHeld); go_simp; try with_reducible rfl)
          try simp only [zp1, zp3, zp4, zp5]
          refine qy 8 ?_ ?_ ?_ hHeld ?_; rotate_left 1; (· rfl); (· intro w' hSw; (try clear hHeld); go_simp; try with_reducible rfl)
          try simp only [zp1, zp3, zp4, zp5]
          refine rg_call (i := 9) (atN rfl) (by kernel_rfl) ?_ (fun K hK => ?_); (· rfl); (try clear hb); go_simp; refine box_zrt (p := K _) ?_; intro w1 hz hb; have hgs := hHeld.size; refine hK.out _ _ ?_ (fun hHeld => ?_); (· exact below_on hHeld hb); clear hK K
          try simp only [zp1, zp3, zp4, zp5]
          refine rg_call (i := 10) (atN rfl) (by kernel_rfl) ?_ (fun K hK => ?_); (· rfl); (try clear hb); refine wp_store_rowat 61 (.tmp 11) (.tmp 32) rfl _ rfl 61 (rtC 0 (0, 0) av0) _ rfl hz (by kernel_rfl) rfl (rt_one _ _ _) ?_; refine setRow_k hz (p := K _) ?_; intro w2 hr hk2; refine hK.out _ _ ?_ (fun hHeld => ?_); (· exact hHeld.trans (hk2.below hHeld.size (by rintro k rfl; exact hgs))); clear hK K
          try simp only [Act.put]
          refine qy 11 ?_ ?_ ?_ hHeld ?_; rotate_left 1; (· rfl); (· intro w' hSw; (try clear hHeld); go_simp; try with_reducible rfl)
          try simp only [zp1, zp3, zp4, zp5]
          refine wpAnyH_done (by kernel_rfl) ?_ _
          go_wp2_with fail
          go_meet
          exact ⟨rfl, Lib.hid hHeld⟩
        · (try clear hb); go_simp; refine box_zrt (p := K _) ?_; intro w1 hz hb; have hgs := hHeld.size; refine hK.out _ _ ?_ (fun hHeld => ?_); (· exact below_on hHeld hb); clear hK K
          try simp only [zp1, zp3, zp4, zp5]
          refine rg_call (i := 5) (atN rfl) (by kernel_rfl) ?_ (fun K hK => ?_); (· rfl); (try clear hb); go_simp; (refine (GN.out _ hHeld).mono ?_; rintro e w1 ⟨rfl, hb⟩); (try replace hz := (hb.block _ (row_lt hz)).trans hz); go_wp2_with fail; refine hK.out _ _ ?_ (fun hHeld => ?_); (· exact hHeld.trans (hb.mono hHeld.size)); clear hK K
          try simp only [zp1, zp3, zp4, zp5]
          refine qy 6 ?_ ?_ ?_ hHeld ?_; rotate_left 1; (· rfl); (· intro w' hSw; (try clear hHeld); go_simp; try with_reducible rfl)
          try simp only [zp1, zp3, zp4, zp5]
          refine qy 7 ?_ ?_ ?_ hHeld ?_; rotate_left 1; (· rfl); (· intro w' hSw; (try clear hHeld); go_simp; try with_reducible rfl)
          try simp only [zp1, zp3, zp4, zp5]
          refine qy 8 ?_ ?_ ?_ hHeld ?_; rotate_left 1; (· rfl); (· intro w' hSw; (try clear hHeld); go_simp; try with_reducible rfl)
          try simp only [zp1, zp3, zp4, zp5]
          refine rg_call (i := 10) (atN rfl) (by kernel_rfl) ?_ (fun K hK => ?_); (· rfl); (try clear hb); refine wp_store_rowat 61 (.tmp 11) (.tmp 32) rfl _ rfl 61 (rtC 0 (0, 0) av0) _ rfl hz (by kernel_rfl) rfl (rt_one _ _ _) ?_; refine setRow_k hz (p := K _) ?_; intro w2 hr hk2; refine hK.out _ _ ?_ (fun hHeld => ?_); (· exact hHeld.trans (hk2.below hHeld.size (by rintro k rfl; exact hgs))); clear hK K
          try simp only [Act.put]
          refine qy 11 ?_ ?_ ?_ hHeld ?_; rotate_left 1; (· rfl); (· intro w' hSw; (try clear hHeld); go_simp; try with_reducible rfl)
          try simp only [zp1, zp3, zp4, zp5]
          refine wpAnyH_done (by kernel_rfl) ?_ _
          go_wp2_with fail
          go_meet
          exact ⟨rfl, Lib.hid hHeld⟩
      · (try clear hb); go_simp; refine box_zrt (p := K _) ?_; intro w1 hz hb; have hgs := hHeld.size; refine hK.out _ _ ?_ (fun hHeld => ?_); (· exact below_on hHeld hb); clear hK K
        try simp only [zp1, zp3, zp4, zp5]
        refine rg_call (i := 1) (atN rfl) (by kernel_rfl) ?_ (fun K hK => ?_); (· rfl); (try clear hb); go_simp; go_wp2_with fail; refine hK.out _ _ ?_ (fun hHeld => ?_); (· exact hHeld); clear hK K
        try simp only [zp1, zp3, zp4, zp5]
        refine qy 2 ?_ ?_ ?_ hHeld ?_; rotate_left 1; (· rfl); (· intro w' hSw; (try clear hHeld); go_simp; try with_reducible rfl)
        try simp only [zp1, zp3, zp4, zp5]
        refine qy 3 ?_ ?_ ?_ hHeld ?_; rotate_left 1; (· rfl); (· intro w' hSw; have p0 := cell_below p0 hSw; have p1 := cell_below p1 hSw; have m3 := cell_below m3 hSw; (try clear hHeld); go_simp; try with_reducible rfl)
        try simp only [zp1, zp3, zp4, zp5]
        refine rg_call (i := 5) (atN rfl) (by kernel_rfl) ?_ (fun K hK => ?_); (· rfl); (try clear hb); go_simp; (refine (GN.out _ hHeld).mono ?_; rintro e w1 ⟨rfl, hb⟩); (try replace hz := (hb.block _ (row_lt hz)).trans hz); go_wp2_with fail; refine hK.out _ _ ?_ (fun hHeld => ?_); (· exact hHeld.trans (hb.mono hHeld.size)); clear hK K
        try simp only [zp1, zp3, zp4, zp5]
        refine qy 6 ?_ ?_ ?_ hHeld ?_; rotate_left 1; (· rfl); (· intro w' hSw; (try clear hHeld); go_simp; try with_reducible rfl)
        try simp only [zp1, zp3, zp4, zp5]
        refine qy 7 ?_ ?_ ?_ hHeld ?_; rotate_left 1; (· rfl); (· intro w' hSw; (try clear hHeld); go_simp; try with_reducible rfl)
        try simp only [zp1, zp3, zp4, zp5]
        refine qy 8 ?_ ?_ ?_ hHeld ?_; rotate_left 1; (· rfl); (· intro w' hSw; (try clear hHeld); go_simp; try with_reducible rfl)
        try simp only [zp1, zp3, zp4, zp5]
        refine rg_call (i := 10) (atN rfl) (by kernel_rfl) ?_ (fun K hK => ?_); (· rfl); (try clear hb); refine wp_store_rowat 61 (.tmp 11) (.tmp 32) rfl _ rfl 61 (rtC 0 (0, 0) av0) _ rfl hz (by kernel_rfl) rfl (rt_one _ _ _) ?_; refine setRow_k hz (p := K _) ?_; intro w2 hr hk2; refine hK.out _ _ ?_ (fun hHeld => ?_); (· exact hHeld.trans (hk2.below hHeld.size (by rintro k rfl; exact hgs))); clear hK K
        try simp only [Act.put]
        refine qy 11 ?_ ?_ ?_ hHeld ?_; rotate_left 1; (· rfl); (· intro w' hSw; (try clear hHeld); go_simp; try with_reducible rfl)
        try simp only [zp1, zp3, zp4, zp5]
        refine wpAnyH_done (by kernel_rfl) ?_ _
        go_wp2_with fail
        go_meet
        exact ⟨rfl, Lib.hid hHeld⟩
    case rest =>
      obtain ⟨rfl, HH⟩ := hcut
      obtain ⟨wd, hwd⟩ : ∃ wd : World, wd = wc := ⟨_, rfl⟩
      rw [← hwd] at HH ⊢
      have BV := Lib.hid (below_on B0.out HH.out)
      clear hwd HH p0 p1 m3 mas f1
      go_upto_region 5 with (fail)
      refine wp_region_held_drew (S := fun w' => Below wd.heap.size wd w') (by kernel_rfl) ?_ (fun hHeld => ?_)
      · exact (Below.refl _ _).drew
      generalize World.drew wd = wz at hHeld ⊢
      refine qy 0 ?_ ?_ ?_ hHeld ?_; rotate_left 1; (· rfl); (· intro w' hSw; (try clear hHeld); go_simp; try with_reducible rfl)
      try simp only [zp1, zp3, zp4, zp5]
      refine qy 1 ?_ ?_ ?_ hHeld ?_; rotate_left 1; (· rfl); (· intro w' hSw; (try clear hHeld); go_simp; try with_reducible rfl)
      try simp only [zp1, zp3, zp4, zp5]
      refine rgn (i := 2) (atN rfl) (by kernel_rfl) (fun _ _ _ h => h) ?_ hHeld ?_; (· rfl)
      try simp only [zp1, zp3, zp4, zp5]
      refine rgn (i := 3) (atN rfl) (by kernel_rfl) (fun _ _ _ h => h) ?_ hHeld ?_; (· rfl)
      try simp only [zp1, zp3, zp4, zp5]
      refine rgn (i := 4) (atN rfl) (by kernel_rfl) (fun _ _ _ h => h) ?_ hHeld ?_; (· rfl)
      try simp only [zp1, zp3, zp4, zp5]
      refine rgn (i := 5) (atN rfl) (by kernel_rfl) (fun _ _ _ h => h) ?_ hHeld ?_; (· rfl)
      try simp only [zp1, zp3, zp4, zp5]
      refine rgn (i := 6) (atN rfl) (by kernel_rfl) (fun _ _ _ h => h) ?_ hHeld ?_; (· rfl)
      try simp only [zp1, zp3, zp4, zp5]
      refine rgn (i := 7) (atN rfl) (by kernel_rfl) (fun _ _ _ h => h) ?_ hHeld ?_; (· rfl)
      try simp only [zp1, zp3, zp4, zp5]
      refine rgn (i := 8) (atN rfl) (by kernel_rfl) (fun _ _ _ h => h) ?_ hHeld ?_; (· rfl)
      try simp only [zp1, zp3, zp4, zp5]
      refine rgn (i := 9) (atN rfl) (by kernel_rfl) (fun _ _ _ h => h) ?_ hHeld ?_; (· rfl)
      try simp only [zp1, zp3, zp4, zp5]
      refine rgn (i := 10) (atN rfl) (by kernel_rfl) (fun _ _ _ h => h) ?_ hHeld ?_; (· rfl)
      try simp only [zp1, zp3, zp4, zp5]
      refine rgn (i := 11) (atN rfl) (by kernel_rfl) (fun _ _ _ h => h) ?_ hHeld ?_; (· rfl)
      try simp only [zp1, zp3, zp4, zp5]
      refine rgn (i := 12) (atN rfl) (by kernel_rfl) (fun _ _ _ h => h) ?_ hHeld ?_; (· rfl)
      try simp only [zp1, zp3, zp4, zp5]
      refine rgn (i := 13) (atN rfl) (by kernel_rfl) (fun _ _ _ h => h) ?_ hHeld ?_; (· rfl)
      try simp only [zp1, zp3, zp4, zp5]
      refine rgn (i := 14) (atN rfl) (by kernel_rfl) (fun _ _ _ h => h) ?_ hHeld ?_; (· rfl)
      try simp only [zp1, zp3, zp4, zp5]
      refine rgn (i := 15) (atN rfl) (by kernel_rfl) (fun _ _ _ h => h) ?_ hHeld ?_; (· rfl)
      try simp only [zp1, zp3, zp4, zp5]
      refine qy 16 ?_ ?_ ?_ hHeld ?_; rotate_left 1; (· rfl); (· intro w' hSw; (try clear hHeld); go_simp; try with_reducible rfl)
      try simp only [zp1, zp3, zp4, zp5]
      refine qy 17 ?_ ?_ ?_ hHeld ?_; rotate_left 1; (· rfl); (· intro w' hSw; (try clear hHeld); go_simp; try with_reducible rfl)
      try simp only [zp1, zp3, zp4, zp5]
      refine wpAnyH_done (by kernel_rfl) ?_ _
      have BV2 := Lib.hid (below_on BV.out hHeld)
      clear hHeld
      go_wp2_with fail
      go_ret
      exact ⟨by rw [SV.out]; rfl, BV2.out⟩
  | some a =>
    have GN : Hid (∀ w', Below W0.heap.size W0 w' → Calls Tryz.prog 75 #[.pointer (some ⟨l.rb, 0, none⟩), .agg #[.int .u32 p.1, .int .i64 p.2]] w' fun e w2 => ∃ v : AV, e = .returned (.tuple #[.agg (rtC i p v), .bool true]) ∧ Fresh w'.heap.size w2 (fun W => AvAt W a v) ∧ Below w'.heap.size w' w2) := Lib.hid (fun w' hb => (GT0.out w' hb).mono fun e w2 h => by
      rcases h with ⟨h1, -⟩ | ⟨b, v, h1, h2, -, h4, h5⟩
      · rw [hg] at h1; cases h1
      · rw [hg] at h1
        injection h1 with h1
        subst h1
        exact ⟨v, h2, h4.imp fun _ h => h.at, h5⟩)
    have SV : Hid (goesS S.own S.bl m.R i j t p = goesB S.own S.bl a i j t) := Lib.hid (by unfold goesS; rw [hg])
    clear hg GT0
    go_cut [11, 12] from 25 to 33 (fun s8 s9 wx => ∃ (g8 : Nat) (v : AV) (lo : Nat), s8 = .pointer (some ⟨g8, 0, none⟩) ∧ s9 = .bool true ∧ Hid (Below W0.heap.size W0 wx ∧ wx.heap[g8]? = some (.cells (rtC i p v) 61 (0, 0)) ∧ W0.heap.size ≤ lo ∧ Fresh lo wx (fun W => AvAt W a v) ∧ W0.heap.size ≤ g8))
    case first =>
      refine wp_region_held_drew (S := fun w' => Below W0.heap.size W0 w') (by kernel_rfl) ?_ (fun hHeld => ?_)
      · exact (Below.refl _ _).drew
      generalize World.drew W0 = wd at hHeld ⊢
      refine qy 0 ?_ ?_ ?_ hHeld ?_; rotate_left 1; (· rfl); (· intro w' hSw; (try clear hHeld); go_simp; try with_reducible rfl)
      try simp only [zp1, zp3, zp4, zp5]
      refine qy 4 ?_ ?_ ?_ hHeld ?_; rotate_left 1; (· rfl); (· intro w' hSw; have p0 := cell_below p0 hSw; have p1 := cell_below p1 hSw; have m3 := cell_below m3 hSw; (try clear hHeld); go_simp; try with_reducible rfl)
      try simp only [zp1, zp3, zp4, zp5]
      refine rg_call2 (i := 1) (j := 9) (atS at0) (atS (atS (atS (atS (atS (atS (atS (atS (atS at0))))))))) (by kernel_rfl) ?_ ?_ (fun K hK => ?_) (fun K hK => ?_)
      · rfl
      · rfl
      · (try clear hb); go_simp; go_wp2_with fail; refine hK.out _ _ ?_ (fun hHeld => ?_); (· exact hHeld); clear hK K
        try simp only [zp1, zp3, zp4, zp5]
        refine qy 2 ?_ ?_ ?_ hHeld ?_; rotate_left 1; (· rfl); (· intro w' hSw; (try clear hHeld); go_simp; try with_reducible rfl)
        try simp only [zp1, zp3, zp4, zp5]
        refine qy 3 ?_ ?_ ?_ hHeld ?_; rotate_left 1; (· rfl); (· intro w' hSw; have p0 := cell_below p0 hSw; have p1 := cell_below p1 hSw; have m3 := cell_below m3 hSw; (try clear hHeld); go_simp; try with_reducible rfl)
        try simp only [zp1, zp3, zp4, zp5]
        refine rg_call2 (i := 5) (j := 9) (atS (atS (atS (atS (atS at0))))) (atS (atS (atS (atS (atS (atS (atS (atS (atS at0))))))))) (by kernel_rfl) ?_ ?_ (fun K hK => ?_) (fun K hK => ?_)
        · rfl
        · rfl
        · (try clear hb); go_simp; have hlo := hHeld.size; (try have hzl := row_lt hz); refine (GN.out _ hHeld).mono ?_; rintro e wg ⟨v, rfl, fr0, hb⟩; have fr := fresh_hi fr0; clear fr0; (try replace hz := (hb.block _ (row_lt hz)).trans hz); go_wp2_with fail; refine hK.out _ _ ?_ (fun hHeld => ?_); (· exact below_on hHeld hb); clear hK K
          try simp only [zp1, zp3, zp4, zp5]
          refine qy 6 ?_ ?_ ?_ hHeld ?_; rotate_left 1; (· rfl); (· intro w' hSw; (try clear hHeld); go_simp; try with_reducible rfl)
          try simp only [zp1, zp3, zp4, zp5]
          refine qy 7 ?_ ?_ ?_ hHeld ?_; rotate_left 1; (· rfl); (· intro w' hSw; (try clear hHeld); go_simp; try with_reducible rfl)
          try simp only [zp1, zp3, zp4, zp5]
          refine qy 8 ?_ ?_ ?_ hHeld ?_; rotate_left 1; (· rfl); (· intro w' hSw; (try clear hHeld); go_simp; try with_reducible rfl)
          try simp only [zp1, zp3, zp4, zp5]
          refine rg_call (i := 9) (atN rfl) (by kernel_rfl) ?_ (fun K hK => ?_); (· rfl); (try clear hb); go_simp; refine box_zrt (p := K _) ?_; intro w1 hz hb1; have hgs := hHeld.size; (try replace fr := fr.below hb1); refine hK.out _ _ ?_ (fun hHeld => ?_); (· exact below_on hHeld hb1); clear hK K
          try simp only [zp1, zp3, zp4, zp5]
          refine rg_call (i := 10) (atN rfl) (by kernel_rfl) ?_ (fun K hK => ?_); (· rfl); (try clear hb); refine wp_store_rowat 61 (.tmp 11) (.tmp 32) rfl _ rfl 61 (rtC 0 (0, 0) av0) _ rfl hz (by kernel_rfl) rfl (rt_one _ _ _) ?_; have hfx := hgs; refine setRow_k hz (p := K _) ?_; intro w2 hr hk2; refine hK.out _ _ ?_ (fun hHeld => ?_); (· exact hHeld.trans (hk2.below hHeld.size (by rintro k rfl; exact hgs))); clear hK K
          try simp only [Act.put]
          refine qy 11 ?_ ?_ ?_ hHeld ?_; rotate_left 1; (· rfl); (· intro w' hSw; (try clear hHeld); go_simp; try with_reducible rfl)
          try simp only [zp1, zp3, zp4, zp5]
          refine wpAnyH_done (by kernel_rfl) ?_ _
          go_wp2_with fail
          go_meet
          exact ⟨_, v, _, rfl, rfl, Lib.hid ⟨hHeld, hr, hlo, (fr.kept hk2 (fun k' _ hl e => by omega)).wide (fun _ hk _ => hk.1), hgs⟩⟩
        · (try clear hb); go_simp; refine box_zrt (p := K _) ?_; intro w1 hz hb1; have hgs := hHeld.size; (try replace fr := fr.below hb1); refine hK.out _ _ ?_ (fun hHeld => ?_); (· exact below_on hHeld hb1); clear hK K
          try simp only [zp1, zp3, zp4, zp5]
          refine rg_call (i := 5) (atN rfl) (by kernel_rfl) ?_ (fun K hK => ?_); (· rfl); (try clear hb); go_simp; have hlo := hHeld.size; (try have hzl := row_lt hz); refine (GN.out _ hHeld).mono ?_; rintro e wg ⟨v, rfl, fr0, hb⟩; have fr := fresh_hi fr0; clear fr0; (try replace hz := (hb.block _ (row_lt hz)).trans hz); go_wp2_with fail; refine hK.out _ _ ?_ (fun hHeld => ?_); (· exact below_on hHeld hb); clear hK K
          try simp only [zp1, zp3, zp4, zp5]
          refine qy 6 ?_ ?_ ?_ hHeld ?_; rotate_left 1; (· rfl); (· intro w' hSw; (try clear hHeld); go_simp; try with_reducible rfl)
          try simp only [zp1, zp3, zp4, zp5]
          refine qy 7 ?_ ?_ ?_ hHeld ?_; rotate_left 1; (· rfl); (· intro w' hSw; (try clear hHeld); go_simp; try with_reducible rfl)
          try simp only [zp1, zp3, zp4, zp5]
          refine qy 8 ?_ ?_ ?_ hHeld ?_; rotate_left 1; (· rfl); (· intro w' hSw; (try clear hHeld); go_simp; try with_reducible rfl)
          try simp only [zp1, zp3, zp4, zp5]
          refine rg_call (i := 10) (atN rfl) (by kernel_rfl) ?_ (fun K hK => ?_); (· rfl); (try clear hb); refine wp_store_rowat 61 (.tmp 11) (.tmp 32) rfl _ rfl 61 (rtC 0 (0, 0) av0) _ rfl hz (by kernel_rfl) rfl (rt_one _ _ _) ?_; have hfx := hgs; refine setRow_k hz (p := K _) ?_; intro w2 hr hk2; refine hK.out _ _ ?_ (fun hHeld => ?_); (· exact hHeld.trans (hk2.below hHeld.size (by rintro k rfl; exact hgs))); clear hK K
          try simp only [Act.put]
          refine qy 11 ?_ ?_ ?_ hHeld ?_; rotate_left 1; (· rfl); (· intro w' hSw; (try clear hHeld); go_simp; try with_reducible rfl)
          try simp only [zp1, zp3, zp4, zp5]
          refine wpAnyH_done (by kernel_rfl) ?_ _
          go_wp2_with fail
          go_meet
          exact ⟨_, v, _, rfl, rfl, Lib.hid ⟨hHeld, hr, hlo, (fr.kept hk2 (fun k' _ hl e => by omega)).wide (fun _ hk _ => hk.1), hgs⟩⟩
      · (try clear hb); go_simp; refine box_zrt (p := K _) ?_; intro w1 hz hb1; have hgs := hHeld.size; (try replace fr := fr.below hb1); refine hK.out _ _ ?_ (fun hHeld => ?_); (· exact below_on hHeld hb1); clear hK K
        try simp only [zp1, zp3, zp4, zp5]
        refine rg_call (i := 1) (atN rfl) (by kernel_rfl) ?_ (fun K hK => ?_); (· rfl); (try clear hb); go_simp; go_wp2_with fail; refine hK.out _ _ ?_ (fun hHeld => ?_); (· exact hHeld); clear hK K
        try simp only [zp1, zp3, zp4, zp5]
        refine qy 2 ?_ ?_ ?_ hHeld ?_; rotate_left 1; (· rfl); (· intro w' hSw; (try clear hHeld); go_simp; try with_reducible rfl)
        try simp only [zp1, zp3, zp4, zp5]
        refine qy 3 ?_ ?_ ?_ hHeld ?_; rotate_left 1; (· rfl); (· intro w' hSw; have p0 := cell_below p0 hSw; have p1 := cell_below p1 hSw; have m3 := cell_below m3 hSw; (try clear hHeld); go_simp; try with_reducible rfl)
        try simp only [zp1, zp3, zp4, zp5]
        refine rg_call (i := 5) (atN rfl) (by kernel_rfl) ?_ (fun K hK => ?_); (· rfl); (try clear hb); go_simp; have hlo := hHeld.size; (try have hzl := row_lt hz); refine (GN.out _ hHeld).mono ?_; rintro e wg ⟨v, rfl, fr0, hb⟩; have fr := fresh_hi fr0; clear fr0; (try replace hz := (hb.block _ (row_lt hz)).trans hz); go_wp2_with fail; refine hK.out _ _ ?_ (fun hHeld => ?_); (· exact below_on hHeld hb); clear hK K
        try simp only [zp1, zp3, zp4, zp5]
        refine qy 6 ?_ ?_ ?_ hHeld ?_; rotate_left 1; (· rfl); (· intro w' hSw; (try clear hHeld); go_simp; try with_reducible rfl)
        try simp only [zp1, zp3, zp4, zp5]
        refine qy 7 ?_ ?_ ?_ hHeld ?_; rotate_left 1; (· rfl); (· intro w' hSw; (try clear hHeld); go_simp; try with_reducible rfl)
        try simp only [zp1, zp3, zp4, zp5]
        refine qy 8 ?_ ?_ ?_ hHeld ?_; rotate_left 1; (· rfl); (· intro w' hSw; (try clear hHeld); go_simp; try with_reducible rfl)
        try simp only [zp1, zp3, zp4, zp5]
        refine rg_call (i := 10) (atN rfl) (by kernel_rfl) ?_ (fun K hK => ?_); (· rfl); (try clear hb); refine wp_store_rowat 61 (.tmp 11) (.tmp 32) rfl _ rfl 61 (rtC 0 (0, 0) av0) _ rfl hz (by kernel_rfl) rfl (rt_one _ _ _) ?_; have hfx := hgs; refine setRow_k hz (p := K _) ?_; intro w2 hr hk2; refine hK.out _ _ ?_ (fun hHeld => ?_); (· exact hHeld.trans (hk2.below hHeld.size (by rintro k rfl; exact hgs))); clear hK K
        try simp only [Act.put]
        refine qy 11 ?_ ?_ ?_ hHeld ?_; rotate_left 1; (· rfl); (· intro w' hSw; (try clear hHeld); go_simp; try with_reducible rfl)
        try simp only [zp1, zp3, zp4, zp5]
        refine wpAnyH_done (by kernel_rfl) ?_ _
        go_wp2_with fail
        go_meet
        exact ⟨_, v, _, rfl, rfl, Lib.hid ⟨hHeld, hr, hlo, (fr.kept hk2 (fun k' _ hl e => by omega)).wide (fun _ hk _ => hk.1), hgs⟩⟩
    case rest =>
      obtain ⟨g8, v, lo, rfl, rfl, HH⟩ := hcut
      obtain ⟨wd, hwd⟩ : ∃ wd : World, wd = wc := ⟨_, rfl⟩
      rw [← hwd] at HH ⊢
      have RQ := Lib.hid (rt_range HH.out.2.1)
      have AV := Lib.hid HH.out.2.2.2.1.self
      have BV := Lib.hid (below_on B0.out HH.out.1)
      replace mas := cell_below mas HH.out.1
      replace f1 := cell_below f1 HH.out.1
      have GB := Lib.hid (fun w' (hb : Below wd.heap.size wd w') => av_Goes fb S.own S.bl a v i j t HIJ.out.1 HIJ.out.2 w' (FL.out w' (below_on BV.out hb)) (AV.out.below hb))
      obtain ⟨z, hz⟩ : ∃ z, goesB S.own S.bl a i j t = z := ⟨_, rfl⟩
      rw [hz] at GB SV
      clear hwd HH p0 p1 m3 hz
      go_upto_region 5 with (fail)
      refine wp_region_held_drew (S := fun w' => Below wd.heap.size wd w') (by kernel_rfl) ?_ (fun hHeld => ?_)
      · exact (Below.refl _ _).drew
      generalize World.drew wd = wz at hHeld ⊢
      refine qy 0 ?_ ?_ ?_ hHeld ?_; rotate_left 1; (· rfl); (· intro w' hSw; (try clear hHeld); go_simp; try with_reducible rfl)
      try simp only [zp1, zp3, zp4, zp5]
      refine qy 1 ?_ ?_ ?_ hHeld ?_; rotate_left 1; (· rfl); (· intro w' hSw; (try clear hHeld); go_simp; try with_reducible rfl)
      try simp only [zp1, zp3, zp4, zp5]
      first | (refine rgn (i := 2) (atN rfl) (by kernel_rfl) (fun _ _ _ h => h) ?_ hHeld ?_; (· rfl)) | (refine qy 2 ?_ ?_ ?_ hHeld ?_; rotate_left 1; (· rfl); (· intro w' hSw; (try clear hHeld); go_simp; try with_reducible rfl))
      try simp only [zp1, zp3, zp4, zp5]
      first | (refine rgn (i := 3) (atN rfl) (by kernel_rfl) (fun _ _ _ h => h) ?_ hHeld ?_; (· rfl)) | (refine qy 3 ?_ ?_ ?_ hHeld ?_; rotate_left 1; (· rfl); (· intro w' hSw; (try clear hHeld); go_simp; try with_reducible rfl))
      try simp only [zp1, zp3, zp4, zp5]
      first | (refine rgn (i := 4) (atN rfl) (by kernel_rfl) (fun _ _ _ h => h) ?_ hHeld ?_; (· rfl)) | (refine qy 4 ?_ ?_ ?_ hHeld ?_; rotate_left 1; (· rfl); (· intro w' hSw; (try clear hHeld); go_simp; try with_reducible rfl))
      try simp only [zp1, zp3, zp4, zp5]
      first | (refine rgn (i := 5) (atN rfl) (by kernel_rfl) (fun _ _ _ h => h) ?_ hHeld ?_; (· rfl)) | (refine qy 5 ?_ ?_ ?_ hHeld ?_; rotate_left 1; (· rfl); (· intro w' hSw; have f1 := cell_below f1 hSw; have mas := cell_below mas hSw; (try clear hHeld); go_simp; try with_reducible rfl))
      try simp only [zp1, zp3, zp4, zp5]
      first | (refine rgn (i := 6) (atN rfl) (by kernel_rfl) (fun _ _ _ h => h) ?_ hHeld ?_; (· rfl)) | (refine qy 6 ?_ ?_ ?_ hHeld ?_; rotate_left 1; (· rfl); (· intro w' hSw; (try clear hHeld); go_simp; try with_reducible rfl))
      try simp only [zp1, zp3, zp4, zp5]
      first | (refine rgn (i := 7) (atN rfl) (by kernel_rfl) (fun _ _ _ h => h) ?_ hHeld ?_; (· rfl)) | (refine qy 7 ?_ ?_ ?_ hHeld ?_; rotate_left 1; (· rfl); (· intro w' hSw; refine exec_ldm 42 (.tmp 40) ?_ g8 3 ?_ v.C.toList _ (fun q u hq => cell_below (RQ.out q u hq) hSw) Tryz.underlying42 rfl sz_avS <;> rfl))
      try simp only [zp1, zp3, zp4, zp5]
      first | (refine rgn (i := 8) (atN rfl) (by kernel_rfl) (fun _ _ _ h => h) ?_ hHeld ?_; (· rfl)) | (refine qy 8 ?_ ?_ ?_ hHeld ?_; rotate_left 1; (· rfl); (· intro w' hSw; (try clear hHeld); go_simp; try with_reducible rfl))
      try simp only [zp1, zp3, zp4, zp5]
      first | (refine rgn (i := 9) (atN rfl) (by kernel_rfl) (fun _ _ _ h => h) ?_ hHeld ?_; (· rfl)) | (refine qy 9 ?_ ?_ ?_ hHeld ?_; rotate_left 1; (· rfl); (· intro w' hSw; (try clear hHeld); go_simp; try with_reducible rfl))
      try simp only [zp1, zp3, zp4, zp5]
      first | (refine rgn (i := 10) (atN rfl) (by kernel_rfl) (fun _ _ _ h => h) ?_ hHeld ?_; (· rfl)) | (refine qy 10 ?_ ?_ ?_ hHeld ?_; rotate_left 1; (· rfl); (· intro w' hSw; (try clear hHeld); go_simp; try with_reducible rfl))
      try simp only [zp1, zp3, zp4, zp5]
      first | (refine rgn (i := 11) (atN rfl) (by kernel_rfl) (fun _ _ _ h => h) ?_ hHeld ?_; (· rfl)) | (refine qy 11 ?_ ?_ ?_ hHeld ?_; rotate_left 1; (· rfl); (· intro w' hSw; (try clear hHeld); go_simp; try with_reducible rfl))
      try simp only [zp1, zp3, zp4, zp5]
      first | (refine rgn (i := 12) (atN rfl) (by kernel_rfl) (fun _ _ _ h => h) ?_ hHeld ?_; (· rfl)) | (refine qy 12 ?_ ?_ ?_ hHeld ?_; rotate_left 1; (· rfl); (· intro w' hSw; (try clear hHeld); go_simp; try with_reducible rfl))
      try simp only [zp1, zp3, zp4, zp5]
      first | (refine rgn (i := 13) (atN rfl) (by kernel_rfl) (fun _ _ _ h => h) ?_ hHeld ?_; (· rfl)) | (refine qy 13 ?_ ?_ ?_ hHeld ?_; rotate_left 1; (· rfl); (· intro w' hSw; (try clear hHeld); go_simp; try with_reducible rfl))
      try simp only [zp1, zp3, zp4, zp5]
      first | (refine rgn (i := 14) (atN rfl) (by kernel_rfl) (fun _ _ _ h => h) ?_ hHeld ?_; (· rfl)) | (refine qy 14 ?_ ?_ ?_ hHeld ?_; rotate_left 1; (· rfl); (· intro w' hSw; have f1 := cell_below f1 hSw; have mas := cell_below mas hSw; (try clear hHeld); go_simp; try with_reducible rfl))
      try simp only [zp1, zp3, zp4, zp5]
      first | (refine rgn (i := 15) (atN rfl) (by kernel_rfl) (fun _ _ _ h => h) ?_ hHeld ?_; (· rfl)) | (refine rg_call (i := 15) (atN rfl) (by kernel_rfl) ?_ (fun K hK => ?_); (· rfl); (try clear hb); go_simp; (refine (GB.out _ hHeld).mono ?_; rintro e w1 ⟨rfl, hb⟩); go_wp2_with fail; refine hK.out _ _ ?_ (fun hHeld => ?_); (· exact hHeld.trans (hb.mono hHeld.size)); clear hK K)
      try simp only [zp1, zp3, zp4, zp5]
      refine qy 16 ?_ ?_ ?_ hHeld ?_; rotate_left 1; (· rfl); (· intro w' hSw; (try clear hHeld); go_simp; try with_reducible rfl)
      try simp only [zp1, zp3, zp4, zp5]
      refine qy 17 ?_ ?_ ?_ hHeld ?_; rotate_left 1; (· rfl); (· intro w' hSw; (try clear hHeld); go_simp; try with_reducible rfl)
      try simp only [zp1, zp3, zp4, zp5]
      refine wpAnyH_done (by kernel_rfl) ?_ _
      have BV2 := Lib.hid (below_on BV.out hHeld)
      clear hHeld
      go_wp2_with fail
      go_ret
      exact ⟨by rw [SV.out]; rfl, BV2.out⟩
end
end Go.Proofs.YtkoidahgbbabiaaGreat
/-
  THE SERVER: what is blocked between two participants.
-/
namespace Go.Proofs.YtkoidahgbbabiaaGreat
open Go.RowKit
def setBl (S : Sv) (i j : Nat) (b : Bool) : Sv := { S with bl := setWay S.bl (i * 16 + j) b }
def renew1 (j : Nat) (S : Sv) (p : Pf) : Sv := renewP S j p (saidS S.ms p)
def blockL (S : Sv) (j : Nat) (ps : List Pf) : Sv := ps.foldl (renew1 j) S
theorem blockL_snoc (S : Sv) (j : Nat) (ps : List Pf) (p : Pf) : blockL S j (ps ++ [p]) = renew1 j (blockL S j ps) p := by unfold blockL; rw [List.foldl_append]; rfl
theorem kin_block (j : Nat) : ∀ (ps : List Pf) (S : Sv), SvKin S (blockL S j ps)
  | [], S => SvKin.refl S
  | p :: ps, S => (kin_renew S j p _).trans (kin_block j ps (renew1 j S p))
theorem renewP_best (S : Sv) (j : Nat) (p : Pf) (l : List Cd) (k : Nat) (q : Pf) : (renewP S j p l).best k q = if k = j ∧ q = p then newBest S j l else S.best k q := rfl
theorem blockL_best (j : Nat) : ∀ (ps : List Pf) (S : Sv) (k : Nat) (q : Pf), (blockL S j ps).best k q = if k = j ∧ q ∈ ps then bestIn S j q else S.best k q
  | [], S, k, q => by rw [if_neg (by simp)]; rfl
  | p :: ps, S, k, q => by
    show (blockL (renew1 j S p) j ps).best k q = _
    rw [blockL_best j ps]
    have hk : SvKin S (renew1 j S p) := kin_renew S j p _
    rw [hk.bestIn]
    unfold renew1
    rw [renewP_best, newBest_said]
    by_cases e1 : k = j
    · by_cases e2 : q ∈ ps
      · rw [if_pos ⟨e1, e2⟩, if_pos ⟨e1, List.mem_cons_of_mem _ e2⟩]
      · rw [if_neg (fun h => e2 h.2)]
        by_cases e3 : q = p
        · subst e3; rw [if_pos ⟨e1, rfl⟩, if_pos ⟨e1, List.mem_cons_self ..⟩]
        · rw [if_neg (fun h => e3 h.2), if_neg (by simp [e2, e3])]
    · rw [if_neg (fun h => e1 h.1), if_neg (fun h => e1 h.1), if_neg (fun h => e1 h.1)]
theorem renewP_ms (S : Sv) (j : Nat) (p : Pf) (l : List Cd) (k : Nat) : (renewP S j p l).ms[k]? = (S.ms[k]?).map fun m => if k = j then m.mark p (m.there && !sameB (S.best j p) (newBest S j l)) else m := by
  unfold renewP
  rw [markS_get]
  rfl
theorem blockL_news (j : Nat) : ∀ (ps : List Pf) (S : Sv) (k : Nat) (m : Pm), S.ms[k]? = some m → ∃ n, (blockL S j ps).ms[k]? = some n ∧ n.there = m.there ∧ ∀ q, n.news q = (m.news q || (decide (k = j) && (m.there && (decide (q ∈ ps) && !sameB (S.best j q) (bestIn S j q)))))
  | [], S, k, m, hm => ⟨m, hm, rfl, fun q => by simp⟩
  | p :: ps, S, k, m, hm => by
    have h1 := renewP_ms S j p (saidS S.ms p) k
    rw [hm] at h1
    simp only [Option.map_some] at h1
    obtain ⟨n, n1, n2, n3⟩ := blockL_news j ps (renew1 j S p) k _ h1
    refine ⟨n, n1, ?_, fun q => ?_⟩
    · rw [n2]; split <;> rfl
    · rw [n3 q]
      have hk : SvKin S (renew1 j S p) := kin_renew S j p _
      rw [hk.bestIn]
      have hb : (renew1 j S p).best j q = if q = p then bestIn S j q else S.best j q := by
        unfold renew1
        rw [renewP_best, newBest_said]
        by_cases e : q = p
        · subst e; rw [if_pos ⟨rfl, rfl⟩, if_pos rfl]
        · rw [if_neg (fun h => e h.2), if_neg e]
      rw [hb]
      by_cases e : k = j
      · simp only [e, if_true, decide_true, Bool.true_and]
        rw [mark_news, newBest_said]
        have hth : (m.mark p (m.there && !sameB (S.best j p) (bestIn S j p))).there = m.there := rfl
        rw [hth]
        by_cases e2 : q = p
        · subst e2
          have : sameB (bestIn S j q) (bestIn S j q) = true := (sameB_iff _ _).2 rfl
          simp [this]
        · have h3 : decide (q ∈ p :: ps) = decide (q ∈ ps) := by simp [e2]
          rw [if_neg e2, h3]
          simp [e2]
      · simp [e]
theorem rt_at {w : World} {s : Option Addr} {n c i : Nat} {xs : List RE} (h : SlAt w 13 (fun x cs => cs = rtL i x) (.slice s n c) xs) {k : Nat} {x : RE} (hx : xs[k]? = some x) : ∃ g o, s = some ⟨g, o, none⟩ ∧ w.rangeAt g (o + k * 13) (rtL i x) := by
  obtain ⟨s', c', e, h1, h2, h3⟩ := h
  injection e with e _ _
  subst e
  have hi := (List.getElem?_eq_some_iff.1 hx).1
  obtain ⟨b, off, rfl, h4⟩ := h3 (by omega)
  obtain ⟨cs, -, rfl, hc⟩ := h4 k x hx
  exact ⟨b, off, rfl, fun j v hv => hc j v hv⟩
section
variable {w W W2 : World} {rho : Nat → Role} {sb fb : Nat} {ls : List Pl} {S : Sv} {A : Ab}
theorem IsAb.block (h : IsAb S A) (few : A.V.length ≤ 16) {i j : Nat} (hi : i < A.V.length) (hj : j < A.V.length) (b : Bool) (ps : List Pf) (hps : ∀ p, p ∈ ps ↔ (getL (A.R i) p).isSome = true) : IsAb (blockL (setBl S i j b) j ps) (A.block i j b) := by
  have hk := kin_block j ps (setBl S i j b)
  have hV : RV (blockL (setBl S i j b) j ps) = A.V := by rw [hk.RV]; exact h.V
  have hin : ∀ k q, bestIn (setBl S i j b) k q = bestV A.own (setWay A.bl (i * 16 + j) b) A.V k q := fun k q => by
    rw [bestIn_V]
    show bestV S.own (setWay S.bl (i * 16 + j) b) (RV S) k q = _
    rw [h.own, h.bl, h.V]
  have hold : ∀ k q, k < A.V.length → ¬ (k = j ∧ q ∈ ps) → A.best k q = bestV A.own (setWay A.bl (i * 16 + j) b) A.V k q := fun k q hkl hq => by
    refine bestV_congr rfl (fun n v v' hv hv' => ?_) fun n v a hv hg => ?_
    · rw [hv] at hv'; injection hv' with hv'; subst hv'; exact ⟨rfl, rfl, rfl⟩
    · unfold setWay
      rw [if_neg]
      intro e
      have hn := (List.getElem?_eq_some_iff.1 hv).1
      have e1 : n = i := by omega
      have e2 : k = j := by omega
      subst e1
      refine hq ⟨e2, (hps q).2 ?_⟩
      unfold Ab.R
      rw [hv]
      show (getL v.2.2 q).isSome = true
      rw [hg]; rfl
  have hbl : (blockL (setBl S i j b) j ps).bl = setWay A.bl (i * 16 + j) b := by
    rw [hk.bl]
    show setWay S.bl (i * 16 + j) b = _
    rw [h.bl]
  refine ⟨hk.own.trans h.own, hk.most.trans h.most, hbl, hV, ?_, ?_⟩
  · intro k n hn
    obtain ⟨m, hm, -⟩ := hk.back hn
    obtain ⟨n', g1, g2, g3⟩ := blockL_news j ps _ k m hm
    rw [hn] at g1; injection g1 with g1; subst g1
    have hm : S.ms[k]? = some m := hm
    obtain ⟨h1, h2⟩ := h.mem k m hm
    refine ⟨g2.trans h1, fun q => ?_⟩
    rw [g3 q, h2 q, h1]
    unfold Ab.block Ab.turn
    simp only
    have hkl : k < A.V.length := by rw [← h.len]; exact (List.getElem?_eq_some_iff.1 hm).1
    by_cases e : k = j ∧ q ∈ ps
    · obtain ⟨rfl, hq⟩ := e
      have hb : (setBl S i k b).best k q = A.best k q := h.best k q (by rw [h.len]; exact hkl)
      rw [hb, hin]
      simp [hq]
    · have e2 : sameB (A.best k q) (bestV A.own (setWay A.bl (i * 16 + j) b) A.V k q) = true := (sameB_iff _ _).2 (hold k q hkl e)
      rw [e2]
      by_cases e3 : k = j
      · have : ¬ q ∈ ps := fun h => e ⟨e3, h⟩
        simp [this]
      · simp [e3]
  · intro k q hkl
    rw [hk.len] at hkl
    have hkl : k < S.ms.length := hkl
    rw [blockL_best]
    show _ = bestV A.own (setWay A.bl (i * 16 + j) b) A.V k q
    by_cases e : k = j ∧ q ∈ ps
    · rw [if_pos e, hin, e.1]
    · rw [if_neg e]
      exact (h.best k q hkl).trans (hold k q (by rw [← h.len]; exact hkl) e)
theorem SrvM.setFil (h : SrvM W rho sb fb ls S) {bl' : Nat → Bool} (hk : Kept (fun k => k = fb) W W2) (hf : FilAt W2 fb S.own bl') : SrvM W2 rho sb fb ls { S with bl := bl' } ∧ Step rho rho W W2 := by
  have rf := h.bod.rfb
  refine ⟨⟨(h.top.kept hk fun k _ hF e => by
    have e : k = fb := e
    rw [e, rf] at hF; cases hF), ⟨hf, rf, h.bod.len, h.bod.few, ?_, fun k hk' => Nat.lt_of_lt_of_le (h.dom k hk') hk.size, h.bod.own1⟩, h.rsb⟩, ⟨fun _ _ => rfl, hk.imp fun k e => by
    have e : k = fb := e
    rw [e, rf]; intro e; cases e⟩⟩
  intro i m l hm hl
  exact (h.bod.mem i m l hm hl).kept (fun _ _ => rfl) hk fun k _ ho e => by
    have e : k = fb := e
    rw [e, rf] at ho
    rcases ho with e | e | e | e | e <;> cases e
def BlockPost (sb fb : Nat) (ls : List Pl) (S : Sv) (i j : Nat) (m : Pm) (b : Bool) (rho : Nat → Role) (W : World) (e : Ending) (w' : World) : Prop :=
  ∃ (rho' : Nat → Role) (ps : List Pf), e = .returned (.int .i64 0) ∧ (∀ p, p ∈ ps ↔ (getL m.R p).isSome = true) ∧ SrvM w' rho' sb fb ls (blockL (setBl S i j b) j ps) ∧ Step rho rho' W w'
set_option maxHeartbeats 6400000 in
set_option maxRecDepth 100000 in
theorem sv_Block (h : SrvM W rho sb fb ls S) {i j : Nat} {m n : Pm} (hm : S.ms[i]? = some m) (hn : S.ms[j]? = some n) (b : Bool) :
    Calls Tryz.prog 26 #[.pointer (some ⟨sb, 0, none⟩), .int .i64 i, .int .i64 j, .bool b] W (BlockPost sb fb ls S i j m b rho W) := by
  obtain ⟨l, hl, hM⟩ := h.get hm
  obtain ⟨l2, hl2, -⟩ := h.get hn
  obtain ⟨s, cap, -, cf, -⟩ := h.cells
  have few := h.bod.few
  have hi : i < 16 := by have := (List.getElem?_eq_some_iff.1 hm).1; omega
  have hj : j < 16 := by have := (List.getElem?_eq_some_iff.1 hn).1; omega
  have HS := Lib.hid h
  have HM := Lib.hid hm
  have HN := Lib.hid hn
  have HL := Lib.hid hl
  have MB := Lib.hid (sv_member h hl)
  have MB2 := Lib.hid (sv_member h hl2)
  have Fss := Lib.hid (ex_Set fb S.own S.bl i j b hi hj W h.bod.fil)
  clear h hm hn hl hl2 hM hi hj few
  go_enter Tryz.func26, Tryz.ntmps26
  go_wp2_with fail
  refine MB.out.mono ?_
  rintro e w1 ⟨rfl, rfl⟩
  go_wp2_with fail
  refine MB2.out.mono ?_
  rintro e w1 ⟨rfl, rfl⟩
  go_wp2_with fail
  refine Fss.out.mono ?_
  rintro e w2 ⟨rfl, hf, hk⟩
  have D := Lib.hid (HS.out.setFil hk hf)
  clear hf hk Fss cf MB MB2
  obtain ⟨S1, hS1⟩ : ∃ S1, setBl S i j b = S1 := ⟨_, rfl⟩
  have D1 : Hid (SrvM w2 rho sb fb ls S1 ∧ Step rho rho W w2) := Lib.hid (by rw [← hS1]; exact D.out)
  have HM1 : Hid (S1.ms[i]? = some m) := Lib.hid (by rw [← hS1]; exact HM.out)
  have HN1 : Hid (S1.ms[j]? = some n) := Lib.hid (by rw [← hS1]; exact HN.out)
  have E1 := Lib.hid hS1
  clear D hS1
  have hM1 := D1.out.1.bod.mem i m l HM1.out HL.out
  have m3 : w2.cell? ⟨l.mb, 3, none⟩ = some (.pointer (some ⟨l.rb, 0, none⟩)) := row_cell hM1.row 3
  have AL := Lib.hid (ad_All w2 hM1.rib)
  have RGT : Hid (∀ p, (getL m.R p).isSome = true → RgtP p) := Lib.hid (fun p hp => rts_right hM1.rib hp)
  clear hM1
  go_wp2_with fail
  refine AL.out.mono ?_
  rintro e w3 ⟨v, vs, rfl, re, -, rm, hb3⟩
  obtain ⟨sv, cv, rfl, -⟩ := own_form re.own
  have D3 := Lib.hid (And.intro (D1.out.1.below hb3) (D1.out.2.grow hb3))
  have RW : Hid (On (fun k => rho k = .no) w3 (fun W => SlAt W 13 (fun x cs => cs = rtL i x) (.slice sv vs.length cv) vs)) := Lib.hid (((own_fresh re.own).wide (G := fun k => rho k = .no) fun k hk _ => D1.out.1.newNo hk).imp fun V hV => own_slat (rtL_len i) hV)
  have RM := Lib.hid rm
  have vl : vs.length ≤ 9223372036854775807 := by
    obtain ⟨sa, cap, -, g1, g2, -⟩ := RW.out.self
    exact Nat.le_trans g1 g2
  have S0 : Hid (SrvM w3 rho sb fb ls (blockL S1 j ((vs.map (·.p)).take 0))) := Lib.hid D3.out.1
  have T0 := Lib.hid D3.out.2
  clear re rm hb3 AL m3 D3
  go_wp2_with fail
  go_loopw [41] (fun t41 wr => ∃ (k : Nat) (rho1 : Nat → Role), k ≤ vs.length ∧ t41 = .int .i64 k ∧ Hid (SrvM wr rho1 sb fb ls (blockL S1 j ((vs.map (·.p)).take k))) ∧ Hid (Step rho rho1 W wr) ∧ Hid (Step rho rho1 w3 wr)) (fun t41 _ => vs.length - (intOf t41).toNat)
  case atStart => exact ⟨0, rho, by omega, rfl, S0, T0, Lib.hid Step.refl⟩
  case round =>
    clear S0 T0
    obtain ⟨k, rho1, hk, rfl, SK, TK, T3⟩ := hrel
    by_cases hkl : k < vs.length
    · obtain ⟨x, hx⟩ : ∃ x, vs[k]? = some x := ⟨_, List.getElem?_eq_getElem hkl⟩
      obtain ⟨g, o, rfl, hrg⟩ := rt_at (T3.out.free RW.out).self hx
      have RG := Lib.hid hrg
      have HP := Lib.hid (RGT.out x.p ((RM.out x.p).1 (List.mem_map.2 ⟨x, List.mem_of_getElem? hx, rfl⟩)))
      have NX : Hid (blockL S1 j ((vs.map (·.p)).take (k + 1)) = renew1 j (blockL S1 j ((vs.map (·.p)).take k)) x.p) := Lib.hid (by
        rw [take_snoc (x := x.p) (by rw [List.getElem?_map, hx]; rfl), blockL_snoc])
      obtain ⟨T, hT⟩ : ∃ T, blockL S1 j ((vs.map (·.p)).take k) = T := ⟨_, rfl⟩
      rw [hT] at SK NX
      obtain ⟨n', hn'⟩ : ∃ n', T.ms[j]? = some n' := by
        obtain ⟨n', h1, -⟩ := (kin_block j ((vs.map (·.p)).take k) S1).mem j n HN1.out
        rw [hT] at h1
        exact ⟨n', h1⟩
      have HN2 := Lib.hid hn'
      have k0 : (0 : Int) ≤ (k : Int) := by omega
      have k1 : (k : Int) < (vs.length : Int) := by omega
      clear hx hrg hT hn'
      go_wp2_with ((with_reducible refine halt_at (X := .load 61 (.tmp 43)) ?_ ?_); (· rfl))
      unfold Halt
      refine ldm_at (by rfl) 61 (.tmp 43) rfl g (o + k * 13) rfl (rtL i x) _ RG.out Tryz.underlying61 rfl sz_rt ?_
      go_wp2_with ((with_reducible refine halt_at (X := .store 61 (.tmp 12) (.tmp 44)) ?_ ?_); (· rfl))
      unfold Halt
      refine st_fresh rfl 61 (.tmp 12) (.tmp 44) rfl rfl _ (rtC i x.p x.v) rfl sz_rt rfl (rt_one _ _ _) ?_
      obtain ⟨w4, hw4, q4, hb4, -⟩ := box1 wr (rtC i x.p x.v) 61
      rw [← hw4]
      obtain ⟨pb, hpb⟩ : ∃ pb, pb = wr.heap.size := ⟨_, rfl⟩
      rw [← hpb] at q4 ⊢
      have c0 : w4.cell? ⟨pb, 1, none⟩ = some (.int .u32 x.p.1) := row_cell q4 1
      have c1 : w4.cell? ⟨pb, 2, none⟩ = some (.int .i64 x.p.2) := row_cell q4 2
      have SK4 := Lib.hid (SK.out.below hb4)
      have TK4 := Lib.hid (TK.out.grow hb4)
      have T34 := Lib.hid (T3.out.grow hb4)
      have NPB : Hid (¬ (rho1 pb ≠ .no)) := Lib.hid (fun h => h (SK.out.newNo (Nat.le_of_eq hpb.symm)))
      have SKD := Lib.hid (SK4.out.below (Below.refl w4.heap.size w4).drew)
      clear hw4 q4 hb4 SK TK T3 RG hpb
      simp only [Act.put]
      go_upto_region 10 with (fail)
      refine wp_region_held_drew (S := fun w' => Kept (fun k => rho1 k ≠ .no) w4 w') (by kernel_rfl) ?_ (fun hHeld => ?_)
      · exact (Kept.refl _ _).drew
      generalize World.drew w4 = wd at SKD hHeld ⊢
      refine qy 0 ?_ ?_ ?_ hHeld ?_; rotate_left 1; (· rfl); (· intro w' hSw; (try clear hHeld); go_simp; try with_reducible rfl)
      try simp only [zp1, zp3, zp4, zp5]
      refine qy 1 ?_ ?_ ?_ hHeld ?_; rotate_left 1; (· rfl); (· intro w' hSw; (try clear hHeld); go_simp; try with_reducible rfl)
      try simp only [zp1, zp3, zp4, zp5]
      refine qy 2 ?_ ?_ ?_ hHeld ?_; rotate_left 1; (· rfl); (· intro w' hSw; (try clear hHeld); go_simp; try with_reducible rfl)
      try simp only [zp1, zp3, zp4, zp5]
      refine qy 3 ?_ ?_ ?_ hHeld ?_; rotate_left 1; (· rfl); (· intro w' hSw; have c0 := hSw.cell c0 NPB.out; have c1 := hSw.cell c1 NPB.out; (try clear hHeld); go_simp; try with_reducible rfl)
      try simp only [zp1, zp3, zp4, zp5]
      refine qy 4 ?_ ?_ ?_ hHeld ?_; rotate_left 1; (· rfl); (· intro w' hSw; (try clear hHeld); go_simp; try with_reducible rfl)
      try simp only [zp1, zp3, zp4, zp5]
      refine qy 5 ?_ ?_ ?_ hHeld ?_; rotate_left 1; (· rfl); (· intro w' hSw; (try clear hHeld); go_simp; try with_reducible rfl)
      try simp only [zp1, zp3, zp4, zp5]
      refine qy 6 ?_ ?_ ?_ hHeld ?_; rotate_left 1; (· rfl); (· intro w' hSw; have c0 := hSw.cell c0 NPB.out; have c1 := hSw.cell c1 NPB.out; (try clear hHeld); go_simp; try with_reducible rfl)
      try simp only [zp1, zp3, zp4, zp5]
      refine rg_call (i := 7) (atN rfl) (by kernel_rfl) ?_ (fun K hK => ?_); (· rfl); (try clear hb); go_simp; refine (sv_said SKD.out x.p HP.out.1).mono ?_; rintro e wq ⟨sx, cx, xs, A, rfl, ox, xe, hbq⟩; have SKQ := Lib.hid (SKD.out.below hbq); have AC := Lib.hid (said_all SKQ.out HP.out xe); have XE := Lib.hid xe; have XN := Lib.hid (ox.fresh.wide (G := fun k => rho1 k = .no) fun k hk _ => SKD.out.newNo hk); have STD := Lib.hid (hHeld.grow hbq); go_wp2_with fail; refine hK.out _ _ ?_ (fun hHeld => ?_); (· exact hHeld.grow hbq); clear hK K
      try simp only [zp1, zp3, zp4, zp5]
      refine rg_call (i := 8) (atN rfl) (by kernel_rfl) ?_ (fun K hK => ?_); (· rfl); (try clear hb); go_simp; refine (sv_renew SKQ.out HN2.out x.p HP.out (.slice sx xs.length cx) xs XN.out AC.out).mono ?_; rintro e wz ⟨rho3, rfl, hs3, st3⟩; go_wp2_with fail; refine hK.out _ _ ?_ (fun hHeld => ?_); (· exact hHeld.trans st3.kept); clear hK K
      try simp only [zp1, zp3, zp4, zp5]
      refine wpAnyH_done (by kernel_rfl) ?_ _
      have SF : Hid (SrvM wz rho3 sb fb ls (blockL S1 j ((vs.map (·.p)).take (k + 1)))) := Lib.hid (by
        rw [NX.out]
        unfold renew1
        rw [← XE.out]
        exact hs3)
      have SD : Hid (Step rho1 rho3 w4 wz) := Lib.hid ⟨fun k hk => st3.same k (Nat.lt_of_lt_of_le hk STD.out.size), STD.out.trans st3.kept⟩
      have TF := Lib.hid (TK4.out.trans SD.out)
      have TF3 := Lib.hid (T34.out.trans SD.out)
      clear hHeld hs3 st3 SD STD XN SKQ SKD c0 c1
      go_wp2_with fail
      exact ⟨⟨k + 1, rho3, by omega, by go_num, SF, TF, TF3⟩, by simp [intOf]; omega⟩
    · obtain rfl : k = vs.length := by omega
      have e : (vs.map (·.p)).take vs.length = vs.map (·.p) := List.take_of_length_le (by rw [List.length_map]; exact Nat.le_refl _)
      rw [e] at SK
      have SF := Lib.hid SK.out
      clear SK hk hkl
      go_wp2_with fail
      refine bodyPost_ret (v := .int .i64 0) (by simp [results, Tryz.results26, go_sem]) rfl ⟨rho1, _, rfl, fun p => RM.out p, by rw [E1.out]; exact SF.out, TK.out⟩
end
end Go.Proofs.YtkoidahgbbabiaaGreat
