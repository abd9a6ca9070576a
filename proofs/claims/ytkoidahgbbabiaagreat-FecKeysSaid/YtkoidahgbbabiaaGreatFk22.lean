/- Texts of one proof, one behind another. -/
import Derived.Test.YtkoidahgbbabiaaGreatFk21
import Derived.Test.YtkoidahgbbabiaaGreatFk5
import Derived.Test.YtkoidahgbbabiaaGreatFk1
namespace Go.Proofs.YtkoidahgbbabiaaGreat
open Go.RowKit
def goesS (own : Int) (bl : Nat → Bool) (R : Rts) (i j : Nat) (t : Int) (p : Pf) : Bool := match getL R p with | none => false | some a => goesB own bl a i j t
section
variable {W : World} {rho : Nat → Role} {sb fb : Nat} {ls : List Pl} {S : Sv}
set_option maxHeartbeats 6400000 in
set_option maxRecDepth 100000 in
theorem sv_Goes (h : SrvM W rho sb fb ls S) {i j : Nat} {m n : Pm} (hm : S.ms[i]? = some m) (hn : S.ms[j]? = some n) (p : Pf) (hp : OkP p) :
  Calls Tryz.prog 31 #[.pointer (some ⟨sb, 0, none⟩), .int .i64 i, .int .i64 j, .agg #[.int .u32 p.1, .int .i64 p.2]] W fun e w' => e = .returned (.bool (goesS S.own S.bl m.R i j n.as_ p)) ∧ Below W.heap.size W w' := by
 obtain ⟨l, hl, hM⟩ := h.get hm
 obtain ⟨l2, hl2, hM2⟩ := h.get hn
 obtain ⟨s, cap, -, cf, -⟩ := h.cells
 have few := h.bod.few
 have hi : i < 16 := by have := (List.getElem?_eq_some_iff.1 hm).1; omega
 have hj : j < 16 := by have := (List.getElem?_eq_some_iff.1 hn).1; omega
 have HIJ := zh (And.intro hi hj)
 have m3 : W.cell? ⟨l.mb, 3, none⟩ = some (.pointer (some ⟨l.rb, 0, none⟩)) := zB hM.row 3
 have mas : W.cell? ⟨l2.mb, 0, none⟩ = some (.int .i64 n.as_) := zB hM2.row 0
 have MB := zh (fun w' (hb : Below W.heap.size W w') => sv_member (h.below hb) hl)
 have MB2 := zh (fun w' (hb : Below W.heap.size W w') => sv_member (h.below hb) hl2)
 have GT := zh (fun w' (hb : Below W.heap.size W w') => ad_Get p w' (hM.rib.below hb) hp)
 have FL := zh (fun w' (hb : Below W.heap.size W w') => (h.below hb).bod.fil)
 have M3 := zh m3
 have MAS := zh mas
 have CF := zh cf
 clear h hm hn hl hl2 hM hM2 hp m3 mas cf hi hj few
 obtain ⟨t, ht⟩ : ∃ t, n.as_ = t := ⟨_, rfl⟩
 rw [ht] at MAS ⊢
 clear ht
 go_enter Tryz.func31, Tryz.ntmps31
 go_upto_region 1 with (fail)
 obtain ⟨W0, hW0, p0, p1, hB⟩ := box2 W (.int .u32 p.1) (.int .i64 p.2) 53
 rw [← hW0]
 obtain ⟨pb, hpb⟩ : ∃ pb, pb = W.heap.size := ⟨_, rfl⟩
 rw [← hpb] at p0 p1 ⊢
 have B0 := zh hB
 have m3 := zA M3.out hB
 have mas := zA MAS.out hB
 have f1 := zA CF.out hB
 have GT0 := zh (fun w' (hb : Below W0.heap.size W0 w') => GT.out w' (zC B0.out hb))
 clear hW0 hB hpb GT M3
 go_wp2_with fail
 refine (MB.out _ B0.out).mono ?_
 rintro e w1 ⟨rfl, rfl⟩
 go_wp2_with fail
 refine (MB2.out _ B0.out).mono ?_
 rintro e w1 ⟨rfl, rfl⟩
 go_upto_region 4 with (fail)
 cases hg : getL m.R p with
 | none =>
  have GN : Hid (∀ w', Below W0.heap.size W0 w' → Calls Tryz.prog 75 #[.pointer (some ⟨l.rb, 0, none⟩), .agg #[.int .u32 p.1, .int .i64 p.2]] w' fun e w2 => e = .returned (.tuple #[.agg (rtC 0 (0, 0) av0), .bool false]) ∧ Below w'.heap.size w' w2) := zh (fun w' hb => (GT0.out w' hb).mono fun e w2 h => by
   rcases h with ⟨-, h1, h2⟩ | ⟨a, v, h1, -⟩
   ·exact ⟨h1, h2⟩
   ·rw [hg] at h1; cases h1)
  have SV : Hid (goesS S.own S.bl m.R i j t p = false) := zh (by unfold goesS; rw [hg])
  clear hg GT0
  go_cut [11, 12] from 25 to 33 (fun s11 s12 wx => s12 = .bool false ∧ Hid (Below W0.heap.size W0 wx))
  case first =>
   refine wp_region_held_drew (S := fun w' => Below W0.heap.size W0 w') (by kernel_rfl) ?_ (fun hHeld => ?_)
   ·exact (Below.refl _ _).drew
   generalize World.drew W0 = wd at hHeld ⊢
   refine qy 0 ?_ ?_ ?_ hHeld ?_; rotate_left 1; (· rfl); (· intro w' hSw; (try clear hHeld); go_simp; try with_reducible rfl)
   try simp only [zz]
   refine qy 4 ?_ ?_ ?_ hHeld ?_; rotate_left 1; (· rfl); (· intro w' hSw; have p0 := zA p0 hSw; have p1 := zA p1 hSw; have m3 := zA m3 hSw; (try clear hHeld); go_simp; try with_reducible rfl)
   try simp only [zz]
   refine zI (i := 1) (j := 9) (atS at0) (atS (atS (atS (atS (atS (atS (atS (atS (atS at0))))))))) (by kernel_rfl) ?_ ?_ (fun K hK => ?_) (fun K hK => ?_)
   ·rfl
   ·rfl
   ·(try clear hb); go_simp; go_wp2_with fail; refine hK.out _ _ ?_ (fun hHeld => ?_); (· exact hHeld); clear hK K
    try simp only [zz]
    refine qy 2 ?_ ?_ ?_ hHeld ?_; rotate_left 1; (· rfl); (· intro w' hSw; (try clear hHeld); go_simp; try with_reducible rfl)
    try simp only [zz]
    refine qy 3 ?_ ?_ ?_ hHeld ?_; rotate_left 1; (· rfl); (· intro w' hSw; have p0 := zA p0 hSw; have p1 := zA p1 hSw; have m3 := zA m3 hSw; (try clear hHeld); go_simp; try with_reducible rfl)
    try simp only [zz]
    refine zI (i := 5) (j := 9) (atS (atS (atS (atS (atS at0))))) (atS (atS (atS (atS (atS (atS (atS (atS (atS at0))))))))) (by kernel_rfl) ?_ ?_ (fun K hK => ?_) (fun K hK => ?_)
    ·rfl
    ·rfl
    ·(try clear hb); go_simp; (refine (GN.out _ hHeld).mono ?_; rintro e w1 ⟨rfl, hb⟩); (try replace hz := (hb.block _ (zE hz)).trans hz); go_wp2_with fail; refine hK.out _ _ ?_ (fun hHeld => ?_); (· exact hHeld.trans (hb.mono hHeld.size)); clear hK K
     try simp only [zz]
     refine qy 6 ?_ ?_ ?_ hHeld ?_; rotate_left 1; (· rfl); (· intro w' hSw; (try clear hHeld); go_simp; try with_reducible rfl)
     try simp only [zz]
     refine qy 7 ?_ ?_ ?_ hHeld ?_; rotate_left 1; (· rfl); (· intro w' hSw; (try clear hHeld); go_simp; try with_reducible rfl)
     try simp only [zz]
     refine qy 8 ?_ ?_ ?_ hHeld ?_; rotate_left 1; (· rfl); (· intro w' hSw; (try clear hHeld); go_simp; try with_reducible rfl)
     try simp only [zz]
     refine Go.Proofs.YtkoidahgbbabiaaGreat.rc 9 ?_ fun K hK => ?_; (· rfl); (try clear hb); go_simp; refine box_zrt (p := K _) ?_; intro w1 hz hb; have hgs := hHeld.size; refine hK.out _ _ ?_ (fun hHeld => ?_); (· exact zC hHeld hb); clear hK K
     try simp only [zz]
     refine Go.Proofs.YtkoidahgbbabiaaGreat.rc 10 ?_ fun K hK => ?_; (· rfl); (try clear hb); refine zG 61 (.tmp 11) (.tmp 32) rfl _ rfl 61 (rtC 0 (0, 0) av0) _ rfl hz (by kernel_rfl) rfl (rt_one _ _ _) ?_; refine zT hz (p := K _) ?_; intro w2 hr hk2; refine hK.out _ _ ?_ (fun hHeld => ?_); (· exact hHeld.trans (hk2.below hHeld.size (by rintro k rfl; exact hgs))); clear hK K
     try simp only [Act.put]
     refine qy 11 ?_ ?_ ?_ hHeld ?_; rotate_left 1; (· rfl); (· intro w' hSw; (try clear hHeld); go_simp; try with_reducible rfl)
     try simp only [zz]
     refine wpAnyH_done (by kernel_rfl) ?_ _
     go_wp2_with fail
     go_meet
     exact ⟨rfl, zh hHeld⟩
    ·(try clear hb); go_simp; refine box_zrt (p := K _) ?_; intro w1 hz hb; have hgs := hHeld.size; refine hK.out _ _ ?_ (fun hHeld => ?_); (· exact zC hHeld hb); clear hK K
     try simp only [zz]
     refine Go.Proofs.YtkoidahgbbabiaaGreat.rc 5 ?_ fun K hK => ?_; (· rfl); (try clear hb); go_simp; (refine (GN.out _ hHeld).mono ?_; rintro e w1 ⟨rfl, hb⟩); (try replace hz := (hb.block _ (zE hz)).trans hz); go_wp2_with fail; refine hK.out _ _ ?_ (fun hHeld => ?_); (· exact hHeld.trans (hb.mono hHeld.size)); clear hK K
     try simp only [zz]
     refine qy 6 ?_ ?_ ?_ hHeld ?_; rotate_left 1; (· rfl); (· intro w' hSw; (try clear hHeld); go_simp; try with_reducible rfl)
     try simp only [zz]
     refine qy 7 ?_ ?_ ?_ hHeld ?_; rotate_left 1; (· rfl); (· intro w' hSw; (try clear hHeld); go_simp; try with_reducible rfl)
     try simp only [zz]
     refine qy 8 ?_ ?_ ?_ hHeld ?_; rotate_left 1; (· rfl); (· intro w' hSw; (try clear hHeld); go_simp; try with_reducible rfl)
     try simp only [zz]
     refine Go.Proofs.YtkoidahgbbabiaaGreat.rc 10 ?_ fun K hK => ?_; (· rfl); (try clear hb); refine zG 61 (.tmp 11) (.tmp 32) rfl _ rfl 61 (rtC 0 (0, 0) av0) _ rfl hz (by kernel_rfl) rfl (rt_one _ _ _) ?_; refine zT hz (p := K _) ?_; intro w2 hr hk2; refine hK.out _ _ ?_ (fun hHeld => ?_); (· exact hHeld.trans (hk2.below hHeld.size (by rintro k rfl; exact hgs))); clear hK K
     try simp only [Act.put]
     refine qy 11 ?_ ?_ ?_ hHeld ?_; rotate_left 1; (· rfl); (· intro w' hSw; (try clear hHeld); go_simp; try with_reducible rfl)
     try simp only [zz]
     refine wpAnyH_done (by kernel_rfl) ?_ _
     go_wp2_with fail
     go_meet
     exact ⟨rfl, zh hHeld⟩
   ·(try clear hb); go_simp; refine box_zrt (p := K _) ?_; intro w1 hz hb; have hgs := hHeld.size; refine hK.out _ _ ?_ (fun hHeld => ?_); (· exact zC hHeld hb); clear hK K
    try simp only [zz]
    refine Go.Proofs.YtkoidahgbbabiaaGreat.rc 1 ?_ fun K hK => ?_; (· rfl); (try clear hb); go_simp; go_wp2_with fail; refine hK.out _ _ ?_ (fun hHeld => ?_); (· exact hHeld); clear hK K
    try simp only [zz]
    refine qy 2 ?_ ?_ ?_ hHeld ?_; rotate_left 1; (· rfl); (· intro w' hSw; (try clear hHeld); go_simp; try with_reducible rfl)
    try simp only [zz]
    refine qy 3 ?_ ?_ ?_ hHeld ?_; rotate_left 1; (· rfl); (· intro w' hSw; have p0 := zA p0 hSw; have p1 := zA p1 hSw; have m3 := zA m3 hSw; (try clear hHeld); go_simp; try with_reducible rfl)
    try simp only [zz]
    refine Go.Proofs.YtkoidahgbbabiaaGreat.rc 5 ?_ fun K hK => ?_; (· rfl); (try clear hb); go_simp; (refine (GN.out _ hHeld).mono ?_; rintro e w1 ⟨rfl, hb⟩); (try replace hz := (hb.block _ (zE hz)).trans hz); go_wp2_with fail; refine hK.out _ _ ?_ (fun hHeld => ?_); (· exact hHeld.trans (hb.mono hHeld.size)); clear hK K
    try simp only [zz]
    refine qy 6 ?_ ?_ ?_ hHeld ?_; rotate_left 1; (· rfl); (· intro w' hSw; (try clear hHeld); go_simp; try with_reducible rfl)
    try simp only [zz]
    refine qy 7 ?_ ?_ ?_ hHeld ?_; rotate_left 1; (· rfl); (· intro w' hSw; (try clear hHeld); go_simp; try with_reducible rfl)
    try simp only [zz]
    refine qy 8 ?_ ?_ ?_ hHeld ?_; rotate_left 1; (· rfl); (· intro w' hSw; (try clear hHeld); go_simp; try with_reducible rfl)
    try simp only [zz]
    refine Go.Proofs.YtkoidahgbbabiaaGreat.rc 10 ?_ fun K hK => ?_; (· rfl); (try clear hb); refine zG 61 (.tmp 11) (.tmp 32) rfl _ rfl 61 (rtC 0 (0, 0) av0) _ rfl hz (by kernel_rfl) rfl (rt_one _ _ _) ?_; refine zT hz (p := K _) ?_; intro w2 hr hk2; refine hK.out _ _ ?_ (fun hHeld => ?_); (· exact hHeld.trans (hk2.below hHeld.size (by rintro k rfl; exact hgs))); clear hK K
    try simp only [Act.put]
    refine qy 11 ?_ ?_ ?_ hHeld ?_; rotate_left 1; (· rfl); (· intro w' hSw; (try clear hHeld); go_simp; try with_reducible rfl)
    try simp only [zz]
    refine wpAnyH_done (by kernel_rfl) ?_ _
    go_wp2_with fail
    go_meet
    exact ⟨rfl, zh hHeld⟩
  case rest =>
   obtain ⟨rfl, HH⟩ := hcut
   obtain ⟨wd, hwd⟩ : ∃ wd : World, wd = wc := ⟨_, rfl⟩
   rw [← hwd] at HH ⊢
   have BV := zh (zC B0.out HH.out)
   clear hwd HH p0 p1 m3 mas f1
   go_upto_region 5 with (fail)
   refine wp_region_held_drew (S := fun w' => Below wd.heap.size wd w') (by kernel_rfl) ?_ (fun hHeld => ?_)
   ·exact (Below.refl _ _).drew
   generalize World.drew wd = wz at hHeld ⊢
   refine qy 0 ?_ ?_ ?_ hHeld ?_; rotate_left 1; (· rfl); (· intro w' hSw; (try clear hHeld); go_simp; try with_reducible rfl)
   try simp only [zz]
   refine qy 1 ?_ ?_ ?_ hHeld ?_; rotate_left 1; (· rfl); (· intro w' hSw; (try clear hHeld); go_simp; try with_reducible rfl)
   try simp only [zz]
   refine rgn (i := 2) (atN rfl) (by kernel_rfl) (fun _ _ _ h => h) ?_ hHeld ?_; (· rfl)
   try simp only [zz]
   refine rgn (i := 3) (atN rfl) (by kernel_rfl) (fun _ _ _ h => h) ?_ hHeld ?_; (· rfl)
   try simp only [zz]
   refine rgn (i := 4) (atN rfl) (by kernel_rfl) (fun _ _ _ h => h) ?_ hHeld ?_; (· rfl)
   try simp only [zz]
   refine rgn (i := 5) (atN rfl) (by kernel_rfl) (fun _ _ _ h => h) ?_ hHeld ?_; (· rfl)
   try simp only [zz]
   refine rgn (i := 6) (atN rfl) (by kernel_rfl) (fun _ _ _ h => h) ?_ hHeld ?_; (· rfl)
   try simp only [zz]
   refine rgn (i := 7) (atN rfl) (by kernel_rfl) (fun _ _ _ h => h) ?_ hHeld ?_; (· rfl)
   try simp only [zz]
   refine rgn (i := 8) (atN rfl) (by kernel_rfl) (fun _ _ _ h => h) ?_ hHeld ?_; (· rfl)
   try simp only [zz]
   refine rgn (i := 9) (atN rfl) (by kernel_rfl) (fun _ _ _ h => h) ?_ hHeld ?_; (· rfl)
   try simp only [zz]
   refine rgn (i := 10) (atN rfl) (by kernel_rfl) (fun _ _ _ h => h) ?_ hHeld ?_; (· rfl)
   try simp only [zz]
   refine rgn (i := 11) (atN rfl) (by kernel_rfl) (fun _ _ _ h => h) ?_ hHeld ?_; (· rfl)
   try simp only [zz]
   refine rgn (i := 12) (atN rfl) (by kernel_rfl) (fun _ _ _ h => h) ?_ hHeld ?_; (· rfl)
   try simp only [zz]
   refine rgn (i := 13) (atN rfl) (by kernel_rfl) (fun _ _ _ h => h) ?_ hHeld ?_; (· rfl)
   try simp only [zz]
   refine rgn (i := 14) (atN rfl) (by kernel_rfl) (fun _ _ _ h => h) ?_ hHeld ?_; (· rfl)
   try simp only [zz]
   refine rgn (i := 15) (atN rfl) (by kernel_rfl) (fun _ _ _ h => h) ?_ hHeld ?_; (· rfl)
   try simp only [zz]
   refine qy 16 ?_ ?_ ?_ hHeld ?_; rotate_left 1; (· rfl); (· intro w' hSw; (try clear hHeld); go_simp; try with_reducible rfl)
   try simp only [zz]
   refine qy 17 ?_ ?_ ?_ hHeld ?_; rotate_left 1; (· rfl); (· intro w' hSw; (try clear hHeld); go_simp; try with_reducible rfl)
   try simp only [zz]
   refine wpAnyH_done (by kernel_rfl) ?_ _
   have BV2 := zh (zC BV.out hHeld)
   clear hHeld
   go_wp2_with fail
   go_ret
   exact ⟨by rw [SV.out]; rfl, BV2.out⟩
 | some a =>
  have GN : Hid (∀ w', Below W0.heap.size W0 w' → Calls Tryz.prog 75 #[.pointer (some ⟨l.rb, 0, none⟩), .agg #[.int .u32 p.1, .int .i64 p.2]] w' fun e w2 => ∃ v : AV, e = .returned (.tuple #[.agg (rtC i p v), .bool true]) ∧ Fresh w'.heap.size w2 (fun W => AvAt W a v) ∧ Below w'.heap.size w' w2) := zh (fun w' hb => (GT0.out w' hb).mono fun e w2 h => by
   rcases h with ⟨h1, -⟩ | ⟨b, v, h1, h2, -, h4, h5⟩
   ·rw [hg] at h1; cases h1
   ·rw [hg] at h1
    injection h1 with h1
    subst h1
    exact ⟨v, h2, h4.imp fun _ h => h.at, h5⟩)
  have SV : Hid (goesS S.own S.bl m.R i j t p = goesB S.own S.bl a i j t) := zh (by unfold goesS; rw [hg])
  clear hg GT0
  go_cut [11, 12] from 25 to 33 (fun s8 s9 wx => ∃ (g8 : Nat) (v : AV) (lo : Nat), s8 = .pointer (some ⟨g8, 0, none⟩) ∧ s9 = .bool true ∧ Hid (Below W0.heap.size W0 wx ∧ wx.heap[g8]? = some (.cells (rtC i p v) 61 (0, 0)) ∧ W0.heap.size ≤ lo ∧ Fresh lo wx (fun W => AvAt W a v) ∧ W0.heap.size ≤ g8))
  case first =>
   refine wp_region_held_drew (S := fun w' => Below W0.heap.size W0 w') (by kernel_rfl) ?_ (fun hHeld => ?_)
   ·exact (Below.refl _ _).drew
   generalize World.drew W0 = wd at hHeld ⊢
   refine qy 0 ?_ ?_ ?_ hHeld ?_; rotate_left 1; (· rfl); (· intro w' hSw; (try clear hHeld); go_simp; try with_reducible rfl)
   try simp only [zz]
   refine qy 4 ?_ ?_ ?_ hHeld ?_; rotate_left 1; (· rfl); (· intro w' hSw; have p0 := zA p0 hSw; have p1 := zA p1 hSw; have m3 := zA m3 hSw; (try clear hHeld); go_simp; try with_reducible rfl)
   try simp only [zz]
   refine zI (i := 1) (j := 9) (atS at0) (atS (atS (atS (atS (atS (atS (atS (atS (atS at0))))))))) (by kernel_rfl) ?_ ?_ (fun K hK => ?_) (fun K hK => ?_)
   ·rfl
   ·rfl
   ·(try clear hb); go_simp; go_wp2_with fail; refine hK.out _ _ ?_ (fun hHeld => ?_); (· exact hHeld); clear hK K
    try simp only [zz]
    refine qy 2 ?_ ?_ ?_ hHeld ?_; rotate_left 1; (· rfl); (· intro w' hSw; (try clear hHeld); go_simp; try with_reducible rfl)
    try simp only [zz]
    refine qy 3 ?_ ?_ ?_ hHeld ?_; rotate_left 1; (· rfl); (· intro w' hSw; have p0 := zA p0 hSw; have p1 := zA p1 hSw; have m3 := zA m3 hSw; (try clear hHeld); go_simp; try with_reducible rfl)
    try simp only [zz]
    refine zI (i := 5) (j := 9) (atS (atS (atS (atS (atS at0))))) (atS (atS (atS (atS (atS (atS (atS (atS (atS at0))))))))) (by kernel_rfl) ?_ ?_ (fun K hK => ?_) (fun K hK => ?_)
    ·rfl
    ·rfl
    ·(try clear hb); go_simp; have hlo := hHeld.size; (try have hzl := zE hz); refine (GN.out _ hHeld).mono ?_; rintro e wg ⟨v, rfl, fr0, hb⟩; have fr := fresh_hi fr0; clear fr0; (try replace hz := (hb.block _ (zE hz)).trans hz); go_wp2_with fail; refine hK.out _ _ ?_ (fun hHeld => ?_); (· exact zC hHeld hb); clear hK K
     try simp only [zz]
     refine qy 6 ?_ ?_ ?_ hHeld ?_; rotate_left 1; (· rfl); (· intro w' hSw; (try clear hHeld); go_simp; try with_reducible rfl)
     try simp only [zz]
     refine qy 7 ?_ ?_ ?_ hHeld ?_; rotate_left 1; (· rfl); (· intro w' hSw; (try clear hHeld); go_simp; try with_reducible rfl)
     try simp only [zz]
     refine qy 8 ?_ ?_ ?_ hHeld ?_; rotate_left 1; (· rfl); (· intro w' hSw; (try clear hHeld); go_simp; try with_reducible rfl)
     try simp only [zz]
     refine Go.Proofs.YtkoidahgbbabiaaGreat.rc 9 ?_ fun K hK => ?_; (· rfl); (try clear hb); go_simp; refine box_zrt (p := K _) ?_; intro w1 hz hb1; have hgs := hHeld.size; (try replace fr := fr.below hb1); refine hK.out _ _ ?_ (fun hHeld => ?_); (· exact zC hHeld hb1); clear hK K
     try simp only [zz]
     refine Go.Proofs.YtkoidahgbbabiaaGreat.rc 10 ?_ fun K hK => ?_; (· rfl); (try clear hb); refine zG 61 (.tmp 11) (.tmp 32) rfl _ rfl 61 (rtC 0 (0, 0) av0) _ rfl hz (by kernel_rfl) rfl (rt_one _ _ _) ?_; have hfx := hgs; refine zT hz (p := K _) ?_; intro w2 hr hk2; refine hK.out _ _ ?_ (fun hHeld => ?_); (· exact hHeld.trans (hk2.below hHeld.size (by rintro k rfl; exact hgs))); clear hK K
     try simp only [Act.put]
     refine qy 11 ?_ ?_ ?_ hHeld ?_; rotate_left 1; (· rfl); (· intro w' hSw; (try clear hHeld); go_simp; try with_reducible rfl)
     try simp only [zz]
     refine wpAnyH_done (by kernel_rfl) ?_ _
     go_wp2_with fail
     go_meet
     exact ⟨_, v, _, rfl, rfl, zh ⟨hHeld, hr, hlo, (fr.kept hk2 (fun k' _ hl e => by omega)).wide (fun _ hk _ => hk.1), hgs⟩⟩
    ·(try clear hb); go_simp; refine box_zrt (p := K _) ?_; intro w1 hz hb1; have hgs := hHeld.size; (try replace fr := fr.below hb1); refine hK.out _ _ ?_ (fun hHeld => ?_); (· exact zC hHeld hb1); clear hK K
     try simp only [zz]
     refine Go.Proofs.YtkoidahgbbabiaaGreat.rc 5 ?_ fun K hK => ?_; (· rfl); (try clear hb); go_simp; have hlo := hHeld.size; (try have hzl := zE hz); refine (GN.out _ hHeld).mono ?_; rintro e wg ⟨v, rfl, fr0, hb⟩; have fr := fresh_hi fr0; clear fr0; (try replace hz := (hb.block _ (zE hz)).trans hz); go_wp2_with fail; refine hK.out _ _ ?_ (fun hHeld => ?_); (· exact zC hHeld hb); clear hK K
     try simp only [zz]
     refine qy 6 ?_ ?_ ?_ hHeld ?_; rotate_left 1; (· rfl); (· intro w' hSw; (try clear hHeld); go_simp; try with_reducible rfl)
     try simp only [zz]
     refine qy 7 ?_ ?_ ?_ hHeld ?_; rotate_left 1; (· rfl); (· intro w' hSw; (try clear hHeld); go_simp; try with_reducible rfl)
     try simp only [zz]
     refine qy 8 ?_ ?_ ?_ hHeld ?_; rotate_left 1; (· rfl); (· intro w' hSw; (try clear hHeld); go_simp; try with_reducible rfl)
     try simp only [zz]
     refine Go.Proofs.YtkoidahgbbabiaaGreat.rc 10 ?_ fun K hK => ?_; (· rfl); (try clear hb); refine zG 61 (.tmp 11) (.tmp 32) rfl _ rfl 61 (rtC 0 (0, 0) av0) _ rfl hz (by kernel_rfl) rfl (rt_one _ _ _) ?_; have hfx := hgs; refine zT hz (p := K _) ?_; intro w2 hr hk2; refine hK.out _ _ ?_ (fun hHeld => ?_); (· exact hHeld.trans (hk2.below hHeld.size (by rintro k rfl; exact hgs))); clear hK K
     try simp only [Act.put]
     refine qy 11 ?_ ?_ ?_ hHeld ?_; rotate_left 1; (· rfl); (· intro w' hSw; (try clear hHeld); go_simp; try with_reducible rfl)
     try simp only [zz]
     refine wpAnyH_done (by kernel_rfl) ?_ _
     go_wp2_with fail
     go_meet
     exact ⟨_, v, _, rfl, rfl, zh ⟨hHeld, hr, hlo, (fr.kept hk2 (fun k' _ hl e => by omega)).wide (fun _ hk _ => hk.1), hgs⟩⟩
   ·(try clear hb); go_simp; refine box_zrt (p := K _) ?_; intro w1 hz hb1; have hgs := hHeld.size; (try replace fr := fr.below hb1); refine hK.out _ _ ?_ (fun hHeld => ?_); (· exact zC hHeld hb1); clear hK K
    try simp only [zz]
    refine Go.Proofs.YtkoidahgbbabiaaGreat.rc 1 ?_ fun K hK => ?_; (· rfl); (try clear hb); go_simp; go_wp2_with fail; refine hK.out _ _ ?_ (fun hHeld => ?_); (· exact hHeld); clear hK K
    try simp only [zz]
    refine qy 2 ?_ ?_ ?_ hHeld ?_; rotate_left 1; (· rfl); (· intro w' hSw; (try clear hHeld); go_simp; try with_reducible rfl)
    try simp only [zz]
    refine qy 3 ?_ ?_ ?_ hHeld ?_; rotate_left 1; (· rfl); (· intro w' hSw; have p0 := zA p0 hSw; have p1 := zA p1 hSw; have m3 := zA m3 hSw; (try clear hHeld); go_simp; try with_reducible rfl)
    try simp only [zz]
    refine Go.Proofs.YtkoidahgbbabiaaGreat.rc 5 ?_ fun K hK => ?_; (· rfl); (try clear hb); go_simp; have hlo := hHeld.size; (try have hzl := zE hz); refine (GN.out _ hHeld).mono ?_; rintro e wg ⟨v, rfl, fr0, hb⟩; have fr := fresh_hi fr0; clear fr0; (try replace hz := (hb.block _ (zE hz)).trans hz); go_wp2_with fail; refine hK.out _ _ ?_ (fun hHeld => ?_); (· exact zC hHeld hb); clear hK K
    try simp only [zz]
    refine qy 6 ?_ ?_ ?_ hHeld ?_; rotate_left 1; (· rfl); (· intro w' hSw; (try clear hHeld); go_simp; try with_reducible rfl)
    try simp only [zz]
    refine qy 7 ?_ ?_ ?_ hHeld ?_; rotate_left 1; (· rfl); (· intro w' hSw; (try clear hHeld); go_simp; try with_reducible rfl)
    try simp only [zz]
    refine qy 8 ?_ ?_ ?_ hHeld ?_; rotate_left 1; (· rfl); (· intro w' hSw; (try clear hHeld); go_simp; try with_reducible rfl)
    try simp only [zz]
    refine Go.Proofs.YtkoidahgbbabiaaGreat.rc 10 ?_ fun K hK => ?_; (· rfl); (try clear hb); refine zG 61 (.tmp 11) (.tmp 32) rfl _ rfl 61 (rtC 0 (0, 0) av0) _ rfl hz (by kernel_rfl) rfl (rt_one _ _ _) ?_; have hfx := hgs; refine zT hz (p := K _) ?_; intro w2 hr hk2; refine hK.out _ _ ?_ (fun hHeld => ?_); (· exact hHeld.trans (hk2.below hHeld.size (by rintro k rfl; exact hgs))); clear hK K
    try simp only [Act.put]
    refine qy 11 ?_ ?_ ?_ hHeld ?_; rotate_left 1; (· rfl); (· intro w' hSw; (try clear hHeld); go_simp; try with_reducible rfl)
    try simp only [zz]
    refine wpAnyH_done (by kernel_rfl) ?_ _
    go_wp2_with fail
    go_meet
    exact ⟨_, v, _, rfl, rfl, zh ⟨hHeld, hr, hlo, (fr.kept hk2 (fun k' _ hl e => by omega)).wide (fun _ hk _ => hk.1), hgs⟩⟩
  case rest =>
   obtain ⟨g8, v, lo, rfl, rfl, HH⟩ := hcut
   obtain ⟨wd, hwd⟩ : ∃ wd : World, wd = wc := ⟨_, rfl⟩
   rw [← hwd] at HH ⊢
   have RQ := zh (rt_range HH.out.2.1)
   have AV := zh HH.out.2.2.2.1.self
   have BV := zh (zC B0.out HH.out.1)
   replace mas := zA mas HH.out.1
   replace f1 := zA f1 HH.out.1
   have GB := zh (fun w' (hb : Below wd.heap.size wd w') => av_Goes fb S.own S.bl a v i j t HIJ.out.1 HIJ.out.2 w' (FL.out w' (zC BV.out hb)) (AV.out.below hb))
   obtain ⟨z, hz⟩ : ∃ z, goesB S.own S.bl a i j t = z := ⟨_, rfl⟩
   rw [hz] at GB SV
   clear hwd HH p0 p1 m3 hz
   go_upto_region 5 with (fail)
   refine wp_region_held_drew (S := fun w' => Below wd.heap.size wd w') (by kernel_rfl) ?_ (fun hHeld => ?_)
   ·exact (Below.refl _ _).drew
   generalize World.drew wd = wz at hHeld ⊢
   refine qy 0 ?_ ?_ ?_ hHeld ?_; rotate_left 1; (· rfl); (· intro w' hSw; (try clear hHeld); go_simp; try with_reducible rfl)
   try simp only [zz]
   refine qy 1 ?_ ?_ ?_ hHeld ?_; rotate_left 1; (· rfl); (· intro w' hSw; (try clear hHeld); go_simp; try with_reducible rfl)
   try simp only [zz]
   first | (refine rgn (i := 2) (atN rfl) (by kernel_rfl) (fun _ _ _ h => h) ?_ hHeld ?_; (· rfl)) | (refine qy 2 ?_ ?_ ?_ hHeld ?_; rotate_left 1; (· rfl); (· intro w' hSw; (try clear hHeld); go_simp; try with_reducible rfl))
   try simp only [zz]
   first | (refine rgn (i := 3) (atN rfl) (by kernel_rfl) (fun _ _ _ h => h) ?_ hHeld ?_; (· rfl)) | (refine qy 3 ?_ ?_ ?_ hHeld ?_; rotate_left 1; (· rfl); (· intro w' hSw; (try clear hHeld); go_simp; try with_reducible rfl))
   try simp only [zz]
   first | (refine rgn (i := 4) (atN rfl) (by kernel_rfl) (fun _ _ _ h => h) ?_ hHeld ?_; (· rfl)) | (refine qy 4 ?_ ?_ ?_ hHeld ?_; rotate_left 1; (· rfl); (· intro w' hSw; (try clear hHeld); go_simp; try with_reducible rfl))
   try simp only [zz]
   first | (refine rgn (i := 5) (atN rfl) (by kernel_rfl) (fun _ _ _ h => h) ?_ hHeld ?_; (· rfl)) | (refine qy 5 ?_ ?_ ?_ hHeld ?_; rotate_left 1; (· rfl); (· intro w' hSw; have f1 := zA f1 hSw; have mas := zA mas hSw; (try clear hHeld); go_simp; try with_reducible rfl))
   try simp only [zz]
   first | (refine rgn (i := 6) (atN rfl) (by kernel_rfl) (fun _ _ _ h => h) ?_ hHeld ?_; (· rfl)) | (refine qy 6 ?_ ?_ ?_ hHeld ?_; rotate_left 1; (· rfl); (· intro w' hSw; (try clear hHeld); go_simp; try with_reducible rfl))
   try simp only [zz]
   first | (refine rgn (i := 7) (atN rfl) (by kernel_rfl) (fun _ _ _ h => h) ?_ hHeld ?_; (· rfl)) | (refine qy 7 ?_ ?_ ?_ hHeld ?_; rotate_left 1; (· rfl); (· intro w' hSw; refine exec_ldm 42 (.tmp 40) ?_ g8 3 ?_ v.C.toList _ (fun q u hq => zA (RQ.out q u hq) hSw) Tryz.underlying42 rfl sz_avS <;> rfl))
   try simp only [zz]
   first | (refine rgn (i := 8) (atN rfl) (by kernel_rfl) (fun _ _ _ h => h) ?_ hHeld ?_; (· rfl)) | (refine qy 8 ?_ ?_ ?_ hHeld ?_; rotate_left 1; (· rfl); (· intro w' hSw; (try clear hHeld); go_simp; try with_reducible rfl))
   try simp only [zz]
   first | (refine rgn (i := 9) (atN rfl) (by kernel_rfl) (fun _ _ _ h => h) ?_ hHeld ?_; (· rfl)) | (refine qy 9 ?_ ?_ ?_ hHeld ?_; rotate_left 1; (· rfl); (· intro w' hSw; (try clear hHeld); go_simp; try with_reducible rfl))
   try simp only [zz]
   first | (refine rgn (i := 10) (atN rfl) (by kernel_rfl) (fun _ _ _ h => h) ?_ hHeld ?_; (· rfl)) | (refine qy 10 ?_ ?_ ?_ hHeld ?_; rotate_left 1; (· rfl); (· intro w' hSw; (try clear hHeld); go_simp; try with_reducible rfl))
   try simp only [zz]
   first | (refine rgn (i := 11) (atN rfl) (by kernel_rfl) (fun _ _ _ h => h) ?_ hHeld ?_; (· rfl)) | (refine qy 11 ?_ ?_ ?_ hHeld ?_; rotate_left 1; (· rfl); (· intro w' hSw; (try clear hHeld); go_simp; try with_reducible rfl))
   try simp only [zz]
   first | (refine rgn (i := 12) (atN rfl) (by kernel_rfl) (fun _ _ _ h => h) ?_ hHeld ?_; (· rfl)) | (refine qy 12 ?_ ?_ ?_ hHeld ?_; rotate_left 1; (· rfl); (· intro w' hSw; (try clear hHeld); go_simp; try with_reducible rfl))
   try simp only [zz]
   first | (refine rgn (i := 13) (atN rfl) (by kernel_rfl) (fun _ _ _ h => h) ?_ hHeld ?_; (· rfl)) | (refine qy 13 ?_ ?_ ?_ hHeld ?_; rotate_left 1; (· rfl); (· intro w' hSw; (try clear hHeld); go_simp; try with_reducible rfl))
   try simp only [zz]
   first | (refine rgn (i := 14) (atN rfl) (by kernel_rfl) (fun _ _ _ h => h) ?_ hHeld ?_; (· rfl)) | (refine qy 14 ?_ ?_ ?_ hHeld ?_; rotate_left 1; (· rfl); (· intro w' hSw; have f1 := zA f1 hSw; have mas := zA mas hSw; (try clear hHeld); go_simp; try with_reducible rfl))
   try simp only [zz]
   first | (refine rgn (i := 15) (atN rfl) (by kernel_rfl) (fun _ _ _ h => h) ?_ hHeld ?_; (· rfl)) | (refine Go.Proofs.YtkoidahgbbabiaaGreat.rc 15 ?_ fun K hK => ?_; (· rfl); (try clear hb); go_simp; (refine (GB.out _ hHeld).mono ?_; rintro e w1 ⟨rfl, hb⟩); go_wp2_with fail; refine hK.out _ _ ?_ (fun hHeld => ?_); (· exact hHeld.trans (hb.mono hHeld.size)); clear hK K)
   try simp only [zz]
   refine qy 16 ?_ ?_ ?_ hHeld ?_; rotate_left 1; (· rfl); (· intro w' hSw; (try clear hHeld); go_simp; try with_reducible rfl)
   try simp only [zz]
   refine qy 17 ?_ ?_ ?_ hHeld ?_; rotate_left 1; (· rfl); (· intro w' hSw; (try clear hHeld); go_simp; try with_reducible rfl)
   try simp only [zz]
   refine wpAnyH_done (by kernel_rfl) ?_ _
   have BV2 := zh (zC BV.out hHeld)
   clear hHeld
   go_wp2_with fail
   go_ret
   exact ⟨by rw [SV.out]; rfl, BV2.out⟩
end
open Go.RowKit
def setBl (S : Sv) (i j : Nat) (b : Bool) : Sv := { S with bl := setWay S.bl (i * 16 + j) b }
def renew1 (j : Nat) (S : Sv) (p : Pf) : Sv := renewP S j p (saidS S.ms p)
def blockL (S : Sv) (j : Nat) (ps : List Pf) : Sv := ps.foldl (renew1 j) S
theorem blockL_snoc (S : Sv) (j : Nat) (ps : List Pf) (p : Pf) : blockL S j (ps ++ [p]) = renew1 j (blockL S j ps) p := by unfold blockL; rw [List.foldl_append]; rfl
theorem kin_block (j : Nat) : ∀ (ps : List Pf) (S : Sv), SvKin S (blockL S j ps)
 | [], S => SvKin.refl S
 | p :: ps, S => (kin_renew S j p _).trans (kin_block j ps (renew1 j S p))
theorem renewP_best (S : Sv) (j : Nat) (p : Pf) (l : List Cd) (k : Nat) (q : Pf) : (renewP S j p l).best k q = if k = j ∧ q = p then newBest S j l else S.best k q := rfl
theorem blockL_best (j : Nat) : ∀ (ps : List Pf) (S : Sv) (k : Nat) (q : Pf), (blockL S j ps).best k q = if k = j ∧ q ∈ ps then bestIn S j q else S.best k q
 | [], S, k, q => by rw [if_neg (by simp)]; rfl
 | p :: ps, S, k, q => by
  show (blockL (renew1 j S p) j ps).best k q = _
  rw [blockL_best j ps]
  have hk : SvKin S (renew1 j S p) := kin_renew S j p _
  rw [hk.bestIn]
  unfold renew1
  rw [renewP_best, newBest_said]
  by_cases e1 : k = j
  ·by_cases e2 : q ∈ ps
   ·rw [if_pos ⟨e1, e2⟩, if_pos ⟨e1, List.mem_cons_of_mem _ e2⟩]
   ·rw [if_neg (fun h => e2 h.2)]
    by_cases e3 : q = p
    ·subst e3; rw [if_pos ⟨e1, rfl⟩, if_pos ⟨e1, List.mem_cons_self ..⟩]
    ·rw [if_neg (fun h => e3 h.2), if_neg (by simp [e2, e3])]
  ·rw [if_neg (fun h => e1 h.1), if_neg (fun h => e1 h.1), if_neg (fun h => e1 h.1)]
theorem renewP_ms (S : Sv) (j : Nat) (p : Pf) (l : List Cd) (k : Nat) : (renewP S j p l).ms[k]? = (S.ms[k]?).map fun m => if k = j then m.mark p (m.there && !sameB (S.best j p) (newBest S j l)) else m := by
 unfold renewP
 rw [markS_get]
 rfl
theorem blockL_news (j : Nat) : ∀ (ps : List Pf) (S : Sv) (k : Nat) (m : Pm), S.ms[k]? = some m → ∃ n, (blockL S j ps).ms[k]? = some n ∧ n.there = m.there ∧ ∀ q, n.news q = (m.news q || (decide (k = j) && (m.there && (decide (q ∈ ps) && !sameB (S.best j q) (bestIn S j q)))))
 | [], S, k, m, hm => ⟨m, hm, rfl, fun q => by simp⟩
 | p :: ps, S, k, m, hm => by
  have h1 := renewP_ms S j p (saidS S.ms p) k
  rw [hm] at h1
  simp only [Option.map_some] at h1
  obtain ⟨n, n1, n2, n3⟩ := blockL_news j ps (renew1 j S p) k _ h1
  refine ⟨n, n1, ?_, fun q => ?_⟩
  ·rw [n2]; split <;> rfl
  ·rw [n3 q]
   have hk : SvKin S (renew1 j S p) := kin_renew S j p _
   rw [hk.bestIn]
   have hb : (renew1 j S p).best j q = if q = p then bestIn S j q else S.best j q := by
    unfold renew1
    rw [renewP_best, newBest_said]
    by_cases e : q = p
    ·subst e; rw [if_pos ⟨rfl, rfl⟩, if_pos rfl]
    ·rw [if_neg (fun h => e h.2), if_neg e]
   rw [hb]
   by_cases e : k = j
   ·simp only [e, if_true, decide_true, Bool.true_and]
    rw [mark_news, newBest_said]
    have hth : (m.mark p (m.there && !sameB (S.best j p) (bestIn S j p))).there = m.there := rfl
    rw [hth]
    by_cases e2 : q = p
    ·subst e2
     have : sameB (bestIn S j q) (bestIn S j q) = true := (sameB_iff _ _).2 rfl
     simp [this]
    ·have h3 : decide (q ∈ p :: ps) = decide (q ∈ ps) := by simp [e2]
     rw [if_neg e2, h3]
     simp [e2]
   ·simp [e]
theorem rt_at {w : World} {s : Option Addr} {n c i : Nat} {xs : List RE} (h : SlAt w 13 (fun x cs => cs = rtL i x) (.slice s n c) xs) {k : Nat} {x : RE} (hx : xs[k]? = some x) : ∃ g o, s = some ⟨g, o, none⟩ ∧ w.rangeAt g (o + k * 13) (rtL i x) := by
 obtain ⟨s', c', e, h1, h2, h3⟩ := h
 injection e with e _ _
 subst e
 have hi := (List.getElem?_eq_some_iff.1 hx).1
 obtain ⟨b, off, rfl, h4⟩ := h3 (by omega)
 obtain ⟨cs, -, rfl, hc⟩ := h4 k x hx
 exact ⟨b, off, rfl, fun j v hv => hc j v hv⟩
section
variable {w W W2 : World} {rho : Nat → Role} {sb fb : Nat} {ls : List Pl} {S : Sv} {A : Ab}
theorem IsAb.block (h : IsAb S A) (few : A.V.length ≤ 16) {i j : Nat} (hi : i < A.V.length) (hj : j < A.V.length) (b : Bool) (ps : List Pf) (hps : ∀ p, p ∈ ps ↔ (getL (A.R i) p).isSome = true) : IsAb (blockL (setBl S i j b) j ps) (A.block i j b) := by
 have hk := kin_block j ps (setBl S i j b)
 have hV : RV (blockL (setBl S i j b) j ps) = A.V := by rw [hk.RV]; exact h.V
 have hin : ∀ k q, bestIn (setBl S i j b) k q = bestV A.own (setWay A.bl (i * 16 + j) b) A.V k q := fun k q => by
  rw [bestIn_V]
  show bestV S.own (setWay S.bl (i * 16 + j) b) (RV S) k q = _
  rw [h.own, h.bl, h.V]
 have hold : ∀ k q, k < A.V.length → ¬ (k = j ∧ q ∈ ps) → A.best k q = bestV A.own (setWay A.bl (i * 16 + j) b) A.V k q := fun k q hkl hq => by
  refine bestV_congr rfl (fun n v v' hv hv' => ?_) fun n v a hv hg => ?_
  ·rw [hv] at hv'; injection hv' with hv'; subst hv'; exact ⟨rfl, rfl, rfl⟩
  ·unfold setWay
   rw [if_neg]
   intro e
   have hn := (List.getElem?_eq_some_iff.1 hv).1
   have e1 : n = i := by omega
   have e2 : k = j := by omega
   subst e1
   refine hq ⟨e2, (hps q).2 ?_⟩
   unfold Ab.R
   rw [hv]
   show (getL v.2.2 q).isSome = true
   rw [hg]; rfl
 have hbl : (blockL (setBl S i j b) j ps).bl = setWay A.bl (i * 16 + j) b := by
  rw [hk.bl]
  show setWay S.bl (i * 16 + j) b = _
  rw [h.bl]
 refine ⟨hk.own.trans h.own, hk.most.trans h.most, hbl, hV, ?_, ?_⟩
 ·intro k n hn
  obtain ⟨m, hm, -⟩ := hk.back hn
  obtain ⟨n', g1, g2, g3⟩ := blockL_news j ps _ k m hm
  rw [hn] at g1; injection g1 with g1; subst g1
  have hm : S.ms[k]? = some m := hm
  obtain ⟨h1, h2⟩ := h.mem k m hm
  refine ⟨g2.trans h1, fun q => ?_⟩
  rw [g3 q, h2 q, h1]
  unfold Ab.block Ab.turn
  simp only
  have hkl : k < A.V.length := by rw [← h.len]; exact (List.getElem?_eq_some_iff.1 hm).1
  by_cases e : k = j ∧ q ∈ ps
  ·obtain ⟨rfl, hq⟩ := e
   have hb : (setBl S i k b).best k q = A.best k q := h.best k q (by rw [h.len]; exact hkl)
   rw [hb, hin]
   simp [hq]
  ·have e2 : sameB (A.best k q) (bestV A.own (setWay A.bl (i * 16 + j) b) A.V k q) = true := (sameB_iff _ _).2 (hold k q hkl e)
   rw [e2]
   by_cases e3 : k = j
   ·have : ¬ q ∈ ps := fun h => e ⟨e3, h⟩
    simp [this]
   ·simp [e3]
 ·intro k q hkl
  rw [hk.len] at hkl
  have hkl : k < S.ms.length := hkl
  rw [blockL_best]
  show _ = bestV A.own (setWay A.bl (i * 16 + j) b) A.V k q
  by_cases e : k = j ∧ q ∈ ps
  ·rw [if_pos e, hin, e.1]
  ·rw [if_neg e]
   exact (h.best k q hkl).trans (hold k q (by rw [← h.len]; exact hkl) e)
theorem SrvM.setFil (h : SrvM W rho sb fb ls S) {bl' : Nat → Bool} (hk : Kept (fun k => k = fb) W W2) (hf : FilAt W2 fb S.own bl') : SrvM W2 rho sb fb ls { S with bl := bl' } ∧ Step rho rho W W2 := by
 have rf := h.bod.rfb
 refine ⟨⟨(h.top.kept hk fun k _ hF e => by
  have e : k = fb := e
  rw [e, rf] at hF; cases hF), ⟨hf, rf, h.bod.len, h.bod.few, ?_, fun k hk' => Nat.lt_of_lt_of_le (h.dom k hk') hk.size, h.bod.own1⟩, h.rsb⟩, ⟨fun _ _ => rfl, hk.imp fun k e => by
  have e : k = fb := e
  rw [e, rf]; intro e; cases e⟩⟩
 intro i m l hm hl
 exact (h.bod.mem i m l hm hl).kept (fun _ _ => rfl) hk fun k _ ho e => by
  have e : k = fb := e
  rw [e, rf] at ho
  rcases ho with e | e | e | e | e <;> cases e
set_option maxRecDepth 100000 in
theorem sv_Block_no (h : SrvM W rho sb fb ls S) {n k : Int} (hn : ¬ ((0 ≤ n ∧ n < (S.ms.length : Int)) ∧ (0 ≤ k ∧ k < (S.ms.length : Int)))) (b : Bool) : Calls Tryz.prog 26 #[.pointer (some ⟨sb, 0, none⟩), .int .i64 n, .int .i64 k, .bool b] W fun e w' => e = .returned (.int .i64 1) ∧ W = w' := by
 by_cases h1 : 0 ≤ n ∧ n < (S.ms.length : Int)
 ·obtain ⟨i, rfl⟩ := Int.eq_ofNat_of_zero_le h1.1
  obtain ⟨m, hm⟩ : ∃ m, S.ms[i]? = some m := ⟨_, List.getElem?_eq_getElem (by omega)⟩
  obtain ⟨l, hl, -⟩ := h.get hm
  have MB := zh (sv_member h hl)
  have MB2 := zh (sv_member_no h (n := k) (fun h2 => hn ⟨h1, h2⟩))
  clear h hn h1 hm hl
  go_enter Tryz.func26, Tryz.ntmps26
  go_wp2_with fail
  refine MB.out.mono ?_
  rintro e w1 ⟨rfl, rfl⟩
  go_wp2_with fail
  refine MB2.out.mono ?_
  rintro e w1 ⟨rfl, rfl⟩
  go_wp2_with fail
  go_ret
  exact ⟨rfl, rfl⟩
 ·have MB := zh (sv_member_no h h1)
  clear h hn h1
  go_enter Tryz.func26, Tryz.ntmps26
  go_wp2_with fail
  refine MB.out.mono ?_
  rintro e w1 ⟨rfl, rfl⟩
  go_wp2_with fail
  go_ret
  exact ⟨rfl, rfl⟩
def BlockPost (sb fb : Nat) (ls : List Pl) (S : Sv) (i j : Nat) (m : Pm) (b : Bool) (rho : Nat → Role) (W : World) (e : Ending) (w' : World) : Prop :=
 ∃ (rho' : Nat → Role) (ps : List Pf), e = .returned (.int .i64 0) ∧ (∀ p, p ∈ ps ↔ (getL m.R p).isSome = true) ∧ SrvM w' rho' sb fb ls (blockL (setBl S i j b) j ps) ∧ Step rho rho' W w'
set_option maxHeartbeats 6400000 in
set_option maxRecDepth 100000 in
theorem sv_Block (h : SrvM W rho sb fb ls S) {i j : Nat} {m n : Pm} (hm : S.ms[i]? = some m) (hn : S.ms[j]? = some n) (b : Bool) :
  Calls Tryz.prog 26 #[.pointer (some ⟨sb, 0, none⟩), .int .i64 i, .int .i64 j, .bool b] W (BlockPost sb fb ls S i j m b rho W) := by
 obtain ⟨l, hl, hM⟩ := h.get hm
 obtain ⟨l2, hl2, -⟩ := h.get hn
 obtain ⟨s, cap, -, cf, -⟩ := h.cells
 have few := h.bod.few
 have hi : i < 16 := by have := (List.getElem?_eq_some_iff.1 hm).1; omega
 have hj : j < 16 := by have := (List.getElem?_eq_some_iff.1 hn).1; omega
 have HS := zh h
 have HM := zh hm
 have HN := zh hn
 have HL := zh hl
 have MB := zh (sv_member h hl)
 have MB2 := zh (sv_member h hl2)
 have Fss := zh (ex_Set fb S.own S.bl i j b hi hj W h.bod.fil)
 clear h hm hn hl hl2 hM hi hj few
 go_enter Tryz.func26, Tryz.ntmps26
 go_wp2_with fail
 refine MB.out.mono ?_
 rintro e w1 ⟨rfl, rfl⟩
 go_wp2_with fail
 refine MB2.out.mono ?_
 rintro e w1 ⟨rfl, rfl⟩
 go_wp2_with fail
 refine Fss.out.mono ?_
 rintro e w2 ⟨rfl, hf, hk⟩
 have D := zh (HS.out.setFil hk hf)
 clear hf hk Fss cf MB MB2
 obtain ⟨S1, hS1⟩ : ∃ S1, setBl S i j b = S1 := ⟨_, rfl⟩
 have D1 : Hid (SrvM w2 rho sb fb ls S1 ∧ Step rho rho W w2) := zh (by rw [← hS1]; exact D.out)
 have HM1 : Hid (S1.ms[i]? = some m) := zh (by rw [← hS1]; exact HM.out)
 have HN1 : Hid (S1.ms[j]? = some n) := zh (by rw [← hS1]; exact HN.out)
 have E1 := zh hS1
 clear D hS1
 have hM1 := D1.out.1.bod.mem i m l HM1.out HL.out
 have m3 : w2.cell? ⟨l.mb, 3, none⟩ = some (.pointer (some ⟨l.rb, 0, none⟩)) := zB hM1.row 3
 have AL := zh (ad_All w2 hM1.rib)
 have RGT : Hid (∀ p, (getL m.R p).isSome = true → RgtP p) := zh (fun p hp => rts_right hM1.rib hp)
 clear hM1
 go_wp2_with fail
 refine AL.out.mono ?_
 rintro e w3 ⟨v, vs, rfl, re, -, rm, hb3⟩
 obtain ⟨sv, cv, rfl, -⟩ := zV re.own
 have D3 := zh (And.intro (D1.out.1.below hb3) (D1.out.2.grow hb3))
 have RW : Hid (On (fun k => rho k = .no) w3 (fun W => SlAt W 13 (fun x cs => cs = rtL i x) (.slice sv vs.length cv) vs)) := zh (((own_fresh re.own).wide (G := fun k => rho k = .no) fun k hk _ => D1.out.1.newNo hk).imp fun V hV => own_slat (rtL_len i) hV)
 have RM := zh rm
 have vl : vs.length ≤ 9223372036854775807 := by
  obtain ⟨sa, cap, -, g1, g2, -⟩ := RW.out.self
  exact Nat.le_trans g1 g2
 have S0 : Hid (SrvM w3 rho sb fb ls (blockL S1 j ((vs.map (·.p)).take 0))) := zh D3.out.1
 have T0 := zh D3.out.2
 clear re rm hb3 AL m3 D3
 go_wp2_with fail
 go_loopw [41] (fun t41 wr => ∃ (k : Nat) (rho1 : Nat → Role), k ≤ vs.length ∧ t41 = .int .i64 k ∧ Hid (SrvM wr rho1 sb fb ls (blockL S1 j ((vs.map (·.p)).take k))) ∧ Hid (Step rho rho1 W wr) ∧ Hid (Step rho rho1 w3 wr)) (fun t41 _ => vs.length - (intOf t41).toNat)
 case atStart => exact ⟨0, rho, by omega, rfl, S0, T0, zh Step.refl⟩
 case round =>
  clear S0 T0
  obtain ⟨k, rho1, hk, rfl, SK, TK, T3⟩ := hrel
  by_cases hkl : k < vs.length
  ·obtain ⟨x, hx⟩ : ∃ x, vs[k]? = some x := ⟨_, List.getElem?_eq_getElem hkl⟩
   obtain ⟨g, o, rfl, hrg⟩ := rt_at (T3.out.free RW.out).self hx
   have RG := zh hrg
   have HP := zh (RGT.out x.p ((RM.out x.p).1 (List.mem_map.2 ⟨x, List.mem_of_getElem? hx, rfl⟩)))
   have NX : Hid (blockL S1 j ((vs.map (·.p)).take (k + 1)) = renew1 j (blockL S1 j ((vs.map (·.p)).take k)) x.p) := zh (by
    rw [take_snoc (x := x.p) (by rw [List.getElem?_map, hx]; rfl), blockL_snoc])
   obtain ⟨T, hT⟩ : ∃ T, blockL S1 j ((vs.map (·.p)).take k) = T := ⟨_, rfl⟩
   rw [hT] at SK NX
   obtain ⟨n', hn'⟩ : ∃ n', T.ms[j]? = some n' := by
    obtain ⟨n', h1, -⟩ := (kin_block j ((vs.map (·.p)).take k) S1).mem j n HN1.out
    rw [hT] at h1
    exact ⟨n', h1⟩
   have HN2 := zh hn'
   have k0 : (0 : Int) ≤ (k : Int) := by omega
   have k1 : (k : Int) < (vs.length : Int) := by omega
   clear hx hrg hT hn'
   go_wp2_with ((with_reducible refine zM (X := .load 61 (.tmp 43)) ?_ ?_); (· rfl))
   unfold Halt
   refine ldm_at (by rfl) 61 (.tmp 43) rfl g (o + k * 13) rfl (rtL i x) _ RG.out Tryz.underlying61 rfl sz_rt ?_
   go_wp2_with ((with_reducible refine zM (X := .store 61 (.tmp 12) (.tmp 44)) ?_ ?_); (· rfl))
   unfold Halt
   refine st_fresh rfl 61 (.tmp 12) (.tmp 44) rfl rfl _ (rtC i x.p x.v) rfl sz_rt rfl (rt_one _ _ _) ?_
   obtain ⟨w4, hw4, q4, hb4, -⟩ := box1 wr (rtC i x.p x.v) 61
   rw [← hw4]
   obtain ⟨pb, hpb⟩ : ∃ pb, pb = wr.heap.size := ⟨_, rfl⟩
   rw [← hpb] at q4 ⊢
   have c0 : w4.cell? ⟨pb, 1, none⟩ = some (.int .u32 x.p.1) := zB q4 1
   have c1 : w4.cell? ⟨pb, 2, none⟩ = some (.int .i64 x.p.2) := zB q4 2
   have SK4 := zh (SK.out.below hb4)
   have TK4 := zh (TK.out.grow hb4)
   have T34 := zh (T3.out.grow hb4)
   have NPB : Hid (¬ (rho1 pb ≠ .no)) := zh (fun h => h (SK.out.newNo (Nat.le_of_eq hpb.symm)))
   have SKD := zh (SK4.out.below (Below.refl w4.heap.size w4).drew)
   clear hw4 q4 hb4 SK TK T3 RG hpb
   simp only [Act.put]
   go_upto_region 10 with (fail)
   refine wp_region_held_drew (S := fun w' => Kept (fun k => rho1 k ≠ .no) w4 w') (by kernel_rfl) ?_ (fun hHeld => ?_)
   ·exact (Kept.refl _ _).drew
   generalize World.drew w4 = wd at SKD hHeld ⊢
   refine qy 0 ?_ ?_ ?_ hHeld ?_; rotate_left 1; (· rfl); (· intro w' hSw; (try clear hHeld); go_simp; try with_reducible rfl)
   try simp only [zz]
   refine qy 1 ?_ ?_ ?_ hHeld ?_; rotate_left 1; (· rfl); (· intro w' hSw; (try clear hHeld); go_simp; try with_reducible rfl)
   try simp only [zz]
   refine qy 2 ?_ ?_ ?_ hHeld ?_; rotate_left 1; (· rfl); (· intro w' hSw; (try clear hHeld); go_simp; try with_reducible rfl)
   try simp only [zz]
   refine qy 3 ?_ ?_ ?_ hHeld ?_; rotate_left 1; (· rfl); (· intro w' hSw; have c0 := hSw.cell c0 NPB.out; have c1 := hSw.cell c1 NPB.out; (try clear hHeld); go_simp; try with_reducible rfl)
   try simp only [zz]
   refine qy 4 ?_ ?_ ?_ hHeld ?_; rotate_left 1; (· rfl); (· intro w' hSw; (try clear hHeld); go_simp; try with_reducible rfl)
   try simp only [zz]
   refine qy 5 ?_ ?_ ?_ hHeld ?_; rotate_left 1; (· rfl); (· intro w' hSw; (try clear hHeld); go_simp; try with_reducible rfl)
   try simp only [zz]
   refine qy 6 ?_ ?_ ?_ hHeld ?_; rotate_left 1; (· rfl); (· intro w' hSw; have c0 := hSw.cell c0 NPB.out; have c1 := hSw.cell c1 NPB.out; (try clear hHeld); go_simp; try with_reducible rfl)
   try simp only [zz]
   refine Go.Proofs.YtkoidahgbbabiaaGreat.rc 7 ?_ fun K hK => ?_; (· rfl); (try clear hb); go_simp; refine (sv_said SKD.out x.p HP.out.1).mono ?_; rintro e wq ⟨sx, cx, xs, A, rfl, ox, xe, hbq⟩; have SKQ := zh (SKD.out.below hbq); have AC := zh (said_all SKQ.out HP.out xe); have XE := zh xe; have XN := zh (ox.fresh.wide (G := fun k => rho1 k = .no) fun k hk _ => SKD.out.newNo hk); have STD := zh (hHeld.grow hbq); go_wp2_with fail; refine hK.out _ _ ?_ (fun hHeld => ?_); (· exact hHeld.grow hbq); clear hK K
   try simp only [zz]
   refine Go.Proofs.YtkoidahgbbabiaaGreat.rc 8 ?_ fun K hK => ?_; (· rfl); (try clear hb); go_simp; refine (sv_renew SKQ.out HN2.out x.p HP.out (.slice sx xs.length cx) xs XN.out AC.out).mono ?_; rintro e wz ⟨rho3, rfl, hs3, st3⟩; go_wp2_with fail; refine hK.out _ _ ?_ (fun hHeld => ?_); (· exact hHeld.trans st3.kept); clear hK K
   try simp only [zz]
   refine wpAnyH_done (by kernel_rfl) ?_ _
   have SF : Hid (SrvM wz rho3 sb fb ls (blockL S1 j ((vs.map (·.p)).take (k + 1)))) := zh (by
    rw [NX.out]
    unfold renew1
    rw [← XE.out]
    exact hs3)
   have SD : Hid (Step rho1 rho3 w4 wz) := zh ⟨fun k hk => st3.same k (Nat.lt_of_lt_of_le hk STD.out.size), STD.out.trans st3.kept⟩
   have TF := zh (TK4.out.trans SD.out)
   have TF3 := zh (T34.out.trans SD.out)
   clear hHeld hs3 st3 SD STD XN SKQ SKD c0 c1
   go_wp2_with fail
   exact ⟨⟨k + 1, rho3, by omega, by go_num, SF, TF, TF3⟩, by simp [intOf]; omega⟩
  ·obtain rfl : k = vs.length := by omega
   have e : (vs.map (·.p)).take vs.length = vs.map (·.p) := List.take_of_length_le (by rw [List.length_map]; exact Nat.le_refl _)
   rw [e] at SK
   have SF := zh SK.out
   clear SK hk hkl
   go_wp2_with fail
   refine bodyPost_ret (v := .int .i64 0) (by simp [results, Tryz.results26, go_sem]) rfl ⟨rho1, _, rfl, fun p => RM.out p, by rw [E1.out]; exact SF.out, TK.out⟩
end
open Go.RowKit
def Ab.as_ (A : Ab) (j : Nat) : Int := ((A.V[j]?).map (·.1)).getD 0
def Ab.goes (A : Ab) (i j : Nat) (p : Pf) : Bool := goesS A.own A.bl (A.R i) i j (A.as_ j) p
section
variable {w W : World} {rho : Nat → Role} {sb fb : Nat} {ls : List Pl} {S : Sv} {A : Ab}
theorem IsAb.asO (h : IsAb S A) {j : Nat} {m : Pm} (hm : S.ms[j]? = some m) : A.as_ j = m.as_ := by
 unfold Ab.as_
 rw [(h.get hm).1]
 rfl
theorem ls_Offers (h : LSv w W rho sb fb ls A) {i : Nat} (hi : i < A.V.length) (p : Pf) (hp : KOk p) : Calls Tryz.prog 30 #[.pointer (some ⟨sb, 0, none⟩), .int .i64 i, .agg #[.int .u32 p.1, .int .i64 p.2]] W (OffersPost (A.offs i p) p W) := by
 obtain ⟨S, h1, h2⟩ := h.srv
 obtain ⟨m, hm⟩ := h2.at hi
 have := sv_Offers h1 hm p hp
 rw [off_V, h2.own, h2.bl, h2.V] at this
 exact this
theorem ls_Offers_no (h : LSv w W rho sb fb ls A) {n : Int} (hn : ¬ (0 ≤ n ∧ n < (A.V.length : Int))) (p : Pf) : Calls Tryz.prog 30 #[.pointer (some ⟨sb, 0, none⟩), .int .i64 n, .agg #[.int .u32 p.1, .int .i64 p.2]] W fun e w' => e = .returned (.slice none 0 0) ∧ Below W.heap.size W w' := by
 obtain ⟨S, h1, h2⟩ := h.srv
 exact sv_Offers_no h1 (by rw [h2.len]; exact hn) p
theorem ls_Goes (h : LSv w W rho sb fb ls A) {i j : Nat} (hi : i < A.V.length) (hj : j < A.V.length) (p : Pf) (hp : OkP p) :
  Calls Tryz.prog 31 #[.pointer (some ⟨sb, 0, none⟩), .int .i64 i, .int .i64 j, .agg #[.int .u32 p.1, .int .i64 p.2]] W fun e w' => e = .returned (.bool (A.goes i j p)) ∧ Below W.heap.size W w' := by
 obtain ⟨S, h1, h2⟩ := h.srv
 obtain ⟨m, hm⟩ := h2.at hi
 obtain ⟨n, hn⟩ := h2.at hj
 have := sv_Goes h1 hm hn p hp
 rw [h2.own, h2.bl, ← (h2.get hm).2, ← h2.asO hn] at this
 exact this
theorem ls_Block (h : LSv w W rho sb fb ls A) {i j : Nat} (hi : i < A.V.length) (hj : j < A.V.length) (b : Bool) :
  Calls Tryz.prog 26 #[.pointer (some ⟨sb, 0, none⟩), .int .i64 i, .int .i64 j, .bool b] W fun e w' => ∃ rho' : Nat → Role, e = .returned (.int .i64 0) ∧ LSv w w' rho' sb fb ls (A.block i j b) ∧ Step rho rho' W w' := by
 obtain ⟨S, h1, h2⟩ := h.srv
 obtain ⟨m, hm⟩ := h2.at hi
 obtain ⟨n, hn⟩ := h2.at hj
 refine (sv_Block h1 hm hn b).mono ?_
 rintro e w' ⟨rho', ps, rfl, hps, hs, st⟩
 exact ⟨rho', rfl, h.step hs (h2.block h.few hi hj b ps (fun p => by rw [(h2.get hm).2]; exact hps p)) st, st⟩
theorem ls_Block_no (h : LSv w W rho sb fb ls A) {n k : Int} (hn : ¬ ((0 ≤ n ∧ n < (A.V.length : Int)) ∧ (0 ≤ k ∧ k < (A.V.length : Int)))) (b : Bool) : Calls Tryz.prog 26 #[.pointer (some ⟨sb, 0, none⟩), .int .i64 n, .int .i64 k, .bool b] W fun e w' => e = .returned (.int .i64 1) ∧ W = w' := by
 obtain ⟨S, h1, h2⟩ := h.srv
 exact sv_Block_no h1 (by rw [h2.len]; exact hn) b
end
theorem asV (A : Ab) (j : Nat) : asOf (A.V.map pmV) j = A.as_ j := by
 unfold asOf Ab.as_
 rw [List.getElem?_map]
 cases A.V[j]? <;> rfl
theorem offs_mem {A : Ab} {r : Nat} {p : Pf} {c : Cd} (h : c ∈ A.offs r p) : ∃ (n : Nat) (v : VM), c.peer = (n : Int) ∧ A.V[n]? = some v ∧ getL v.2.2 p = some c.a ∧ goesB A.own A.bl c.a n r (A.as_ r) = true := by
 unfold Ab.offs offV offS offL at h
 obtain ⟨h4, h5⟩ := List.mem_filter.1 h
 obtain ⟨n, m, b, g1, g2, rfl⟩ := saidS_mem h4
 rw [List.getElem?_map] at g1
 cases hv : A.V[n]? with
 | none => rw [hv] at g1; simp at g1
 | some v =>
  rw [hv] at g1; simp at g1; subst g1
  refine ⟨n, v, rfl, hv, g2, ?_⟩
  unfold goesC at h5
  rw [asV] at h5
  simpa [cdOf] using h5
theorem saidF_get {p : Pf} : ∀ {ms : List Pm} {i k : Nat} {m : Pm} {a : At}, ms[k]? = some m → getL m.R p = some a → cdOf (i + k) p m.id a ∈ saidF p i ms
 | [], _, _, _, _, h, _ => by simp at h
 | m :: ms, i, 0, m', a, h, hg => by
  simp at h; subst h
  rw [saidF, List.mem_append]
  left
  unfold saidOne
  rw [hg]
  simp
 | m :: ms, i, k + 1, m', a, h, hg => by
  simp at h
  rw [saidF, List.mem_append]
  right
  have := saidF_get (i := i + 1) h hg
  rw [show i + 1 + k = i + (k + 1) by omega] at this
  exact this
theorem offs_in {A : Ab} {r n : Nat} {p : Pf} {v : VM} {a : At} (hv : A.V[n]? = some v) (hg : getL v.2.2 p = some a) (hb : goesB A.own A.bl a n r (A.as_ r) = true) : ∃ c ∈ A.offs r p, c.peer = (n : Int) ∧ c.a = a := by
 refine ⟨cdOf n p v.2.1 a, ?_, rfl, rfl⟩
 unfold Ab.offs offV offS offL
 rw [List.mem_filter]
 constructor
 ·have := saidF_get (p := p) (ms := A.V.map pmV) (i := 0) (k := n) (m := pmV v) (a := a) (by rw [List.getElem?_map, hv]; rfl) hg
  rw [Nat.zero_add] at this
  exact this
 ·unfold goesC
  rw [asV]
  simpa [cdOf] using hb
theorem goes_iff {A : Ab} {i r : Nat} {p : Pf} : A.goes i r p = true ↔ ∃ c ∈ A.offs r p, c.peer = (i : Int) := by
 constructor
 ·intro h
  unfold Ab.goes goesS at h
  cases hg : getL (A.R i) p with
  | none => rw [hg] at h; cases h
  | some a =>
   rw [hg] at h
   unfold Ab.R at hg
   cases hv : A.V[i]? with
   | none => rw [hv] at hg; simp [getL] at hg
   | some v =>
    rw [hv] at hg
    obtain ⟨c, h1, h2, -⟩ := offs_in hv (by simpa using hg) h
    exact ⟨c, h1, h2⟩
 ·rintro ⟨c, hc, hp⟩
  obtain ⟨n, v, h1, h2, h3, h4⟩ := offs_mem hc
  have : n = i := by omega
  subst this
  unfold Ab.goes goesS
  have : A.R n = v.2.2 := by unfold Ab.R; rw [h2]; rfl
  rw [this, h3]
  exact h4
theorem best_offs (A : Ab) (r : Nat) (p : Pf) : A.best r p = pickB (A.offs r p) := rfl
structure ToldOf (A : Ab) (r : Nat) (p : Pf) (L : List BE) : Prop where
 perm : (L.map beC).Perm ((A.offs r p).map fun c => (c.peer, c.a))
 net : ∀ x ∈ L, x.p = p
theorem ToldOf.of {A : Ab} {r : Nat} {p : Pf} {L : List BE} (h : ToldOf A r p L) {x : BE} (hx : x ∈ L) : ∃ c ∈ A.offs r p, c.peer = x.peer ∧ c.a = x.a := by
 have := h.perm.mem_iff.1 (List.mem_map.2 ⟨x, hx, rfl⟩)
 obtain ⟨c, hc, e⟩ := List.mem_map.1 this
 injection e with e1 e2
 exact ⟨c, hc, e1, e2⟩
theorem ToldOf.all {A : Ab} {r : Nat} {p : Pf} {L : List BE} (h : ToldOf A r p L) {c : Cd} (hc : c ∈ A.offs r p) : ∃ x ∈ L, x.peer = c.peer ∧ x.a = c.a := by
 have := h.perm.mem_iff.2 (List.mem_map.2 ⟨c, hc, rfl⟩)
 obtain ⟨x, hx, e⟩ := List.mem_map.1 this
 injection e with e1 e2
 exact ⟨x, hx, e1, e2⟩
theorem ToldOf.none {A : Ab} {r : Nat} {p : Pf} {L : List BE} (h : ToldOf A r p L) : A.best r p = .none ↔ L = [] := by
 rw [best_offs, pickB_none]
 have := h.perm.length_eq
 rw [List.length_map, List.length_map] at this
 constructor
 ·intro e; rw [e] at this; exact List.length_eq_zero_iff.1 this
 ·intro e; rw [e] at this; exact List.length_eq_zero_iff.1 this.symm
def blocks (A : Ab) (r : Nat) (L : List BE) : Ab := L.foldl (fun A x => A.block x.peer.toNat r true) A
open Go.RowKit
section
variable {w W : World} {rho : Nat → Role} {sb fb : Nat} {ls : List Pl} {A : Ab} {S : Sv}
end
open Go.RowKit
def mayN (L : List Nat) : Nat := L.foldl (fun m n => m ||| 2 ^ n) 0
theorem mayN_snoc (L : List Nat) (n : Nat) : mayN (L ++ [n]) = mayN L ||| 2 ^ n := by unfold mayN; rw [List.foldl_append]; rfl
theorem may_fold (L : List Nat) : ∀ m i : Nat, (L.foldl (fun m n => m ||| 2 ^ n) m).testBit i = (m.testBit i || decide (i ∈ L)) := by
 induction L with
 | nil => intro m i; simp
 | cons n L ih =>
  intro m i
  rw [List.foldl_cons, ih, Nat.testBit_or, Nat.testBit_two_pow]
  by_cases h : n = i
  ·subst h; simp
  ·have h2 : ¬ i = n := fun e => h e.symm
   simp [h, h2]
theorem mayN_bit (L : List Nat) (i : Nat) : (mayN L).testBit i = decide (i ∈ L) := by
 unfold mayN
 rw [may_fold]; simp
theorem mayN_lt {L : List Nat} {k : Nat} (h : ∀ n ∈ L, n < k) : mayN L < 2 ^ k := by
 refine Nat.lt_pow_two_of_testBit _ fun i hi => ?_
 rw [mayN_bit]
 simp only [decide_eq_false_iff_not]
 intro hm
 have := h i hm
 omega
def mayS (f : Nat → Bool) : Nat → Nat
 | 0 => 0
 | n + 1 => mayS f n + if f n then 2 ^ n else 0
theorem mayS_lt (f : Nat → Bool) : ∀ n, mayS f n < 2 ^ n
 | 0 => by simp [mayS]
 | n + 1 => by
  have := mayS_lt f n
  unfold mayS
  rw [Nat.pow_succ]
  split <;> omega
theorem mayS_bit (f : Nat → Bool) : ∀ n i, (mayS f n).testBit i = (decide (i < n) && f i)
 | 0, i => by simp [mayS]
 | n + 1, i => by
  have hl := mayS_lt f n
  have ih := mayS_bit f n i
  unfold mayS
  cases hf : f n with
  | false =>
   rw [if_neg (by simp), Nat.add_zero, ih]
   by_cases h : i < n
   ·simp [h, show i < n + 1 by omega]
   ·by_cases e : i = n
    ·subst e; simp [hf]
    ·simp [h, show ¬ i < n + 1 by omega]
  | true =>
   have e1 := Nat.two_pow_add_eq_or_of_lt hl 1
   rw [Nat.mul_one] at e1
   rw [if_pos rfl, Nat.add_comm, e1, Nat.testBit_or, Nat.testBit_two_pow, ih]
   by_cases h : i < n
   ·simp [h, show i < n + 1 by omega, show ¬ n = i by omega]
   ·by_cases e : i = n
    ·subst e; simp [hf]
    ·simp [h, show ¬ i < n + 1 by omega, show ¬ n = i by omega]
theorem bit_pow (n : Nat) : (2 : Int) ^ n = ((2 ^ n : Nat) : Int) := by simp
structure Ky where
 from_ : Int
 best : Int
 may : Int
deriving DecidableEq, Inhabited
abbrev kyC (k : Ky) : Array Value := #[.int .i64 k.from_, .int .i64 k.best, .int .i64 k.may]
abbrev kyV (k : Ky) : Value := .agg (kyC k)
def ky0 : Ky := ⟨0, 0, 0⟩
def Ab.may (A : Ab) (i : Nat) (p : Pf) : Nat := mayN ((A.offs i p).map (·.peer.toNat))
def Ab.key (A : Ab) (i : Nat) (p : Pf) : Option Ky := (A.best i p).map fun b => ⟨i, b.1, A.may i p⟩
def Ab.keyI (A : Ab) (n : Int) (p : Pf) : Option Ky := if 0 ≤ n ∧ n < (A.V.length : Int) then A.key n.toNat p else none
theorem keyI_at (A : Ab) {i : Nat} (hi : i < A.V.length) (p : Pf) : A.keyI i p = A.key i p := by
 unfold Ab.keyI
 rw [if_pos (by omega)]; simp
theorem keyI_no (A : Ab) {n : Int} (hn : ¬ (0 ≤ n ∧ n < (A.V.length : Int))) (p : Pf) : A.keyI n p = none := if_neg hn
theorem offs_small {A : Ab} (hf : A.V.length ≤ 16) {i : Nat} {p : Pf} {c : Cd} (hc : c ∈ A.offs i p) : ∃ n : Nat, c.peer = (n : Int) ∧ n < A.V.length ∧ n < 16 := by
 obtain ⟨n, v, h1, h2, -⟩ := offs_mem hc
 have := (List.getElem?_eq_some_iff.1 h2).1
 exact ⟨n, h1, this, by omega⟩
theorem may_bit {A : Ab} (hf : A.V.length ≤ 16) (i : Nat) (p : Pf) (n : Nat) : (A.may i p).testBit n = (decide (n < A.V.length) && A.goes n i p) := by
 unfold Ab.may
 rw [mayN_bit, Bool.eq_iff_iff]
 simp only [decide_eq_true_eq, Bool.and_eq_true]
 constructor
 ·intro h
  obtain ⟨c, hc, e⟩ := List.mem_map.1 h
  obtain ⟨m, h1, h2, -⟩ := offs_small hf hc
  rw [h1, Int.toNat_natCast] at e
  subst e
  exact ⟨h2, goes_iff.2 ⟨c, hc, h1⟩⟩
 ·rintro ⟨-, h⟩
  obtain ⟨c, hc, e⟩ := goes_iff.1 h
  exact List.mem_map.2 ⟨c, hc, by rw [e, Int.toNat_natCast]⟩
theorem may_lt {A : Ab} (hf : A.V.length ≤ 16) (i : Nat) (p : Pf) : A.may i p < 65536 := by
 have := mayN_lt (L := (A.offs i p).map (·.peer.toNat)) (k := 16) fun n hn => by
  obtain ⟨c, hc, rfl⟩ := List.mem_map.1 hn
  obtain ⟨m, h1, -, h3⟩ := offs_small hf hc
  rw [h1, Int.toNat_natCast]; exact h3
 unfold Ab.may
 omega
theorem may_sum {A : Ab} (hf : A.V.length ≤ 16) (i : Nat) (p : Pf) : A.may i p = mayS (fun n => A.goes n i p) A.V.length := by
 apply Nat.eq_of_testBit_eq
 intro n
 rw [may_bit hf, mayS_bit]
theorem mayN_perm {L M : List Nat} (h : L.Perm M) : mayN L = mayN M := by
 apply Nat.eq_of_testBit_eq
 intro i
 rw [mayN_bit, mayN_bit]
 exact decide_eq_decide.2 h.mem_iff
open Go.RowKit
def knV (l : List (Pf × BE)) (p : Pf) : Option (Int × At) := (getL l p).map fun x => (x.peer, x.a)
structure KnT (l : List (Pf × BE)) : Prop where
 apart : KeysApart l
 net : ∀ x ∈ l, x.2.p = x.1
 rgt : ∀ x ∈ l, RgtP x.1
def KnOk (A : Ab) (i : Nat) (l : List (Pf × BE)) : Prop := A.th i = true → ∀ p, A.nw i p = false → knV l p = A.best i p
theorem KnOk.turn {A : Ab} {i : Nat} {l : List (Pf × BE)} (h : KnOk A i l) (bl : Nat → Bool) (V : List VM) : KnOk (A.turn bl V) i l := by
 intro ht p hn
 have ht' : A.th i = true := ht
 have hn' : (A.nw i p || (A.th i && !sameB (A.best i p) (bestV A.own bl V i p))) = false := hn
 rw [ht', Bool.or_eq_false_iff] at hn'
 have h2 : sameB (A.best i p) (bestV A.own bl V i p) = true := by simpa using hn'.2
 exact (h ht' p hn'.1).trans ((sameB_iff _ _).1 h2)
theorem KnOk.join {A : Ab} {k : Nat} {l : List (Pf × BE)} (h : KnOk A k l) {i : Nat} (hk : k ≠ i) : KnOk (A.join i) k l := by
 intro ht p hn
 have ht' : setF A.th i true k = true := ht
 have hn' : setF A.nw i (fun p => A.nw i p || (A.best i p).isSome) k p = false := hn
 rw [setF_other _ hk] at ht' hn'
 exact h ht' p hn'
theorem KnOk.upd {A : Ab} {k : Nat} {l : List (Pf × BE)} (h : KnOk A k l) (i : Nat) (kind : Int) (gone nets : List Pf) (a : At) : KnOk (A.upd i kind gone nets a) k l := by
 unfold Ab.upd
 split
 ·exact h.turn _ _
 ·exact h
theorem KnOk.updI {A : Ab} {k : Nat} {l : List (Pf × BE)} (h : KnOk A k l) (n : Int) (kind : Int) (gone nets : List Pf) (a : At) : KnOk (A.updI n kind gone nets a) k l := by
 unfold Ab.updI
 split
 ·exact h.upd _ kind gone nets a
 ·exact h
theorem KnOk.block {A : Ab} {k : Nat} {l : List (Pf × BE)} (h : KnOk A k l) (i j : Nat) (b : Bool) : KnOk (A.block i j b) k l := h.turn _ _
theorem KnOk.hush {A : Ab} {k : Nat} {l : List (Pf × BE)} (h : KnOk A k l) {i : Nat} (hk : k ≠ i) : KnOk (A.hush i) k l := by
 intro ht p hn
 have hn' : setF A.nw i (fun _ => false) k p = false := hn
 rw [setF_other _ hk] at hn'
 exact h ht p hn'
theorem KnOk.new (own most : Int) (xs : List Sd) (i : Nat) : KnOk (newA own most xs) i [] := fun ht => by cases ht
def tell1 (l : List (Pf × BE)) (p : Pf) (b : Option BE) : List (Pf × BE) := match b with
 | some x => putL l p x
 | none => delL l p
theorem KnT.nil : KnT [] := ⟨List.Pairwise.nil, fun x hx => (by cases hx), fun x hx => by cases hx⟩
theorem KnT.tell1 {l : List (Pf × BE)} (h : KnT l) (p : Pf) (hp : RgtP p) (b : Option BE) (hb : ∀ x, b = some x → x.p = p) : KnT (tell1 l p b) := by
 cases b with
 | none => exact ⟨apart_del h.apart p, fun x hx => h.net x (mem_del.1 hx).1, fun x hx => h.rgt x (mem_del.1 hx).1⟩
 | some y =>
  refine ⟨apart_put h.apart p y, fun x hx => ?_, fun x hx => ?_⟩
  ·rcases mem_put hx with ⟨h1, -⟩ | rfl
   ·exact h.net x h1
   ·exact hb y rfl
  ·rcases mem_put hx with ⟨h1, -⟩ | rfl
   ·exact h.rgt x h1
   ·exact hp
theorem KnOk.told {A : Ab} {i : Nat} {l l' : List (Pf × BE)} (h : KnOk A i l) {L : List Pf} (hL : ∀ p, p ∈ L ↔ A.nw i p = true) (hk : ∀ p, knV l' p = if p ∈ L then A.best i p else knV l p) : KnOk (A.hush i) i l' := by
 intro ht p _
 show knV l' p = A.best i p
 rw [hk p]
 by_cases hp : p ∈ L
 ·rw [if_pos hp]
 ·rw [if_neg hp]
  refine h ht p ?_
  cases hn : A.nw i p with
  | false => rfl
  | true => exact absurd ((hL p).2 hn) hp
theorem KnOk.all {A : Ab} {i : Nat} {l : List (Pf × BE)} (h : KnOk A i l) (ht : A.th i = true) (hn : ∀ p, A.nw i p = false) (p : Pf) : knV l p = A.best i p := h ht p (hn p)
end Go.Proofs.YtkoidahgbbabiaaGreat
