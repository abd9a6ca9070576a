/- Texts of one proof, one behind another. -/
import Derived.Test.YtkoidahgbbabiaaGreatFt13
import Derived.Test.YtkoidahgbbabiaaGreatFt1
import Derived.StillTailTactics
import Derived.LoopTactic
import Derived.LoopN
namespace Go.Proofs.YtkoidahgbbabiaaGreat
open Go.RowKit
theorem exec_built2S {P : Program} {oi : Oper} {ev : Operand → Value} {w : World} (t : TypeId) (x0 x1 : Operand) (ho : oi.op = .build t #[(0, x0), (1, x1)]) (v0 v1 : Value) (h0 : ev x0 = v0) (h1 : ev x1 = v1) (cells : Array Value) (hc : P.built t [(0, v0), (1, v1)] = some cells) : (execOp ev oi).run P w = .ok (.value (.agg cells)) w := by
 have hr := run_build (P := P) w t ((#[(0, x0), (1, x1)] : Array (Nat × Operand)).map fun (i, x) => (i, ev x)) cells (by simp [h0, h1, hc])
 unfold execOp
 simp only [ho, Sem.run_bind, hr, Sem.run_pure, Result.andThen_ok]
theorem fresh_hi {lo : Nat} {w : World} {Q : World → Prop} (h : Fresh lo w Q) : On (fun k => lo ≤ k ∧ k < w.heap.size) w Q := h.wide fun _ h hl => ⟨h, hl⟩
theorem kept_gr {w w' : World} {r : Option Nat} (h : w.grownBy w' r) : Kept (fun b => r = some b) w w' := ⟨h.os, h.tape, h.output, h.size, fun k hk hF => h.block k hk (fun e => hF e.symm)⟩
theorem OwnCv.base {w : World} {B B' : Nat} {v : Value} {xs : List CV} {A : Nat → Prop} (h : OwnCv w B v xs A) (hb : B' ≤ B) : OwnCv w B' v xs A := ⟨own_base h.own hb, h.mem, fun k hk => ⟨Nat.le_trans hb (h.lt k hk).1, (h.lt k hk).2⟩, h.apt⟩
theorem saidS_none {ms : List Pm} {k : Nat} {m : Pm} {p : Pf} (hm : ms[k]? = some m) (h : getL m.R p = none) : saidS (ms.take (k + 1)) p = saidS (ms.take k) p := by
 rw [saidS_take p hm]
 unfold saidOne
 rw [h, List.append_nil]
theorem saidS_some {ms : List Pm} {k : Nat} {m : Pm} {p : Pf} {a : At} (hm : ms[k]? = some m) (h : getL m.R p = some a) : saidS (ms.take (k + 1)) p = saidS (ms.take k) p ++ [cdOf k p m.id a] := by
 rw [saidS_take p hm]
 unfold saidOne
 rw [h]
set_option maxHeartbeats 6400000 in
set_option maxRecDepth 100000 in
theorem sv_said {W : World} {rho : Nat → Role} {sb fb : Nat} {ls : List Pl} {S : Sv} (h : SrvM W rho sb fb ls S) (p : Pf) (hp : OkP p) :
  Calls Tryz.prog 72 #[.pointer (some ⟨sb, 0, none⟩), .agg #[.int .u32 p.1, .int .i64 p.2]] W fun e w' =>
   ∃ (s : Option Addr) (c : Nat) (xs : List CV) (A : Nat → Prop), e = .returned (.slice s xs.length c) ∧ OwnCv w' W.heap.size (.slice s xs.length c) xs A ∧ xs.map (·.c) = saidS S.ms p ∧ Below W.heap.size W w' := by
 obtain ⟨s, cap, c0, -, hcs⟩ := h.cells
 have HS := jh h
 have HCS := jh hcs
 have HP := jh hp
 have few := h.bod.few
 obtain ⟨pn, hpn⟩ : ∃ n : Nat, p.1 = (n : Int) := Int.eq_ofNat_of_zero_le hp.1
 have HPN := jh hpn
 clear h hcs hp hpn
 go_enter Tryz.func72, Tryz.ntmps72
 go_upto_region 1 with (fail)
 obtain ⟨W0, hW0, p0, p1, hB⟩ := box2 W (.int .u32 p.1) (.int .i64 p.2) 53
 rw [← hW0]
 obtain ⟨pb, hpb⟩ : ∃ pb, pb = W.heap.size := ⟨_, rfl⟩
 rw [← hpb] at p0 p1 ⊢
 have c0 := jA c0 hB
 have B0 := jh hB
 have P0 := jh p0
 have P1 := jh p1
 have ON := jh (OwnCv.nil W0 W0.heap.size)
 clear hW0 hB p0 p1 hpb
 go_wp2_with fail
 clear c0
 go_loopw [15, 5] (fun t15 t5 wr => ∃ (k : Nat) (s' : Option Addr) (c' : Nat) (xs : List CV) (A : Nat → Prop), k ≤ S.ms.length ∧ t15 = .int .i64 k ∧ t5 = .slice s' xs.length c' ∧ xs.length ≤ k ∧ Hid (OwnCv wr W0.heap.size (.slice s' xs.length c') xs A) ∧ Hid (xs.map (·.c) = saidS (S.ms.take k) p) ∧ Hid (Below W0.heap.size W0 wr)) (fun t15 _ _ => S.ms.length - (intOf t15).toNat)
 case atStart => exact ⟨0, none, 0, [], _, by omega, rfl, rfl, by simp, ON, jh rfl, jh (Below.refl _ _)⟩
 case round =>
  clear ON
  obtain ⟨k, s1, c1, xs, A, hk, rfl, rfl, xl, OC, XE, BV⟩ := hrel
  by_cases hkl : k < S.ms.length
  ·obtain ⟨m, hm⟩ : ∃ m, S.ms[k]? = some m := ⟨_, List.getElem?_eq_getElem hkl⟩
   have HR := jh (HS.out.below (jC B0.out BV.out))
   obtain ⟨l, hl, hM⟩ := HR.out.get hm
   obtain ⟨g, o, rfl, m0⟩ := HCS.out k l hl
   have m0 := jA m0 (jC B0.out BV.out)
   have k0 : (0 : Int) ≤ (k : Int) := by omega
   have k1 : (k : Int) < (S.ms.length : Int) := by omega
   have m3 : wr.cell? ⟨l.mb, 3, none⟩ = some (.pointer (some ⟨l.rb, 0, none⟩)) := jB hM.row 3
   have m1 : wr.cell? ⟨l.mb, 1, none⟩ = some (.int .u32 m.id) := jB hM.row 1
   have p0 := jA P0.out BV.out
   have p1 := jA P1.out BV.out
   have M1 := jh m1
   have HM := jh hm
   have GT := jh (fun w' (hb : Below wr.heap.size wr w') => ad_Get p w' (hM.rib.below hb) HP.out)
   have WB : Hid (W0.heap.size ≤ wr.heap.size) := jh BV.out.size
   have MBL : Hid (l.mb < W.heap.size) := jh (by
    obtain ⟨l2, hl2, hM2⟩ := HS.out.get hm
    rw [hl] at hl2
    injection hl2 with hl2
    subst hl2
    exact jE hM2.row)
   clear hM hm hl m1
   cases hg : getL m.R p with
   | none =>
    have GN : Hid (∀ w', Below wr.heap.size wr w' → Calls Tryz.prog 75 #[.pointer (some ⟨l.rb, 0, none⟩), .agg #[.int .u32 p.1, .int .i64 p.2]] w' fun e w2 => e = .returned (.tuple #[.agg (rtC 0 (0, 0) av0), .bool false]) ∧ Below w'.heap.size w' w2) := jh (fun w' hb => (GT.out w' hb).mono fun e w2 h => by
     rcases h with ⟨-, h1, h2⟩ | ⟨a, v, h1, -⟩
     ·exact ⟨h1, h2⟩
     ·rw [hg] at h1; cases h1)
    have XN : Hid (xs.map (·.c) = saidS (S.ms.take (k + 1)) p) := jh (by rw [saidS_none HM.out hg]; exact XE.out)
    clear hg GT
    go_upto_region 5 with (fail)
    go_cut [9] from 19 to 27 (fun s9 wx => s9 = .bool false ∧ Hid (Below wr.heap.size wr wx))
    case first =>
     refine wp_region_held_drew (S := fun w' => Below wr.heap.size wr w') (by kernel_rfl) ?_ (fun hHeld => ?_)
     ·exact (Below.refl _ _).drew
     generalize World.drew wr = wd at hHeld ⊢
     refine qy 0 ?_ ?_ ?_ hHeld ?_; rotate_left 1; (· rfl); (· intro w' hSw; (try clear hHeld); go_simp; try with_reducible rfl)
     try simp only [jz]
     refine qy 4 ?_ ?_ ?_ hHeld ?_; rotate_left 1; (· rfl); (· intro w' hSw; have p0 := jA p0 hSw; have p1 := jA p1 hSw; have m3 := jA m3 hSw; (try clear hHeld); go_simp; try with_reducible rfl)
     try simp only [jz]
     refine jI (i := 1) (j := 9) (atS at0) (atS (atS (atS (atS (atS (atS (atS (atS (atS at0))))))))) (by kernel_rfl) ?_ ?_ (fun K hK => ?_) (fun K hK => ?_)
     ·rfl
     ·rfl
     ·(try clear hb); go_simp; go_wp2_with fail; refine hK.out _ _ ?_ (fun hHeld => ?_); (· exact hHeld); clear hK K
      try simp only [jz]
      refine qy 2 ?_ ?_ ?_ hHeld ?_; rotate_left 1; (· rfl); (· intro w' hSw; (try clear hHeld); go_simp; try with_reducible rfl)
      try simp only [jz]
      refine qy 3 ?_ ?_ ?_ hHeld ?_; rotate_left 1; (· rfl); (· intro w' hSw; have p0 := jA p0 hSw; have p1 := jA p1 hSw; have m3 := jA m3 hSw; (try clear hHeld); go_simp; try with_reducible rfl)
      try simp only [jz]
      refine jI (i := 5) (j := 9) (atS (atS (atS (atS (atS at0))))) (atS (atS (atS (atS (atS (atS (atS (atS (atS at0))))))))) (by kernel_rfl) ?_ ?_ (fun K hK => ?_) (fun K hK => ?_)
      ·rfl
      ·rfl
      ·(try clear hb); go_simp; (refine (GN.out _ hHeld).mono ?_; rintro e w1 ⟨rfl, hb⟩); (try replace hz := (hb.block _ (jE hz)).trans hz); go_wp2_with fail; refine hK.out _ _ ?_ (fun hHeld => ?_); (· exact hHeld.trans (hb.mono hHeld.size)); clear hK K
       try simp only [jz]
       refine qy 6 ?_ ?_ ?_ hHeld ?_; rotate_left 1; (· rfl); (· intro w' hSw; (try clear hHeld); go_simp; try with_reducible rfl)
       try simp only [jz]
       refine qy 7 ?_ ?_ ?_ hHeld ?_; rotate_left 1; (· rfl); (· intro w' hSw; (try clear hHeld); go_simp; try with_reducible rfl)
       try simp only [jz]
       refine qy 8 ?_ ?_ ?_ hHeld ?_; rotate_left 1; (· rfl); (· intro w' hSw; (try clear hHeld); go_simp; try with_reducible rfl)
       try simp only [jz]
       refine jr 9 ?_ fun K hK => ?_; (· rfl); (try clear hb); go_simp; refine box_zrt (p := K _) ?_; intro w1 hz hb; have hgs := hHeld.size; refine hK.out _ _ ?_ (fun hHeld => ?_); (· exact jC hHeld hb); clear hK K
       try simp only [jz]
       refine jr 10 ?_ fun K hK => ?_; (· rfl); (try clear hb); refine jG 61 (.tmp 8) (.tmp 26) rfl _ rfl 61 (rtC 0 (0, 0) av0) _ rfl hz (by kernel_rfl) rfl (rt_one _ _ _) ?_; refine jT hz (p := K _) ?_; intro w2 hr hk2; refine hK.out _ _ ?_ (fun hHeld => ?_); (· exact hHeld.trans (hk2.below hHeld.size (by rintro k rfl; exact hgs))); clear hK K
       try simp only [Act.put]
       refine qy 11 ?_ ?_ ?_ hHeld ?_; rotate_left 1; (· rfl); (· intro w' hSw; (try clear hHeld); go_simp; try with_reducible rfl)
       try simp only [jz]
       refine wpAnyH_done (by kernel_rfl) ?_ _
       go_wp2_with fail
       go_meet
       exact ⟨rfl, jh hHeld⟩
      ·(try clear hb); go_simp; refine box_zrt (p := K _) ?_; intro w1 hz hb; have hgs := hHeld.size; refine hK.out _ _ ?_ (fun hHeld => ?_); (· exact jC hHeld hb); clear hK K
       try simp only [jz]
       refine jr 5 ?_ fun K hK => ?_; (· rfl); (try clear hb); go_simp; (refine (GN.out _ hHeld).mono ?_; rintro e w1 ⟨rfl, hb⟩); (try replace hz := (hb.block _ (jE hz)).trans hz); go_wp2_with fail; refine hK.out _ _ ?_ (fun hHeld => ?_); (· exact hHeld.trans (hb.mono hHeld.size)); clear hK K
       try simp only [jz]
       refine qy 6 ?_ ?_ ?_ hHeld ?_; rotate_left 1; (· rfl); (· intro w' hSw; (try clear hHeld); go_simp; try with_reducible rfl)
       try simp only [jz]
       refine qy 7 ?_ ?_ ?_ hHeld ?_; rotate_left 1; (· rfl); (· intro w' hSw; (try clear hHeld); go_simp; try with_reducible rfl)
       try simp only [jz]
       refine qy 8 ?_ ?_ ?_ hHeld ?_; rotate_left 1; (· rfl); (· intro w' hSw; (try clear hHeld); go_simp; try with_reducible rfl)
       try simp only [jz]
       refine jr 10 ?_ fun K hK => ?_; (· rfl); (try clear hb); refine jG 61 (.tmp 8) (.tmp 26) rfl _ rfl 61 (rtC 0 (0, 0) av0) _ rfl hz (by kernel_rfl) rfl (rt_one _ _ _) ?_; refine jT hz (p := K _) ?_; intro w2 hr hk2; refine hK.out _ _ ?_ (fun hHeld => ?_); (· exact hHeld.trans (hk2.below hHeld.size (by rintro k rfl; exact hgs))); clear hK K
       try simp only [Act.put]
       refine qy 11 ?_ ?_ ?_ hHeld ?_; rotate_left 1; (· rfl); (· intro w' hSw; (try clear hHeld); go_simp; try with_reducible rfl)
       try simp only [jz]
       refine wpAnyH_done (by kernel_rfl) ?_ _
       go_wp2_with fail
       go_meet
       exact ⟨rfl, jh hHeld⟩
     ·(try clear hb); go_simp; refine box_zrt (p := K _) ?_; intro w1 hz hb; have hgs := hHeld.size; refine hK.out _ _ ?_ (fun hHeld => ?_); (· exact jC hHeld hb); clear hK K
      try simp only [jz]
      refine jr 1 ?_ fun K hK => ?_; (· rfl); (try clear hb); go_simp; go_wp2_with fail; refine hK.out _ _ ?_ (fun hHeld => ?_); (· exact hHeld); clear hK K
      try simp only [jz]
      refine qy 2 ?_ ?_ ?_ hHeld ?_; rotate_left 1; (· rfl); (· intro w' hSw; (try clear hHeld); go_simp; try with_reducible rfl)
      try simp only [jz]
      refine qy 3 ?_ ?_ ?_ hHeld ?_; rotate_left 1; (· rfl); (· intro w' hSw; have p0 := jA p0 hSw; have p1 := jA p1 hSw; have m3 := jA m3 hSw; (try clear hHeld); go_simp; try with_reducible rfl)
      try simp only [jz]
      refine jr 5 ?_ fun K hK => ?_; (· rfl); (try clear hb); go_simp; (refine (GN.out _ hHeld).mono ?_; rintro e w1 ⟨rfl, hb⟩); (try replace hz := (hb.block _ (jE hz)).trans hz); go_wp2_with fail; refine hK.out _ _ ?_ (fun hHeld => ?_); (· exact hHeld.trans (hb.mono hHeld.size)); clear hK K
      try simp only [jz]
      refine qy 6 ?_ ?_ ?_ hHeld ?_; rotate_left 1; (· rfl); (· intro w' hSw; (try clear hHeld); go_simp; try with_reducible rfl)
      try simp only [jz]
      refine qy 7 ?_ ?_ ?_ hHeld ?_; rotate_left 1; (· rfl); (· intro w' hSw; (try clear hHeld); go_simp; try with_reducible rfl)
      try simp only [jz]
      refine qy 8 ?_ ?_ ?_ hHeld ?_; rotate_left 1; (· rfl); (· intro w' hSw; (try clear hHeld); go_simp; try with_reducible rfl)
      try simp only [jz]
      refine jr 10 ?_ fun K hK => ?_; (· rfl); (try clear hb); refine jG 61 (.tmp 8) (.tmp 26) rfl _ rfl 61 (rtC 0 (0, 0) av0) _ rfl hz (by kernel_rfl) rfl (rt_one _ _ _) ?_; refine jT hz (p := K _) ?_; intro w2 hr hk2; refine hK.out _ _ ?_ (fun hHeld => ?_); (· exact hHeld.trans (hk2.below hHeld.size (by rintro k rfl; exact hgs))); clear hK K
      try simp only [Act.put]
      refine qy 11 ?_ ?_ ?_ hHeld ?_; rotate_left 1; (· rfl); (· intro w' hSw; (try clear hHeld); go_simp; try with_reducible rfl)
      try simp only [jz]
      refine wpAnyH_done (by kernel_rfl) ?_ _
      go_wp2_with fail
      go_meet
      exact ⟨rfl, jh hHeld⟩
    case rest =>
     obtain ⟨rfl, HH⟩ := hcut
     obtain ⟨wd, hwd⟩ : ∃ wd : World, wd = wc := ⟨_, rfl⟩
     rw [← hwd] at HH ⊢
     have OC2 := jh (OC.out.below HH.out)
     have BV2 := jh (jC BV.out HH.out)
     clear hwd HH OC BV p0 p1 m3 m0
     go_wp2_with fail
     exact ⟨⟨k + 1, s1, c1, xs, A, by omega, by go_num, rfl, by omega, OC2, XN, BV2⟩, by simp [intOf]; omega⟩
   | some a =>
    have GN : Hid (∀ w', Below wr.heap.size wr w' → Calls Tryz.prog 75 #[.pointer (some ⟨l.rb, 0, none⟩), .agg #[.int .u32 p.1, .int .i64 p.2]] w' fun e w2 => ∃ v : AV, e = .returned (.tuple #[.agg (rtC k p v), .bool true]) ∧ Fresh w'.heap.size w2 (fun W => AvAt W a v) ∧ Below w'.heap.size w' w2) := jh (fun w' hb => (GT.out w' hb).mono fun e w2 h => by
     rcases h with ⟨h1, -⟩ | ⟨b, v, h1, h2, -, h4, h5⟩
     ·rw [hg] at h1; cases h1
     ·rw [hg] at h1
      injection h1 with h1
      subst h1
      exact ⟨v, h2, h4.imp fun _ h => h.at, h5⟩)
    have XN : Hid (saidS (S.ms.take (k + 1)) p = saidS (S.ms.take k) p ++ [cdOf k p m.id a]) := jh (saidS_some HM.out hg)
    clear hg GT
    go_upto_region 5 with (fail)
    go_cut [8, 9] from 19 to 27 (fun s8 s9 wx => ∃ (g8 : Nat) (v : AV) (lo : Nat), s8 = .pointer (some ⟨g8, 0, none⟩) ∧ s9 = .bool true ∧ Hid (Below wr.heap.size wr wx ∧ wx.heap[g8]? = some (.cells (rtC k p v) 61 (0, 0)) ∧ wr.heap.size ≤ lo ∧ Fresh lo wx (fun W => AvAt W a v) ∧ wr.heap.size ≤ g8))
    case first =>
     refine wp_region_held_drew (S := fun w' => Below wr.heap.size wr w') (by kernel_rfl) ?_ (fun hHeld => ?_)
     ·exact (Below.refl _ _).drew
     generalize World.drew wr = wd at hHeld ⊢
     refine qy 0 ?_ ?_ ?_ hHeld ?_; rotate_left 1; (· rfl); (· intro w' hSw; (try clear hHeld); go_simp; try with_reducible rfl)
     try simp only [jz]
     refine qy 4 ?_ ?_ ?_ hHeld ?_; rotate_left 1; (· rfl); (· intro w' hSw; have p0 := jA p0 hSw; have p1 := jA p1 hSw; have m3 := jA m3 hSw; (try clear hHeld); go_simp; try with_reducible rfl)
     try simp only [jz]
     refine jI (i := 1) (j := 9) (atS at0) (atS (atS (atS (atS (atS (atS (atS (atS (atS at0))))))))) (by kernel_rfl) ?_ ?_ (fun K hK => ?_) (fun K hK => ?_)
     ·rfl
     ·rfl
     ·(try clear hb); go_simp; go_wp2_with fail; refine hK.out _ _ ?_ (fun hHeld => ?_); (· exact hHeld); clear hK K
      try simp only [jz]
      refine qy 2 ?_ ?_ ?_ hHeld ?_; rotate_left 1; (· rfl); (· intro w' hSw; (try clear hHeld); go_simp; try with_reducible rfl)
      try simp only [jz]
      refine qy 3 ?_ ?_ ?_ hHeld ?_; rotate_left 1; (· rfl); (· intro w' hSw; have p0 := jA p0 hSw; have p1 := jA p1 hSw; have m3 := jA m3 hSw; (try clear hHeld); go_simp; try with_reducible rfl)
      try simp only [jz]
      refine jI (i := 5) (j := 9) (atS (atS (atS (atS (atS at0))))) (atS (atS (atS (atS (atS (atS (atS (atS (atS at0))))))))) (by kernel_rfl) ?_ ?_ (fun K hK => ?_) (fun K hK => ?_)
      ·rfl
      ·rfl
      ·(try clear hb); go_simp; have hlo := hHeld.size; (try have hzl := jE hz); refine (GN.out _ hHeld).mono ?_; rintro e wg ⟨v, rfl, fr0, hb⟩; have fr := fresh_hi fr0; clear fr0; (try replace hz := (hb.block _ (jE hz)).trans hz); go_wp2_with fail; refine hK.out _ _ ?_ (fun hHeld => ?_); (· exact jC hHeld hb); clear hK K
       try simp only [jz]
       refine qy 6 ?_ ?_ ?_ hHeld ?_; rotate_left 1; (· rfl); (· intro w' hSw; (try clear hHeld); go_simp; try with_reducible rfl)
       try simp only [jz]
       refine qy 7 ?_ ?_ ?_ hHeld ?_; rotate_left 1; (· rfl); (· intro w' hSw; (try clear hHeld); go_simp; try with_reducible rfl)
       try simp only [jz]
       refine qy 8 ?_ ?_ ?_ hHeld ?_; rotate_left 1; (· rfl); (· intro w' hSw; (try clear hHeld); go_simp; try with_reducible rfl)
       try simp only [jz]
       refine jr 9 ?_ fun K hK => ?_; (· rfl); (try clear hb); go_simp; refine box_zrt (p := K _) ?_; intro w1 hz hb1; have hgs := hHeld.size; (try replace fr := fr.below hb1); refine hK.out _ _ ?_ (fun hHeld => ?_); (· exact jC hHeld hb1); clear hK K
       try simp only [jz]
       refine jr 10 ?_ fun K hK => ?_; (· rfl); (try clear hb); refine jG 61 (.tmp 8) (.tmp 26) rfl _ rfl 61 (rtC 0 (0, 0) av0) _ rfl hz (by kernel_rfl) rfl (rt_one _ _ _) ?_; have hfx := hgs; refine jT hz (p := K _) ?_; intro w2 hr hk2; refine hK.out _ _ ?_ (fun hHeld => ?_); (· exact hHeld.trans (hk2.below hHeld.size (by rintro k rfl; exact hgs))); clear hK K
       try simp only [Act.put]
       refine qy 11 ?_ ?_ ?_ hHeld ?_; rotate_left 1; (· rfl); (· intro w' hSw; (try clear hHeld); go_simp; try with_reducible rfl)
       try simp only [jz]
       refine wpAnyH_done (by kernel_rfl) ?_ _
       go_wp2_with fail
       go_meet
       exact ⟨_, v, _, rfl, rfl, jh ⟨hHeld, hr, hlo, (fr.kept hk2 (fun k' _ hl e => by omega)).wide (fun _ hk _ => hk.1), hgs⟩⟩
      ·(try clear hb); go_simp; refine box_zrt (p := K _) ?_; intro w1 hz hb1; have hgs := hHeld.size; (try replace fr := fr.below hb1); refine hK.out _ _ ?_ (fun hHeld => ?_); (· exact jC hHeld hb1); clear hK K
       try simp only [jz]
       refine jr 5 ?_ fun K hK => ?_; (· rfl); (try clear hb); go_simp; have hlo := hHeld.size; (try have hzl := jE hz); refine (GN.out _ hHeld).mono ?_; rintro e wg ⟨v, rfl, fr0, hb⟩; have fr := fresh_hi fr0; clear fr0; (try replace hz := (hb.block _ (jE hz)).trans hz); go_wp2_with fail; refine hK.out _ _ ?_ (fun hHeld => ?_); (· exact jC hHeld hb); clear hK K
       try simp only [jz]
       refine qy 6 ?_ ?_ ?_ hHeld ?_; rotate_left 1; (· rfl); (· intro w' hSw; (try clear hHeld); go_simp; try with_reducible rfl)
       try simp only [jz]
       refine qy 7 ?_ ?_ ?_ hHeld ?_; rotate_left 1; (· rfl); (· intro w' hSw; (try clear hHeld); go_simp; try with_reducible rfl)
       try simp only [jz]
       refine qy 8 ?_ ?_ ?_ hHeld ?_; rotate_left 1; (· rfl); (· intro w' hSw; (try clear hHeld); go_simp; try with_reducible rfl)
       try simp only [jz]
       refine jr 10 ?_ fun K hK => ?_; (· rfl); (try clear hb); refine jG 61 (.tmp 8) (.tmp 26) rfl _ rfl 61 (rtC 0 (0, 0) av0) _ rfl hz (by kernel_rfl) rfl (rt_one _ _ _) ?_; have hfx := hgs; refine jT hz (p := K _) ?_; intro w2 hr hk2; refine hK.out _ _ ?_ (fun hHeld => ?_); (· exact hHeld.trans (hk2.below hHeld.size (by rintro k rfl; exact hgs))); clear hK K
       try simp only [Act.put]
       refine qy 11 ?_ ?_ ?_ hHeld ?_; rotate_left 1; (· rfl); (· intro w' hSw; (try clear hHeld); go_simp; try with_reducible rfl)
       try simp only [jz]
       refine wpAnyH_done (by kernel_rfl) ?_ _
       go_wp2_with fail
       go_meet
       exact ⟨_, v, _, rfl, rfl, jh ⟨hHeld, hr, hlo, (fr.kept hk2 (fun k' _ hl e => by omega)).wide (fun _ hk _ => hk.1), hgs⟩⟩
     ·(try clear hb); go_simp; refine box_zrt (p := K _) ?_; intro w1 hz hb1; have hgs := hHeld.size; (try replace fr := fr.below hb1); refine hK.out _ _ ?_ (fun hHeld => ?_); (· exact jC hHeld hb1); clear hK K
      try simp only [jz]
      refine jr 1 ?_ fun K hK => ?_; (· rfl); (try clear hb); go_simp; go_wp2_with fail; refine hK.out _ _ ?_ (fun hHeld => ?_); (· exact hHeld); clear hK K
      try simp only [jz]
      refine qy 2 ?_ ?_ ?_ hHeld ?_; rotate_left 1; (· rfl); (· intro w' hSw; (try clear hHeld); go_simp; try with_reducible rfl)
      try simp only [jz]
      refine qy 3 ?_ ?_ ?_ hHeld ?_; rotate_left 1; (· rfl); (· intro w' hSw; have p0 := jA p0 hSw; have p1 := jA p1 hSw; have m3 := jA m3 hSw; (try clear hHeld); go_simp; try with_reducible rfl)
      try simp only [jz]
      refine jr 5 ?_ fun K hK => ?_; (· rfl); (try clear hb); go_simp; have hlo := hHeld.size; (try have hzl := jE hz); refine (GN.out _ hHeld).mono ?_; rintro e wg ⟨v, rfl, fr0, hb⟩; have fr := fresh_hi fr0; clear fr0; (try replace hz := (hb.block _ (jE hz)).trans hz); go_wp2_with fail; refine hK.out _ _ ?_ (fun hHeld => ?_); (· exact jC hHeld hb); clear hK K
      try simp only [jz]
      refine qy 6 ?_ ?_ ?_ hHeld ?_; rotate_left 1; (· rfl); (· intro w' hSw; (try clear hHeld); go_simp; try with_reducible rfl)
      try simp only [jz]
      refine qy 7 ?_ ?_ ?_ hHeld ?_; rotate_left 1; (· rfl); (· intro w' hSw; (try clear hHeld); go_simp; try with_reducible rfl)
      try simp only [jz]
      refine qy 8 ?_ ?_ ?_ hHeld ?_; rotate_left 1; (· rfl); (· intro w' hSw; (try clear hHeld); go_simp; try with_reducible rfl)
      try simp only [jz]
      refine jr 10 ?_ fun K hK => ?_; (· rfl); (try clear hb); refine jG 61 (.tmp 8) (.tmp 26) rfl _ rfl 61 (rtC 0 (0, 0) av0) _ rfl hz (by kernel_rfl) rfl (rt_one _ _ _) ?_; have hfx := hgs; refine jT hz (p := K _) ?_; intro w2 hr hk2; refine hK.out _ _ ?_ (fun hHeld => ?_); (· exact hHeld.trans (hk2.below hHeld.size (by rintro k rfl; exact hgs))); clear hK K
      try simp only [Act.put]
      refine qy 11 ?_ ?_ ?_ hHeld ?_; rotate_left 1; (· rfl); (· intro w' hSw; (try clear hHeld); go_simp; try with_reducible rfl)
      try simp only [jz]
      refine wpAnyH_done (by kernel_rfl) ?_ _
      go_wp2_with fail
      go_meet
      exact ⟨_, v, _, rfl, rfl, jh ⟨hHeld, hr, hlo, (fr.kept hk2 (fun k' _ hl e => by omega)).wide (fun _ hk _ => hk.1), hgs⟩⟩
    case rest =>
     obtain ⟨g8, v, lo, rfl, rfl, HH⟩ := hcut
     obtain ⟨wd, hwd⟩ : ∃ wd : World, wd = wc := ⟨_, rfl⟩
     rw [← hwd] at HH ⊢
     have RQ := jh HH.out.2.1
     have m1 := jA M1.out HH.out.1
     have OC2 := jh (OC.out.below HH.out.1)
     have BV2 := jh (jC BV.out HH.out.1)
     have SG := jh (fun (w2 w3 : World) (v' : Value) (b12 : Below wd.heap.size wd w2) (h2 : w3.ownsRow W0.heap.size 99 14 v' (xs.length + 1) (xs.flatMap cvL ++ cvL ⟨cdOf k p m.id a, v⟩)) hg hat => OC.out.step (x := ⟨cdOf k p m.id a, v⟩) HH.out.1 HH.out.2.2.1 WB.out HH.out.2.2.2.1 b12 h2 hg hat)
     have OWD := OC2.out.own
     have WBD : Hid (W0.heap.size ≤ wd.heap.size) := jh (Nat.le_trans WB.out HH.out.1.size)
     have HB := jh (cv_built k p v pn m.id a HPN.out)
     have EC : Hid ((⟨⟨(k : Int), pn, p.2, a, m.id⟩, v⟩ : CV) = ⟨cdOf k p m.id a, v⟩) := jh (by unfold cdOf; rw [HPN.out]; rfl)
     rw [EC.out] at HB
     have L1 : Hid (xs.length + 1 ≤ maxLen) := jh (by unfold maxLen; omega)
     have L2 : Hid ((xs.length + 1) * 160 ≤ 140737488355328) := jh (by omega)
     obtain ⟨i0, hii, hz0, hz1, hz2⟩ := info_parts info_cand
     have BD := Below.refl wd.heap.size wd
     have NG : Hid (¬ (Value.slice s1 xs.length c1).ownBlock = some g8) := jh (fun e => by have := own_lt OC.out.own g8 e; have := HH.out.2.2.2.2; omega)
     have NM : Hid (¬ (Value.slice s1 xs.length c1).ownBlock = some l.mb) := jh (fun e => by have := jJ OC.out.own l.mb e; have := MBL.out; have := B0.out.size; omega)
     generalize hcv : (⟨cdOf k p m.id a, v⟩ : CV) = cv at SG HB
     have HCV := jh hcv
     clear hwd HH OC BV p0 p1 m3 m0 M1 EC hcv
     go_wp2_with fail
     go_upto_region 7 with (fail)
     replace BD := BD.drew
     replace OWD := jQ OWD BD
     refine wp_region_held_drew (S := fun w' => Kept (fun q => (Value.slice s1 xs.length c1).ownBlock = some q) wd w') (by kernel_rfl) ?_ (fun hHeld => ?_)
     ·exact (Kept.refl _ _).drew
     generalize World.drew wd = wz at BD OWD hHeld ⊢
     refine qy 0 ?_ ?_ ?_ hHeld ?_; rotate_left 1; (· rfl); (· intro w' hSw; (try clear hHeld); go_simp; try with_reducible rfl)
     try simp only [jz]
     refine qy 1 ?_ ?_ ?_ hHeld ?_; rotate_left 1; (· rfl); (· intro w' hSw; refine exec_ld 61 (.tmp 8) ?_ g8 ?_ 61 (rtC k p v) (0, 0) _ ((hSw.block _ (jE RQ.out) NG.out).trans RQ.out) Tryz.underlying61 rfl sz_rt <;> rfl)
     try simp only [jz]
     refine qy 2 ?_ ?_ ?_ hHeld ?_; rotate_left 1; (· rfl); (· intro w' hSw; (try clear hHeld); go_simp; try with_reducible rfl)
     try simp only [jz]
     refine jr 3 ?_ fun K hK => ?_; (· rfl); (try clear hb); go_simp; go_wp2_with fail; refine hK.out _ _ ?_ (fun hHeld => ?_); (· exact hHeld); clear hK K
     try simp only [jz]
     refine qy 4 ?_ ?_ ?_ hHeld ?_; rotate_left 1; (· rfl); (· intro w' hSw; (try clear hHeld); go_simp; try with_reducible rfl)
     try simp only [jz]
     refine qy 5 ?_ ?_ ?_ hHeld ?_; rotate_left 1; (· rfl); (· intro w' hSw; (try clear hHeld); go_simp; try with_reducible rfl)
     try simp only [jz]
     refine qy 6 ?_ ?_ ?_ hHeld ?_; rotate_left 1; (· rfl); (· intro w' hSw; have m1 := hSw.cell m1 NM.out; (try clear hHeld); go_simp; try with_reducible rfl)
     try simp only [jz]
     refine qy 7 ?_ ?_ ?_ hHeld ?_; rotate_left 1; (· rfl); (· intro w' hSw; refine exec_built2S 99 (.tmp 30) (.tmp 35) ?_ (.agg (rtC k p v)) (.int .u32 m.id) ?_ ?_ (cvA cv) HB.out <;> rfl)
     try simp only [jz]
     refine jr 8 ?_ fun K hK => ?_; (· rfl); (try clear hb); refine wp_cv1 (.tmp 36) ?_ cv ?_ ?_; (· rfl); (· rfl); intro wx hcs2 hb2; have BX := jC BD hb2; have OX := jQ OWD hb2; refine hK.out _ _ ?_ (fun hHeld => ?_); (· exact hHeld.grow hb2); clear hK K
     try simp only [jz]
     refine jr 9 ?_ fun K hK => ?_; (· rfl); (try clear hb); refine wp_append_at (.tmp 29) (.tmp 37) 96 ?_ W0.heap.size 99 i0 _ 14 160 Tryz.underlying96 hii hz0 hz1 hz2 rfl (by decide) (.slice s1 xs.length c1) xs.length (xs.flatMap cvL) ?_ OX ⟨wz.heap.size, 0, none⟩ 1 1 (cvL cv) ?_ (cvL_len _) hcs2 (cvL_one _) L1.out L2.out (Nat.le_trans WBD.out BX.size) ?_; (· rfl); (· rfl); (· rfl); intro v' w' hown hgrow hat; obtain ⟨s6, c6, hv6, -⟩ := jV hown; subst hv6; refine hK.out _ _ ?_ (fun hHeld => ?_); (· exact hHeld.trans (kept_gr hgrow)); clear hK K
     try simp only [jz]
     refine qy 10 ?_ ?_ ?_ hHeld ?_; rotate_left 1; (· rfl); (· intro w' hSw; (try clear hHeld); go_simp; try with_reducible rfl)
     try simp only [jz]
     refine wpAnyH_done (by kernel_rfl) ?_ _
     have OS := jh (SG.out _ _ _ BX hown hgrow hat)
     have XN2 : Hid ((xs ++ [cv]).map (·.c) = saidS (S.ms.take (k + 1)) p) := jh (by rw [List.map_append, XE.out, XN.out, ← HCV.out]; rfl)
     have EL : Hid (xs.length + 1 = (xs ++ [cv]).length) := jh (by rw [List.length_append]; rfl)
     have BV3 : Hid (Below W0.heap.size W0 w') := jh (BV2.out.trans (hHeld.below BV2.out.size (fun q hq => jJ OWD q hq)))
     clear hHeld hown hgrow hat hcs2 hb2 BX OX BD OWD SG
     rw [EL.out] at OS ⊢
     go_wp2_with fail
     exact ⟨⟨k + 1, s6, c6, xs ++ [cv], _, by omega, by go_num, rfl, by rw [← EL.out]; omega, OS, XN2, BV3⟩, by simp [intOf]; omega⟩
  ·obtain rfl : k = S.ms.length := by omega
   rw [List.take_length] at XE
   have OW := jh OC.out
   have BW := jh (jC B0.out BV.out)
   clear OC BV hk hkl
   go_wp2_with fail
   go_ret
   exact ⟨s1, c1, xs, A, rfl, OW.out.base B0.out.size, XE.out, BW.out⟩
open Go.RowKit
theorem av_Goes (fb : Nat) (own : Int) (bl : Nat → Bool) (a : At) (v : AV) (i j : Nat) (t : Int) (hi : i < 16) (hj : j < 16) (w : World) (h : FilAt w fb own bl) (hA : AvAt w a v) :
  Calls Tryz.prog 76 #[.pointer (some ⟨fb, 0, none⟩), v.V, .int .i64 i, .int .i64 j, .int .i64 t] w fun e w' => e = .returned (.bool (goesB own bl a i j t)) ∧ Below w.heap.size w w' := by
 obtain ⟨vp, vc, vo, e, h2⟩ := hA.form
 rw [e]
 exact ex_Goes fb own bl a vp vc vo i j t hi hj w h h2
def goL (own : Int) (bl : Nat → Bool) (rc : Nat) (t : Int) (xs : List CV) : List CV := xs.filter fun x => goesC own bl rc t x.c
theorem goL_c (own : Int) (bl : Nat → Bool) (rc : Nat) (t : Int) (xs : List CV) : (goL own bl rc t xs).map (·.c) = offL own bl rc t (xs.map (·.c)) := by
 unfold goL offL
 rw [List.filter_map]; rfl
theorem goL_step {own : Int} {bl : Nat → Bool} {rc : Nat} {t : Int} {xs : List CV} {k : Nat} {x : CV} (hx : xs[k]? = some x) : goL own bl rc t (xs.take (k + 1)) = goL own bl rc t (xs.take k) ++ if goesC own bl rc t x.c then [x] else [] := by
 unfold goL
 rw [take_snoc hx, List.filter_append]
 cases h : goesC own bl rc t x.c <;> simp [h]
theorem goL_len (own : Int) (bl : Nat → Bool) (rc : Nat) (t : Int) (xs : List CV) (k : Nat) : (goL own bl rc t (xs.take k)).length ≤ k := Nat.le_trans (List.length_filter_le ..) (List.length_take_le ..)
theorem own_nil14 (w : World) (B : Nat) : w.ownsRow B 99 14 (.slice none 0 0) 0 [] := ⟨by simp, .inl ⟨rfl, rfl⟩⟩
theorem wpList_cv1 {ops : Array Oper} {rest : List Oper} {o : Oper} {a : Act} {w : World} {Q : Exit → Act → World → Prop} (x : Operand) (hg : o.guard = none) (ho : o.op = .buildSlice 96 1 #[(0, x)]) (y : CV) (hx : a.eval x = .agg (cvA y))
  (h : ∀ w2 : World, (∀ (j : Nat) (u : Value), (cvL y)[j]? = some u → w2.cell? ((⟨w.heap.size, 0, none⟩ : Addr).add j) = some u) → Below w.heap.size w w2 → wpList Tryz.prog ops Q rest (a.put o.dst (.slice (some ⟨w.heap.size, 0, none⟩) 1 1)) w2) : wpList Tryz.prog ops Q (o :: rest) a w := by
 obtain ⟨i0, hii, hz0, hz1, hz2⟩ := info_parts info_cand
 refine wpList_buildSlice hg 96 99 1 _ ho (cvA y) i0 _ Tryz.underlying96 hii hz0 (by rw [hz1]; decide) (by rw [hz1]; decide) ?_ (h _ (new_cells w _ _) ((Below.refl _ _).alloc (Nat.le_refl _) _))
 rw [hz1]
 simp only [List.map_toArray, List.map_cons, List.map_nil, hx]
 kernel_rfl
theorem sz_cand : (Tryz.prog.info? 99).map (·.size) = some 14 := by kernel_rfl
theorem cand_range {W : World} {b : Nat} {x : CV} (h : W.heap[b]? = some (.cells (cvA x) 99 (0, 0))) : W.rangeAt b 3 x.v.C.toList := by
 intro j u hv
 have hj : j < 10 := (List.getElem?_eq_some_iff.1 hv).1
 have := jB h (3 + j)
 rw [this, ← hv]
 match j, hj with
 | 0, _ => rfl
 | 1, _ => rfl
 | 2, _ => rfl
 | 3, _ => rfl
 | 4, _ => rfl
 | 5, _ => rfl
 | 6, _ => rfl
 | 7, _ => rfl
 | 8, _ => rfl
 | 9, _ => rfl
set_option maxHeartbeats 6400000 in
set_option maxRecDepth 100000 in
theorem sv_offered {W : World} {rho : Nat → Role} {sb fb : Nat} {ls : List Pl} {S : Sv} (h : SrvM W rho sb fb ls S) {rc : Nat} {m : Pm} (hm : S.ms[rc]? = some m) (va : Value) (xs : List CV) (hx : CvsAt W va xs) (hp : ∀ x ∈ xs, ∃ j : Nat, j < 16 ∧ x.c.peer = (j : Int)) (hl : xs.length ≤ 16) :
  Calls Tryz.prog 73 #[.pointer (some ⟨sb, 0, none⟩), .int .i64 rc, va] W fun e w' =>
   ∃ (s : Option Addr) (c : Nat), e = .returned (.slice s (goL S.own S.bl rc m.as_ xs).length c) ∧ Fresh W.heap.size w' (fun W => SlAt W 14 (fun x cs => cs = cvL x) (.slice s (goL S.own S.bl rc m.as_ xs).length c) (goL S.own S.bl rc m.as_ xs)) ∧ Below W.heap.size W w' := by
 obtain ⟨s, cap, c0, cf, hcs⟩ := h.cells
 obtain ⟨l, hl2, hM⟩ := h.get hm
 obtain ⟨g, o, rfl, m0⟩ := hcs rc l hl2
 have HS := jh h
 have HX := jh hx
 have HP := jh hp
 have few := h.bod.few
 have hrc : rc < S.ms.length := (List.getElem?_eq_some_iff.1 hm).1
 have r0 : (0 : Int) ≤ (rc : Int) := by omega
 have r1 : (rc : Int) < (S.ms.length : Int) := by omega
 have mas : W.cell? ⟨l.mb, 0, none⟩ = some (.int .i64 m.as_) := jB hM.row 0
 obtain ⟨sx, cx, rfl, -⟩ := id hx.1
 have CF := jh cf
 clear h hx hp hcs hM hl2 hm cf
 obtain ⟨t, ht⟩ : ∃ t, m.as_ = t := ⟨_, rfl⟩
 rw [ht] at mas ⊢
 clear ht
 go_enter Tryz.func73, Tryz.ntmps73
 go_wp2_with fail
 clear c0 m0 mas
 go_loopw [24, 8] (fun t24 t8 wr => ∃ (k : Nat) (s' : Option Addr) (c' : Nat), k ≤ xs.length ∧ t24 = .int .i64 k ∧ t8 = .slice s' (goL S.own S.bl rc t (xs.take k)).length c' ∧ Hid (wr.ownsRow W.heap.size 99 14 (.slice s' (goL S.own S.bl rc t (xs.take k)).length c') (goL S.own S.bl rc t (xs.take k)).length ((goL S.own S.bl rc t (xs.take k)).flatMap cvL)) ∧ Hid (Below W.heap.size W wr)) (fun t24 _ _ => xs.length - (intOf t24).toNat)
 case atStart => exact ⟨0, none, 0, by omega, rfl, rfl, jh (own_nil14 W _), jh (Below.refl _ _)⟩
 case round =>
  obtain ⟨k, s1, c1, hk, rfl, rfl, OW, BV⟩ := hrel
  by_cases hkl : k < xs.length
  ·obtain ⟨x, hxk⟩ : ∃ x, xs[k]? = some x := ⟨_, List.getElem?_eq_getElem hkl⟩
   obtain ⟨gx, ox, rfl, hr, hav⟩ := cvs_at (HX.out.below BV.out) hxk
   obtain ⟨pj, hpj, epj⟩ := HP.out x (List.mem_of_getElem? hxk)
   have RR := jh hr
   have HAV := jh hav
   have ST := jh (goL_step (own := S.own) (bl := S.bl) (rc := rc) (t := t) hxk)
   have LL := jh (goL_len S.own S.bl rc t xs k)
   have k0 : (0 : Int) ≤ (k : Int) := by omega
   have k1 : (k : Int) < (xs.length : Int) := by omega
   have EP := jh epj
   clear hxk hr hav epj
   obtain ⟨ys, hys⟩ : ∃ ys, goL S.own S.bl rc t (xs.take k) = ys := ⟨_, rfl⟩
   rw [hys] at OW ST LL ⊢
   clear hys
   go_wp2_with ((with_reducible refine jM (X := .load 99 (.tmp 26)) ?_ ?_); (· rfl))
   unfold Halt
   refine ldm_at (by rfl) 99 (.tmp 26) rfl gx (ox + k * 14) rfl (cvL x) _ RR.out Tryz.underlying99 rfl sz_cand ?_
   go_wp2_with ((with_reducible refine jM (X := .store 99 (.tmp 10) (.tmp 27)) ?_ ?_); (· rfl))
   unfold Halt
   refine st_fresh rfl 99 (.tmp 10) (.tmp 27) rfl rfl _ (cvA x) rfl sz_cand rfl (cv_one x) ?_
   obtain ⟨v1, hv1, q1, hb1, -⟩ := box1 wr (cvA x) 99
   rw [← hv1]
   obtain ⟨pb, hpb⟩ : ∃ pb, pb = wr.heap.size := ⟨_, rfl⟩
   rw [← hpb] at q1 ⊢
   have BV1 := jh (jC BV.out hb1)
   have OW1 := jh (jQ OW.out hb1)
   have Q1 := jh q1
   have f1 := jA CF.out BV1.out
   have y0 : v1.cell? ⟨pb, 0, none⟩ = some (.int .i64 (pj : Int)) := by rw [← EP.out]; exact jB q1 0
   have GB := jh (fun w' (hb : Below v1.heap.size v1 w') => av_Goes fb S.own S.bl x.c.a x.v pj rc t hpj (by omega) w' ((HS.out.below (jC BV1.out hb)).bod.fil) ((HAV.out.below hb1).below hb))
   have GE : Hid (goesB S.own S.bl x.c.a pj rc t = goesC S.own S.bl rc t x.c) := jh (by unfold goesC; rw [EP.out]; rfl)
   rw [GE.out] at GB
   have RX := jh (cand_range q1)
   obtain ⟨z, hz⟩ : ∃ z, goesC S.own S.bl rc t x.c = z := ⟨_, rfl⟩
   rw [hz] at GB ST
   clear hv1 q1 hb1 BV OW HAV RR hpb GE hz
   go_upto_region 6 with (fail)
   simp only [Act.put]
   go_cut [40] from 28 to 40 (fun s40 wx => s40 = .bool z ∧ Hid (Below v1.heap.size v1 wx))
   case first =>
    refine wp_region_held_drew (S := fun w' => Below v1.heap.size v1 w') (by kernel_rfl) ?_ (fun hHeld => ?_)
    ·exact (Below.refl _ _).drew
    generalize World.drew v1 = wd at hHeld ⊢
    refine qy 0 ?_ ?_ ?_ hHeld ?_; rotate_left 1; (· rfl); (· intro w' hSw; (try clear hHeld); go_simp; try with_reducible rfl)
    try simp only [jz]
    refine qy 4 ?_ ?_ ?_ hHeld ?_; rotate_left 1; (· rfl); (· intro w' hSw; (try clear hHeld); go_simp; try with_reducible rfl)
    try simp only [jz]
    refine qy 5 ?_ ?_ ?_ hHeld ?_; rotate_left 1; (· rfl); (· intro w' hSw; (try clear hHeld); go_simp; try with_reducible rfl)
    try simp only [jz]
    refine qy 6 ?_ ?_ ?_ hHeld ?_; rotate_left 1; (· rfl); (· intro w' hSw; refine exec_ldm 42 (.tmp 33) ?_ pb 3 ?_ x.v.C.toList _ (fun j u hj => jA (RX.out j u hj) hSw) Tryz.underlying42 rfl sz_avS <;> rfl)
    try simp only [jz]
    refine qy 7 ?_ ?_ ?_ hHeld ?_; rotate_left 1; (· rfl); (· intro w' hSw; (try clear hHeld); go_simp; try with_reducible rfl)
    try simp only [jz]
    refine qy 8 ?_ ?_ ?_ hHeld ?_; rotate_left 1; (· rfl); (· intro w' hSw; (try clear hHeld); go_simp; try with_reducible rfl)
    try simp only [jz]
    refine qy 9 ?_ ?_ ?_ hHeld ?_; rotate_left 1; (· rfl); (· intro w' hSw; have f1 := jA f1 hSw; have y0 := jA y0 hSw; (try clear hHeld); go_simp; try with_reducible rfl)
    try simp only [jz]
    refine qy 10 ?_ ?_ ?_ hHeld ?_; rotate_left 1; (· rfl); (· intro w' hSw; (try clear hHeld); go_simp; try with_reducible rfl)
    try simp only [jz]
    refine qy 11 ?_ ?_ ?_ hHeld ?_; rotate_left 1; (· rfl); (· intro w' hSw; (try clear hHeld); go_simp; try with_reducible rfl)
    try simp only [jz]
    refine jr 1 ?_ fun K hK => ?_; (· rfl); (try clear hb); go_simp; go_wp2_with fail; refine hK.out _ _ ?_ (fun hHeld => ?_); (· exact hHeld); clear hK K
    try simp only [jz]
    refine qy 2 ?_ ?_ ?_ hHeld ?_; rotate_left 1; (· rfl); (· intro w' hSw; (try clear hHeld); go_simp; try with_reducible rfl)
    try simp only [jz]
    refine qy 3 ?_ ?_ ?_ hHeld ?_; rotate_left 1; (· rfl); (· intro w' hSw; have f1 := jA f1 hSw; have y0 := jA y0 hSw; (try clear hHeld); go_simp; try with_reducible rfl)
    try simp only [jz]
    refine jr 12 ?_ fun K hK => ?_; (· rfl); (try clear hb); go_simp; (refine (GB.out _ hHeld).mono ?_; rintro e w1 ⟨rfl, hb⟩); go_wp2_with fail; refine hK.out _ _ ?_ (fun hHeld => ?_); (· exact hHeld.trans (hb.mono hHeld.size)); clear hK K
    try simp only [jz]
    refine wpAnyH_done (by kernel_rfl) ?_ _
    go_wp2_with fail
    go_meet
    exact ⟨rfl, jh hHeld⟩
   case rest =>
    obtain ⟨rfl, HH⟩ := hcut
    obtain ⟨wd, hwd⟩ : ∃ wd : World, wd = wc := ⟨_, rfl⟩
    rw [← hwd] at HH ⊢
    have BV2 := jh (jC BV1.out HH.out)
    have OW2 := jh (jQ OW1.out HH.out)
    have Q2 := jh ((HH.out.block _ (jE Q1.out)).trans Q1.out)
    have PBL : Hid (W.heap.size ≤ wd.heap.size) := jh BV2.out.size
    clear hwd HH BV1 OW1 Q1 f1 y0 GB RX
    rcases z with _ | _
    ·have ST2 : Hid (goL S.own S.bl rc t (xs.take (k + 1)) = ys) := jh (by rw [ST.out]; simp)
     go_wp2_with fail
     exact ⟨⟨k + 1, s1, c1, by omega, by go_num, by rw [ST2.out], jh (by rw [ST2.out]; exact OW2.out), BV2⟩, by simp [intOf]; omega⟩
    ·have ST2 : Hid (goL S.own S.bl rc t (xs.take (k + 1)) = ys ++ [x]) := jh (by rw [ST.out]; simp)
     have L1 : Hid (ys.length + 1 ≤ maxLen) := jh (by have := LL.out; unfold maxLen; omega)
     have L2 : Hid ((ys.length + 1) * 160 ≤ 140737488355328) := jh (by have := LL.out; omega)
     obtain ⟨i0, hii, hz0, hz1, hz2⟩ := info_parts info_cand
     go_wp2_with ((with_reducible refine jM (X := .load 99 (.tmp 10)) ?_ ?_); (· rfl))
     unfold Halt
     refine ld_at (by rfl) 99 (.tmp 10) rfl pb rfl 99 (cvA x) (0, 0) _ Q2.out Tryz.underlying99 rfl sz_cand ?_
     go_wp2_with ((with_reducible refine jM (X := .buildSlice 96 1 #[(0, .tmp 42)]) ?_ ?_); (· rfl))
     unfold Halt
     refine wpList_cv1 (.tmp 42) rfl rfl x rfl ?_
     intro wx hcs2 hb2
     have BX := jh (jC BV2.out hb2)
     have OX := jQ OW2.out hb2
     have SX : Hid (W.heap.size ≤ wx.heap.size) := jh BX.out.size
     go_wp2_with (at_builtin; refine wpList_append_own _ rfl _ _ 96 rfl W.heap.size 99 i0 _ 14 160 Tryz.underlying96 hii hz0 hz1 hz2 rfl (by decide) (.slice s1 ys.length c1) ys.length (ys.flatMap cvL) rfl OX ⟨wd.heap.size, 0, none⟩ 1 1 (cvL x) rfl (cvL_len _) hcs2 (cvL_one _) L1.out L2.out SX.out ?_)
     intro v' w' hown hgrow _
     obtain ⟨s6, c6, hv6, -⟩ := jV hown
     subst hv6
     have EL : Hid (ys.length + 1 = (ys ++ [x]).length) := jh (by rw [List.length_append]; rfl)
     have ON : Hid (w'.ownsRow W.heap.size 99 14 (.slice s6 (ys ++ [x]).length c6) (ys ++ [x]).length ((ys ++ [x]).flatMap cvL)) := jh (by rw [← EL.out, List.flatMap_append]; simpa using hown)
     have BN : Hid (Below W.heap.size W w') := jh (BX.out.grown hgrow SX.out (jJ OX))
     clear hown hgrow hcs2 hb2 OX
     rw [EL.out]
     go_wp2_with fail
     exact ⟨⟨k + 1, s6, c6, by omega, by go_num, by rw [ST2.out], jh (by rw [ST2.out]; exact ON.out), BN⟩, by simp [intOf]; omega⟩
  ·obtain rfl : k = xs.length := by omega
   rw [List.take_length] at OW ⊢
   have OO := jh OW.out
   have BW := jh BV.out
   clear OW BV hk hkl
   go_wp2_with fail
   go_ret
   exact ⟨s1, c1, rfl, (own_fresh OO.out).imp fun W h => own_slat cvL_len h, BW.out⟩
open Go.RowKit
section
variable {W W1 W2 : World} {rho : Nat → Role} {sb fb : Nat} {ls : List Pl} {S : Sv} {i : Nat} {m : Pm} {l : Pl}
theorem markS_no (S : Sv) (i : Nat) (p : Pf) (c : Bool) (h : ∀ m, S.ms[i]? = some m → (m.there && c) = false) : markS S i p c = S := by
 have e : (markS S i p c).ms = S.ms := by
  apply List.ext_getElem?
  intro j
  rw [markS_get]
  cases hj : S.ms[j]? with
  | none => rfl
  | some m =>
   rw [Option.map_some]
   by_cases e : j = i
   ·subst e
    rw [if_pos rfl, h m hj]
    unfold Pm.mark
    simp
   ·rw [if_neg e]
 unfold markS at e ⊢
 simp only at e
 rw [e]
theorem setBest_same (S : Sv) (i : Nat) (p : Pf) (b : Option (Int × At)) (h : S.best i p = b) : setBestS S i p b = S := by
 have e : updB S.best i p b = S.best := by
  funext j q
  unfold updB
  split
  ·rename_i hh
   rw [hh.1, hh.2, h]
  ·rfl
 unfold setBestS
 rw [e]
theorem updB_row (f : Nat → Pf → Option (Int × At)) (i : Nat) (p : Pf) (b : Option (Int × At)) (q : Pf) : updB f i p b i q = if q = p then b else f i q := by
 unfold updB
 by_cases h : q = p
 ·rw [if_pos ⟨rfl, h⟩, if_pos h]
 ·rw [if_neg (fun e => h e.2), if_neg h]
theorem updB_oth (f : Nat → Pf → Option (Int × At)) (i : Nat) (p : Pf) (b : Option (Int × At)) {j : Nat} (h : j ≠ i) : updB f i p b j = f j := by
 funext q
 unfold updB
 rw [if_neg (fun e => h e.1)]
theorem SrvM.putB (h : SrvM W rho sb fb ls S) (hm : S.ms[i]? = some m) (hl : ls[i]? = some l) {L : List (Pf × BV)} (hL : BestAt W rho l.bb (S.best i) L) {p : Pf} (hp : RgtP p) {b : BV} (hb : b.net = p) (hg : GoodA b.a) {lo hi : Nat}
  (b01 : Below W.heap.size W W1) (fr : On (fun k => lo ≤ k ∧ k < hi) W1 (fun w => AvU w b.a b.v)) (hlo : W.heap.size ≤ lo) (hhi : hi ≤ W1.heap.size) (hk : Kept (fun k => k = l.bb) W1 W2) (hM : BestT W2 l.bb (putL L p b)) :
  SrvM W2 (extP rho W (fun k => lo ≤ k ∧ k < hi) .att) sb fb ls (setBestS S i p (some (b.peer, b.a))) ∧ Step rho (extP rho W (fun k => lo ≤ k ∧ k < hi) .att) W W2 := by
 have hM0 := h.bod.mem i m l hm hl
 have s1 := b01.size
 have s2 := hk.size
 have bl := hL.map.lt
 have hr := extP_old (rho := rho) (W := W) (F := fun k => lo ≤ k ∧ k < hi) (r := .att) h.dom
 have hd := extP_dom (rho := rho) (W := W) (W' := W2) (F := fun k => lo ≤ k ∧ k < hi) (r := .att) (by omega) fun k _ hk => by omega
 have hk0 : Kept (fun k => k = l.bb) W W2 := (Kept.of_below b01).trans hk
 refine ⟨h.one (m' := m) hl hr hd hk0 (fun k _ e => by subst e; exact .inr (.inl hM0.rbb)) rfl rfl rfl rfl hm (fun _ _ => rfl) (fun j hj => updB_oth _ _ _ _ hj) ?_, ⟨fun k hk => extP_low hk, hk0.imp fun k e => by subst e; rw [hM0.rbb]; intro e; cases e⟩⟩
 have ne : ∀ k, rho k = .mem i ∨ rho k = .news i ∨ rho k = .rib i ∨ rho k = .att → ¬ k = l.bb := fun k hr e => by
  subst e; rw [hM0.rbb] at hr; simp at hr
 refine ⟨(hk0.block _ (jE hM0.row) (ne _ (.inl hM0.rmb))).trans hM0.row, (hr _ (by rw [hM0.rmb]; intro e; cases e)).trans hM0.rmb,
  (hM0.rib.kept hk0 fun k _ hF => ne k (.inr (.inr (.inl hF)))).wide fun k hF => (hr k (by rw [hF]; intro e; cases e)).trans hF,
  (hr _ (by rw [hM0.rbb]; intro e; cases e)).trans hM0.rbb, (hr _ (by rw [hM0.rnb]; intro e; cases e)).trans hM0.rnb, ⟨_, hM, fun q => ?_, fun x hx => ?_⟩, ?_, hM0.good, hM0.ids, hM0.ass⟩
 ·show _ = updB S.best i p (some (b.peer, b.a)) i q
  rw [updB_row, getL_put]
  split
  ·rfl
  ·exact hL.get q
 ·rcases mem_put hx with ⟨hx, -⟩ | rfl
  ·obtain ⟨v1, v2, v3, v4⟩ := hL.val x hx
   exact ⟨v1, v2, v3, (v4.kept hk0 fun k _ hF => ne k (.inr (.inr (.inr hF)))).wide fun k hF _ => (hr k (by rw [hF]; intro e; cases e)).trans hF⟩
  ·refine ⟨hb, hp, hg, ?_⟩
   exact (fr.kept hk fun k _ hF e => by omega).wide fun k hF _ => extP_new (by omega) hF
 ·obtain ⟨N, hN⟩ := hM0.news
  exact ⟨N, hN.kept hk0 (ne _ (.inr (.inl hM0.rnb)))⟩
theorem SrvM.delB (h : SrvM W rho sb fb ls S) (hm : S.ms[i]? = some m) (hl : ls[i]? = some l) {L : List (Pf × BV)} (hL : BestAt W rho l.bb (S.best i) L) {p : Pf}
  (hk0 : Kept (fun k => k = l.bb) W W2) (hM : BestT W2 l.bb (delL L p)) : SrvM W2 rho sb fb ls (setBestS S i p none) ∧ Step rho rho W W2 := by
 have hM0 := h.bod.mem i m l hm hl
 have s2 := hk0.size
 have bl := hL.map.lt
 refine ⟨h.one (m' := m) hl (fun _ _ => rfl) (fun k hk => Nat.lt_of_lt_of_le (h.dom k hk) s2) hk0 (fun k _ e => by subst e; exact .inr (.inl hM0.rbb)) rfl rfl rfl rfl hm (fun _ _ => rfl) (fun j hj => updB_oth _ _ _ _ hj) ?_, ⟨fun _ _ => rfl, hk0.imp fun k e => by subst e; rw [hM0.rbb]; intro e; cases e⟩⟩
 have ne : ∀ k, rho k = .mem i ∨ rho k = .news i ∨ rho k = .rib i ∨ rho k = .att → ¬ k = l.bb := fun k hr e => by
  subst e; rw [hM0.rbb] at hr; simp at hr
 refine ⟨(hk0.block _ (jE hM0.row) (ne _ (.inl hM0.rmb))).trans hM0.row, hM0.rmb, hM0.rib.kept hk0 fun k _ hF => ne k (.inr (.inr (.inl hF))), hM0.rbb, hM0.rnb, ⟨_, hM, fun q => ?_, fun x hx => ?_⟩, ?_, hM0.good, hM0.ids, hM0.ass⟩
 ·show _ = updB S.best i p none i q
  rw [updB_row, getL_del]
  split
  ·rfl
  ·exact hL.get q
 ·obtain ⟨v1, v2, v3, v4⟩ := hL.val x (mem_del.1 hx).1
  exact ⟨v1, v2, v3, v4.kept hk0 fun k _ hF => ne k (.inr (.inr (.inr hF)))⟩
 ·obtain ⟨N, hN⟩ := hM0.news
  exact ⟨N, hN.kept hk0 (ne _ (.inr (.inl hM0.rnb)))⟩
theorem SrvM.putN (h : SrvM W rho sb fb ls S) (hm : S.ms[i]? = some m) (hl : ls[i]? = some l) {N : List (Pf × Unit)} (hN : NewsAt W l.nb m.news N) {p : Pf} (hp : RgtP p) {c : Bool} (hc : (m.there && c) = true)
  (hk0 : Kept (fun k => k = l.nb) W W2) (hM : NewsT W2 l.nb (putL N p ())) : SrvM W2 rho sb fb ls (markS S i p c) ∧ Step rho rho W W2 := by
 have hM0 := h.bod.mem i m l hm hl
 have s2 := hk0.size
 refine ⟨h.one (m' := m.mark p (m.there && c)) hl (fun _ _ => rfl) (fun k hk => Nat.lt_of_lt_of_le (h.dom k hk) s2) hk0 (fun k _ e => by subst e; exact .inr (.inr (.inl hM0.rnb))) rfl rfl rfl (markS_len ..) (by rw [markS_get, hm]; simp) (fun j hj => by rw [markS_get]; simp [hj]) (fun _ _ => rfl) ?_, ⟨fun _ _ => rfl, hk0.imp fun k e => by subst e; rw [hM0.rnb]; intro e; cases e⟩⟩
 have ne : ∀ k, rho k = .mem i ∨ rho k = .best i ∨ rho k = .rib i ∨ rho k = .att → ¬ k = l.nb := fun k hr e => by
  subst e; rw [hM0.rnb] at hr; simp at hr
 refine ⟨(hk0.block _ (jE hM0.row) (ne _ (.inl hM0.rmb))).trans hM0.row, hM0.rmb, hM0.rib.kept hk0 fun k _ hF => ne k (.inr (.inr (.inl hF))), hM0.rbb, hM0.rnb, ?_, ⟨_, hM, fun q => ?_, fun x hx => ?_⟩, hM0.good, hM0.ids, hM0.ass⟩
 ·obtain ⟨L, hL⟩ := hM0.bests
  exact ⟨L, hL.kept (fun _ _ => rfl) hk0 (ne _ (.inr (.inl hM0.rbb))) fun k _ hF => ne k (.inr (.inr (.inr hF)))⟩
 ·rw [mark_news, hc, getL_put, ← hN.get q]
  by_cases e : q = p
  ·simp [e]
  ·simp [e]
 ·rcases mem_put hx with ⟨hx, -⟩ | rfl
  ·exact hN.rgt x hx
  ·exact hp
end
open Go.RowKit
theorem region_tailR {P : Program} {id : Nat} {Q : Exit → Act → World → Prop} {a : Act} {w : World} {l : List Oper} (n : Nat) (hm : P.follows .mixedOrders = true) (hB : Region.lexTailB .any l.toArray n = true)
  (h : wpStill P l.toArray w.drew (fun a' => wpList P l.toArray Q (l.drop n) a' w.drew) (l.take n) a) : (Code.region id l.toArray true).wp P Q a w := wp_region_still_tail n hm hB h
end Go.Proofs.YtkoidahgbbabiaaGreat
