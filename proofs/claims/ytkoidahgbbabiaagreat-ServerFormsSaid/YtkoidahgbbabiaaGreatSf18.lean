/- Texts of one proof, one behind another. -/
import Derived.Test.YtkoidahgbbabiaaGreatSf16
import Derived.Test.YtkoidahgbbabiaaGreatSf17
import Derived.Test.YtkoidahgbbabiaaGreatSf1
import Derived.Test.YtkoidahgbbabiaaGreatSf14
/-
  THE SERVER: what a participant says, walked.
-/
namespace Go.Proofs.YtkoidahgbbabiaaGreat
open Go.RowKit
def setR (S : Sv) (i : Nat) (R : Rts) : Sv := { S with ms := S.ms.modify i fun m => { m with R := R } }
theorem setR_get (S : Sv) (i : Nat) (R : Rts) (j : Nat) : (setR S i R).ms[j]? = (S.ms[j]?).map fun m => if j = i then { m with R := R } else m := by
  unfold setR
  simp only [List.getElem?_modify]
  cases S.ms[j]? with
  | none => rfl
  | some m => simp only [Option.map_some, Option.map_eq_map, eq_comm (a := i)]
theorem setR_len (S : Sv) (i : Nat) (R : Rts) : (setR S i R).ms.length = S.ms.length := by unfold setR; simp
def updS (S : Sv) (i : Nat) (m : Pm) (kind : Int) (gone nets : List Pf) (a : At) : Sv :=
  if (updP S.own S.most m.R kind gone nets a).1 = 0 then turnS (turnS (setR S i (updP S.own S.most m.R kind gone nets a).2.2) gone) nets else S
theorem updP_ok {own most : Int} {R : Rts} {kind : Int} {gone nets : List Pf} {a : At} (h : (updP own most R kind gone nets a).1 = 0) : rights (gone ++ nets) = true := by
  unfold updP at h
  split at h
  · split at h
    · assumption
    · simp at h
  · simp at h
theorem updP_no {own most : Int} {R : Rts} {kind : Int} {gone nets : List Pf} {a : At} (h : ¬ (updP own most R kind gone nets a).1 = 0) : (updP own most R kind gone nets a).2 = ([], R) := by
  unfold updP at h ⊢
  split
  · rename_i h1
    rw [if_pos h1] at h
    split
    · rename_i h2
      rw [if_pos h2] at h
      split
      · rfl
      · rename_i h3
        rw [if_neg h3] at h
        exact absurd rfl h
    · rfl
  · rfl
section
variable {W W' : World} {rho : Nat → Role} {sb fb : Nat} {ls : List Pl} {S : Sv} {i : Nat} {m : Pm} {l : Pl}
theorem SrvM.setRib (h : SrvM W rho sb fb ls S) (hm : S.ms[i]? = some m) (hl : ls[i]? = some l) {F' : Nat → Prop} {R' : Rts} (hR : RibAt W' l.rb i S.own S.most R' F') (hF : ∀ k, F' k → rho k = .rib i ∨ (W.heap.size ≤ k ∧ k < W'.heap.size))
    (hk : Kept (fun k => rho k = .rib i) W W') (hg : ∀ p a, getL R' p = some a → GoodA a) : SrvM W' (extP rho W F' (.rib i)) sb fb ls (setR S i R') ∧ Step rho (extP rho W F' (.rib i)) W W' := by
  have hM0 := h.bod.mem i m l hm hl
  have s2 := hk.size
  have hr := extP_old (rho := rho) (W := W) (F := F') (r := .rib i) h.dom
  have hd := extP_dom (rho := rho) (W := W) (W' := W') (F := F') (r := .rib i) s2 fun k h1 h2 => by
    rcases hF k h2 with h3 | h3
    · have := h.dom k (by rw [h3]; intro e; cases e); omega
    · exact h3.2
  refine ⟨h.one (m' := { m with R := R' }) hl hr hd hk (fun k _ e => .inr (.inr (.inr (.inl e)))) rfl rfl rfl (setR_len ..) (by rw [setR_get, hm]; simp) (fun j hj => by rw [setR_get]; simp [hj]) (fun _ _ => rfl) ?_, ⟨fun k hk => extP_low hk, hk.imp fun k e => by rw [e]; intro e; cases e⟩⟩
  have ne : ∀ k, rho k = .mem i ∨ rho k = .best i ∨ rho k = .news i ∨ rho k = .att → ¬ rho k = .rib i := fun k hr e => by rw [e] at hr; simp at hr
  refine ⟨(hk.block _ (row_lt hM0.row) (ne _ (.inl hM0.rmb))).trans hM0.row, (hr _ (by rw [hM0.rmb]; intro e; cases e)).trans hM0.rmb, hR.wide fun k hF' => ?_, (hr _ (by rw [hM0.rbb]; intro e; cases e)).trans hM0.rbb, (hr _ (by rw [hM0.rnb]; intro e; cases e)).trans hM0.rnb, ?_, ?_, hg, hM0.ids, hM0.ass⟩
  · rcases hF k hF' with h3 | h3
    · exact (hr k (by rw [h3]; intro e; cases e)).trans h3
    · exact extP_new h3.1 hF'
  · obtain ⟨L, hL⟩ := hM0.bests
    exact ⟨L, hL.kept hr hk (ne _ (.inr (.inl hM0.rbb))) fun k _ hF => ne k (.inr (.inr (.inr hF)))⟩
  · obtain ⟨N, hN⟩ := hM0.news
    exact ⟨N, hN.kept hk (ne _ (.inr (.inr (.inl hM0.rnb))))⟩
end
end Go.Proofs.YtkoidahgbbabiaaGreat
/-
  THE SERVER: what a participant says, walked.
-/
namespace Go.Proofs.YtkoidahgbbabiaaGreat
open Go.RowKit
set_option maxRecDepth 100000 in
theorem sz_msgS : (Tryz.prog.info? 46).map (·.size) = some 20 := by kernel_rfl
theorem ps_nilS (W : World) : PsAt W (.slice none 0 0) [] := ⟨none, 0, rfl, Nat.le_refl _, Nat.zero_le _, fun h => absurd h (Nat.lt_irrefl _)⟩
theorem updP_get {own most : Int} {R : Rts} {kind : Int} {gone nets : List Pf} {a b : At} {p : Pf} (h : getL (updP own most R kind gone nets a).2.2 p = some b) : getL R p = some b ∨ b = a := by
  unfold updP at h
  split at h
  · split at h
    · split at h
      · exact .inl h
      · simp only at h
        rw [getL_putAll, getL_dropAll] at h
        split at h
        · injection h with h; exact .inr h.symm
        · split at h
          · cases h
          · exact .inl h
    · exact .inl h
  · exact .inl h
theorem setR_same {S : Sv} {i : Nat} {m : Pm} (hm : S.ms[i]? = some m) : setR S i m.R = S := by
  have e : (setR S i m.R).ms = S.ms := by
    apply List.ext_getElem?
    intro j
    rw [setR_get]
    cases hj : S.ms[j]? with
    | none => rfl
    | some n =>
      rw [Option.map_some]
      by_cases e : j = i
      · subst e
        rw [hm] at hj; injection hj with hj; subst hj
        rw [if_pos rfl]
      · rw [if_neg e]
  unfold setR at e ⊢
  simp only at e
  rw [e]
theorem right_of {gone nets : List Pf} (h : rights (gone ++ nets) = true) (hg : ∀ p ∈ gone, OkP p) (hn : ∀ p ∈ nets, OkP p) : (∀ p ∈ gone, RgtP p) ∧ ∀ p ∈ nets, RgtP p := by
  unfold rights at h
  rw [List.all_eq_true] at h
  exact ⟨fun p hp => ⟨hg p hp, h p (List.mem_append_left _ hp)⟩, fun p hp => ⟨hn p hp, h p (List.mem_append_right _ hp)⟩⟩
set_option maxHeartbeats 6400000 in
set_option maxRecDepth 100000 in
theorem sv_Update {W : World} {rho : Nat → Role} {sb fb : Nat} {ls : List Pl} {S : Sv} (h : SrvM W rho sb fb ls S) {i : Nat} {m : Pm} (hm : S.ms[i]? = some m) (hth : m.there = true) (x : Ms) (hx : On (fun k => rho k = .no) W (fun W => MsAt W x)) (hg : GoodA x.a) (hz : x.gone.length + x.nets.length ≤ 656) :
    Calls Tryz.prog 20 #[.pointer (some ⟨sb, 0, none⟩), .int .i64 i, x.m.V] W fun e w' => ∃ rho' v, e = .returned (.tuple #[v, .int .i64 (updP S.own S.most m.R x.m.kind x.gone x.nets x.a).1]) ∧ SrvM w' rho' sb fb ls (updS S i m x.m.kind x.gone x.nets x.a) ∧ Step rho rho' W w' ∧
      On (fun k => rho' k = .no) w' (fun W => PsAt W v (updP S.own S.most m.R x.m.kind x.gone x.nets x.a).2.1) := by
  obtain ⟨l, hl, hM⟩ := h.get hm
  have HS := Lib.hid h
  have HM := Lib.hid hm
  have HL := Lib.hid hl
  have HX := Lib.hid hx
  have HG := Lib.hid hg
  have RGS : Hid (∀ p ∈ x.gone, OkP p) := Lib.hid (ps_ok hx.self.gone)
  have RNS : Hid (∀ p ∈ x.nets, OkP p) := Lib.hid (ps_ok hx.self.nets)
  have GD : Hid (∀ p b, getL (updP S.own S.most m.R x.m.kind x.gone x.nets x.a).2.2 p = some b → GoodA b) := Lib.hid fun p b hb => by
    rcases updP_get hb with h | h
    · exact hM.good p b h
    · rw [h]; exact hg
  have UP := Lib.hid (fun w' (hb : Below W.heap.size W w') => ad_Update x.m x.gone x.nets x.a w' (hM.rib.below hb) (hx.self.gone.below hb) (hx.self.nets.below hb) (fun W' hk => (((hx.below hb).kept hk fun k _ h1 h2 => by rw [h1] at h2; cases h2).self).a) hz hg.sz)
  have m2 : W.cell? ⟨l.mb, 2, none⟩ = some (.bool true) := by rw [← hth]; exact row_cell hM.row 2
  have m3 : W.cell? ⟨l.mb, 3, none⟩ = some (.pointer (some ⟨l.rb, 0, none⟩)) := row_cell hM.row 3
  have NMB : Hid (¬ rho l.mb = .rib i) := Lib.hid (by rw [hM.rmb]; intro e; cases e)
  obtain ⟨r, hr⟩ : ∃ r, updP S.own S.most m.R x.m.kind x.gone x.nets x.a = r := ⟨_, rfl⟩
  have HRR := Lib.hid hr
  rw [hr] at UP GD ⊢
  have US : Hid (updS S i m x.m.kind x.gone x.nets x.a = if r.1 = 0 then turnS (turnS (setR S i r.2.2) x.gone) x.nets else S) := Lib.hid (by unfold updS; rw [hr])
  clear h hm hl hM hx hg hth hr hz
  obtain ⟨T, hT⟩ : ∃ T, updS S i m x.m.kind x.gone x.nets x.a = T := ⟨_, rfl⟩
  rw [hT] at US ⊢
  clear hT
  go_enter Tryz.func20, Tryz.ntmps20
  go_upto_region 1 with (fail)
  obtain ⟨W0, hW0, q0, hB, -⟩ := box_msg W x.m
  rw [← hW0]
  obtain ⟨pb, hpb⟩ : ∃ pb, pb = W.heap.size := ⟨_, rfl⟩
  have NPB : Hid (rho pb = .no) := Lib.hid (by
    cases hr : rho pb with
    | no => rfl
    | _ => exact absurd (HS.out.dom pb (by rw [hr]; intro e; cases e)) (by omega))
  rw [← hpb] at q0 ⊢
  have Q0 := Lib.hid q0
  have B0 := Lib.hid hB
  have m2 := cell_below m2 hB
  have m3 := cell_below m3 hB
  have HS0 := Lib.hid (HS.out.below hB)
  have MB := Lib.hid (sv_member HS0.out HL.out)
  have UP0 := Lib.hid (fun w' (hb : Below W0.heap.size W0 w') => UP.out w' (below_on B0.out hb))
  clear hW0 hB q0 hpb UP
  go_wp2_with fail
  refine MB.out.mono ?_
  rintro e w1 ⟨rfl, rfl⟩
  have BD := Below.refl W0.heap.size W0
  go_wp2_with fail
  go_upto_region 6 with (fail)
  have BDD := BD.drew
  go_cut [9, 10] from 21 to 29 (fun v9 v10 wx => ∃ (rho1 : Nat → Role) (s8 : Option Addr) (c8 : Nat), v9 = .slice s8 r.2.1.length c8 ∧ v10 = .int .i64 r.1 ∧ Hid (SrvM wx rho1 sb fb ls (setR S i r.2.2) ∧ Step rho rho1 W0 wx ∧ On (fun k => rho1 k = .no) wx (fun W => PsAt W (.slice s8 r.2.1.length c8) r.2.1)))
  case first =>
    refine wp_region_held_drew (S := fun w' => Kept (fun k => rho k = .rib i) W0 w') (by kernel_rfl) ?_ (fun hHeld => ?_)
    · exact (Kept.refl _ _).drew
    generalize World.drew W0 = wd at BDD hHeld ⊢
    refine qy 0 ?_ ?_ ?_ hHeld ?_; rotate_left 1; (· rfl); (· intro w' hSw; (try clear hHeld); go_simp; try with_reducible rfl)
    try simp only [zp1, zp3, zp4, zp5]
    refine qy 4 ?_ ?_ ?_ hHeld ?_; rotate_left 1; (· rfl); (· intro w' hSw; refine exec_ld 46 (.tmp 5) ?_ pb ?_ 46 x.m.C (0, 0) _ ((hSw.block _ (row_lt Q0.out) (by rw [NPB.out]; intro e; cases e)).trans Q0.out) Tryz.underlying46 rfl sz_msgS <;> rfl)
    try simp only [zp1, zp3, zp4, zp5]
    refine rg_call (i := 1) (atN rfl) (by kernel_rfl) ?_ (fun K hK => ?_); (· rfl); (try clear hb); go_simp; go_wp2_with fail; refine hK.out _ _ ?_ (fun hHeld => ?_); (· exact hHeld); clear hK K
    try simp only [zp1, zp3, zp4, zp5]
    refine qy 2 ?_ ?_ ?_ hHeld ?_; rotate_left 1; (· rfl); (· intro w' hSw; (try clear hHeld); go_simp; try with_reducible rfl)
    try simp only [zp1, zp3, zp4, zp5]
    refine qy 3 ?_ ?_ ?_ hHeld ?_; rotate_left 1; (· rfl); (· intro w' hSw; have m3 := hSw.cell m3 NMB.out; (try clear hHeld); go_simp; try with_reducible rfl)
    try simp only [zp1, zp3, zp4, zp5]
    refine rg_call (i := 5) (atN rfl) (by kernel_rfl) ?_ (fun K hK => ?_); (· rfl); (try clear hb); go_simp; refine (UP0.out _ BDD).mono ?_; intro e wq hpost; obtain ⟨v8, F', rfl, ow, hrb, hF', hv8, hk8⟩ := hpost; obtain ⟨s8, c8, hs8, -⟩ := own_form ow.1; subst hs8; have OW := Lib.hid ow; have NV := Lib.hid hv8; have SR := Lib.hid ((HS0.out.below BDD).setRib HM.out HL.out hrb hF' hk8 GD.out); have DD := Lib.hid (HS0.out.below BDD).dom; clear ow hrb hF' hv8; go_wp2_with fail; refine hK.out _ _ ?_ (fun hHeld => ?_); (· exact hHeld.trans hk8); clear hK K
    try simp only [zp1, zp3, zp4, zp5]
    refine qy 6 ?_ ?_ ?_ hHeld ?_; rotate_left 1; (· rfl); (· intro w' hSw; (try clear hHeld); go_simp; try with_reducible rfl)
    try simp only [zp1, zp3, zp4, zp5]
    refine qy 7 ?_ ?_ ?_ hHeld ?_; rotate_left 1; (· rfl); (· intro w' hSw; (try clear hHeld); go_simp; try with_reducible rfl)
    try simp only [zp1, zp3, zp4, zp5]
    refine qy 8 ?_ ?_ ?_ hHeld ?_; rotate_left 1; (· rfl); (· intro w' hSw; (try clear hHeld); go_simp; try with_reducible rfl)
    try simp only [zp1, zp3, zp4, zp5]
    refine qy 9 ?_ ?_ ?_ hHeld ?_; rotate_left 1; (· rfl); (· intro w' hSw; (try clear hHeld); go_simp; try with_reducible rfl)
    try simp only [zp1, zp3, zp4, zp5]
    refine qy 10 ?_ ?_ ?_ hHeld ?_; rotate_left 1; (· rfl); (· intro w' hSw; (try clear hHeld); go_simp; try with_reducible rfl)
    try simp only [zp1, zp3, zp4, zp5]
    refine wpAnyH_done (by kernel_rfl) ?_ _
    have NO : Hid (On (fun k => extP rho wd F' (.rib i) k = .no) wq (fun W => PsAt W (.slice s8 r.2.1.length c8) r.2.1)) := Lib.hid (((own_on OW.out.1).wide (G := fun k => extP rho wd F' (.rib i) k = .no) fun k hk _ => extP_no (own_form_le OW.out.1 k hk) (NV.out k hk)).imp fun W h => OwnPs.at ⟨h, OW.out.2⟩)
    have ST := Lib.hid ((Step.below (rho := rho) BDD).trans SR.out.2)
    clear hHeld hk8
    go_wp2_with fail
    go_meet
    exact ⟨_, s8, c8, rfl, rfl, Lib.hid ⟨SR.out.1, ST.out, NO.out⟩⟩
  case rest =>
    obtain ⟨rho1, s8, c8, rfl, rfl, D⟩ := hcut
    obtain ⟨w2, hw2⟩ : ∃ w2 : World, w2 = wc := ⟨_, rfl⟩
    rw [← hw2] at D ⊢
    have ST0 := Lib.hid ((Step.below (rho := rho) B0.out).trans D.out.2.1)
    have Q2 := Lib.hid ((D.out.2.1.block (row_lt Q0.out) NPB.out).trans Q0.out)
    clear hw2 m3 UP0 HS0 MB BD BDD
    by_cases hz : r.1 = 0
    · have HRG := Lib.hid (right_of (updP_ok (by rw [HRR.out]; exact hz)) RGS.out RNS.out)
      have TE : Hid (T = turnS (turnS (setR S i r.2.2) x.gone) x.nets) := Lib.hid (by rw [US.out, if_pos hz])
      have HZ := Lib.hid hz
      rw [hz]
      clear hz
      have T1 := Lib.hid (sv_turn D.out.1 (.slice x.m.gs x.m.gn x.m.gc) x.gone ((ST0.out.free HX.out).imp fun W h => h.gone) HRG.out.1)
      have y5 : w2.cell? ⟨pb, 5, none⟩ = some (.slice x.m.gs x.m.gn x.m.gc) := row_cell Q2.out 5
      go_wp2_with fail
      refine T1.out.mono ?_
      rintro e w3 ⟨rho3, rfl, hs3, st3⟩
      have ST3 := Lib.hid (ST0.out.trans st3)
      have NO3 := Lib.hid (st3.free D.out.2.2)
      have HS3 := Lib.hid hs3
      have NP1 : Hid (rho1 pb = .no) := Lib.hid ((D.out.2.1.same pb (row_lt Q0.out)).trans NPB.out)
      have Q3 := Lib.hid ((st3.block (row_lt Q2.out) NP1.out).trans Q2.out)
      have T2 := Lib.hid (sv_turn HS3.out (.slice x.m.ns x.m.nn x.m.nc) x.nets ((ST3.out.free HX.out).imp fun W h => h.nets) HRG.out.2)
      have y16 : w3.cell? ⟨pb, 16, none⟩ = some (.slice x.m.ns x.m.nn x.m.nc) := row_cell Q3.out 16
      clear hs3 st3 T1 y5 D Q2 ST0 NP1
      go_wp2_with fail
      refine T2.out.mono ?_
      rintro e w4 ⟨rho4, rfl, hs4, st4⟩
      have ST4 := Lib.hid (ST3.out.trans st4)
      have NO4 := Lib.hid (st4.free NO3.out)
      have HS4 := Lib.hid hs4
      clear hs4 st4 T2 y16 Q3 ST3 NO3 HS3
      go_wp2_with fail
      refine bodyPost_ret (v := .tuple #[.slice s8 r.2.1.length c8, .int .i64 0]) (by simp [results, Tryz.results20, go_sem]) rfl ⟨rho4, _, by rw [HZ.out], by rw [TE.out]; exact HS4.out, ST4.out, NO4.out⟩
    · have e1 : (r.1 != 0) = true := by simpa using hz
      have TE : Hid (T = S) := Lib.hid (by rw [US.out, if_neg hz])
      have RE : Hid (r.2 = ([], m.R)) := Lib.hid (by rw [← HRR.out]; exact updP_no (by rw [HRR.out]; exact hz))
      have HE : Hid (SrvM w2 rho1 sb fb ls S) := Lib.hid (by
        have := D.out.1
        rw [RE.out] at this
        rw [setR_same HM.out] at this
        exact this)
      obtain ⟨r1, r2⟩ := r
      obtain rfl : r2 = ([], m.R) := RE.out
      go_wp2_with fail
      refine bodyPost_ret (v := .tuple #[.slice none 0 0, .int .i64 r1]) (by simp [results, Tryz.results20, go_sem]) rfl ⟨rho1, _, rfl, by rw [TE.out]; exact HE.out, ST0.out, fun W _ => ps_nilS W⟩
end Go.Proofs.YtkoidahgbbabiaaGreat
/-
  THE SERVER: who is there; messages of who isn't.
-/
namespace Go.Proofs.YtkoidahgbbabiaaGreat
open Go.RowKit
section
variable {W : World} {rho : Nat → Role} {sb fb : Nat} {ls : List Pl} {S : Sv}
end
end Go.Proofs.YtkoidahgbbabiaaGreat
/-
  THE SERVER: what is marked is told again.
-/
namespace Go.Proofs.YtkoidahgbbabiaaGreat
open Go.RowKit
def mark1 (i : Nat) (S : Sv) (p : Pf) : Sv := if rightB p.1 p.2 then markS S i p true else S
def marksS (S : Sv) (i : Nat) (ps : List Pf) : Sv := ps.foldl (mark1 i) S
theorem kin_marks (i : Nat) : ∀ (ps : List Pf) (S : Sv), SvKin S (marksS S i ps)
  | [], S => SvKin.refl S
  | p :: ps, S => by
    refine SvKin.trans ?_ (kin_marks i ps (mark1 i S p))
    unfold mark1
    split
    · exact kin_mark ..
    · exact SvKin.refl S
end Go.Proofs.YtkoidahgbbabiaaGreat
/-
  THE SERVER: a receiver's best route to a prefix.
-/
namespace Go.Proofs.YtkoidahgbbabiaaGreat
open Go.RowKit
def BestPost (b : Option (Int × At)) (p : Pf) (W : World) (e : Ending) (w' : World) : Prop :=
  (b = none ∧ e = .returned (.tuple #[.agg (rtC 0 (0, 0) av0), .bool false]) ∧ Below W.heap.size W w') ∨
  ∃ (peer : Int) (a : At) (u : AV), b = some (peer, a) ∧ e = .returned (.tuple #[.agg (rtC peer p u), .bool true]) ∧ GoodA a ∧ Fresh W.heap.size w' (fun W => AvU W a u) ∧ Below W.heap.size W w'
theorem results_BestOf (tmps : Array Value) (W : World) (b : Nat) (C : Array Value) (hC : C.size = 13) (c : Bool) (h4 : tmps.getD 6 undef = .pointer (some ⟨b, 0, none⟩)) (h5 : tmps.getD 7 undef = .bool c) (hb : W.heap[b]? = some (.cells C 61 (0, 0))) :
    (results Tryz.f27 tmps).run Tryz.prog W = .ok (.tuple #[.agg C, .bool c]) W := by
  have hl := run_loadVar_row (P := Tryz.prog) W b 61 61 C (0, 0) _ hb Tryz.underlying61 rfl (by rw [hC]; kernel_rfl)
  unfold results
  rw [Tryz.results27]
  simp [h4, h5, hl, asAddr, -Array.getD_eq_getD_getElem?]
end Go.Proofs.YtkoidahgbbabiaaGreat
/-
  THE SERVER: who comes, who goes; what is to be told is told: the state, and what memory makes of it.
-/
namespace Go.Proofs.YtkoidahgbbabiaaGreat
open Go.RowKit
section
variable {κ υ : Type} {P : Program} {kt et t : TypeId} {ek : κ → Value} {ev : υ → Value} {ok : κ → Prop} {W : World} {b : Nat} {l : List (κ × υ)}
theorem MapT.empty (h : MapT ek ev ok W b l) (ht : P.underlying t = some (.map kt et)) (w : World) (hw : w.heap[b]? = W.heap[b]?) :
    ∃ o, (∀ ty, (Builtin.clear_ #[t] ty #[.map (some b)]).run P w = .ok (.tuple #[]) (ChangeMaps.setBlock w b o)) ∧ MapT ek ev ok (ChangeMaps.setBlock w b o) b ([] : List (κ × υ)) := by
  obtain ⟨es, ck, hb, hst, hsz, hl, hok⟩ := h
  rw [← hw] at hb
  refine ⟨.map #[] ck, ?_, ⟨#[], ck, ChangeMaps.heap_setBlock_same hb _, MapKept.stamped_empty ck, by simp, rfl, by simp⟩⟩
  intro ty
  simp [Builtin.clear_, run_underlying ht, MapKept.run_getObj_map hb, MapKept.run_setObj_map _ hb, Result.andThen, ChangeMaps.setBlock]
end
def modS (S : Sv) (i : Nat) (f : Pm → Pm) : Sv := { S with ms := S.ms.modify i f }
theorem modS_get (S : Sv) (i : Nat) (f : Pm → Pm) (j : Nat) : (modS S i f).ms[j]? = (S.ms[j]?).map fun m => if j = i then f m else m := by
  unfold modS
  simp only [List.getElem?_modify]
  cases S.ms[j]? with
  | none => rfl
  | some m => simp only [Option.map_some, Option.map_eq_map, eq_comm (a := i)]
theorem modS_len (S : Sv) (i : Nat) (f : Pm → Pm) : (modS S i f).ms.length = S.ms.length := by unfold modS; simp
theorem modS_mod (S : Sv) (i : Nat) (f g : Pm → Pm) : modS (modS S i f) i g = modS S i (g ∘ f) := by
  have e : (modS (modS S i f) i g).ms = (modS S i (g ∘ f)).ms := by
    apply List.ext_getElem?
    intro j
    rw [modS_get, modS_get, modS_get]
    cases S.ms[j]? with
    | none => rfl
    | some m =>
      by_cases h : j = i
      · simp [h]
      · simp [h]
  unfold modS at e ⊢
  simp only at e ⊢
  rw [e]
theorem modS_congr {S : Sv} {i : Nat} {m : Pm} (hm : S.ms[i]? = some m) {f g : Pm → Pm} (h : f m = g m) : modS S i f = modS S i g := by
  have e : (modS S i f).ms = (modS S i g).ms := by
    apply List.ext_getElem?
    intro j
    rw [modS_get, modS_get]
    cases hj : S.ms[j]? with
    | none => rfl
    | some n =>
      by_cases e : j = i
      · subst e
        rw [hm] at hj; injection hj with hj; subst hj
        simp [h]
      · simp [e]
  unfold modS at e ⊢
  simp only at e ⊢
  rw [e]
def withNews (f : Pf → Bool) (m : Pm) : Pm := { m with news := f }
def withThere (b : Bool) (m : Pm) : Pm := { m with there := b }
def joinS (S : Sv) (i : Nat) : Sv := modS S i fun m => { m with there := true, news := fun p => m.news p || (S.best i p).isSome }
def awayS (S : Sv) (i : Nat) : Sv := modS S i fun m => { m with there := false, news := fun _ => false }
def leaveS (S : Sv) (i : Nat) (had : List Pf) : Sv := turnS (setR (awayS S i) i []) had
theorem Step.more {rho rho' : Nat → Role} {W W1 W2 : World} {G : Nat → Prop} (h : Step rho rho' W W1) (hk : Kept G W1 W2) (hG : ∀ k, G k → W.heap.size ≤ k ∨ rho k ≠ .no) : Step rho rho' W W2 :=
  ⟨h.same, ⟨hk.os.trans h.kept.os, hk.tape.trans h.kept.tape, hk.output.trans h.kept.output, Nat.le_trans h.kept.size hk.size, fun k hl hf =>
    (hk.block k (Nat.lt_of_lt_of_le hl h.kept.size) (fun hg => (hG k hg).elim (fun e => by omega) hf)).trans (h.kept.block k hl hf)⟩⟩
theorem SrvM.newNo {W : World} {rho : Nat → Role} {sb fb : Nat} {ls : List Pl} {S : Sv} (h : SrvM W rho sb fb ls S) {k : Nat} (hk : W.heap.size ≤ k) : rho k = .no := by
  cases hr : rho k with
  | no => rfl
  | _ => exact absurd (h.dom k (by rw [hr]; intro e; cases e)) (by omega)
section
variable {W W2 : World} {rho : Nat → Role} {sb fb : Nat} {ls : List Pl} {S : Sv} {i : Nat} {m : Pm} {l : Pl}
theorem SrvM.setT (h : SrvM W rho sb fb ls S) (hm : S.ms[i]? = some m) (hl : ls[i]? = some l) (b : Bool) (hk0 : Kept (fun k => k = l.mb) W W2) (hrow : W2.heap[l.mb]? = some (.cells (mbC { m with there := b } l) 130 (0, 0))) :
    SrvM W2 rho sb fb ls (modS S i (withThere b)) ∧ Step rho rho W W2 := by
  have hM0 := h.bod.mem i m l hm hl
  have s2 := hk0.size
  refine ⟨h.one (m' := { m with there := b }) hl (fun _ _ => rfl) (fun k hk => Nat.lt_of_lt_of_le (h.dom k hk) s2) hk0 (fun k _ e => by subst e; exact .inl hM0.rmb) rfl rfl rfl (modS_len ..) (by rw [modS_get, hm]; simp [withThere]) (fun j hj => by rw [modS_get]; simp [hj]) (fun _ _ => rfl) ?_, ⟨fun _ _ => rfl, hk0.imp fun k e => by subst e; rw [hM0.rmb]; intro e; cases e⟩⟩
  have ne : ∀ k, rho k = .best i ∨ rho k = .news i ∨ rho k = .rib i ∨ rho k = .att → ¬ k = l.mb := fun k hr e => by
    subst e; rw [hM0.rmb] at hr; simp at hr
  refine ⟨hrow, hM0.rmb, hM0.rib.kept hk0 fun k _ hF => ne k (.inr (.inr (.inl hF))), hM0.rbb, hM0.rnb, ?_, ?_, hM0.good, hM0.ids, hM0.ass⟩
  · obtain ⟨L, hL⟩ := hM0.bests
    exact ⟨L, hL.kept (fun _ _ => rfl) hk0 (ne _ (.inl hM0.rbb)) fun k _ hF => ne k (.inr (.inr (.inr hF)))⟩
  · obtain ⟨N, hN⟩ := hM0.news
    exact ⟨N, hN.kept hk0 (ne _ (.inr (.inl hM0.rnb)))⟩
theorem SrvM.setN (h : SrvM W rho sb fb ls S) (hm : S.ms[i]? = some m) (hl : ls[i]? = some l) (news' : Pf → Bool) {N' : List (Pf × Unit)} (hg : ∀ p, (getL N' p).isSome = news' p) (hr : ∀ x ∈ N', RgtP x.1) (hk0 : Kept (fun k => k = l.nb) W W2) (hM : NewsT W2 l.nb N') :
    SrvM W2 rho sb fb ls (modS S i (withNews news')) ∧ Step rho rho W W2 := by
  have hM0 := h.bod.mem i m l hm hl
  have s2 := hk0.size
  refine ⟨h.one (m' := { m with news := news' }) hl (fun _ _ => rfl) (fun k hk => Nat.lt_of_lt_of_le (h.dom k hk) s2) hk0 (fun k _ e => by subst e; exact .inr (.inr (.inl hM0.rnb))) rfl rfl rfl (modS_len ..) (by rw [modS_get, hm]; simp [withNews]) (fun j hj => by rw [modS_get]; simp [hj]) (fun _ _ => rfl) ?_, ⟨fun _ _ => rfl, hk0.imp fun k e => by subst e; rw [hM0.rnb]; intro e; cases e⟩⟩
  have ne : ∀ k, rho k = .mem i ∨ rho k = .best i ∨ rho k = .rib i ∨ rho k = .att → ¬ k = l.nb := fun k hr e => by
    subst e; rw [hM0.rnb] at hr; simp at hr
  refine ⟨(hk0.block _ (row_lt hM0.row) (ne _ (.inl hM0.rmb))).trans hM0.row, hM0.rmb, hM0.rib.kept hk0 fun k _ hF => ne k (.inr (.inr (.inl hF))), hM0.rbb, hM0.rnb, ?_, ⟨N', hM, hg, hr⟩, hM0.good, hM0.ids, hM0.ass⟩
  obtain ⟨L, hL⟩ := hM0.bests
  exact ⟨L, hL.kept (fun _ _ => rfl) hk0 (ne _ (.inr (.inl hM0.rbb))) fun k _ hF => ne k (.inr (.inr (.inr hF)))⟩
end
end Go.Proofs.YtkoidahgbbabiaaGreat
/-
  RANGE OVER A MAP THAT IS A LIST OF PAIRS: which pairs are still to come; deletes on the way.
-/
namespace Go.Proofs.YtkoidahgbbabiaaGreat
open Go.RowKit Go.Maps Go.ChangeMaps Go.MapKept
section
variable {κ υ : Type}
def RangeT (ek : κ → Value) (ev : υ → Value) (ok : κ → Prop) (W : World) (b r : Nat) (l left : List (κ × υ)) : Prop :=
  ∃ es clock since seen c0, W.heap[b]? = some (.map es clock) ∧ Stamped es clock ∧ es.size ≤ maxLen ∧ es.toList.map (fun e => (e.key, e.val)) = l.map (fun p => (ek p.1, ev p.2)) ∧ (∀ p ∈ l, ok p.1) ∧
    W.heap[r]? = some (.mapIter (some b) since seen c0) ∧ (∀ x ∈ es.toList, x.born < since) ∧ since ≤ c0 ∧ since ≤ clock ∧ (∀ p ∈ left, p ∈ l) ∧
    (es.toList.filter (fun e => !seen.contains e.born)).map (fun e => (e.key, e.val)) = left.map (fun p => (ek p.1, ev p.2))
variable {P : Program} {kt et t : TypeId} {ek : κ → Value} {ev : υ → Value} {ok : κ → Prop} {W W' : World} {b r : Nat} {l left : List (κ × υ)}
theorem RangeT.map (h : RangeT ek ev ok W b r l left) : MapT ek ev ok W b l := by
  obtain ⟨es, c, _, _, _, h1, h2, h3, h4, h5, _⟩ := h
  exact ⟨es, c, h1, h2, h3, h4, h5⟩
theorem RangeT.lt (h : RangeT ek ev ok W b r l left) : r < W.heap.size := by
  obtain ⟨es, c, _, _, _, _, _, _, _, _, hr, _⟩ := h
  exact (Array.getElem?_eq_some_iff.1 hr).1
theorem RangeT.ne (h : RangeT ek ev ok W b r l left) : r ≠ b := by
  obtain ⟨es, c, _, _, _, hb, _, _, _, _, hr, _⟩ := h
  intro e; rw [e, hb] at hr; cases hr
theorem RangeT.of_block (h : RangeT ek ev ok W b r l left) (hb : W'.heap[b]? = W.heap[b]?) (hr : W'.heap[r]? = W.heap[r]?) : RangeT ek ev ok W' b r l left := by
  obtain ⟨es, c, s, sn, c0, h1, h2, h3, h4, h5, h6, hh⟩ := h
  exact ⟨es, c, s, sn, c0, hb.trans h1, h2, h3, h4, h5, hr.trans h6, hh⟩
theorem RangeT.below (h : RangeT ek ev ok W b r l left) (hb : Below W.heap.size W W') : RangeT ek ev ok W' b r l left := h.of_block (hb.block b h.map.lt) (hb.block r h.lt)
theorem RangeT.kept {F : Nat → Prop} (h : RangeT ek ev ok W b r l left) (hk : Kept F W W') (hb : ¬ F b) (hr : ¬ F r) : RangeT ek ev ok W' b r l left := h.of_block (hk.block b h.map.lt hb) (hk.block r h.lt hr)
theorem leftOf_list (es : Array MapEntry) (seen : Array Nat) : (leftOf es seen).toList = es.toList.filter (fun e => !seen.contains e.born) := by
  unfold leftOf; simp
theorem RangeT.left_eq (h : RangeT ek ev ok W b r l left) : W.rangeLeft b r = left.length := by
  obtain ⟨es, c, s, sn, c0, h1, h2, h3, h4, h5, h6, _, _, _, _, hl⟩ := h
  simp only [World.rangeLeft, h1, h6]
  have := congrArg List.length hl
  simp only [List.length_map, ← leftOf_list, Array.length_toList] at this
  exact this
theorem MapT.range (h : MapT ek ev ok W b l) (ht : P.underlying t = some (.map kt et)) :
    ∃ W', (Instr.range t (.map (some b))).run P W = .ok (.pointer (some ⟨W.heap.size, 0, none⟩)) W' ∧ RangeT ek ev ok W' b W.heap.size l l ∧ Below W.heap.size W W' ∧ W'.heap.size = W.heap.size + 1 := by
  have hlt := h.lt
  obtain ⟨es, c, hb, hst, hs, hl, hok⟩ := h
  refine ⟨_, run_range_map W t kt et b es c ht hb, ⟨es, c, c, #[], c, ((MapKept.heap_alloc W _).2 b hlt).trans hb, hst, hs, hl, hok, (MapKept.heap_alloc W _).1, hst.1, Nat.le_refl _, Nat.le_refl _, fun _ h => h, ?_⟩, (Below.refl _ _).alloc (Nat.le_refl _) _, by simp⟩
  rw [List.filter_eq_self.2 (by simp)]
  exact hl
theorem RangeT.next (h : RangeT ek ev ok W b r l left) (ty : TypeId) :
    (left = [] ∧ (Instr.next (.pointer (some ⟨r, 0, none⟩)) false ty).run P W = .ok (.tuple #[.bool false]) W) ∨
    ∃ i p W', left[i]? = some p ∧ p ∈ l ∧ (Instr.next (.pointer (some ⟨r, 0, none⟩)) false ty).run P W = .ok (.tuple #[.bool true, ek p.1, ev p.2]) W' ∧
      RangeT ek ev ok W' b r l (left.eraseIdx i) ∧ Kept (fun k => k = r) W W' ∧ W'.heap.size = W.heap.size ∧ (Instr.entry (.pointer (some ⟨r, 0, none⟩))).run P W' = .ok (.tuple #[ek p.1, ev p.2]) W' := by
  have hne := h.ne
  obtain ⟨es, clock, since, seen, c0, hb, hst, hs, hl, hok, hr, hold, hsc, hsk, hlm, hlf⟩ := h
  rcases run_next_at (P := P) W ty r b since c0 seen es clock hr hb hold hsc with ⟨h0, hrun⟩ | ⟨e, he, w1, hal, hrun⟩
  · refine .inl ⟨?_, hrun⟩
    have h1 : (leftOf es seen).toList.length = 0 := by simpa using h0
    have h2 := congrArg List.length hlf
    rw [← leftOf_list, List.length_map, List.length_map, h1] at h2
    exact List.length_eq_zero_iff.1 h2.symm
  · obtain ⟨hem, hes⟩ := mem_left he
    rw [leftOf_list] at he
    obtain ⟨i, hi⟩ := List.getElem?_of_mem he
    have hmi : (left.map (fun p => (ek p.1, ev p.2)))[i]? = some (e.key, e.val) := by rw [← hlf, List.getElem?_map, hi]; rfl
    rw [List.getElem?_map] at hmi
    cases hli : left[i]? with
    | none => rw [hli] at hmi; cases hmi
    | some p =>
      rw [hli] at hmi
      simp at hmi
      have hr1 : w1.heap[r]? = some (.mapIter (some b) since seen c0) := by rcases hal with rfl | rfl <;> exact hr
      have hb1 : w1.heap[b]? = some (.map es clock) := by rcases hal with rfl | rfl <;> exact hb
      have hset := heap_set (o' := .mapIter (some b) since (seen.push e.born) clock) hr1
      have hb' : (setBlock w1 r (.mapIter (some b) since (seen.push e.born) clock)).heap[b]? = some (.map es clock) := (hset.2 b (fun e1 => hne e1.symm)).trans hb1
      have hborn := ((stamped_iff es clock).1 hst).2.1
      have hrun2 := run_entry_at (P := P) _ r b since seen es clock e hset.1 hb' hem hborn
      rw [← hmi.1, ← hmi.2] at hrun hrun2
      refine .inr ⟨i, p, _, hli, hlm p (List.mem_of_getElem? hli), hrun, ⟨es, clock, since, seen.push e.born, clock, hb', hst, hs, hl, hok, hset.1, hold, hsk, hsk, fun q hq => hlm q ((List.eraseIdx_sublist _ _).subset hq), ?_⟩, ?_, ?_, hrun2⟩
      · rw [map_eraseIdx, ← hlf, ← map_eraseIdx]
        congr 1
        have hap : (es.toList.filter fun x => !seen.contains x.born).Pairwise fun x y => ¬ ((x.born == e.born) = true ∧ (y.born == e.born) = true) := by
          have h1 : es.toList.Pairwise fun x y => x.born ≠ y.born := by
            have := hborn; unfold List.Nodup at this; rwa [List.pairwise_map] at this
          exact (h1.filter _).imp fun {x y} hne ⟨e1, e2⟩ => hne ((beq_iff_eq.1 e1).trans (beq_iff_eq.1 e2).symm)
        rw [← filter_eq_eraseIdx (fun x : MapEntry => x.born == e.born) _ i e hi (by simp) hap, List.filter_filter]
        congr 1
        funext x
        rw [contains_push]
        cases seen.contains x.born <;> cases (x.born == e.born) <;> rfl
      · rcases hal with rfl | rfl <;> exact ⟨rfl, rfl, rfl, by simp [setBlock], fun k hk hf => hset.2 k hf⟩
      · rcases hal with rfl | rfl <;> simp [setBlock]
theorem filter_alike {α β γ : Type} (f : α → γ) (g : β → γ) (q : α → Bool) (q' : β → Bool) : ∀ (L : List α) (M : List β), L.map f = M.map g → (∀ x ∈ L, ∀ p ∈ M, f x = g p → q x = q' p) → (L.filter q).map f = (M.filter q').map g
  | [], [], _, _ => rfl
  | [], _ :: _, h, _ => by simp at h
  | _ :: _, [], h, _ => by simp at h
  | x :: L, p :: M, h, hq => by
    simp only [List.map_cons, List.cons.injEq] at h
    have ih := filter_alike f g q q' L M h.2 fun x hx p hp => hq x (List.mem_cons_of_mem _ hx) p (List.mem_cons_of_mem _ hp)
    have e := hq x (by simp) p (by simp) h.1
    simp only [List.filter_cons]
    rw [e]
    cases q' p
    · simpa using ih
    · simpa [h.1] using ih
theorem RangeT.drop [DecidableEq κ] (E : KeyEnc P kt ek ok) (h : RangeT ek ev ok W b r l left) (ht : P.underlying t = some (.map kt et)) (a : κ) (ha : ok a) :
    ∃ W', (∀ ty, (Builtin.delete_ #[t, kt] ty #[.map (some b), ek a]).run P W = .ok (.tuple #[]) W') ∧ RangeT ek ev ok W' b r (delL l a) (delL left a) ∧ Kept (fun k => k = b) W W' ∧ W'.heap.size = W.heap.size := by
  have hne := h.ne
  have hd := h.map.apart
  obtain ⟨es, clock, since, seen, c0, hb, hst, hs, hl, hok, hr, hold, hsc, hsk, hlm, hlf⟩ := h
  obtain ⟨x, hx⟩ := E.lit a ha
  have hpok : ∀ p ∈ delL l a, ok p.1 := fun p hp => hok p (mem_del.1 hp).1
  have hlm' : ∀ p ∈ delL left a, p ∈ delL l a := fun p hp => mem_del.2 ⟨hlm p (mem_del.1 hp).1, (mem_del.1 hp).2⟩
  rcases find_at E hl hok hd a ha W with ⟨h1, h2, h3⟩ | ⟨v0, j, e, h1, h2, h3, h4, h5, h6⟩
  · have el : delL l a = l := by
      unfold delL; rw [List.filter_eq_self]; intro p hp
      simpa using getL_none.1 h1 p hp
    have el2 : delL left a = left := by
      unfold delL; rw [List.filter_eq_self]; intro p hp
      simpa using getL_none.1 h1 p (hlm p hp)
    refine ⟨setBlock W b (.map es clock), ?_, ⟨es, clock, since, seen, c0, heap_setBlock_same hb _, hst, hs, by rw [el]; exact hl, hpok, (heap_setBlock_other hb _ hne).trans hr, hold, hsc, hsk, hlm', by rw [el2]; exact hlf⟩, Kept.setBlock _ rfl, by simp [setBlock]⟩
    intro ty; simp [Builtin.delete_, run_underlying ht, MapKept.run_getObj_map hb, E.K.check W _ hx, h2, MapKept.run_setObj_map _ hb, Result.andThen, setBlock]
  · have hjl : j < es.toList.length := (List.getElem?_eq_some_iff.1 h3).1
    have hjs : j < es.size := by simpa using hjl
    have hem : e ∈ es.toList := List.mem_of_getElem? h3
    have hsub : (es.eraseIdxIfInBounds j).toList = es.toList.eraseIdx j := by
      unfold Array.eraseIdxIfInBounds
      rw [dif_pos hjs]
      simp
    have hborn := ((stamped_iff es clock).1 hst).2.1
    have hkeys := ((stamped_iff es clock).1 hst).2.2
    have hfe : es.toList.eraseIdx j = es.toList.filter (fun x => !(x.born == e.born)) := by
      refine (filter_eq_eraseIdx (fun x : MapEntry => x.born == e.born) _ j e h3 (by simp) ?_).symm
      have h1 : es.toList.Pairwise fun x y => x.born ≠ y.born := by
        have := hborn; unfold List.Nodup at this; rwa [List.pairwise_map] at this
      exact h1.imp fun {x y} hne ⟨e1, e2⟩ => hne ((beq_iff_eq.1 e1).trans (beq_iff_eq.1 e2).symm)
    have hq : ∀ x ∈ es.toList, ∀ p : κ × υ, (x.key, x.val) = (ek p.1, ev p.2) → (!(x.born == e.born)) = !decide (p.1 = a) := by
      intro x hx p hxp
      simp at hxp
      by_cases hpa : p.1 = a
      · have hk : x.key = e.key := by rw [hxp.1, hpa, h4]
        have : x = e := entry_eq_of_key hkeys hx hem hk
        simp [this, hpa]
      · have : x.born ≠ e.born := fun hbe => hpa (E.inj _ _ (by rw [← hxp.1, born_inj hborn hx hem hbe, h4]))
        simp [this, hpa]
    refine ⟨setBlock W b (.map (es.eraseIdxIfInBounds j) clock), ?_, ⟨_, clock, since, seen, c0, heap_setBlock_same hb _, stamped_erase hst j, Nat.le_trans (MapFrom.size_erase es j) hs, ?_, hpok, (heap_setBlock_other hb _ hne).trans hr, fun x hx => hold x ?_, hsc, hsk, hlm', ?_⟩, Kept.setBlock _ rfl, by simp [setBlock]⟩
    · intro ty; simp [Builtin.delete_, run_underlying ht, MapKept.run_getObj_map hb, E.K.check W _ hx, h2, MapKept.run_setObj_map _ hb, Result.andThen, setBlock]
    · rw [hsub, hfe]
      exact filter_alike _ _ _ _ _ _ hl fun x hx p _ => hq x hx p
    · rw [hsub] at hx; exact (List.eraseIdx_sublist _ _).subset hx
    · rw [hsub, hfe, List.filter_filter]
      have : (fun x : MapEntry => !seen.contains x.born && !(x.born == e.born)) = fun x => !(x.born == e.born) && !seen.contains x.born := by funext x; rw [Bool.and_comm]
      rw [this, ← List.filter_filter]
      exact filter_alike _ _ _ _ _ _ hlf fun x hx p _ => hq x (List.mem_filter.1 hx).1 p
end
end Go.Proofs.YtkoidahgbbabiaaGreat
/-
  THE SERVER: who comes is told all.
-/
namespace Go.Proofs.YtkoidahgbbabiaaGreat
open Go.RowKit
theorem mem_erase_iff {α : Type} {l : List α} {i : Nat} {x : α} (h : l[i]? = some x) (y : α) : y ∈ l ↔ y = x ∨ y ∈ l.eraseIdx i := by
  induction l generalizing i with
  | nil => simp at h
  | cons z l ih =>
    cases i with
    | zero => simp at h; subst h; simp
    | succ i =>
      simp at h
      rw [List.eraseIdx_cons_succ, List.mem_cons, List.mem_cons, ih h]
      constructor
      · rintro (h | h | h)
        · exact .inr (.inl h)
        · exact .inl h
        · exact .inr (.inr h)
      · rintro (h | h | h)
        · exact .inr (.inl h)
        · exact .inl h
        · exact .inr (.inr h)
def JoinOn (m : Pm) (best : Pf → Option (Int × At)) (left : List (Pf × BV)) (nw : Pf → Bool) : Prop :=
  (∀ p, (nw p = true ∨ ∃ x ∈ left, x.1 = p) ↔ (m.news p = true ∨ (best p).isSome = true))
theorem joinOn_start {W : World} {rho : Nat → Role} {bb : Nat} {m : Pm} {best : Pf → Option (Int × At)} {L : List (Pf × BV)} (h : BestAt W rho bb best L) : JoinOn m best L m.news := by
  intro p
  have e : (best p).isSome = (getL L p).isSome := by rw [← h.get p]; cases getL L p <;> rfl
  rw [e]
  constructor
  · rintro (h1 | ⟨x, hx, rfl⟩)
    · exact .inl h1
    · right
      have := getL_of_mem h.map.apart (a := x.1) (v := x.2) hx
      rw [this]; rfl
  · rintro (h1 | h1)
    · exact .inl h1
    · right
      obtain ⟨v, hv⟩ := Option.isSome_iff_exists.1 h1
      exact ⟨_, getL_mem hv, rfl⟩
theorem joinOn_step {m : Pm} {best : Pf → Option (Int × At)} {left : List (Pf × BV)} {nw : Pf → Bool} (h : JoinOn m best left nw) {i : Nat} {x : Pf × BV} (hx : left[i]? = some x) : JoinOn m best (left.eraseIdx i) (fun q => nw q || decide (q = x.1)) := by
  intro p
  rw [← h p]
  simp only [Bool.or_eq_true, decide_eq_true_eq]
  constructor
  · rintro ((h1 | rfl) | ⟨y, hy, rfl⟩)
    · exact .inl h1
    · exact .inr ⟨x, List.mem_of_getElem? hx, rfl⟩
    · exact .inr ⟨y, (mem_erase_iff hx y).2 (.inr hy), rfl⟩
  · rintro (h1 | ⟨y, hy, rfl⟩)
    · exact .inl (.inl h1)
    · rcases (mem_erase_iff hx y).1 hy with rfl | hy
      · exact .inl (.inr rfl)
      · exact .inr ⟨y, hy, rfl⟩
theorem joinOn_end {m : Pm} {best : Pf → Option (Int × At)} {nw : Pf → Bool} (h : JoinOn m best [] nw) : nw = fun p => m.news p || (best p).isSome := by
  funext p
  have := h p
  rw [Bool.eq_iff_iff]
  simpa using this
theorem join_end {S : Sv} {i : Nat} {m : Pm} (hm : S.ms[i]? = some m) {nw : Pf → Bool} (h : JoinOn m (S.best i) [] nw) : modS (modS S i (withThere true)) i (withNews nw) = joinS S i := by
  rw [modS_mod]
  unfold joinS
  refine modS_congr hm ?_
  simp only [Function.comp, withThere, withNews]
  rw [joinOn_end h]
theorem put_news (nw : Pf → Bool) {N : List (Pf × Unit)} (h : ∀ p, (getL N p).isSome = nw p) (q p : Pf) : (getL (putL N q ()) p).isSome = (nw p || decide (p = q)) := by
  rw [getL_put, ← h p]
  by_cases e : p = q <;> simp [e]
section
variable {W : World} {rho : Nat → Role} {sb fb : Nat} {ls : List Pl} {S : Sv}
set_option maxRecDepth 100000 in
theorem sv_Join_nil (n : Int) (W : World) : Calls Tryz.prog 18 #[.pointer none, .int .i64 n] W fun e w' => e = .returned (.int .i64 1) ∧ W = w' := by
  have MB := Lib.hid (sv_member_nil n W)
  go_enter Tryz.func18, Tryz.ntmps18
  go_wp2_with fail
  refine MB.out.mono ?_
  rintro e w1 ⟨rfl, rfl⟩
  go_wp2_with fail
  go_ret
  exact ⟨rfl, rfl⟩
set_option maxHeartbeats 6400000 in
set_option maxRecDepth 100000 in
theorem sv_Join (h : SrvM W rho sb fb ls S) {i : Nat} {m : Pm} (hm : S.ms[i]? = some m) (hth : m.there = false) :
    Calls Tryz.prog 18 #[.pointer (some ⟨sb, 0, none⟩), .int .i64 i] W fun e w' => e = .returned (.int .i64 0) ∧ SrvM w' rho sb fb ls (joinS S i) ∧ Step rho rho W w' := by
  obtain ⟨l, hl, hM⟩ := h.get hm
  have m2 : W.cell? ⟨l.mb, 2, none⟩ = some (.bool false) := by rw [← hth]; exact row_cell hM.row 2
  have m2f : W.frozen? ⟨l.mb, 2, none⟩ = false := row_free hM.row 2
  have MB := Lib.hid (sv_member h hl)
  have HS := Lib.hid h
  have HL := Lib.hid hl
  have HM := Lib.hid hm
  have ROW := Lib.hid hM.row
  clear h hm hl hM hth
  go_enter Tryz.func18, Tryz.ntmps18
  go_wp2_with fail
  refine MB.out.mono ?_
  rintro e w1 ⟨rfl, rfl⟩
  have X1 := Lib.hid (HS.out.setT HM.out HL.out true (Kept.setCell ⟨l.mb, 2, none⟩ (.bool true) rfl) (set_same ROW.out 2 (.bool true)))
  go_upto_region 7 with (fail)
  obtain ⟨w2, hw2⟩ : ∃ w2 : World, w2 = W.setCell ⟨l.mb, 2, none⟩ (.bool true) := ⟨_, rfl⟩
  rw [← hw2] at X1 ⊢
  have HM2 : Hid ((modS S i (withThere true)).ms[i]? = some (withThere true m)) := Lib.hid (by rw [modS_get, HM.out]; simp)
  have hM2 := X1.out.1.bod.mem i _ l HM2.out HL.out
  have b4 : w2.cell? ⟨l.mb, 4, none⟩ = some (.map (some l.bb)) := row_cell hM2.row 4
  obtain ⟨L, hL⟩ := hM2.bests
  obtain ⟨N, hN⟩ := hM2.news
  obtain ⟨w3, hr, hR, hB, hz⟩ := hL.map.range Tryz.underlying64
  obtain ⟨rb, hrb⟩ : ∃ rb, rb = w2.heap.size := ⟨_, rfl⟩
  rw [← hrb] at hr hR
  have NRB : Hid (rho rb = .no) := Lib.hid (X1.out.1.newNo (by omega))
  have HR := Lib.hid hR
  have RBW : Hid (W.heap.size ≤ rb) := Lib.hid (by rw [hrb, hw2]; exact (Kept.setCell (F := fun _ => True) ⟨l.mb, 2, none⟩ (.bool true) trivial).size)
  have VAL : Hid (∀ x ∈ L, RgtP x.1) := Lib.hid fun x hx => (hL.val x hx).2.1
  have J0 := Lib.hid (joinOn_start (m := m) hL)
  have N0 : Hid (SrvM w3 rho sb fb ls (modS (modS S i (withThere true)) i (withNews m.news)) ∧ Step rho rho W w3) := Lib.hid (by
    have e : modS (modS S i (withThere true)) i (withNews m.news) = modS S i (withThere true) := by
      rw [modS_mod]
      exact modS_congr HM.out rfl
    rw [e]
    exact ⟨X1.out.1.below hB, X1.out.2.grow hB⟩)
  clear hw2 hM2 hL hN hR hB hz m2 m2f X1 hrb
  go_wp2_with fail
  clear hr b4
  go_loopw [] (fun wr => ∃ (left : List (Pf × BV)) (nw : Pf → Bool), Hid (JoinOn m (S.best i) left nw) ∧ Hid (SrvM wr rho sb fb ls (modS (modS S i (withThere true)) i (withNews nw)) ∧ Step rho rho W wr) ∧ Hid (RangeT pfV bvV KOk wr l.bb rb L left)) (fun wr => wr.rangeLeft l.bb rb)
  case atStart => exact ⟨L, m.news, J0, N0, HR⟩
  case round =>
    clear J0 N0 HR
    obtain ⟨left, nw, JO, D, RT⟩ := hrel
    rcases RT.out.next (P := Tryz.prog) 0 with ⟨rfl, hn⟩ | ⟨k, q, w4, hi, hq, hn, hR1, hk1, hz1, hen⟩
    · have hn' : ∀ ty, (Instr.next (.pointer (some ⟨rb, 0, none⟩)) false ty).run Tryz.prog wr = .ok (.tuple #[.bool false]) wr := fun _ => hn
      clear hn
      have FIN : Hid (SrvM wr rho sb fb ls (joinS S i) ∧ Step rho rho W wr) := Lib.hid (by have := D.out; rw [join_end HM.out JO.out] at this; exact this)
      clear D JO RT
      go_wp2_with fail
      go_ret
      exact ⟨rfl, FIN.out.1, FIN.out.2⟩
    · have hrl := Lib.hid RT.out.left_eq
      have hle : Hid ((left.eraseIdx k).length + 1 = left.length) := Lib.hid (by
        have := (List.getElem?_eq_some_iff.1 hi).1
        rw [List.length_eraseIdx_of_lt this]; omega)
      have JN := Lib.hid (joinOn_step JO.out hi)
      have K1 : Kept (fun k => rho k = .no) wr w4 := hk1.imp fun k e => by subst e; exact NRB.out
      have hz4 := Lib.hid hz1
      have D4 := Lib.hid (D.out.1.out K1)
      have S4 := Lib.hid (D.out.2.more hk1 (fun k e => .inl (by have := RBW.out; have e : k = rb := e; omega)))
      have RT4 := Lib.hid hR1
      have RGT : Hid (RgtP q.1) := Lib.hid (by
        have hM4 := HM.out
        exact (VAL.out q hq))
      clear hi hq hk1 hz1 K1 D RT JO hR1
      obtain ⟨⟨p1, p2⟩, bv⟩ := q
      obtain ⟨p, hp⟩ : ∃ p : Pf, p = (p1, p2) := ⟨_, rfl⟩
      have hn' : ∀ ty, (Instr.next (.pointer (some ⟨rb, 0, none⟩)) false ty).run Tryz.prog wr = .ok (.tuple #[.bool true, .agg #[.int .u32 p1, .int .i64 p2], bvV bv]) w4 := fun _ => hn
      have he' : (Instr.entry (.pointer (some ⟨rb, 0, none⟩))).run Tryz.prog w4 = .ok (.tuple #[.agg #[.int .u32 p1, .int .i64 p2], bvV bv]) w4 := hen
      clear hn hen
      go_upto_region 9 with (fail)
      clear hn'
      go_upto_region 10 with (fail)
      obtain ⟨v1, hv1, c0, c1, hb1⟩ := box2 w4 (.int .u32 p1) (.int .i64 p2) 53
      rw [← hv1]
      obtain ⟨pb, hpb⟩ : ∃ pb, pb = w4.heap.size := ⟨_, rfl⟩
      rw [← hpb] at c0 c1 ⊢
      have D1 := Lib.hid (D4.out.below hb1)
      have S1 := Lib.hid (S4.out.grow hb1)
      have RT1 := Lib.hid (RT4.out.below hb1)
      have HMN : Hid ((modS (modS S i (withThere true)) i (withNews nw)).ms[i]? = some (withNews nw (withThere true m))) := Lib.hid (by rw [modS_get, modS_get, HM.out]; simp)
      have hM1 := D1.out.bod.mem i _ l HMN.out HL.out
      have mb5 : v1.cell? ⟨l.mb, 5, none⟩ = some (.map (some l.nb)) := row_cell hM1.row 5
      have NNB : Hid (rho l.nb = .news i) := Lib.hid hM1.rnb
      have NBB : Hid (rho l.bb = .best i) := Lib.hid hM1.rbb
      obtain ⟨N1, hN1⟩ := hM1.news
      have KO : KOk (p1, p2) := RGT.out.key
      obtain ⟨o2, hs2, hm2⟩ := hN1.map.store pf_enc Tryz.underlying128 (p1, p2) KO () (rgt_short hN1.map.apart hN1.rgt) v1.drew rfl
      have hk2 : Kept (fun k => k = l.nb) v1 (ChangeMaps.setBlock v1.drew l.nb o2) := (Kept.refl _ v1).drew.trans (Kept.setBlock o2 rfl)
      have PN := Lib.hid (D1.out.setN HMN.out HL.out (fun q => nw q || decide (q = (p1, p2))) (put_news nw hN1.get (p1, p2)) (fun x hx => (mem_put hx).elim (fun h => hN1.rgt x h.1) (fun h => by rw [h]; exact RGT.out)) hk2 hm2)
      have RT2 := Lib.hid (RT1.out.kept hk2 (fun e => by have h1 := NNB.out; rw [← e, NBB.out] at h1; cases h1) (fun e => by have h1 := NNB.out; rw [← e, NRB.out] at h1; cases h1))
      clear hm2 hk2 hM1 hN1 hb1 hv1 he' D4 S4 RT4 D1 RT1 hpb
      refine region_tailR 6 (by kernel_rfl) (by kernel_rfl) ?_
      simp only [List.take_succ_cons, List.take_zero, List.drop_succ_cons, List.drop_zero]
      repeat still_step
      refine wpStill_nil ?_
      have EM : Hid (modS (modS (modS S i (withThere true)) i (withNews nw)) i (withNews fun q => nw q || decide (q = (p1, p2))) = modS (modS S i (withThere true)) i (withNews fun q => nw q || decide (q = (p1, p2)))) := Lib.hid (by rw [modS_mod]; rfl)
      have HE : Hid (SrvM (ChangeMaps.setBlock v1.drew l.nb o2) rho sb fb ls (modS (modS S i (withThere true)) i (withNews fun q => nw q || decide (q = (p1, p2)))) ∧ Step rho rho W (ChangeMaps.setBlock v1.drew l.nb o2)) := Lib.hid ⟨by rw [← EM.out]; exact PN.out.1, S1.out.trans PN.out.2⟩
      have RL : Hid ((ChangeMaps.setBlock v1.drew l.nb o2).rangeLeft l.bb rb < wr.rangeLeft l.bb rb) := Lib.hid (by rw [RT2.out.left_eq, hrl.out]; have := hle.out; omega)
      clear PN S1 EM hp
      go_wp2_with fail
      exact ⟨⟨left.eraseIdx k, _, JN, HE, RT2⟩, RL.out⟩
end
end Go.Proofs.YtkoidahgbbabiaaGreat
/-
  THE SERVER: what a receiver hasn't been told yet, in order.
-/
namespace Go.Proofs.YtkoidahgbbabiaaGreat
open Go.RowKit
section
variable {W : World} {rho : Nat → Role} {sb fb : Nat} {ls : List Pl} {S : Sv}
set_option maxRecDepth 100000 in
theorem sv_News_nil (n : Int) (W : World) : Calls Tryz.prog 17 #[.pointer none, .int .i64 n] W fun e w' => e = .returned (.slice none 0 0) ∧ W = w' := by
  have MB := Lib.hid (sv_member_nil n W)
  go_enter Tryz.func17, Tryz.ntmps17
  go_wp2_with fail
  refine MB.out.mono ?_
  rintro e w1 ⟨rfl, rfl⟩
  go_wp2_with fail
  go_ret
  exact ⟨rfl, rfl⟩
end
end Go.Proofs.YtkoidahgbbabiaaGreat
/-
  ALL ROUTES OF A PEER: All: the function that is called at each.
-/
namespace Go.Proofs.YtkoidahgbbabiaaGreat
open Go.RowKit Go.Lib
end Go.Proofs.YtkoidahgbbabiaaGreat
/-
  ALL ROUTES OF A PEER: All.
-/
namespace Go.Proofs.YtkoidahgbbabiaaGreat
open Go.RowKit Go.Lib
theorem all_srt (S : List (Nat × AV)) : ((goP S 32 0 0).map itP).Pairwise plt := by
  rw [List.pairwise_map]
  refine (goP_sorted (S := S) 32 0 0 rfl (by decide)).imp fun {x y} h => ?_
  unfold itLt at h
  unfold plt itP
  simp only
  omega
theorem all_mem {E : List Ent} (hE : ∀ e ∈ E, RgtP e.p) (p : Pf) : p ∈ (goP (kvs E) 32 0 0).map itP ↔ (getL (rts E) p).isSome = true := by
  constructor
  · intro h
    obtain ⟨x, hx, rfl⟩ := List.mem_map.1 h
    have hi := goP_in (S := kvs E) 32 0 0 rfl (by decide) x hx
    have hlt : x.1.1 < 4294967296 := by have := hi.hi; simpa using this
    obtain ⟨e, _, h1, _, h2⟩ := item_ent hE hlt (right_mod.2 ⟨hi.form, hi.le32⟩) hi.at_
    have e1 : itP ((x.1.1, x.1.2), x.2) = itP x := rfl
    rw [e1] at h2
    rw [h2]; rfl
  · intro h
    obtain ⟨a, ha⟩ := Option.isSome_iff_exists.1 h
    rw [find_rts] at ha
    cases hf : findE E p with
    | none => rw [hf] at ha; cases ha
    | some e =>
      obtain ⟨h1, rfl⟩ := findE_mem hf
      obtain ⟨x, n, hp, hx, hn, hm, hr⟩ := (hE e h1).nat
      have key := find_kvs hE (hE e h1)
      rw [hf] at key
      have hg : getL (kvs E) (keyN x n) = some e.v := by
        have : pKey e.p = keyN x n := by rw [hp]; rfl
        rw [← this]; exact key
      refine List.mem_map.2 ⟨((x, n), e.v), goP_mem hm hn hg 32 0 0 rfl (by decide) (Nat.zero_le _) (Nat.zero_le _) (by simpa using hx), ?_⟩
      rw [hp]; rfl
theorem ln_0 : Ln 32 ([] : List Itm) := by unfold Ln; simp
end Go.Proofs.YtkoidahgbbabiaaGreat
/-
  ALL ROUTES OF A PEER: Clear: the function that is called at each.
-/
namespace Go.Proofs.YtkoidahgbbabiaaGreat
open Go.RowKit Go.Lib
structure CI (w : World) (rb tb : Nat) (N : Nat → Option Nat) (E : List Ent) (peer own most : Int) (F : Nat → Prop) (ab : Nat) (P : Nat → Prop) (L : List Itm) (W : World) : Prop where
  bel : Below w.heap.size w W
  rib : RibIn W rb tb N E peer own most F
  lo : w.heap.size ≤ ab
  flt : ∀ k, F k → k < w.heap.size
  sl : ∃ v, W.heap[ab]? = some (.cells #[v] 23 (0, 0)) ∧ OwnPs W w.heap.size v (L.map itP) ∧ (∀ g, v.ownBlock = some g → ¬ P g ∧ g ≠ ab)
  pab : ¬ P ab
  plt : ∀ b, P b → b < W.heap.size
section
variable {w W W' : World} {rb tb : Nat} {N : Nat → Option Nat} {E : List Ent} {peer own most : Int} {F P : Nat → Prop} {ab : Nat} {L : List Itm}
theorem CI.stab {P' : Nat → Prop} (h : CI w rb tb N E peer own most F ab P L W) (hb : Below W.heap.size W W') (hP : ∀ b, P' b → P b ∨ (W.heap.size ≤ b ∧ b < W'.heap.size)) : CI w rb tb N E peer own most F ab P' L W' := by
  obtain ⟨v, h1, h2, h3⟩ := h.sl
  refine ⟨below_on h.bel hb, h.rib.below hb, h.lo, h.flt, ⟨v, (hb.block _ (row_lt h1)).trans h1, h2.below hb, fun g hg => ⟨fun hp => ?_, (h3 g hg).2⟩⟩, fun hp => ?_, fun b hp => ?_⟩
  · rcases hP g hp with hp | hp
    · exact (h3 g hg).1 hp
    · have := own_lt h2.1 g hg; omega
  · rcases hP ab hp with hp | hp
    · exact h.pab hp
    · have := row_lt h1; omega
  · rcases hP b hp with hp | hp
    · exact Nat.lt_of_lt_of_le (h.plt b hp) hb.size
    · exact hp.2
theorem CI.step {w2 w3 : World} {v0 v3 : Value} {it : Itm} (h : CI w rb tb N E peer own most F ab P L W) (hab : W.heap[ab]? = some (.cells #[v0] 23 (0, 0))) (hre : OwnPs W w.heap.size v0 (L.map itP)) (hog : ∀ g, v0.ownBlock = some g → ¬ P g ∧ g ≠ ab)
    (b02 : Below W.heap.size W w2) (h2 : OwnPs w3 w.heap.size v3 ((L ++ [it]).map itP)) (hk3 : Kept (fun k => v0.ownBlock = some k) w2 w3) (hat : v3.ownBlock = v0.ownBlock ∨ v3.ownBlock = some w2.heap.size) :
    CI w rb tb N E peer own most F ab P (L ++ [it]) (w3.setCell ⟨ab, 0, none⟩ v3) ∧ Kept (fun b => ¬ P b) W (w3.setCell ⟨ab, 0, none⟩ v3) := by
  have hablt := row_lt hab
  have o0 := own_lt hre.1
  have o1 := own_form_le hre.1
  have s2 := b02.size
  have ws := h.bel.size
  have Kt : Kept (fun k => k = ab ∨ v0.ownBlock = some k) W (w3.setCell ⟨ab, 0, none⟩ v3) := (((Kept.of_below b02).trans (hk3.imp fun k hk => .inr hk)).put _ _ (.inl (.inl rfl)))
  have n3 : ∀ g, v3.ownBlock = some g → (v0.ownBlock = some g) ∨ g = w2.heap.size := fun g hg => by
    rcases hat with e | e
    · exact .inl (e ▸ hg)
    · rw [e] at hg; exact .inr (Option.some.inj hg).symm
  have n3ab : ∀ g, v3.ownBlock = some g → g ≠ ab := fun g hg e => by
    rcases n3 g hg with h1 | h1
    · exact (hog g h1).2 e
    · omega
  have hrow : w3.heap[ab]? = some (.cells #[v0] 23 (0, 0)) := (hk3.block ab (by omega) (fun h => (hog ab h).2 rfl)).trans ((b02.block ab hablt).trans hab)
  refine ⟨⟨h.bel.trans (Kt.below ws fun k hk => ?_), h.rib.kept Kt fun k hl hF hG => ?_, h.lo, h.flt, ⟨v3, ?_, h2.kept (Kept.setCell (F := fun k => k = ab) _ _ rfl) (fun g hg e => n3ab g hg e), ?_⟩, h.pab, fun b hb => Nat.lt_of_lt_of_le (h.plt b hb) Kt.size⟩, Kt.imp fun k hk hp => ?_⟩
  · rcases hk with rfl | hk
    · exact h.lo
    · exact o1 k hk
  · have := h.flt k hF
    have := h.lo
    rcases hG with rfl | hG
    · omega
    · have := o1 k hG; omega
  · rw [set_same hrow]; rfl
  · intro g hg
    rcases n3 g hg with h1 | h1
    · exact hog g h1
    · subst h1
      exact ⟨fun hp => by have := h.plt _ hp; omega, by omega⟩
  · rcases hk with rfl | hk
    · exact h.pab hp
    · exact (hog k hk).1 hp
end
set_option maxHeartbeats 3200000 in
set_option maxRecDepth 100000 in
theorem clear1_call {w : World} {rb tb : Nat} {N : Nat → Option Nat} {E : List Ent} {peer own most : Int} {F : Nat → Prop} {ab : Nat} (P : Nat → Prop) (L : List Itm) (W : World) (A i : Nat) (v : AV) (h : CI w rb tb N E peer own most F ab P L W)
    (hA : A < 4294967296) (hl : L.length < 8589934592) :
    Calls Tryz.prog 89 #[.agg #[.int .u32 A, .int .i64 i], v.V, .pointer (some ⟨ab, 0, none⟩)] W fun e w' => e = .returned (.bool true) ∧ CI w rb tb N E peer own most F ab P (L ++ [((A, i), v)]) w' ∧ Kept (fun b => ¬ P b) W w' := by
  obtain ⟨i0, hii, hz0, hz1, hz2⟩ := info_parts info_pref
  have HH := Lib.hid h
  have OKx : Hid (OkP (itP ((A, i), v))) := Lib.hid (by unfold itP OkP; simp only; omega)
  obtain ⟨v0, hab, hre, hog⟩ := h.sl
  obtain ⟨s0, cp0, hv0, -⟩ := own_form hre.1
  rw [List.length_map] at hv0
  subst hv0
  have HAB := Lib.hid hab
  have HRE := Lib.hid hre
  have HOG := Lib.hid hog
  have WB := Lib.hid h.bel.size
  clear h hab hre hog
  generalize hpp : itP ((A, i), v) = p at OKx
  have P1 : Hid ((A : Int) = p.1 ∧ (i : Int) = p.2) := Lib.hid (by rw [← hpp]; exact ⟨rfl, rfl⟩)
  have HPP := Lib.hid hpp
  have HL : Hid ((L.map itP).length = L.length) := Lib.hid (List.length_map ..)
  clear hpp
  go_enter Tryz.func89, Tryz.ntmps89
  go_upto_region 1 with (fail)
  obtain ⟨W0, hW0, c0, c1, -, hB⟩ := box_pa W A i v
  rw [← hW0]; clear hW0
  rw [P1.out.1] at c0
  rw [P1.out.2] at c1
  have q0 := (hB.block _ (row_lt HAB.out)).trans HAB.out
  have cv0 : W0.cell? ⟨ab, 0, none⟩ = some (.slice s0 L.length cp0) := row_cell q0 0
  have B0 := Lib.hid hB
  have hal : Below W0.heap.size W0 (W0.alloc (.cells #[.int .u32 p.1, .int .i64 p.2] 53)) := (Below.refl _ _).alloc (Nat.le_refl _) _
  have BA := Lib.hid (below_on hB hal)
  have OA := Lib.hid (HRE.out.below BA.out)
  have NC := Lib.hid (new_cells W0 #[.int .u32 p.1, .int .i64 p.2] 53)
  clear hB hal q0
  go_wp2_with (at_builtin; refine wpList_append_own_at _ rfl _ _ 23 rfl w.heap.size 53 i0 _ 2 16 Tryz.underlying23 hii hz0 hz1 hz2 rfl (by decide) (.slice s0 L.length cp0) (L.map itP).length ((L.map itP).flatMap encP) rfl OA.out.1 ⟨W0.heap.size, 0, none⟩ 1 1 [.int .u32 p.1, .int .i64 p.2] rfl rfl NC.out (encP_one p) (by have := HL.out; unfold maxLen; omega) (by have := HL.out; omega) (by have := WB.out; have := BA.out.size; omega) ?_)
  intro v3 w3 h2 h3 _ hat
  obtain ⟨s3, c3, hv3, -⟩ := own_form h2
  subst hv3
  have hk3 : Kept (fun k => Value.ownBlock (.slice s0 L.length cp0) = some k) (W0.alloc (.cells #[.int .u32 p.1, .int .i64 p.2] 53)) w3 := ⟨h3.os, h3.tape, h3.output, h3.size, fun k hk hne => h3.block k hk (fun e => hne e.symm)⟩
  have qab3 : w3.heap[ab]? = some (.cells #[.slice s0 L.length cp0] 23 (0, 0)) := (hk3.block _ (Nat.lt_of_lt_of_le (row_lt HAB.out) BA.out.size) (fun h => (HOG.out _ h).2 rfl)).trans ((BA.out.block _ (row_lt HAB.out)).trans HAB.out)
  have cv : w3.cell? ⟨ab, 0, none⟩ = some (.slice s0 L.length cp0) := row_cell qab3 0
  have fz := row_free qab3 0
  have HS := Lib.hid (HH.out.step (w2 := W0.alloc (.cells #[.int .u32 p.1, .int .i64 p.2] 53)) (it := ((A, i), v)) HAB.out HRE.out HOG.out BA.out (show OwnPs w3 w.heap.size _ ((L ++ [((A, i), v)]).map itP) by
    rw [List.map_append, List.map_cons, List.map_nil, HPP.out]
    refine ⟨?_, ?_⟩
    · rw [List.length_append, List.flatMap_append]; simpa [encP] using h2
    · intro q hq
      rcases List.mem_append.1 hq with hq | hq
      · exact HRE.out.2 q hq
      · simp at hq; subst hq; exact OKx.out) hk3 (by simpa using hat))
  clear h2 h3 hat hk3 qab3 cv0 c0 c1 OA NC BA B0
  go_wp2_with fail
  go_ret
  exact ⟨rfl, HS.out⟩
end Go.Proofs.YtkoidahgbbabiaaGreat
/-
  ALL ROUTES OF A PEER: Clear.
-/
namespace Go.Proofs.YtkoidahgbbabiaaGreat
open Go.RowKit Go.Lib
theorem each_clear {w : World} {rb tb : Nat} {N : Nat → Option Nat} {E : List Ent} {peer own most : Int} {F : Nat → Prop} {ab : Nat} :
    EachOkN tb N (kvs E) most 89 #[.pointer (some ⟨ab, 0, none⟩)] (fun _ => true) (CI w rb tb N E peer own most F ab) where
  ent := enters_of Tryz.func89 (by kernel_rfl) rfl
  stab P P' L W W' h hb hP := h.stab hb hP
  tri P L W h := h.rib.tri
  call P L W A i v h hA hR hg hl := clear1_call P L W A i v h hA hl
def ClearPost (rb : Nat) (peer own most : Int) (R : Rts) (F : Nat → Prop) (w : World) (e : Ending) (w' : World) : Prop :=
  ∃ v L F', e = .returned v ∧ OwnPs w' w.heap.size v L ∧ L.Pairwise plt ∧ (∀ p, p ∈ L ↔ (getL R p).isSome = true) ∧ RibAt w' rb peer own most [] F' ∧ (∀ k, F' k → F k ∨ (w.heap.size ≤ k ∧ k < w'.heap.size)) ∧ (∀ k, v.ownBlock = some k → ¬ F' k) ∧ Kept F w w'
theorem clear_fin {w w1 w2 : World} {rb tb : Nat} {N : Nat → Option Nat} {E : List Ent} {peer own most : Int} {F : Nat → Prop} {v : Value} {L : List Pf} (hs : L.Pairwise plt) (hm : ∀ p, p ∈ L ↔ (getL (rts E) p).isSome = true) (hb1 : Below w.heap.size w w1) (hr : RibIn w1 rb tb N E peer own most F) (hF : ∀ k, F k → k < w.heap.size)
    (ho : OwnPs w1 w.heap.size v L) (ht : TrI w2 w1.heap.size (fun _ => none) [] (min (max most 0) 4096)) (hb2 : Below w1.heap.size w1 w2) :
    ClearPost rb peer own most (rts E) F w (.returned v) (w2.setCell ⟨rb, 3, none⟩ (.pointer (some ⟨w1.heap.size, 0, none⟩))) := by
  have hrb := hF rb hr.frb
  have hsz := hb1.size
  have e : min (max most 0) 4096 = most := by have := hr.most0; have := hr.most1; omega
  rw [e] at ht
  have hlt := ht.lt
  have Kr : Kept (fun k => k = rb) w2 (w2.setCell ⟨rb, 3, none⟩ (.pointer (some ⟨w1.heap.size, 0, none⟩))) := Kept.setCell _ _ rfl
  refine ⟨v, L, fun k => k = rb ∨ k = w1.heap.size, rfl, (ho.below hb2).kept Kr (fun g hg e => by have := own_form_le ho.1 g hg; omega), hs, hm, ⟨w1.heap.size, fun _ => none, [], ⟨?_, ht.kept Kr (fun b hb => ?_), by simp, by simp, by simp, .inl rfl, fun b hb => ?_, by simp, fun hx => ?_, by simp, hr.most0, hr.most1, by have := hr.most0; simpa using this⟩, rfl⟩, fun k hk => ?_, fun g hg hk => ?_, ?_⟩
  · rw [set_same ((hb2.block rb (row_lt hr.row)).trans hr.row)]
    simp
  · rcases hb with rfl | ⟨k, hk⟩
    · intro e; omega
    · cases hk
  · rcases hb with rfl | ⟨k, hk⟩
    · exact .inr rfl
    · cases hk
  · rcases hx with hx | ⟨k, hk⟩
    · omega
    · cases hk
  · have := Kr.size
    rcases hk with rfl | rfl
    · exact .inl hr.frb
    · exact .inr (by omega)
  · have h1 := own_form_le ho.1 g hg
    have h2 := own_lt ho.1 g hg
    rcases hk with rfl | rfl <;> omega
  · have hb : Below w.heap.size w w2 := hb1.trans (hb2.mono hsz)
    exact (Kept.of_below hb).put _ _ (.inl hr.frb)
set_option maxHeartbeats 3200000 in
set_option maxRecDepth 100000 in
theorem ad_Clear_in {rb tb : Nat} {N : Nat → Option Nat} {E : List Ent} {peer own most : Int} {F : Nat → Prop} (w : World) (h : RibIn w rb tb N E peer own most F) (hF : ∀ k, F k → k < w.heap.size) :
    Calls Tryz.prog 41 #[.pointer (some ⟨rb, 0, none⟩)] w (ClearPost rb peer own most (rts E) F w) := by
  have HH := Lib.hid h
  have HFL := Lib.hid hF
  clear h hF
  go_enter Tryz.func41, Tryz.ntmps41
  go_upto_region 4 with (fail)
  obtain ⟨W0, hW0, qs, hB, -⟩ := box1 w #[.slice none 0 0] 23
  rw [← hW0]
  clear hW0
  have r3 := cell_below HH.out.cells.2.2.2 hB
  have I0 : Hid (CI w rb tb N E peer own most F w.heap.size (fun _ => False) [] W0) := Lib.hid ⟨hB, HH.out.below hB, Nat.le_refl _, HFL.out, ⟨_, qs, ownPs_nil _ _, by intro g hg; cases hg⟩, fun h => h, fun b hb => hb.elim⟩
  have AT := Lib.hid (trI_AllN each_clear [] (fun _ => False) W0 I0.out ln_0)
  rw [runL_all _ (fun _ => rfl)] at AT
  clear qs hB
  go_wp2_with fail
  refine AT.out.mono ?_
  rintro e w1 ⟨rfl, I1, -⟩
  obtain ⟨v, h1, h2, -⟩ := I1.sl
  simp only [List.nil_append] at h2
  obtain ⟨s1, c1, hv, -⟩ := own_form h2.1
  subst hv
  have II := Lib.hid I1
  have H1 := Lib.hid h1
  have H2 := Lib.hid h2
  have r2 := I1.rib.cells.2.2.1
  clear h1 h2 I1 AT r3
  go_wp2_with fail
  refine (trI_New most w1).mono ?_
  rintro e w2 ⟨rfl, T2, hb2⟩
  have r3 := cell_below II.out.rib.cells.2.2.2 hb2
  have f3 : w2.frozen? ⟨rb, 3, none⟩ = false := row_free ((hb2.block rb (row_lt II.out.rib.row)).trans II.out.rib.row) 3
  have cv : w2.cell? ⟨w.heap.size, 0, none⟩ = some (.slice s1 ((goP (kvs E) 32 0 0).map itP).length c1) := cell_below (row_cell H1.out 0) hb2
  have ne : ¬ rb = w.heap.size := by have := HFL.out rb HH.out.frb; omega
  have ne2 : ¬ w.heap.size = rb := fun e => ne e.symm
  have FIN := Lib.hid (clear_fin (all_srt (kvs E)) (all_mem HH.out.rgt) II.out.bel II.out.rib HFL.out H2.out T2 hb2)
  rw [List.length_map] at FIN
  clear T2 hb2 r2
  go_wp2_with fail
  go_ret
  exact FIN.out
theorem ad_Clear {rb : Nat} {peer own most : Int} {R : Rts} {F : Nat → Prop} (w : World) (h : RibAt w rb peer own most R F) (hF : ∀ k, F k → k < w.heap.size) : Calls Tryz.prog 41 #[.pointer (some ⟨rb, 0, none⟩)] w (ClearPost rb peer own most R F w) := by
  obtain ⟨tb, N, E, hI, rfl⟩ := h
  exact ad_Clear_in w hI hF
end Go.Proofs.YtkoidahgbbabiaaGreat
