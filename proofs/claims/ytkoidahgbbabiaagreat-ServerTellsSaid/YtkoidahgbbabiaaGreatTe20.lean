/- Texts of one proof, one behind another. -/
import Derived.Test.YtkoidahgbbabiaaGreatTe19
import Derived.Test.YtkoidahgbbabiaaGreatTe14
import Derived.Test.YtkoidahgbbabiaaGreatTe1
/-
  THE SERVER: a receiver's best route to a prefix, walked.
-/
namespace Go.Proofs.YtkoidahgbbabiaaGreat
open Go.RowKit
section
variable {W : World} {rho : Nat → Role} {sb fb : Nat} {ls : List Pl} {S : Sv}
set_option maxHeartbeats 3200000 in
set_option maxRecDepth 100000 in
theorem sv_Best (h : SrvM W rho sb fb ls S) {i : Nat} {m : Pm} (hm : S.ms[i]? = some m) (p : Pf) (hp : KOk p) :
    Calls Tryz.prog 27 #[.pointer (some ⟨sb, 0, none⟩), .int .i64 i, .agg #[.int .u32 p.1, .int .i64 p.2]] W (BestPost (S.best i p) p W) := by
  obtain ⟨l, hl, hM⟩ := h.get hm
  obtain ⟨L, hL⟩ := hM.bests
  have MB := Lib.hid (fun w' (hb : Below W.heap.size W w') => sv_member (h.below hb) hl)
  have HP := Lib.hid hp
  have BL := Lib.hid hL
  have mb4 : W.cell? ⟨l.mb, 4, none⟩ = some (.map (some l.bb)) := row_cell hM.row 4
  have BG := Lib.hid (hL.get p)
  obtain ⟨old, hold⟩ : ∃ old, getL L p = old := ⟨_, rfl⟩
  have HOLD := Lib.hid hold
  rw [hold] at BG
  clear h hm hl hM hp hL hold
  go_enter Tryz.func27, Tryz.ntmps27
  go_upto_region 1 with (fail)
  obtain ⟨W0, hW0, p0, p1, rz, hB⟩ := box_pr W p.1 p.2
  rw [← hW0]
  obtain ⟨pb, hpb⟩ : ∃ pb, pb = W.heap.size := ⟨_, rfl⟩
  rw [← hpb] at p0 p1 rz
  have PB := Lib.hid hpb
  have B0 := Lib.hid hB
  have RZ := Lib.hid rz
  have mb4 := cell_below mb4 hB
  rw [← hpb]
  clear hW0 hB rz hpb
  go_wp2_with fail
  refine (MB.out W0 B0.out).mono ?_
  rintro e w1 ⟨rfl, rfl⟩
  go_upto_region 4 with (fail)
  have LK : Hid (∀ w', Below W0.heap.size W0 w' → (Instr.lookup 64 (.map (some l.bb)) (pfV p) true).run Tryz.prog w' = .ok (.tuple #[((getL L p).map bvV).getD (.agg (rtC 0 (0, 0) av0)), .bool (getL L p).isSome]) w') := Lib.hid (fun w' hb => BL.out.map.look pf_enc Tryz.underlying64 p HP.out zero_rt w' ((below_on B0.out hb).block _ BL.out.map.lt) true)
  rw [HOLD.out] at LK
  obtain ⟨ov, hov⟩ : ∃ ov : Int × Pf × AV, ovOf old = ov := ⟨_, rfl⟩
  have EV : Hid ((old.map bvV).getD (.agg (rtC 0 (0, 0) av0)) = .agg (rtC ov.1 ov.2.1 ov.2.2)) := Lib.hid (by rw [← hov]; cases old <;> rfl)
  rw [EV.out] at LK
  have HOV := Lib.hid hov
  clear hov
  obtain ⟨had, hhad⟩ : ∃ had, old.isSome = had := ⟨_, rfl⟩
  rw [hhad] at LK
  have HHAD := Lib.hid hhad
  clear hhad
  go_cut [9, 10] from 17 to 25 (fun s9 s10 wx => ∃ b9 : Nat, s9 = .pointer (some ⟨b9, 0, none⟩) ∧ s10 = .bool had ∧ Hid (Below W0.heap.size W0 wx ∧ wx.heap[b9]? = some (.cells (rtC ov.1 ov.2.1 ov.2.2) 61 (0, 0)) ∧ W0.heap.size ≤ b9))
  case first =>
    refine wp_region_held_drew (S := fun w' => Below W0.heap.size W0 w') (by kernel_rfl) ?_ (fun hHeld => ?_)
    · exact (Below.refl _ _).drew
    generalize World.drew W0 = wd at hHeld ⊢
    refine qy 0 ?_ ?_ ?_ hHeld ?_; rotate_left 1; (· rfl); (· intro w' hSw; (try clear hHeld); go_simp; try with_reducible rfl)
    try simp only [zp1, zp3, zp4, zp5]
    refine qy 4 ?_ ?_ ?_ hHeld ?_; rotate_left 1; (· rfl); (· intro w' hSw; have p0 := cell_below p0 hSw; have p1 := cell_below p1 hSw; have mb4 := cell_below mb4 hSw; (try clear hHeld); go_simp; try with_reducible rfl)
    try simp only [zp1, zp3, zp4, zp5]
    refine rg_call2 (i := 1) (j := 9) (atS at0) (atS (atS (atS (atS (atS (atS (atS (atS (atS at0))))))))) (by kernel_rfl) ?_ ?_ (fun K hK => ?_) (fun K hK => ?_)
    · rfl
    · rfl
    · (try clear hb); go_simp; go_wp2_with fail; refine hK.out _ _ ?_ (fun hHeld => ?_); (· exact hHeld); clear hK K
      try simp only [zp1, zp3, zp4, zp5]
      refine qy 2 ?_ ?_ ?_ hHeld ?_; rotate_left 1; (· rfl); (· intro w' hSw; (try clear hHeld); go_simp; try with_reducible rfl)
      try simp only [zp1, zp3, zp4, zp5]
      refine qy 3 ?_ ?_ ?_ hHeld ?_; rotate_left 1; (· rfl); (· intro w' hSw; have p0 := cell_below p0 hSw; have p1 := cell_below p1 hSw; have mb4 := cell_below mb4 hSw; (try clear hHeld); go_simp; try with_reducible rfl)
      try simp only [zp1, zp3, zp4, zp5]
      refine qy 5 ?_ ?_ ?_ hHeld ?_; rotate_left 1; (· rfl); (· intro w' hSw; have lk := LK.out w' hSw; (try clear hHeld); go_simp; try with_reducible rfl)
      try simp only [zp1, zp3, zp4, zp5]
      refine qy 6 ?_ ?_ ?_ hHeld ?_; rotate_left 1; (· rfl); (· intro w' hSw; (try clear hHeld); go_simp; try with_reducible rfl)
      try simp only [zp1, zp3, zp4, zp5]
      refine qy 7 ?_ ?_ ?_ hHeld ?_; rotate_left 1; (· rfl); (· intro w' hSw; (try clear hHeld); go_simp; try with_reducible rfl)
      try simp only [zp1, zp3, zp4, zp5]
      refine qy 8 ?_ ?_ ?_ hHeld ?_; rotate_left 1; (· rfl); (· intro w' hSw; (try clear hHeld); go_simp; try with_reducible rfl)
      try simp only [zp1, zp3, zp4, zp5]
      refine rg_call (i := 9) (atN rfl) (by kernel_rfl) ?_ (fun K hK => ?_); (· rfl); (try clear hb); go_simp; refine box_zrt (p := K _) ?_; intro w1 hz hb1; have hgs := hHeld.size; refine hK.out _ _ ?_ (fun hHeld => ?_); (· exact below_on hHeld hb1); clear hK K
      try simp only [zp1, zp3, zp4, zp5]
      refine rg_call (i := 10) (atN rfl) (by kernel_rfl) ?_ (fun K hK => ?_); (· rfl); (try clear hb); refine wp_store_rowat 61 (.tmp 9) (.tmp 24) rfl _ rfl 61 (rtC 0 (0, 0) av0) _ rfl hz (by kernel_rfl) rfl (rt_one _ _ _) ?_; refine setRow_k hz (p := K _) ?_; intro w2 hr hk2; refine hK.out _ _ ?_ (fun hHeld => ?_); (· exact hHeld.trans (hk2.below hHeld.size (by rintro k rfl; exact hgs))); clear hK K
      try simp only [Act.put]
      refine qy 11 ?_ ?_ ?_ hHeld ?_; rotate_left 1; (· rfl); (· intro w' hSw; (try clear hHeld); go_simp; try with_reducible rfl)
      try simp only [zp1, zp3, zp4, zp5]
      refine wpAnyH_done (by kernel_rfl) ?_ _
      go_wp2_with fail
      go_meet
      exact ⟨_, rfl, rfl, Lib.hid ⟨hHeld, hr, hgs⟩⟩
    · (try clear hb); go_simp; refine box_zrt (p := K _) ?_; intro w1 hz hb1; have hgs := hHeld.size; refine hK.out _ _ ?_ (fun hHeld => ?_); (· exact below_on hHeld hb1); clear hK K
      try simp only [zp1, zp3, zp4, zp5]
      refine rg_call (i := 1) (atN rfl) (by kernel_rfl) ?_ (fun K hK => ?_); (· rfl); (try clear hb); go_simp; go_wp2_with fail; refine hK.out _ _ ?_ (fun hHeld => ?_); (· exact hHeld); clear hK K
      try simp only [zp1, zp3, zp4, zp5]
      refine qy 2 ?_ ?_ ?_ hHeld ?_; rotate_left 1; (· rfl); (· intro w' hSw; (try clear hHeld); go_simp; try with_reducible rfl)
      try simp only [zp1, zp3, zp4, zp5]
      refine qy 3 ?_ ?_ ?_ hHeld ?_; rotate_left 1; (· rfl); (· intro w' hSw; have p0 := cell_below p0 hSw; have p1 := cell_below p1 hSw; have mb4 := cell_below mb4 hSw; (try clear hHeld); go_simp; try with_reducible rfl)
      try simp only [zp1, zp3, zp4, zp5]
      refine qy 5 ?_ ?_ ?_ hHeld ?_; rotate_left 1; (· rfl); (· intro w' hSw; have lk := LK.out w' hSw; (try clear hHeld); go_simp; try with_reducible rfl)
      try simp only [zp1, zp3, zp4, zp5]
      refine qy 6 ?_ ?_ ?_ hHeld ?_; rotate_left 1; (· rfl); (· intro w' hSw; (try clear hHeld); go_simp; try with_reducible rfl)
      try simp only [zp1, zp3, zp4, zp5]
      refine qy 7 ?_ ?_ ?_ hHeld ?_; rotate_left 1; (· rfl); (· intro w' hSw; (try clear hHeld); go_simp; try with_reducible rfl)
      try simp only [zp1, zp3, zp4, zp5]
      refine qy 8 ?_ ?_ ?_ hHeld ?_; rotate_left 1; (· rfl); (· intro w' hSw; (try clear hHeld); go_simp; try with_reducible rfl)
      try simp only [zp1, zp3, zp4, zp5]
      refine rg_call (i := 10) (atN rfl) (by kernel_rfl) ?_ (fun K hK => ?_); (· rfl); (try clear hb); refine wp_store_rowat 61 (.tmp 9) (.tmp 24) rfl _ rfl 61 (rtC 0 (0, 0) av0) _ rfl hz (by kernel_rfl) rfl (rt_one _ _ _) ?_; refine setRow_k hz (p := K _) ?_; intro w2 hr hk2; refine hK.out _ _ ?_ (fun hHeld => ?_); (· exact hHeld.trans (hk2.below hHeld.size (by rintro k rfl; exact hgs))); clear hK K
      try simp only [Act.put]
      refine qy 11 ?_ ?_ ?_ hHeld ?_; rotate_left 1; (· rfl); (· intro w' hSw; (try clear hHeld); go_simp; try with_reducible rfl)
      try simp only [zp1, zp3, zp4, zp5]
      refine wpAnyH_done (by kernel_rfl) ?_ _
      go_wp2_with fail
      go_meet
      exact ⟨_, rfl, rfl, Lib.hid ⟨hHeld, hr, hgs⟩⟩
  case rest =>
    obtain ⟨b9, rfl, rfl, HH⟩ := hcut
    obtain ⟨w1, hw1⟩ : ∃ w1 : World, w1 = wc := ⟨_, rfl⟩
    rw [← hw1] at HH ⊢
    have B1 := Lib.hid (below_on B0.out HH.out.1)
    have Q9 := Lib.hid HH.out.2.1
    have RZ1 := Lib.hid ((HH.out.1.block _ (row_lt RZ.out)).trans RZ.out)
    clear hw1 HH LK p0 p1 mb4 RZ
    rcases had with _ | _
    · have BN : Hid (S.best i p = none) := Lib.hid (by rw [← BG.out]; have := HHAD.out; cases old <;> simp_all)
      go_wp2_with ((with_reducible refine halt_at (X := .store 61 (.tmp 6) (.tmp 28)) ?_ ?_); (· rfl))
      unfold Halt
      refine st_row rfl 61 _ _ rfl (pb + 1) rfl 61 (rtC 0 (0, 0) av0) (rtC 0 (0, 0) av0) rfl RZ1.out (by kernel_rfl) rfl (rt_one _ _ _) ?_
      go_wp2_with fail
      refine bodyPost_ret (results_BestOf _ _ (pb + 1) (rtC 0 (0, 0) av0) rfl false ?_ ?_ (setRow_heap _ _ _ _ _ _ RZ1.out)) rfl (.inl ⟨BN.out, rfl, below_setRow B1.out (by have := PB.out; omega) _⟩) <;> rfl
    · obtain ⟨b, hb⟩ : ∃ b, old = some b := by
        have := HHAD.out
        cases old with
        | none => simp at this
        | some b => exact ⟨b, rfl⟩
      have hv := BL.out.val (p, b) (getL_mem (HOLD.out.trans hb))
      have BS : Hid (S.best i p = some (b.peer, b.a)) := Lib.hid (by rw [← BG.out, hb]; rfl)
      obtain ⟨op, onet, ova⟩ := ov
      have ho : (b.peer, b.net, b.v) = (op, onet, ova) := by have := HOV.out; rw [hb] at this; exact this
      injection ho with ho1 ho2
      injection ho2 with ho2 ho3
      obtain rfl : onet = p := ho2.symm.trans hv.1
      have GA := Lib.hid hv.2.2.1
      have AV := Lib.hid ((hv.2.2.2.below B1.out).self.at)
      rw [ho3] at AV
      rw [ho1] at BS
      have CL := Lib.hid (sv_clone op onet b.a ova w1 AV.out GA.out.sz)
      clear hb hv ho1 ho2 ho3 HOV HOLD
      go_wp2_with ((with_reducible refine halt_at (X := .load 61 (.tmp 9)) ?_ ?_); (· rfl))
      unfold Halt
      refine ld_at (by rfl) 61 (.tmp 9) rfl b9 rfl 61 (rtC op onet ova) (0, 0) _ Q9.out Tryz.underlying61 rfl sz_rt ?_
      go_wp2_with fail
      refine CL.out.mono ?_
      rintro e w2 ⟨u, rfl, fr, hb2⟩
      have FR := Lib.hid fr
      have B2 := Lib.hid (below_on B1.out hb2)
      have RZ2 := Lib.hid ((hb2.block _ (row_lt RZ1.out)).trans RZ1.out)
      have LT : Hid (pb + 1 < w1.heap.size) := Lib.hid (row_lt RZ1.out)
      clear fr hb2 CL
      go_wp2_with ((with_reducible refine halt_at (X := .store 61 (.tmp 6) (.tmp 30)) ?_ ?_); (· rfl))
      unfold Halt
      refine st_row rfl 61 _ _ rfl (pb + 1) rfl 61 (rtC 0 (0, 0) av0) (rtC op onet u) rfl RZ2.out (by kernel_rfl) rfl (rt_one _ _ _) ?_
      have HK := Lib.hid (kept_setRow (w := w2) (F := fun k => k = pb + 1) (pb + 1) (rtC op onet u) rfl)
      have FU : Hid (Fresh W.heap.size (w2.setRow (pb + 1) (rtC op onet u)) (fun W => AvU W b.a u)) := Lib.hid ((FR.out.kept HK.out (fun k _ hl e => by have := LT.out; omega)).wide (fun k hk _ => by have := LT.out; have := PB.out; omega))
      go_wp2_with fail
      refine bodyPost_ret (results_BestOf _ _ (pb + 1) (rtC op onet u) rfl true ?_ ?_ (setRow_heap _ _ _ _ _ _ RZ2.out)) rfl (.inr ⟨op, b.a, u, BS.out, rfl, GA.out, FU.out, below_setRow B2.out (by have := PB.out; omega) _⟩) <;> rfl
end
end Go.Proofs.YtkoidahgbbabiaaGreat
/-
  THE SERVER: routes in a row of one's own, with the blocks on which they hang; sorted by their prefixes.
-/
namespace Go.Proofs.YtkoidahgbbabiaaGreat
open Go.RowKit
section
variable {α : Type} {T : TypeId} {k : Nat} {C : α → List Value} {M : α → World → Prop}
structure OwnR (T : TypeId) (k : Nat) (C : α → List Value) (M : α → World → Prop) (w : World) (B : Nat) (v : Value) (xs : List α) (A : Nat → Prop) : Prop where
  own : w.ownsRow B T k v xs.length (xs.flatMap C)
  mem : On A w (fun W => ∀ x ∈ xs, M x W)
  lt : ∀ k, A k → B ≤ k ∧ k < w.heap.size
  apt : ∀ g, v.ownBlock = some g → ¬ A g
variable {w w1 w2 w3 : World} {B : Nat} {v : Value} {xs : List α} {A : Nat → Prop}
theorem OwnR.below (h : OwnR T k C M w B v xs A) (hb : Below w.heap.size w w1) : OwnR T k C M w1 B v xs A :=
  ⟨own_below h.own hb, h.mem.below hb, fun k hk => ⟨(h.lt k hk).1, Nat.lt_of_lt_of_le (h.lt k hk).2 hb.size⟩, h.apt⟩
theorem OwnR.kept {G : Nat → Prop} (h : OwnR T k C M w B v xs A) (hk : Kept G w w1) (h1 : ∀ g, v.ownBlock = some g → ¬ G g) (h2 : ∀ g, A g → ¬ G g) : OwnR T k C M w1 B v xs A :=
  ⟨((own_on h.own).kept hk fun g _ hg => h1 g hg).self, h.mem.kept hk fun g _ hg => h2 g hg, fun k hk' => ⟨(h.lt k hk').1, Nat.lt_of_lt_of_le (h.lt k hk').2 hk.size⟩, h.apt⟩
theorem OwnR.nil (w : World) (B : Nat) : OwnR T k C M w B (.slice none 0 0) [] (fun _ => False) :=
  ⟨⟨by simp, .inl ⟨rfl, rfl⟩⟩, fun _ _ x hx => (by cases hx), fun _ h => h.elim, fun _ h => (by cases h)⟩
theorem OwnR.base {B' : Nat} (h : OwnR T k C M w B v xs A) (hb : B' ≤ B) : OwnR T k C M w B' v xs A := ⟨own_base h.own hb, h.mem, fun k hk => ⟨Nat.le_trans hb (h.lt k hk).1, (h.lt k hk).2⟩, h.apt⟩
theorem OwnR.fresh (hC : ∀ x, (C x).length = k) (h : OwnR T k C M w B v xs A) : Fresh B w (fun W => SlAt W k (fun x cs => cs = C x) v xs ∧ ∀ x ∈ xs, M x W) :=
  ((own_fresh h.own).imp fun _ hW => own_slat hC hW).and (h.mem.wide fun k hk _ => (h.lt k hk).1)
theorem OwnR.step (h : OwnR T k C M w B v xs A) {x : α} {v' : Value} {lo : Nat} (b01 : Below w.heap.size w w1) (hlo : w.heap.size ≤ lo) (hB : B ≤ w.heap.size) (fr : Fresh lo w1 (M x)) (b12 : Below w1.heap.size w1 w2)
    (h2 : w3.ownsRow B T k v' (xs.length + 1) (xs.flatMap C ++ C x)) (hk : Kept (fun b => v.ownBlock = some b) w2 w3) (hat : v'.ownBlock = v.ownBlock ∨ v'.ownBlock = some w2.heap.size) : OwnR T k C M w3 B v' (xs ++ [x]) (fun k => A k ∨ (lo ≤ k ∧ k < w1.heap.size)) := by
  have ol := own_lt h.own
  have s1 := b01.size
  have s2 := b12.size
  have s3 := hk.size
  refine ⟨?_, ?_, ?_, ?_⟩
  · rw [List.length_append, List.flatMap_append]
    simpa using h2
  · have m1 := ((h.mem.below (b01.trans (b12.mono s1))).kept hk fun k _ hA hg => h.apt k hg hA)
    refine ((m1.wide (G := fun k => A k ∨ (lo ≤ k ∧ k < w1.heap.size)) fun k hA _ => .inl hA).and (R := M x) ?_).imp fun W h y hy => ?_
    · intro W hW
      refine fr W fun k hk' hl => ?_
      have e1 := hW k (.inr ⟨hk', hl⟩) (by omega)
      exact e1.trans ((hk.block k (by omega) (fun hg => by have := ol k hg; omega)).trans (b12.block k hl))
    · rcases List.mem_append.1 hy with hy | hy
      · exact h.1 y hy
      · simp at hy; subst hy; exact h.2
  · rintro k (hk' | hk')
    · have := h.lt k hk'; omega
    · omega
  · rintro g hg (hA | hA)
    · rcases hat with e | e
      · rw [e] at hg; exact h.apt g hg hA
      · rw [e] at hg; injection hg with hg; have := (h.lt g hA).2; omega
    · rcases hat with e | e
      · rw [e] at hg; have := ol g hg; omega
      · rw [e] at hg; injection hg with hg; omega
end
structure BE where
  peer : Int
  p : Pf
  a : At
  v : AV
instance : Inhabited BE := ⟨⟨0, (0, 0), ⟨0, 0, [], 0, 0, 0, 0, 0, [], []⟩, av0⟩⟩
def beL (x : BE) : List Value := (rtC x.peer x.p x.v).toList
theorem beL_len (x : BE) : (beL x).length = 13 := rfl
theorem beL_one (x : BE) : ∀ u ∈ beL x, u.oneCell' = true := by
  intro u hu
  have := rt_one x.peer x.p x.v
  rw [Array.all_eq_true_iff_forall_mem] at this
  exact this u (by simpa [beL] using hu)
abbrev OwnBs := OwnR 61 13 beL (fun x W => AvU W x.a x.v)
def becmp (x y : BE) : Int := pcmp x.p y.p
theorem ltOf_be (x y : BE) : Go.Proofs.ltOf becmp x y = decide (plt x.p y.p) := ltOf_pcmp x.p y.p
theorem swo_be : Sort.SWO (Go.Proofs.ltOf becmp) where
  irrefl x := swo_pcmp.irrefl x.p
  trans x y z := swo_pcmp.trans x.p y.p z.p
  ntrans x y z := swo_pcmp.ntrans x.p y.p z.p
set_option maxHeartbeats 1600000 in
set_option maxRecDepth 100000 in
theorem be_cmp (x y : BE) (w : World) : Calls Tryz.prog 69 #[.agg (beL x).toArray, .agg (beL y).toArray] w fun e w' => e = .returned (.int .i64 (becmp x y)) ∧ Dr w w' := by
  show Calls Tryz.prog 69 #[.agg (rtC x.peer x.p x.v), .agg (rtC y.peer y.p y.v)] w fun e w' => e = .returned (.int .i64 (pcmp x.p y.p)) ∧ Dr w w'
  have CP := Lib.hid (fun W => ip_CmpD x.p.1 x.p.2 y.p.1 y.p.2 W)
  go_enter Tryz.func69, Tryz.ntmps69
  go_upto_region 1 with (fail)
  obtain ⟨W0, hW0, q0, q1, -⟩ := boxTwo w (rtC x.peer x.p x.v) 61 (rtC y.peer y.p y.v) 61
  have D : Hid (Dr w W0) := Lib.hid (by rw [hW0]; exact ((Dr.refl w).alloc _).alloc _)
  rw [← hW0]
  clear hW0
  have c0 : W0.cell? ⟨w.heap.size, 1, none⟩ = some (.int .u32 x.p.1) := row_cell q0 1
  have c1 : W0.cell? ⟨w.heap.size, 2, none⟩ = some (.int .i64 x.p.2) := row_cell q0 2
  have c2 : W0.cell? ⟨w.heap.size + 1, 1, none⟩ = some (.int .u32 y.p.1) := row_cell q1 1
  have c3 : W0.cell? ⟨w.heap.size + 1, 2, none⟩ = some (.int .i64 y.p.2) := row_cell q1 2
  clear q0 q1
  go_wp2_with fail
  refine (CP.out W0).mono ?_
  rintro e w1 ⟨rfl, hd⟩
  have D1 := Lib.hid (D.out.on hd)
  clear hd CP D
  go_wp2_with fail
  go_ret
  exact ⟨rfl, D1.out⟩
theorem cmp_laysB (blk off size : Nat) (w : World) : CmpLays Tryz.prog 69 #[] beL 13 becmp blk off size w := by
  intro m os dk _ x y
  exact (be_cmp x y _).mono fun e w' ⟨he, hd⟩ => ⟨he, hd.grow⟩
theorem flatK_be (xs : List BE) : Sort.flatK beL 13 xs.toArray = (xs.flatMap beL).toArray := by
  apply Sort.ext_get!
  · rw [Sort.size_flatK]
    simp [flat_len beL_len]
  · intro t ht
    rw [Sort.size_flatK] at ht
    have ht' : t < xs.length * 13 := by simpa using ht
    rw [Sort.get_flatK _ _ _ _ ht]
    have hi : t / 13 < xs.length := by omega
    have hf := flat_get beL_len xs (t / 13) _ (List.getElem?_eq_getElem hi) (t % 13) (by omega)
    rw [show t / 13 * 13 + t % 13 = t by omega] at hf
    have h1 : xs.toArray[t / 13]! = xs[t / 13] := by simp [hi]
    rw [h1]
    have hl : (xs.flatMap beL).length = xs.length * 13 := flat_len beL_len xs
    have hm : t % 13 < (beL xs[t / 13]).length := by rw [beL_len]; omega
    rw [List.getElem?_eq_getElem hm, List.getElem?_eq_getElem (by rw [hl]; exact ht')] at hf
    have hf := Option.some.inj hf
    rw [getElem!_pos (xs.flatMap beL).toArray t (by simpa [hl] using ht'), getElem!_pos (beL xs[t / 13]) (t % 13) hm]
    simpa using hf.symm
theorem isAgg_rt : ∀ w, (isAgg 61).run Tryz.prog w = .ok true w := Tryz.isAgg61
theorem sizeOf_rt : ∀ w, (Go.sizeOf 61).run Tryz.prog w = .ok 13 w := Tryz.sizeOf61
theorem own_cur {w : World} {B k n : Nat} {e : TypeId} {v : Value} {xs : List Value} (h : w.ownsRow B e k v n xs) : (v = .slice none 0 0 ∧ n = 0) ∨ ∃ g c cur, v = .slice (some ⟨g, 0, none⟩) n c ∧ w.heap[g]? = some (.cells cur e (0, 0)) ∧ cur.size = c * k ∧ cur.toList.take (n * k) = xs ∧ n ≤ c := by
  obtain ⟨_, ⟨rfl, h0⟩ | ⟨g, cap, cur, rfl, _, hg, hn, _, hs, hc⟩⟩ := h
  · exact .inl ⟨rfl, h0⟩
  · exact .inr ⟨g, cap, cur, rfl, hg, hs, hc, hn⟩
theorem be_Sort (lo : Nat) (v : Value) (L : List BE) (w : World) (h : w.ownsRow lo 61 13 v L.length (L.flatMap beL)) (hn : L.length ≤ 8589934592) :
    Calls Tryz.prog 68 #[v, .func (.func 69) #[] #[]] w fun e w' => ∃ L' : List BE, e = .returned (.tuple #[]) ∧ L'.Perm L ∧ L'.Pairwise (fun x y => ¬ plt y.p x.p) ∧ w'.ownsRow lo 61 13 v L'.length (L'.flatMap beL) ∧ Kept (fun b => v.ownBlock = some b) w w' := by
  rcases own_cur h with ⟨rfl, h0⟩ | ⟨g, c, cur, rfl, hg, hsz, htk, hnc⟩
  · obtain rfl := List.length_eq_zero_iff.1 h0
    refine (AnyF.slices_SortFunc_none Tryz.sortR none 0 _ w).mono ?_
    rintro e w' ⟨rfl, rfl⟩
    exact ⟨[], rfl, List.Perm.refl _, List.Pairwise.nil, h, Kept.refl _ _⟩
  · have eg : ∀ args w, (callFunc 69 args).run Tryz.prog w = .ok (.enter 69 args) w := enters_of Tryz.func69 (by kernel_rfl) rfl
    have hH : Sort.HoldsK beL 13 w g 0 L.toArray := by
      unfold Sort.HoldsK
      rw [flatK_be]
      intro j hj
      rw [List.size_toArray, flat_len beL_len] at hj
      have hl : (L.flatMap beL)[j]? = cur[j]? := by
        rw [← htk, List.getElem?_take_of_lt hj, Array.getElem?_toList]
      rw [Nat.zero_add]
      refine ⟨?_, row_free hg j⟩
      rw [row_cell hg, ← hl, List.getElem?_eq_getElem (by rw [flat_len beL_len]; exact hj)]
      rw [getElem!_pos _ _ (by simpa [flat_len beL_len] using hj)]
      simp
    have hcon := AnyQ.slices_SortFunc Tryz.sortR 13 isAgg_rt sizeOf_rt beL beL_len beL_one becmp swo_be 69 #[] g 0 c L.toArray w eg (cmp_laysB g 0 L.toArray.size w) hH (row_lt hg) (by simp; omega)
    rw [List.size_toArray] at hcon
    refine hcon.mono ?_
    rintro e w' ⟨rfl, d', n, os, ⟨hp1, -, hp3⟩, hso, rfl⟩
    have hlen : d'.size = L.length := by rw [hp1]; simp
    have hperm : d'.toList.Perm L := by
      have e1 : d'.extract 0 L.length = d' := by rw [← hlen]; simp
      have e2 : L.toArray.extract 0 L.length = L.toArray := by simp
      rw [e1, e2] at hp3
      simpa using hp3
    have hsort : d'.toList.Pairwise (fun x y => ¬ plt y.p x.p) := by
      rw [List.pairwise_iff_getElem]
      intro i j hi hj hij
      have := hso i j (Nat.zero_le _) hij (by simpa [hlen] using hj)
      rw [ltOf_be] at this
      simp only [Array.length_toList] at hi hj
      rw [getElem!_pos d' j hj, getElem!_pos d' i hi] at this
      simpa using this
    have hl3 : d'.toList.length = L.length := Array.length_toList.trans hlen
    have hp := own_put h (ys := d'.toList.flatMap beL) (by rw [flat_len beL_len, hl3]) n os
    refine ⟨d'.toList, rfl, hperm, hsort, ?_, ?_⟩
    · rw [hl3]
      unfold Go.Proofs.sortWorldK Sort.putRowK
      have : Sort.flatK beL 13 d' = (d'.toList.flatMap beL).toArray := by rw [← flatK_be]
      rw [this]
      exact hp.1
    · unfold Go.Proofs.sortWorldK Sort.putRowK
      have : Sort.flatK beL 13 d' = (d'.toList.flatMap beL).toArray := by rw [← flatK_be]
      rw [this]
      exact hp.2.imp fun b hb => by rw [hb]; rfl
end Go.Proofs.YtkoidahgbbabiaaGreat
/-
  THE SERVER: all of a receiver's best routes, in order.
-/
namespace Go.Proofs.YtkoidahgbbabiaaGreat
open Go.RowKit
theorem info_rtB : (Tryz.prog.info? 61).map (fun i => (i.zero, i.size, i.bytes)) = some (some (.agg #[.int .i64 0, .int .u32 0, .int .i64 0, .int .i64 0, .int .i64 0, .slice none 0 0, .int .u32 0, .int .i64 0, .int .i64 0, .int .i64 0, .int .u32 0, .slice none 0 0, .slice none 0 0]), 13, 152) := by kernel_rfl
theorem wpList_rt1 {ops : Array Oper} {rest : List Oper} {o : Oper} {a : Act} {w : World} {Q : Exit → Act → World → Prop} (x : Operand) (hg : o.guard = none) (ho : o.op = .buildSlice 57 1 #[(0, x)]) (peer : Int) (p : Pf) (v : AV) (hx : a.eval x = .agg (rtC peer p v))
    (h : ∀ w2 : World, (∀ (j : Nat) (u : Value), ((rtC peer p v).toList)[j]? = some u → w2.cell? ((⟨w.heap.size, 0, none⟩ : Addr).add j) = some u) → Below w.heap.size w w2 → w2.heap.size = w.heap.size + 1 → wpList Tryz.prog ops Q rest (a.put o.dst (.slice (some ⟨w.heap.size, 0, none⟩) 1 1)) w2) : wpList Tryz.prog ops Q (o :: rest) a w := by
  obtain ⟨i0, hii, hz0, hz1, hz2⟩ := info_parts info_rtB
  refine wpList_buildSlice hg 57 61 1 _ ho (rtC peer p v) i0 _ Tryz.underlying57 hii hz0 (by rw [hz1]; decide) (by rw [hz1]; decide) ?_ (h _ (new_cells w _ _) ((Below.refl _ _).alloc (Nat.le_refl _) _) (by simp))
  rw [hz1]
  simp only [List.map_toArray, List.map_cons, List.map_nil, hx]
  kernel_rfl
def BestsPost (best : Pf → Option (Int × At)) (W : World) (e : Ending) (w' : World) : Prop :=
  ∃ (s : Option Addr) (c : Nat) (L : List BE) (A : Nat → Prop), e = .returned (.slice s L.length c) ∧ OwnBs w' W.heap.size (.slice s L.length c) L A ∧ (L.map (·.p)).Pairwise plt ∧ (∀ x ∈ L, best x.p = some (x.peer, x.a) ∧ RgtP x.p ∧ GoodA x.a) ∧ (∀ p b, best p = some b → p ∈ L.map (·.p)) ∧ Below W.heap.size W w'
section
variable {W : World} {rho : Nat → Role} {sb fb : Nat} {ls : List Pl} {S : Sv}
set_option maxHeartbeats 6400000 in
set_option maxRecDepth 100000 in
theorem sv_Bests (h : SrvM W rho sb fb ls S) {i : Nat} {m : Pm} (hm : S.ms[i]? = some m) : Calls Tryz.prog 25 #[.pointer (some ⟨sb, 0, none⟩), .int .i64 i] W (BestsPost (S.best i) W) := by
  obtain ⟨l, hl, hM⟩ := h.get hm
  have MB := Lib.hid (sv_member h hl)
  have m4 : W.cell? ⟨l.mb, 4, none⟩ = some (.map (some l.bb)) := row_cell hM.row 4
  obtain ⟨N, hN⟩ := hM.bests
  obtain ⟨w3, hr, hR, hB, hz⟩ := hN.map.range Tryz.underlying64
  obtain ⟨rb, hrb⟩ : ∃ rb, rb = W.heap.size := ⟨_, rfl⟩
  rw [← hrb] at hr hR
  have RBW : Hid (W.heap.size ≤ rb) := Lib.hid (by omega)
  have HR := Lib.hid hR
  have HN := Lib.hid hN
  have FEW := Lib.hid (rgt_few hN.map.apart fun x hx => (hN.val x hx).2.1)
  have LBB : Hid (l.bb < W.heap.size) := Lib.hid hN.map.lt
  have B0 := Lib.hid hB
  have O0 : Hid (OwnBs w3 W.heap.size (.slice none 0 0) [] (fun _ => False)) := Lib.hid (OwnR.nil w3 W.heap.size)
  obtain ⟨i0, hii, hz0, hz1, hz2⟩ := info_parts info_rtB
  clear h hm hl hM hN hR hB hz hrb
  go_enter Tryz.func25, Tryz.ntmps25
  go_wp2_with fail
  refine MB.out.mono ?_
  rintro e w1 ⟨rfl, rfl⟩
  go_wp2_with fail
  clear hr m4
  go_loopw [6] (fun t6 wr => ∃ (left : List (Pf × BV)) (s : Option Addr) (c : Nat) (xs : List BE) (A : Nat → Prop), t6 = .slice s xs.length c ∧ Hid ((xs.map (·.p) ++ left.map (·.1)).Perm (N.map (·.1))) ∧ Hid (OwnBs wr W.heap.size (.slice s xs.length c) xs A) ∧ Hid (∀ x ∈ xs, S.best i x.p = some (x.peer, x.a) ∧ RgtP x.p ∧ GoodA x.a) ∧ Hid (Below W.heap.size W wr) ∧ Hid (RangeT pfV bvV KOk wr l.bb rb N left) ∧ Hid (∀ g, (Value.slice s xs.length c).ownBlock = some g → g ≠ rb) ∧ Hid (∀ k, A k → k ≠ rb)) (fun _ wr => wr.rangeLeft l.bb rb)
  case atStart => exact ⟨N, none, 0, [], _, rfl, Lib.hid (List.Perm.refl _), O0, Lib.hid (fun x hx => by cases hx), B0, HR, Lib.hid (fun g hg => by cases hg), Lib.hid (fun k hk => hk.elim)⟩
  case round =>
    clear B0 HR O0
    obtain ⟨left, s, c, xs, A, rfl, PM, OP, XV, BV, RT, NE, NEA⟩ := hrel
    have XL : Hid (xs.length ≤ 2 ^ 33) := Lib.hid (by
      have h1 := PM.out.length_eq
      have h2 := FEW.out
      simp at h1
      omega)
    rcases RT.out.next (P := Tryz.prog) 0 with ⟨rfl, hn⟩ | ⟨k, q, w4, hi, hq, hn, hR1, hk1, hz1, hen⟩
    · have hn' : ∀ ty, (Instr.next (.pointer (some ⟨rb, 0, none⟩)) false ty).run Tryz.prog wr = .ok (.tuple #[.bool false]) wr := fun _ => hn
      clear hn
      have XP : Hid ((xs.map (·.p)).Perm (N.map (·.1))) := Lib.hid (by have := PM.out; simpa using this)
      have SO := Lib.hid (be_Sort W.heap.size (.slice s xs.length c) xs wr OP.out.own (by have := XL.out; omega))
      clear RT PM NE
      go_wp2_with fail
      refine SO.out.mono ?_
      rintro e w5 ⟨ys, rfl, yp, ys1, yo, yk⟩
      have yl := yp.length_eq
      have FIN : Hid (BestsPost (S.best i) W (.returned (.slice s xs.length c)) w5) := Lib.hid (by
        refine ⟨s, c, ys, A, by rw [yl], ⟨?_, ?_, ?_, ?_⟩, ?_, fun x hx => XV.out x (yp.mem_iff.1 hx), fun p b hb => ?_, ?_⟩
        · rw [yl]; rw [yl] at yo; exact yo
        · exact (OP.out.mem.kept yk fun g _ hA hg => OP.out.apt g hg hA).imp fun V hV x hx => hV x (yp.mem_iff.1 hx)
        · exact fun k hk => ⟨(OP.out.lt k hk).1, Nat.lt_of_lt_of_le (OP.out.lt k hk).2 yk.size⟩
        · rw [yl]; exact OP.out.apt
        · refine srt_strict ?_ ?_
          · rw [List.pairwise_map]; exact ys1
          · exact ((yp.map (·.p)).nodup_iff).2 ((XP.out.nodup_iff).2 (keysU_nodup HN.out.map.apart))
        · have h1 : (getL N p).isSome = true := by
            have := HN.out.get p
            rw [hb] at this
            cases hg : getL N p with
            | none => rw [hg] at this; cases this
            | some x => rfl
          have h2 := (keysU_mem HN.out.map.apart p).2 h1
          exact ((yp.map (·.p)).mem_iff).2 (XP.out.mem_iff.2 h2)
        · exact BV.out.trans (yk.below BV.out.size fun g hg => own_form_le OP.out.own g hg))
      clear yp ys1 yo yk yl SO
      go_wp2_with fail
      go_ret
      exact FIN.out
    · have hrl := Lib.hid RT.out.left_eq
      have hle : Hid ((left.eraseIdx k).length + 1 = left.length) := Lib.hid (by
        have := (List.getElem?_eq_some_iff.1 hi).1
        rw [List.length_eraseIdx_of_lt this]; omega)
      have PM2 : Hid (((xs.map (·.p) ++ [q.1]) ++ (left.eraseIdx k).map (·.1)).Perm (N.map (·.1))) := Lib.hid (by
        refine List.Perm.trans ?_ PM.out
        rw [List.append_assoc]
        exact List.Perm.append_left _ (by simpa using (erase_perm hi).map Prod.fst))
      have VL := Lib.hid (HN.out.val q hq)
      have QB : Hid (S.best i q.1 = some (q.2.peer, q.2.a)) := Lib.hid (by rw [← HN.out.get q.1, getL_of_mem HN.out.map.apart (a := q.1) (v := q.2) hq]; rfl)
      have BV4 : Hid (Below W.heap.size W w4) := Lib.hid (BV.out.trans (hk1.below BV.out.size (by rintro k rfl; exact RBW.out)))
      have O4 := Lib.hid (OP.out.kept hk1 (fun g hg e => NE.out g hg e) (fun k hA e => NEA.out k hA e))
      have RT4 := Lib.hid hR1
      have XL2 : Hid (xs.length + 1 ≤ 2 ^ 33) := Lib.hid (by
        have h1 := PM2.out.length_eq
        have h2 := FEW.out
        simp at h1
        omega)
      clear hi hq hk1 hz1 BV OP PM hR1 XL RT
      obtain ⟨⟨p1, p2⟩, ⟨bp, bn, ba, bav⟩⟩ := q
      obtain rfl : bn = (p1, p2) := VL.out.1
      have AV0 := Lib.hid ((VL.out.2.2.2.below BV4.out).self.at)
      have hn' : ∀ ty, (Instr.next (.pointer (some ⟨rb, 0, none⟩)) false ty).run Tryz.prog wr = .ok (.tuple #[.bool true, .agg #[.int .u32 p1, .int .i64 p2], .agg (rtC bp (p1, p2) bav)]) w4 := fun _ => hn
      have he' : (Instr.entry (.pointer (some ⟨rb, 0, none⟩))).run Tryz.prog w4 = .ok (.tuple #[.agg #[.int .u32 p1, .int .i64 p2], .agg (rtC bp (p1, p2) bav)]) w4 := hen
      clear hn hen
      go_upto_region 7 with (fail)
      clear hn'
      go_wp2_with ((with_reducible refine halt_at (X := .store 61 (.tmp 8) (.tmp 22)) ?_ ?_); (· rfl))
      unfold Halt
      refine st_fresh rfl 61 (.tmp 8) (.tmp 22) rfl rfl _ (rtC bp (p1, p2) bav) rfl sz_rt rfl (rt_one _ _ _) ?_
      obtain ⟨w5, hw5, q5, hb5, -⟩ := box1 w4 (rtC bp (p1, p2) bav) 61
      rw [← hw5]
      obtain ⟨b8, hb8⟩ : ∃ b, b = w4.heap.size := ⟨_, rfl⟩
      rw [← hb8] at q5 ⊢
      have Q5 := Lib.hid q5
      have BV5 := Lib.hid (below_on BV4.out hb5)
      have O5 := Lib.hid (O4.out.below hb5)
      have RT5 := Lib.hid (RT4.out.below hb5)
      have CL := Lib.hid (sv_clone bp (p1, p2) ba bav w5 (AV0.out.below hb5) VL.out.2.2.1.sz)
      clear hw5 q5 hb5 hb8 he' O4 RT4 BV4 AV0
      simp only [Act.put]
      go_wp2_with ((with_reducible refine halt_at (X := .load 61 (.tmp 8)) ?_ ?_); (· rfl))
      unfold Halt
      refine ld_at (by rfl) 61 (.tmp 8) rfl b8 rfl 61 (rtC bp (p1, p2) bav) (0, 0) _ Q5.out Tryz.underlying61 rfl sz_rt ?_
      go_wp2_with fail
      refine CL.out.mono ?_
      rintro e w6 ⟨u, rfl, fr, hb6⟩
      have FR := Lib.hid fr
      have B6 := Lib.hid hb6
      have RT6 := Lib.hid (RT5.out.below hb6)
      have BV6 := Lib.hid (below_on BV5.out hb6)
      clear fr hb6 CL
      go_wp2_with ((with_reducible refine wpList_rt1 (.tmp 25) rfl ?_ bp (p1, p2) u ?_ ?_); (· rfl); (· rfl))
      intro w7 hc7 hb7 hz7
      have O7 := Lib.hid ((O5.out.below B6.out).below hb7)
      have B7 := Lib.hid hb7
      have RT7 := Lib.hid (RT6.out.below hb7)
      have BV7 := Lib.hid (below_on BV6.out hb7)
      have HZ7 := Lib.hid hz7
      have RBL : Hid (rb < w7.heap.size) := Lib.hid RT7.out.lt
      have RB5 : Hid (rb < w5.heap.size) := Lib.hid RT5.out.lt
      clear hb7 hz7 RT6
      refine wpList_append_own_at _ rfl (.tmp 23) (.tmp 26) 57 rfl W.heap.size 61 i0 _ 13 152 Tryz.underlying57 hii hz0 hz1 hz2 rfl (by decide) (.slice s xs.length c) xs.length (xs.flatMap beL) rfl O7.out.own ⟨w6.heap.size, 0, none⟩ 1 1 (rtC bp (p1, p2) u).toList rfl rfl (fun j y hy => by have h := hc7 j y hy; unfold Addr.add; split; (· rename_i e; subst e; exact h); (· simpa using h)) (beL_one ⟨bp, (p1, p2), ba, u⟩) (by have := XL2.out; unfold maxLen; omega) (by have := XL2.out; omega) BV7.out.size ?_
      intro v8 w8 h2 h3 _ hat
      obtain ⟨s8, c8, hv8, -⟩ := own_form h2
      subst hv8
      have OX := Lib.hid (O5.out.step (x := ⟨bp, (p1, p2), ba, u⟩) B6.out (Nat.le_refl _) BV5.out.size FR.out B7.out h2 (kept_gr h3) hat)
      have ol := own_lt O5.out.own
      have RT8 := Lib.hid (RT7.out.kept (kept_gr h3) (fun e => by have h1 := own_form_le O7.out.own _ e; have := LBB.out; omega) (fun e => NE.out _ e rfl))
      have BV8 := Lib.hid (BV7.out.trans ((kept_gr h3).below BV7.out.size fun g hg => own_form_le O7.out.own g hg))
      have NE8 : Hid (∀ g, (Value.slice s8 (xs.length + 1) c8).ownBlock = some g → g ≠ rb) := Lib.hid (fun g hg e => by
        rcases hat with h | h
        · rw [h] at hg; exact NE.out g hg e
        · rw [h] at hg; injection hg with hg
          have := RBL.out; omega)
      have NEA8 : Hid (∀ k, (A k ∨ (w5.heap.size ≤ k ∧ k < w6.heap.size)) → k ≠ rb) := Lib.hid (fun k hk e => by
        rcases hk with hk | hk
        · exact NEA.out k hk e
        · have := RB5.out; omega)
      have XV8 : Hid (∀ x ∈ xs ++ [⟨bp, (p1, p2), ba, u⟩], S.best i x.p = some (x.peer, x.a) ∧ RgtP x.p ∧ GoodA x.a) := Lib.hid (fun x hx => by
        rcases List.mem_append.1 hx with hx | hx
        · exact XV.out x hx
        · simp at hx; subst hx; exact ⟨QB.out, VL.out.2.1, VL.out.2.2.1⟩)
      have PM8 : Hid (((xs ++ [⟨bp, (p1, p2), ba, u⟩] : List BE).map (·.p) ++ (left.eraseIdx k).map (·.1)).Perm (N.map (·.1))) := Lib.hid (by rw [List.map_append]; exact PM2.out)
      have RL : Hid (w8.rangeLeft l.bb rb < wr.rangeLeft l.bb rb) := Lib.hid (by rw [RT8.out.left_eq, hrl.out]; have := hle.out; omega)
      have EL : Hid (xs.length + 1 = (xs ++ [(⟨bp, (p1, p2), ba, u⟩ : BE)]).length) := Lib.hid (by simp)
      rw [EL.out] at OX NE8
      clear h2 h3 hat hc7 ol O7 RT7 BV7 O5 RT5 BV5 FR
      rw [EL.out]
      go_wp2_with fail
      exact ⟨⟨left.eraseIdx k, s8, c8, xs ++ [⟨bp, (p1, p2), ba, u⟩], _, by rw [EL.out], PM8, OX, XV8, BV8, RT8, NE8, NEA8⟩, RL.out⟩
end
end Go.Proofs.YtkoidahgbbabiaaGreat
/-
  THE SERVER, MADE: participants as they are handed in; what there is of a server under way.
-/
namespace Go.Proofs.YtkoidahgbbabiaaGreat
open Go.RowKit
abbrev Sd := Int × Nat
def sdL (x : Sd) : List Value := [.int .i64 x.1, .int .u32 x.2]
def SdC (x : Sd) (cs : List Value) : Prop := cs = sdL x ∧ x.2 < 4294967296 ∧ I64r x.1
abbrev SdsAt (W : World) (v : Value) (xs : List Sd) : Prop := SlAt W 2 SdC v xs
def sysB (n : Int) : Bool := decide (1 ≤ n ∧ n ≤ 65535)
def sdB (x : Sd) : Bool := sysB x.1 && !(x.2 == 0)
def newCd (own : Int) (xs : List Sd) : Int := if sysB own = false ∨ xs.length = 0 then 1 else if 16 < xs.length then 3 else if xs.all sdB then 0 else 1
def pmOf (x : Sd) : Pm := ⟨x.1, x.2, false, [], fun _ => false⟩
def newSv (own most : Int) (xs : List Sd) : Sv := ⟨own, min (max most 0) 256, fun _ => false, xs.map pmOf, fun _ _ => none⟩
set_option maxRecDepth 100000 in
theorem sv_system (n : Int) (w : World) : Calls Tryz.prog 56 #[.int .i64 n] w fun e w' => e = .returned (.bool (sysB n)) ∧ w = w' := by
  by_cases h1 : 1 ≤ n
  · by_cases h2 : n ≤ 65535
    · have e : sysB n = true := by unfold sysB; simp [h1, h2]
      have d1 : decide (n ≥ 1) = true := by simpa using h1
      have d2 : decide (n ≤ 65535) = true := by simpa using h2
      rw [e]
      clear e h1 h2
      go_enter Tryz.func56, Tryz.ntmps56
      go_wp2_with fail
      go_ret
      exact ⟨rfl, rfl⟩
    · have e : sysB n = false := by unfold sysB; simp [h2]
      have d1 : decide (n ≥ 1) = true := by simpa using h1
      have d2 : decide (n ≤ 65535) = false := by simpa using h2
      rw [e]
      clear e h1 h2
      go_enter Tryz.func56, Tryz.ntmps56
      go_wp2_with fail
      go_ret
      exact ⟨rfl, rfl⟩
  · have e : sysB n = false := by unfold sysB; simp [h1]
    have d1 : decide (n ≥ 1) = false := by simpa using h1
    rw [e]
    clear e h1
    go_enter Tryz.func56, Tryz.ntmps56
    go_wp2_with fail
    go_ret
    exact ⟨rfl, rfl⟩
def plC (l : Pl) : List Value := [.pointer (some ⟨l.mb, 0, none⟩)]
structure NewAt (w0 W : World) (sb fb : Nat) (own most : Int) (xs : List Sd) (k : Nat) (s : Option Addr) (c : Nat) (ls : List Pl) (rho : Nat → Role) : Prop where
  top : W.heap[sb]? = some (.cells #[.slice s k c, .pointer (some ⟨fb, 0, none⟩)] 125 (0, 0))
  row : W.ownsRow w0.heap.size 126 1 (.slice s k c) k (ls.flatMap plC)
  fil : FilAt W fb own (fun _ => false)
  mem : ∀ (i : Nat) l x, ls[i]? = some l → xs[i]? = some x → PmAt W rho own most i (pmOf x) (fun _ => none) l
  len : ls.length = k
  low : ∀ j, rho j ≠ .no → w0.heap.size ≤ j ∧ j < W.heap.size
  nfb : rho fb = .no
  nsb : rho sb = .no
  fs : fb ≠ sb
  srow : ∀ g, (Value.slice s k c).ownBlock = some g → rho g = .no ∧ g ≠ sb ∧ g ≠ fb
  gsb : w0.heap.size ≤ sb
  gfb : w0.heap.size ≤ fb
  bel : Below w0.heap.size w0 W
noncomputable def newRho (rho : Nat → Role) (W : World) (i lo hi bb nb mb : Nat) (k : Nat) : Role := by
  classical exact if k < W.heap.size then rho k else if lo ≤ k ∧ k < hi then .rib i else if k = bb then .best i else if k = nb then .news i else if k = mb then .mem i else .no
theorem NewAt.below {w0 W W' : World} {sb fb : Nat} {own most : Int} {xs : List Sd} {k : Nat} {s : Option Addr} {c : Nat} {ls : List Pl} {rho : Nat → Role} (h : NewAt w0 W sb fb own most xs k s c ls rho) (hb : Below W.heap.size W W') : NewAt w0 W' sb fb own most xs k s c ls rho :=
  ⟨(hb.block _ (row_lt h.top)).trans h.top, own_below h.row hb, h.fil.below hb, fun i l x hl hx => (h.mem i l x hl hx).kept (fun _ _ => rfl) (Kept.of_below (F := fun _ => False) hb) fun _ _ _ h => h, h.len, fun j hj => ⟨(h.low j hj).1, Nat.lt_of_lt_of_le (h.low j hj).2 hb.size⟩, h.nfb, h.nsb, h.fs, h.srow, h.gsb, h.gfb, below_on h.bel hb⟩
section
variable {w0 W W4 W5 W6 : World} {sb fb : Nat} {own most : Int} {xs : List Sd} {k : Nat} {s : Option Addr} {c : Nat} {ls : List Pl} {rho : Nat → Role}
theorem NewAt.step (h : NewAt w0 W sb fb own most xs k s c ls rho) {x : Sd} (hx : xs[k]? = some x) (hx1 : 1 ≤ x.1 ∧ x.1 ≤ 65535) (hx2 : 0 < x.2 ∧ x.2 < 4294967296) {rb lo hi bb nb mb : Nat}
    (hrib : RibAt W4 rb k own most [] (fun j => lo ≤ j ∧ j < hi)) (hb : BestT W4 bb []) (hn : NewsT W4 nb []) (hm : W4.heap[mb]? = some (.cells (mbC (pmOf x) ⟨mb, rb, bb, nb⟩) 130 (0, 0)))
    (b04 : Below W.heap.size W W4) (hlo : W.heap.size ≤ lo) (hhi : hi ≤ W4.heap.size) (gbb : W.heap.size ≤ bb) (gnb : W.heap.size ≤ nb) (gmb : W.heap.size ≤ mb)
    (n1 : ¬ (lo ≤ bb ∧ bb < hi)) (n2 : ¬ (lo ≤ nb ∧ nb < hi)) (n3 : ¬ (lo ≤ mb ∧ mb < hi)) (n4 : nb ≠ bb) (n5 : mb ≠ bb) (n6 : mb ≠ nb)
    (b45 : Below W4.heap.size W4 W5) {v' : Value} (hown : W6.ownsRow w0.heap.size 126 1 v' (k + 1) (ls.flatMap plC ++ [.pointer (some ⟨mb, 0, none⟩)]))
    (hg : Kept (fun b => (Value.slice s k c).ownBlock = some b) W5 W6) (hat : v'.ownBlock = (Value.slice s k c).ownBlock ∨ v'.ownBlock = some W5.heap.size) :
    ∃ (s' : Option Addr) (c' : Nat) (rho' : Nat → Role), v' = .slice s' (k + 1) c' ∧ NewAt w0 (W6.setCell ⟨sb, 0, none⟩ v') sb fb own most xs (k + 1) s' c' (ls ++ [⟨mb, rb, bb, nb⟩]) rho' := by
  obtain ⟨s', c', rfl, -⟩ := own_form hown
  have hn7 := hn.lt
  have hb7 := hb.lt
  have hm7 := row_lt hm
  have s4 := b04.size
  have s5 := b45.size
  have s6 := hg.size
  have fbl := h.fil.lt
  have sbl := row_lt h.top
  have ol := own_lt h.row
  -- all but the top's block and the row's is as it was
  have K : Kept (fun b => b = sb ∨ (Value.slice s k c).ownBlock = some b) W4 (W6.setCell ⟨sb, 0, none⟩ (.slice s' (k + 1) c')) :=
    ((Kept.of_below b45).trans (hg.imp fun b hb => .inr hb)).trans (Kept.setCell _ _ (.inl rfl))
  have K0 : Kept (fun b => b = sb ∨ (Value.slice s k c).ownBlock = some b) W (W6.setCell ⟨sb, 0, none⟩ (.slice s' (k + 1) c')) := (Kept.of_below b04).trans K
  have hr : ∀ j, rho j ≠ .no → newRho rho W k lo hi bb nb mb j = rho j := fun j hj => by
    unfold newRho; rw [if_pos (h.low j hj).2]
  have r1 : ∀ j, lo ≤ j → j < hi → newRho rho W k lo hi bb nb mb j = .rib k := fun j h1 h2 => by
    unfold newRho; rw [if_neg (by omega), if_pos ⟨h1, h2⟩]
  have r2 : newRho rho W k lo hi bb nb mb bb = .best k := by unfold newRho; rw [if_neg (by omega), if_neg n1, if_pos rfl]
  have r3 : newRho rho W k lo hi bb nb mb nb = .news k := by unfold newRho; rw [if_neg (by omega), if_neg n2, if_neg n4, if_pos rfl]
  have r4 : newRho rho W k lo hi bb nb mb mb = .mem k := by unfold newRho; rw [if_neg (by omega), if_neg n3, if_neg n5, if_neg n6, if_pos rfl]
  have hrow6 : W6.heap[sb]? = some (.cells #[.slice s k c, .pointer (some ⟨fb, 0, none⟩)] 125 (0, 0)) := by
    rw [hg.block _ (by omega) (fun e => (h.srow _ e).2.1 rfl), b45.block _ (by omega), b04.block _ sbl]
    exact h.top
  have notg : ∀ j, W.heap.size ≤ j → ¬ (j = sb ∨ (Value.slice s k c).ownBlock = some j) := fun j hj e => by
    rcases e with e | e
    · omega
    · have := ol j e; omega
  have hnew : ∀ g, (Value.slice s' (k + 1) c').ownBlock = some g → (Value.slice s k c).ownBlock = some g ∨ g = W5.heap.size := fun g hgg => by
    rcases hat with e | e
    · rw [e] at hgg; exact .inl hgg
    · rw [e] at hgg; injection hgg with hgg; exact .inr hgg.symm
  refine ⟨s', c', newRho rho W k lo hi bb nb mb, rfl, ?_, ?_, ?_, ?_, ?_, ?_, ?_, ?_, h.fs, ?_, h.gsb, h.gfb, ?_⟩
  · rw [set_same hrow6]; simp
  · have := ((own_on hown).kept (Kept.setCell (F := fun b => b = sb) ⟨sb, 0, none⟩ (.slice s' (k + 1) c') rfl) fun g _ hg' e => by
      have e : g = sb := e
      subst e
      rcases hnew g hg' with h1 | h1
      · exact (h.srow _ h1).2.1 rfl
      · omega).self
    rw [List.flatMap_append]
    exact this
  · exact h.fil.kept K0 (fun e => by
      rcases e with e | e
      · exact h.fs e
      · exact (h.srow _ e).2.2 rfl)
  · intro i l y hl hy
    by_cases hi' : i < ls.length
    · rw [List.getElem?_append_left hi'] at hl
      exact (h.mem i l y hl hy).kept hr K0 fun j hj ho e => by
        have no : rho j ≠ .no := by rcases ho with q | q | q | q | q <;> rw [q] <;> intro e <;> cases e
        rcases e with e | e
        · exact no (e ▸ h.nsb)
        · exact no (h.srow _ e).1
    · have : i = k := by
        have := (List.getElem?_eq_some_iff.1 hl).1
        rw [List.length_append] at this
        simp at this
        have := h.len
        omega
      subst this
      rw [hx] at hy; injection hy with hy; subst hy
      rw [List.getElem?_append_right (by rw [h.len]; omega), h.len] at hl
      simp at hl; subst hl
      refine ⟨?_, r4, ?_, r2, r3, ⟨[], ?_, fun p => rfl, fun y hy => by cases hy⟩, ⟨[], ?_, fun p => rfl, fun y hy => by cases hy⟩, fun p a hg => by simp [pmOf, getL] at hg, hx2, hx1⟩
      · exact (K.block _ hm7 (notg _ gmb)).trans hm
      · exact (hrib.kept K fun j _ hF => notg j (by omega)).wide fun j hF => r1 j hF.1 hF.2
      · exact hb.kept K (notg _ gbb)
      · exact hn.kept K (notg _ gnb)
  · rw [List.length_append, h.len]; rfl
  · intro j hj
    by_cases h1 : j < W.heap.size
    · have : rho j ≠ .no := by intro e; apply hj; unfold newRho; rw [if_pos h1]; exact e
      have := h.low j this
      have := K0.size
      omega
    · have h0 := h.bel.size
      have e : j < W4.heap.size := by
        by_cases e1 : lo ≤ j ∧ j < hi
        · omega
        · by_cases e2 : j = bb
          · omega
          · by_cases e3 : j = nb
            · omega
            · by_cases e4 : j = mb
              · omega
              · exact absurd (by unfold newRho; rw [if_neg h1, if_neg e1, if_neg e2, if_neg e3, if_neg e4]) hj
      have := K.size
      omega
  · unfold newRho; rw [if_pos fbl]; exact h.nfb
  · unfold newRho; rw [if_pos sbl]; exact h.nsb
  · intro g hgg
    rcases hnew g hgg with h1 | h1
    · have := ol g h1
      refine ⟨?_, (h.srow g h1).2⟩
      unfold newRho; rw [if_pos (by omega)]; exact (h.srow g h1).1
    · refine ⟨?_, by omega, by omega⟩
      unfold newRho
      rw [if_neg (by omega), if_neg (by omega), if_neg (by omega), if_neg (by omega), if_neg (by omega)]
  · exact h.bel.trans (K0.below h.bel.size (by
      rintro j (rfl | e)
      · exact h.gsb
      · exact own_form_le h.row j e))
theorem NewAt.done (h : NewAt w0 W sb fb own most xs xs.length s c ls rho) (ho : 1 ≤ own ∧ own ≤ 65535) (hf : xs.length ≤ 16) {most0 : Int} (hm : most = min (max most0 0) 256) :
    ∃ rho', SrvM W rho' sb fb ls (newSv own most0 xs) ∧ (∀ k, rho' k ≠ .no → w0.heap.size ≤ k) := by
  classical
  have sbl := row_lt h.top
  have ol := own_lt h.row
  obtain ⟨R, hR⟩ : ∃ R : Nat → Role, R = fun k => if k = sb ∨ (Value.slice s xs.length c).ownBlock = some k then .top else if k = fb then .fil else rho k := ⟨_, rfl⟩
  have e0 : ∀ k, rho k ≠ .no → R k = rho k := fun k hk => by
    rw [hR]
    have : ¬ (k = sb ∨ (Value.slice s xs.length c).ownBlock = some k) := by
      rintro (rfl | e)
      · exact hk h.nsb
      · exact hk (h.srow k e).1
    simp only [this, if_false]
    exact if_neg (fun e : k = fb => hk (by rw [e]; exact h.nfb))
  have e1 : R sb = .top := by rw [hR]; simp
  have e2 : R fb = .fil := by
    rw [hR]
    have : ¬ (fb = sb ∨ (Value.slice s xs.length c).ownBlock = some fb) := by
      rintro (e | e)
      · exact h.fs e
      · exact (h.srow fb e).2.2 rfl
    simp [this]
  have e3 : ∀ g, (Value.slice s xs.length c).ownBlock = some g → R g = .top := fun g hg => by rw [hR]; simp [hg]
  have dom : ∀ k, R k ≠ .no → w0.heap.size ≤ k ∧ k < W.heap.size := fun k hk => by
    rw [hR] at hk
    by_cases h1 : k = sb ∨ (Value.slice s xs.length c).ownBlock = some k
    · rcases h1 with rfl | h1
      · exact ⟨h.gsb, sbl⟩
      · exact ⟨own_form_le h.row k h1, ol k h1⟩
    · simp only [h1, if_false] at hk
      by_cases h2 : k = fb
      · subst h2; exact ⟨h.gfb, h.fil.lt⟩
      · rw [if_neg h2] at hk
        exact h.low k hk
  refine ⟨R, ⟨?_, ⟨h.fil, e2, by rw [h.len]; simp [newSv], by simpa [newSv] using hf, ?_, fun k hk => (dom k hk).2, ho⟩, e1⟩, fun k hk => (dom k hk).1⟩
  · intro V hV
    refine ⟨s, c, ?_, ?_⟩
    · rw [hV sb e1 sbl, h.len]; exact h.top
    · have ho := (own_on h.row) V fun g hg hl => hV g (e3 g hg) hl
      rw [← h.len] at ho
      exact own_slat (fun _ => rfl) ho
  · intro i m l hm' hl
    simp only [newSv, List.getElem?_map] at hm'
    cases hx : xs[i]? with
    | none => rw [hx] at hm'; simp at hm'
    | some x =>
      rw [hx] at hm'
      simp at hm'; subst hm'
      have := (h.mem i l x hl hx).kept (G := fun _ => False) e0 (Kept.refl _ W) fun _ _ _ h => h
      rw [hm] at this
      exact this
end
end Go.Proofs.YtkoidahgbbabiaaGreat
/-
  Regions that draw their order, step by step: four operations may come up.
-/
namespace Go.Proofs.YtkoidahgbbabiaaGreat
open Go.RowKit
section
variable {P : Program} {ops : Array Oper} {Q : Exit → Act → World → Prop} {md : Region.Mode} {S : World → Prop}
theorem rg_call4 {i j k l : Nat} {oi oj ok ol : Oper} {fuel : Nat} {listed : Array Bool} {a : Act} {w : World} (hi : ops[i]? = some oi) (hj : ops[j]? = some oj) (hk : ops[k]? = some ok) (hl : ops[l]? = some ol)
    (hr : Region.ready md ops listed = [i, j, k, l]) (hw : Region.wanted oi (yielded ops a.tmps) = true) (hv : Region.wanted oj (yielded ops a.tmps) = true) (hu : Region.wanted ok (yielded ops a.tmps) = true) (ht : Region.wanted ol (yielded ops a.tmps) = true)
    (h : ∀ K' : Act → World → Prop, Shut (∀ a w, S w → (S w → wpAnyH P md ops Q S fuel (listed.setIfInBounds i true) a w) → K' a w) → Oper.wp P oi a w K' Q)
    (h2 : ∀ K' : Act → World → Prop, Shut (∀ a w, S w → (S w → wpAnyH P md ops Q S fuel (listed.setIfInBounds j true) a w) → K' a w) → Oper.wp P oj a w K' Q)
    (h3 : ∀ K' : Act → World → Prop, Shut (∀ a w, S w → (S w → wpAnyH P md ops Q S fuel (listed.setIfInBounds k true) a w) → K' a w) → Oper.wp P ok a w K' Q)
    (h4 : ∀ K' : Act → World → Prop, Shut (∀ a w, S w → (S w → wpAnyH P md ops Q S fuel (listed.setIfInBounds l true) a w) → K' a w) → Oper.wp P ol a w K' Q) : wpAnyH P md ops Q S (fuel + 1) listed a w :=
  wpAnyH_ready (rs := [i, j, k, l]) hr (by simp) (AllReadyH.cons hi (fun K hK => by rw [if_pos hw]; exact h K hK) (AllReadyH.cons hj (fun K hK => by rw [if_pos hv]; exact h2 K hK) (AllReadyH.cons hk (fun K hK => by rw [if_pos hu]; exact h3 K hK) (AllReadyH.cons hl (fun K hK => by rw [if_pos ht]; exact h4 K hK) AllReadyH.nil))))
end
end Go.Proofs.YtkoidahgbbabiaaGreat
