/- Texts of one proof, one behind another. -/
import Derived.Test.YtkoidahgbbabiaaGreatSf19
import Derived.Test.YtkoidahgbbabiaaGreatSf14
import Derived.Test.YtkoidahgbbabiaaGreatSf1
/-
  STRIPPED: a route that goes out at a server's door.
-/
namespace Go.Proofs.YtkoidahgbbabiaaGreat
open Go.RowKit
theorem wp_ldmO {P : Program} {o : Oper} {a : Act} {w : World} {K : Act → World → Prop} {Q : Exit → Act → World → Prop} (ty : TypeId) (x : Operand) (ho : o.op = .load ty x) (b off : Nat) (hx : a.eval x = .pointer (some ⟨b, off, none⟩)) (cs : List Value) (d : TypeDesc) (hc : w.rangeAt b off cs)
    (hu : P.underlying ty = some d) (hd : d.isRow = true) (hi : (P.info? ty).map (·.size) = some cs.length) (h : K (a.put o.dst (.agg cs.toArray)) w) : o.wp P a w K Q := by
  unfold Oper.wp execOp
  simp only [ho, hx, Instr.loadAt, Instr.sureAddr, Sem.run_bind, Sem.run_pure, Result.andThen_ok, run_loadVar_mid w b off ty cs d hc hu hd hi]
  exact h
set_option maxHeartbeats 6400000 in
set_option maxRecDepth 100000 in
theorem sv_StripG {w : World} {sb fb : Nat} (peer : Int) (p : Pf) (v : AV) (A' : At) (cf : w.cell? ⟨sb, 1, none⟩ = some (.pointer (some ⟨fb, 0, none⟩)))
    (ST : ∀ W, Below w.heap.size w W → Calls Tryz.prog 39 #[.pointer (some ⟨fb, 0, none⟩), v.V] W fun e w' => ∃ u : AV, e = .returned u.V ∧ Fresh W.heap.size w' (fun W => AvAt W A' u) ∧ Below W.heap.size W w') :
    Calls Tryz.prog 36 #[.pointer (some ⟨sb, 0, none⟩), .agg (rtC peer p v)] w fun e w' => ∃ u : AV, e = .returned (.agg (rtC peer p u)) ∧ Fresh w.heap.size w' (fun W => AvAt W A' u) ∧ Below w.heap.size w w' := by
  have SBL : Hid (sb < w.heap.size) := Lib.hid (size_lt cf)
  have ST := Lib.hid ST
  have CF := Lib.hid cf
  clear cf
  go_enter Tryz.func36, Tryz.ntmps36
  go_upto_region 3 with (fail)
  obtain ⟨W0, hW0, q0, q1, hB⟩ := boxClo w peer p v
  rw [← hW0]
  have RG := Lib.hid (rt_range q0)
  have Q0 := Lib.hid q0
  have Q1 := Lib.hid q1
  have B0 := Lib.hid hB
  have cf0 := cell_below CF.out hB
  have WS : Hid (w.heap.size + 1 < W0.heap.size) := Lib.hid (row_lt q1)
  have RGd : Hid ((World.drew W0).rangeAt w.heap.size 3 v.C.toList) := RG
  have Q0d : Hid ((World.drew W0).heap[w.heap.size]? = some (.cells (rtC peer p v) 61 (0, 0))) := Q0
  have Q1d : Hid ((World.drew W0).heap[w.heap.size + 1]? = some (.cells (rtC 0 (0, 0) av0) 61 (0, 0))) := Q1
  have Bd : Hid (Below w.heap.size w (World.drew W0)) := Lib.hid B0.out.drew
  clear hW0 q0 q1 hB RG Q0 Q1 B0
  refine wp_region_held_drew (S := fun w' => Below w.heap.size W0 w') (by kernel_rfl) ?_ (fun hHeld => ?_)
  · exact (Below.refl W0.heap.size W0).drew.mono (by have := WS.out; omega)
  generalize World.drew W0 = wd at RGd Q0d Q1d Bd hHeld ⊢
  refine qy 0 ?_ ?_ ?_ hHeld ?_; rotate_left 1; (· rfl); (· intro w' hSw; (try clear hHeld); go_simp; try with_reducible rfl)
  try simp only [zp1, zp3, zp4, zp5]
  refine qy 1 ?_ ?_ ?_ hHeld ?_; rotate_left 1; (· rfl); (· intro w' hSw; (try clear hHeld); go_simp; try with_reducible rfl)
  try simp only [zp1, zp3, zp4, zp5]
  refine qy 2 ?_ ?_ ?_ hHeld ?_; rotate_left 1; (· rfl); (· intro w' hSw; (try clear hHeld); go_simp; try with_reducible rfl)
  try simp only [zp1, zp3, zp4, zp5]
  refine qy 3 ?_ ?_ ?_ hHeld ?_; rotate_left 1; (· rfl); (· intro w' hSw; have cf1 := (hSw.cell (p := ⟨sb, 1, none⟩) SBL.out).trans cf0; (try clear hHeld); go_simp; try with_reducible rfl)
  try simp only [zp1, zp3, zp4, zp5]
  refine qy 4 ?_ ?_ ?_ hHeld ?_; rotate_left 1; (· rfl); (· intro w' hSw; (try clear hHeld); go_simp; try with_reducible rfl)
  try simp only [zp1, zp3, zp4, zp5]
  refine rg_call (i := 5) (atN rfl) (by kernel_rfl) ?_ (fun K hK => ?_); (· rfl); (try clear hb); refine wp_ldmO 42 (.tmp 13) rfl w.heap.size 3 rfl v.C.toList _ RGd.out Tryz.underlying42 rfl sz_avS ?_; refine hK.out _ _ ?_ (fun hHeld => ?_); (· exact hHeld); clear hK K
  try simp only [zp1, zp3, zp4, zp5]
  refine rg_call (i := 6) (atN rfl) (by kernel_rfl) ?_ (fun K hK => ?_); (· rfl); (try clear hb); go_simp; refine (ST.out _ Bd.out).mono ?_; rintro e w1 ⟨u, rfl, fr, hb⟩; have FR := Lib.hid fr; have q0 := (hb.block _ (row_lt Q0d.out)).trans Q0d.out; have q1 := (hb.block _ (row_lt Q1d.out)).trans Q1d.out; have B1 := Lib.hid (below_on Bd.out hb); have L1 : Hid (w.heap.size + 1 < wd.heap.size) := Lib.hid (row_lt Q1d.out); have NT : Hid (w1.there w.heap.size 3 10) := Lib.hid (node_there q0); have Q2 := Lib.hid (setAV_row q0 u); have Q3 := Lib.hid ((setAV_other (show w.heap.size + 1 ≠ w.heap.size by omega) u).trans q1); have K2 := Lib.hid (kept_setAV w1 w.heap.size u); have HB := Lib.hid hb; clear q0 q1 fr hb; go_wp2_with fail; refine hK.out _ _ ?_ (fun hHeld => ?_); (· exact hHeld.trans (HB.out.mono (by have := L1.out; omega))); clear hK K
  try simp only [zp1, zp3, zp4, zp5]
  refine qy 7 ?_ ?_ ?_ hHeld ?_; rotate_left 1; (· rfl); (· intro w' hSw; (try clear hHeld); go_simp; try with_reducible rfl)
  try simp only [zp1, zp3, zp4, zp5]
  refine rg_call (i := 8) (atN rfl) (by kernel_rfl) ?_ (fun K hK => ?_); (· rfl); (try clear hb); refine wp_store_mid 42 (.tmp 16) (.tmp 15) rfl w.heap.size 3 u.C rfl rfl NT.out (by kernel_rfl) u.one ?_; rw [setAV_eq]; generalize setAV w1 w.heap.size u = w2 at Q2 Q3 K2 ⊢; refine hK.out _ _ ?_ (fun hHeld => ?_); (· exact hHeld.trans (K2.out.below B1.out.size (by rintro k rfl; exact Nat.le_refl _))); clear hK K
  try simp only [Act.put]
  refine wpAnyH_done (by kernel_rfl) ?_ _
  go_wp2_with ((with_reducible refine halt_at (X := .load 61 (.tmp 3)) ?_ ?_); (· rfl))
  unfold Halt
  refine ld_at (by rfl) 61 (.tmp 3) rfl w.heap.size rfl 61 (rtC peer p u) (0, 0) _ Q2.out Tryz.underlying61 rfl sz_rt ?_
  go_wp2_with ((with_reducible refine halt_at (X := .store 61 (.tmp 4) (.tmp 17)) ?_ ?_); (· rfl))
  unfold Halt
  refine st_row rfl 61 _ _ rfl (w.heap.size + 1) rfl 61 (rtC 0 (0, 0) av0) (rtC peer p u) rfl Q3.out (by kernel_rfl) rfl (rt_one _ _ _) ?_
  have Q4 := Lib.hid (setRow_heap _ _ _ (rtC peer p u) _ _ Q3.out)
  have K3 := Lib.hid (K2.out.imp (fun k hk => (.inl hk : k = w.heap.size ∨ k = w.heap.size + 1)))
  have K4 := Lib.hid (K3.out.trans (kept_setRow (w.heap.size + 1) (rtC peer p u) (.inr rfl)))
  generalize w2.setRow (w.heap.size + 1) (rtC peer p u) = w3 at Q4 K4 ⊢
  go_wp2_with fail
  refine bodyPost_ret (v := .agg (rtC peer p u)) (results_cell_row Tryz.results36 _ w3 (w.heap.size + 1) 61 (rtC peer p u) (0, 0) _ rfl Q4.out Tryz.underlying61 rfl sz_rt) rfl ⟨u, rfl, ?_, ?_⟩
  · exact (FR.out.kept K4.out (fun k _ hl e => by have := L1.out; rcases e with e | e <;> omega)).wide (fun k hk _ => by have := L1.out; omega)
  · exact B1.out.trans (K4.out.below B1.out.size (by rintro k (rfl | rfl) <;> omega))
theorem sv_Strip {w : World} {rho : Nat → Role} {sb fb : Nat} {ls : List Pl} {S : Sv} (h : SrvM w rho sb fb ls S) (peer : Int) (p : Pf) (a : At) (v : AV) (hA : AvAt w a v) (hz : AtSz a) :
    Calls Tryz.prog 36 #[.pointer (some ⟨sb, 0, none⟩), .agg (rtC peer p v)] w fun e w' => ∃ u : AV, e = .returned (.agg (rtC peer p u)) ∧ Fresh w.heap.size w' (fun W => AvAt W (stripA S.own a) u) ∧ Below w.heap.size w w' := by
  obtain ⟨s, cap, -, cf, -⟩ := h.cells
  obtain ⟨ps, pc, cs, cc, os, oc, rfl, hl⟩ := hA
  exact sv_StripG peer p _ (stripA S.own a) cf (fun W hb => ex_Strip a _ _ _ fb S.own W (hl.below hb) hz (cell_below h.bod.fil.own hb))
end Go.Proofs.YtkoidahgbbabiaaGreat
/-
  THE SERVER: routes in a row of one's own, with the blocks on which they hang; sorted by their prefixes.
-/
namespace Go.Proofs.YtkoidahgbbabiaaGreat
open Go.RowKit
section
variable {α : Type} {T : TypeId} {k : Nat} {C : α → List Value} {M : α → World → Prop}
structure OwnR (T : TypeId) (k : Nat) (C : α → List Value) (M : α → World → Prop) (w : World) (B : Nat) (v : Value) (xs : List α) (A : Nat → Prop) : Prop where
  own : w.ownsRow B T k v xs.length (xs.flatMap C)
  mem : On A w (fun W => ∀ x ∈ xs, M x W)
  lt : ∀ k, A k → B ≤ k ∧ k < w.heap.size
  apt : ∀ g, v.ownBlock = some g → ¬ A g
variable {w w1 w2 w3 : World} {B : Nat} {v : Value} {xs : List α} {A : Nat → Prop}
theorem OwnR.below (h : OwnR T k C M w B v xs A) (hb : Below w.heap.size w w1) : OwnR T k C M w1 B v xs A :=
  ⟨own_below h.own hb, h.mem.below hb, fun k hk => ⟨(h.lt k hk).1, Nat.lt_of_lt_of_le (h.lt k hk).2 hb.size⟩, h.apt⟩
theorem OwnR.kept {G : Nat → Prop} (h : OwnR T k C M w B v xs A) (hk : Kept G w w1) (h1 : ∀ g, v.ownBlock = some g → ¬ G g) (h2 : ∀ g, A g → ¬ G g) : OwnR T k C M w1 B v xs A :=
  ⟨((own_on h.own).kept hk fun g _ hg => h1 g hg).self, h.mem.kept hk fun g _ hg => h2 g hg, fun k hk' => ⟨(h.lt k hk').1, Nat.lt_of_lt_of_le (h.lt k hk').2 hk.size⟩, h.apt⟩
theorem OwnR.nil (w : World) (B : Nat) : OwnR T k C M w B (.slice none 0 0) [] (fun _ => False) :=
  ⟨⟨by simp, .inl ⟨rfl, rfl⟩⟩, fun _ _ x hx => (by cases hx), fun _ h => h.elim, fun _ h => (by cases h)⟩
theorem OwnR.base {B' : Nat} (h : OwnR T k C M w B v xs A) (hb : B' ≤ B) : OwnR T k C M w B' v xs A := ⟨own_base h.own hb, h.mem, fun k hk => ⟨Nat.le_trans hb (h.lt k hk).1, (h.lt k hk).2⟩, h.apt⟩
theorem OwnR.fresh (hC : ∀ x, (C x).length = k) (h : OwnR T k C M w B v xs A) : Fresh B w (fun W => SlAt W k (fun x cs => cs = C x) v xs ∧ ∀ x ∈ xs, M x W) :=
  ((own_fresh h.own).imp fun _ hW => own_slat hC hW).and (h.mem.wide fun k hk _ => (h.lt k hk).1)
theorem OwnR.step (h : OwnR T k C M w B v xs A) {x : α} {v' : Value} {lo : Nat} (b01 : Below w.heap.size w w1) (hlo : w.heap.size ≤ lo) (hB : B ≤ w.heap.size) (fr : Fresh lo w1 (M x)) (b12 : Below w1.heap.size w1 w2)
    (h2 : w3.ownsRow B T k v' (xs.length + 1) (xs.flatMap C ++ C x)) (hk : Kept (fun b => v.ownBlock = some b) w2 w3) (hat : v'.ownBlock = v.ownBlock ∨ v'.ownBlock = some w2.heap.size) : OwnR T k C M w3 B v' (xs ++ [x]) (fun k => A k ∨ (lo ≤ k ∧ k < w1.heap.size)) := by
  have ol := own_lt h.own
  have s1 := b01.size
  have s2 := b12.size
  have s3 := hk.size
  refine ⟨?_, ?_, ?_, ?_⟩
  · rw [List.length_append, List.flatMap_append]
    simpa using h2
  · have m1 := ((h.mem.below (b01.trans (b12.mono s1))).kept hk fun k _ hA hg => h.apt k hg hA)
    refine ((m1.wide (G := fun k => A k ∨ (lo ≤ k ∧ k < w1.heap.size)) fun k hA _ => .inl hA).and (R := M x) ?_).imp fun W h y hy => ?_
    · intro W hW
      refine fr W fun k hk' hl => ?_
      have e1 := hW k (.inr ⟨hk', hl⟩) (by omega)
      exact e1.trans ((hk.block k (by omega) (fun hg => by have := ol k hg; omega)).trans (b12.block k hl))
    · rcases List.mem_append.1 hy with hy | hy
      · exact h.1 y hy
      · simp at hy; subst hy; exact h.2
  · rintro k (hk' | hk')
    · have := h.lt k hk'; omega
    · omega
  · rintro g hg (hA | hA)
    · rcases hat with e | e
      · rw [e] at hg; exact h.apt g hg hA
      · rw [e] at hg; injection hg with hg; have := (h.lt g hA).2; omega
    · rcases hat with e | e
      · rw [e] at hg; have := ol g hg; omega
      · rw [e] at hg; injection hg with hg; omega
end
structure BE where
  peer : Int
  p : Pf
  a : At
  v : AV
instance : Inhabited BE := ⟨⟨0, (0, 0), ⟨0, 0, [], 0, 0, 0, 0, 0, [], []⟩, av0⟩⟩
end Go.Proofs.YtkoidahgbbabiaaGreat
/-
  THE SERVER: all of a receiver's best routes, in order.
-/
namespace Go.Proofs.YtkoidahgbbabiaaGreat
open Go.RowKit
section
variable {W : World} {rho : Nat → Role} {sb fb : Nat} {ls : List Pl} {S : Sv}
set_option maxRecDepth 100000 in
theorem sv_Bests_nil (n : Int) (W : World) : Calls Tryz.prog 25 #[.pointer none, .int .i64 n] W fun e w' => e = .returned (.slice none 0 0) ∧ W = w' := by
  have MB := Lib.hid (sv_member_nil n W)
  go_enter Tryz.func25, Tryz.ntmps25
  go_wp2_with fail
  refine MB.out.mono ?_
  rintro e w1 ⟨rfl, rfl⟩
  go_wp2_with fail
  go_ret
  exact ⟨rfl, rfl⟩
end
end Go.Proofs.YtkoidahgbbabiaaGreat
/-
  Regions that draw their order, step by step: four operations may come up.
-/
namespace Go.Proofs.YtkoidahgbbabiaaGreat
open Go.RowKit
section
variable {P : Program} {ops : Array Oper} {Q : Exit → Act → World → Prop} {md : Region.Mode} {S : World → Prop}
theorem rg_call4 {i j k l : Nat} {oi oj ok ol : Oper} {fuel : Nat} {listed : Array Bool} {a : Act} {w : World} (hi : ops[i]? = some oi) (hj : ops[j]? = some oj) (hk : ops[k]? = some ok) (hl : ops[l]? = some ol)
    (hr : Region.ready md ops listed = [i, j, k, l]) (hw : Region.wanted oi (yielded ops a.tmps) = true) (hv : Region.wanted oj (yielded ops a.tmps) = true) (hu : Region.wanted ok (yielded ops a.tmps) = true) (ht : Region.wanted ol (yielded ops a.tmps) = true)
    (h : ∀ K' : Act → World → Prop, Shut (∀ a w, S w → (S w → wpAnyH P md ops Q S fuel (listed.setIfInBounds i true) a w) → K' a w) → Oper.wp P oi a w K' Q)
    (h2 : ∀ K' : Act → World → Prop, Shut (∀ a w, S w → (S w → wpAnyH P md ops Q S fuel (listed.setIfInBounds j true) a w) → K' a w) → Oper.wp P oj a w K' Q)
    (h3 : ∀ K' : Act → World → Prop, Shut (∀ a w, S w → (S w → wpAnyH P md ops Q S fuel (listed.setIfInBounds k true) a w) → K' a w) → Oper.wp P ok a w K' Q)
    (h4 : ∀ K' : Act → World → Prop, Shut (∀ a w, S w → (S w → wpAnyH P md ops Q S fuel (listed.setIfInBounds l true) a w) → K' a w) → Oper.wp P ol a w K' Q) : wpAnyH P md ops Q S (fuel + 1) listed a w :=
  wpAnyH_ready (rs := [i, j, k, l]) hr (by simp) (AllReadyH.cons hi (fun K hK => by rw [if_pos hw]; exact h K hK) (AllReadyH.cons hj (fun K hK => by rw [if_pos hv]; exact h2 K hK) (AllReadyH.cons hk (fun K hK => by rw [if_pos hu]; exact h3 K hK) (AllReadyH.cons hl (fun K hK => by rw [if_pos ht]; exact h4 K hK) AllReadyH.nil))))
end
end Go.Proofs.YtkoidahgbbabiaaGreat
