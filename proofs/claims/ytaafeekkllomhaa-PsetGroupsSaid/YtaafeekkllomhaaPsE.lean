/-
  SETS OF PREFIXES: Of: the set of some prefixes, or why there is none.
-/
import Derived.Test.YtaafeekkllomhaaPsC
import Derived.Test.YtaafeekkllomhaaPsS
namespace Go.Proofs.Ytaafeekkllomhaa
open Go.RowKit

/-- the prefixes in order, each once. -/
def setOf (ps : List Pf) : List Pf := comp (ps.mergeSort fun x y => !decide (plt y x))
theorem setOf_srt (ps : List Pf) : Srt (setOf ps) ∧ ∀ p, p ∈ setOf ps ↔ p ∈ ps := by
  have h := List.pairwise_mergeSort (le := fun x y : Pf => !decide (plt y x)) (fun a b c h1 h2 => by
        simp only [Bool.not_eq_true', decide_eq_false_iff_not] at *
        unfold plt at *; omega) (fun a b => by
        simp only [Bool.or_eq_true, Bool.not_eq_true', decide_eq_false_iff_not]
        unfold plt; omega) ps
  have h2 := comp_srt (h.imp fun {a b} k => by simpa only [Bool.not_eq_true', decide_eq_false_iff_not] using k)
  exact ⟨h2.1, fun p => (h2.2 p).trans (List.mergeSort_perm _ _).mem_iff⟩
theorem setOf_is {ps ys : List Pf} (h : Srt ys) (hm : ∀ p, p ∈ ys ↔ p ∈ ps) : setOf ps = ys := srt_ext (setOf_srt ps).1 h fun p => ((setOf_srt ps).2 p).trans (hm p).symm
theorem setOf_len (ps : List Pf) : (setOf ps).length ≤ ps.length := by
  have := comp_len (ps.mergeSort fun x y => !decide (plt y x))
  rw [List.length_mergeSort] at this
  exact this
def rights (ps : List Pf) : Bool := ps.all fun p => rightB p.1 p.2
def ofE (ps : List Pf) : Int := if 16384 < ps.length then 3 else if rights ps then (if 4096 < (setOf ps).length then 3 else 0) else 1
def ofL (ps : List Pf) : List Pf := if ofE ps = 0 then setOf ps else []
def OfPost (ps : List Pf) (w : World) (e : Ending) (w' : World) : Prop := ∃ v', e = .returned (.tuple #[.agg #[v'], .int .i64 (ofE ps)]) ∧ OwnPs w' w.heap.size v' (ofL ps) ∧ Below w.heap.size w w'
theorem ownPs_nil (w : World) (B : Nat) : OwnPs w B (.slice none 0 0) [] := ⟨⟨rfl, .inl ⟨rfl, rfl⟩⟩, fun p hp => by simp at hp⟩
theorem ofPost_no {ps : List Pf} {w w' : World} (hE : ofE ps ≠ 0) (hb : Below w.heap.size w w') {n : Int} (hn : n = ofE ps) : OfPost ps w (.returned (.tuple #[.agg #[.slice none 0 0], .int .i64 n])) w' :=
  ⟨_, by rw [hn], by unfold ofL; rw [if_neg hE]; exact ownPs_nil _ _, hb⟩
theorem box1c (w : World) (v : Value) (T : TypeId) : ∃ W0, W0 = w.alloc (.cells #[v] T) ∧ W0.cell? ⟨w.heap.size, 0, none⟩ = some v ∧ W0.frozen? ⟨w.heap.size, 0, none⟩ = false ∧ Below w.heap.size w W0 ∧ W0.heap.size = w.heap.size + 1 := by
  refine ⟨_, rfl, ?_, ?_, (Below.refl _ _).alloc (Nat.le_refl _) _, by simp⟩
  · rw [row_cell (heap_alloc_new w _)]; rfl
  · exact row_free (heap_alloc_new w _) 0
theorem ofE_many {ps : List Pf} (h : 16384 < ps.length) : ofE ps = 3 := by unfold ofE; rw [if_pos h]
theorem ofE_bad {ps : List Pf} {k : Nat} {x : Pf} (h : ¬ 16384 < ps.length) (hx : ps[k]? = some x) (hr : rightB x.1 x.2 = false) : ofE ps = 1 := by
  unfold ofE
  have : rights ps = false := by
    unfold rights
    rw [List.all_eq_false]
    exact ⟨x, List.mem_of_getElem? hx, by rw [hr]; decide⟩
  rw [if_neg h, this]; rfl
def AllR (ps : List Pf) (k : Nat) : Prop := ∀ (i : Nat) (x : Pf), i < k → ps[i]? = some x → rightB x.1 x.2 = true
theorem allR_step {ps : List Pf} {k : Nat} {x : Pf} (h : AllR ps k) (hx : ps[k]? = some x) (hr : rightB x.1 x.2 = true) : AllR ps (k + 1) := by
  intro i y hi hy
  by_cases e : i = k
  · subst e; rw [hx] at hy; obtain rfl := Option.some.inj hy; exact hr
  · exact h i y (by omega) hy
theorem allR_all {ps : List Pf} (h : AllR ps ps.length) : rights ps = true := by
  unfold rights
  rw [List.all_eq_true]
  intro x hx
  obtain ⟨i, hi⟩ := List.mem_iff_getElem?.1 hx
  exact h i x (List.getElem?_eq_some_iff.1 hi).1 hi
theorem own_base {w : World} {B B' k n : Nat} {e : TypeId} {v : Value} {xs : List Value} (h : w.ownsRow B e k v n xs) (hB : B' ≤ B) : w.ownsRow B' e k v n xs := by
  obtain ⟨h1, h2⟩ := h
  refine ⟨h1, h2.imp_right ?_⟩
  rintro ⟨g, cap, cur, h3, h4, h5⟩
  exact ⟨g, cap, cur, h3, by omega, h5⟩
/-- a store into an elder block. -/
theorem OwnPs.setElder {w : World} {B B' b : Nat} {v : Value} {xs : List Pf} (h : OwnPs w B v xs) (hb : b < B) (hB : B' ≤ B) (u : Value) : OwnPs (w.setCell ⟨b, 0, none⟩ u) B' v xs := by
  obtain ⟨⟨h1, h2⟩, h3⟩ := h
  refine ⟨⟨h1, h2.imp_right ?_⟩, h3⟩
  rintro ⟨g, cap, cur, h4, h5, h6, h7⟩
  exact ⟨g, cap, cur, h4, by omega, (set_other b 0 u (by omega)).trans h6, h7⟩
set_option maxHeartbeats 6400000 in
set_option maxRecDepth 100000 in
theorem ps_Of (v : Value) (ps : List Pf) (w : World) (h : PsAt w v ps) : Calls Try.prog 18 #[v] w (OfPost ps w) := by
  have HA := Lib.hid h
  have hlm := ps_len h
  unfold maxLen at hlm
  by_cases hmany : 16384 < ps.length
  · have HP : Hid (∀ w', Below w.heap.size w w' → OfPost ps w (.returned (.tuple #[.agg #[.slice none 0 0], .int .i64 3])) w') := Lib.hid fun w' hb => ofPost_no (by rw [ofE_many hmany]; decide) hb (ofE_many hmany).symm
    have j0 : decide ((ps.length : Int) > 16384) = true := by simp; omega
    obtain ⟨sa, cap, rfl, -⟩ := h
    clear hmany
    go_enter Try.func18, Try.ntmps18
    go_wp2_with fail
    refine bodyPost_ret (v := .tuple #[.agg #[.slice none 0 0], .int .i64 3]) (by simp [results, Try.results18, go_sem]) rfl (HP.out _ ((Below.refl _ _).alloc (Nat.le_refl _) _))
  · have j0 : decide ((ps.length : Int) > 16384) = false := by simp; omega
    have HM := Lib.hid hmany
    obtain ⟨sa, cap, rfl, hlc, hcm, hV⟩ := h
    have HV := Lib.hid hV
    clear hV hmany
    go_enter Try.func18, Try.ntmps18
    go_upto_region 3 with (fail)
    obtain ⟨W0, hW0, r0, f0, hB, -⟩ := box1c w (.slice none 0 0) 26
    rw [← hW0]
    clear hW0 j0
    have R0 := Lib.hid r0
    have F0 := Lib.hid f0
    have HB := Lib.hid hB
    clear r0 f0 hB
    go_wp2_with fail
    go_loopw [14] (fun k14 wr => ∃ k : Nat, k ≤ ps.length ∧ k14 = .int .i64 k ∧ Hid (AllR ps k) ∧ Hid (Below W0.heap.size W0 wr)) (fun k14 _ => ps.length - (intOf k14).toNat)
    case atStart => exact ⟨0, by omega, rfl, Lib.hid (fun i x hi => by omega), Lib.hid (Below.refl _ _)⟩
    case round =>
      obtain ⟨k, hk, rfl, AR, B⟩ := hrel
      by_cases hlt : k < ps.length
      · obtain ⟨x, hx⟩ : ∃ x, ps[k]? = some x := ⟨_, List.getElem?_eq_getElem hlt⟩
        obtain ⟨bb, off, hsa, hP⟩ := HV.out (by omega)
        subst hsa
        obtain ⟨x0, x1⟩ := ps_two hP hx
        have x0 := (B.out.cell (size_lt (cell_below x0 HB.out))).trans (cell_below x0 HB.out)
        have x1 := (B.out.cell (size_lt (cell_below x1 HB.out))).trans (cell_below x1 HB.out)
        have i0 : (0 : Int) ≤ (k : Int) := by omega
        have i1 : (k : Int) < (ps.length : Int) := by omega
        have HX := Lib.hid hx
        have OX := Lib.hid (ps_ok HA.out x (List.mem_of_getElem? hx))
        clear hP hx
        go_upto_region 6 with (fail)
        obtain ⟨W1, hW1, y0, y1, hB1⟩ := box2 wr (.int .u32 x.1) (.int .i64 x.2) 35
        rw [← hW1]
        clear hW1 x0 x1
        have CK := Lib.hid (ip_Check x.1 x.2 W1 OX.out.1 OX.out.2)
        cases hR : rightB x.1 x.2
        · have HP : Hid (∀ w', Below w.heap.size w w' → OfPost ps w (.returned (.tuple #[.agg #[.slice none 0 0], .int .i64 1])) w') := Lib.hid fun w' hb => ofPost_no (by rw [ofE_bad HM.out HX.out hR]; decide) hb (ofE_bad HM.out HX.out hR).symm
          have CK1 : Hid (Calls Try.prog 31 #[.agg #[.int .u32 x.1, .int .i64 x.2]] W1 fun e w' => e = .returned (.int .i64 1) ∧ Below W1.heap.size W1 w') := Lib.hid (by have := CK.out; rw [hR] at this; exact this)
          have B2 := Lib.hid (below_on B.out hB1)
          clear CK hR
          go_wp2_with fail
          refine CK1.out.mono ?_
          rintro e w2 ⟨rfl, hb2⟩
          have B3 := Lib.hid (below_on B2.out hb2)
          have r0 := cell_below R0.out B3.out
          have f0 := frozen_below (size_lt R0.out) F0.out B3.out
          clear hb2 y0 y1 hB1
          go_wp2_with fail
          refine bodyPost_ret (v := .tuple #[.agg #[.slice none 0 0], .int .i64 1]) (by simp [results, Try.results18, go_sem, r0]) rfl (HP.out _ ((below_on HB.out B3.out).setCell (Nat.le_refl _) _))
        · have CK1 : Hid (Calls Try.prog 31 #[.agg #[.int .u32 x.1, .int .i64 x.2]] W1 fun e w' => e = .returned (.int .i64 0) ∧ Below W1.heap.size W1 w') := Lib.hid (by have := CK.out; rw [hR] at this; exact this)
          have AR2 := Lib.hid (allR_step AR.out HX.out hR)
          have B2 := Lib.hid (below_on B.out hB1)
          clear CK hR
          go_wp2_with fail
          refine CK1.out.mono ?_
          rintro e w2 ⟨rfl, hb2⟩
          have B3 := Lib.hid (below_on B2.out hb2)
          clear hb2 y0 y1 hB1
          go_wp2_with fail
          exact ⟨⟨k + 1, by omega, by go_num, AR2, B3⟩, by simp [intOf]; omega⟩
      · obtain rfl : k = ps.length := by omega
        have RT := Lib.hid (allR_all AR.out)
        have BW := Lib.hid (below_on HB.out B.out)
        have CL := Lib.hid (ps_Clone (.slice sa ps.length cap) ps wr (HA.out.below BW.out) (by have := HM.out; omega))
        have r0 := Lib.hid (cell_below R0.out B.out)
        have f0 := Lib.hid (frozen_below (size_lt R0.out) F0.out B.out)
        clear HV AR
        go_wp2_with fail
        refine CL.out.mono ?_
        rintro e w2 ⟨v2, rfl, o2, hb2⟩
        have O2 := Lib.hid o2
        have B2 := Lib.hid (below_on BW.out hb2)
        have r2 := Lib.hid (cell_below r0.out hb2)
        have f2 := Lib.hid (frozen_below (size_lt r0.out) f0.out hb2)
        have WS := Lib.hid (Nat.lt_of_lt_of_le (size_lt R0.out) B.out.size)
        have OW : Hid (∀ b, v2.ownBlock = some b → wr.heap.size ≤ b) := Lib.hid (own_form_le o2.1)
        clear o2 hb2 r0 f0 CL
        have ST := Lib.hid (ps_Sort wr.heap.size v2 ps w2 O2.out (by have := HM.out; omega))
        go_wp2_with fail
        refine ST.out.mono ?_
        rintro e w3 ⟨ys, rfl, hyl, hym, hys, o3, k3⟩
        have O3 := Lib.hid o3
        have K3 := Lib.hid k3
        have YS : Hid (ys.length = ps.length ∧ setOf ps = comp ys) := Lib.hid ⟨hyl, setOf_is (comp_srt hys).1 fun p => ((comp_srt hys).2 p).trans (hym p)⟩
        clear hyl hym hys o3 k3 ST
        have CP := Lib.hid (ps_Compact wr.heap.size v2 ys w3 O3.out (by rw [YS.out.1]; have := HM.out; omega))
        go_wp2_with fail
        refine CP.out.mono ?_
        rintro e w4 ⟨v4, rfl, o4, k4⟩
        have O4 := Lib.hid o4
        have B4 : Hid (Below w.heap.size w w4) := Lib.hid (Kept.below (B := w.heap.size) ((Kept.of_below B2.out).trans (K3.out.trans k4)) (Nat.le_refl _) (fun b hb => Nat.le_trans BW.out.size (OW.out b hb)))
        have r4 := Lib.hid (k4.cell (K3.out.cell r2.out (fun h => by have h1 := OW.out _ h; have h2 := WS.out; simp only at h1; omega)) (fun h => by have h1 := OW.out _ h; have h2 := WS.out; simp only at h1; omega))
        have f4 : Hid (w4.frozen? ⟨w.heap.size, 0, none⟩ = false) := Lib.hid (by
          have hne : ¬ v2.ownBlock = some w.heap.size := fun h => by have := OW.out _ h; have := WS.out; omega
          exact (World.frozen?_of_block (w := w3) (k4.block w.heap.size (size_lt (K3.out.cell r2.out hne)) hne)).trans ((World.frozen?_of_block (w := w2) (K3.out.block w.heap.size (size_lt r2.out) hne)).trans f2.out))
        have LS : Hid ((comp ys).length = (setOf ps).length) := Lib.hid (by rw [YS.out.2])
        have O5 : Hid (OwnPs w4 wr.heap.size v4 (setOf ps)) := Lib.hid (by rw [YS.out.2]; exact o4)
        clear o4 k4 CP O2 B2 r2 f2 O3 K3
        have hlm2 : (comp ys).length ≤ 16384 := by rw [LS.out]; exact Nat.le_trans (setOf_len ps) (by have := HM.out; omega)
        by_cases hL : 4096 < (comp ys).length
        · have EE : Hid (ofE ps = 3) := Lib.hid (by unfold ofE; rw [if_neg HM.out, if_pos RT.out, if_pos (by rw [← LS.out]; exact hL)])
          have HP : Hid (∀ w', Below w.heap.size w w' → OfPost ps w (.returned (.tuple #[.agg #[.slice none 0 0], .int .i64 3])) w') := Lib.hid fun w' hb => ofPost_no (by rw [EE.out]; decide) hb EE.out.symm
          have j1 : decide (((comp ys).length : Int) > 4096) = true := by simp; omega
          have r5 := r4.out
          have f5 := f4.out
          rcases own_slice O4.out.1 with ⟨rfl, h0⟩ | ⟨g, c, rfl⟩
          · omega
          · go_wp2_with fail
            refine bodyPost_ret (v := .tuple #[.agg #[.slice none 0 0], .int .i64 3]) (by simp [results, Try.results18, go_sem, r5]) rfl (HP.out _ (B4.out.setCell (Nat.le_refl _) _))
        · have EE : Hid (ofE ps = 0) := Lib.hid (by unfold ofE; rw [if_neg HM.out, if_pos RT.out, if_neg (by rw [← LS.out]; exact hL)])
          have OO : Hid (ofL ps = setOf ps) := Lib.hid (by unfold ofL; rw [if_pos EE.out])
          have j1 : decide (((comp ys).length : Int) > 4096) = false := by simp; omega
          have r5 := r4.out
          have f5 := f4.out
          rcases own_slice O4.out.1 with ⟨rfl, h0⟩ | ⟨g, c, rfl⟩
          · have j2 : decide ((0 : Int) > 4096) = false := by decide
            go_wp2_with fail
            refine bodyPost_ret (v := .tuple #[.agg #[.slice none 0 0], .int .i64 0]) (by simp [results, Try.results18, go_sem, r5]) rfl ⟨_, by rw [EE.out], by rw [OO.out]; exact O5.out.setElder WS.out BW.out.size _, B4.out.setCell (Nat.le_refl _) _⟩
          · go_wp2_with fail
            refine bodyPost_ret (v := .tuple #[.agg #[.slice (some ⟨g, 0, none⟩) (comp ys).length c], .int .i64 0]) (by simp [results, Try.results18, go_sem, r5]) rfl ⟨_, by rw [EE.out], by rw [OO.out]; exact O5.out.setElder WS.out BW.out.size _, B4.out.setCell (Nat.le_refl _) _⟩
end Go.Proofs.Ytaafeekkllomhaa
