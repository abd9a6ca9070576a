/- Texts of one proof, one behind another. -/
import Derived.Test.YtkoidahgbbabiaaGreatFo4
import Derived.StillTailTactics
import Derived.Test.YtkoidahgbbabiaaGreatFo1
import Derived.LoopTactic
import Derived.OwnWalk
import Derived.Deep.DeepCutAuto
import Derived.LoopN
import Derived.Test.YtkoidahgbbabiaaGreatFo2
import Derived.Laws.BitsAllLaws
import Derived.IntWalk
/-
 CHOOSE: the best of some ranks (best), as it is found.
-/
namespace Go.Proofs.YtkoidahgbbabiaaGreat
open Go.RowKit
abbrev nV (n : Int) : Value := .int .i64 n
theorem wf_of {n : Int} (h : I64r n) : (Lit.int .i64 n).wf = true := by
 unfold I64r at h; exact WalkArith.wf_i64 (by omega)
theorem int_enc : KeyEnc Tryz.prog 3 nV I64r where
 K := Maps.int_keyed Tryz.underlying3
 lit a ha := ⟨_, Maps.keyOf_int_mk Tryz.underlying3 (wf_of ha)⟩
 inj a b h := by injection h
theorem zero_int (w : World) : (zeroValue 3).run Tryz.prog w = .ok (nV 0) w := by kernel_rfl
def leastP (T : Rk) (l : List (Int × Int)) (r : Rk) : List (Int × Int) :=
 if aheadI r T = 0 then (match getL l r.first with | none => putL l r.first r.med | some m => if r.med < m then putL l r.first r.med else l) else l
def leastL (T : Rk) (rs : List Rk) : List (Int × Int) := rs.foldl (leastP T) []
def leftB (T : Rk) (l : List (Int × Int)) (r : Rk) : Bool := decide (aheadI r T = 0) && (r.med == (getL l r.first).getD 0)
def leftL (T : Rk) (l : List (Int × Int)) (rs : List Rk) : List Rk := rs.filter (leftB T l)
def bestR (r0 : Rk) (rs : List Rk) : Rk :=
 match leftL (minBy aheadI r0 rs) (leastL (minBy aheadI r0 rs) (r0 :: rs)) (r0 :: rs) with
 | [] => r0
 | x :: xs => minBy behindI x xs
theorem leastL_step (T : Rk) {rs : List Rk} {k : Nat} {r : Rk} (h : rs[k]? = some r) : leastL T (rs.take (k + 1)) = leastP T (leastL T (rs.take k)) r := by
 obtain ⟨h1, h2⟩ := List.getElem?_eq_some_iff.1 h
 unfold leastL
 rw [List.take_succ_eq_append_getElem h1, List.foldl_append, h2]; rfl
theorem leftL_step (T : Rk) (l : List (Int × Int)) {rs : List Rk} {k : Nat} {r : Rk} (h : rs[k]? = some r) : leftL T l (rs.take (k + 1)) = leftL T l (rs.take k) ++ (if leftB T l r then [r] else []) := by
 obtain ⟨h1, h2⟩ := List.getElem?_eq_some_iff.1 h
 unfold leftL
 rw [List.take_succ_eq_append_getElem h1, List.filter_append, h2]
 congr 1
 cases hb : leftB T l r <;> simp [List.filter, hb]
theorem leastP_len (T : Rk) (l : List (Int × Int)) (r : Rk) : (leastP T l r).length ≤ l.length + 1 := by
 unfold leastP
 split
 ·split
  ·rw [len_put]; split <;> omega
  ·split
   ·rw [len_put]; split <;> omega
   ·omega
 ·omega
structure BSt (w : World) (tb mb : Nat) (T : Rk) (l : List (Int × Int)) (wr : World) : Prop where
 z : wr.heap[w.heap.size]? = some (.cells rkZA 200 (0, 0))
 t : wr.heap[tb]? = some (.cells (rkA T) 200 (0, 0))
 m : MapT nV nV I64r wr mb l
 bel : Below w.heap.size w wr
 tz : w.heap.size < tb
 mz : w.heap.size < mb
 tm : tb ≠ mb
theorem BSt.below {w wr W : World} {tb mb : Nat} {T : Rk} {l : List (Int × Int)} (h : BSt w tb mb T l wr) (hb : Below wr.heap.size wr W) : BSt w tb mb T l W :=
 ⟨(hb.block _ (row_lt h.z)).trans h.z, (hb.block _ (row_lt h.t)).trans h.t, h.m.below hb, below_on h.bel hb, h.tz, h.mz, h.tm⟩
theorem BSt.put {w wr : World} {tb mb : Nat} {T : Rk} {l l' : List (Int × Int)} {o : Obj} (h : BSt w tb mb T l wr) (hm : MapT nV nV I64r (ChangeMaps.setBlock wr mb o) mb l') : BSt w tb mb T l' (ChangeMaps.setBlock wr mb o) := by
 have k : Kept (fun b => b = mb) wr (ChangeMaps.setBlock wr mb o) := Kept.setBlock o rfl
 refine ⟨(k.block _ (row_lt h.z) (Nat.ne_of_lt h.mz)).trans h.z, (k.block _ (row_lt h.t) h.tm).trans h.t, hm, h.bel.trans (setBlock_below (Nat.le_of_lt h.mz)), h.tz, h.mz, h.tm⟩
theorem BSt.grown {w wr W : World} {tb mb B : Nat} {T : Rk} {l : List (Int × Int)} {row : Option Nat} (h : BSt w tb mb T l wr) (hg : wr.grownBy W row) (hr : ∀ j, row = some j → B ≤ j) (h1 : w.heap.size < B) (h2 : tb < B) (h3 : mb < B) : BSt w tb mb T l W := by
 have key : ∀ b, b < wr.heap.size → b < B → W.heap[b]? = wr.heap[b]? := fun b hb hB => hg.block b hb (fun e => by have := hr b e.symm; omega)
 exact ⟨(key _ (row_lt h.z) h1).trans h.z, (key _ (row_lt h.t) h2).trans h.t, h.m.of_block (key _ h.m.lt h3), h.bel.grown hg h.bel.size (fun j hj => Nat.le_trans (Nat.le_of_lt h1) (hr j hj)), h.tz, h.mz, h.tm⟩
theorem results_best (tmps : Array Value) (W : World) (b : Nat) (r : Rk) (h4 : tmps.getD 2 undef = .pointer (some ⟨b, 0, none⟩)) (hb : W.heap[b]? = some (.cells (rkA r) 200 (0, 0))) :
  (results Tryz.f121 tmps).run Tryz.prog W = .ok (.agg (rkA r)) W := results_cell_row Tryz.results121 tmps W b 200 (rkA r) (0, 0) _ h4 hb Tryz.underlying200 rfl (by kernel_rfl)
theorem rkL_one (r : Rk) : ∀ u ∈ rkL r, u.oneCell' = true := by
 intro u hu
 simp [rkL] at hu
 rcases hu with rfl | rfl | rfl | rfl | rfl | rfl | rfl | rfl <;> rfl
theorem look_val (l : List (Int × Int)) (f : Int) : ((getL l f).map nV).getD (nV 0) = nV ((getL l f).getD 0) := by cases getL l f <;> rfl
set_option maxHeartbeats 12800000 in
set_option maxRecDepth 100000 in
theorem ch_best (v : Value) (r0 : Rk) (rs : List Rk) (w : World) (h : RksAt w v (r0 :: rs)) (hn : rs.length ≤ 100000) (hok : ∀ r ∈ r0 :: rs, I64r r.first)
  (hne : leftL (minBy aheadI r0 rs) (leastL (minBy aheadI r0 rs) (r0 :: rs)) (r0 :: rs) ≠ []) :
  Calls Tryz.prog 121 #[v] w fun e w' => e = .returned (.agg (rkA (bestR r0 rs))) ∧ Below w.heap.size w w' := by
 obtain ⟨i0, hi, hz0, hz1, hz2⟩ := info_parts info_rank
 have HR := Lib.hid h
 obtain ⟨sa, cap, rfl, hlc, hcm, hV⟩ := h
 have HV := Lib.hid hV
 have HOK := Lib.hid hok
 unfold maxLen at hcm
 have hmm := @run_makeMap Tryz.prog
 have EB : Hid (bestR r0 rs = match leftL (minBy aheadI r0 rs) (leastL (minBy aheadI r0 rs) (r0 :: rs)) (r0 :: rs) with | [] => r0 | x :: xs => minBy behindI x xs) := Lib.hid rfl
 have MN := Lib.hid (fun W h => min_ahead (.slice sa (r0 :: rs).length cap) r0 rs W h)
 have LE : Hid ((r0 :: rs).length ≤ 100001) := Lib.hid (by simp; omega)
 have LP : Hid (0 < (r0 :: rs).length) := Lib.hid (by simp)
 have HNE := Lib.hid hne
 clear hV hok hne hn
 generalize minBy aheadI r0 rs = T at EB MN HNE
 generalize bestR r0 rs = R at EB ⊢
 generalize r0 :: rs = l at HR HV HOK EB MN LE LP HNE hlc ⊢
 generalize hll : l.length = n at HR HV LE LP MN hlc ⊢
 have HL := Lib.hid hll
 clear hll
 have le := LE.out
 have lp := LP.out
 go_enter Tryz.func121, Tryz.ntmps121
 go_upto_region 1 with (fail)
 obtain ⟨W0, hW0, q0, hb0, hz⟩ := boxKz w
 rw [← hW0]
 clear hW0
 have Q0 := Lib.hid q0
 have HZ := Lib.hid hz
 have H0 := Lib.hid (HR.out.below hb0)
 have B0 := Lib.hid hb0
 clear q0 hz hb0
 go_wp2_with fail
 refine (MN.out _ H0.out).mono ?_
 rintro e w1 ⟨rfl, hb1⟩
 have Q1 := Lib.hid ((hb1.block _ (row_lt Q0.out)).trans Q0.out)
 have B1 := Lib.hid (below_on B0.out hb1)
 have S1 := Lib.hid (row_lt Q1.out)
 clear hb1 Q0 B0 HZ MN H0
 go_upto_region 2 with (fail)
 obtain ⟨W2, hW2, q2, hb2, hz2'⟩ := boxK w1 T
 rw [← hW2]
 clear hW2
 have Q2 := Lib.hid ((hb2.block _ (row_lt Q1.out)).trans Q1.out)
 have QT := Lib.hid q2
 have B2 := Lib.hid (below_on B1.out hb2)
 have HZ2 := Lib.hid hz2'
 clear q2 hb2 hz2' Q1 B1
 go_upto_region 3 with (fail)
 have BS : Hid (BSt w w1.heap.size W2.heap.size T (leastL T (l.take 0)) (W2.alloc (.map #[] 0))) := Lib.hid (by
  have hb3 : Below W2.heap.size W2 (W2.alloc (.map #[] 0)) := (Below.refl _ _).alloc (Nat.le_refl _) _
  have := S1.out
  have := HZ2.out
  exact ⟨(hb3.block _ (row_lt Q2.out)).trans Q2.out, (hb3.block _ (row_lt QT.out)).trans QT.out, MapT.made W2, below_on B2.out hb3, by omega, by omega, by omega⟩)
 clear Q2 QT B2 hmm
 generalize W2.alloc (.map #[] 0) = W3 at BS ⊢
 generalize w1.heap.size = tb at BS ⊢
 generalize W2.heap.size = mb at BS ⊢
 clear S1 HZ2
 go_wp2_with fail
 go_loopw [17] (fun i wr => ∃ k : Nat, k ≤ n ∧ i = .int .i64 k ∧ Hid (BSt w tb mb T (leastL T (l.take k)) wr) ∧ Hid ((leastL T (l.take k)).length ≤ k)) (fun i _ => n - (intOf i).toNat)
 case atStart => exact ⟨0, by omega, rfl, BS, Lib.hid (by simp [leastL])⟩
 case round =>
  clear BS
  obtain ⟨k, hk, rfl, BS, HLN⟩ := hrel
  by_cases hlt : k < n
  ·obtain ⟨r, hr⟩ : ∃ r, l[k]? = some r := ⟨_, List.getElem?_eq_getElem (by have := HL.out; omega)⟩
   obtain ⟨b, off, hsa, hP⟩ := HV.out lp
   subst hsa
   obtain ⟨cs, _, hR, hc⟩ := hP k r hr
   obtain ⟨x0, x1, x2, x3, x4, x5, x6, x7⟩ := rk_cells hR hc
   have x0 := (BS.out.bel.cell (size_lt x0)).trans x0
   have x1 := (BS.out.bel.cell (size_lt x1)).trans x1
   have x2 := (BS.out.bel.cell (size_lt x2)).trans x2
   have x3 := (BS.out.bel.cell (size_lt x3)).trans x3
   have x4 := (BS.out.bel.cell (size_lt x4)).trans x4
   have x5 := (BS.out.bel.cell (size_lt x5)).trans x5
   have x6 := (BS.out.bel.cell (size_lt x6)).trans x6
   have x7 := (BS.out.bel.cell (size_lt x7)).trans x7
   have AH := Lib.hid (fun W => ch_ahead r T W)
   have FO := Lib.hid (HOK.out r (List.mem_of_getElem? hr))
   have j0 : (0 : Int) ≤ (k : Int) := by omega
   have j1 : (k : Int) < (n : Int) := by omega
   have ST := Lib.hid (leastL_step T hr)
   clear hP hR hc hr
   go_upto_region 6 with (fail)
   obtain ⟨W4, hW4, q4, hb4, _⟩ := boxK wr r
   rw [← hW4]
   clear hW4 x0 x1 x2 x3 x4 x5 x6 x7
   have BS4 := Lib.hid (BS.out.below hb4)
   obtain ⟨x0, x1, x2, x3, x4, x5, x6, x7⟩ := rk_row q4
   obtain ⟨t0, t1, t2, t3, t4, t5, t6, t7⟩ := rk_row BS4.out.t
   have QR := Lib.hid q4
   generalize wr.heap.size = rb at x0 x1 x2 x3 x4 x5 x6 x7 QR ⊢
   clear q4 hb4 BS
   by_cases h0 : aheadI r T = 0
   ·have ST2 : Hid (leastL T (l.take (k + 1)) = match getL (leastL T (l.take k)) r.first with | none => putL (leastL T (l.take k)) r.first r.med | some m => if r.med < m then putL (leastL T (l.take k)) r.first r.med else leastL T (l.take k)) := Lib.hid (by rw [ST.out]; unfold leastP; rw [if_pos h0])
    have LN2 : Hid ((leastL T (l.take (k + 1))).length ≤ k + 1) := Lib.hid (by rw [ST.out]; have := leastP_len T (leastL T (l.take k)) r; have := HLN.out; omega)
    have HLM : Hid ((leastL T (l.take k)).length < maxLen) := Lib.hid (by unfold maxLen; have := HLN.out; omega)
    rw [h0] at AH
    clear h0 ST HLN
    generalize leastL T (l.take k) = L at BS4 ST2 HLM
    go_wp2_with fail
    refine (AH.out _).mono ?_
    rintro e w5 ⟨rfl, hb5⟩
    have BS5 := Lib.hid (BS4.out.below hb5)
    have QR5 := Lib.hid ((hb5.block _ (row_lt QR.out)).trans QR.out)
    clear x0 x1 x2 x3 x4 x5 x6 x7 t0 t1 t2 t3 t4 t5 t6 t7 hb5 BS4 QR
    obtain ⟨x0, x1, x2, x3, x4, x5, x6, x7⟩ := rk_row QR5.out
    have hl := BS5.out.m.look int_enc Tryz.underlying246 r.first FO.out zero_int w5 rfl true
    obtain ⟨o, hs, hm⟩ := BS5.out.m.store int_enc Tryz.underlying246 r.first FO.out r.med HLM.out w5 rfl
    cases hg : getL L r.first with
    | none =>
     rw [hg] at hl ST2
     simp only [if_true, Option.map_none, Option.getD_none, Option.isSome_none, nV] at hl
     simp only [nV] at hs
     have BS6 := Lib.hid (BS5.out.put hm)
     have ST3 : Hid (leastL T (l.take (k + 1)) = putL L r.first r.med) := Lib.hid ST2.out
     rw [← ST3.out] at BS6
     clear hg ST2 BS5 hm ST3
     go_wp2_with fail
     exact ⟨⟨k + 1, by omega, by go_num, BS6, LN2⟩, by simp [intOf]; omega⟩
    | some m =>
     rw [hg] at hl ST2
     simp only [if_true, Option.map_some, Option.getD_some, Option.isSome_some, nV] at hl
     simp only [nV] at hs
     by_cases hmm : r.med < m
     ·have BS6 := Lib.hid (BS5.out.put hm)
      have ST3 : Hid (leastL T (l.take (k + 1)) = putL L r.first r.med) := Lib.hid (by rw [ST2.out]; simp only [if_pos hmm])
      rw [← ST3.out] at BS6
      clear hg ST2 BS5 hm ST3
      go_wp2_with fail
      exact ⟨⟨k + 1, by omega, by go_num, BS6, LN2⟩, by simp [intOf]; omega⟩
     ·have ST3 : Hid (leastL T (l.take (k + 1)) = L) := Lib.hid (by rw [ST2.out]; simp only [if_neg hmm])
      rw [← ST3.out] at BS5
      clear hg ST2 hm ST3 hs
      go_wp2_with fail
      exact ⟨⟨k + 1, by omega, by go_num, BS5, LN2⟩, by simp [intOf]; omega⟩
   ·have ST2 : Hid (leastL T (l.take (k + 1)) = leastL T (l.take k)) := Lib.hid (by rw [ST.out]; unfold leastP; rw [if_neg h0])
    have LN2 : Hid ((leastL T (l.take (k + 1))).length ≤ k + 1) := Lib.hid (by rw [ST2.out]; have := HLN.out; omega)
    have n0 : (aheadI r T != 0) = true := by simpa using h0
    rw [← ST2.out] at BS4
    clear h0 ST ST2 HLN
    go_wp2_with fail
    refine (AH.out _).mono ?_
    rintro e w5 ⟨rfl, hb5⟩
    have BS5 := Lib.hid (BS4.out.below hb5)
    have QR5 := Lib.hid ((hb5.block _ (row_lt QR.out)).trans QR.out)
    clear x0 x1 x2 x3 x4 x5 x6 x7 t0 t1 t2 t3 t4 t5 t6 t7 hb5 BS4 QR
    obtain ⟨x0, x1, x2, x3, x4, x5, x6, x7⟩ := rk_row QR5.out
    go_wp2_with fail
    exact ⟨⟨k + 1, by omega, by go_num, BS5, LN2⟩, by simp [intOf]; omega⟩
  ·obtain rfl : n = k := by omega
   rw [← HL.out, List.take_length] at BS
   clear HLN
   obtain ⟨BW, hBW⟩ : ∃ BW, BW = wr.heap.size := ⟨_, rfl⟩
   have G1 : Hid (w.heap.size < BW ∧ tb < BW ∧ mb < BW) := Lib.hid (by rw [hBW]; exact ⟨row_lt BS.out.z, row_lt BS.out.t, BS.out.m.lt⟩)
   have G2 : Hid (BW ≤ wr.heap.size) := Lib.hid (by rw [hBW]; exact Nat.le_refl _)
   clear hBW
   have ON : Hid (wr.ownsRow BW 200 8 (.slice none 0 0) (leftL T (leastL T l) (l.take 0)).length ((leftL T (leastL T l) (l.take 0)).flatMap rkL)) := Lib.hid ⟨by simp [leftL], .inl ⟨rfl, by simp [leftL]⟩⟩
   generalize leastL T l = L at BS EB HNE ON
   go_wp2_with fail
   go_loopw [9, 48] (fun o i wr => ∃ k : Nat, k ≤ n ∧ i = .int .i64 k ∧ Hid (BSt w tb mb T L wr) ∧ Hid (wr.ownsRow BW 200 8 o (leftL T L (l.take k)).length ((leftL T L (l.take k)).flatMap rkL)) ∧ Hid (BW ≤ wr.heap.size) ∧ Hid ((leftL T L (l.take k)).length ≤ k)) (fun _ i _ => n - (intOf i).toNat)
   case atStart => exact ⟨0, by omega, rfl, BS, ON, G2, Lib.hid (by simp [leftL])⟩
   case round =>
    clear BS ON G2
    obtain ⟨k, hk, rfl, BS, ON, G2, LK⟩ := hrel
    by_cases hlt : k < n
    ·obtain ⟨r, hr⟩ : ∃ r, l[k]? = some r := ⟨_, List.getElem?_eq_getElem (by have := HL.out; omega)⟩
     obtain ⟨b, off, hsa, hP⟩ := HV.out lp
     subst hsa
     obtain ⟨cs, _, hR, hc⟩ := hP k r hr
     obtain ⟨x0, x1, x2, x3, x4, x5, x6, x7⟩ := rk_cells hR hc
     have x0 := (BS.out.bel.cell (size_lt x0)).trans x0
     have x1 := (BS.out.bel.cell (size_lt x1)).trans x1
     have x2 := (BS.out.bel.cell (size_lt x2)).trans x2
     have x3 := (BS.out.bel.cell (size_lt x3)).trans x3
     have x4 := (BS.out.bel.cell (size_lt x4)).trans x4
     have x5 := (BS.out.bel.cell (size_lt x5)).trans x5
     have x6 := (BS.out.bel.cell (size_lt x6)).trans x6
     have x7 := (BS.out.bel.cell (size_lt x7)).trans x7
     have AH := Lib.hid (fun W => ch_ahead r T W)
     have FO := Lib.hid (HOK.out r (List.mem_of_getElem? hr))
     have j0 : (0 : Int) ≤ (k : Int) := by omega
     have j1 : (k : Int) < (n : Int) := by omega
     have ST := Lib.hid (leftL_step T L hr)
     clear hP hR hc hr
     go_upto_region 15 with (fail)
     obtain ⟨W4, hW4, q4, hb4, _⟩ := boxK wr r
     rw [← hW4]
     clear hW4 x0 x1 x2 x3 x4 x5 x6 x7
     have BS4 := Lib.hid (BS.out.below hb4)
     have ON4 := Lib.hid (own_below ON.out hb4)
     have G4 := Lib.hid (Nat.le_trans G2.out hb4.size)
     obtain ⟨x0, x1, x2, x3, x4, x5, x6, x7⟩ := rk_row q4
     obtain ⟨t0, t1, t2, t3, t4, t5, t6, t7⟩ := rk_row BS4.out.t
     have QR := Lib.hid q4
     generalize wr.heap.size = rb at x0 x1 x2 x3 x4 x5 x6 x7 QR ⊢
     clear q4 hb4 BS ON G2
     by_cases h0 : aheadI r T = 0
     ·have LB : Hid (leftB T L r = (r.med == (getL L r.first).getD 0)) := Lib.hid (by unfold leftB; rw [h0]; rfl)
      rw [h0] at AH
      clear h0
      go_wp2_with fail
      refine (AH.out _).mono ?_
      rintro e w5 ⟨rfl, hb5⟩
      have BS5 := Lib.hid (BS4.out.below hb5)
      have ON5 := Lib.hid (own_below ON4.out hb5)
      have G5 := Lib.hid (Nat.le_trans G4.out hb5.size)
      have QR5 := Lib.hid ((hb5.block _ (row_lt QR.out)).trans QR.out)
      clear x0 x1 x2 x3 x4 x5 x6 x7 t0 t1 t2 t3 t4 t5 t6 t7 hb5 BS4 ON4 G4 QR
      obtain ⟨x0, x1, x2, x3, x4, x5, x6, x7⟩ := rk_row QR5.out
      have hl := BS5.out.m.look int_enc Tryz.underlying246 r.first FO.out zero_int w5 rfl false
      simp only [Bool.false_eq_true, if_false, look_val] at hl
      generalize (getL L r.first).getD 0 = mm at hl LB
      by_cases hm : r.med = mm
      ·have zm : (r.med == mm) = true := by simpa using hm
       have ST2 : Hid (leftL T L (l.take (k + 1)) = leftL T L (l.take k) ++ [r]) := Lib.hid (by rw [ST.out, LB.out, zm]; rfl)
       clear ST LB hm
       go_wp2_with (at_builtin; refine wpList_append_own_at _ rfl _ _ 197 rfl BW 200 i0 _ 8 64 Tryz.underlying197 hi hz0 hz1 hz2 rfl (by decide) _ (leftL T L (l.take k)).length ((leftL T L (l.take k)).flatMap rkL) rfl (ON5.out.alloc _) ⟨w5.heap.size, 0, none⟩ 1 1 (rkL r) rfl ?ar1 ?br1 ?cr1 ?dr1 ?er1 ?fr1 ?_)
       case ar1 => rfl
       case br1 => exact new_cells _ _ _
       case cr1 => exact rkL_one _
       case dr1 => have := LK.out; unfold maxLen; omega
       case er1 => have := LK.out; omega
       case fr1 => have := G5.out; simp; omega
       intro v' w6 hown hgrow _ _
       have LK2 : Hid ((leftL T L (l.take (k + 1))).length ≤ k + 1) := Lib.hid (by rw [ST2.out, List.length_append]; have := LK.out; simp; omega)
       have O6 : Hid (w6.ownsRow BW 200 8 v' (leftL T L (l.take (k + 1))).length ((leftL T L (l.take (k + 1))).flatMap rkL)) := Lib.hid (by rw [ST2.out, flat_snoc, List.length_append]; exact hown)
       have hba : Below w5.heap.size w5 (w5.alloc (.cells (rkA r) 200)) := (Below.refl _ _).alloc (Nat.le_refl _) _
       have BS6 := Lib.hid ((BS5.out.below hba).grown hgrow (own_form_le ON5.out) G1.out.1 G1.out.2.1 G1.out.2.2)
       have G6 : Hid (BW ≤ w6.heap.size) := Lib.hid (by have := hgrow.size; have := G5.out; simp at *; omega)
       clear hown hgrow hba hl ON5 BS5 G5 ST2 LK
       go_wp2_with fail
       exact ⟨⟨k + 1, by omega, by go_num, BS6, O6, G6, LK2⟩, by simp [intOf]; omega⟩
      ·have zm : (r.med == mm) = false := by simpa using hm
       have ST2 : Hid (leftL T L (l.take (k + 1)) = leftL T L (l.take k)) := Lib.hid (by rw [ST.out, LB.out, zm]; simp)
       have LK2 : Hid ((leftL T L (l.take (k + 1))).length ≤ k + 1) := Lib.hid (by rw [ST2.out]; have := LK.out; omega)
       rw [← ST2.out] at ON5
       clear ST LB hm ST2 LK
       go_wp2_with fail
       exact ⟨⟨k + 1, by omega, by go_num, BS5, ON5, G5, LK2⟩, by simp [intOf]; omega⟩
     ·have ST2 : Hid (leftL T L (l.take (k + 1)) = leftL T L (l.take k)) := Lib.hid (by rw [ST.out]; unfold leftB; rw [decide_eq_false h0]; simp)
      have LK2 : Hid ((leftL T L (l.take (k + 1))).length ≤ k + 1) := Lib.hid (by rw [ST2.out]; have := LK.out; omega)
      have n0 : (aheadI r T == 0) = false := by simpa using h0
      rw [← ST2.out] at ON4
      clear h0 ST ST2 LK
      go_wp2_with fail
      refine (AH.out _).mono ?_
      rintro e w5 ⟨rfl, hb5⟩
      have BS5 := Lib.hid (BS4.out.below hb5)
      have ON5 := Lib.hid (own_below ON4.out hb5)
      have G5 := Lib.hid (Nat.le_trans G4.out hb5.size)
      have QR5 := Lib.hid ((hb5.block _ (row_lt QR.out)).trans QR.out)
      clear x0 x1 x2 x3 x4 x5 x6 x7 t0 t1 t2 t3 t4 t5 t6 t7 hb5 BS4 ON4 G4 QR
      obtain ⟨x0, x1, x2, x3, x4, x5, x6, x7⟩ := rk_row QR5.out
      go_wp2_with fail
      exact ⟨⟨k + 1, by omega, by go_num, BS5, ON5, G5, LK2⟩, by simp [intOf]; omega⟩
    ·obtain rfl : n = k := by omega
     rw [← HL.out, List.take_length] at ON
     clear LK
     obtain ⟨x, xs, hx⟩ : ∃ x xs, leftL T L l = x :: xs := by
      cases hq : leftL T L l with
      | nil => exact absurd hq HNE.out
      | cons x xs => exact ⟨x, xs, rfl⟩
     have ER : Hid (R = minBy behindI x xs) := Lib.hid (by rw [EB.out, hx])
     have SL := own_slat (C := rkL) rkL_len ON.out
     rw [hx] at SL
     have MB := Lib.hid (fun v h => min_behind v x xs wr h)
     have SLH := Lib.hid SL
     clear EB HNE ON SL hx
     go_wp2_with fail
     refine (MB.out _ SLH.out).mono ?_
     rintro e w7 ⟨rfl, hb7⟩
     have BS7 := Lib.hid (BS.out.below hb7)
     clear hb7 SLH MB BS
     go_wp2_with (refine st_row rfl 200 (.tmp 2) (.tmp 71) rfl w.heap.size rfl 200 rkZA (rkA (minBy behindI x xs)) rfl BS7.out.z (by kernel_rfl) rfl (rk_one _) ?_)
     refine bodyPost_ret (results_best _ _ w.heap.size (minBy behindI x xs) ?_ (setRow_heap _ _ _ _ _ _ BS7.out.z)) rfl ⟨by rw [ER.out], below_setRow BS7.out.bel (Nat.le_refl _) _⟩
     rfl
end Go.Proofs.YtkoidahgbbabiaaGreat
/-
 CHOOSE: plain laws: which one is the best, by definition.
-/
namespace Go.Proofs.YtkoidahgbbabiaaGreat
open Go.RowKit
theorem cmpIc_zero {a b : Int} : cmpIc a b = 0 ↔ a = b := by unfold cmpIc; split <;> (try split) <;> omega
theorem cmpIc_neg {a b : Int} : cmpIc a b < 0 ↔ a < b := by unfold cmpIc; split <;> (try split) <;> omega
theorem or3_neg {x y z : Int} : or3 x y z < 0 ↔ x < 0 ∨ (x = 0 ∧ (y < 0 ∨ (y = 0 ∧ z < 0))) := by unfold or3; split <;> (try split) <;> omega
theorem or3_zero {x y z : Int} : or3 x y z = 0 ↔ x = 0 ∧ y = 0 ∧ z = 0 := by unfold or3; split <;> (try split) <;> omega
def AhP (q r : Rk) : Prop := r.loc < q.loc ∨ (q.loc = r.loc ∧ (q.hops < r.hops ∨ (q.hops = r.hops ∧ q.origin < r.origin)))
def EqP (q r : Rk) : Prop := q.loc = r.loc ∧ q.hops = r.hops ∧ q.origin = r.origin
def BhP (q r : Rk) : Prop := q.id < r.id ∨ (q.id = r.id ∧ (q.peer < r.peer ∨ (q.peer = r.peer ∧ q.place < r.place)))
theorem ahead_neg {q r : Rk} : aheadI q r < 0 ↔ AhP q r := by
 unfold aheadI AhP
 rw [or3_neg, cmpIc_neg, cmpIc_zero, cmpIc_neg, cmpIc_zero, cmpIc_neg]
 constructor <;> rintro (h | ⟨h1, h | ⟨h2, h3⟩⟩) <;> omega
theorem ahead_zero {q r : Rk} : aheadI q r = 0 ↔ EqP q r := by
 unfold aheadI EqP
 rw [or3_zero, cmpIc_zero, cmpIc_zero, cmpIc_zero]
 constructor <;> rintro ⟨h1, h2, h3⟩ <;> exact ⟨h1.symm, h2, h3⟩
theorem behind_neg {q r : Rk} : behindI q r < 0 ↔ BhP q r := by
 unfold behindI BhP
 rw [or3_neg, cmpIc_neg, cmpIc_zero, cmpIc_neg, cmpIc_zero, cmpIc_neg]
 constructor <;> rintro (h | ⟨h1, h | ⟨h2, h3⟩⟩) <;> omega
theorem minBy_spec (f : Rk → Rk → Int) (irr : ∀ x, ¬ f x x < 0) (tr : ∀ x y z, f x y < 0 → f y z < 0 → f x z < 0) : ∀ (l : List Rk) (r : Rk), minBy f r l ∈ r :: l ∧ ∀ x ∈ r :: l, ¬ f x (minBy f r l) < 0
 | [], r => ⟨List.mem_cons_self .., fun x hx => by rw [List.mem_singleton.1 hx]; exact irr r⟩
 | y :: l, r => by
  have e : minBy f r (y :: l) = minBy f (if f y r < 0 then y else r) l := rfl
  rw [e]
  by_cases h : f y r < 0
  ·rw [if_pos h]
   obtain ⟨h1, h2⟩ := minBy_spec f irr tr l y
   refine ⟨List.mem_cons_of_mem _ h1, fun x hx => ?_⟩
   rcases List.mem_cons.1 hx with rfl | hx
   ·intro hlt
    exact h2 y (List.mem_cons_self ..) (tr _ _ _ h hlt)
   ·exact h2 x hx
  ·rw [if_neg h]
   obtain ⟨h1, h2⟩ := minBy_spec f irr tr l r
   refine ⟨?_, fun x hx => ?_⟩
   ·rcases List.mem_cons.1 h1 with h3 | h3
    ·rw [h3]; exact List.mem_cons_self ..
    ·exact List.mem_cons_of_mem _ (List.mem_cons_of_mem _ h3)
   ·rcases List.mem_cons.1 hx with rfl | hx
    ·exact h2 _ (List.mem_cons_self ..)
    ·rcases List.mem_cons.1 hx with rfl | hx
     ·intro hlt
      rcases List.mem_cons.1 h1 with h3 | h3
      ·rw [h3] at hlt; exact h hlt
      ·have h4 := h2 r (List.mem_cons_self ..)
       exact minBy_gap f irr tr l r x h hlt
     ·exact h2 x (List.mem_cons_of_mem _ hx)
where
 minBy_gap (f : Rk → Rk → Int) (irr : ∀ x, ¬ f x x < 0) (tr : ∀ x y z, f x y < 0 → f y z < 0 → f x z < 0) (l : List Rk) (r x : Rk) (h : ¬ f x r < 0) : f x (minBy f r l) < 0 → False := by
  induction l generalizing r with
  | nil => exact h
  | cons y l ih =>
   have e : minBy f r (y :: l) = minBy f (if f y r < 0 then y else r) l := rfl
   rw [e]
   by_cases hy : f y r < 0
   ·rw [if_pos hy]
    exact ih y (fun hxy => h (tr _ _ _ hxy hy))
   ·rw [if_neg hy]; exact ih r h
theorem ah_irr (x : Rk) : ¬ aheadI x x < 0 := by rw [ahead_neg]; unfold AhP; omega
theorem ah_tr (x y z : Rk) : aheadI x y < 0 → aheadI y z < 0 → aheadI x z < 0 := by simp only [ahead_neg]; unfold AhP; omega
theorem bh_irr (x : Rk) : ¬ behindI x x < 0 := by rw [behind_neg]; unfold BhP; omega
theorem bh_tr (x y z : Rk) : behindI x y < 0 → behindI y z < 0 → behindI x z < 0 := by simp only [behind_neg]; unfold BhP; omega
theorem least_spec (T : Rk) (l : List Rk) : ∀ k, k ≤ l.length →
  (∀ r ∈ l.take k, EqP r T → ∃ m, getL (leastL T (l.take k)) r.first = some m ∧ m ≤ r.med) ∧
  (∀ f m, getL (leastL T (l.take k)) f = some m → ∃ r ∈ l.take k, EqP r T ∧ r.first = f ∧ r.med = m)
 | 0, _ => ⟨fun r hr => by simp at hr, fun f m h => by simp [leastL, getL] at h⟩
 | k + 1, hk => by
  obtain ⟨i1, i2⟩ := least_spec T l k (by omega)
  obtain ⟨r, hr⟩ : ∃ r, l[k]? = some r := ⟨_, List.getElem?_eq_getElem hk⟩
  obtain ⟨g1, g2⟩ := List.getElem?_eq_some_iff.1 hr
  have ht : l.take (k + 1) = l.take k ++ [r] := by rw [List.take_succ_eq_append_getElem g1, g2]
  have hst := leastL_step T hr
  have hmem : ∀ x, x ∈ l.take (k + 1) ↔ x ∈ l.take k ∨ x = r := fun x => by rw [ht]; simp
  generalize leastL T (l.take k) = L at *
  generalize leastL T (l.take (k + 1)) = L' at *
  subst hst
  unfold leastP
  by_cases h0 : aheadI r T = 0
  ·rw [if_pos h0]
   have hE := ahead_zero.1 h0
   cases hg : getL L r.first with
   | none =>
    simp only
    refine ⟨fun x hx hxE => ?_, fun f m hm => ?_⟩
    ·rw [getL_put]
     by_cases hf : x.first = r.first
     ·rw [if_pos hf]
      rcases (hmem x).1 hx with hx | rfl
      ·obtain ⟨m, hm, _⟩ := i1 x hx hxE
       rw [hf, hg] at hm; cases hm
      ·exact ⟨_, rfl, Int.le_refl _⟩
     ·rw [if_neg hf]
      rcases (hmem x).1 hx with hx | rfl
      ·exact i1 x hx hxE
      ·exact absurd rfl hf
    ·rw [getL_put] at hm
     by_cases hf : f = r.first
     ·rw [if_pos hf] at hm
      exact ⟨r, (hmem r).2 (.inr rfl), hE, hf.symm, Option.some.inj hm⟩
     ·rw [if_neg hf] at hm
      obtain ⟨x, hx, h⟩ := i2 f m hm
      exact ⟨x, (hmem x).2 (.inl hx), h⟩
   | some m0 =>
    simp only
    by_cases hlt : r.med < m0
    ·rw [if_pos hlt]
     refine ⟨fun x hx hxE => ?_, fun f m hm => ?_⟩
     ·rw [getL_put]
      by_cases hf : x.first = r.first
      ·rw [if_pos hf]
       refine ⟨_, rfl, ?_⟩
       rcases (hmem x).1 hx with hx | rfl
       ·obtain ⟨m, hm, hle⟩ := i1 x hx hxE
        rw [hf, hg] at hm; cases hm; omega
       ·exact Int.le_refl _
      ·rw [if_neg hf]
       rcases (hmem x).1 hx with hx | rfl
       ·exact i1 x hx hxE
       ·exact absurd rfl hf
     ·rw [getL_put] at hm
      by_cases hf : f = r.first
      ·rw [if_pos hf] at hm
       exact ⟨r, (hmem r).2 (.inr rfl), hE, hf.symm, Option.some.inj hm⟩
      ·rw [if_neg hf] at hm
       obtain ⟨x, hx, h⟩ := i2 f m hm
       exact ⟨x, (hmem x).2 (.inl hx), h⟩
    ·rw [if_neg hlt]
     refine ⟨fun x hx hxE => ?_, fun f m hm => ?_⟩
     ·rcases (hmem x).1 hx with hx | rfl
      ·exact i1 x hx hxE
      ·exact ⟨m0, hg, by omega⟩
     ·obtain ⟨x, hx, h⟩ := i2 f m hm
      exact ⟨x, (hmem x).2 (.inl hx), h⟩
  ·rw [if_neg h0]
   refine ⟨fun x hx hxE => ?_, fun f m hm => ?_⟩
   ·rcases (hmem x).1 hx with hx | rfl
    ·exact i1 x hx hxE
    ·exact absurd (ahead_zero.2 hxE) h0
   ·obtain ⟨x, hx, h⟩ := i2 f m hm
    exact ⟨x, (hmem x).2 (.inl hx), h⟩
def InLeft (l : List Rk) (r : Rk) : Prop := (∀ q ∈ l, ¬ AhP q r) ∧ ∀ q ∈ l, EqP q r → q.first = r.first → r.med ≤ q.med
structure IsBest (l : List Rk) (r : Rk) : Prop where
 mem : r ∈ l
 left : InLeft l r
 last : ∀ q ∈ l, InLeft l q → ¬ BhP q r
theorem eq_ah {q r s : Rk} (h : EqP r s) : AhP q r ↔ AhP q s := by
 obtain ⟨h1, h2, h3⟩ := h; unfold AhP; rw [h1, h2, h3]
theorem top_eq {l : List Rk} {T q : Rk} (hT : T ∈ l) (h : ∀ x ∈ l, ¬ AhP x T) (hq : q ∈ l) (h2 : ∀ x ∈ l, ¬ AhP x q) : EqP q T := by
 have a := h q hq
 have b := h2 T hT
 unfold AhP at a b
 unfold EqP
 omega
theorem left_iff {l : List Rk} {T : Rk} (hT : T ∈ l) (h : ∀ x ∈ l, ¬ AhP x T) (r : Rk) (hr : r ∈ l) : leftB T (leastL T l) r = true ↔ InLeft l r := by
 obtain ⟨s1, s2⟩ := least_spec T l l.length (Nat.le_refl _)
 rw [List.take_length] at s1 s2
 unfold leftB
 rw [Bool.and_eq_true, decide_eq_true_eq, ahead_zero, beq_iff_eq]
 constructor
 ·rintro ⟨hE, hm⟩
  refine ⟨fun q hq => by rw [eq_ah hE]; exact h q hq, fun q hq hqE hf => ?_⟩
  have hqT : EqP q T := ⟨hqE.1.trans hE.1, hqE.2.1.trans hE.2.1, hqE.2.2.trans hE.2.2⟩
  obtain ⟨m, g1, g2⟩ := s1 q hq hqT
  rw [hf] at g1
  rw [hm, g1]
  exact g2
 ·rintro ⟨h1, h2⟩
  have hE := top_eq hT h hr h1
  refine ⟨hE, ?_⟩
  obtain ⟨m, g1, g2⟩ := s1 r hr hE
  obtain ⟨q, hq, qE, qf, qm⟩ := s2 _ _ g1
  have := h2 q hq ⟨qE.1.trans hE.1.symm, qE.2.1.trans hE.2.1.symm, qE.2.2.trans hE.2.2.symm⟩ qf
  rw [g1]
  show r.med = m
  omega
theorem top_spec (r0 : Rk) (rs : List Rk) : minBy aheadI r0 rs ∈ r0 :: rs ∧ ∀ x ∈ r0 :: rs, ¬ AhP x (minBy aheadI r0 rs) := by
 obtain ⟨h1, h2⟩ := minBy_spec aheadI ah_irr ah_tr rs r0
 exact ⟨h1, fun x hx => by rw [← ahead_neg]; exact h2 x hx⟩
theorem left_ne (r0 : Rk) (rs : List Rk) : leftL (minBy aheadI r0 rs) (leastL (minBy aheadI r0 rs) (r0 :: rs)) (r0 :: rs) ≠ [] := by
 obtain ⟨h1, h2⟩ := top_spec r0 rs
 obtain ⟨s1, s2⟩ := least_spec (minBy aheadI r0 rs) (r0 :: rs) (r0 :: rs).length (Nat.le_refl _)
 rw [List.take_length] at s1 s2
 obtain ⟨m, g1, g2⟩ := s1 _ h1 ⟨rfl, rfl, rfl⟩
 obtain ⟨q, hq, qE, qf, qm⟩ := s2 _ _ g1
 intro he
 have hin : q ∈ leftL (minBy aheadI r0 rs) (leastL (minBy aheadI r0 rs) (r0 :: rs)) (r0 :: rs) := by
  unfold leftL
  rw [List.mem_filter]
  refine ⟨hq, ?_⟩
  unfold leftB
  rw [Bool.and_eq_true, decide_eq_true_eq, ahead_zero, beq_iff_eq]
  refine ⟨qE, ?_⟩
  rw [qf, g1]; exact qm
 rw [he] at hin
 simp at hin
theorem best_spec (r0 : Rk) (rs : List Rk) : IsBest (r0 :: rs) (bestR r0 rs) := by
 obtain ⟨h1, h2⟩ := top_spec r0 rs
 have hne := left_ne r0 rs
 have hin : ∀ q, q ∈ leftL (minBy aheadI r0 rs) (leastL (minBy aheadI r0 rs) (r0 :: rs)) (r0 :: rs) ↔ q ∈ r0 :: rs ∧ InLeft (r0 :: rs) q := fun q => by
  unfold leftL
  rw [List.mem_filter]
  constructor
  ·rintro ⟨a, b⟩; exact ⟨a, (left_iff h1 h2 q a).1 b⟩
  ·rintro ⟨a, b⟩; exact ⟨a, (left_iff h1 h2 q a).2 b⟩
 unfold bestR
 cases hL : leftL (minBy aheadI r0 rs) (leastL (minBy aheadI r0 rs) (r0 :: rs)) (r0 :: rs) with
 | nil => exact absurd hL hne
 | cons x xs =>
  rw [hL] at hin
  simp only
  obtain ⟨b1, b2⟩ := minBy_spec behindI bh_irr bh_tr xs x
  obtain ⟨c1, c2⟩ := (hin _).1 b1
  exact ⟨c1, c2, fun q hq hl => by rw [← behind_neg]; exact b2 q ((hin q).2 ⟨hq, hl⟩)⟩
theorem best_one {l : List Rk} {r s : Rk} (hr : IsBest l r) (hs : IsBest l s) (hp : ∀ q ∈ l, ∀ q' ∈ l, q.place = q'.place → q = q') : r = s := by
 have a := hr.last s hs.mem hs.left
 have b := hs.last r hr.mem hr.left
 refine hp r hr.mem s hs.mem ?_
 unfold BhP at a b
 omega
end Go.Proofs.YtkoidahgbbabiaaGreat
/-
 CHOOSE: Best; a route of so many hops.
-/
namespace Go.Proofs.YtkoidahgbbabiaaGreat
open Go.RowKit
def bestI (xs : List Cd) : Int := match rksOf xs with | [] => -1 | r :: rs => (bestR r rs).place
theorem path_first {w : World} {v : Value} {p : List Sg} (h : PathAt w v p) : I64r (firstN p) := by
 cases p with
 | nil => exact ⟨by decide, by decide⟩
 | cons s p =>
  obtain ⟨sa, cap, _, _, _, hV⟩ := h
  obtain ⟨b, off, _, hP⟩ := hV (by simp)
  obtain ⟨cs, _, ⟨u, _, sb, cb, _, _, _, hL⟩, _⟩ := hP 0 s rfl
  obtain ⟨set, ss⟩ := s
  cases set
  ·cases ss with
   | nil => exact ⟨by simp [firstN], by simp [firstN]⟩
   | cons x ss =>
    obtain ⟨b', off', _, hQ⟩ := hL (by simp)
    obtain ⟨cs, _, ⟨_, hx⟩, _⟩ := hQ 0 x rfl
    exact hx
  ·exact ⟨by simp [firstN], by simp [firstN]⟩
theorem cds_first {w : World} {v : Value} {xs : List Cd} (h : CdsAt w v xs) : ∀ c ∈ xs, I64r (firstN c.a.path) := by
 intro c hc
 obtain ⟨i, hi⟩ := List.getElem?_of_mem hc
 obtain ⟨sa, cap, _, _, _, hV⟩ := h
 obtain ⟨b, off, _, hP⟩ := hV (by have := (List.getElem?_eq_some_iff.1 hi).1; omega)
 obtain ⟨cs, _, ⟨vp, vc, vo, _, _, hA⟩, _⟩ := hP i c hi
 exact path_first hA.1
theorem rksOf_get {xs : List Cd} {i : Nat} {c : Cd} (h : xs[i]? = some c) : (rksOf xs)[i]? = some (rkOf i c) := by
 unfold rksOf
 rw [List.getElem?_mapIdx, h]; rfl
theorem rksOf_mem {xs : List Cd} {r : Rk} : r ∈ rksOf xs ↔ ∃ (i : Nat) (c : Cd), xs[i]? = some c ∧ r = rkOf i c := by
 constructor
 ·intro h
  obtain ⟨i, hi⟩ := List.getElem?_of_mem h
  unfold rksOf at hi
  rw [List.getElem?_mapIdx] at hi
  cases hx : xs[i]? with
  | none => rw [hx] at hi; simp at hi
  | some c => rw [hx] at hi; simp at hi; exact ⟨i, c, hx, hi.symm⟩
 ·rintro ⟨i, c, h, rfl⟩
  exact List.mem_of_getElem? (rksOf_get h)
theorem rksOf_place {xs : List Cd} : ∀ q ∈ rksOf xs, ∀ q' ∈ rksOf xs, q.place = q'.place → q = q' := by
 intro q hq q' hq' he
 obtain ⟨i, c, hi, rfl⟩ := rksOf_mem.1 hq
 obtain ⟨j, d, hj, rfl⟩ := rksOf_mem.1 hq'
 have : i = j := by
  have : (i : Int) = (j : Int) := he
  omega
 subst this
 rw [hi] at hj
 cases hj; rfl
theorem bestI_spec {xs : List Cd} (h : xs ≠ []) : ∃ (i : Nat) (c : Cd), xs[i]? = some c ∧ bestI xs = i ∧ IsBest (rksOf xs) (rkOf i c) := by
 unfold bestI
 cases hr : rksOf xs with
 | nil =>
  exfalso
  have := rksOf_len xs
  rw [hr] at this
  exact h (List.length_eq_zero_iff.1 this.symm)
 | cons r rs =>
  have hb := best_spec r rs
  have hm := hb.mem
  rw [← hr] at hm
  obtain ⟨i, c, hi, e⟩ := rksOf_mem.1 hm
  exact ⟨i, c, hi, by simp only [e]; rfl, e ▸ hb⟩
theorem bestI_of {xs : List Cd} {i : Nat} {c : Cd} (h : xs[i]? = some c) (hb : IsBest (rksOf xs) (rkOf i c)) : bestI xs = i := by
 obtain ⟨j, d, hj, e, hb2⟩ := bestI_spec (xs := xs) (by rintro rfl; simp at h)
 have := best_one hb hb2 rksOf_place
 rw [e]
 exact (congrArg Rk.place this).symm
@[go_sem ↓] theorem field_place (r : Rk) (w : World) : (Instr.field 200 (.agg (rkA r)) 0).run Tryz.prog w = .ok (.int .i64 r.place) w := by kernel_rfl
set_option maxHeartbeats 1600000 in
set_option maxRecDepth 100000 in
theorem ch_Best (v : Value) (xs : List Cd) (w : World) (h : CdsAt w v xs) (hn : xs.length ≤ 100000) (hh : ∀ c ∈ xs, hopsN c.a.path ≤ 4611686018427387904) : Calls Tryz.prog 101 #[v] w fun e w' => e = .returned (.int .i64 (bestI xs)) ∧ Below w.heap.size w w' := by
 have RK := Lib.hid (ch_ranks v xs w h hn hh)
 have FI := Lib.hid (cds_first h)
 obtain ⟨sa, cap, rfl, hlc, hcm, _⟩ := h
 unfold maxLen at hcm
 cases xs with
 | nil =>
  go_enter Tryz.func101, Tryz.ntmps101
  go_wp2_with fail
  go_ret
  exact ⟨rfl, Below.refl _ _⟩
 | cons c xs =>
  have n0 : (((c :: xs).length : Nat) : Int) = 0 ↔ False := by simp; omega
  obtain ⟨r, rs, hr⟩ : ∃ r rs, rksOf (c :: xs) = r :: rs := by
   cases hq : rksOf (c :: xs) with
   | nil => have := rksOf_len (c :: xs); rw [hq] at this; simp at this
   | cons r rs => exact ⟨r, rs, rfl⟩
  have hlr : (r :: rs).length = (c :: xs).length := by rw [← hr]; exact rksOf_len _
  have E : Hid (bestI (c :: xs) = (bestR r rs).place) := Lib.hid (by unfold bestI; rw [hr])
  have HF : Hid (∀ q ∈ r :: rs, I64r q.first) := Lib.hid (fun q hq => by
   rw [← hr] at hq
   obtain ⟨i, d, hi, rfl⟩ := rksOf_mem.1 hq
   exact FI.out d (List.mem_of_getElem? hi))
  have hlr' : rs.length ≤ 100000 := by simp only [List.length_cons] at hlr hn; omega
  have RB := Lib.hid (fun v W h => ch_best v r rs W h hlr' HF.out (left_ne r rs))
  rw [hr] at RK
  have HL := Lib.hid hlr
  generalize (c :: xs).length = m at *
  have hm : 0 < m := by rw [← HL.out]; simp
  have n0 : ((m : Int) == 0) = false := by rw [beq_eq_false_iff_ne]; omega
  have hm2 : m ≤ maxLen := by unfold maxLen; omega
  clear hlr hr FI hlr'
  go_enter Tryz.func101, Tryz.ntmps101
  go_wp2_with fail
  refine RK.out.mono ?_
  rintro e w1 ⟨g, rfl, R1, hg, hb1⟩
  have A1 := Lib.hid (R1.at_ HL.out hm2)
  clear R1
  go_wp2_with fail
  refine (RB.out _ _ A1.out).mono ?_
  rintro e w2 ⟨rfl, hb2⟩
  have B2 := Lib.hid (below_on hb1 hb2)
  clear hb1 hb2 A1
  generalize bestR r rs = R at E
  go_wp2_with fail
  go_ret
  exact ⟨ret_int E.out.symm, B2.out⟩
abbrev intL (x : Int) : List Value := [.int .i64 x]
theorem intL_len (x : Int) : (intL x).length = 1 := rfl
theorem info_int : (Tryz.prog.info? 3).map (fun i => (i.zero, i.size, i.bytes)) = some (some (.int .i64 0), 1, 8) := by kernel_rfl
structure Ce where
 c : Cd
 vp : Value
 vc : Value
 vo : Value
def Ce.Ok (w : World) (x : Ce) : Prop := x.c.Rng ∧ AtL w x.c.a x.vp x.vc x.vo
theorem Ce.Ok.below {w w' : World} {x : Ce} (h : x.Ok w) (hb : Below w.heap.size w w') : x.Ok w' := ⟨h.1, h.2.below hb⟩
end Go.Proofs.YtkoidahgbbabiaaGreat
/-
 slices.Index, slices.Contains over integers: where the first one is; whether one is there.
-/
namespace Go.Proofs.YtkoidahgbbabiaaGreat
open Go.RowKit
def idxI (t : Int) : List Int → Nat → Int
 | [], _ => -1
 | r :: rs, k => if t = r then (k : Int) else idxI t rs (k + 1)
theorem idxI_step {t : Int} {rs : List Int} {k : Nat} {r : Int} (h : rs[k]? = some r) : idxI t (rs.drop k) k = if t = r then (k : Int) else idxI t (rs.drop (k + 1)) (k + 1) := by
 obtain ⟨h1, h2⟩ := List.getElem?_eq_some_iff.1 h
 rw [List.drop_eq_getElem_cons h1, h2]; rfl
theorem idxI_has (t : Int) : ∀ (rs : List Int) (k : Nat), decide (idxI t rs k ≥ 0) = rs.contains t
 | [], k => by simp [idxI]
 | r :: rs, k => by
  have ih := idxI_has t rs (k + 1)
  unfold idxI
  rw [List.contains_cons]
  by_cases h : t = r
  ·subst h; simp
  ·rw [if_neg h, ih]
   simp [h]
set_option maxHeartbeats 1600000 in
theorem sl_Index (v : Value) (xs : List Int) (t : Int) (w : World) (h : IntsAt w v xs) : Calls Tryz.prog 168 #[v, .int .i64 t] w fun e w' => e = .returned (.int .i64 (idxI t xs 0)) ∧ w = w' := by
 obtain ⟨sa, cap, rfl, hlc, hcm, hV⟩ := h
 have HV := Lib.hid hV
 unfold maxLen at hcm
 clear hV
 go_enter Tryz.func168, Tryz.ntmps168
 go_wp2_with fail
 go_loopw [8] (fun i wr => ∃ k : Nat, k ≤ xs.length ∧ i = .int .i64 k ∧ Hid (idxI t xs 0 = idxI t (xs.drop k) k) ∧ wr = w) (fun i _ => xs.length - (intOf i).toNat)
 case atStart => exact ⟨0, by omega, rfl, Lib.hid rfl, rfl⟩
 case round =>
  obtain ⟨k, hk, rfl, E, rfl⟩ := hrel
  by_cases hlt : k < xs.length
  ·obtain ⟨r, hr⟩ : ∃ r, xs[k]? = some r := ⟨_, List.getElem?_eq_getElem hlt⟩
   obtain ⟨b, off, hsa, hP⟩ := HV.out (by omega)
   subst hsa
   obtain ⟨cs, _, ⟨rfl, _⟩, hc⟩ := hP k r hr
   have x0 := hc 0 _ rfl
   simp only [Nat.add_zero, Nat.mul_one] at x0
   have E2 : Hid (idxI t xs 0 = if t = r then (k : Int) else idxI t (xs.drop (k + 1)) (k + 1)) := Lib.hid (by rw [E.out, idxI_step hr])
   have j0 : (0 : Int) ≤ (k : Int) := by omega
   have j1 : (k : Int) < (xs.length : Int) := by omega
   clear hP hc hr E
   by_cases hp : t = r
   ·have E3 : Hid (idxI t xs 0 = (k : Int)) := Lib.hid (by rw [E2.out, if_pos hp])
    have hb : (t == r) = true := by simpa using hp
    clear E2 hp
    go_wp2_with fail
    go_ret
    exact ⟨ret_int E3.out.symm, rfl⟩
   ·have E3 : Hid (idxI t xs 0 = idxI t (xs.drop (k + 1)) (k + 1)) := Lib.hid (by rw [E2.out, if_neg hp])
    have hb : (t == r) = false := by simpa using hp
    clear E2 hp
    go_wp2_with fail
    exact ⟨⟨k + 1, by omega, by go_num, E3, trivial⟩, by simp [intOf]; omega⟩
  ·obtain rfl : k = xs.length := by omega
   have E3 : Hid (idxI t xs 0 = -1) := Lib.hid (by rw [E.out, List.drop_length]; rfl)
   clear E
   go_wp2_with fail
   go_ret
   exact ⟨ret_int E3.out.symm, rfl⟩
theorem sl_Contains (v : Value) (xs : List Int) (t : Int) (w : World) (h : IntsAt w v xs) : Calls Tryz.prog 125 #[v, .int .i64 t] w fun e w' => e = .returned (.bool (xs.contains t)) ∧ w = w' := by
 have RI := Lib.hid (sl_Index v xs t w h)
 have EQ := Lib.hid (idxI_has t xs 0)
 generalize idxI t xs 0 = n at RI EQ
 clear h
 go_enter Tryz.func125, Tryz.ntmps125
 go_wp2_with fail
 refine RI.out.mono ?_
 rintro e w1 ⟨rfl, rfl⟩
 go_wp2_with fail
 go_ret
 exact ⟨ret_bool EQ.out, rfl⟩
end Go.Proofs.YtkoidahgbbabiaaGreat
/-
 ATTRIBUTES: Passes: whether a system is on the path.
-/
namespace Go.Proofs.YtkoidahgbbabiaaGreat
open Go.RowKit
theorem box1 (w : World) (C : Array Value) (T : TypeId) : ∃ W0, W0 = w.alloc (.cells C T) ∧ W0.heap[w.heap.size]? = some (.cells C T (0, 0)) ∧ Below w.heap.size w W0 ∧ W0.heap.size = w.heap.size + 1 :=
 ⟨_, rfl, heap_alloc_new w _, (Below.refl _ _).alloc (Nat.le_refl _) _, by simp⟩
theorem boxTwo (w : World) (C : Array Value) (T : TypeId) (Z : Array Value) (U : TypeId) : ∃ W0, W0 = (w.alloc (.cells C T)).alloc (.cells Z U) ∧ W0.heap[w.heap.size]? = some (.cells C T (0, 0)) ∧ W0.heap[w.heap.size + 1]? = some (.cells Z U (0, 0)) ∧ Below w.heap.size w W0 := by
 refine ⟨_, rfl, ?_, ?_, ((Below.refl _ _).alloc (Nat.le_refl _) _).alloc (by simp) _⟩
 ·have h1 := heap_alloc_new w (.cells C T)
  have h2 : Below (w.alloc (.cells C T)).heap.size (w.alloc (.cells C T)) ((w.alloc (.cells C T)).alloc (.cells Z U)) := (Below.refl _ _).alloc (Nat.le_refl _) _
  exact (h2.block _ (row_lt h1)).trans h1
 ·have h1 := heap_alloc_new (w.alloc (.cells C T)) (.cells Z U)
  simpa using h1
def passB (p : List Sg) (t : Int) : Bool := p.any fun s => s.2.contains t
set_option maxHeartbeats 1600000 in
set_option maxRecDepth 100000 in
theorem at_pass1 (b : Bool) (u : Value) (l : List Int) (tb : Nat) (t : Int) (w : World) (hu : IntsAt w u l) (ht : w.cell? ⟨tb, 0, none⟩ = some (.int .i64 t)) :
  Calls Tryz.prog 135 #[.agg #[.bool b, u], .pointer (some ⟨tb, 0, none⟩)] w fun e w' => e = .returned (.bool (l.contains t)) ∧ Below w.heap.size w w' := by
 have HU := Lib.hid hu
 go_enter Tryz.func135, Tryz.ntmps135
 go_upto_region 1 with (fail)
 obtain ⟨W0, hW0, q0, hb0, -⟩ := box1 w #[.bool b, u] 121
 rw [← hW0]
 clear hW0
 have c1 : W0.cell? ⟨w.heap.size, 1, none⟩ = some u := row_cell q0 1
 have t0 := cell_below ht hb0
 have H0 := Lib.hid (HU.out.below hb0)
 clear q0 ht hu
 have CT := Lib.hid (sl_Contains _ l t _ H0.out)
 generalize hz : l.contains t = z at CT
 have HZ := Lib.hid hz
 clear hz
 obtain ⟨sa, cap, rfl, -⟩ := id HU.out
 go_wp2_with fail
 refine CT.out.mono ?_
 rintro e w1 ⟨rfl, rfl⟩
 clear c1 t0
 go_wp2_with fail
 go_ret
 exact ⟨ret_bool HZ.out.symm, hb0⟩
def idxP (t : Int) : List Sg → Nat → Int
 | [], _ => -1
 | r :: rs, k => if r.2.contains t = true then (k : Int) else idxP t rs (k + 1)
theorem idxP_step {t : Int} {rs : List Sg} {k : Nat} {r : Sg} (h : rs[k]? = some r) : idxP t (rs.drop k) k = if r.2.contains t = true then (k : Int) else idxP t (rs.drop (k + 1)) (k + 1) := by
 obtain ⟨h1, h2⟩ := List.getElem?_eq_some_iff.1 h
 rw [List.drop_eq_getElem_cons h1, h2]; rfl
theorem idxP_has (t : Int) : ∀ (rs : List Sg) (k : Nat), decide (idxP t rs k ≥ 0) = passB rs t
 | [], k => by simp [idxP, passB]
 | r :: rs, k => by
  have ih := idxP_has t rs (k + 1)
  unfold idxP
  unfold passB at ih ⊢
  rw [List.any_cons]
  cases h : r.2.contains t
  ·simpa using ih
  ·simp
set_option maxHeartbeats 3200000 in
set_option maxRecDepth 100000 in
theorem at_IndexF (v : Value) (p : List Sg) (tb : Nat) (t : Int) (w : World) (h : PathAt w v p) (ht : w.cell? ⟨tb, 0, none⟩ = some (.int .i64 t)) :
  Calls Tryz.prog 170 #[v, .func (.func 135) #[] #[.pointer (some ⟨tb, 0, none⟩)]] w fun e w' => e = .returned (.int .i64 (idxP t p 0)) ∧ Below w.heap.size w w' := by
 obtain ⟨sa, cap, rfl, hlc, hcm, hV⟩ := h
 have HV := Lib.hid hV
 have HT := Lib.hid ht
 unfold maxLen at hcm
 clear hV ht
 go_enter Tryz.func170, Tryz.ntmps170
 go_wp2_with fail
 go_loopw [8] (fun i wr => ∃ k : Nat, k ≤ p.length ∧ i = .int .i64 k ∧ Hid (idxP t p 0 = idxP t (p.drop k) k) ∧ Hid (Below w.heap.size w wr)) (fun i _ => p.length - (intOf i).toNat)
 case atStart => exact ⟨0, by omega, rfl, Lib.hid rfl, Lib.hid (Below.refl _ _)⟩
 case round =>
  obtain ⟨k, hk, rfl, E, B⟩ := hrel
  by_cases hlt : k < p.length
  ·obtain ⟨r, hr⟩ : ∃ r, p[k]? = some r := ⟨_, List.getElem?_eq_getElem hlt⟩
   obtain ⟨b, off, hsa, hP⟩ := HV.out (by omega)
   subst hsa
   obtain ⟨cs, _, ⟨u, rfl, hu⟩, hc⟩ := hP k r hr
   have x0 := hc 0 _ rfl
   have x1 := hc 1 _ rfl
   simp only [Nat.add_zero] at x0
   have x0 := (B.out.cell (size_lt x0)).trans x0
   have x1 := (B.out.cell (size_lt x1)).trans x1
   have t0 := Lib.hid ((B.out.cell (size_lt HT.out)).trans HT.out)
   have P1 := Lib.hid (at_pass1 r.1 u r.2 tb t wr (hu.below B.out) t0.out)
   obtain ⟨su, cu, rfl, -⟩ := hu
   have E2 : Hid (idxP t p 0 = if r.2.contains t = true then (k : Int) else idxP t (p.drop (k + 1)) (k + 1)) := Lib.hid (by rw [E.out, idxP_step hr])
   have j0 : (0 : Int) ≤ (k : Int) := by omega
   have j1 : (k : Int) < (p.length : Int) := by omega
   clear hP hc hr E t0
   generalize hz : r.2.contains t = z at P1 E2
   go_wp2_with fail
   refine P1.out.mono ?_
   rintro e w2 ⟨rfl, hb2⟩
   have B2 := Lib.hid (below_on B.out hb2)
   clear hb2 B x0 x1 P1 hz
   cases z
   ·have E3 : Hid (idxP t p 0 = idxP t (p.drop (k + 1)) (k + 1)) := Lib.hid (by rw [E2.out, if_neg (by simp)])
    clear E2
    go_wp2_with fail
    exact ⟨⟨k + 1, by omega, by go_num, E3, B2⟩, by simp [intOf]; omega⟩
   ·have E3 : Hid (idxP t p 0 = (k : Int)) := Lib.hid (by rw [E2.out, if_pos rfl])
    clear E2
    go_wp2_with fail
    go_ret
    exact ⟨ret_int E3.out.symm, B2.out⟩
  ·obtain rfl : p.length = k := by omega
   have E3 : Hid (idxP t p 0 = -1) := Lib.hid (by rw [E.out, List.drop_length]; rfl)
   clear E
   go_wp2_with fail
   go_ret
   exact ⟨ret_int E3.out.symm, B.out⟩
theorem at_ContainsF (v : Value) (p : List Sg) (tb : Nat) (t : Int) (w : World) (h : PathAt w v p) (ht : w.cell? ⟨tb, 0, none⟩ = some (.int .i64 t)) :
  Calls Tryz.prog 134 #[v, .func (.func 135) #[] #[.pointer (some ⟨tb, 0, none⟩)]] w fun e w' => e = .returned (.bool (passB p t)) ∧ Below w.heap.size w w' := by
 have RI := Lib.hid (at_IndexF v p tb t w h ht)
 have EQ := Lib.hid (idxP_has t p 0)
 generalize idxP t p 0 = n at RI EQ
 clear h ht
 go_enter Tryz.func134, Tryz.ntmps134
 go_wp2_with fail
 refine RI.out.mono ?_
 rintro e w1 ⟨rfl, hb⟩
 go_wp2_with fail
 go_ret
 exact ⟨ret_bool EQ.out, hb⟩
set_option maxHeartbeats 1600000 in
set_option maxRecDepth 100000 in
theorem at_Passes (a : At) (vp vc vo : Value) (t : Int) (w : World) (hP : PathAt w vp a.path) : Calls Tryz.prog 94 #[.agg (atV a vp vc vo).toArray, .int .i64 t] w fun e w' => e = .returned (.bool (passB a.path t)) ∧ Below w.heap.size w w' := by
 show Calls Tryz.prog 94 #[.agg #[.int .i64 a.has, .int .i64 a.origin, vp, .int .u32 a.hop, .int .i64 a.med, .int .i64 a.loc, .int .i64 a.aggrAs, .int .u32 a.aggrId, vc, vo], .int .i64 t] w _
 have HP := Lib.hid hP
 obtain ⟨sa, cap, rfl, -⟩ := hP
 go_enter Tryz.func94, Tryz.ntmps94
 go_upto_region 1 with (fail)
 obtain ⟨W0, hW0, q0, q1, hb0⟩ := boxTwo w #[.int .i64 a.has, .int .i64 a.origin, .slice sa a.path.length cap, .int .u32 a.hop, .int .i64 a.med, .int .i64 a.loc, .int .i64 a.aggrAs, .int .u32 a.aggrId, vc, vo] 42 #[.int .i64 t] 3
 rw [← hW0]
 clear hW0
 have c2 : W0.cell? ⟨w.heap.size, 2, none⟩ = some (.slice sa a.path.length cap) := row_cell q0 2
 have t0 : W0.cell? ⟨w.heap.size + 1, 0, none⟩ = some (.int .i64 t) := row_cell q1 0
 have CF := Lib.hid (at_ContainsF _ a.path (w.heap.size + 1) t W0 (HP.out.below hb0) t0)
 clear q0 q1
 go_wp2_with fail
 refine CF.out.mono ?_
 rintro e w1 ⟨rfl, hb⟩
 have hb2 := Lib.hid (below_on hb0 hb)
 clear hb c2 t0 hb0 CF
 go_wp2_with fail
 go_ret
 exact ⟨rfl, hb2.out⟩
end Go.Proofs.YtkoidahgbbabiaaGreat
/-
 PLAIN LAWS ON BITS OF WHOLE NUMBERS: an int under a mask of its lowest bits; two numbers laid side by side.
-/
namespace Go.Proofs.YtkoidahgbbabiaaGreat
theorem ofInt64_nat (x : Int) : (BitVec.ofInt 64 x).toNat = (x % 18446744073709551616).toNat := by
 rw [BitVec.toNat_ofInt]; rfl
theorem and_low_i64 (x : Int) (k : Nat) (hk : k ≤ 62) : bits .and .i64 x ((2 ^ k - 1 : Nat) : Int) = x % ((2 ^ k : Nat) : Int) := by
 have hp : 0 < 2 ^ k := Nat.two_pow_pos k
 have hle : 2 ^ k ≤ 2 ^ 62 := Nat.pow_le_pow_right (by decide) hk
 show IntKind.i64.wrap ((BitVec.ofInt 64 x &&& BitVec.ofInt 64 ((2 ^ k - 1 : Nat) : Int)).toNat : Int) = _
 rw [BitVec.toNat_and, ofInt64_nat, ofInt64_nat]
 have e1 : ((((2 ^ k - 1 : Nat) : Int)) % 18446744073709551616).toNat = 2 ^ k - 1 := by omega
 rw [e1, Nat.and_two_pow_sub_one_eq_mod]
 have hd : ((2 ^ k : Nat) : Int) ∣ 18446744073709551616 := by
  refine ⟨((2 ^ (64 - k) : Nat) : Int), ?_⟩
  rw [← Int.natCast_mul, ← Nat.pow_add, show k + (64 - k) = 64 by omega]
  decide
 have h0 : 0 ≤ x % 18446744073709551616 := Int.emod_nonneg _ (by decide)
 have e2 : (((x % 18446744073709551616).toNat % 2 ^ k : Nat) : Int) = x % ((2 ^ k : Nat) : Int) := by
  rw [Int.natCast_emod, Int.toNat_of_nonneg h0, Int.emod_emod_of_dvd _ hd]
 rw [e2]
 have h1 := Int.emod_nonneg x (show ((2 ^ k : Nat) : Int) ≠ 0 by omega)
 have h2 := Int.emod_lt_of_pos x (show (0 : Int) < ((2 ^ k : Nat) : Int) by omega)
 exact IntWalk.i64_in _ (by omega)
theorem and_65535 (x : Int) : bits .and .i64 x 65535 = x % 65536 := and_low_i64 x 16 (by decide)
theorem or_side (h l : Int) (h0 : 0 ≤ h) (h1 : h < 65536) (l0 : 0 ≤ l) (l1 : l < 65536) : bits .or .i64 (h * 65536) l = h * 65536 + l := by
 obtain ⟨x, rfl⟩ := Int.eq_ofNat_of_zero_le h0
 obtain ⟨y, rfl⟩ := Int.eq_ofNat_of_zero_le l0
 show IntKind.i64.wrap ((BitVec.ofInt 64 ((x : Int) * 65536) ||| BitVec.ofInt 64 (y : Int)).toNat : Int) = _
 rw [BitVec.toNat_or, ofInt64_nat, ofInt64_nat]
 have e1 : (((x : Int) * 65536) % 18446744073709551616).toNat = 2 ^ 16 * x := by omega
 have e2 : (((y : Int)) % 18446744073709551616).toNat = y := by omega
 rw [e1, e2, ← Nat.two_pow_add_eq_or_of_lt (by omega)]
 rw [IntWalk.i64_in _ (by omega)]
 omega
end Go.Proofs.YtkoidahgbbabiaaGreat
/-
 Steps of a region that draws its order, with one look for all conditions.
-/
namespace Go.Proofs.YtkoidahgbbabiaaGreat
open Go.RowKit
theorem atN {α : Type} {l : List α} {n : Nat} {x : α} (h : l[n]? = some x) : (List.toArray l)[n]? = some x := by simpa using h
section
variable {P : Program} {ops : Array Oper} {Q : Exit → Act → World → Prop} {md : Region.Mode} {S : World → Prop}
theorem three {a b c : Bool} (h : (a && (b && c)) = true) : a = true ∧ b = true ∧ c = true := by simpa using h
theorem rgn {i : Nat} {oi : Oper} {fuel : Nat} {listed : Array Bool} {a : Act} {w : World} (hi : ops[i]? = some oi)
  (hk : (Region.noSelect ops && (Region.free md ops listed i && (Region.ready md ops listed).contains i)) = true)
  (hQ : ∀ c a w, Q (.panic c) (a.put oi.dst undef) w → Q (.panic c) a w) (hw : Region.wanted oi (yielded ops a.tmps) = false) (hS : S w)
  (h : wpAnyH P md ops Q S fuel (listed.setIfInBounds i true) (a.put oi.dst undef) w) : wpAnyH P md ops Q S (fuel + 1) listed a w :=
 rg_no hi (three hk).1 (three hk).2.1 (three hk).2.2 hQ hw hS h
theorem rgy {i : Nat} {oi : Oper} {v : Value} {fuel : Nat} {listed : Array Bool} {a : Act} {w : World} (hi : ops[i]? = some oi)
  (hk : (Region.noSelect ops && (Region.free md ops listed i && (Region.ready md ops listed).contains i)) = true)
  (hQ : ∀ c a w, Q (.panic c) (a.put oi.dst v) w → Q (.panic c) a w) (hw : Region.wanted oi (yielded ops a.tmps) = true) (hy : ∀ w, S w → (execOp a.eval oi).run P w = .ok (.value v) w) (hS : S w)
  (h : wpAnyH P md ops Q S fuel (listed.setIfInBounds i true) (a.put oi.dst v) w) : wpAnyH P md ops Q S (fuel + 1) listed a w :=
 rg_yes hi (three hk).1 (three hk).2.1 (three hk).2.2 hQ hw hy hS h
theorem qy (i : Nat) {oi : Oper} (v : Value) {fuel : Nat} {listed : Array Bool} {a : Act} {w : World}
  (hw : Region.wanted oi (yielded ops a.tmps) = true) (hy : ∀ w, S w → (execOp a.eval oi).run P w = .ok (.value v) w) (hS : S w)
  (h : wpAnyH P md ops Q S fuel (listed.setIfInBounds i true) (a.put oi.dst v) w) (hi : ops[i]? = some oi := by exact atN rfl)
  (hk : (Region.noSelect ops && (Region.free md ops listed i && (Region.ready md ops listed).contains i)) = true := by kernel_rfl)
  (hQ : ∀ c a w, Q (.panic c) (a.put oi.dst v) w → Q (.panic c) a w := by exact fun _ _ _ h => h) : wpAnyH P md ops Q S (fuel + 1) listed a w :=
 rgy hi hk hQ hw hy hS h
end
end Go.Proofs.YtkoidahgbbabiaaGreat
/-
 EXPORT: New, Set, Goes: which routes go to whom.
-/
namespace Go.Proofs.YtkoidahgbbabiaaGreat
open Go.RowKit
def commI (h l : Int) : Int := h % 65536 * 65536 + l % 65536
set_option maxHeartbeats 400000 in
theorem export_Of (h l : Int) (w : World) :
  Calls Tryz.prog 126 #[.int .i64 h, .int .i64 l] w fun e w' => e = .returned (.int .i64 (commI h l)) ∧ w = w' := by
 have e1 := and_65535 h
 have e2 := and_65535 l
 have e3 := or_side (h % 65536) (l % 65536) (by omega) (by omega) (by omega) (by omega)
 have h1 : 0 ≤ h % 65536 := by omega
 have h2 : h % 65536 < 65536 := by omega
 go_enter Tryz.func126, Tryz.ntmps126
 go_wp2
 go_ret
 exact ⟨ret_int (by rfl), rfl⟩
theorem ex_isPeer (n : Nat) (hn : n < 16) (w : World) : Calls Tryz.prog 119 #[.int .i64 n] w fun e w' => e = .returned (.bool true) ∧ w = w' := by
 have h0 : ((n : Int) ≥ 0) := by omega
 have h1 : (n : Int) < 16 := by omega
 go_enter Tryz.func119, Tryz.ntmps119
 go_wp2_with fail
 go_ret
 exact ⟨rfl, rfl⟩
structure FilAt (w : World) (fb : Nat) (own : Int) (bl : Nat → Bool) : Prop where
 own : w.cell? ⟨fb, 0, none⟩ = some (.int .i64 own)
 way : ∀ i, i < 256 → w.cell? ⟨fb, 1 + i, none⟩ = some (.bool (bl i))
 free : ∀ i, w.frozen? ⟨fb, i, none⟩ = false
theorem FilAt.below {w w' : World} {fb : Nat} {own : Int} {bl : Nat → Bool} (h : FilAt w fb own bl) (hb : Below w.heap.size w w') : FilAt w' fb own bl :=
 ⟨cell_below h.own hb, fun i hi => cell_below (h.way i hi) hb, fun i => (hb.frozen (p := ⟨fb, i, none⟩) (size_lt h.own)).trans (h.free i)⟩
theorem FilAt.kept {F : Nat → Prop} {w w' : World} {fb : Nat} {own : Int} {bl : Nat → Bool} (h : FilAt w fb own bl) (hk : Kept F w w') (hne : ¬ F fb) : FilAt w' fb own bl :=
 ⟨hk.cell h.own hne, fun i hi => hk.cell (h.way i hi) hne, fun i => (World.frozen?_of_block (w := w) (hk.block fb (size_lt h.own) hne)).trans (h.free i)⟩
def setWay (bl : Nat → Bool) (i : Nat) (b : Bool) (k : Nat) : Bool := if k = i then b else bl k
theorem FilAt.set {w : World} {fb : Nat} {own : Int} {bl : Nat → Bool} (h : FilAt w fb own bl) {i : Nat} (hi : i < 256) (b : Bool) : FilAt (w.setCell ⟨fb, 1 + i, none⟩ (.bool b)) fb own (setWay bl i b) := by
 refine ⟨by rw [World.cell?_setCell_other _ _ _ _ (by intro e; injection e with _ e _; omega)]; exact h.own, fun k hk => ?_, fun k => by rw [World.frozen?_setCell]; exact h.free k⟩
 by_cases e : k = i
 ·subst e
  rw [World.cell?_setCell_same _ _ _ (h.way k hk)]
  unfold setWay
  rw [if_pos rfl]
 ·rw [World.cell?_setCell_other _ _ _ _ (by intro q; injection q with _ q _; omega), h.way k hk]
  unfold setWay
  rw [if_neg e]
def filC (own : Int) : Array Value := #[.int .i64 own] ++ Array.replicate 256 (.bool false)
theorem filC_way (own : Int) (i : Nat) (hi : i < 256) : (filC own)[1 + i]? = some (.bool false) := by
 unfold filC
 rw [Array.getElem?_append_right (by show 1 ≤ 1 + i; omega)]
 rw [show 1 + i - (#[Value.int .i64 own] : Array Value).size = i by show 1 + i - 1 = i; omega, Array.getElem?_replicate, if_pos hi]
theorem filC_own (own : Int) : (filC own)[0]? = some (.int .i64 own) := by
 unfold filC
 rw [Array.getElem?_append_left (by show 0 < 1; omega)]; rfl
theorem fil_new (w : World) (own : Int) : FilAt (w.alloc (.cells (filC own) 164)) w.heap.size own (fun _ => false) := by
 have q := heap_alloc_new w (.cells (filC own) 164)
 exact ⟨by rw [row_cell q]; exact filC_own own, fun i hi => by rw [row_cell q]; exact filC_way own i hi, fun i => row_free q i⟩
theorem fil_built (own : Int) : Tryz.prog.built 164 [(0, .int .i64 own)] = some (filC own) := by kernel_rfl
section
variable {P : Program} {ops : Array Oper} {rest : List Oper} {o : Oper} {a : Act} {w : World} {Q : Exit → Act → World → Prop}
theorem wpList_built (hgd : o.guard = none) (t : TypeId) (parts : Array (Nat × Operand)) (ho : o.op = .build t parts) (l : List (Nat × Value)) (hl : (parts.map fun (i, x) => (i, a.eval x)).toList = l) (cells : Array Value) (hc : P.built t l = some cells)
  (h : wpList P ops Q rest (a.put o.dst (.agg cells)) w) : wpList P ops Q (o :: rest) a w :=
 wpList_plain hgd fun _ hK => wp_build t parts ho (by rw [hl, hc]; rfl) (by rw [hl, hc]; exact hK _ _ h)
end
set_option maxHeartbeats 1600000 in
theorem ex_has (c : Int) (tb : Nat) (vc : Value) (l : List Int) (w : World) (hc : w.cell? ⟨tb, 8, none⟩ = some vc) (hl : IntsAt w vc l) :
  Calls Tryz.prog 124 #[.int .i64 c, .pointer (some ⟨tb, 0, none⟩)] w fun e w' => e = .returned (.bool (l.contains c)) ∧ w = w' := by
 have CT := Lib.hid (sl_Contains _ l c _ hl)
 generalize hz : l.contains c = z at CT
 have HZ := Lib.hid hz
 clear hz
 obtain ⟨sa, cap, rfl, -⟩ := hl
 go_enter Tryz.func124, Tryz.ntmps124
 go_wp2_with fail
 refine CT.out.mono ?_
 rintro e w1 ⟨rfl, rfl⟩
 go_wp2_with fail
 go_ret
 exact ⟨rfl, rfl⟩
set_option maxRecDepth 100000 in
theorem ex_New (own : Int) (w : World) : Calls Tryz.prog 38 #[.int .i64 own] w fun e w' => e = .returned (.pointer (some ⟨w.heap.size, 0, none⟩)) ∧ FilAt w' w.heap.size (own % 65536) (fun _ => false) ∧ Below w.heap.size w w' := by
 have e1 := and_65535 own
 go_enter Tryz.func38, Tryz.ntmps38
 go_wp2_with (refine wpList_built rfl 164 _ rfl [(0, .int .i64 (own % 65536))] ?hl1 (filC (own % 65536)) (fil_built (own % 65536)) ?_)
 go_ret
 exact ⟨rfl, fil_new w _, (Below.refl _ _).alloc (Nat.le_refl _) _⟩
def commB (own : Int) (l : List Int) (t : Int) : Bool := !(l.contains 4294967042 || l.contains 4294967041) && (l.contains (commI own t) || (!l.contains (commI 0 t) && !l.contains (commI 0 own)))
set_option maxHeartbeats 3200000 in
set_option maxRecDepth 100000 in
theorem ex_Set (fb : Nat) (own : Int) (bl : Nat → Bool) (i j : Nat) (b : Bool) (hi : i < 16) (hj : j < 16) (w : World) (h : FilAt w fb own bl) :
  Calls Tryz.prog 70 #[.pointer (some ⟨fb, 0, none⟩), .int .i64 i, .int .i64 j, .bool b] w fun e w' => e = .returned (.int .i64 0) ∧ FilAt w' fb own (setWay bl (i * 16 + j) b) ∧ Kept (fun k => k = fb) w w' := by
 have H := Lib.hid h
 have c0 := h.way (i * 16 + j) (by omega)
 have f0 := h.free (1 + (i * 16 + j))
 rw [← Nat.add_assoc] at c0 f0
 have i0 : (0 : Int) ≤ (i : Int) := by omega
 have i1 : (i : Int) < 16 := by omega
 have j0 : (0 : Int) ≤ (j : Int) := by omega
 have j1 : (j : Int) < 16 := by omega
 have P1 := Lib.hid (ex_isPeer i hi)
 have P2 := Lib.hid (ex_isPeer j hj)
 clear h
 go_enter Tryz.func70, Tryz.ntmps70
 go_wp2_with fail
 refine (P1.out _).mono ?_
 rintro e w1 ⟨rfl, rfl⟩
 go_wp2_with fail
 refine (P2.out _).mono ?_
 rintro e w1 ⟨rfl, rfl⟩
 go_wp2_with fail
 have R := Lib.hid (H.out.set (i := i * 16 + j) (by omega) b)
 rw [← Nat.add_assoc] at R
 go_ret
 exact ⟨rfl, R.out, Kept.setCell _ _ rfl⟩
def goesB (own : Int) (bl : Nat → Bool) (a : At) (i j : Nat) (t : Int) : Bool := !(i == j || passB a.path t) && !bl (i * 16 + j) && commB own a.comms t
abbrev atC (a : At) (vp vc vo : Value) : Array Value := #[.int .i64 a.has, .int .i64 a.origin, vp, .int .u32 a.hop, .int .i64 a.med, .int .i64 a.loc, .int .i64 a.aggrAs, .int .u32 a.aggrId, vc, vo]
theorem at_block {W : World} {b : Nat} {c0 c1 c2 c3 c4 c5 c6 c7 c8 c9 : Value} {T : TypeId} (q : W.heap[b]? = some (.cells #[c0, c1, c2, c3, c4, c5, c6, c7, c8, c9] T (0, 0))) :
  W.cell? ⟨b, 0, none⟩ = some c0 ∧ W.cell? ⟨b, 1, none⟩ = some c1 ∧ W.cell? ⟨b, 2, none⟩ = some c2 ∧ W.cell? ⟨b, 3, none⟩ = some c3 ∧ W.cell? ⟨b, 4, none⟩ = some c4 ∧ W.cell? ⟨b, 5, none⟩ = some c5 ∧ W.cell? ⟨b, 6, none⟩ = some c6 ∧ W.cell? ⟨b, 7, none⟩ = some c7 ∧ W.cell? ⟨b, 8, none⟩ = some c8 ∧ W.cell? ⟨b, 9, none⟩ = some c9 :=
 ⟨row_cell q 0, row_cell q 1, row_cell q 2, row_cell q 3, row_cell q 4, row_cell q 5, row_cell q 6, row_cell q 7, row_cell q 8, row_cell q 9⟩
set_option maxHeartbeats 6400000 in
set_option maxRecDepth 100000 in
theorem ex_Goes (fb : Nat) (own : Int) (bl : Nat → Bool) (a : At) (vp vc vo : Value) (i j : Nat) (t : Int) (hi : i < 16) (hj : j < 16) (w : World) (h : FilAt w fb own bl) (hA : AtL w a vp vc vo) :
  Calls Tryz.prog 76 #[.pointer (some ⟨fb, 0, none⟩), .agg (atV a vp vc vo).toArray, .int .i64 i, .int .i64 j, .int .i64 t] w fun e w' => e = .returned (.bool (goesB own bl a i j t)) ∧ Below w.heap.size w w' := by
 show Calls Tryz.prog 76 #[.pointer (some ⟨fb, 0, none⟩), .agg (atC a vp vc vo), .int .i64 i, .int .i64 j, .int .i64 t] w _
 have H := Lib.hid h
 have HA := Lib.hid hA
 have P1 := Lib.hid (ex_isPeer i hi)
 have P2 := Lib.hid (ex_isPeer j hj)
 obtain ⟨d, hd⟩ : ∃ d, (i == j) = d := ⟨_, rfl⟩
 obtain ⟨z, hz⟩ : ∃ z, passB a.path t = z := ⟨_, rfl⟩
 obtain ⟨bb, hbb⟩ : ∃ b, bl (i * 16 + j) = b := ⟨_, rfl⟩
 obtain ⟨x1, hx1⟩ : ∃ x, a.comms.contains 4294967042 = x := ⟨_, rfl⟩
 obtain ⟨x2, hx2⟩ : ∃ x, a.comms.contains 4294967041 = x := ⟨_, rfl⟩
 obtain ⟨x3, hx3⟩ : ∃ x, a.comms.contains (commI own t) = x := ⟨_, rfl⟩
 obtain ⟨x4, hx4⟩ : ∃ x, a.comms.contains (commI 0 t) = x := ⟨_, rfl⟩
 obtain ⟨x5, hx5⟩ : ∃ x, a.comms.contains (commI 0 own) = x := ⟨_, rfl⟩
 have PS := Lib.hid (fun W h => at_Passes a vp vc vo t W h)
 have X1 := Lib.hid (fun tb W => ex_has 4294967042 tb vc a.comms W)
 have X2 := Lib.hid (fun tb W => ex_has 4294967041 tb vc a.comms W)
 have X3 := Lib.hid (fun tb W => ex_has (commI own t) tb vc a.comms W)
 have X4 := Lib.hid (fun tb W => ex_has (commI 0 t) tb vc a.comms W)
 have X5 := Lib.hid (fun tb W => ex_has (commI 0 own) tb vc a.comms W)
 rw [hz] at PS
 rw [hx1] at X1
 rw [hx2] at X2
 rw [hx3] at X3
 rw [hx4] at X4
 rw [hx5] at X5
 have EQ : Hid (goesB own bl a i j t = (!(d || z) && !bb && (!(x1 || x2) && (x3 || (!x4 && !x5))))) := Lib.hid (by unfold goesB commB; rw [hd, hz, hbb, hx1, hx2, hx3, hx4, hx5])
 have CB : Hid (∀ W, Below w.heap.size w W → W.cell? ⟨fb, 1 + i * 16 + j, none⟩ = some (.bool bb)) := Lib.hid (fun W hW => by
  have c0 := (H.out.below hW).way (i * 16 + j) (by omega)
  rw [← Nat.add_assoc, hbb] at c0
  exact c0)
 have hdi : ((i : Int) == (j : Int)) = d := by
  rw [← hd]
  by_cases e : i = j
  ·rw [beq_iff_eq.2 e, beq_iff_eq.2 (show (i : Int) = (j : Int) by omega)]
  ·rw [beq_eq_false_iff_ne.2 e, beq_eq_false_iff_ne.2 (show (i : Int) ≠ (j : Int) by omega)]
 clear hd hz hbb hx1 hx2 hx3 hx4 hx5
 obtain ⟨sp, cp, rfl, -⟩ := id hA.1
 obtain ⟨sc, cc, rfl, -⟩ := id hA.2.1
 obtain ⟨so, co, rfl, -⟩ := id hA.2.2
 have i0 : (0 : Int) ≤ (i : Int) := by omega
 have i1 : (i : Int) < 16 := by omega
 have j0 : (0 : Int) ≤ (j : Int) := by omega
 have j1 : (j : Int) < 16 := by omega
 clear h hA
 go_enter Tryz.func76, Tryz.ntmps76
 go_upto_region 1 with (fail)
 obtain ⟨W0, hW0, qa, hb0, -⟩ := box1 w (atC a (.slice sp a.path.length cp) (.slice sc a.comms.length cc) (.slice so a.others.length co)) 42
 rw [← hW0]
 clear hW0
 have QA := Lib.hid qa
 have B0 := Lib.hid hb0
 obtain ⟨y0, y1, y2, y3, y4, y5, y6, y7, y8, y9⟩ := at_block qa
 have HA0 := Lib.hid (HA.out.below hb0)
 clear qa hb0
 cases d
 ·go_wp2_with fail
  refine (PS.out _ HA0.out.1).mono ?_
  rintro e w1 ⟨rfl, hb1⟩
  have B1 := Lib.hid (below_on B0.out hb1)
  have HA1 := Lib.hid (HA0.out.below hb1)
  have y8 := cell_below y8 hb1
  have Y8 := Lib.hid y8
  clear y0 y1 y2 y3 y4 y5 y6 y7 y9 hb1 HA0 B0 QA
  cases z
  ·go_wp2_with fail
   refine (P1.out _).mono ?_
   rintro e w2 ⟨rfl, rfl⟩
   go_wp2_with fail
   refine (P2.out _).mono ?_
   rintro e w2 ⟨rfl, rfl⟩
   have cb := CB.out _ B1.out
   have c0 := (H.out.below B1.out).own
   cases bb
   ·go_wp2_with fail
    refine (X1.out _ _ Y8.out HA1.out.2.1).mono ?_
    rintro e w2 ⟨rfl, rfl⟩
    cases x1
    ·go_wp2_with fail
     refine (X2.out _ _ Y8.out HA1.out.2.1).mono ?_
     rintro e w2 ⟨rfl, rfl⟩
     cases x2
     ·go_wp2_with fail
      refine (export_Of own t _).mono ?_
      rintro e w2 ⟨rfl, rfl⟩
      go_wp2_with fail
      refine (X3.out _ _ Y8.out HA1.out.2.1).mono ?_
      rintro e w2 ⟨rfl, rfl⟩
      cases x3
      ·go_wp2_with fail
       refine (export_Of 0 t _).mono ?_
       rintro e w2 ⟨rfl, rfl⟩
       go_wp2_with fail
       refine (X4.out _ _ Y8.out HA1.out.2.1).mono ?_
       rintro e w2 ⟨rfl, rfl⟩
       cases x4
       ·go_wp2_with fail
        refine (export_Of 0 own _).mono ?_
        rintro e w2 ⟨rfl, rfl⟩
        go_wp2_with fail
        refine (X5.out _ _ Y8.out HA1.out.2.1).mono ?_
        rintro e w2 ⟨rfl, rfl⟩
        cases x5
        ·go_wp2_with fail
         go_ret
         exact ⟨by rw [EQ.out]; rfl, B1.out⟩
        ·go_wp2_with fail
         go_ret
         exact ⟨by rw [EQ.out]; rfl, B1.out⟩
       ·go_wp2_with fail
        go_ret
        exact ⟨by rw [EQ.out]; rfl, B1.out⟩
      ·go_wp2_with fail
       go_ret
       exact ⟨by rw [EQ.out]; rfl, B1.out⟩
     ·go_wp2_with fail
      go_ret
      exact ⟨by rw [EQ.out]; rfl, B1.out⟩
    ·go_wp2_with fail
     go_ret
     exact ⟨by rw [EQ.out]; rfl, B1.out⟩
   ·go_wp2_with fail
    go_ret
    exact ⟨by rw [EQ.out]; rfl, B1.out⟩
  ·go_wp2_with fail
   go_ret
   exact ⟨by rw [EQ.out]; rfl, B1.out⟩
 ·go_wp2_with fail
  go_ret
  exact ⟨by rw [EQ.out]; rfl, B0.out⟩
end Go.Proofs.YtkoidahgbbabiaaGreat
