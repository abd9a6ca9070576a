/-
  CHOOSE: the best of some ranks (best), as it is found.
-/
import Derived.Test.YtfkplbkllmnfeaaChT
import Derived.Test.YtfkplbkllmnfeaaMapT
import Derived.StillTailTactics
namespace Go.Proofs.Ytfkplbkllmnfeaa
open Go.RowKit

abbrev nV (n : Int) : Value := .int .i64 n
theorem wf_of {n : Int} (h : I64r n) : (Lit.int .i64 n).wf = true := by
  unfold I64r at h; exact WalkArith.wf_i64 (by omega)
theorem int_enc : KeyEnc Try.prog 3 nV I64r where
  K := Maps.int_keyed Try.underlying3
  lit a ha := ⟨_, Maps.keyOf_int_mk Try.underlying3 (wf_of ha)⟩
  inj a b h := by injection h
theorem zero_int (w : World) : (zeroValue 3).run Try.prog w = .ok (nV 0) w := by kernel_rfl
def leastP (T : Rk) (l : List (Int × Int)) (r : Rk) : List (Int × Int) :=
  if aheadI r T = 0 then (match getL l r.first with | none => putL l r.first r.med | some m => if r.med < m then putL l r.first r.med else l) else l
def leastL (T : Rk) (rs : List Rk) : List (Int × Int) := rs.foldl (leastP T) []
def leftB (T : Rk) (l : List (Int × Int)) (r : Rk) : Bool := decide (aheadI r T = 0) && (r.med == (getL l r.first).getD 0)
def leftL (T : Rk) (l : List (Int × Int)) (rs : List Rk) : List Rk := rs.filter (leftB T l)
def bestR (r0 : Rk) (rs : List Rk) : Rk :=
  match leftL (minBy aheadI r0 rs) (leastL (minBy aheadI r0 rs) (r0 :: rs)) (r0 :: rs) with
  | [] => r0
  | x :: xs => minBy behindI x xs
theorem leastL_step (T : Rk) {rs : List Rk} {k : Nat} {r : Rk} (h : rs[k]? = some r) : leastL T (rs.take (k + 1)) = leastP T (leastL T (rs.take k)) r := by
  obtain ⟨h1, h2⟩ := List.getElem?_eq_some_iff.1 h
  unfold leastL
  rw [List.take_succ_eq_append_getElem h1, List.foldl_append, h2]; rfl
theorem leftL_step (T : Rk) (l : List (Int × Int)) {rs : List Rk} {k : Nat} {r : Rk} (h : rs[k]? = some r) : leftL T l (rs.take (k + 1)) = leftL T l (rs.take k) ++ (if leftB T l r then [r] else []) := by
  obtain ⟨h1, h2⟩ := List.getElem?_eq_some_iff.1 h
  unfold leftL
  rw [List.take_succ_eq_append_getElem h1, List.filter_append, h2]
  congr 1
  cases hb : leftB T l r <;> simp [List.filter, hb]
theorem leastP_len (T : Rk) (l : List (Int × Int)) (r : Rk) : (leastP T l r).length ≤ l.length + 1 := by
  unfold leastP
  split
  · split
    · rw [len_put]; split <;> omega
    · split
      · rw [len_put]; split <;> omega
      · omega
  · omega
/-- where the rest of the memory lies, and what it holds. -/
structure BSt (w : World) (tb mb : Nat) (T : Rk) (l : List (Int × Int)) (wr : World) : Prop where
  z : wr.heap[w.heap.size]? = some (.cells rkZA 54 (0, 0))
  t : wr.heap[tb]? = some (.cells (rkA T) 54 (0, 0))
  m : MapT nV nV I64r wr mb l
  bel : Below w.heap.size w wr
  tz : w.heap.size < tb
  mz : w.heap.size < mb
  tm : tb ≠ mb
theorem BSt.below {w wr W : World} {tb mb : Nat} {T : Rk} {l : List (Int × Int)} (h : BSt w tb mb T l wr) (hb : Below wr.heap.size wr W) : BSt w tb mb T l W :=
  ⟨(hb.block _ (row_lt h.z)).trans h.z, (hb.block _ (row_lt h.t)).trans h.t, h.m.below hb, below_on h.bel hb, h.tz, h.mz, h.tm⟩
theorem BSt.put {w wr : World} {tb mb : Nat} {T : Rk} {l l' : List (Int × Int)} {o : Obj} (h : BSt w tb mb T l wr) (hm : MapT nV nV I64r (ChangeMaps.setBlock wr mb o) mb l') : BSt w tb mb T l' (ChangeMaps.setBlock wr mb o) := by
  have k : Kept (fun b => b = mb) wr (ChangeMaps.setBlock wr mb o) := Kept.setBlock o rfl
  refine ⟨(k.block _ (row_lt h.z) (Nat.ne_of_lt h.mz)).trans h.z, (k.block _ (row_lt h.t) h.tm).trans h.t, hm, h.bel.trans (setBlock_below (Nat.le_of_lt h.mz)), h.tz, h.mz, h.tm⟩
theorem BSt.grown {w wr W : World} {tb mb B : Nat} {T : Rk} {l : List (Int × Int)} {row : Option Nat} (h : BSt w tb mb T l wr) (hg : wr.grownBy W row) (hr : ∀ j, row = some j → B ≤ j) (h1 : w.heap.size < B) (h2 : tb < B) (h3 : mb < B) : BSt w tb mb T l W := by
  have key : ∀ b, b < wr.heap.size → b < B → W.heap[b]? = wr.heap[b]? := fun b hb hB => hg.block b hb (fun e => by have := hr b e.symm; omega)
  exact ⟨(key _ (row_lt h.z) h1).trans h.z, (key _ (row_lt h.t) h2).trans h.t, h.m.of_block (key _ h.m.lt h3), h.bel.grown hg h.bel.size (fun j hj => Nat.le_trans (Nat.le_of_lt h1) (hr j hj)), h.tz, h.mz, h.tm⟩
theorem results_best (tmps : Array Value) (W : World) (b : Nat) (r : Rk) (h4 : tmps.getD 2 undef = .pointer (some ⟨b, 0, none⟩)) (hb : W.heap[b]? = some (.cells (rkA r) 54 (0, 0))) :
    (results Try.f18 tmps).run Try.prog W = .ok (.agg (rkA r)) W := results_cell_row Try.results18 tmps W b 54 (rkA r) (0, 0) _ h4 hb Try.underlying54 rfl (by kernel_rfl)
theorem rkL_one (r : Rk) : ∀ u ∈ rkL r, u.oneCell' = true := by
  intro u hu
  simp [rkL] at hu
  rcases hu with rfl | rfl | rfl | rfl | rfl | rfl | rfl | rfl <;> rfl
theorem look_val (l : List (Int × Int)) (f : Int) : ((getL l f).map nV).getD (nV 0) = nV ((getL l f).getD 0) := by cases getL l f <;> rfl
set_option maxHeartbeats 12800000 in
set_option maxRecDepth 100000 in
theorem ch_best (v : Value) (r0 : Rk) (rs : List Rk) (w : World) (h : RksAt w v (r0 :: rs)) (hn : rs.length ≤ 100000) (hok : ∀ r ∈ r0 :: rs, I64r r.first)
    (hne : leftL (minBy aheadI r0 rs) (leastL (minBy aheadI r0 rs) (r0 :: rs)) (r0 :: rs) ≠ []) :
    Calls Try.prog 18 #[v] w fun e w' => e = .returned (.agg (rkA (bestR r0 rs))) ∧ Below w.heap.size w w' := by
  obtain ⟨i0, hi, hz0, hz1, hz2⟩ := info_parts info_rank
  have HR := Lib.hid h
  obtain ⟨sa, cap, rfl, hlc, hcm, hV⟩ := h
  have HV := Lib.hid hV
  have HOK := Lib.hid hok
  unfold maxLen at hcm
  have hmm := @run_makeMap Try.prog
  have EB : Hid (bestR r0 rs = match leftL (minBy aheadI r0 rs) (leastL (minBy aheadI r0 rs) (r0 :: rs)) (r0 :: rs) with | [] => r0 | x :: xs => minBy behindI x xs) := Lib.hid rfl
  have MN := Lib.hid (fun W h => min_ahead (.slice sa (r0 :: rs).length cap) r0 rs W h)
  have LE : Hid ((r0 :: rs).length ≤ 100001) := Lib.hid (by simp; omega)
  have LP : Hid (0 < (r0 :: rs).length) := Lib.hid (by simp)
  have HNE := Lib.hid hne
  clear hV hok hne hn
  generalize minBy aheadI r0 rs = T at EB MN HNE
  generalize bestR r0 rs = R at EB ⊢
  generalize r0 :: rs = l at HR HV HOK EB MN LE LP HNE hlc ⊢
  generalize hll : l.length = n at HR HV LE LP MN hlc ⊢
  have HL := Lib.hid hll
  clear hll
  have le := LE.out
  have lp := LP.out
  go_enter Try.func18, Try.ntmps18
  go_upto_region 1 with (fail)
  obtain ⟨W0, hW0, q0, hb0, hz⟩ := boxKz w
  rw [← hW0]
  clear hW0
  have Q0 := Lib.hid q0
  have HZ := Lib.hid hz
  have H0 := Lib.hid (HR.out.below hb0)
  have B0 := Lib.hid hb0
  clear q0 hz hb0
  go_wp2_with fail
  refine (MN.out _ H0.out).mono ?_
  rintro e w1 ⟨rfl, hb1⟩
  have Q1 := Lib.hid ((hb1.block _ (row_lt Q0.out)).trans Q0.out)
  have B1 := Lib.hid (below_on B0.out hb1)
  have S1 := Lib.hid (row_lt Q1.out)
  clear hb1 Q0 B0 HZ MN H0
  go_upto_region 2 with (fail)
  obtain ⟨W2, hW2, q2, hb2, hz2'⟩ := boxK w1 T
  rw [← hW2]
  clear hW2
  have Q2 := Lib.hid ((hb2.block _ (row_lt Q1.out)).trans Q1.out)
  have QT := Lib.hid q2
  have B2 := Lib.hid (below_on B1.out hb2)
  have HZ2 := Lib.hid hz2'
  clear q2 hb2 hz2' Q1 B1
  go_upto_region 3 with (fail)
  have BS : Hid (BSt w w1.heap.size W2.heap.size T (leastL T (l.take 0)) (W2.alloc (.map #[] 0))) := Lib.hid (by
    have hb3 : Below W2.heap.size W2 (W2.alloc (.map #[] 0)) := (Below.refl _ _).alloc (Nat.le_refl _) _
    have := S1.out
    have := HZ2.out
    exact ⟨(hb3.block _ (row_lt Q2.out)).trans Q2.out, (hb3.block _ (row_lt QT.out)).trans QT.out, MapT.made W2, below_on B2.out hb3, by omega, by omega, by omega⟩)
  clear Q2 QT B2 hmm
  generalize W2.alloc (.map #[] 0) = W3 at BS ⊢
  generalize w1.heap.size = tb at BS ⊢
  generalize W2.heap.size = mb at BS ⊢
  clear S1 HZ2
  go_wp2_with fail
  go_loopw [17] (fun i wr => ∃ k : Nat, k ≤ n ∧ i = .int .i64 k ∧ Hid (BSt w tb mb T (leastL T (l.take k)) wr) ∧ Hid ((leastL T (l.take k)).length ≤ k)) (fun i _ => n - (intOf i).toNat)
  case atStart => exact ⟨0, by omega, rfl, BS, Lib.hid (by simp [leastL])⟩
  case round =>
    clear BS
    obtain ⟨k, hk, rfl, BS, HLN⟩ := hrel
    by_cases hlt : k < n
    · obtain ⟨r, hr⟩ : ∃ r, l[k]? = some r := ⟨_, List.getElem?_eq_getElem (by have := HL.out; omega)⟩
      obtain ⟨b, off, hsa, hP⟩ := HV.out lp
      subst hsa
      obtain ⟨cs, _, hR, hc⟩ := hP k r hr
      obtain ⟨x0, x1, x2, x3, x4, x5, x6, x7⟩ := rk_cells hR hc
      have x0 := (BS.out.bel.cell (size_lt x0)).trans x0
      have x1 := (BS.out.bel.cell (size_lt x1)).trans x1
      have x2 := (BS.out.bel.cell (size_lt x2)).trans x2
      have x3 := (BS.out.bel.cell (size_lt x3)).trans x3
      have x4 := (BS.out.bel.cell (size_lt x4)).trans x4
      have x5 := (BS.out.bel.cell (size_lt x5)).trans x5
      have x6 := (BS.out.bel.cell (size_lt x6)).trans x6
      have x7 := (BS.out.bel.cell (size_lt x7)).trans x7
      have AH := Lib.hid (fun W => ch_ahead r T W)
      have FO := Lib.hid (HOK.out r (List.mem_of_getElem? hr))
      have j0 : (0 : Int) ≤ (k : Int) := by omega
      have j1 : (k : Int) < (n : Int) := by omega
      have ST := Lib.hid (leastL_step T hr)
      clear hP hR hc hr
      go_upto_region 6 with (fail)
      obtain ⟨W4, hW4, q4, hb4, _⟩ := boxK wr r
      rw [← hW4]
      clear hW4 x0 x1 x2 x3 x4 x5 x6 x7
      have BS4 := Lib.hid (BS.out.below hb4)
      obtain ⟨x0, x1, x2, x3, x4, x5, x6, x7⟩ := rk_row q4
      obtain ⟨t0, t1, t2, t3, t4, t5, t6, t7⟩ := rk_row BS4.out.t
      have QR := Lib.hid q4
      generalize wr.heap.size = rb at x0 x1 x2 x3 x4 x5 x6 x7 QR ⊢
      clear q4 hb4 BS
      by_cases h0 : aheadI r T = 0
      · have ST2 : Hid (leastL T (l.take (k + 1)) = match getL (leastL T (l.take k)) r.first with | none => putL (leastL T (l.take k)) r.first r.med | some m => if r.med < m then putL (leastL T (l.take k)) r.first r.med else leastL T (l.take k)) := Lib.hid (by rw [ST.out]; unfold leastP; rw [if_pos h0])
        have LN2 : Hid ((leastL T (l.take (k + 1))).length ≤ k + 1) := Lib.hid (by rw [ST.out]; have := leastP_len T (leastL T (l.take k)) r; have := HLN.out; omega)
        have HLM : Hid ((leastL T (l.take k)).length < maxLen) := Lib.hid (by unfold maxLen; have := HLN.out; omega)
        rw [h0] at AH
        clear h0 ST HLN
        generalize leastL T (l.take k) = L at BS4 ST2 HLM
        go_wp2_with fail
        refine (AH.out _).mono ?_
        rintro e w5 ⟨rfl, hb5⟩
        have BS5 := Lib.hid (BS4.out.below hb5)
        have QR5 := Lib.hid ((hb5.block _ (row_lt QR.out)).trans QR.out)
        clear x0 x1 x2 x3 x4 x5 x6 x7 t0 t1 t2 t3 t4 t5 t6 t7 hb5 BS4 QR
        obtain ⟨x0, x1, x2, x3, x4, x5, x6, x7⟩ := rk_row QR5.out
        have hl := BS5.out.m.look int_enc Try.underlying74 r.first FO.out zero_int w5 rfl true
        obtain ⟨o, hs, hm⟩ := BS5.out.m.store int_enc Try.underlying74 r.first FO.out r.med HLM.out w5 rfl
        cases hg : getL L r.first with
        | none =>
          rw [hg] at hl ST2
          simp only [if_true, Option.map_none, Option.getD_none, Option.isSome_none, nV] at hl
          simp only [nV] at hs
          have BS6 := Lib.hid (BS5.out.put hm)
          have ST3 : Hid (leastL T (l.take (k + 1)) = putL L r.first r.med) := Lib.hid ST2.out
          rw [← ST3.out] at BS6
          clear hg ST2 BS5 hm ST3
          go_wp2_with fail
          exact ⟨⟨k + 1, by omega, by go_num, BS6, LN2⟩, by simp [intOf]; omega⟩
        | some m =>
          rw [hg] at hl ST2
          simp only [if_true, Option.map_some, Option.getD_some, Option.isSome_some, nV] at hl
          simp only [nV] at hs
          by_cases hmm : r.med < m
          · have BS6 := Lib.hid (BS5.out.put hm)
            have ST3 : Hid (leastL T (l.take (k + 1)) = putL L r.first r.med) := Lib.hid (by rw [ST2.out]; simp only [if_pos hmm])
            rw [← ST3.out] at BS6
            clear hg ST2 BS5 hm ST3
            go_wp2_with fail
            exact ⟨⟨k + 1, by omega, by go_num, BS6, LN2⟩, by simp [intOf]; omega⟩
          · have ST3 : Hid (leastL T (l.take (k + 1)) = L) := Lib.hid (by rw [ST2.out]; simp only [if_neg hmm])
            rw [← ST3.out] at BS5
            clear hg ST2 hm ST3 hs
            go_wp2_with fail
            exact ⟨⟨k + 1, by omega, by go_num, BS5, LN2⟩, by simp [intOf]; omega⟩
      · have ST2 : Hid (leastL T (l.take (k + 1)) = leastL T (l.take k)) := Lib.hid (by rw [ST.out]; unfold leastP; rw [if_neg h0])
        have LN2 : Hid ((leastL T (l.take (k + 1))).length ≤ k + 1) := Lib.hid (by rw [ST2.out]; have := HLN.out; omega)
        have n0 : (aheadI r T != 0) = true := by simpa using h0
        rw [← ST2.out] at BS4
        clear h0 ST ST2 HLN
        go_wp2_with fail
        refine (AH.out _).mono ?_
        rintro e w5 ⟨rfl, hb5⟩
        have BS5 := Lib.hid (BS4.out.below hb5)
        have QR5 := Lib.hid ((hb5.block _ (row_lt QR.out)).trans QR.out)
        clear x0 x1 x2 x3 x4 x5 x6 x7 t0 t1 t2 t3 t4 t5 t6 t7 hb5 BS4 QR
        obtain ⟨x0, x1, x2, x3, x4, x5, x6, x7⟩ := rk_row QR5.out
        go_wp2_with fail
        exact ⟨⟨k + 1, by omega, by go_num, BS5, LN2⟩, by simp [intOf]; omega⟩
    · obtain rfl : n = k := by omega
      rw [← HL.out, List.take_length] at BS
      clear HLN
      obtain ⟨BW, hBW⟩ : ∃ BW, BW = wr.heap.size := ⟨_, rfl⟩
      have G1 : Hid (w.heap.size < BW ∧ tb < BW ∧ mb < BW) := Lib.hid (by rw [hBW]; exact ⟨row_lt BS.out.z, row_lt BS.out.t, BS.out.m.lt⟩)
      have G2 : Hid (BW ≤ wr.heap.size) := Lib.hid (by rw [hBW]; exact Nat.le_refl _)
      clear hBW
      have ON : Hid (wr.ownsRow BW 54 8 (.slice none 0 0) (leftL T (leastL T l) (l.take 0)).length ((leftL T (leastL T l) (l.take 0)).flatMap rkL)) := Lib.hid ⟨by simp [leftL], .inl ⟨rfl, by simp [leftL]⟩⟩
      generalize leastL T l = L at BS EB HNE ON
      go_wp2_with fail
      go_loopw [9, 48] (fun o i wr => ∃ k : Nat, k ≤ n ∧ i = .int .i64 k ∧ Hid (BSt w tb mb T L wr) ∧ Hid (wr.ownsRow BW 54 8 o (leftL T L (l.take k)).length ((leftL T L (l.take k)).flatMap rkL)) ∧ Hid (BW ≤ wr.heap.size) ∧ Hid ((leftL T L (l.take k)).length ≤ k)) (fun _ i _ => n - (intOf i).toNat)
      case atStart => exact ⟨0, by omega, rfl, BS, ON, G2, Lib.hid (by simp [leftL])⟩
      case round =>
        clear BS ON G2
        obtain ⟨k, hk, rfl, BS, ON, G2, LK⟩ := hrel
        by_cases hlt : k < n
        · obtain ⟨r, hr⟩ : ∃ r, l[k]? = some r := ⟨_, List.getElem?_eq_getElem (by have := HL.out; omega)⟩
          obtain ⟨b, off, hsa, hP⟩ := HV.out lp
          subst hsa
          obtain ⟨cs, _, hR, hc⟩ := hP k r hr
          obtain ⟨x0, x1, x2, x3, x4, x5, x6, x7⟩ := rk_cells hR hc
          have x0 := (BS.out.bel.cell (size_lt x0)).trans x0
          have x1 := (BS.out.bel.cell (size_lt x1)).trans x1
          have x2 := (BS.out.bel.cell (size_lt x2)).trans x2
          have x3 := (BS.out.bel.cell (size_lt x3)).trans x3
          have x4 := (BS.out.bel.cell (size_lt x4)).trans x4
          have x5 := (BS.out.bel.cell (size_lt x5)).trans x5
          have x6 := (BS.out.bel.cell (size_lt x6)).trans x6
          have x7 := (BS.out.bel.cell (size_lt x7)).trans x7
          have AH := Lib.hid (fun W => ch_ahead r T W)
          have FO := Lib.hid (HOK.out r (List.mem_of_getElem? hr))
          have j0 : (0 : Int) ≤ (k : Int) := by omega
          have j1 : (k : Int) < (n : Int) := by omega
          have ST := Lib.hid (leftL_step T L hr)
          clear hP hR hc hr
          go_upto_region 15 with (fail)
          obtain ⟨W4, hW4, q4, hb4, _⟩ := boxK wr r
          rw [← hW4]
          clear hW4 x0 x1 x2 x3 x4 x5 x6 x7
          have BS4 := Lib.hid (BS.out.below hb4)
          have ON4 := Lib.hid (own_below ON.out hb4)
          have G4 := Lib.hid (Nat.le_trans G2.out hb4.size)
          obtain ⟨x0, x1, x2, x3, x4, x5, x6, x7⟩ := rk_row q4
          obtain ⟨t0, t1, t2, t3, t4, t5, t6, t7⟩ := rk_row BS4.out.t
          have QR := Lib.hid q4
          generalize wr.heap.size = rb at x0 x1 x2 x3 x4 x5 x6 x7 QR ⊢
          clear q4 hb4 BS ON G2
          by_cases h0 : aheadI r T = 0
          · have LB : Hid (leftB T L r = (r.med == (getL L r.first).getD 0)) := Lib.hid (by unfold leftB; rw [h0]; rfl)
            rw [h0] at AH
            clear h0
            go_wp2_with fail
            refine (AH.out _).mono ?_
            rintro e w5 ⟨rfl, hb5⟩
            have BS5 := Lib.hid (BS4.out.below hb5)
            have ON5 := Lib.hid (own_below ON4.out hb5)
            have G5 := Lib.hid (Nat.le_trans G4.out hb5.size)
            have QR5 := Lib.hid ((hb5.block _ (row_lt QR.out)).trans QR.out)
            clear x0 x1 x2 x3 x4 x5 x6 x7 t0 t1 t2 t3 t4 t5 t6 t7 hb5 BS4 ON4 G4 QR
            obtain ⟨x0, x1, x2, x3, x4, x5, x6, x7⟩ := rk_row QR5.out
            have hl := BS5.out.m.look int_enc Try.underlying74 r.first FO.out zero_int w5 rfl false
            simp only [Bool.false_eq_true, if_false, look_val] at hl
            generalize (getL L r.first).getD 0 = mm at hl LB
            by_cases hm : r.med = mm
            · have zm : (r.med == mm) = true := by simpa using hm
              have ST2 : Hid (leftL T L (l.take (k + 1)) = leftL T L (l.take k) ++ [r]) := Lib.hid (by rw [ST.out, LB.out, zm]; rfl)
              clear ST LB hm
              go_wp2_with (at_builtin; refine wpList_append_own_at _ rfl _ _ 56 rfl BW 54 i0 _ 8 64 Try.underlying56 hi hz0 hz1 hz2 rfl (by decide) _ (leftL T L (l.take k)).length ((leftL T L (l.take k)).flatMap rkL) rfl (ON5.out.alloc _) ⟨w5.heap.size, 0, none⟩ 1 1 (rkL r) rfl ?ar1 ?br1 ?cr1 ?dr1 ?er1 ?fr1 ?_)
              case ar1 => rfl
              case br1 => exact new_cells _ _ _
              case cr1 => exact rkL_one _
              case dr1 => have := LK.out; unfold maxLen; omega
              case er1 => have := LK.out; omega
              case fr1 => have := G5.out; simp; omega
              intro v' w6 hown hgrow _ _
              have LK2 : Hid ((leftL T L (l.take (k + 1))).length ≤ k + 1) := Lib.hid (by rw [ST2.out, List.length_append]; have := LK.out; simp; omega)
              have O6 : Hid (w6.ownsRow BW 54 8 v' (leftL T L (l.take (k + 1))).length ((leftL T L (l.take (k + 1))).flatMap rkL)) := Lib.hid (by rw [ST2.out, flat_snoc, List.length_append]; exact hown)
              have hba : Below w5.heap.size w5 (w5.alloc (.cells (rkA r) 54)) := (Below.refl _ _).alloc (Nat.le_refl _) _
              have BS6 := Lib.hid ((BS5.out.below hba).grown hgrow (own_form_le ON5.out) G1.out.1 G1.out.2.1 G1.out.2.2)
              have G6 : Hid (BW ≤ w6.heap.size) := Lib.hid (by have := hgrow.size; have := G5.out; simp at *; omega)
              clear hown hgrow hba hl ON5 BS5 G5 ST2 LK
              go_wp2_with fail
              exact ⟨⟨k + 1, by omega, by go_num, BS6, O6, G6, LK2⟩, by simp [intOf]; omega⟩
            · have zm : (r.med == mm) = false := by simpa using hm
              have ST2 : Hid (leftL T L (l.take (k + 1)) = leftL T L (l.take k)) := Lib.hid (by rw [ST.out, LB.out, zm]; simp)
              have LK2 : Hid ((leftL T L (l.take (k + 1))).length ≤ k + 1) := Lib.hid (by rw [ST2.out]; have := LK.out; omega)
              rw [← ST2.out] at ON5
              clear ST LB hm ST2 LK
              go_wp2_with fail
              exact ⟨⟨k + 1, by omega, by go_num, BS5, ON5, G5, LK2⟩, by simp [intOf]; omega⟩
          · have ST2 : Hid (leftL T L (l.take (k + 1)) = leftL T L (l.take k)) := Lib.hid (by rw [ST.out]; unfold leftB; rw [decide_eq_false h0]; simp)
            have LK2 : Hid ((leftL T L (l.take (k + 1))).length ≤ k + 1) := Lib.hid (by rw [ST2.out]; have := LK.out; omega)
            have n0 : (aheadI r T == 0) = false := by simpa using h0
            rw [← ST2.out] at ON4
            clear h0 ST ST2 LK
            go_wp2_with fail
            refine (AH.out _).mono ?_
            rintro e w5 ⟨rfl, hb5⟩
            have BS5 := Lib.hid (BS4.out.below hb5)
            have ON5 := Lib.hid (own_below ON4.out hb5)
            have G5 := Lib.hid (Nat.le_trans G4.out hb5.size)
            have QR5 := Lib.hid ((hb5.block _ (row_lt QR.out)).trans QR.out)
            clear x0 x1 x2 x3 x4 x5 x6 x7 t0 t1 t2 t3 t4 t5 t6 t7 hb5 BS4 ON4 G4 QR
            obtain ⟨x0, x1, x2, x3, x4, x5, x6, x7⟩ := rk_row QR5.out
            go_wp2_with fail
            exact ⟨⟨k + 1, by omega, by go_num, BS5, ON5, G5, LK2⟩, by simp [intOf]; omega⟩
        · obtain rfl : n = k := by omega
          rw [← HL.out, List.take_length] at ON
          clear LK
          obtain ⟨x, xs, hx⟩ : ∃ x xs, leftL T L l = x :: xs := by
            cases hq : leftL T L l with
            | nil => exact absurd hq HNE.out
            | cons x xs => exact ⟨x, xs, rfl⟩
          have ER : Hid (R = minBy behindI x xs) := Lib.hid (by rw [EB.out, hx])
          have SL := own_slat (C := rkL) rkL_len ON.out
          rw [hx] at SL
          have MB := Lib.hid (fun v h => min_behind v x xs wr h)
          have SLH := Lib.hid SL
          clear EB HNE ON SL hx
          go_wp2_with fail
          refine (MB.out _ SLH.out).mono ?_
          rintro e w7 ⟨rfl, hb7⟩
          have BS7 := Lib.hid (BS.out.below hb7)
          clear hb7 SLH MB BS
          go_wp2_with (refine st_row rfl 54 (.tmp 2) (.tmp 71) rfl w.heap.size rfl 54 rkZA (rkA (minBy behindI x xs)) rfl BS7.out.z (by kernel_rfl) rfl (rk_one _) ?_)
          refine bodyPost_ret (results_best _ _ w.heap.size (minBy behindI x xs) ?_ (setRow_heap _ _ _ _ _ _ BS7.out.z)) rfl ⟨by rw [ER.out], below_setRow BS7.out.bel (Nat.le_refl _) _⟩
          rfl
end Go.Proofs.Ytfkplbkllmnfeaa
