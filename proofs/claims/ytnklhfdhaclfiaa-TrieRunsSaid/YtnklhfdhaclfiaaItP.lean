/-
  THE REFERENCE's LISTS: Put.
-/
import Derived.Test.YtnklhfdhaclfiaaItm
import Derived.Deep.CutBlock
import Derived.Deep.DeepCutAuto
namespace Go.Proofs.Ytnklhfdhaclfiaa
open Go.RowKit

/-- all but the one at place i. -/
def exI (i : Int) : List It3 → Nat → List It3
  | [], _ => []
  | y :: l, k => if (k : Int) = i then exI i l (k + 1) else y :: exI i l (k + 1)
theorem exI_append (i : Int) : ∀ (l m : List It3) (k : Nat), exI i (l ++ m) k = exI i l k ++ exI i m (k + l.length)
  | [], m, k => by simp [exI]
  | y :: l, m, k => by
    have ih := exI_append i l m (k + 1)
    simp only [List.cons_append, exI]
    rw [ih, show k + 1 + l.length = k + (y :: l).length by simp; omega]
    split <;> rfl
theorem exI_len (i : Int) : ∀ (l : List It3) (k : Nat), (exI i l k).length ≤ l.length
  | [], k => by simp [exI]
  | y :: l, k => by
    have ih := exI_len i l (k + 1)
    simp only [exI]
    split <;> simp <;> omega
/-- the reference's Put. -/
def refPut (l : List It3) (most : Int) (x : It3) : List It3 × Int :=
  if rightB (x.1 : Int) x.2.1 then (if findI l x.1 x.2.1 < 0 ∧ most ≤ l.length then (l, 3) else (exI (findI l x.1 x.2.1) l 0 ++ [x], 0)) else (l, 1)
def RefPost (w : World) (l : List It3) (c : Value) (e : Ending) (w' : World) : Prop := ∃ v', e = .returned (.tuple #[v', c]) ∧ ItsAt w' v' l ∧ Below w.heap.size w w'
theorem RefPost.of {w w' : World} {l : List It3} {c : Value} {r : List It3 × Int} {v' : Value} {k : Int} (hr : r = (l, k)) (hc : c = .int .i64 k) (hv : ItsAt w' v' l) (hb : Below w.heap.size w w') : RefPost w r.1 (.int .i64 r.2) (.returned (.tuple #[v', c])) w' := by
  subst hr; subst hc; exact ⟨v', rfl, hv, hb⟩
theorem box_3 (w : World) (a b c : Value) (T : TypeId) : ∃ W0, W0 = w.alloc (.cells #[a, b, c] T) ∧ W0.cell? ⟨w.heap.size, 0, none⟩ = some a ∧ W0.cell? ⟨w.heap.size, 1, none⟩ = some b ∧ W0.cell? ⟨w.heap.size, 2, none⟩ = some c ∧ Below w.heap.size w W0 := by
  refine ⟨_, rfl, ?_, ?_, ?_, (Below.refl _ _).alloc (Nat.le_refl _) _⟩ <;> simp
theorem its_cells (W : World) (x : It3) : ∀ j u, (it3C x)[j]? = some u → (W.alloc (.cells #[.int .u32 x.1, .int .i64 x.2.1, .int .i64 x.2.2] 55)).cell? ((⟨W.heap.size, 0, none⟩ : Addr).add j) = some u := by
  intro j u hu
  have hr := heap_alloc_new W (.cells #[.int .u32 x.1, .int .i64 x.2.1, .int .i64 x.2.2] 55)
  have : (⟨W.heap.size, 0, none⟩ : Addr).add j = ⟨W.heap.size, j, none⟩ := by
    unfold Addr.add; split
    · next h => rw [h]
    · simp
  rw [this, row_cell hr]
  unfold it3C at hu
  simpa using hu
theorem own_snoc {W : World} {B : Nat} {v : Value} {l : List It3} {x : It3} (h : W.ownsRow B 55 3 v (l.length + 1) (rowsOf l ++ it3C x)) : OwnIts W B v (l ++ [x]) := by
  unfold OwnIts
  rw [rowsOf_append, List.length_append]
  simpa [rowsOf] using h
theorem own_none (W : World) (B : Nat) (hB : B ≤ W.heap.size) : OwnIts (W.alloc (.cells #[] 55)) B (.slice (some ⟨W.heap.size, 0, none⟩) 0 0) [] :=
  World.ownsRow_made W #[] 0 hB (by decide) rfl

theorem exI_snoc {i : Int} {l : List It3} {k : Nat} {x : It3} (hx : l[k]? = some x) : exI i (l.take (k + 1)) 0 = exI i (l.take k) 0 ++ (if (k : Int) = i then [] else [x]) := by
  have hk : k < l.length := (List.getElem?_eq_some_iff.1 hx).1
  rw [List.take_add_one, hx, Option.toList_some, exI_append]
  congr 1
  rw [List.length_take, Nat.min_eq_left (by omega), Nat.zero_add]
  rfl
theorem own_ge {W : World} {B : Nat} {v : Value} {l : List It3} (h : OwnIts W B v l) : ∀ j, v.ownBlock = some j → B ≤ j := by
  obtain ⟨_, ⟨rfl, _⟩ | ⟨g, cap, cur, rfl, hg, _⟩⟩ := h
  · intro j hj; cases hj
  · intro j hj
    simp [Value.ownBlock] at hj
    omega
theorem it3_one (x : It3) : ∀ u ∈ it3C x, u.oneCell' = true := by
  intro u hu
  simp [it3C] at hu
  rcases hu with rfl | rfl | rfl <;> rfl

set_option maxHeartbeats 6400000 in
set_option maxRecDepth 100000 in
theorem ref_Put (v : Value) (l : List It3) (most : Int) (x : It3) (w : World) (h : ItsAt w v l) (hl : l.length ≤ 100000) (hx : x.1 < 4294967296) :
    Calls Try.prog 26 #[v, .int .i64 most, .agg #[.int .u32 x.1, .int .i64 x.2.1, .int .i64 x.2.2]] w (RefPost w (refPut l most x).1 (.int .i64 (refPut l most x).2)) := by
  obtain ⟨i0, hi, hz0, hz1, hz2⟩ := info_parts info_item
  obtain ⟨xa, xn, xv⟩ := x
  have RT := Lib.hid (fun W => ref_Right (xa : Int) xn W (by omega) (by simp only at hx; omega))
  have FD := Lib.hid (fun W (hW : ItsAt W v l) => ref_Find v l xa xn W hW)
  have HI := Lib.hid h
  clear h hx
  obtain ⟨sa, cap, hv, hc, hm, hV⟩ := HI.out.view
  have HV := Lib.hid hV
  unfold maxLen at hm
  clear hV
  subst hv
  simp only
  cases hR : rightB (xa : Int) xn
  · have E := Lib.hid (show refPut l most (xa, xn, xv) = (l, 1) by unfold refPut; rw [hR]; rfl)
    go_enter Try.func26, Try.ntmps26
    go_wp2_with fail
    obtain ⟨W0, hW0, c0, c1, c2, hB⟩ := box_3 w (.int .u32 xa) (.int .i64 xn) (.int .i64 xv) 55
    rw [← hW0]; clear hW0
    refine (RT.out _).mono ?_
    rintro e w1 ⟨rfl, hb⟩
    have hB := below_on hB hb
    rw [hR]
    go_wp2_with fail
    exact bodyPost_ret (v := .tuple #[.slice sa l.length cap, .int .i64 1]) (by simp [results, Try.results26, go_sem]) rfl (RefPost.of E.out rfl (HI.out.below hB) hB)
  · have E0 := Lib.hid (show refPut l most (xa, xn, xv) = if findI l xa xn < 0 ∧ most ≤ l.length then (l, 3) else (exI (findI l xa xn) l 0 ++ [(xa, xn, xv)], 0) by unfold refPut; rw [hR]; rfl)
    have hf1 : -1 ≤ findI l xa xn ∧ findI l xa xn ≤ l.length := by have h0 := findF_rng xa xn l 0; simp at h0; have e : findI l xa xn = findF xa xn l 0 := rfl; omega
    generalize hff : findI l xa xn = f at E0 FD hf1
    clear hff
    go_enter Try.func26, Try.ntmps26
    go_wp2_with fail
    obtain ⟨W0, hW0, c0, c1, c2, hB⟩ := box_3 w (.int .u32 xa) (.int .i64 xn) (.int .i64 xv) 55
    rw [← hW0]; clear hW0
    refine (RT.out _).mono ?_
    rintro e w1 ⟨rfl, hb⟩
    have c0 := cell_below c0 hb
    have c1 := cell_below c1 hb
    have c2 := cell_below c2 hb
    have hB := below_on hB hb
    clear hb
    rw [hR]
    go_wp2_with fail
    refine (FD.out _ (HI.out.below hB)).mono ?_
    rintro e w2 ⟨rfl, hb⟩
    have c0 := cell_below c0 hb
    have c1 := cell_below c1 hb
    have c2 := cell_below c2 hb
    have hB := below_on hB hb
    clear hb
    by_cases hfull : f < 0 ∧ most ≤ l.length
    · have E := Lib.hid (E0.out.trans (if_pos hfull))
      obtain ⟨g1, g2⟩ := hfull
      clear E0
      go_wp2_with fail
      exact bodyPost_ret (v := .tuple #[.slice sa l.length cap, .int .i64 3]) (by simp [results, Try.results26, go_sem]) rfl (RefPost.of E.out rfl (HI.out.below hB) hB)
    · have E := Lib.hid (E0.out.trans (if_neg hfull))
      clear E0
      by_cases h0 : f < 0
      · have h1 : ¬ most ≤ (l.length : Int) := fun h => hfull ⟨h0, h⟩
        clear hfull
        go_upto_region 7 with (fail)
        obtain ⟨W3, hW3⟩ : ∃ W3, W3 = w2.alloc (.cells #[] 55) := ⟨_, rfl⟩
        have hb3 : Below w2.heap.size w2 W3 := by rw [hW3]; exact (Below.refl _ _).alloc (Nat.le_refl _) _
        have O3 : Hid (OwnIts W3 w2.heap.size (.slice (some ⟨w2.heap.size, 0, none⟩) 0 0) []) := Lib.hid (by rw [hW3]; exact own_none w2 _ (Nat.le_refl _))
        rw [← hW3]
        clear hW3
        have CC := Lib.hid (And.intro c0 (And.intro c1 c2))
        have BB := Lib.hid hB
        have B3 := Lib.hid hb3
        clear hb3 hB c0 c1 c2
        have ST : ∃ vo : Value, vo = .slice (some ⟨w2.heap.size, 0, none⟩) 0 0 := ⟨_, rfl⟩
        obtain ⟨vo, hvo⟩ := ST
        rw [← hvo] at O3 ⊢
        clear hvo
        go_wp2_with fail
        go_loopw [9, 37] (fun o i wr => ∃ k : Nat, k ≤ l.length ∧ i = .int .i64 k ∧ Hid (OwnIts wr w2.heap.size o (exI f (l.take k) 0)) ∧ Hid (Below w2.heap.size w2 wr)) (fun _ i _ => l.length - (intOf i).toNat)
        case atStart => exact ⟨0, by omega, rfl, O3, B3⟩
        case round =>
          clear O3 B3
          obtain ⟨k, hk, rfl, OW, C⟩ := hrel
          by_cases hlt : k < l.length
          · obtain ⟨y, hy⟩ : ∃ y, l[k]? = some y := ⟨_, List.getElem?_eq_getElem hlt⟩
            obtain ⟨g, hsa, d0, d1, d2⟩ := HV.out k y hy
            subst hsa
            have d0 := ((below_on BB.out C.out).cell (size_lt d0)).trans d0
            have d1 := ((below_on BB.out C.out).cell (size_lt d1)).trans d1
            have d2 := ((below_on BB.out C.out).cell (size_lt d2)).trans d2
            have SN := Lib.hid (exI_snoc (i := f) hy)
            obtain ⟨ya, yn, yv⟩ := y
            simp only at d0 d1 d2
            clear hy
            go_upto_region 10 with (fail)
            obtain ⟨W4, hW4, y0, y1, y2, hb4⟩ := box_3 wr (.int .u32 ya) (.int .i64 yn) (.int .i64 yv) 55
            rw [← hW4]; clear hW4
            have OW4 := Lib.hid (OW.out.below hb4)
            have C4 := Lib.hid (below_on C.out hb4)
            clear hb4 OW C d0 d1 d2
            by_cases hkf : (k : Int) = f
            · have z1 : ((k : Int) != f) = false := by rw [bne_eq_false_iff_eq]; exact hkf
              have OW5 : Hid (OwnIts W4 w2.heap.size u9 (exI f (l.take (k + 1)) 0)) := Lib.hid (by rw [SN.out, if_pos hkf, List.append_nil]; exact OW4.out)
              clear hkf
              go_wp2_with fail
              exact ⟨⟨k + 1, by omega, by go_num, OW5, C4⟩, by simp [intOf]; omega⟩
            · have z1 : ((k : Int) != f) = true := by rw [bne_iff_ne]; exact hkf
              have SN2 := Lib.hid (show exI f (l.take (k + 1)) 0 = exI f (l.take k) 0 ++ [(ya, yn, yv)] by rw [SN.out, if_neg hkf])
              clear hkf SN
              go_wp2_with (at_builtin; refine wpList_append_own _ rfl _ _ 49 rfl w2.heap.size 55 i0 _ 3 24 Try.underlying49 hi hz0 hz1 hz2 rfl (by decide) _ (exI f (l.take k) 0).length (rowsOf (exI f (l.take k) 0)) rfl (OW4.out.alloc _) ⟨W4.heap.size, 0, none⟩ 1 1 (it3C (ya, yn, yv)) rfl ?ar1 ?br1 ?cr1 ?dr1 ?er1 ?fr1 ?_)
              case ar1 => rfl
              case br1 => first | exact its_cells W4 (ya, yn, yv) | exact fun _ _ h => h
              case cr1 => exact it3_one _
              case dr1 => have := exI_len f l 0; have := exI_len f (l.take k) 0; have := List.length_take_le k l; unfold maxLen; omega
              case er1 => have := exI_len f l 0; have := exI_len f (l.take k) 0; have := List.length_take_le k l; omega
              case fr1 => have := C4.out.size; simp; omega
              intro v' w5 hown hgrow _
              have OW5 := Lib.hid (own_snoc hown)
              have B5 := Lib.hid ((C4.out.alloc C4.out.size _).grown hgrow (by have := C4.out.size; simp; omega) (own_ge OW4.out))
              clear hown hgrow
              go_wp2_with fail
              exact ⟨⟨k + 1, by omega, by go_num, Lib.hid (by rw [SN2.out]; exact OW5.out), B5⟩, by simp [intOf]; omega⟩
          · obtain rfl : k = l.length := by omega
            have c0 := (C.out.cell (size_lt CC.out.1)).trans CC.out.1
            have c1 := (C.out.cell (size_lt CC.out.2.1)).trans CC.out.2.1
            have c2 := (C.out.cell (size_lt CC.out.2.2)).trans CC.out.2.2
            have OW4 : Hid (OwnIts wr w2.heap.size u9 (exI f l 0)) := Lib.hid (by have := OW.out; rwa [List.take_length] at this)
            clear OW
            go_wp2_with (at_builtin; refine wpList_append_own _ rfl _ _ 49 rfl w2.heap.size 55 i0 _ 3 24 Try.underlying49 hi hz0 hz1 hz2 rfl (by decide) _ (exI f l 0).length (rowsOf (exI f l 0)) rfl (OW4.out.alloc _) ⟨wr.heap.size, 0, none⟩ 1 1 (it3C (xa, xn, xv)) rfl ?ae1 ?be1 ?ce1 ?de1 ?ee1 ?fe1 ?_)
            case ae1 => rfl
            case be1 => first | exact its_cells wr (xa, xn, xv) | exact fun _ _ h => h
            case ce1 => exact it3_one _
            case de1 => have := exI_len f l 0; have := exI_len f (l.take l.length) 0; have := List.length_take_le l.length l; unfold maxLen; omega
            case ee1 => have := exI_len f l 0; have := exI_len f (l.take l.length) 0; have := List.length_take_le l.length l; omega
            case fe1 => have := C.out.size; simp; omega
            intro v' w5 hown hgrow _
            have OW5 := Lib.hid (own_snoc hown)
            have B5 := Lib.hid ((C.out.alloc C.out.size _).grown hgrow (by have := C.out.size; simp; omega) (own_ge OW4.out))
            clear hown hgrow
            go_wp2_with fail
            exact bodyPost_ret (v := .tuple #[v', .int .i64 0]) (by simp [results, Try.results26, go_sem]) rfl (RefPost.of E.out rfl OW5.out.at_ (below_on BB.out B5.out))
      · clear hfull
        go_upto_region 7 with (fail)
        obtain ⟨W3, hW3⟩ : ∃ W3, W3 = w2.alloc (.cells #[] 55) := ⟨_, rfl⟩
        have hb3 : Below w2.heap.size w2 W3 := by rw [hW3]; exact (Below.refl _ _).alloc (Nat.le_refl _) _
        have O3 : Hid (OwnIts W3 w2.heap.size (.slice (some ⟨w2.heap.size, 0, none⟩) 0 0) []) := Lib.hid (by rw [hW3]; exact own_none w2 _ (Nat.le_refl _))
        rw [← hW3]
        clear hW3
        have CC := Lib.hid (And.intro c0 (And.intro c1 c2))
        have BB := Lib.hid hB
        have B3 := Lib.hid hb3
        clear hb3 hB c0 c1 c2
        have ST : ∃ vo : Value, vo = .slice (some ⟨w2.heap.size, 0, none⟩) 0 0 := ⟨_, rfl⟩
        obtain ⟨vo, hvo⟩ := ST
        rw [← hvo] at O3 ⊢
        clear hvo
        go_wp2_with fail
        go_loopw [9, 37] (fun o i wr => ∃ k : Nat, k ≤ l.length ∧ i = .int .i64 k ∧ Hid (OwnIts wr w2.heap.size o (exI f (l.take k) 0)) ∧ Hid (Below w2.heap.size w2 wr)) (fun _ i _ => l.length - (intOf i).toNat)
        case atStart => exact ⟨0, by omega, rfl, O3, B3⟩
        case round =>
          clear O3 B3
          obtain ⟨k, hk, rfl, OW, C⟩ := hrel
          by_cases hlt : k < l.length
          · obtain ⟨y, hy⟩ : ∃ y, l[k]? = some y := ⟨_, List.getElem?_eq_getElem hlt⟩
            obtain ⟨g, hsa, d0, d1, d2⟩ := HV.out k y hy
            subst hsa
            have d0 := ((below_on BB.out C.out).cell (size_lt d0)).trans d0
            have d1 := ((below_on BB.out C.out).cell (size_lt d1)).trans d1
            have d2 := ((below_on BB.out C.out).cell (size_lt d2)).trans d2
            have SN := Lib.hid (exI_snoc (i := f) hy)
            obtain ⟨ya, yn, yv⟩ := y
            simp only at d0 d1 d2
            clear hy
            go_upto_region 10 with (fail)
            obtain ⟨W4, hW4, y0, y1, y2, hb4⟩ := box_3 wr (.int .u32 ya) (.int .i64 yn) (.int .i64 yv) 55
            rw [← hW4]; clear hW4
            have OW4 := Lib.hid (OW.out.below hb4)
            have C4 := Lib.hid (below_on C.out hb4)
            clear hb4 OW C d0 d1 d2
            by_cases hkf : (k : Int) = f
            · have z1 : ((k : Int) != f) = false := by rw [bne_eq_false_iff_eq]; exact hkf
              have OW5 : Hid (OwnIts W4 w2.heap.size u9 (exI f (l.take (k + 1)) 0)) := Lib.hid (by rw [SN.out, if_pos hkf, List.append_nil]; exact OW4.out)
              clear hkf
              go_wp2_with fail
              exact ⟨⟨k + 1, by omega, by go_num, OW5, C4⟩, by simp [intOf]; omega⟩
            · have z1 : ((k : Int) != f) = true := by rw [bne_iff_ne]; exact hkf
              have SN2 := Lib.hid (show exI f (l.take (k + 1)) 0 = exI f (l.take k) 0 ++ [(ya, yn, yv)] by rw [SN.out, if_neg hkf])
              clear hkf SN
              go_wp2_with (at_builtin; refine wpList_append_own _ rfl _ _ 49 rfl w2.heap.size 55 i0 _ 3 24 Try.underlying49 hi hz0 hz1 hz2 rfl (by decide) _ (exI f (l.take k) 0).length (rowsOf (exI f (l.take k) 0)) rfl (OW4.out.alloc _) ⟨W4.heap.size, 0, none⟩ 1 1 (it3C (ya, yn, yv)) rfl ?ar2 ?br2 ?cr2 ?dr2 ?er2 ?fr2 ?_)
              case ar2 => rfl
              case br2 => first | exact its_cells W4 (ya, yn, yv) | exact fun _ _ h => h
              case cr2 => exact it3_one _
              case dr2 => have := exI_len f l 0; have := exI_len f (l.take k) 0; have := List.length_take_le k l; unfold maxLen; omega
              case er2 => have := exI_len f l 0; have := exI_len f (l.take k) 0; have := List.length_take_le k l; omega
              case fr2 => have := C4.out.size; simp; omega
              intro v' w5 hown hgrow _
              have OW5 := Lib.hid (own_snoc hown)
              have B5 := Lib.hid ((C4.out.alloc C4.out.size _).grown hgrow (by have := C4.out.size; simp; omega) (own_ge OW4.out))
              clear hown hgrow
              go_wp2_with fail
              exact ⟨⟨k + 1, by omega, by go_num, Lib.hid (by rw [SN2.out]; exact OW5.out), B5⟩, by simp [intOf]; omega⟩
          · obtain rfl : k = l.length := by omega
            have c0 := (C.out.cell (size_lt CC.out.1)).trans CC.out.1
            have c1 := (C.out.cell (size_lt CC.out.2.1)).trans CC.out.2.1
            have c2 := (C.out.cell (size_lt CC.out.2.2)).trans CC.out.2.2
            have OW4 : Hid (OwnIts wr w2.heap.size u9 (exI f l 0)) := Lib.hid (by have := OW.out; rwa [List.take_length] at this)
            clear OW
            go_wp2_with (at_builtin; refine wpList_append_own _ rfl _ _ 49 rfl w2.heap.size 55 i0 _ 3 24 Try.underlying49 hi hz0 hz1 hz2 rfl (by decide) _ (exI f l 0).length (rowsOf (exI f l 0)) rfl (OW4.out.alloc _) ⟨wr.heap.size, 0, none⟩ 1 1 (it3C (xa, xn, xv)) rfl ?ae2 ?be2 ?ce2 ?de2 ?ee2 ?fe2 ?_)
            case ae2 => rfl
            case be2 => first | exact its_cells wr (xa, xn, xv) | exact fun _ _ h => h
            case ce2 => exact it3_one _
            case de2 => have := exI_len f l 0; have := exI_len f (l.take l.length) 0; have := List.length_take_le l.length l; unfold maxLen; omega
            case ee2 => have := exI_len f l 0; have := exI_len f (l.take l.length) 0; have := List.length_take_le l.length l; omega
            case fe2 => have := C.out.size; simp; omega
            intro v' w5 hown hgrow _
            have OW5 := Lib.hid (own_snoc hown)
            have B5 := Lib.hid ((C.out.alloc C.out.size _).grown hgrow (by have := C.out.size; simp; omega) (own_ge OW4.out))
            clear hown hgrow
            go_wp2_with fail
            exact bodyPost_ret (v := .tuple #[v', .int .i64 0]) (by simp [results, Try.results26, go_sem]) rfl (RefPost.of E.out rfl OW5.out.at_ (below_on BB.out B5.out))
end Go.Proofs.Ytnklhfdhaclfiaa
