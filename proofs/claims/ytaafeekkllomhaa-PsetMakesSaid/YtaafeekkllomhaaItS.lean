/-
  THE REFERENCE's LISTS: Sorted.
-/
import Derived.Test.YtaafeekkllomhaaItL
import Derived.Maps.AppendAt
namespace Go.Proofs.Ytaafeekkllomhaa
open Go.RowKit

theorem OwnIts.kept {W W' : World} {B : Nat} {v : Value} {l : List It3} {row : Option Nat} (h : OwnIts W B v l) (hg : W.grownBy W' row) (hne : ∀ j, v.ownBlock = some j → row ≠ some j) : OwnIts W' B v l := by
  obtain ⟨h1, h2⟩ := h
  refine ⟨h1, h2.imp_right ?_⟩
  rintro ⟨g, cap, cur, rfl, h4, h5, h6⟩
  exact ⟨g, cap, cur, rfl, h4, (hg.block g (row_lt h5) (fun e => hne g rfl e.symm)).trans h5, h6⟩
theorem own_block_lt {W : World} {B : Nat} {v : Value} {l : List It3} (h : OwnIts W B v l) : ∀ j, v.ownBlock = some j → j < W.heap.size := by
  obtain ⟨_, ⟨rfl, _⟩ | ⟨g, cap, cur, rfl, _, hg, _⟩⟩ := h
  · intro j hj; cases hj
  · intro j hj
    simp [Value.ownBlock] at hj
    subst hj
    exact row_lt hg
theorem OwnIts.mono {W : World} {A B : Nat} {v : Value} {l : List It3} (h : OwnIts W B v l) (hab : A ≤ B) : OwnIts W A v l := by
  obtain ⟨h1, h2⟩ := h
  refine ⟨h1, h2.imp_right ?_⟩
  rintro ⟨g, cap, cur, h3, h4, h5⟩
  exact ⟨g, cap, cur, h3, Nat.le_trans hab h4, h5⟩
def slLen : Value → Nat
  | .slice _ n _ => n
  | _ => 0

def filtI (l : List It3) (a : Nat) (n : Int) : List It3 := l.filter (fun x => coversB (a : Int) n (x.1 : Int) x.2.1)
theorem filtI_snoc {l : List It3} {a : Nat} {n : Int} {k : Nat} {x : It3} (hx : l[k]? = some x) : filtI (l.take (k + 1)) a n = filtI (l.take k) a n ++ (if coversB (a : Int) n (x.1 : Int) x.2.1 then [x] else []) := by
  unfold filtI
  rw [List.take_add_one, hx, Option.toList_some, List.filter_append]
  congr 1
  cases hc : coversB (a : Int) n (x.1 : Int) x.2.1 <;> simp [hc]
/-- which one is taken: the first of the least. -/
def pickF (m : List It3) : Nat → Nat
  | 0 => 0
  | k + 1 => match m[k]?, m[pickF m k]? with
    | some x, some y => if lessI x y then k else pickF m k
    | _, _ => pickF m k
theorem pickF_step {m : List It3} {k f : Nat} {x y : It3} (hx : m[k]? = some x) (hf : pickF m k = f) (hy : m[f]? = some y) : pickF m (k + 1) = if lessI x y then k else f := by
  subst hf
  conv => lhs; unfold pickF
  rw [hx, hy]
def selS : Nat → List It3 → List It3
  | 0, _ => []
  | f + 1, m => match m[pickF m m.length]? with
    | some x => x :: selS f (m.take (pickF m m.length) ++ m.drop (pickF m m.length + 1))
    | none => []
theorem selS_step {m : List It3} {p : Nat} {x : It3} (hp : pickF m m.length = p) (hx : m[p]? = some x) : selS m.length m = x :: selS (m.take p ++ m.drop (p + 1)).length (m.take p ++ m.drop (p + 1)) := by
  subst hp
  have hlt := (List.getElem?_eq_some_iff.1 hx).1
  have e : (m.take (pickF m m.length) ++ m.drop (pickF m m.length + 1)).length = m.length - 1 := by
    rw [List.length_append, List.length_take, List.length_drop]; omega
  rw [e]
  have h : ∀ f, selS (f + 1) m = x :: selS f (m.take (pickF m m.length) ++ m.drop (pickF m m.length + 1)) := fun f => by
    conv => lhs; unfold selS
    rw [hx]
  obtain ⟨f, hf⟩ : ∃ f, m.length = f + 1 := ⟨m.length - 1, by omega⟩
  have hf2 : m.length - 1 = f := by omega
  rw [hf2, ← h f, ← hf]
def refSorted (l : List It3) (a : Nat) (n : Int) : List It3 := selS (filtI l a n).length (filtI l a n)
theorem filtI_le (l : List It3) (a : Nat) (n : Int) : (filtI l a n).length ≤ l.length := List.length_filter_le ..

/-- the inner loop's bound is the list; the first loop's walk. -/
abbrev SepV (vo vl : Value) : Prop := ∀ j, vl.ownBlock = some j → vo.ownBlock ≠ some j

set_option maxHeartbeats 6400000 in
set_option maxRecDepth 100000 in
theorem ref_Sorted (v : Value) (l : List It3) (a : Nat) (n : Int) (w : World) (h : ItsAt w v l) (ha : a < 4294967296) (hl : l.length ≤ 100000) (hok : ItsOk l) :
    Calls Try.prog 22 #[v, .int .u32 a, .int .i64 n] w fun e w' => ∃ v', e = .returned v' ∧ ItsAt w' v' (refSorted l a n) ∧ Below w.heap.size w w' := by
  obtain ⟨i0, hi, hz0, hz1, hz2⟩ := info_parts info_item
  obtain ⟨sa, cap, rfl, hc, hm, hV⟩ := h.view
  have HV := Lib.hid hV
  have OK := Lib.hid hok
  have HS := Lib.hid (fun (x : It3) (hx : x.1 < 4294967296) W => ref_Covers (a : Int) n (x.1 : Int) x.2.1 W (by omega) (by omega) (by omega) (by omega))
  unfold maxLen at hm
  clear h hV hok
  go_enter Try.func22, Try.ntmps22
  go_upto_region 2 with (fail)
  obtain ⟨W3, hW3⟩ : ∃ W3, W3 = w.alloc (.cells #[] 51) := ⟨_, rfl⟩
  have B3 : Hid (Below w.heap.size w W3) := Lib.hid (by rw [hW3]; exact (Below.refl _ _).alloc (Nat.le_refl _) _)
  have O3 : Hid (OwnIts W3 w.heap.size (.slice (some ⟨w.heap.size, 0, none⟩) 0 0) []) := Lib.hid (by rw [hW3]; exact own_none w _ (Nat.le_refl _))
  rw [← hW3]
  clear hW3
  obtain ⟨vo, hvo⟩ : ∃ vo : Value, vo = .slice (some ⟨w.heap.size, 0, none⟩) 0 0 := ⟨_, rfl⟩
  rw [← hvo] at O3 ⊢
  clear hvo
  go_wp2_with fail
  go_loopw [7, 16] (fun o i wr => ∃ k : Nat, k ≤ l.length ∧ i = .int .i64 k ∧ Hid (OwnIts wr w.heap.size o (filtI (l.take k) a n)) ∧ Hid (Below w.heap.size w wr)) (fun _ i _ => l.length - (intOf i).toNat)
  case atStart => exact ⟨0, by omega, rfl, O3, B3⟩
  case round =>
    clear O3 B3
    obtain ⟨k, hk, rfl, OW, C⟩ := hrel
    by_cases hlt : k < l.length
    · obtain ⟨y, hy⟩ : ∃ y, l[k]? = some y := ⟨_, List.getElem?_eq_getElem hlt⟩
      obtain ⟨g, hsa, d0, d1, d2⟩ := HV.out k y hy
      subst hsa
      have d0 := (C.out.cell (size_lt d0)).trans d0
      have d1 := (C.out.cell (size_lt d1)).trans d1
      have d2 := (C.out.cell (size_lt d2)).trans d2
      have SN := Lib.hid (filtI_snoc (a := a) (n := n) hy)
      have HX := Lib.hid (HS.out y (OK.out k y hy))
      obtain ⟨ya, yn, yv⟩ := y
      simp only at d0 d1 d2 SN HX
      clear hy
      go_upto_region 5 with (fail)
      obtain ⟨W4, hW4, y0, y1, y2, hb4⟩ := box_3 wr (.int .u32 ya) (.int .i64 yn) (.int .i64 yv) 51
      rw [← hW4]; clear hW4
      have OW4 := Lib.hid (OW.out.below hb4)
      have C4 := Lib.hid (below_on C.out hb4)
      clear hb4 OW C d0 d1 d2
      generalize coversB (a : Int) n (ya : Int) yn = c at SN HX
      cases c
      · have SN2 := Lib.hid (show filtI (l.take (k + 1)) a n = filtI (l.take k) a n by rw [SN.out]; simp)
        clear SN
        go_wp2_with fail
        refine (HX.out _).mono ?_
        rintro e w5 ⟨rfl, hb5⟩
        have OW5 := Lib.hid (OW4.out.below hb5)
        have C5 := Lib.hid (below_on C4.out hb5)
        clear hb5 OW4 C4 y0 y1 y2
        go_wp2_with fail
        exact ⟨⟨k + 1, by omega, by go_num, Lib.hid (by rw [SN2.out]; exact OW5.out), C5⟩, by simp [intOf]; omega⟩
      · have SN2 := Lib.hid (show filtI (l.take (k + 1)) a n = filtI (l.take k) a n ++ [(ya, yn, yv)] by rw [SN.out]; simp)
        clear SN
        go_wp2_with fail
        refine (HX.out _).mono ?_
        rintro e w5 ⟨rfl, hb5⟩
        have OW5 := Lib.hid (OW4.out.below hb5)
        have C5 := Lib.hid (below_on C4.out hb5)
        have y0 := cell_below y0 hb5
        have y1 := cell_below y1 hb5
        have y2 := cell_below y2 hb5
        have HL := filtI_le (l.take k) a n
        have HL2 := List.length_take_le k l
        clear hb5 OW4 C4
        go_wp2_with (at_builtin; refine wpList_append_own _ rfl _ _ 46 rfl w.heap.size 51 i0 _ 3 24 Try.underlying46 hi hz0 hz1 hz2 rfl (by decide) _ (filtI (l.take k) a n).length (rowsOf (filtI (l.take k) a n)) rfl (OW5.out.alloc _) ⟨w5.heap.size, 0, none⟩ 1 1 (it3C (ya, yn, yv)) rfl ?ar1 ?br1 ?cr1 ?dr1 ?er1 ?fr1 ?_)
        case ar1 => rfl
        case br1 => first | exact its_cells w5 (ya, yn, yv) | exact fun _ _ h => h
        case cr1 => exact it3_one _
        case dr1 => unfold maxLen; omega
        case er1 => omega
        case fr1 => have := C5.out.size; simp; omega
        intro v' w6 hown hgrow _
        have OW6 := Lib.hid (own_snoc hown)
        have B6 := Lib.hid ((C5.out.alloc C5.out.size _).grown hgrow (by have := C5.out.size; simp; omega) (own_ge OW5.out))
        clear hown hgrow
        go_wp2_with fail
        exact ⟨⟨k + 1, by omega, by go_num, Lib.hid (by rw [SN2.out]; exact OW6.out), B6⟩, by simp [intOf]; omega⟩
    · obtain rfl : k = l.length := by omega
      have OW4 : Hid (OwnIts wr w.heap.size u7 (filtI l a n)) := Lib.hid (by have := OW.out; rwa [List.take_length] at this)
      have RS : Hid (refSorted l a n = selS (filtI l a n).length (filtI l a n)) := Lib.hid rfl
      have FL := filtI_le l a n
      generalize filtI l a n = m at OW4 RS FL
      clear OW OK HS HV
      go_upto_region 9 with (fail)
      obtain ⟨W6, hW6⟩ : ∃ W6, W6 = wr.alloc (.cells #[] 51) := ⟨_, rfl⟩
      have hb6 : Below wr.heap.size wr W6 := by rw [hW6]; exact (Below.refl _ _).alloc (Nat.le_refl _) _
      have O6 : Hid (OwnIts W6 wr.heap.size (.slice (some ⟨wr.heap.size, 0, none⟩) 0 0) []) := Lib.hid (by rw [hW6]; exact own_none wr _ (Nat.le_refl _))
      have M6 := Lib.hid (OW4.out.below hb6)
      have C6 := Lib.hid (below_on C.out hb6)
      rw [← hW6]
      clear hW6
      obtain ⟨vo, hvo⟩ : ∃ vo : Value, vo = .slice (some ⟨wr.heap.size, 0, none⟩) 0 0 := ⟨_, rfl⟩
      have SP : Hid (SepV vo u7) := Lib.hid fun j hj e => by
        subst hvo
        have := own_block_lt OW4.out j hj
        simp [Value.ownBlock] at e
        omega
      have O7 : Hid (OwnIts W6 w.heap.size vo []) := Lib.hid (by subst hvo; obtain ⟨h1, h2⟩ := O6.out; refine ⟨h1, h2.imp_right ?_⟩; rintro ⟨g, cap, cur, h3, h4, h5⟩; exact ⟨g, cap, cur, h3, Nat.le_trans C.out.size h4, h5⟩)
      rw [← hvo]
      clear hvo hb6 OW4 C O6
      go_wp2_with fail
      go_loopw [7, 10] (fun vl vo wr => ∃ m o : List It3, Hid (OwnIts wr w.heap.size vl m) ∧ Hid (OwnIts wr w.heap.size vo o) ∧ Hid (SepV vo vl) ∧ Hid (refSorted l a n = o ++ selS m.length m) ∧ m.length + o.length ≤ l.length ∧ Hid (Below w.heap.size w wr)) (fun vl _ _ => slLen vl)
      case atStart => exact ⟨m, [], M6, O7, SP, RS, by simpa using FL, C6⟩
      case round =>
        clear SP O7 RS M6 C6
        clear FL m
        obtain ⟨m, o, M, O, SP, RS, HL, C⟩ := hrel
        obtain ⟨vm, cm, rfl, mc1, mc2, _⟩ := M.out.at_.view
        unfold maxLen at mc2
        by_cases h0 : m.length = 0
        · have RS2 := Lib.hid (show refSorted l a n = o by rw [RS.out, h0]; simp [selS])
          clear RS SP M
          go_wp2_with fail
          go_ret
          exact ⟨_, rfl, by rw [RS2.out]; exact O.out.at_, C.out⟩
        · have FP : Hid (pickF m 0 = 0) := Lib.hid rfl
          rename World => wo
          have hpos : 0 < m.length := by omega
          have zpos : decide (0 < m.length) = true := by simpa using hpos
          go_upto_region 12 with (fail)
          go_loopw [11, 38] (fun b i wr' => ∃ k f : Nat, k ≤ m.length ∧ i = .int .i64 k ∧ b = .int .i64 f ∧ Hid (pickF m k = f) ∧ f < m.length ∧ Hid (Below wo.heap.size wo wr')) (fun _ i _ => m.length - (intOf i).toNat)
          case atStart => exact ⟨0, 0, by omega, rfl, rfl, FP, by omega, Lib.hid (Below.refl _ _)⟩
          case round =>
            clear FP
            obtain ⟨k, f, hk, rfl, rfl, FP, hf, C2⟩ := hrel
            by_cases hlt : k < m.length
            · obtain ⟨x, hx⟩ : ∃ x, m[k]? = some x := ⟨_, List.getElem?_eq_getElem hlt⟩
              obtain ⟨y, hy⟩ : ∃ y, m[f]? = some y := ⟨_, List.getElem?_eq_getElem hf⟩
              obtain ⟨vm', cm', hvm, _, _, MV⟩ := M.out.at_.view
              cases hvm
              obtain ⟨g, hsa, d0, d1, d2⟩ := MV k x hx
              subst hsa
              obtain ⟨g', hsa, e0, e1, e2⟩ := MV f y hy
              obtain rfl : g = g' := by cases hsa; rfl
              clear hsa
              have d0 := (C2.out.cell (size_lt d0)).trans d0
              have d1 := (C2.out.cell (size_lt d1)).trans d1
              have d2 := (C2.out.cell (size_lt d2)).trans d2
              have e0 := (C2.out.cell (size_lt e0)).trans e0
              have e1 := (C2.out.cell (size_lt e1)).trans e1
              have e2 := (C2.out.cell (size_lt e2)).trans e2
              have FP2 := Lib.hid (pickF_step hx FP.out hy)
              clear FP hx hy MV
              have HX := Lib.hid (fun W => ref_less x y W)
              generalize lessI x y = c at FP2 HX
              obtain ⟨xa, xn, xv⟩ := x
              obtain ⟨ya, yn, yv⟩ := y
              simp only at d0 d1 d2 e0 e1 e2 HX
              have i0' : (0 : Int) ≤ (f : Int) := by omega
              have i1' : (f : Int) < (m.length : Int) := by omega
              have i2' : (0 : Int) ≤ (k : Int) := by omega
              have i3' : (k : Int) < (m.length : Int) := by omega
              cases c
              · have FP3 := Lib.hid (show pickF m (k + 1) = f by rw [FP2.out]; simp)
                clear FP2
                go_upto_region 14 with (fail)
                refine wp_region_held_drew (S := fun w' => Below wr.heap.size wr w') (by kernel_rfl) ?_ (fun hHeld => ?_)
                · exact (Below.refl _ _).drew
                refine rg_yes (i := 0) (v := ?_) at0 (by kernel_rfl) (by kernel_rfl) (by kernel_rfl) (fun _ _ _ h => h) ?_ ?_ hHeld ?_; rotate_left 1; (· rfl); (· intro w' hSw; (try dsimp only at hSw); (try clear hHeld); go_simp; try with_reducible rfl)
                try simp only [Act.put, List.setIfInBounds_toArray, List.set_cons_zero, List.set_cons_succ]
                refine rg_yes (i := 1) (v := ?_) (atS at0) (by kernel_rfl) (by kernel_rfl) (by kernel_rfl) (fun _ _ _ h => h) ?_ ?_ hHeld ?_; rotate_left 1; (· rfl); (· intro w' hSw; (try dsimp only at hSw); (try clear hHeld); go_simp; try with_reducible rfl)
                try simp only [Act.put, List.setIfInBounds_toArray, List.set_cons_zero, List.set_cons_succ]
                refine rg_yes (i := 2) (v := ?_) (atS (atS at0)) (by kernel_rfl) (by kernel_rfl) (by kernel_rfl) (fun _ _ _ h => h) ?_ ?_ hHeld ?_; rotate_left 1; (· rfl); (· intro w' hSw; (try dsimp only at hSw); have d0 := cell_below d0 hSw; have d1 := cell_below d1 hSw; have d2 := cell_below d2 hSw; have e0 := cell_below e0 hSw; have e1 := cell_below e1 hSw; have e2 := cell_below e2 hSw; (try clear hHeld); go_simp; try with_reducible rfl)
                try simp only [Act.put, List.setIfInBounds_toArray, List.set_cons_zero, List.set_cons_succ]
                refine rg_yes (i := 3) (v := ?_) (atS (atS (atS at0))) (by kernel_rfl) (by kernel_rfl) (by kernel_rfl) (fun _ _ _ h => h) ?_ ?_ hHeld ?_; rotate_left 1; (· rfl); (· intro w' hSw; (try dsimp only at hSw); have d0 := cell_below d0 hSw; have d1 := cell_below d1 hSw; have d2 := cell_below d2 hSw; have e0 := cell_below e0 hSw; have e1 := cell_below e1 hSw; have e2 := cell_below e2 hSw; (try clear hHeld); go_simp; try with_reducible rfl)
                try simp only [Act.put, List.setIfInBounds_toArray, List.set_cons_zero, List.set_cons_succ]
                refine rg_yes (i := 4) (v := ?_) (atS (atS (atS (atS at0)))) (by kernel_rfl) (by kernel_rfl) (by kernel_rfl) (fun _ _ _ h => h) ?_ ?_ hHeld ?_; rotate_left 1; (· rfl); (· intro w' hSw; (try dsimp only at hSw); (try clear hHeld); go_simp; try with_reducible rfl)
                try simp only [Act.put, List.setIfInBounds_toArray, List.set_cons_zero, List.set_cons_succ]
                refine rg_yes (i := 5) (v := ?_) (atS (atS (atS (atS (atS at0))))) (by kernel_rfl) (by kernel_rfl) (by kernel_rfl) (fun _ _ _ h => h) ?_ ?_ hHeld ?_; rotate_left 1; (· rfl); (· intro w' hSw; (try dsimp only at hSw); (try clear hHeld); go_simp; try with_reducible rfl)
                try simp only [Act.put, List.setIfInBounds_toArray, List.set_cons_zero, List.set_cons_succ]
                refine rg_yes (i := 6) (v := ?_) (atS (atS (atS (atS (atS (atS at0)))))) (by kernel_rfl) (by kernel_rfl) (by kernel_rfl) (fun _ _ _ h => h) ?_ ?_ hHeld ?_; rotate_left 1; (· rfl); (· intro w' hSw; (try dsimp only at hSw); have d0 := cell_below d0 hSw; have d1 := cell_below d1 hSw; have d2 := cell_below d2 hSw; have e0 := cell_below e0 hSw; have e1 := cell_below e1 hSw; have e2 := cell_below e2 hSw; (try clear hHeld); go_simp; try with_reducible rfl)
                try simp only [Act.put, List.setIfInBounds_toArray, List.set_cons_zero, List.set_cons_succ]
                refine rg_yes (i := 7) (v := ?_) (atS (atS (atS (atS (atS (atS (atS at0))))))) (by kernel_rfl) (by kernel_rfl) (by kernel_rfl) (fun _ _ _ h => h) ?_ ?_ hHeld ?_; rotate_left 1; (· rfl); (· intro w' hSw; (try dsimp only at hSw); have d0 := cell_below d0 hSw; have d1 := cell_below d1 hSw; have d2 := cell_below d2 hSw; have e0 := cell_below e0 hSw; have e1 := cell_below e1 hSw; have e2 := cell_below e2 hSw; (try clear hHeld); go_simp; try with_reducible rfl)
                try simp only [Act.put, List.setIfInBounds_toArray, List.set_cons_zero, List.set_cons_succ]
                refine rg_call (i := 8) (atS (atS (atS (atS (atS (atS (atS (atS at0)))))))) (by kernel_rfl) ?_ (fun K hK => ?_); (· rfl); (try clear hb); go_simp; (refine (HX.out _).mono ?_; rintro e w1 ⟨rfl, hb⟩); go_wp2_with fail; refine hK.out _ _ ?_ (fun hHeld => ?_); (· exact hHeld.trans (hb.mono hHeld.size)); clear hK K
                try simp only [Act.put, List.setIfInBounds_toArray, List.set_cons_zero, List.set_cons_succ]
                refine wpAnyH_done (by kernel_rfl) ?_ _
                have B5 := Lib.hid (below_on C2.out hHeld)
                go_wp2_with fail
                exact ⟨⟨k + 1, f, by omega, by go_num, rfl, FP3, hf, B5⟩, by simp [intOf]; omega⟩
              · have FP3 := Lib.hid (show pickF m (k + 1) = k by rw [FP2.out]; simp)
                clear FP2
                go_upto_region 14 with (fail)
                refine wp_region_held_drew (S := fun w' => Below wr.heap.size wr w') (by kernel_rfl) ?_ (fun hHeld => ?_)
                · exact (Below.refl _ _).drew
                refine rg_yes (i := 0) (v := ?_) at0 (by kernel_rfl) (by kernel_rfl) (by kernel_rfl) (fun _ _ _ h => h) ?_ ?_ hHeld ?_; rotate_left 1; (· rfl); (· intro w' hSw; (try dsimp only at hSw); (try clear hHeld); go_simp; try with_reducible rfl)
                try simp only [Act.put, List.setIfInBounds_toArray, List.set_cons_zero, List.set_cons_succ]
                refine rg_yes (i := 1) (v := ?_) (atS at0) (by kernel_rfl) (by kernel_rfl) (by kernel_rfl) (fun _ _ _ h => h) ?_ ?_ hHeld ?_; rotate_left 1; (· rfl); (· intro w' hSw; (try dsimp only at hSw); (try clear hHeld); go_simp; try with_reducible rfl)
                try simp only [Act.put, List.setIfInBounds_toArray, List.set_cons_zero, List.set_cons_succ]
                refine rg_yes (i := 2) (v := ?_) (atS (atS at0)) (by kernel_rfl) (by kernel_rfl) (by kernel_rfl) (fun _ _ _ h => h) ?_ ?_ hHeld ?_; rotate_left 1; (· rfl); (· intro w' hSw; (try dsimp only at hSw); have d0 := cell_below d0 hSw; have d1 := cell_below d1 hSw; have d2 := cell_below d2 hSw; have e0 := cell_below e0 hSw; have e1 := cell_below e1 hSw; have e2 := cell_below e2 hSw; (try clear hHeld); go_simp; try with_reducible rfl)
                try simp only [Act.put, List.setIfInBounds_toArray, List.set_cons_zero, List.set_cons_succ]
                refine rg_yes (i := 3) (v := ?_) (atS (atS (atS at0))) (by kernel_rfl) (by kernel_rfl) (by kernel_rfl) (fun _ _ _ h => h) ?_ ?_ hHeld ?_; rotate_left 1; (· rfl); (· intro w' hSw; (try dsimp only at hSw); have d0 := cell_below d0 hSw; have d1 := cell_below d1 hSw; have d2 := cell_below d2 hSw; have e0 := cell_below e0 hSw; have e1 := cell_below e1 hSw; have e2 := cell_below e2 hSw; (try clear hHeld); go_simp; try with_reducible rfl)
                try simp only [Act.put, List.setIfInBounds_toArray, List.set_cons_zero, List.set_cons_succ]
                refine rg_yes (i := 4) (v := ?_) (atS (atS (atS (atS at0)))) (by kernel_rfl) (by kernel_rfl) (by kernel_rfl) (fun _ _ _ h => h) ?_ ?_ hHeld ?_; rotate_left 1; (· rfl); (· intro w' hSw; (try dsimp only at hSw); (try clear hHeld); go_simp; try with_reducible rfl)
                try simp only [Act.put, List.setIfInBounds_toArray, List.set_cons_zero, List.set_cons_succ]
                refine rg_yes (i := 5) (v := ?_) (atS (atS (atS (atS (atS at0))))) (by kernel_rfl) (by kernel_rfl) (by kernel_rfl) (fun _ _ _ h => h) ?_ ?_ hHeld ?_; rotate_left 1; (· rfl); (· intro w' hSw; (try dsimp only at hSw); (try clear hHeld); go_simp; try with_reducible rfl)
                try simp only [Act.put, List.setIfInBounds_toArray, List.set_cons_zero, List.set_cons_succ]
                refine rg_yes (i := 6) (v := ?_) (atS (atS (atS (atS (atS (atS at0)))))) (by kernel_rfl) (by kernel_rfl) (by kernel_rfl) (fun _ _ _ h => h) ?_ ?_ hHeld ?_; rotate_left 1; (· rfl); (· intro w' hSw; (try dsimp only at hSw); have d0 := cell_below d0 hSw; have d1 := cell_below d1 hSw; have d2 := cell_below d2 hSw; have e0 := cell_below e0 hSw; have e1 := cell_below e1 hSw; have e2 := cell_below e2 hSw; (try clear hHeld); go_simp; try with_reducible rfl)
                try simp only [Act.put, List.setIfInBounds_toArray, List.set_cons_zero, List.set_cons_succ]
                refine rg_yes (i := 7) (v := ?_) (atS (atS (atS (atS (atS (atS (atS at0))))))) (by kernel_rfl) (by kernel_rfl) (by kernel_rfl) (fun _ _ _ h => h) ?_ ?_ hHeld ?_; rotate_left 1; (· rfl); (· intro w' hSw; (try dsimp only at hSw); have d0 := cell_below d0 hSw; have d1 := cell_below d1 hSw; have d2 := cell_below d2 hSw; have e0 := cell_below e0 hSw; have e1 := cell_below e1 hSw; have e2 := cell_below e2 hSw; (try clear hHeld); go_simp; try with_reducible rfl)
                try simp only [Act.put, List.setIfInBounds_toArray, List.set_cons_zero, List.set_cons_succ]
                refine rg_call (i := 8) (atS (atS (atS (atS (atS (atS (atS (atS at0)))))))) (by kernel_rfl) ?_ (fun K hK => ?_); (· rfl); (try clear hb); go_simp; (refine (HX.out _).mono ?_; rintro e w1 ⟨rfl, hb⟩); go_wp2_with fail; refine hK.out _ _ ?_ (fun hHeld => ?_); (· exact hHeld.trans (hb.mono hHeld.size)); clear hK K
                try simp only [Act.put, List.setIfInBounds_toArray, List.set_cons_zero, List.set_cons_succ]
                refine wpAnyH_done (by kernel_rfl) ?_ _
                have B5 := Lib.hid (below_on C2.out hHeld)
                go_wp2_with fail
                exact ⟨⟨k + 1, k, by omega, by go_num, rfl, FP3, hlt, B5⟩, by simp [intOf]; omega⟩
            · obtain rfl : k = m.length := by omega
              obtain ⟨x, hx⟩ : ∃ x, m[f]? = some x := ⟨_, List.getElem?_eq_getElem hf⟩
              have ST := Lib.hid (selS_step FP.out hx)
              have M2 := Lib.hid (M.out.below C2.out)
              have O2 := Lib.hid (O.out.below C2.out)
              have C3 := Lib.hid (below_on C.out C2.out)
              obtain ⟨vm', cm', hvm, _, _, MV⟩ := M2.out.at_.view
              cases hvm
              obtain ⟨g, hsa, d0, d1, d2⟩ := MV f x hx
              subst hsa
              have RS2 := Lib.hid (RS.out.trans (by rw [ST.out]))
              clear M O C C2 ST FP RS MV
              obtain ⟨xa, xn, xv⟩ := x
              simp only at d0 d1 d2 RS2
              have i0' : (0 : Int) ≤ (f : Int) := by omega
              have i1' : (f : Int) < (m.length : Int) := by omega
              rename World => wi
              go_wp2_with (at_builtin; refine wpList_append_own_at _ rfl _ _ 46 rfl w.heap.size 51 i0 _ 3 24 Try.underlying46 hi hz0 hz1 hz2 rfl (by decide) _ o.length (rowsOf o) rfl (O2.out.alloc _) ⟨wi.heap.size, 0, none⟩ 1 1 (it3C (xa, xn, xv)) rfl ?ar1 ?br1 ?cr1 ?dr1 ?er1 ?fr1 ?_)
              case ar1 => rfl
              case br1 => first | exact its_cells wi (xa, xn, xv) | exact fun _ _ h => h
              case cr1 => exact it3_one _
              case dr1 => unfold maxLen; omega
              case er1 => omega
              case fr1 => have := C3.out.size; simp; omega
              intro vo' w5 hown hgrow _ hat
              have O5 := Lib.hid (own_snoc hown)
              have B5 := Lib.hid ((C3.out.alloc C3.out.size _).grown hgrow (by have := C3.out.size; simp; omega) (own_ge O2.out))
              have M5 := Lib.hid ((M2.out.below ((Below.refl _ _).alloc (Nat.le_refl _) _)).kept hgrow (fun j hj => SP.out j hj))
              clear hown hgrow O2 M2 d0 d1 d2 C3 SP hat
              obtain ⟨g', cap', X, hv', hg, s1, s2, hc1, hc2⟩ := its_cut M5.out.at_ hf
              cases hv'
              have z1 : IntKind.i64.wrap ((f : Int) + 1) = (f : Int) + 1 := IntWalk.i64_in _ (by omega)
              have LT : Hid ((rowsOf (m.take f)).length = f * 3 ∧ (rowsOf (m.drop (f + 1))).length = (m.length - (f + 1)) * 3 ∧ f = (m.take f).length ∧ m.length - (f + 1) = (m.drop (f + 1)).length) := Lib.hid ⟨by rw [rowsOf_len, List.length_take, Nat.min_eq_left (by omega)], by rw [rowsOf_len, List.length_drop], by rw [List.length_take, Nat.min_eq_left (by omega)], by rw [List.length_drop]⟩
              have CC1 : Hid (∀ W, Below w5.heap.size w5 W → ∀ j u, (rowsOf (m.take f))[j]? = some u → W.cell? ((⟨g, 0, none⟩ : Addr).add j) = some u) := Lib.hid fun W hW j u hj => by
                rw [add_off, Nat.zero_add]
                exact cell_below (hc1 j u hj) hW
              have CC2 : Hid (∀ W, Below w5.heap.size w5 W → ∀ j u, (rowsOf (m.drop (f + 1)))[j]? = some u → W.cell? ((⟨g, X, none⟩ : Addr).add j) = some u) := Lib.hid fun W hW j u hj => by
                rw [add_off]
                exact cell_below (hc2 j u hj) hW
              clear hc1 hc2
              go_upto_region 18 with (fail)
              refine wp_region_held_drew (S := fun w' => Below w5.heap.size w5 w') (by kernel_rfl) ?_ (fun hHeld => ?_)
              · exact (Below.refl _ _).drew
              generalize World.drew w5 = wd at hHeld ⊢
              refine rg_yes (i := 1) (v := ?_) (atS at0) (by kernel_rfl) (by kernel_rfl) (by kernel_rfl) (fun _ _ _ h => h) ?_ ?_ hHeld ?_; rotate_left 1; (· rfl); (· intro w' hSw; (try dsimp only at hSw); (try clear hHeld); go_simp; try with_reducible rfl)
              try simp only [Act.put, List.setIfInBounds_toArray, List.set_cons_zero, List.set_cons_succ]
              refine rg_yes (i := 2) (v := ?_) (atS (atS at0)) (by kernel_rfl) (by kernel_rfl) (by kernel_rfl) (fun _ _ _ h => h) ?_ ?_ hHeld ?_; rotate_left 1; (· rfl); (· intro w' hSw; (try dsimp only at hSw); (try clear hHeld); go_simp; try with_reducible rfl)
              try simp only [Act.put, List.setIfInBounds_toArray, List.set_cons_zero, List.set_cons_succ]
              refine rg_yes (i := 3) (v := ?_) (atS (atS (atS at0))) (by kernel_rfl) (by kernel_rfl) (by kernel_rfl) (fun _ _ _ h => h) ?_ ?_ hHeld ?_; rotate_left 1; (· rfl); (· intro w' hSw; (try dsimp only at hSw); (try clear hHeld); go_simp; try with_reducible rfl)
              try simp only [Act.put, List.setIfInBounds_toArray, List.set_cons_zero, List.set_cons_succ]
              refine rg_yes (i := 5) (v := ?_) (atS (atS (atS (atS (atS at0))))) (by kernel_rfl) (by kernel_rfl) (by kernel_rfl) (fun _ _ _ h => h) ?_ ?_ hHeld ?_; rotate_left 1; (· rfl); (· intro w' hSw; (try dsimp only at hSw); (try clear hHeld); go_simp; try with_reducible rfl)
              try simp only [Act.put, List.setIfInBounds_toArray, List.set_cons_zero, List.set_cons_succ]
              refine rg_yes (i := 6) (v := ?_) (atS (atS (atS (atS (atS (atS at0)))))) (by kernel_rfl) (by kernel_rfl) (by kernel_rfl) (fun _ _ _ h => h) ?_ ?_ hHeld ?_; rotate_left 1; (· rfl); (· intro w' hSw; (try dsimp only at hSw); (try clear hHeld); go_simp; try with_reducible rfl)
              try simp only [Act.put, List.setIfInBounds_toArray, List.set_cons_zero, List.set_cons_succ]
              refine rg_yes (i := 7) (v := ?_) (atS (atS (atS (atS (atS (atS (atS at0))))))) (by kernel_rfl) (by kernel_rfl) (by kernel_rfl) (fun _ _ _ h => h) ?_ ?_ hHeld ?_; rotate_left 1; (· rfl); (· intro w' hSw; (try dsimp only at hSw); (try clear hHeld); go_simp; try with_reducible rfl)
              try simp only [Act.put, List.setIfInBounds_toArray, List.set_cons_zero, List.set_cons_succ]
              refine rg_yes (i := 8) (v := ?_) (atS (atS (atS (atS (atS (atS (atS (atS at0)))))))) (by kernel_rfl) (by kernel_rfl) (by kernel_rfl) (fun _ _ _ h => h) ?_ ?_ hHeld ?_; rotate_left 1; (· rfl); (· intro w' hSw; (try dsimp only at hSw); (try clear hHeld); go_simp; try with_reducible rfl)
              try simp only [Act.put, List.setIfInBounds_toArray, List.set_cons_zero, List.set_cons_succ]
              refine rg_call (i := 0) at0 (by kernel_rfl) ?_ (fun K hK => ?_); (· rfl); (try clear hb); have hwd := hHeld.size; go_simp; go_wp2_with fail; refine hK.out _ _ ?_ (fun hHeld => ?_); (· exact hHeld.alloc hHeld.size _); clear hK K
              try simp only [Act.put, List.setIfInBounds_toArray, List.set_cons_zero, List.set_cons_succ]
              refine rg_call (i := 4) (atS (atS (atS (atS at0)))) (by kernel_rfl) ?_ (fun K hK => ?_); (· rfl); (try clear hb); refine wp_append_own _ (.tmp 59) (.tmp 62) 46 rfl w5.heap.size 51 i0 _ 3 24 Try.underlying46 hi hz0 hz1 hz2 rfl (by decide) _ 0 [] rfl (own_none wd _ hwd) ⟨g, 0, none⟩ f cm (rowsOf (m.take f)) rfl LT.out.1 (CC1.out _ hHeld) (rowsOf_one _) (by unfold maxLen; omega) (by omega) hHeld.size ?_; intro v1 wa hown1 hgrow1 _; refine hK.out _ _ ?_ (fun hHeld => ?_); (· exact hHeld.grown hgrow1 hHeld.size (own_ge (own_none wd _ hwd))); clear hK K
              try simp only [Act.put, List.setIfInBounds_toArray, List.set_cons_zero, List.set_cons_succ]
              refine rg_call (i := 9) (atS (atS (atS (atS (atS (atS (atS (atS (atS at0))))))))) (by kernel_rfl) ?_ (fun K hK => ?_); (· rfl); (try clear hb); refine wp_append_own _ (.tmp 63) (.tmp 67) 46 rfl w5.heap.size 51 i0 _ 3 24 Try.underlying46 hi hz0 hz1 hz2 rfl (by decide) _ (0 + f) ([] ++ rowsOf (m.take f)) rfl hown1 ⟨g, X, none⟩ (m.length - (f + 1)) (cm - (f + 1)) (rowsOf (m.drop (f + 1))) rfl LT.out.2.1 (CC2.out _ hHeld) (rowsOf_one _) (by unfold maxLen; omega) (by omega) hHeld.size ?_; intro v2 wb hown2 hgrow2 _; refine hK.out _ _ ?_ (fun hHeld => ?_); (· exact hHeld.grown hgrow2 hHeld.size (own_block_ge hown1)); clear hK K
              try simp only [Act.put, List.setIfInBounds_toArray, List.set_cons_zero, List.set_cons_succ]
              refine rg_yes (i := 10) (v := ?_) (atS (atS (atS (atS (atS (atS (atS (atS (atS (atS at0)))))))))) (by kernel_rfl) (by kernel_rfl) (by kernel_rfl) (fun _ _ _ h => h) ?_ ?_ hHeld ?_; rotate_left 1; (· rfl); (· intro w' hSw; (try dsimp only at hSw); (try clear hHeld); go_simp; try with_reducible rfl)
              try simp only [Act.put, List.setIfInBounds_toArray, List.set_cons_zero, List.set_cons_succ]
              refine wpAnyH_done (by kernel_rfl) ?_ _
              have OW : OwnIts wb w5.heap.size v2 (m.take f ++ m.drop (f + 1)) := own_join (by simpa using hown2) LT.out.2.2.1 LT.out.2.2.2
              have LN : slLen v2 = m.length - 1 := by
                obtain ⟨_, _, e, _⟩ := OW.at_.view
                subst e
                have := LT.out.2.2.1
                have := LT.out.2.2.2
                simp only [slLen, List.length_append]
                omega
              have OF := Lib.hid (OW.mono (Nat.le_trans B5.out.size (Nat.le_refl _)))
              have O9 := Lib.hid (O5.out.below hHeld)
              have SP9 : Hid (SepV vo' v2) := Lib.hid fun j hj e => by
                have := own_block_lt O5.out j e
                have := own_ge OW j hj
                omega
              have RS9 : Hid (refSorted l a n = (o ++ [(xa, xn, xv)]) ++ selS (m.take f ++ m.drop (f + 1)).length (m.take f ++ m.drop (f + 1))) := Lib.hid (by rw [RS2.out, List.append_assoc]; rfl)
              have C9 := Lib.hid (below_on B5.out hHeld)
              have HL9 : (m.take f ++ m.drop (f + 1)).length + (o ++ [(xa, xn, xv)]).length ≤ l.length := by
                have := LT.out.2.2.1
                have := LT.out.2.2.2
                simp only [List.length_append, List.length_cons, List.length_nil]
                omega
              go_wp2_with fail
              refine ⟨⟨m.take f ++ m.drop (f + 1), o ++ [(xa, xn, xv)], OF, O9, SP9, RS9, HL9, C9⟩, ?_⟩
              first | (rw [LN]; simp only [slLen]; omega) | (simp [LN, slLen]; omega)
end Go.Proofs.Ytaafeekkllomhaa
