/-
  TrieOrder: the order in which nets came is nothing to what is found; for all nets and addresses; no condition.
-/
import Derived.Test.YtnklhfdhaclfiaaTrO
import Derived.Shelf.Abstract
namespace Go.Proofs.Ytnklhfdhaclfiaa
open Go.RowKit

/-- a count that is asked of nothing. -/
def NoneInv (tb : Nat) (N : Nat → Option Nat) (most : Int) (nb : Nat) (_P : Nat → Prop) (L : List Itm) (W : World) : Prop := TrI W tb N [] most ∧ W.cell? ⟨nb, 0, none⟩ = some (.int .i64 L.length)
theorem none_ok (tb : Nat) (N : Nat → Option Nat) (most : Int) (nb : Nat) (lb : Array Value) : EachOk tb N [] most 25 lb (fun _ => true) (NoneInv tb N most nb) where
  ent := enters_of Try.func25 (by kernel_rfl) rfl
  stab := fun _ _ _ _ _ h hb _ => ⟨h.1.below hb, cell_below h.2 hb⟩
  tri := fun _ _ _ h => h.1
  call := fun _ _ _ _ _ _ _ _ _ h => by simp [getL] at h

theorem bst_nil (a : Nat) : ∀ k, bst [] a k = none
  | 0 => rfl
  | k + 1 => by unfold bst; rw [show getL ([] : List (Nat × Value)) (keyN a k) = none from rfl, if_neg (by decide)]; exact bst_nil a k
theorem goP_nil : ∀ d A i, goP [] d A i = []
  | 0, A, i => rfl
  | d + 1, A, i => by unfold goP; rw [goP_nil, goP_nil]; rfl
theorem drop_step {xs : List Pf} {Sx S : List (Nat × Value)} {k : Nat} {p : Pf} (h : ∀ κ v, getL S κ = some v → getL Sx κ = some v ∧ ∀ (i : Nat) p, i < k → xs[i]? = some p → pRight p = true → pKey p ≠ κ) (hl : S.length ≤ 100) (hp : xs[k]? = some p) :
    (∀ κ v, getL (dropA S p) κ = some v → getL Sx κ = some v ∧ ∀ (i : Nat) p, i < k + 1 → xs[i]? = some p → pRight p = true → pKey p ≠ κ) ∧ (dropA S p).length ≤ 100 := by
  unfold dropA
  by_cases hr : pRight p = true
  · rw [if_pos hr]
    refine ⟨fun κ v hv => ?_, Nat.le_trans (List.length_filter_le _ _) hl⟩
    rw [getL_del] at hv
    by_cases e : κ = pKey p
    · rw [if_pos e] at hv; cases hv
    · rw [if_neg e] at hv
      obtain ⟨h1, h2⟩ := h κ v hv
      refine ⟨h1, fun i q hi hq rq => ?_⟩
      by_cases ei : i = k
      · subst ei; rw [hp] at hq; cases hq; exact fun x => e x.symm
      · exact h2 i q (by omega) hq rq
  · rw [if_neg hr]
    refine ⟨fun κ v hv => ?_, hl⟩
    obtain ⟨h1, h2⟩ := h κ v hv
    refine ⟨h1, fun i q hi hq rq => ?_⟩
    by_cases ei : i = k
    · subst ei; rw [hp] at hq; cases hq; exact absurd rq hr
    · exact h2 i q (by omega) hq rq
set_option maxHeartbeats 400000 in
theorem order_long (sa : Option Addr) (len cap : Nat) (a : Int) (w : World) (hl : 60 < len) (hm : len ≤ maxLen) : Calls Try.prog 5 #[.slice sa len cap, .int .u32 a] w fun e w' => e = .returned (.bool true) ∧ Below w.heap.size w w' := by
  unfold maxLen at hm
  go_enter Try.func5, Try.ntmps5
  go_wp2_with fail
  refine (law_head _).mono ?_
  rintro e w1 ⟨rfl, hB⟩
  go_wp2_with fail
  go_ret
  exact ⟨rfl, hB⟩

set_option maxHeartbeats 6400000 in
set_option maxRecDepth 100000 in
theorem order_short (sa : Option Addr) (xs : List Pf) (cap : Nat) (a : Nat) (w : World) (ha : a < 4294967296) (hl : xs.length ≤ 60) (hP : 0 < xs.length → ∃ b off : Nat, sa = some ⟨b, off, none⟩ ∧ PfsIn w b off xs) :
    Calls Try.prog 5 #[.slice sa xs.length cap, .int .u32 a] w fun e w' => e = .returned (.bool true) ∧ Below w.heap.size w w' := by
  have HP := Lib.hid hP
  clear hP
  have OK : Hid (∀ (i : Nat) (p : Pf), xs[i]? = some p → PfOk p) := Lib.hid fun i p hi => by
    obtain ⟨b, off, _, h⟩ := HP.out (Nat.lt_of_le_of_lt (Nat.zero_le _) (List.getElem?_eq_some_iff.1 hi).1)
    exact (h i p hi).1
  go_enter Try.func5, Try.ntmps5
  go_wp2_with fail
  refine (law_head _).mono ?_
  rintro e w1 ⟨rfl, hB⟩
  go_wp2_with fail
  refine (trI_New 100 _).mono ?_
  rintro e w2 ⟨rfl, T, hb⟩
  have X := Lib.hid (LSt.made hB (show TrI w2 w1.heap.size (fun _ => none) [] 100 from T) hb)
  clear T hb hB
  go_wp2_with fail
  refine (trI_New 100 _).mono ?_
  rintro e w3 ⟨rfl, T, hb⟩
  have T0 : Hid (Two w w3 w1.heap.size (fun _ => none) [] w2.heap.size (fun _ => none) []) := Lib.hid
    ⟨X.out.below hb, LSt.made X.out.bel (show TrI w3 w2.heap.size (fun _ => none) [] 100 from T) hb, fun b h1 h2 => by
      have := X.out.tri.own_lt h1
      rcases h2 with rfl | ⟨k, hk⟩
      · omega
      · cases hk⟩
  clear T hb X
  generalize (fun _ => none : Nat → Option Nat) = N0 at T0
  generalize w1.heap.size = tx at T0 ⊢
  generalize w2.heap.size = ty at T0 ⊢
  go_wp2_with fail
  go_loopw [29] (fun i wr => ∃ (k : Nat) (Nx : Nat → Option Nat) (Sx : List (Nat × Value)), k ≤ xs.length ∧ i = .int .i64 k ∧ Hid (Two w wr tx Nx Sx ty N0 []) ∧ Hid (Cont xs (fun i => i < k) Sx ∧ Sx.length ≤ k)) (fun i _ => xs.length - (intOf i).toNat)
  case atStart => exact ⟨0, N0, [], by omega, rfl, T0, Lib.hid ⟨Cont.nil xs _ (fun i => by omega), by simp⟩⟩
  case round =>
    clear T0
    obtain ⟨k, Nx, Sx, hk, rfl, T, C⟩ := hrel
    by_cases hlt : k < xs.length
    · obtain ⟨b, off, hsa, hP⟩ := HP.out (by omega)
      subst hsa
      obtain ⟨p, hp⟩ : ∃ p, xs[k]? = some p := ⟨_, List.getElem?_eq_getElem hlt⟩
      obtain ⟨hok, d0, d1⟩ := hP k p hp
      have C' := Lib.hid (cont_one C.out.1 OK.out hp C.out.2 (by omega))
      obtain ⟨pa, pn⟩ := p
      simp only at d0 d1
      have d0 := (T.out.x.bel.cell (size_lt d0)).trans d0
      have d1 := (T.out.x.bel.cell (size_lt d1)).trans d1
      have PP := Lib.hid (fun W h => trI_PutA (tb := tx) (N := Nx) (S := Sx) (most := 100) pa pn pn W h (by decide) hok.1)
      clear hP hok hp
      have i0 : (0 : Int) ≤ (k : Int) := by omega
      have i1 : (k : Int) < (xs.length : Int) := by omega
      go_wp2_with fail
      refine reg_tail 10 (by kernel_rfl) (by kernel_rfl) ?_
      simp only [List.take_succ_cons, List.take_zero, List.drop_succ_cons, List.drop_zero]
      repeat still_step
      refine wpStill_nil ?_
      go_wp2_with fail
      have TD := Lib.hid (T.out.below (Below.refl _ _).drew)
      refine (PP.out _ TD.out.x.tri).mono ?_
      intro e w4 hpp
      obtain ⟨N4, rfl, T4⟩ := TD.out.put hpp
      have T4 := Lib.hid T4
      clear hpp TD T PP d0 d1
      go_wp2_with fail
      exact ⟨⟨k + 1, N4, _, by omega, by go_num, T4, Lib.hid ⟨C'.out.1.imp (fun i _ => by omega), C'.out.2⟩⟩, by simp [intOf]; omega⟩
    · obtain rfl : k = xs.length := by omega
      have HX := Lib.hid C.out.1
      have HL := Lib.hid (Nat.le_trans C.out.2 (show xs.length ≤ 100 by omega))
      clear C
      go_wp2_with fail
      go_loopw [8] (fun i wr => ∃ (j : Int) (Ny : Nat → Option Nat) (Sy : List (Nat × Value)), -1 ≤ j ∧ j < xs.length ∧ i = .int .i64 j ∧ Hid (Two w wr tx Nx Sx ty Ny Sy) ∧ Hid (Cont xs (fun i => j < (i : Int)) Sy ∧ (Sy.length : Int) ≤ xs.length - 1 - j)) (fun i _ => (intOf i + 1).toNat)
      case atStart => exact ⟨(xs.length : Int) - 1, N0, [], by omega, by omega, rfl, T, Lib.hid ⟨(Cont.nil xs (fun _ => False) (fun i => id)).imp (fun i hi => by simp; omega), by simp⟩⟩
      case round =>
        clear T
        obtain ⟨j, Ny, Sy, hj1, hj2, rfl, T, C⟩ := hrel
        by_cases hj : j < 0
        · have HY : Hid (Cont xs (fun i => i < xs.length) Sy) := Lib.hid (C.out.1.imp (fun i hi => by omega))
          clear C
          go_wp2_with fail
          have GE : ∀ κ, getL Sx κ = getL Sy κ := fun κ => by
            apply Option.ext
            intro v
            rw [HX.out.2 κ v, HY.out.2 κ v]
          have LL := Lib.hid (len_alike HX.out.1 HY.out.1 GE)
          have LG := Lib.hid (long_alike GE a)
          obtain ⟨A, jj, x0, c0, hE, _⟩ := long_shape (S := Sx) (fun κ v hv => by obtain ⟨_, p, _, _, _, _, rfl⟩ := (HX.out.2 κ v).1 hv; exact ⟨_, rfl⟩) a
          have LX : Hid (∀ W, TrI W tx Nx Sx 100 → Calls Try.prog 22 #[.pointer (some ⟨tx, 0, none⟩), .int .u32 a] W fun e w' => e = .returned (.tuple #[.agg #[.int .u32 A, .int .i64 jj], .int .i64 x0, .bool c0]) ∧ Below W.heap.size W w') := Lib.hid fun W h => by
            have := trI_Longest a W h ha
            rw [hE] at this
            exact this
          have LY : Hid (∀ W, TrI W ty Ny Sy 100 → Calls Try.prog 22 #[.pointer (some ⟨ty, 0, none⟩), .int .u32 a] W fun e w' => e = .returned (.tuple #[.agg #[.int .u32 A, .int .i64 jj], .int .i64 x0, .bool c0]) ∧ Below W.heap.size W w') := Lib.hid fun W h => by
            have := trI_Longest a W h ha
            rw [← LG.out, hE] at this
            exact this
          clear GE LG hE HY
          go_wp2_with fail
          refine (LX.out _ T.out.x.tri).mono ?_
          rintro e w4 ⟨rfl, hb⟩
          have T4 := Lib.hid (T.out.below hb)
          clear hb T LX
          go_upto_region 18 with (fail)
          obtain ⟨W5, hW5, p0, p1, hb⟩ := box2 w4 (.int .u32 A) (.int .i64 jj) 31
          rw [← hW5]; clear hW5
          have T5 := Lib.hid (T4.out.below hb)
          clear hb T4
          go_wp2_with fail
          refine (LY.out _ T5.out.y.tri).mono ?_
          rintro e w6 ⟨rfl, hb⟩
          have T6 := Lib.hid (T5.out.below hb)
          have p0 := cell_below p0 hb
          have p1 := cell_below p1 hb
          clear hb T5 LY
          go_upto_region 19 with (fail)
          obtain ⟨W7, hW7, q0, q1, hb⟩ := box2 w6 (.int .u32 A) (.int .i64 jj) 31
          rw [← hW7]; clear hW7
          have T7 := Lib.hid (T6.out.below hb)
          have p0 := cell_below p0 hb
          have p1 := cell_below p1 hb
          clear hb T6
          go_wp2_with fail
          refine (trI_Len T7.out.x.tri).mono ?_
          rintro e w8 ⟨rfl, rfl⟩
          go_wp2_with fail
          refine (trI_Len T7.out.y.tri).mono ?_
          rintro e w8 ⟨rfl, rfl⟩
          rw [← LL.out]
          go_wp2_with fail
          clear p0 p1 q0 q1
          go_loopw [104] (fun i wr => ∃ (k : Nat) (Nz : Nat → Option Nat) (Sz : List (Nat × Value)), k ≤ xs.length ∧ i = .int .i64 k ∧ Hid (Two w wr tx Nz Sz ty Ny Sy) ∧ Hid ((∀ κ v, getL Sz κ = some v → getL Sx κ = some v ∧ ∀ (i : Nat) p, i < k → xs[i]? = some p → pRight p = true → pKey p ≠ κ) ∧ Sz.length ≤ 100)) (fun i _ => xs.length - (intOf i).toNat)
          case atStart => exact ⟨0, Nx, Sx, by omega, rfl, T7, Lib.hid ⟨fun κ v h => ⟨h, fun i p hi => by omega⟩, HL.out⟩⟩
          case round =>
            clear T7
            obtain ⟨k, Nz, Sz, hk, rfl, T, D⟩ := hrel
            by_cases hlt : k < xs.length
            · obtain ⟨b, off, hsa, hP⟩ := HP.out (by omega)
              subst hsa
              obtain ⟨p, hp⟩ : ∃ p, xs[k]? = some p := ⟨_, List.getElem?_eq_getElem hlt⟩
              obtain ⟨hok, d0, d1⟩ := hP k p hp
              have D' := Lib.hid (drop_step D.out.1 D.out.2 hp)
              obtain ⟨pa, pn⟩ := p
              simp only at d0 d1
              have d0 := (T.out.x.bel.cell (size_lt d0)).trans d0
              have d1 := (T.out.x.bel.cell (size_lt d1)).trans d1
              have PP := Lib.hid (fun W h => trI_DropA (tb := tx) (N := Nz) (S := Sz) (most := 100) pa pn W h (by have := D.out.2; omega) hok.1)
              clear hP hok hp
              have i0 : (0 : Int) ≤ (k : Int) := by omega
              have i1 : (k : Int) < (xs.length : Int) := by omega
              go_wp2_with fail
              refine (PP.out _ T.out.x.tri).mono ?_
              intro e w8 hpp
              obtain ⟨N8, c8, rfl, T8⟩ := T.out.drop hpp
              have T8 := Lib.hid T8
              clear hpp T PP d0 d1
              go_wp2_with fail
              exact ⟨⟨k + 1, N8, _, by omega, by go_num, T8, D'⟩, by simp [intOf]; omega⟩
            · obtain rfl : k = xs.length := by omega
              obtain rfl : Sz = [] := empty_of fun κ => by
                cases hg : getL Sz κ with
                | none => rfl
                | some v =>
                  obtain ⟨h1, h2⟩ := D.out.1 κ v hg
                  obtain ⟨i, p, hi, hp, hr, hk', _⟩ := (HX.out.2 κ v).1 h1
                  exact absurd hk' (h2 i p hi hp hr)
              clear D
              have LZ : Hid (∀ W, TrI W tx Nz [] 100 → Calls Try.prog 22 #[.pointer (some ⟨tx, 0, none⟩), .int .u32 a] W fun e w' => e = .returned (.tuple #[.agg #[.int .u32 0, .int .i64 0], .int .i64 0, .bool false]) ∧ Below W.heap.size W w') := Lib.hid fun W h => by
                have := trI_Longest a W h ha
                rw [← longE_no (bst_nil a 33)] at this
                exact this
              have hmf : ∀ (fn : Fn) (first cap : Array Value) (w : World), (Instr.makeFunc fn first cap).run Try.prog w = .ok (.func fn first cap) w := fun _ _ _ _ => rfl
              go_wp2_with fail
              refine (LZ.out _ T.out.x.tri).mono ?_
              rintro e w8 ⟨rfl, hb⟩
              have T8 := Lib.hid (T.out.below hb)
              clear hb T LZ
              go_upto_region 28 with (fail)
              obtain ⟨W9, hW9, n0, hb⟩ : ∃ W9, W9 = (w8.alloc (.cells #[.int .u32 0, .int .i64 0] 31)).alloc (.cells #[.int .i64 0] 3) ∧ W9.cell? ⟨w8.heap.size + 1, 0, none⟩ = some (.int .i64 0) ∧ Below w8.heap.size w8 W9 :=
                ⟨_, rfl, by simp, ((Below.refl _ _).alloc (Nat.le_refl _) _).alloc (by simp) _⟩
              rw [← hW9]; clear hW9
              have T9 := Lib.hid (T8.out.below hb)
              clear hb T8
              generalize w8.heap.size + 1 = nb at n0 ⊢
              have AL := Lib.hid (trI_All (none_ok tx Nz 100 nb #[.pointer (some ⟨nb, 0, none⟩)]) [] (fun b => b < W9.heap.size) W9 ⟨T9.out.x.tri, n0⟩)
              rw [goP_nil] at AL
              go_wp2_with fail
              refine AL.out.mono ?_
              rintro e wa ⟨rfl, IA, KA⟩
              have TA : TrI wa tx Nz [] 100 := IA.1
              have na : wa.cell? ⟨nb, 0, none⟩ = some (.int .i64 0) := IA.2
              have BA := Lib.hid (T9.out.x.bel.trans (KA.below T9.out.x.bel.size (fun k hk => by have := T9.out.x.bel.size; omega)))
              clear IA KA AL n0 T9
              have TA := Lib.hid TA
              go_wp2_with fail
              refine (trI_Len TA.out).mono ?_
              rintro e wb ⟨rfl, rfl⟩
              go_wp2_with fail
              go_ret
              exact ⟨rfl, BA.out⟩
        · obtain ⟨m, rfl⟩ := Int.eq_ofNat_of_zero_le (show 0 ≤ j by omega)
          have hlt : m < xs.length := by omega
          obtain ⟨b, off, hsa, hP⟩ := HP.out (by omega)
          subst hsa
          obtain ⟨p, hp⟩ : ∃ p, xs[m]? = some p := ⟨_, List.getElem?_eq_getElem hlt⟩
          obtain ⟨hok, d0, d1⟩ := hP m p hp
          have C' := Lib.hid (cont_two C.out.1 OK.out hp (c := xs.length - 1 - m) (by have := C.out.2; omega) (by omega))
          have CL : Hid (((putA (putA Sy 100 p (.int .i64 99)).2 100 p (lenV p)).2.length : Int) ≤ (xs.length : Int) - 1 - ((m : Int) - 1)) := Lib.hid (by have := C'.out.2; omega)
          obtain ⟨pa, pn⟩ := p
          simp only at d0 d1
          have e0 := (T.out.x.bel.cell (size_lt d0)).trans d0
          have e1 := (T.out.x.bel.cell (size_lt d1)).trans d1
          have PP := Lib.hid (fun W h => trI_PutA (tb := ty) (N := Ny) (S := Sy) (most := 100) pa pn 99 W h (by decide) hok.1)
          have PQ := Lib.hid (fun N W h => trI_PutA (tb := ty) (N := N) (S := (putA Sy 100 (pa, pn) (.int .i64 99)).2) (most := 100) pa pn pn W h (by decide) hok.1)
          have D0 := Lib.hid d0
          have D1 := Lib.hid d1
          clear hP hok hp d0 d1
          have i0 : (0 : Int) ≤ (m : Int) := by omega
          have i1 : (m : Int) < (xs.length : Int) := by omega
          go_wp2_with fail
          refine (PP.out _ T.out.y.tri).mono ?_
          intro e w4 hpp
          obtain ⟨N4, rfl, T4⟩ := T.out.swap.put hpp
          have T4 := Lib.hid T4.swap
          have d0 := (T4.out.x.bel.cell (size_lt D0.out)).trans D0.out
          have d1 := (T4.out.x.bel.cell (size_lt D1.out)).trans D1.out
          clear hpp T PP e0 e1
          go_wp2_with fail
          refine reg_tail 10 (by kernel_rfl) (by kernel_rfl) ?_
          simp only [List.take_succ_cons, List.take_zero, List.drop_succ_cons, List.drop_zero]
          repeat still_step
          refine wpStill_nil ?_
          go_wp2_with fail
          have TD := Lib.hid (T4.out.below (Below.refl _ _).drew)
          refine (PQ.out _ _ TD.out.y.tri).mono ?_
          intro e w5 hpp
          obtain ⟨N5, rfl, T5⟩ := TD.out.swap.put hpp
          have T5 := Lib.hid T5.swap
          clear hpp TD T4 PQ d0 d1
          go_wp2_with fail
          exact ⟨⟨(m : Int) - 1, N5, _, by omega, by omega, rfl, T5, Lib.hid ⟨C'.out.1.imp (fun i _ => by simp; omega), CL.out⟩⟩, by simp [intOf]⟩

theorem law_TrieOrder (v : Value) (xs : List Pf) (a : Int) (w : World) (hS : PrefsAt w v xs) (h0 : 0 ≤ a) (h1 : a < 4294967296) : Calls Try.prog 5 #[v, .int .u32 a] w fun e w' => e = .returned (.bool true) ∧ Below w.heap.size w w' := by
  obtain ⟨sa, cap, rfl, hm, hP⟩ := hS
  obtain ⟨x, rfl⟩ := Int.eq_ofNat_of_zero_le h0
  by_cases hl : 60 < xs.length
  · exact order_long sa _ cap _ w hl hm
  · exact order_short sa xs cap x w (by omega) (by omega) hP

namespace trieOrder
open Go.ChangeShapes Go.WideShapes Go.ChangeAt Go.RowKit
set_option linter.unusedVariables false
set_option maxRecDepth 100000 in
theorem lifted (os : Os) (started : os.Started) (H : Type) (enc : TypeId × Value → H) :
    ReturnsInHanded {} Try.checked os 5 .any (Rows.trieOrderSpec.pre6 enc Try.prog Try.f5 Rows.trieOrderRow.domain false) (Rows.trieOrderSpec.post enc Try.prog Try.f5 false true false false) := by
  refine returnsInHanded_of_change (C := Try.checked) fr_own started (by kernel_rfl) Try.func5
    (ChangeSpec.witness6 (enc := enc) (C := Try.checked) false ⟨#[], #[.slice none 0 0, .int .u32 0], []⟩ 8 (by kernel_rfl) (by kernel_rfl) (by kernel_rfl) (by kernel_rfl)) ?_
  intro W base args ds gs before hval0 hW hcnd _
  have hval : ∀ (j : Nat) t v, Try.f5.params[j]? = some t → args[j]? = some v → Value.okWide Try.prog W .any base t v := hval0
  have hW' := hW
  obtain ⟨p, q, hA0, hV, rfl, hfz, hnd⟩ := hW
  have hA : DataW.TrodAll enc Try.prog W 0 (fun _ => true) true Try.f5.params.toList args.toList ds p := hA0
  rw [Try.params5] at hA hval
  obtain ⟨v0, vs0, d0, ds0, p0, q0, hargs, rfl, rfl, h0, r0⟩ := trodAll_cons hA
  obtain ⟨v1, vs1, d1, ds1, p1, q1, rfl, rfl, rfl, h1, r1⟩ := trodAll_cons r0
  obtain ⟨rfl, rfl, rfl⟩ := trodAll_nil r1
  obtain rfl : args = #[v0, v1] := by cases args; simp_all
  obtain ⟨rfl, rfl⟩ := trodVars_none hV
  have lt0 : ∀ x ∈ p0, x.block < W.heap.size := by obtain ⟨m, hm⟩ := h0; exact DataW.trod_lt m _ _ _ hm
  have lt1 : ∀ x ∈ p1, x.block < W.heap.size := by obtain ⟨m, hm⟩ := h1; exact DataW.trod_lt m _ _ _ hm
  obtain ⟨xs, hS⟩ := open_prefs (hval 0 22 v0 rfl rfl) h0
  obtain ⟨a, rfl, ha0, ha1⟩ := open_u32 (hval 1 29 v1 rfl rfl)
  clear hA0 hval0
  refine (law_TrieOrder _ xs a W hS ha0 ha1).mono fun e W' ⟨he, bel⟩ => ?_
  subst he
  exact ⟨_, rfl, _, _, _, [], _, [], hW', trodAll_mk1 (shut_bool Try.underlying4 _), (trodAll_cons_mk (Below.trod fr_laidOut (by kernel_rfl) (of_decide_eq_true (by kernel_rfl)) h0 bel lt0) (trodAll_cons_mk (Below.trod fr_laidOut (by kernel_rfl) (of_decide_eq_true (by kernel_rfl)) h1 bel lt1) trodAll_mk0)), rfl, bel.frame _, fun h => by cases h⟩
theorem over : Rows.trieOrderRow.holds Try.pinned (OpenSpec.ofChange Rows.trieOrderSpec) :=
  OpenClaim.holds_of_wide 5 Try.f5 rfl rfl rfl rfl rfl rfl rfl ⟨rfl, rfl, rfl, rfl, rfl⟩ rfl rfl rfl rfl rfl (by kernel_rfl) Try.func5 (by kernel_rfl)
    (of_decide_eq_true (by kernel_rfl)) (by unfold Func.isWrapper; first | (rw [if_pos (by decide +kernel)]; kernel_rfl) | (rw [if_neg (by decide +kernel)]; exact ⟨rfl, rfl⟩))
    (fun os started H enc _ => lifted os started H enc)
/-- THE STATEMENT TrieOrder. -/
theorem proved : Rows.TrieOrderSaid := over
#print axioms proved
end trieOrder
end Go.Proofs.Ytnklhfdhaclfiaa
