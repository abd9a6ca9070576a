/-
  TrieStops: who goes through all and has enough is asked no more; for all nets and numbers; no condition.
-/
import Derived.Test.YtnklhfdhaclfiaaTrG
import Derived.Test.YtnklhfdhaclfiaaTrV
import Derived.Test.YtnklhfdhaclfiaaBits
import Derived.Shelf.Abstract
namespace Go.Proofs.Ytnklhfdhaclfiaa
open Go.RowKit

/-- a count as the program keeps it. -/
def cnt : Nat → Int
  | 0 => 0
  | k + 1 => wrap64 (cnt k + 1)
theorem cnt_eq : ∀ k : Nat, k ≤ 1000000 → cnt k = k
  | 0, _ => rfl
  | k + 1, h => by
    rw [cnt, cnt_eq k (by omega)]
    rw [IntWalk.wrap64_in _ ⟨by omega, by omega⟩]
    omega
/-- Put of whatever net. -/
theorem trB_PutA {tb : Nat} {N : Nat → Option Nat} {S : List (Nat × Value)} {most : Int} (a : Nat) (n : Int) (v : Bool) (w : World) (h : TrB w tb N S most) (hm : most ≤ 4096) (ha : a < 4294967296) :
    Calls Try.prog 10 #[.pointer (some ⟨tb, 0, none⟩), .agg #[.int .u32 a, .int .i64 n], .bool v] w (PutPostB tb N most w (putA S most (a, n) (.bool v))) := by
  by_cases hR : rightB a n = true
  · obtain ⟨m, rfl⟩ := Int.eq_ofNat_of_zero_le (rightB_range hR).1
    have := trB_Put a m v w h hm ha hR
    unfold putA
    rw [if_pos hR]
    exact this
  · refine (trB_Put_no ⟨tb, 0, none⟩ a n v w (by omega) (by omega) (by simpa using hR)).mono ?_
    rintro e w' ⟨rfl, hb⟩
    have e : putA S most (a, n) (.bool v) = (1, S) := if_neg hR
    exact ⟨N, ret_put e, by rw [e]; exact h.below hb, TExt.refl _ _, Kept.of_below hb⟩
/-- a count that stops at m. -/
structure StopInv (tb : Nat) (N : Nat → Option Nat) (S : List (Nat × Value)) (nb mb : Nat) (m : Int) (P : Nat → Prop) (L : List Itm) (W : World) : Prop where
  tri : TrB W tb N S 100
  n : W.heap[nb]? = some (.cells #[.int .i64 (cnt L.length)] 3 (0, 0))
  m : W.cell? ⟨mb, 0, none⟩ = some (.int .i64 m)
  ne : nb ≠ mb
  own : ¬ TOwn tb N nb
  free : ¬ P nb
abbrev stopC (m : Int) (L : List Itm) : Bool := decide (cnt L.length < m)
set_option maxHeartbeats 800000 in
theorem stop_call (tb : Nat) (N : Nat → Option Nat) (S : List (Nat × Value)) (nb mb : Nat) (m : Int) (P : Nat → Prop) (L : List Itm) (W : World) (A i : Nat) (v : Value) (h : StopInv tb N S nb mb m P L W) :
    Calls Try.prog 12 #[.agg #[.int .u32 A, .int .i64 i], v, .pointer (some ⟨nb, 0, none⟩), .pointer (some ⟨mb, 0, none⟩)] W fun e w' => e = .returned (.bool (stopC m (L ++ [((A, i), v)]))) ∧ StopInv tb N S nb mb m P (L ++ [((A, i), v)]) w' ∧ Kept (fun b => ¬ P b) W w' := by
  have H := Lib.hid h
  have hc : Hid (cnt (L ++ [((A, i), v)]).length = wrap64 (cnt L.length + 1)) := Lib.hid (by simp [cnt])
  have ES : Hid (stopC m (L ++ [((A, i), v)]) = decide (wrap64 (cnt L.length + 1) < m)) := Lib.hid (by unfold stopC; rw [hc.out])
  clear h
  have hL := L.length
  generalize hx : cnt L.length = x at hc ES
  have HX := Lib.hid hx
  clear hx
  go_enter Try.func12, Try.ntmps12
  go_upto_region 1 with (fail)
  obtain ⟨W0, hW0, _, _, hb⟩ := box2 W (.int .u32 A) (.int .i64 i) 31
  rw [← hW0]; clear hW0
  have n0 : W0.heap[nb]? = some (.cells #[.int .i64 x] 3 (0, 0)) := by rw [hb.block nb (row_lt H.out.n), H.out.n, HX.out]
  have m0 := cell_below H.out.m hb
  have c0 : W0.cell? ⟨nb, 0, none⟩ = some (.int .i64 x) := row_cell n0 0
  have f0 := row_free n0 0
  have ne := H.out.ne
  have ne' := H.out.ne.symm
  have K : Hid (∀ u, StopInv tb N S nb mb m P (L ++ [((A, i), v)]) (W0.setCell ⟨nb, 0, none⟩ u) ∨ u ≠ .int .i64 (wrap64 (x + 1))) := Lib.hid fun u => by
    by_cases e : u = .int .i64 (wrap64 (x + 1))
    · subst e
      refine .inl ⟨?_, ?_, ?_, H.out.ne, H.out.own, H.out.free⟩
      · exact (H.out.tri.below hb).kept ((Kept.refl (fun b => b = nb) W0).put _ _ (.inl rfl)) (fun b hbo e => H.out.own (e ▸ hbo))
      · rw [set_same n0, hc.out]; rfl
      · exact ((Kept.refl (fun b => b = nb) W0).put ⟨nb, 0, none⟩ _ (.inl rfl)).cell m0 (fun e => H.out.ne e.symm)
    · exact .inr e
  have KK : Hid (∀ u, Kept (fun b => ¬ P b) W (W0.setCell ⟨nb, 0, none⟩ u)) := Lib.hid fun u => (Kept.of_below hb).put _ _ (.inl H.out.free)
  clear hb n0
  go_wp2_with fail
  go_ret
  exact ⟨ret_bool ES.out.symm, (K.out _).resolve_right (fun h => h rfl), KK.out _⟩
theorem stop_ok (tb : Nat) (N : Nat → Option Nat) (S : List (Nat × Value)) (nb mb : Nat) (m : Int) : EachOkB tb N S 100 12 #[.pointer (some ⟨nb, 0, none⟩), .pointer (some ⟨mb, 0, none⟩)] (stopC m) (StopInv tb N S nb mb m) where
  ent := enters_of Try.func12 (by kernel_rfl) rfl
  stab := fun P P' L W W' h hb hP => ⟨h.tri.below hb, (hb.block nb (row_lt h.n)).trans h.n, cell_below h.m hb, h.ne, h.own, fun hp => by
    rcases hP nb hp with h1 | h1
    · exact h.free h1
    · have := row_lt h.n; omega⟩
  tri := fun _ _ _ h => h.tri
  call := fun P L W A i v h _ _ _ => stop_call tb N S nb mb m P L W A i v h
theorem stop_len (m : Nat) (hm : m ≤ 1000) : ∀ (L xs : List Itm), L.length < m → (runL (stopC m) L xs).1.length = min m (L.length + xs.length)
  | L, [], h => by simp [runL]; omega
  | L, x :: xs, h => by
    have hl : (L ++ [x]).length = L.length + 1 := by simp
    simp only [runL]
    by_cases e : L.length + 1 < m
    · rw [if_pos (by unfold stopC; rw [hl, cnt_eq _ (by omega)]; simp; omega), stop_len m hm _ xs (by omega)]
      simp; omega
    · rw [if_neg (by unfold stopC; rw [hl, cnt_eq _ (by omega)]; simp; omega)]
      simp; omega

set_option maxHeartbeats 400000 in
theorem stops_long (sa : Option Addr) (len cap : Nat) (a : Int) (w : World) (hl : 40 < len) (hm : len ≤ maxLen) : Calls Try.prog 3 #[.slice sa len cap, .int .i64 a] w fun e w' => e = .returned (.bool true) ∧ Below w.heap.size w w' := by
  unfold maxLen at hm
  go_enter Try.func3, Try.ntmps3
  go_wp2_with fail
  obtain ⟨W0, hW0, hB⟩ : ∃ W0, W0 = w.alloc (.cells #[.int .i64 a] 3) ∧ Below w.heap.size w W0 := ⟨_, rfl, (Below.refl _ _).alloc (Nat.le_refl _) _⟩
  rw [← hW0]; clear hW0
  refine (law_head _).mono ?_
  rintro e w1 ⟨rfl, hb⟩
  have hB := below_on hB hb
  go_wp2_with fail
  go_ret
  exact ⟨rfl, hB⟩

set_option maxHeartbeats 3200000 in
set_option maxRecDepth 100000 in
theorem stops_short (sa : Option Addr) (xs : List Pf) (cap : Nat) (a : Int) (w : World) (hl : xs.length ≤ 40) (hP : 0 < xs.length → ∃ b off : Nat, sa = some ⟨b, off, none⟩ ∧ PfsIn w b off xs) :
    Calls Try.prog 3 #[.slice sa xs.length cap, .int .i64 a] w fun e w' => e = .returned (.bool true) ∧ Below w.heap.size w w' := by
  have HP := Lib.hid hP
  clear hP
  go_enter Try.func3, Try.ntmps3
  go_wp2_with fail
  obtain ⟨W0, hW0, r0, hB⟩ : ∃ W0, W0 = w.alloc (.cells #[.int .i64 a] 3) ∧ W0.heap[w.heap.size]? = some (.cells #[.int .i64 a] 3 (0, 0)) ∧ Below w.heap.size w W0 := ⟨_, rfl, heap_alloc_new w _, (Below.refl _ _).alloc (Nat.le_refl _) _⟩
  rw [← hW0]; clear hW0
  refine (law_head _).mono ?_
  rintro e w1 ⟨rfl, hb⟩
  have r0 := (hb.block _ (row_lt r0)).trans r0
  have hB := below_on hB hb
  clear hb
  go_wp2_with fail
  refine (trB_New 100 _).mono ?_
  rintro e w2 ⟨rfl, T, hb⟩
  have X := Lib.hid (LStB.made hB (show TrB w2 w1.heap.size (fun _ => none) [] 100 from T) hb)
  have R0 : Hid (w2.heap[w.heap.size]? = some (.cells #[.int .i64 a] 3 (0, 0)) ∧ ¬ TOwn w1.heap.size (fun _ => none) w.heap.size) := Lib.hid ⟨(hb.block _ (row_lt r0)).trans r0, fun h => by
    rcases h with h | ⟨k, hk⟩
    · have := row_lt r0; omega
    · cases hk⟩
  clear T hb hB r0
  generalize (fun _ => none : Nat → Option Nat) = N0 at X R0
  generalize w1.heap.size = tx at X R0 ⊢
  go_wp2_with fail
  go_loopw [16] (fun i wr => ∃ (k : Nat) (Nx : Nat → Option Nat) (Sx : List (Nat × Value)), k ≤ xs.length ∧ i = .int .i64 k ∧ Hid (LStB w wr tx Nx Sx 100 ∧ KeysOk Sx ∧ wr.heap[w.heap.size]? = some (.cells #[.int .i64 a] 3 (0, 0)) ∧ ¬ TOwn tx Nx w.heap.size ∧ Sx.length ≤ 1000)) (fun i _ => xs.length - (intOf i).toNat)
  case atStart => exact ⟨0, N0, [], by omega, rfl, Lib.hid ⟨X.out, fun κ v h => by simp [getL] at h, R0.out.1, R0.out.2, by simp⟩⟩
  case round =>
    clear X R0
    obtain ⟨k, Nx, Sx, hk, rfl, T⟩ := hrel
    by_cases hlt : k < xs.length
    · obtain ⟨b, off, hsa, hP⟩ := HP.out (by omega)
      subst hsa
      obtain ⟨p, hp⟩ : ∃ p, xs[k]? = some p := ⟨_, List.getElem?_eq_getElem hlt⟩
      obtain ⟨hok, d0, d1⟩ := hP k p hp
      have KO := Lib.hid (keys_put (most := 100) (v := .bool true) hok T.out.2.1)
      have LO : Hid ((putA Sx 100 p (.bool true)).2.length ≤ 1000) := Lib.hid (by
        have hx := T.out.2.2.2.2
        unfold putA
        by_cases hr : pRight p = true
        · rw [if_pos hr]
          unfold putR
          have hn := len_snoc T.out.1.tri.ap (pKey p) (.bool true)
          split
          · next hh => simp only; rw [hn, if_pos hh]; exact hx
          · split
            · exact hx
            · next hh hf => simp only; rw [hn, if_neg hh]; omega
        · rw [if_neg hr]; exact hx)
      obtain ⟨pa, pn⟩ := p
      simp only at d0 d1
      have d0 := (T.out.1.bel.cell (size_lt d0)).trans d0
      have d1 := (T.out.1.bel.cell (size_lt d1)).trans d1
      have PP := Lib.hid (fun W h => trB_PutA (tb := tx) (N := Nx) (S := Sx) (most := 100) pa pn true W h (by decide) hok.1)
      clear hP hok hp
      have i0 : (0 : Int) ≤ (k : Int) := by omega
      have i1 : (k : Int) < (xs.length : Int) := by omega
      go_wp2_with fail
      refine (PP.out _ T.out.1.tri).mono ?_
      intro e w4 hpp
      obtain ⟨N4, rfl, T4, X4, K4⟩ := hpp.st T.out.1
      have R4 : Hid (w4.heap[w.heap.size]? = some (.cells #[.int .i64 a] 3 (0, 0)) ∧ ¬ TOwn tx N4 w.heap.size) := Lib.hid ⟨(K4.block _ (row_lt T.out.2.2.1) T.out.2.2.2.1).trans T.out.2.2.1, X4.not_own (row_lt T.out.2.2.1) T.out.2.2.2.1⟩
      have T4 := Lib.hid T4
      clear hpp T PP d0 d1 X4 K4
      go_wp2_with fail
      exact ⟨⟨k + 1, N4, _, by omega, by go_num, Lib.hid ⟨T4.out, KO.out, R4.out.1, R4.out.2, LO.out⟩⟩, by simp [intOf]; omega⟩
    · obtain rfl : k = xs.length := by omega
      have GL := Lib.hid (goP_len T.out.1.tri.ap T.out.2.1)
      have c0 : wr.cell? ⟨w.heap.size, 0, none⟩ = some (.int .i64 a) := row_cell T.out.2.2.1 0
      have f0 := row_free T.out.2.2.1 0
      obtain ⟨q, hq⟩ := Int.eq_ofNat_of_zero_le (show 0 ≤ a % 32 by omega)
      have hq32 : q < 32 := by omega
      have hand : bits .and .i64 a 31 = (q : Int) := by rw [and_31, hq]
      clear hq
      go_upto_region 12 with (fail)
      obtain ⟨W5, hW5⟩ : ∃ W5, W5 = wr.setCell ⟨w.heap.size, 0, none⟩ (.int .i64 (1 + (q : Int))) := ⟨_, rfl⟩
      have K5 : Kept (fun b => b = w.heap.size) wr W5 := by rw [hW5]; exact (Kept.refl _ wr).put _ _ (.inl rfl)
      have T5 := Lib.hid (T.out.1.tri.kept K5 (fun b hb e => T.out.2.2.2.1 (e ▸ hb)))
      have m5 : W5.heap[w.heap.size]? = some (.cells #[.int .i64 (1 + (q : Int))] 3 (0, 0)) := by rw [hW5, set_same T.out.2.2.1]; rfl
      have B5 : Hid (Below w.heap.size w W5) := Lib.hid (by rw [hW5]; exact T.out.1.bel.setCell (Nat.le_refl _) _)
      have O5 := Lib.hid T.out.2.2.2
      rw [← hW5]
      clear hW5 K5 T c0 f0 hand
      go_upto_region 13 with (fail)
      obtain ⟨W6, hW6, n6, hb⟩ : ∃ W6, W6 = W5.alloc (.cells #[.int .i64 0] 3) ∧ W6.heap[W5.heap.size]? = some (.cells #[.int .i64 0] 3 (0, 0)) ∧ Below W5.heap.size W5 W6 := ⟨_, rfl, heap_alloc_new W5 _, (Below.refl _ _).alloc (Nat.le_refl _) _⟩
      rw [← hW6]; clear hW6
      have m6 := (hb.block _ (row_lt m5)).trans m5
      have I6 : StopInv tx Nx Sx W5.heap.size w.heap.size (1 + (q : Int)) (fun b => b < W5.heap.size) [] W6 := ⟨T5.out.below hb, n6, row_cell m6 0, by have := row_lt m5; omega, fun h => by have := T5.out.own_lt h; omega, by simp⟩
      have B6 := Lib.hid (below_on B5.out hb)
      have AL := Lib.hid (trB_All (stop_ok tx Nx Sx W5.heap.size w.heap.size (1 + (q : Int))) [] _ W6 I6)
      have hz : W5.heap.size ≥ w.heap.size := B5.out.size
      have hmf : ∀ (fn : Fn) (first cap : Array Value) (w : World), (Instr.makeFunc fn first cap).run Try.prog w = .ok (.func fn first cap) w := fun _ _ _ _ => rfl
      clear T5 m5 B5 hb n6 m6 I6
      have HZ := Lib.hid (show w.heap.size ≤ W6.heap.size ∧ w.heap.size ≤ W5.heap.size from ⟨B6.out.size, hz⟩)
      clear hz
      generalize W5.heap.size = nb at AL HZ ⊢
      go_wp2_with fail
      refine AL.out.mono ?_
      rintro e wa ⟨rfl, IA, KA⟩
      have hlen := stop_len (1 + q) (by omega) [] (goP Sx 32 0 0) (by simp; omega)
      have ecast : ((1 + q : Nat) : Int) = 1 + (q : Int) := by omega
      rw [ecast] at hlen
      rw [GL.out] at hlen
      have BA := Lib.hid (B6.out.trans (KA.below B6.out.size (fun k hk => by have := HZ.out.2; simp at hk; omega)))
      have TA := Lib.hid IA.tri
      have n7 : wa.cell? ⟨nb, 0, none⟩ = some (.int .i64 (min (1 + q) Sx.length : Nat)) := by
        have := row_cell IA.n 0
        rw [hlen, cnt_eq _ (by simp; omega)] at this
        simpa using this
      have m7 := IA.m
      have SL : Hid (Sx.length ≤ 1000) := Lib.hid O5.out.2
      clear AL IA KA B6 hlen ecast GL O5
      have LN : Hid (∀ n, Calls Try.prog 13 #[.pointer (some ⟨tx, 0, none⟩)] (wa.drewN n) fun e w' => e = .returned (.int .i64 Sx.length) ∧ w' = wa.drewN n) := Lib.hid fun n => (trB_Len (TA.out.below (below_drewN (Below.refl _ _) n))).mono fun _ _ ⟨h1, h2⟩ => ⟨h1, h2.symm⟩
      go_wp2_with fail
      go_quiet ((go_at_call 13; exact Calls.quiet_of_same (LN.out _)))
      go_wp2_with fail
      go_ret
      exact ⟨ret_bool (by rw [beq_iff_eq]; omega), below_drewN BA.out _⟩

theorem law_TrieStops (v : Value) (xs : List Pf) (a : Int) (w : World) (hS : PrefsAt w v xs) : Calls Try.prog 3 #[v, .int .i64 a] w fun e w' => e = .returned (.bool true) ∧ Below w.heap.size w w' := by
  obtain ⟨sa, cap, rfl, hm, hP⟩ := hS
  by_cases hl : 40 < xs.length
  · exact stops_long sa _ cap _ w hl hm
  · exact stops_short sa xs cap a w (by omega) hP

namespace trieStops
open Go.ChangeShapes Go.WideShapes Go.ChangeAt Go.RowKit
set_option linter.unusedVariables false
set_option maxRecDepth 100000 in
theorem lifted (os : Os) (started : os.Started) (H : Type) (enc : TypeId × Value → H) :
    ReturnsInHanded {} Try.checked os 3 .any (Rows.trieStopsSpec.pre6 enc Try.prog Try.f3 Rows.trieStopsRow.domain false) (Rows.trieStopsSpec.post enc Try.prog Try.f3 false true false false) := by
  refine returnsInHanded_of_change (C := Try.checked) fr_own started (by kernel_rfl) Try.func3
    (ChangeSpec.witness6 (enc := enc) (C := Try.checked) false ⟨#[], #[.slice none 0 0, .int .i64 0], []⟩ 8 (by kernel_rfl) (by kernel_rfl) (by kernel_rfl) (by kernel_rfl)) ?_
  intro W base args ds gs before hval0 hW hcnd _
  have hval : ∀ (j : Nat) t v, Try.f3.params[j]? = some t → args[j]? = some v → Value.okWide Try.prog W .any base t v := hval0
  have hW' := hW
  obtain ⟨p, q, hA0, hV, rfl, hfz, hnd⟩ := hW
  have hA : DataW.TrodAll enc Try.prog W 0 (fun _ => true) true Try.f3.params.toList args.toList ds p := hA0
  rw [Try.params3] at hA hval
  obtain ⟨v0, vs0, d0, ds0, p0, q0, hargs, rfl, rfl, h0, r0⟩ := trodAll_cons hA
  obtain ⟨v1, vs1, d1, ds1, p1, q1, rfl, rfl, rfl, h1, r1⟩ := trodAll_cons r0
  obtain ⟨rfl, rfl, rfl⟩ := trodAll_nil r1
  obtain rfl : args = #[v0, v1] := by cases args; simp_all
  obtain ⟨rfl, rfl⟩ := trodVars_none hV
  have lt0 : ∀ x ∈ p0, x.block < W.heap.size := by obtain ⟨m, hm⟩ := h0; exact DataW.trod_lt m _ _ _ hm
  have lt1 : ∀ x ∈ p1, x.block < W.heap.size := by obtain ⟨m, hm⟩ := h1; exact DataW.trod_lt m _ _ _ hm
  obtain ⟨xs, hS⟩ := open_prefs (hval 0 22 v0 rfl rfl) h0
  obtain ⟨a, rfl, ha0, ha1⟩ := open_i64 (hval 1 3 v1 rfl rfl)
  clear hA0 hval0
  refine (law_TrieStops _ xs a W hS).mono fun e W' ⟨he, bel⟩ => ?_
  subst he
  exact ⟨_, rfl, _, _, _, [], _, [], hW', trodAll_mk1 (shut_bool Try.underlying4 _), (trodAll_cons_mk (Below.trod fr_laidOut (by kernel_rfl) (of_decide_eq_true (by kernel_rfl)) h0 bel lt0) (trodAll_cons_mk (Below.trod fr_laidOut (by kernel_rfl) (of_decide_eq_true (by kernel_rfl)) h1 bel lt1) trodAll_mk0)), rfl, bel.frame _, fun h => by cases h⟩
theorem over : Rows.trieStopsRow.holds Try.pinned (OpenSpec.ofChange Rows.trieStopsSpec) :=
  OpenClaim.holds_of_wide 3 Try.f3 rfl rfl rfl rfl rfl rfl rfl ⟨rfl, rfl, rfl, rfl, rfl⟩ rfl rfl rfl rfl rfl (by kernel_rfl) Try.func3 (by kernel_rfl)
    (of_decide_eq_true (by kernel_rfl)) (by unfold Func.isWrapper; first | (rw [if_pos (by decide +kernel)]; kernel_rfl) | (rw [if_neg (by decide +kernel)]; exact ⟨rfl, rfl⟩))
    (fun os started H enc _ => lifted os started H enc)
/-- THE STATEMENT TrieStops. -/
theorem proved : Rows.TrieStopsSaid := over
#print axioms proved
end trieStops
end Go.Proofs.Ytnklhfdhaclfiaa
