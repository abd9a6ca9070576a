/- Texts of one proof, one behind another. -/
import Derived.Test.YtohkbcdnlmjcjaaDoorWr5
import Derived.Test.YtohkbcdnlmjcjaaDoorWr4
import Derived.Test.YtohkbcdnlmjcjaaDoorWr6
import Derived.LoopTactic
import Derived.OwnWalk
import Derived.Deep.DeepCutAuto
import Derived.LoopN
import Derived.Lib.SliceRun
/-
  slices.Clone at four types.
-/
namespace Go.Proofs.YtohkbcdnlmjcjaaDoor
open Go.RowKit

set_option maxRecDepth 100000 in
theorem info_seg : (Tryd.prog.info? 32).map (fun i => (i.zero, i.size, i.bytes)) = some (some (.agg #[.bool false, .slice none 0 0]), 2, 32) := by kernel_rfl
set_option maxRecDepth 100000 in
theorem info_other : (Tryd.prog.info? 61).map (fun i => (i.zero, i.size, i.bytes)) = some (some (.agg #[.int .i64 0, .slice none 0 0]), 2, 32) := by kernel_rfl
set_option maxRecDepth 100000 in
theorem info_intT : (Tryd.prog.info? 3).map (fun i => (i.zero, i.size, i.bytes)) = some (some (.int .i64 0), 1, 8) := by kernel_rfl
set_option maxRecDepth 100000 in
theorem info_byteT : (Tryd.prog.info? 5).map (fun i => (i.zero, i.size, i.bytes)) = some (some (.int .u8 0), 1, 1) := by kernel_rfl
set_option maxRecDepth 100000 in
set_option maxHeartbeats 1600000 in
theorem sl_CloneSeg (sa : Option Addr) (n cap : Nat) (cs : List Value) (w : World) (hl : cs.length = n * 2) (hn : n ≤ maxLen) (hc : 0 < n → ∃ b off, sa = some ⟨b, off, none⟩ ∧ ∀ q u, cs[q]? = some u → w.cell? ⟨b, off + q, none⟩ = some u)
    (h1 : ∀ u ∈ cs, u.oneCell' = true) (hb : n * 32 ≤ 140737488351232) : Calls Tryd.prog 28 #[.slice sa n cap] w fun e w' => ∃ v', e = .returned v' ∧ w'.ownsRow w.heap.size 32 2 v' n cs ∧ Below w.heap.size w w' := by
  obtain ⟨i0, hii, hz0, hz1, hz2⟩ := info_parts info_seg
  have HC := Lib.hid hc
  have HL := Lib.hid hl
  have H1 := Lib.hid h1
  unfold maxLen at hn
  clear hc hl h1
  go_enter Tryd.func28, Tryd.ntmps28
  cases sa with
  | none =>
    obtain rfl : n = 0 := by
      by_cases h0 : 0 < n
      · obtain ⟨b, off, h, _⟩ := HC.out h0
        cases h
      · omega
    obtain rfl : cs = [] := List.length_eq_zero_iff.1 (by have := HL.out; omega)
    have EQ := Lib.run_eql_slice_nil (P := Tryd.prog) w 22 32 none 0 cap 0 0 Tryd.underlying22
    simp only [Option.isNone_none] at EQ
    go_wp2_with fail
    go_ret
    exact ⟨_, rfl, ⟨by simp, .inl ⟨rfl, rfl⟩⟩, Below.refl _ _⟩
  | some a =>
    have CC : Hid (∀ q u, cs[q]? = some u → w.cell? (a.add q) = some u) := Lib.hid (by
      intro q u hq
      by_cases h0 : 0 < n
      · obtain ⟨b, off, h, h2⟩ := HC.out h0
        injection h with h
        subst h
        have e : (⟨b, off, none⟩ : Addr).add q = ⟨b, off + q, none⟩ := by
          unfold Addr.add
          split
          · next h => rw [h]; simp
          · rfl
        rw [e]
        exact h2 q u hq
      · have := (List.getElem?_eq_some_iff.1 hq).1
        rw [HL.out] at this
        have : n = 0 := by omega
        subst this
        omega)
    clear HC
    have OE := Lib.hid (own_empty (w := w) (B := w.heap.size) (e := 32) (k := 2) (Nat.le_refl _))
    have EQ := Lib.run_eql_slice_nil (P := Tryd.prog) w 22 32 (some a) n cap 0 0 Tryd.underlying22
    simp only [Option.isNone_some] at EQ
    go_wp2_with (at_builtin; refine wpList_append_own _ rfl _ _ 22 rfl w.heap.size 32 i0 _ 2 32 Tryd.underlying22 hii hz0 hz1 hz2 rfl (by decide) _ 0 [] rfl OE.out a n cap cs rfl HL.out (fun q u hq => cell_below (CC.out q u hq) ((Below.refl _ _).alloc (Nat.le_refl _) _)) H1.out (by unfold maxLen; omega) (by omega) (by simp) ?_)
    intro v' w' hown hgrow _
    have OW : Hid (w'.ownsRow w.heap.size 32 2 v' n cs) := Lib.hid (by simpa using hown)
    have BW : Hid (Below w.heap.size w w') := Lib.hid (((Below.refl _ _).alloc (Nat.le_refl _) _).grown hgrow (by simp) (fun g hg => by cases hg; exact Nat.le_refl _))
    clear hown hgrow
    go_wp2_with fail
    go_ret
    exact ⟨_, rfl, OW.out, BW.out⟩
set_option maxRecDepth 100000 in
set_option maxHeartbeats 1600000 in
theorem sl_CloneInt (sa : Option Addr) (n cap : Nat) (cs : List Value) (w : World) (hl : cs.length = n * 1) (hn : n ≤ maxLen) (hc : 0 < n → ∃ b off, sa = some ⟨b, off, none⟩ ∧ ∀ q u, cs[q]? = some u → w.cell? ⟨b, off + q, none⟩ = some u)
    (h1 : ∀ u ∈ cs, u.oneCell' = true) (hb : n * 8 ≤ 140737488351232) : Calls Tryd.prog 29 #[.slice sa n cap] w fun e w' => ∃ v', e = .returned v' ∧ w'.ownsRow w.heap.size 3 1 v' n cs ∧ Below w.heap.size w w' := by
  obtain ⟨i0, hii, hz0, hz1, hz2⟩ := info_parts info_intT
  have HC := Lib.hid hc
  have HL := Lib.hid hl
  have H1 := Lib.hid h1
  unfold maxLen at hn
  clear hc hl h1
  go_enter Tryd.func29, Tryd.ntmps29
  cases sa with
  | none =>
    obtain rfl : n = 0 := by
      by_cases h0 : 0 < n
      · obtain ⟨b, off, h, _⟩ := HC.out h0
        cases h
      · omega
    obtain rfl : cs = [] := List.length_eq_zero_iff.1 (by have := HL.out; omega)
    have EQ := Lib.run_eql_slice_nil (P := Tryd.prog) w 25 3 none 0 cap 0 0 Tryd.underlying25
    simp only [Option.isNone_none] at EQ
    go_wp2_with fail
    go_ret
    exact ⟨_, rfl, ⟨by simp, .inl ⟨rfl, rfl⟩⟩, Below.refl _ _⟩
  | some a =>
    have CC : Hid (∀ q u, cs[q]? = some u → w.cell? (a.add q) = some u) := Lib.hid (by
      intro q u hq
      by_cases h0 : 0 < n
      · obtain ⟨b, off, h, h2⟩ := HC.out h0
        injection h with h
        subst h
        have e : (⟨b, off, none⟩ : Addr).add q = ⟨b, off + q, none⟩ := by
          unfold Addr.add
          split
          · next h => rw [h]; simp
          · rfl
        rw [e]
        exact h2 q u hq
      · have := (List.getElem?_eq_some_iff.1 hq).1
        rw [HL.out] at this
        have : n = 0 := by omega
        subst this
        omega)
    clear HC
    have OE := Lib.hid (own_empty (w := w) (B := w.heap.size) (e := 3) (k := 1) (Nat.le_refl _))
    have EQ := Lib.run_eql_slice_nil (P := Tryd.prog) w 25 3 (some a) n cap 0 0 Tryd.underlying25
    simp only [Option.isNone_some] at EQ
    go_wp2_with (at_builtin; refine wpList_append_own _ rfl _ _ 25 rfl w.heap.size 3 i0 _ 1 8 Tryd.underlying25 hii hz0 hz1 hz2 rfl (by decide) _ 0 [] rfl OE.out a n cap cs rfl HL.out (fun q u hq => cell_below (CC.out q u hq) ((Below.refl _ _).alloc (Nat.le_refl _) _)) H1.out (by unfold maxLen; omega) (by omega) (by simp) ?_)
    intro v' w' hown hgrow _
    have OW : Hid (w'.ownsRow w.heap.size 3 1 v' n cs) := Lib.hid (by simpa using hown)
    have BW : Hid (Below w.heap.size w w') := Lib.hid (((Below.refl _ _).alloc (Nat.le_refl _) _).grown hgrow (by simp) (fun g hg => by cases hg; exact Nat.le_refl _))
    clear hown hgrow
    go_wp2_with fail
    go_ret
    exact ⟨_, rfl, OW.out, BW.out⟩
set_option maxRecDepth 100000 in
set_option maxHeartbeats 1600000 in
theorem sl_CloneOther (sa : Option Addr) (n cap : Nat) (cs : List Value) (w : World) (hl : cs.length = n * 2) (hn : n ≤ maxLen) (hc : 0 < n → ∃ b off, sa = some ⟨b, off, none⟩ ∧ ∀ q u, cs[q]? = some u → w.cell? ⟨b, off + q, none⟩ = some u)
    (h1 : ∀ u ∈ cs, u.oneCell' = true) (hb : n * 32 ≤ 140737488351232) : Calls Tryd.prog 30 #[.slice sa n cap] w fun e w' => ∃ v', e = .returned v' ∧ w'.ownsRow w.heap.size 61 2 v' n cs ∧ Below w.heap.size w w' := by
  obtain ⟨i0, hii, hz0, hz1, hz2⟩ := info_parts info_other
  have HC := Lib.hid hc
  have HL := Lib.hid hl
  have H1 := Lib.hid h1
  unfold maxLen at hn
  clear hc hl h1
  go_enter Tryd.func30, Tryd.ntmps30
  cases sa with
  | none =>
    obtain rfl : n = 0 := by
      by_cases h0 : 0 < n
      · obtain ⟨b, off, h, _⟩ := HC.out h0
        cases h
      · omega
    obtain rfl : cs = [] := List.length_eq_zero_iff.1 (by have := HL.out; omega)
    have EQ := Lib.run_eql_slice_nil (P := Tryd.prog) w 26 61 none 0 cap 0 0 Tryd.underlying26
    simp only [Option.isNone_none] at EQ
    go_wp2_with fail
    go_ret
    exact ⟨_, rfl, ⟨by simp, .inl ⟨rfl, rfl⟩⟩, Below.refl _ _⟩
  | some a =>
    have CC : Hid (∀ q u, cs[q]? = some u → w.cell? (a.add q) = some u) := Lib.hid (by
      intro q u hq
      by_cases h0 : 0 < n
      · obtain ⟨b, off, h, h2⟩ := HC.out h0
        injection h with h
        subst h
        have e : (⟨b, off, none⟩ : Addr).add q = ⟨b, off + q, none⟩ := by
          unfold Addr.add
          split
          · next h => rw [h]; simp
          · rfl
        rw [e]
        exact h2 q u hq
      · have := (List.getElem?_eq_some_iff.1 hq).1
        rw [HL.out] at this
        have : n = 0 := by omega
        subst this
        omega)
    clear HC
    have OE := Lib.hid (own_empty (w := w) (B := w.heap.size) (e := 61) (k := 2) (Nat.le_refl _))
    have EQ := Lib.run_eql_slice_nil (P := Tryd.prog) w 26 61 (some a) n cap 0 0 Tryd.underlying26
    simp only [Option.isNone_some] at EQ
    go_wp2_with (at_builtin; refine wpList_append_own _ rfl _ _ 26 rfl w.heap.size 61 i0 _ 2 32 Tryd.underlying26 hii hz0 hz1 hz2 rfl (by decide) _ 0 [] rfl OE.out a n cap cs rfl HL.out (fun q u hq => cell_below (CC.out q u hq) ((Below.refl _ _).alloc (Nat.le_refl _) _)) H1.out (by unfold maxLen; omega) (by omega) (by simp) ?_)
    intro v' w' hown hgrow _
    have OW : Hid (w'.ownsRow w.heap.size 61 2 v' n cs) := Lib.hid (by simpa using hown)
    have BW : Hid (Below w.heap.size w w') := Lib.hid (((Below.refl _ _).alloc (Nat.le_refl _) _).grown hgrow (by simp) (fun g hg => by cases hg; exact Nat.le_refl _))
    clear hown hgrow
    go_wp2_with fail
    go_ret
    exact ⟨_, rfl, OW.out, BW.out⟩
set_option maxRecDepth 100000 in
set_option maxHeartbeats 1600000 in
theorem sl_CloneByte (sa : Option Addr) (n cap : Nat) (cs : List Value) (w : World) (hl : cs.length = n * 1) (hn : n ≤ maxLen) (hc : 0 < n → ∃ b off, sa = some ⟨b, off, none⟩ ∧ ∀ q u, cs[q]? = some u → w.cell? ⟨b, off + q, none⟩ = some u)
    (h1 : ∀ u ∈ cs, u.oneCell' = true) (hb : n * 1 ≤ 140737488351232) : Calls Tryd.prog 31 #[.slice sa n cap] w fun e w' => ∃ v', e = .returned v' ∧ w'.ownsRow w.heap.size 5 1 v' n cs ∧ Below w.heap.size w w' := by
  obtain ⟨i0, hii, hz0, hz1, hz2⟩ := info_parts info_byteT
  have HC := Lib.hid hc
  have HL := Lib.hid hl
  have H1 := Lib.hid h1
  unfold maxLen at hn
  clear hc hl h1
  go_enter Tryd.func31, Tryd.ntmps31
  cases sa with
  | none =>
    obtain rfl : n = 0 := by
      by_cases h0 : 0 < n
      · obtain ⟨b, off, h, _⟩ := HC.out h0
        cases h
      · omega
    obtain rfl : cs = [] := List.length_eq_zero_iff.1 (by have := HL.out; omega)
    have EQ := Lib.run_eql_slice_nil (P := Tryd.prog) w 38 5 none 0 cap 0 0 Tryd.underlying38
    simp only [Option.isNone_none] at EQ
    go_wp2_with fail
    go_ret
    exact ⟨_, rfl, ⟨by simp, .inl ⟨rfl, rfl⟩⟩, Below.refl _ _⟩
  | some a =>
    have CC : Hid (∀ q u, cs[q]? = some u → w.cell? (a.add q) = some u) := Lib.hid (by
      intro q u hq
      by_cases h0 : 0 < n
      · obtain ⟨b, off, h, h2⟩ := HC.out h0
        injection h with h
        subst h
        have e : (⟨b, off, none⟩ : Addr).add q = ⟨b, off + q, none⟩ := by
          unfold Addr.add
          split
          · next h => rw [h]; simp
          · rfl
        rw [e]
        exact h2 q u hq
      · have := (List.getElem?_eq_some_iff.1 hq).1
        rw [HL.out] at this
        have : n = 0 := by omega
        subst this
        omega)
    clear HC
    have OE := Lib.hid (own_empty (w := w) (B := w.heap.size) (e := 5) (k := 1) (Nat.le_refl _))
    have EQ := Lib.run_eql_slice_nil (P := Tryd.prog) w 38 5 (some a) n cap 0 0 Tryd.underlying38
    simp only [Option.isNone_some] at EQ
    go_wp2_with (at_builtin; refine wpList_append_own _ rfl _ _ 38 rfl w.heap.size 5 i0 _ 1 1 Tryd.underlying38 hii hz0 hz1 hz2 rfl (by decide) _ 0 [] rfl OE.out a n cap cs rfl HL.out (fun q u hq => cell_below (CC.out q u hq) ((Below.refl _ _).alloc (Nat.le_refl _) _)) H1.out (by unfold maxLen; omega) (by omega) (by simp) ?_)
    intro v' w' hown hgrow _
    have OW : Hid (w'.ownsRow w.heap.size 5 1 v' n cs) := Lib.hid (by simpa using hown)
    have BW : Hid (Below w.heap.size w w') := Lib.hid (((Below.refl _ _).alloc (Nat.le_refl _) _).grown hgrow (by simp) (fun g hg => by cases hg; exact Nat.le_refl _))
    clear hown hgrow
    go_wp2_with fail
    go_ret
    exact ⟨_, rfl, OW.out, BW.out⟩
end Go.Proofs.YtohkbcdnlmjcjaaDoor
