/- Texts of one proof, one behind another. -/
import Derived.Test.YtkoidahgbbabiaaGreatSf1
import Derived.LoopTactic
import Derived.OwnWalk
import Derived.Deep.DeepCutAuto
import Derived.LoopN
import Derived.Lib.SliceRun
import Derived.Laws.Tables
/-
  slices.Clone at four types.
-/
namespace Go.Proofs.YtkoidahgbbabiaaGreat
open Go.RowKit
set_option maxRecDepth 100000 in
theorem info_seg : (Tryz.prog.info? 121).map (fun i => (i.zero, i.size, i.bytes)) = some (some (.agg #[.bool false, .slice none 0 0]), 2, 32) := by kernel_rfl
set_option maxRecDepth 100000 in
theorem info_other : (Tryz.prog.info? 159).map (fun i => (i.zero, i.size, i.bytes)) = some (some (.agg #[.int .i64 0, .slice none 0 0]), 2, 32) := by kernel_rfl
set_option maxRecDepth 100000 in
theorem info_intT : (Tryz.prog.info? 3).map (fun i => (i.zero, i.size, i.bytes)) = some (some (.int .i64 0), 1, 8) := by kernel_rfl
set_option maxRecDepth 100000 in
theorem info_byteT : (Tryz.prog.info? 5).map (fun i => (i.zero, i.size, i.bytes)) = some (some (.int .u8 0), 1, 1) := by kernel_rfl
set_option maxRecDepth 100000 in
set_option maxHeartbeats 1600000 in
theorem sl_CloneSeg (sa : Option Addr) (n cap : Nat) (cs : List Value) (w : World) (hl : cs.length = n * 2) (hn : n ≤ maxLen) (hc : 0 < n → ∃ b off, sa = some ⟨b, off, none⟩ ∧ ∀ q u, cs[q]? = some u → w.cell? ⟨b, off + q, none⟩ = some u)
    (h1 : ∀ u ∈ cs, u.oneCell' = true) (hb : n * 32 ≤ 140737488351232) : Calls Tryz.prog 127 #[.slice sa n cap] w fun e w' => ∃ v', e = .returned v' ∧ w'.ownsRow w.heap.size 121 2 v' n cs ∧ Below w.heap.size w w' := by
  obtain ⟨i0, hii, hz0, hz1, hz2⟩ := info_parts info_seg
  have HC := Lib.hid hc
  have HL := Lib.hid hl
  have H1 := Lib.hid h1
  unfold maxLen at hn
  clear hc hl h1
  go_enter Tryz.func127, Tryz.ntmps127
  cases sa with
  | none =>
    obtain rfl : n = 0 := by
      by_cases h0 : 0 < n
      · obtain ⟨b, off, h, _⟩ := HC.out h0
        cases h
      · omega
    obtain rfl : cs = [] := List.length_eq_zero_iff.1 (by have := HL.out; omega)
    have EQ := Lib.run_eql_slice_nil (P := Tryz.prog) w 38 121 none 0 cap 0 0 Tryz.underlying38
    simp only [Option.isNone_none] at EQ
    go_wp2_with fail
    go_ret
    exact ⟨_, rfl, ⟨by simp, .inl ⟨rfl, rfl⟩⟩, Below.refl _ _⟩
  | some a =>
    have CC : Hid (∀ q u, cs[q]? = some u → w.cell? (a.add q) = some u) := Lib.hid (by
      intro q u hq
      by_cases h0 : 0 < n
      · obtain ⟨b, off, h, h2⟩ := HC.out h0
        injection h with h
        subst h
        have e : (⟨b, off, none⟩ : Addr).add q = ⟨b, off + q, none⟩ := by
          unfold Addr.add
          split
          · next h => rw [h]; simp
          · rfl
        rw [e]
        exact h2 q u hq
      · have := (List.getElem?_eq_some_iff.1 hq).1
        rw [HL.out] at this
        have : n = 0 := by omega
        subst this
        omega)
    clear HC
    have OE := Lib.hid (own_empty (w := w) (B := w.heap.size) (e := 121) (k := 2) (Nat.le_refl _))
    have EQ := Lib.run_eql_slice_nil (P := Tryz.prog) w 38 121 (some a) n cap 0 0 Tryz.underlying38
    simp only [Option.isNone_some] at EQ
    go_wp2_with (at_builtin; refine wpList_append_own _ rfl _ _ 38 rfl w.heap.size 121 i0 _ 2 32 Tryz.underlying38 hii hz0 hz1 hz2 rfl (by decide) _ 0 [] rfl OE.out a n cap cs rfl HL.out (fun q u hq => cell_below (CC.out q u hq) ((Below.refl _ _).alloc (Nat.le_refl _) _)) H1.out (by unfold maxLen; omega) (by omega) (by simp) ?_)
    intro v' w' hown hgrow _
    have OW : Hid (w'.ownsRow w.heap.size 121 2 v' n cs) := Lib.hid (by simpa using hown)
    have BW : Hid (Below w.heap.size w w') := Lib.hid (((Below.refl _ _).alloc (Nat.le_refl _) _).grown hgrow (by simp) (fun g hg => by cases hg; exact Nat.le_refl _))
    clear hown hgrow
    go_wp2_with fail
    go_ret
    exact ⟨_, rfl, OW.out, BW.out⟩
set_option maxRecDepth 100000 in
set_option maxHeartbeats 1600000 in
theorem sl_CloneInt (sa : Option Addr) (n cap : Nat) (cs : List Value) (w : World) (hl : cs.length = n * 1) (hn : n ≤ maxLen) (hc : 0 < n → ∃ b off, sa = some ⟨b, off, none⟩ ∧ ∀ q u, cs[q]? = some u → w.cell? ⟨b, off + q, none⟩ = some u)
    (h1 : ∀ u ∈ cs, u.oneCell' = true) (hb : n * 8 ≤ 140737488351232) : Calls Tryz.prog 128 #[.slice sa n cap] w fun e w' => ∃ v', e = .returned v' ∧ w'.ownsRow w.heap.size 3 1 v' n cs ∧ Below w.heap.size w w' := by
  obtain ⟨i0, hii, hz0, hz1, hz2⟩ := info_parts info_intT
  have HC := Lib.hid hc
  have HL := Lib.hid hl
  have H1 := Lib.hid h1
  unfold maxLen at hn
  clear hc hl h1
  go_enter Tryz.func128, Tryz.ntmps128
  cases sa with
  | none =>
    obtain rfl : n = 0 := by
      by_cases h0 : 0 < n
      · obtain ⟨b, off, h, _⟩ := HC.out h0
        cases h
      · omega
    obtain rfl : cs = [] := List.length_eq_zero_iff.1 (by have := HL.out; omega)
    have EQ := Lib.run_eql_slice_nil (P := Tryz.prog) w 39 3 none 0 cap 0 0 Tryz.underlying39
    simp only [Option.isNone_none] at EQ
    go_wp2_with fail
    go_ret
    exact ⟨_, rfl, ⟨by simp, .inl ⟨rfl, rfl⟩⟩, Below.refl _ _⟩
  | some a =>
    have CC : Hid (∀ q u, cs[q]? = some u → w.cell? (a.add q) = some u) := Lib.hid (by
      intro q u hq
      by_cases h0 : 0 < n
      · obtain ⟨b, off, h, h2⟩ := HC.out h0
        injection h with h
        subst h
        have e : (⟨b, off, none⟩ : Addr).add q = ⟨b, off + q, none⟩ := by
          unfold Addr.add
          split
          · next h => rw [h]; simp
          · rfl
        rw [e]
        exact h2 q u hq
      · have := (List.getElem?_eq_some_iff.1 hq).1
        rw [HL.out] at this
        have : n = 0 := by omega
        subst this
        omega)
    clear HC
    have OE := Lib.hid (own_empty (w := w) (B := w.heap.size) (e := 3) (k := 1) (Nat.le_refl _))
    have EQ := Lib.run_eql_slice_nil (P := Tryz.prog) w 39 3 (some a) n cap 0 0 Tryz.underlying39
    simp only [Option.isNone_some] at EQ
    go_wp2_with (at_builtin; refine wpList_append_own _ rfl _ _ 39 rfl w.heap.size 3 i0 _ 1 8 Tryz.underlying39 hii hz0 hz1 hz2 rfl (by decide) _ 0 [] rfl OE.out a n cap cs rfl HL.out (fun q u hq => cell_below (CC.out q u hq) ((Below.refl _ _).alloc (Nat.le_refl _) _)) H1.out (by unfold maxLen; omega) (by omega) (by simp) ?_)
    intro v' w' hown hgrow _
    have OW : Hid (w'.ownsRow w.heap.size 3 1 v' n cs) := Lib.hid (by simpa using hown)
    have BW : Hid (Below w.heap.size w w') := Lib.hid (((Below.refl _ _).alloc (Nat.le_refl _) _).grown hgrow (by simp) (fun g hg => by cases hg; exact Nat.le_refl _))
    clear hown hgrow
    go_wp2_with fail
    go_ret
    exact ⟨_, rfl, OW.out, BW.out⟩
set_option maxRecDepth 100000 in
set_option maxHeartbeats 1600000 in
theorem sl_CloneOther (sa : Option Addr) (n cap : Nat) (cs : List Value) (w : World) (hl : cs.length = n * 2) (hn : n ≤ maxLen) (hc : 0 < n → ∃ b off, sa = some ⟨b, off, none⟩ ∧ ∀ q u, cs[q]? = some u → w.cell? ⟨b, off + q, none⟩ = some u)
    (h1 : ∀ u ∈ cs, u.oneCell' = true) (hb : n * 32 ≤ 140737488351232) : Calls Tryz.prog 129 #[.slice sa n cap] w fun e w' => ∃ v', e = .returned v' ∧ w'.ownsRow w.heap.size 159 2 v' n cs ∧ Below w.heap.size w w' := by
  obtain ⟨i0, hii, hz0, hz1, hz2⟩ := info_parts info_other
  have HC := Lib.hid hc
  have HL := Lib.hid hl
  have H1 := Lib.hid h1
  unfold maxLen at hn
  clear hc hl h1
  go_enter Tryz.func129, Tryz.ntmps129
  cases sa with
  | none =>
    obtain rfl : n = 0 := by
      by_cases h0 : 0 < n
      · obtain ⟨b, off, h, _⟩ := HC.out h0
        cases h
      · omega
    obtain rfl : cs = [] := List.length_eq_zero_iff.1 (by have := HL.out; omega)
    have EQ := Lib.run_eql_slice_nil (P := Tryz.prog) w 40 159 none 0 cap 0 0 Tryz.underlying40
    simp only [Option.isNone_none] at EQ
    go_wp2_with fail
    go_ret
    exact ⟨_, rfl, ⟨by simp, .inl ⟨rfl, rfl⟩⟩, Below.refl _ _⟩
  | some a =>
    have CC : Hid (∀ q u, cs[q]? = some u → w.cell? (a.add q) = some u) := Lib.hid (by
      intro q u hq
      by_cases h0 : 0 < n
      · obtain ⟨b, off, h, h2⟩ := HC.out h0
        injection h with h
        subst h
        have e : (⟨b, off, none⟩ : Addr).add q = ⟨b, off + q, none⟩ := by
          unfold Addr.add
          split
          · next h => rw [h]; simp
          · rfl
        rw [e]
        exact h2 q u hq
      · have := (List.getElem?_eq_some_iff.1 hq).1
        rw [HL.out] at this
        have : n = 0 := by omega
        subst this
        omega)
    clear HC
    have OE := Lib.hid (own_empty (w := w) (B := w.heap.size) (e := 159) (k := 2) (Nat.le_refl _))
    have EQ := Lib.run_eql_slice_nil (P := Tryz.prog) w 40 159 (some a) n cap 0 0 Tryz.underlying40
    simp only [Option.isNone_some] at EQ
    go_wp2_with (at_builtin; refine wpList_append_own _ rfl _ _ 40 rfl w.heap.size 159 i0 _ 2 32 Tryz.underlying40 hii hz0 hz1 hz2 rfl (by decide) _ 0 [] rfl OE.out a n cap cs rfl HL.out (fun q u hq => cell_below (CC.out q u hq) ((Below.refl _ _).alloc (Nat.le_refl _) _)) H1.out (by unfold maxLen; omega) (by omega) (by simp) ?_)
    intro v' w' hown hgrow _
    have OW : Hid (w'.ownsRow w.heap.size 159 2 v' n cs) := Lib.hid (by simpa using hown)
    have BW : Hid (Below w.heap.size w w') := Lib.hid (((Below.refl _ _).alloc (Nat.le_refl _) _).grown hgrow (by simp) (fun g hg => by cases hg; exact Nat.le_refl _))
    clear hown hgrow
    go_wp2_with fail
    go_ret
    exact ⟨_, rfl, OW.out, BW.out⟩
set_option maxRecDepth 100000 in
set_option maxHeartbeats 1600000 in
theorem sl_CloneByte (sa : Option Addr) (n cap : Nat) (cs : List Value) (w : World) (hl : cs.length = n * 1) (hn : n ≤ maxLen) (hc : 0 < n → ∃ b off, sa = some ⟨b, off, none⟩ ∧ ∀ q u, cs[q]? = some u → w.cell? ⟨b, off + q, none⟩ = some u)
    (h1 : ∀ u ∈ cs, u.oneCell' = true) (hb : n * 1 ≤ 140737488351232) : Calls Tryz.prog 130 #[.slice sa n cap] w fun e w' => ∃ v', e = .returned v' ∧ w'.ownsRow w.heap.size 5 1 v' n cs ∧ Below w.heap.size w w' := by
  obtain ⟨i0, hii, hz0, hz1, hz2⟩ := info_parts info_byteT
  have HC := Lib.hid hc
  have HL := Lib.hid hl
  have H1 := Lib.hid h1
  unfold maxLen at hn
  clear hc hl h1
  go_enter Tryz.func130, Tryz.ntmps130
  cases sa with
  | none =>
    obtain rfl : n = 0 := by
      by_cases h0 : 0 < n
      · obtain ⟨b, off, h, _⟩ := HC.out h0
        cases h
      · omega
    obtain rfl : cs = [] := List.length_eq_zero_iff.1 (by have := HL.out; omega)
    have EQ := Lib.run_eql_slice_nil (P := Tryz.prog) w 157 5 none 0 cap 0 0 Tryz.underlying157
    simp only [Option.isNone_none] at EQ
    go_wp2_with fail
    go_ret
    exact ⟨_, rfl, ⟨by simp, .inl ⟨rfl, rfl⟩⟩, Below.refl _ _⟩
  | some a =>
    have CC : Hid (∀ q u, cs[q]? = some u → w.cell? (a.add q) = some u) := Lib.hid (by
      intro q u hq
      by_cases h0 : 0 < n
      · obtain ⟨b, off, h, h2⟩ := HC.out h0
        injection h with h
        subst h
        have e : (⟨b, off, none⟩ : Addr).add q = ⟨b, off + q, none⟩ := by
          unfold Addr.add
          split
          · next h => rw [h]; simp
          · rfl
        rw [e]
        exact h2 q u hq
      · have := (List.getElem?_eq_some_iff.1 hq).1
        rw [HL.out] at this
        have : n = 0 := by omega
        subst this
        omega)
    clear HC
    have OE := Lib.hid (own_empty (w := w) (B := w.heap.size) (e := 5) (k := 1) (Nat.le_refl _))
    have EQ := Lib.run_eql_slice_nil (P := Tryz.prog) w 157 5 (some a) n cap 0 0 Tryz.underlying157
    simp only [Option.isNone_some] at EQ
    go_wp2_with (at_builtin; refine wpList_append_own _ rfl _ _ 157 rfl w.heap.size 5 i0 _ 1 1 Tryz.underlying157 hii hz0 hz1 hz2 rfl (by decide) _ 0 [] rfl OE.out a n cap cs rfl HL.out (fun q u hq => cell_below (CC.out q u hq) ((Below.refl _ _).alloc (Nat.le_refl _) _)) H1.out (by unfold maxLen; omega) (by omega) (by simp) ?_)
    intro v' w' hown hgrow _
    have OW : Hid (w'.ownsRow w.heap.size 5 1 v' n cs) := Lib.hid (by simpa using hown)
    have BW : Hid (Below w.heap.size w w') := Lib.hid (((Below.refl _ _).alloc (Nat.le_refl _) _).grown hgrow (by simp) (fun g hg => by cases hg; exact Nat.le_refl _))
    clear hown hgrow
    go_wp2_with fail
    go_ret
    exact ⟨_, rfl, OW.out, BW.out⟩
end Go.Proofs.YtkoidahgbbabiaaGreat
/-
  Steps of a region that draws its order, with one look for all conditions.
-/
namespace Go.Proofs.YtkoidahgbbabiaaGreat
open Go.RowKit
theorem atN {α : Type} {l : List α} {n : Nat} {x : α} (h : l[n]? = some x) : (List.toArray l)[n]? = some x := by simpa using h
section
variable {P : Program} {ops : Array Oper} {Q : Exit → Act → World → Prop} {md : Region.Mode} {S : World → Prop}
theorem three {a b c : Bool} (h : (a && (b && c)) = true) : a = true ∧ b = true ∧ c = true := by simpa using h
theorem rgn {i : Nat} {oi : Oper} {fuel : Nat} {listed : Array Bool} {a : Act} {w : World} (hi : ops[i]? = some oi)
    (hk : (Region.noSelect ops && (Region.free md ops listed i && (Region.ready md ops listed).contains i)) = true)
    (hQ : ∀ c a w, Q (.panic c) (a.put oi.dst undef) w → Q (.panic c) a w) (hw : Region.wanted oi (yielded ops a.tmps) = false) (hS : S w)
    (h : wpAnyH P md ops Q S fuel (listed.setIfInBounds i true) (a.put oi.dst undef) w) : wpAnyH P md ops Q S (fuel + 1) listed a w :=
  rg_no hi (three hk).1 (three hk).2.1 (three hk).2.2 hQ hw hS h
theorem rgy {i : Nat} {oi : Oper} {v : Value} {fuel : Nat} {listed : Array Bool} {a : Act} {w : World} (hi : ops[i]? = some oi)
    (hk : (Region.noSelect ops && (Region.free md ops listed i && (Region.ready md ops listed).contains i)) = true)
    (hQ : ∀ c a w, Q (.panic c) (a.put oi.dst v) w → Q (.panic c) a w) (hw : Region.wanted oi (yielded ops a.tmps) = true) (hy : ∀ w, S w → (execOp a.eval oi).run P w = .ok (.value v) w) (hS : S w)
    (h : wpAnyH P md ops Q S fuel (listed.setIfInBounds i true) (a.put oi.dst v) w) : wpAnyH P md ops Q S (fuel + 1) listed a w :=
  rg_yes hi (three hk).1 (three hk).2.1 (three hk).2.2 hQ hw hy hS h
theorem qy (i : Nat) {oi : Oper} (v : Value) {fuel : Nat} {listed : Array Bool} {a : Act} {w : World}
    (hw : Region.wanted oi (yielded ops a.tmps) = true) (hy : ∀ w, S w → (execOp a.eval oi).run P w = .ok (.value v) w) (hS : S w)
    (h : wpAnyH P md ops Q S fuel (listed.setIfInBounds i true) (a.put oi.dst v) w) (hi : ops[i]? = some oi := by exact atN rfl)
    (hk : (Region.noSelect ops && (Region.free md ops listed i && (Region.ready md ops listed).contains i)) = true := by kernel_rfl)
    (hQ : ∀ c a w, Q (.panic c) (a.put oi.dst v) w → Q (.panic c) a w := by exact fun _ _ _ h => h) : wpAnyH P md ops Q S (fuel + 1) listed a w :=
  rgy hi hk hQ hw hy hS h
end
end Go.Proofs.YtkoidahgbbabiaaGreat
/-
  A STATEMENT THAT DRAWS ITS ORDER, WHERE TWO OPERATIONS THAT TOUCH MEMORY MAY COME UP; whole values stored.
-/
namespace Go.Proofs.YtkoidahgbbabiaaGreat
open Go.RowKit
section
variable {P : Program} {ops : Array Oper} {Q : Exit → Act → World → Prop} {md : Region.Mode} {S : World → Prop}
theorem rg_call2 {i j : Nat} {oi oj : Oper} {fuel : Nat} {listed : Array Bool} {a : Act} {w : World} (hi : ops[i]? = some oi) (hj : ops[j]? = some oj)
    (hr : Region.ready md ops listed = [i, j]) (hw : Region.wanted oi (yielded ops a.tmps) = true) (hv : Region.wanted oj (yielded ops a.tmps) = true)
    (h : ∀ K' : Act → World → Prop, Shut (∀ a w, S w → (S w → wpAnyH P md ops Q S fuel (listed.setIfInBounds i true) a w) → K' a w) → Oper.wp P oi a w K' Q)
    (h2 : ∀ K' : Act → World → Prop, Shut (∀ a w, S w → (S w → wpAnyH P md ops Q S fuel (listed.setIfInBounds j true) a w) → K' a w) → Oper.wp P oj a w K' Q) : wpAnyH P md ops Q S (fuel + 1) listed a w :=
  wpAnyH_ready (rs := [i, j]) hr (by simp) (AllReadyH.cons hi (fun K hK => by rw [if_pos hw]; exact h K hK) (AllReadyH.cons hj (fun K hK => by rw [if_pos hv]; exact h2 K hK) AllReadyH.nil))
end
theorem wp_store_rowat {P : Program} {o : Oper} {a : Act} {w : World} {K : Act → World → Prop} {Q : Exit → Act → World → Prop} (ty : TypeId) (x y : Operand) (ho : o.op = .store ty x y)
    (g : Nat) (hx : a.eval x = .pointer (some ⟨g, 0, none⟩)) (t : TypeId) (old cs : Array Value) (hy : a.eval y = .agg cs) (hg : w.heap[g]? = some (.cells old t (0, 0))) (hi : (P.info? ty).map (·.size) = some cs.size) (hs : old.size = cs.size) (h1 : cs.all (·.oneCell') = true)
    (h : K (a.put o.dst undef) (w.setRow g cs)) : o.wp P a w K Q := by
  unfold Oper.wp execOp
  simp only [ho, hx, hy, Instr.storeAt, Instr.sureAddr, Sem.run_bind, Sem.run_pure, Result.andThen_ok, run_storeVar_row w g t ty old cs hg hi hs h1]
  exact h
end Go.Proofs.YtkoidahgbbabiaaGreat
/-
  ATTRIBUTES: Clone: the same in new memory.
-/
namespace Go.Proofs.YtkoidahgbbabiaaGreat
open Go.RowKit
theorem own_form {w : World} {B k n : Nat} {e : TypeId} {v : Value} {xs : List Value} (h : w.ownsRow B e k v n xs) : ∃ (sa : Option Addr) (c : Nat), v = .slice sa n c ∧ (0 < n → ∃ g, sa = some ⟨g, 0, none⟩) := by
  rcases own_slice h with ⟨rfl, rfl⟩ | ⟨g, c, rfl⟩
  · exact ⟨none, 0, rfl, fun h => absurd h (by simp)⟩
  · exact ⟨_, c, rfl, fun _ => ⟨g, rfl⟩⟩
def i64L (n : Int) : List Value := [.int .i64 n]
def u8L (n : Nat) : List Value := [.int .u8 n]
theorem i64L_len (x : Int) : (i64L x).length = 1 := rfl
theorem u8L_len (x : Nat) : (u8L x).length = 1 := rfl
theorem own_i64s {w : World} {B : Nat} {e : TypeId} {v : Value} {xs : List Int} (h : w.ownsRow B e 1 v xs.length (xs.flatMap i64L)) (hx : ∀ x ∈ xs, I64r x) : IntsAt w v xs :=
  (own_slat (C := i64L) i64L_len h).imp fun x _ hm h => ⟨h, hx x hm⟩
theorem own_u8s {w : World} {B : Nat} {e : TypeId} {v : Value} {xs : List Nat} (h : w.ownsRow B e 1 v xs.length (xs.flatMap u8L)) (hx : ∀ x ∈ xs, x < 256) : BytesAt w v xs :=
  (own_slat (C := u8L) u8L_len h).imp fun x _ hm h => ⟨h, hx x hm⟩
theorem slat_all {α : Type} {w : World} {k : Nat} {R : α → List Value → Prop} {v : Value} {xs : List α} (h : SlAt w k R v xs) : ∀ x ∈ xs, ∃ cs, R x cs := by
  obtain ⟨_, _, _, _, _, h4⟩ := h
  intro x hx
  obtain ⟨i, hi⟩ := List.getElem?_of_mem hx
  obtain ⟨b, off, _, h6⟩ := h4 (by have := (List.getElem?_eq_some_iff.1 hi).1; omega)
  obtain ⟨cs, _, hr, _⟩ := h6 i x hi
  exact ⟨cs, hr⟩
theorem ints_rng {w : World} {v : Value} {xs : List Int} (h : IntsAt w v xs) : ∀ x ∈ xs, I64r x := fun x hx => by
  obtain ⟨cs, h1, h2⟩ := slat_all h x hx; exact h2
theorem bytes_rng {w : World} {v : Value} {xs : List Nat} (h : BytesAt w v xs) : ∀ x ∈ xs, x < 256 := fun x hx => by
  obtain ⟨cs, h1, h2⟩ := slat_all h x hx; exact h2
theorem rows_flat {α : Type} {C : α → List Value} {R : α → List Value → Prop} {xs : List α} {rows : List (List Value)} (hl : rows.length = xs.length) (h : ∀ (i : Nat) (x : α), xs[i]? = some x → ∃ cs, rows[i]? = some cs ∧ R x cs) (hR : ∀ x cs, R x cs → cs = C x) : rows.flatten = xs.flatMap C := by
  have : rows = xs.map C := by
    apply List.ext_getElem?
    intro i
    by_cases hi : i < xs.length
    · obtain ⟨cs, h1, h2⟩ := h i _ (List.getElem?_eq_getElem hi)
      rw [h1, hR _ _ h2]
      simp [hi]
    · rw [List.getElem?_eq_none (by omega), List.getElem?_eq_none (by simp; omega)]
  rw [this, List.flatMap_def]
theorem clone_ints (v : Value) (xs : List Int) (w : World) (h : IntsAt w v xs) (hz : xs.length * 8 ≤ 140737488351232) :
    Calls Tryz.prog 128 #[v] w fun e w' => ∃ v', e = .returned v' ∧ w'.ownsRow w.heap.size 3 1 v' xs.length (xs.flatMap i64L) ∧ Below w.heap.size w w' := by
  obtain ⟨sa, cap, rows, rfl, h2, h3, h4, h5, h6, h7⟩ := slat_rows h
  have e := rows_flat (C := i64L) h4 h6 (fun x cs h => h.1)
  rw [e] at h7
  exact sl_CloneInt sa xs.length cap _ w (by rw [flat_len i64L_len]) (Nat.le_trans h2 h3) h7 (fun u hu => by
    obtain ⟨x, _, hx⟩ := List.mem_flatMap.1 hu
    simp [i64L] at hx; subst hx; rfl) hz
theorem clone_bytes (v : Value) (xs : List Nat) (w : World) (h : BytesAt w v xs) (hz : xs.length ≤ 140737488351232) :
    Calls Tryz.prog 130 #[v] w fun e w' => ∃ v', e = .returned v' ∧ w'.ownsRow w.heap.size 5 1 v' xs.length (xs.flatMap u8L) ∧ Below w.heap.size w w' := by
  obtain ⟨sa, cap, rows, rfl, h2, h3, h4, h5, h6, h7⟩ := slat_rows h
  have e := rows_flat (C := u8L) h4 h6 (fun x cs h => h.1)
  rw [e] at h7
  exact sl_CloneByte sa xs.length cap _ w (by rw [flat_len u8L_len]) (Nat.le_trans h2 h3) h7 (fun u hu => by
    obtain ⟨x, _, hx⟩ := List.mem_flatMap.1 hu
    simp [u8L] at hx; subst hx; rfl) (by omega)
def NF (W : World) (k : Nat) (v : Value) : Prop := ∀ b off n c, v = .slice (some ⟨b, off, none⟩) n c → ∀ j, j < n * k → W.frozen? ⟨b, off + j, none⟩ = false
theorem own_nf {w : World} {B k n : Nat} {e : TypeId} {v : Value} {xs : List Value} (h : w.ownsRow B e k v n xs) : NF w k v := by
  intro b off m c hv j _
  rcases h.2 with ⟨rfl, _⟩ | ⟨g, cap, cur, rfl, _, hg, _⟩
  · cases hv
  · injection hv with hv _ _
    injection hv with hv
    injection hv with hb ho
    subst hb; subst ho
    simp [World.frozen?, hg]
theorem own_nfF {w : World} {B k n : Nat} {e : TypeId} {v : Value} {xs : List Value} (h : w.ownsRow B e k v n xs) : Fresh B w fun W => NF W k v := (own_fresh h).imp fun _ h => own_nf h
section
variable {α : Type} {hd : α → Value} {In : World → Value → α → Prop} {w0 w : World} {lo : Nat} {e : TypeId} {v : Value} {xs : List α} {i : Nat} {rows : List (List Value)}
structure RowsUp (hd : α → Value) (In : World → Value → α → Prop) (w0 : World) (lo : Nat) (e : TypeId) (w : World) (v : Value) (xs : List α) (i : Nat) (rows : List (List Value)) : Prop where
  two : ∀ r ∈ rows, r.length = 2
  len : rows.length = xs.length
  own : w.ownsRow lo e 2 v xs.length rows.flatten
  at_ : ∀ (j : Nat) (x : α), xs[j]? = some x → ∃ u, rows[j]? = some [hd x, u] ∧ (j < i → On (fun k => lo ≤ k ∧ v.ownBlock ≠ some k) w (fun W => In W u x ∧ NF W 1 u)) ∧ (i ≤ j → In w0 u x)
theorem RowsUp.kept {G : Nat → Prop} {w' : World} (h : RowsUp hd In w0 lo e w v xs i rows) (hk : Kept G w w') (hG : ∀ k, lo ≤ k → ¬ G k) : RowsUp hd In w0 lo e w' v xs i rows :=
  ⟨h.two, h.len, (own_fresh h.own |>.kept hk fun k _ hl => hG k hl).self, fun j x hx => by
    obtain ⟨u, h1, h2, h3⟩ := h.at_ j x hx
    exact ⟨u, h1, fun hj => (h2 hj).kept hk fun k _ hl => hG k hl.1, h3⟩⟩
theorem RowsUp.step {w5 : World} {x : α} {u u' : Value} {g c : Nat} (h : RowsUp hd In w0 lo e w v xs i rows) (hx : xs[i]? = some x) (hr : rows[i]? = some [hd x, u]) (hb : Below w.heap.size w w5) (hv : v = .slice (some ⟨g, 0, none⟩) xs.length c)
    (hon : On (fun k => w.heap.size ≤ k) w5 (fun W => In W u' x ∧ NF W 1 u')) : RowsUp hd In w0 lo e (w5.setCell ⟨g, i * 2 + 1, none⟩ u') v xs (i + 1) (rows.set i [hd x, u']) := by
  have hil : i < xs.length := (List.getElem?_eq_some_iff.1 hx).1
  have hog : v.ownBlock = some g := by rw [hv]; rfl
  have hcell : rows.flatten[i * 2 + 0]? = some (hd x) := by
    rw [rows_get h.two i _ hr 0 (by decide)]; rfl
  obtain ⟨_, _, hlg, hgl⟩ := own_row_cell h.own hv hcell
  have hk : Kept (fun k => k = g) w5 (w5.setCell ⟨g, i * 2 + 1, none⟩ u') := Kept.setCell _ _ rfl
  refine ⟨fun r hr' => ?_, by simp [h.len], ?_, fun j y hy => ?_⟩
  · rcases List.mem_or_eq_of_mem_set hr' with h1 | h1
    · exact h.two r h1
    · rw [h1]; rfl
  · have := own_set (own_below h.own hb) hv (i * 2 + 1) u'
    have e2 := rows_set h.two hr (j := 1) (by decide) u'
    simp only [List.set_cons_succ, List.set_cons_zero] at e2
    rw [e2]
    exact this
  · by_cases hj : j = i
    · subst hj
      rw [hx] at hy
      cases hy
      refine ⟨u', by rw [List.getElem?_set_self (by rw [h.len]; exact hil)], fun _ => ?_, fun h => absurd h (by omega)⟩
      refine (hon.wide (G := fun k => lo ≤ k ∧ v.ownBlock ≠ some k) (fun k hk _ => ⟨by omega, fun e => ?_⟩)).kept hk (fun k _ hl e => hl.2 (by rw [hog, e]))
      rw [hog] at e
      injection e with e
      omega
    · obtain ⟨u1, h1, h2, h3⟩ := h.at_ j y hy
      refine ⟨u1, by rw [List.getElem?_set_ne (Ne.symm hj)]; exact h1, fun hji => ?_, fun hji => h3 (by omega)⟩
      exact ((h2 (by omega)).below hb).kept hk (fun k _ hl e => hl.2 (by rw [hog, e]))
theorem RowsUp.done (h : RowsUp hd In w0 lo e w v xs xs.length rows) : Fresh lo w fun W => SlAt W 2 (fun x cs => ∃ u, cs = [hd x, u] ∧ In W u x ∧ NF W 1 u) v xs ∧ NF W 2 v := by
  intro W hW
  refine ⟨own_rows (own_fresh h.own W hW) h.two (fun j x hx => ?_), own_nfF h.own W hW⟩
  obtain ⟨u, h1, h2, _⟩ := h.at_ j x hx
  exact ⟨_, h1, u, rfl, h2 (List.getElem?_eq_some_iff.1 hx).1 W (fun k hk hl => hW k hk.1 hl)⟩
end
theorem own_base {w : World} {B B' k n : Nat} {e : TypeId} {v : Value} {xs : List Value} (h : w.ownsRow B e k v n xs) (hB : B' ≤ B) : w.ownsRow B' e k v n xs := by
  obtain ⟨h1, h2⟩ := h
  refine ⟨h1, h2.imp_right ?_⟩
  rintro ⟨g, cap, cur, h3, h4, h5⟩
  exact ⟨g, cap, cur, h3, Nat.le_trans hB h4, h5⟩
theorem atc_cells {W : World} {b : Nat} {c0 c1 c2 c3 c4 c5 c6 c7 c8 c9 : Value} {T : TypeId} (q : W.heap[b]? = some (.cells #[c0, c1, c2, c3, c4, c5, c6, c7, c8, c9] T (0, 0))) :
    W.cell? ⟨b, 0, none⟩ = some c0 ∧ W.cell? ⟨b, 1, none⟩ = some c1 ∧ W.cell? ⟨b, 2, none⟩ = some c2 ∧ W.cell? ⟨b, 3, none⟩ = some c3 ∧ W.cell? ⟨b, 4, none⟩ = some c4 ∧ W.cell? ⟨b, 5, none⟩ = some c5 ∧ W.cell? ⟨b, 6, none⟩ = some c6 ∧ W.cell? ⟨b, 7, none⟩ = some c7 ∧ W.cell? ⟨b, 8, none⟩ = some c8 ∧ W.cell? ⟨b, 9, none⟩ = some c9 :=
  ⟨row_cell q 0, row_cell q 1, row_cell q 2, row_cell q 3, row_cell q 4, row_cell q 5, row_cell q 6, row_cell q 7, row_cell q 8, row_cell q 9⟩
theorem kept_setRow {F : Nat → Prop} {w : World} (g : Nat) (C : Array Value) (hF : F g) : Kept F w (w.setRow g C) :=
  ⟨rfl, rfl, rfl, (below_setRow (Below.refl 0 w) (Nat.zero_le g) C).size, fun k _ hf => setRow_other _ _ _ _ (fun e => hf (by rw [e]; exact hF))⟩
abbrev atZ : Array Value := #[.int .i64 0, .int .i64 0, .slice none 0 0, .int .u32 0, .int .i64 0, .int .i64 0, .int .i64 0, .int .u32 0, .slice none 0 0, .slice none 0 0]
theorem boxAZ (w : World) (C : Array Value) : ∃ W0, W0 = (w.alloc (.cells C 42)).alloc (.cells atZ 42) ∧ W0.heap[w.heap.size]? = some (.cells C 42 (0, 0)) ∧ W0.heap[w.heap.size + 1]? = some (.cells atZ 42 (0, 0)) ∧ Below w.heap.size w W0 ∧ W0.heap.size = w.heap.size + 2 := by
  refine ⟨_, rfl, ?_, ?_, ((Below.refl _ _).alloc (Nat.le_refl _) _).alloc (by simp) _, by simp⟩
  · have h1 := heap_alloc_new w (.cells C 42)
    have h2 : Below (w.alloc (.cells C 42)).heap.size (w.alloc (.cells C 42)) ((w.alloc (.cells C 42)).alloc (.cells atZ 42)) := (Below.refl _ _).alloc (Nat.le_refl _) _
    exact (h2.block _ (row_lt h1)).trans h1
  · have h1 := heap_alloc_new (w.alloc (.cells C 42)) (.cells atZ 42)
    simpa using h1
theorem results_Clone (tmps : Array Value) (W : World) (b : Nat) (C : Array Value) (hC : C.size = 10) (h4 : tmps.getD 2 undef = .pointer (some ⟨b, 0, none⟩)) (hb : W.heap[b]? = some (.cells C 42 (0, 0))) :
    (results Tryz.f85 tmps).run Tryz.prog W = .ok (.agg C) W := results_cell_row Tryz.results85 tmps W b 42 C (0, 0) _ h4 hb Tryz.underlying42 rfl (by rw [hC]; kernel_rfl)
def SegU (w : World) (s : Sg) (cs : List Value) : Prop := ∃ u, cs = [.bool s.1, u] ∧ IntsAt w u s.2 ∧ NF w 1 u
def OthU (w : World) (o : Oth) (cs : List Value) : Prop := ∃ u, cs = [.int .i64 o.1, u] ∧ (I64r o.1 ∧ BytesAt w u o.2) ∧ NF w 1 u
structure AtU (W : World) (a : At) (vp vc vo : Value) : Prop where
  path : SlAt W 2 (SegU W) vp a.path
  pnf : NF W 2 vp
  comms : IntsAt W vc a.comms
  cnf : NF W 1 vc
  oths : SlAt W 2 (OthU W) vo a.others
  onf : NF W 2 vo
theorem AtU.atl {W : World} {a : At} {vp vc vo : Value} (h : AtU W a vp vc vo) : AtL W a vp vc vo :=
  ⟨h.path.imp fun _ _ _ ⟨u, h1, h2, _⟩ => ⟨u, h1, h2⟩, h.comms, h.oths.imp fun _ _ _ ⟨u, h1, h2, _⟩ => ⟨u, h1, h2.1, h2.2⟩⟩
def ClonePost (w : World) (a : At) (e : Ending) (w' : World) : Prop := ∃ vp vc vo, e = .returned (.agg (atV a vp vc vo).toArray) ∧ Fresh w.heap.size w' (fun W => AtL W a vp vc vo ∧ W.ownsRow w.heap.size 3 1 vc a.comms.length (a.comms.flatMap i64L) ∧ AtU W a vp vc vo) ∧ Below w.heap.size w w'
set_option maxHeartbeats 6400000 in
set_option maxRecDepth 100000 in
theorem at_Clone (a : At) (vp vc vo : Value) (w : World) (hA : AtL w a vp vc vo) (hz : AtSz a) : Calls Tryz.prog 85 #[.agg (atV a vp vc vo).toArray] w (ClonePost w a) := by
  show Calls Tryz.prog 85 #[.agg #[.int .i64 a.has, .int .i64 a.origin, vp, .int .u32 a.hop, .int .i64 a.med, .int .i64 a.loc, .int .i64 a.aggrAs, .int .u32 a.aggrId, vc, vo]] w _
  have HZ := Lib.hid hz
  have HP := Lib.hid (slat_rows hA.1)
  have HC := Lib.hid hA.2.1
  have HO := Lib.hid (slat_rows hA.2.2)
  clear hz hA
  obtain ⟨sa, cap, rowsP, rfl, hlc, hcm, p1, p2, p3, p4⟩ := HP.out
  obtain ⟨so, co, rowsO, rfl, olc, ocm, o1, o2, o3, o4⟩ := HO.out
  obtain ⟨sc, cc, rfl, ck⟩ : ∃ sc cc, vc = .slice sc a.comms.length cc ∧ a.comms.length ≤ cc ∧ cc ≤ maxLen := by obtain ⟨sc, cc, h, h2, h3, _⟩ := HC.out; exact ⟨sc, cc, h, h2, h3⟩
  have CS := Lib.hid (fun W (hW : Below w.heap.size w W) => sl_CloneSeg sa a.path.length cap rowsP.flatten W (by rw [rows_len p2, p1]) (Nat.le_trans hlc hcm) (fun h0 => by
    obtain ⟨b, off, h1, h2⟩ := p4 h0
    exact ⟨b, off, h1, fun q u hq => cell_below (h2 q u hq) hW⟩) (fun u hu => by
      obtain ⟨r, hr, hur⟩ := List.mem_flatten.1 hu
      obtain ⟨i, hi⟩ := List.getElem?_of_mem hr
      obtain ⟨s, hs⟩ : ∃ s, a.path[i]? = some s := ⟨_, List.getElem?_eq_getElem (by have := (List.getElem?_eq_some_iff.1 hi).1; omega)⟩
      obtain ⟨cs, h1, u1, rfl, ⟨_, _, rfl, _⟩⟩ := p3 i s hs
      rw [hi] at h1
      cases h1
      simp at hur
      rcases hur with rfl | rfl <;> rfl) HZ.out.path)
  have COt := Lib.hid (fun W (hW : Below w.heap.size w W) => sl_CloneOther so a.others.length co rowsO.flatten W (by rw [rows_len o2, o1]) (Nat.le_trans olc ocm) (fun h0 => by
    obtain ⟨b, off, h1, h2⟩ := o4 h0
    exact ⟨b, off, h1, fun q u hq => cell_below (h2 q u hq) hW⟩) (fun u hu => by
      obtain ⟨r, hr, hur⟩ := List.mem_flatten.1 hu
      obtain ⟨i, hi⟩ := List.getElem?_of_mem hr
      obtain ⟨s, hs⟩ : ∃ s, a.others[i]? = some s := ⟨_, List.getElem?_eq_getElem (by have := (List.getElem?_eq_some_iff.1 hi).1; omega)⟩
      obtain ⟨cs, h1, u1, rfl, _, ⟨_, _, rfl, _⟩⟩ := o3 i s hs
      rw [hi] at h1
      cases h1
      simp at hur
      rcases hur with rfl | rfl <;> rfl) HZ.out.others)
  have CC := Lib.hid (fun W (hW : Below w.heap.size w W) => clone_ints (.slice sc a.comms.length cc) a.comms W (HC.out.below hW) HZ.out.comms)
  have P3 := Lib.hid p3
  have O3 := Lib.hid o3
  have P12 := Lib.hid (And.intro p1 p2)
  have O12 := Lib.hid (And.intro o1 o2)
  unfold maxLen at hcm ocm
  clear p1 p2 p3 p4 o1 o2 o3 o4 HP HO ck
  go_enter Tryz.func85, Tryz.ntmps85
  go_upto_region 1 with (fail)
  obtain ⟨W0, hW0, qa, qz, hb0, hs0⟩ := boxAZ w #[.int .i64 a.has, .int .i64 a.origin, .slice sa a.path.length cap, .int .u32 a.hop, .int .i64 a.med, .int .i64 a.loc, .int .i64 a.aggrAs, .int .u32 a.aggrId, .slice sc a.comms.length cc, .slice so a.others.length co]
  rw [← hW0]
  clear hW0
  have a2 : W0.cell? ⟨w.heap.size, 2, none⟩ = some (.slice sa a.path.length cap) := row_cell qa 2
  have QA := Lib.hid qa
  have QZ := Lib.hid qz
  have B0 := Lib.hid hb0
  have S0 := Lib.hid hs0
  clear qa qz hb0 hs0
  go_wp2_with fail
  refine (CS.out _ B0.out).mono ?_
  rintro e w1 ⟨vp1, rfl, ow1, hb1⟩
  have a2 := cell_below a2 hb1
  have f2 := row_free ((hb1.block _ (row_lt QA.out)).trans QA.out) 2
  obtain ⟨sp1, cp1, rfl, k1⟩ := own_form ow1
  have K1 := Lib.hid k1
  have RU0 : RowsUp (fun s : Sg => .bool s.1) (fun W u s => IntsAt W u s.2) w W0.heap.size 121 w1 (.slice sp1 a.path.length cp1) a.path 0 rowsP := ⟨P12.out.2, P12.out.1, ow1, fun j x hx => by
    obtain ⟨cs, h1, u, rfl, h2⟩ := P3.out j x hx
    exact ⟨u, h1, fun h => absurd h (by omega), fun _ => h2⟩⟩
  clear k1 ow1
  go_upto_region 2 with (fail)
  obtain ⟨W2, hW2⟩ : ∃ W2, W2 = w1.setCell ⟨w.heap.size, 2, none⟩ (.slice sp1 a.path.length cp1) := ⟨_, rfl⟩
  have KB : Kept (fun b => b = w.heap.size) w1 W2 := by rw [hW2]; exact Kept.setCell _ _ rfl
  have QA2 : Hid (W2.heap[w.heap.size]? = some (.cells #[.int .i64 a.has, .int .i64 a.origin, .slice sp1 a.path.length cp1, .int .u32 a.hop, .int .i64 a.med, .int .i64 a.loc, .int .i64 a.aggrAs, .int .u32 a.aggrId, .slice sc a.comms.length cc, .slice so a.others.length co] 42 (0, 0))) := Lib.hid (by
    rw [hW2]
    have := set_same ((hb1.block _ (row_lt QA.out)).trans QA.out) 2 (.slice sp1 a.path.length cp1)
    simpa using this)
  have QZ2 : Hid (W2.heap[w.heap.size + 1]? = some (.cells atZ 42 (0, 0))) := Lib.hid (by
    have h1 := (hb1.block _ (row_lt QZ.out)).trans QZ.out
    exact (KB.block _ (row_lt h1) (by omega)).trans h1)
  have RU2 := Lib.hid (RU0.kept KB (fun k hk e => by have := S0.out; omega))
  have B2 : Hid (Below w.heap.size w W2) := Lib.hid ((below_on B0.out hb1).trans (KB.below (by have := hb1.size; have := S0.out; omega) (fun k hk => by omega)))
  rw [← hW2]
  clear hW2 KB RU0 a2 f2 hb1 QA QZ
  generalize W0.heap.size = lo at S0 RU2
  clear CS P3 P12 B0
  have y2 : W2.cell? ⟨w.heap.size, 2, none⟩ = some (.slice sp1 a.path.length cp1) := row_cell QA2.out 2
  go_wp2_with fail
  clear y2
  go_loopw [12] (fun t wr => ∃ (i : Nat) (rows : List (List Value)), i ≤ a.path.length ∧ t = .int .i64 i ∧ Hid (RowsUp (fun s : Sg => .bool s.1) (fun W u s => IntsAt W u s.2) w lo 121 wr (.slice sp1 a.path.length cp1) a.path i rows) ∧ Hid (wr.heap[w.heap.size]? = some (.cells #[.int .i64 a.has, .int .i64 a.origin, .slice sp1 a.path.length cp1, .int .u32 a.hop, .int .i64 a.med, .int .i64 a.loc, .int .i64 a.aggrAs, .int .u32 a.aggrId, .slice sc a.comms.length cc, .slice so a.others.length co] 42 (0, 0))) ∧ Hid (wr.heap[w.heap.size + 1]? = some (.cells atZ 42 (0, 0))) ∧ Hid (Below w.heap.size w wr)) (fun t _ => a.path.length - (intOf t).toNat)
  case atStart => exact ⟨0, rowsP, by omega, rfl, RU2, QA2, QZ2, B2⟩
  case round =>
    clear RU2 QA2 QZ2 B2
    obtain ⟨i, rows, hi, rfl, RU, QA, QZ, B⟩ := hrel
    by_cases hlt : i < a.path.length
    · obtain ⟨s, hs⟩ : ∃ s, a.path[i]? = some s := ⟨_, List.getElem?_eq_getElem hlt⟩
      obtain ⟨u, hr, _, hin⟩ := RU.out.at_ i s hs
      have IN := hin (Nat.le_refl _)
      obtain ⟨g, rfl⟩ := K1.out (by omega)
      obtain ⟨x1, f1, lg, gl⟩ := own_row_cell RU.out.own rfl (j := i * 2 + 1) (u := u) (by rw [rows_get RU.out.two i _ hr 1 (by decide)]; rfl)
      have y2 : wr.cell? ⟨w.heap.size, 2, none⟩ = some (.slice (some ⟨g, 0, none⟩) a.path.length cp1) := row_cell QA.out 2
      have Y2 := Lib.hid y2
      have NE : Hid (w.heap.size ≠ g) := Lib.hid (by have := S0.out; omega)
      have NE1 : Hid (w.heap.size + 1 ≠ g) := Lib.hid (by have := S0.out; omega)
      have LG : Hid (w.heap.size ≤ g) := Lib.hid (by have := S0.out; omega)
      have F1 := Lib.hid f1
      have CI := Lib.hid (fun W (hW : Below w.heap.size w W) => clone_ints u s.2 W (IN.below hW) (HZ.out.segs s (List.mem_of_getElem? hs)))
      have RG := Lib.hid (ints_rng IN)
      have x1d : (World.drew wr).cell? ⟨g, i * 2 + 1, none⟩ = some u := x1
      have X1 := Lib.hid x1
      have HS := Lib.hid hs
      have HR := Lib.hid hr
      have j0 : (0 : Int) ≤ (i : Int) := by omega
      have j1 : (i : Int) < (a.path.length : Int) := by omega
      clear hs hr hin IN lg gl f1 x1
      go_upto_region 5 with (fail)
      refine wp_region_held_drew (S := fun w' => Kept (fun b => b = g) wr w') (by kernel_rfl) ?_ (fun hHeld => ?_)
      · exact (Kept.refl _ _).drew
      refine rg_yes (i := 0) (v := ?_) at0 (by kernel_rfl) (by kernel_rfl) (by kernel_rfl) (fun _ _ _ h => h) ?_ ?_ hHeld ?_; rotate_left 1; (· rfl); (· intro w' hSw; (try dsimp only at hSw); (try clear hHeld); go_simp; try with_reducible rfl)
      try simp only [zp1, zp3, zp4, zp5]
      refine rg_yes (i := 1) (v := ?_) (atS at0) (by kernel_rfl) (by kernel_rfl) (by kernel_rfl) (fun _ _ _ h => h) ?_ ?_ hHeld ?_; rotate_left 1; (· rfl); (· intro w' hSw; (try dsimp only at hSw); have y2 := hSw.cell Y2.out NE.out; (try clear hHeld); go_simp; try with_reducible rfl)
      try simp only [zp1, zp3, zp4, zp5]
      refine rg_yes (i := 2) (v := ?_) (atS (atS at0)) (by kernel_rfl) (by kernel_rfl) (by kernel_rfl) (fun _ _ _ h => h) ?_ ?_ hHeld ?_; rotate_left 1; (· rfl); (· intro w' hSw; (try dsimp only at hSw); (try clear hHeld); go_simp; try with_reducible rfl)
      try simp only [zp1, zp3, zp4, zp5]
      refine rg_yes (i := 3) (v := ?_) (atS (atS (atS at0))) (by kernel_rfl) (by kernel_rfl) (by kernel_rfl) (fun _ _ _ h => h) ?_ ?_ hHeld ?_; rotate_left 1; (· rfl); (· intro w' hSw; (try dsimp only at hSw); (try clear hHeld); go_simp; try with_reducible rfl)
      try simp only [zp1, zp3, zp4, zp5]
      refine rg_yes (i := 4) (v := ?_) (atS (atS (atS (atS at0)))) (by kernel_rfl) (by kernel_rfl) (by kernel_rfl) (fun _ _ _ h => h) ?_ ?_ hHeld ?_; rotate_left 1; (· rfl); (· intro w' hSw; (try dsimp only at hSw); have y2 := hSw.cell Y2.out NE.out; (try clear hHeld); go_simp; try with_reducible rfl)
      try simp only [zp1, zp3, zp4, zp5]
      refine rg_yes (i := 5) (v := ?_) (atS (atS (atS (atS (atS at0))))) (by kernel_rfl) (by kernel_rfl) (by kernel_rfl) (fun _ _ _ h => h) ?_ ?_ hHeld ?_; rotate_left 1; (· rfl); (· intro w' hSw; (try dsimp only at hSw); (try clear hHeld); go_simp; try with_reducible rfl)
      try simp only [zp1, zp3, zp4, zp5]
      refine rg_yes (i := 6) (v := ?_) (atS (atS (atS (atS (atS (atS at0)))))) (by kernel_rfl) (by kernel_rfl) (by kernel_rfl) (fun _ _ _ h => h) ?_ ?_ hHeld ?_; rotate_left 1; (· rfl); (· intro w' hSw; (try dsimp only at hSw); have y2 := hSw.cell Y2.out NE.out; (try clear hHeld); go_simp; try with_reducible rfl)
      try simp only [zp1, zp3, zp4, zp5]
      refine rg_yes (i := 7) (v := ?_) (atS (atS (atS (atS (atS (atS (atS at0))))))) (by kernel_rfl) (by kernel_rfl) (by kernel_rfl) (fun _ _ _ h => h) ?_ ?_ hHeld ?_; rotate_left 1; (· rfl); (· intro w' hSw; (try dsimp only at hSw); (try clear hHeld); go_simp; try with_reducible rfl)
      try simp only [zp1, zp3, zp4, zp5]
      refine rg_call (i := 8) (atS (atS (atS (atS (atS (atS (atS (atS at0)))))))) (by kernel_rfl) ?_ (fun K hK => ?_); (· rfl); (try clear hb); go_simp; go_wp2_with fail; refine hK.out _ _ ?_ (fun hHeld => ?_); (· exact hHeld); clear hK K
      try simp only [zp1, zp3, zp4, zp5]
      refine rg_call (i := 9) (atS (atS (atS (atS (atS (atS (atS (atS (atS at0))))))))) (by kernel_rfl) ?_ (fun K hK => ?_); (· rfl); (try clear hb); go_simp; (refine (CI.out _ (B.out.drew)).mono ?_; rintro e w5 ⟨u', rfl, ow5, hb5⟩); obtain ⟨su, cu, rfl, -⟩ := own_form ow5; have HB5 : Hid (Below wr.heap.size wr w5) := Lib.hid ((Below.refl _ _).drew.trans hb5); have x5 := cell_below X1.out HB5.out; have f5 : w5.frozen? ⟨g, i * 2 + 1, none⟩ = false := (HB5.out.frozen (p := ⟨g, i * 2 + 1, none⟩) (size_lt X1.out)).trans F1.out; go_wp2_with fail; refine hK.out _ _ ?_ (fun hHeld => ?_); (· exact hHeld.trans (Kept.of_below hb5)); clear hK K
      try simp only [zp1, zp3, zp4, zp5]
      refine rg_yes (i := 10) (v := ?_) (atS (atS (atS (atS (atS (atS (atS (atS (atS (atS at0)))))))))) (by kernel_rfl) (by kernel_rfl) (by kernel_rfl) (fun _ _ _ h => h) ?_ ?_ hHeld ?_; rotate_left 1; (· rfl); (· intro w' hSw; (try dsimp only at hSw); have y2 := hSw.cell Y2.out NE.out; (try clear hHeld); go_simp; try with_reducible rfl)
      try simp only [zp1, zp3, zp4, zp5]
      refine rg_yes (i := 11) (v := ?_) (atS (atS (atS (atS (atS (atS (atS (atS (atS (atS (atS at0))))))))))) (by kernel_rfl) (by kernel_rfl) (by kernel_rfl) (fun _ _ _ h => h) ?_ ?_ hHeld ?_; rotate_left 1; (· rfl); (· intro w' hSw; (try dsimp only at hSw); (try clear hHeld); go_simp; try with_reducible rfl)
      try simp only [zp1, zp3, zp4, zp5]
      refine rg_call (i := 12) (atS (atS (atS (atS (atS (atS (atS (atS (atS (atS (atS (atS at0)))))))))))) (by kernel_rfl) ?_ (fun K hK => ?_); (· rfl); (try clear hb); go_simp; go_wp2_with fail; refine hK.out _ _ ?_ (fun hHeld => ?_); (· exact hHeld.trans (Kept.setCell _ _ rfl)); clear hK K
      try simp only [zp1, zp3, zp4, zp5]
      refine wpAnyH_done (by kernel_rfl) ?_ _
      have STP := Lib.hid (RU.out.step HS.out HR.out HB5.out rfl ((own_fresh ow5).imp (fun W h => ⟨own_i64s h RG.out, own_nf h⟩)))
      have HK := Lib.hid hHeld
      have NB6 : Hid (Below w.heap.size w (w5.setCell ⟨g, i * 2 + 1, none⟩ (.slice su s.2.length cu))) := Lib.hid ((below_on B.out HB5.out).setCell LG.out _)
      have QA6 := Lib.hid ((hHeld.block _ (row_lt QA.out) NE.out).trans QA.out)
      have QZ6 := Lib.hid ((hHeld.block _ (row_lt QZ.out) NE1.out).trans QZ.out)
      clear hHeld HK x1d HB5 x5 f5 ow5 RU QA QZ B y2 Y2 CI
      go_wp2_with fail
      exact ⟨⟨i + 1, _, by omega, by go_num, STP, QA6, QZ6, NB6⟩, by simp [intOf]; omega⟩
    · obtain rfl : i = a.path.length := by omega
      have DP := Lib.hid (RU.out.done)
      clear RU hlt hi
      have a8 : wr.cell? ⟨w.heap.size, 8, none⟩ = some (.slice sc a.comms.length cc) := row_cell QA.out 8
      go_wp2_with fail
      refine (CC.out _ B.out).mono ?_
      rintro e w3 ⟨vc1, rfl, ow3, hb3⟩
      obtain ⟨sc1, cc1, rfl, -⟩ := own_form ow3
      have a8 := cell_below a8 hb3
      have f8 := row_free ((hb3.block _ (row_lt QA.out)).trans QA.out) 8
      go_upto_region 8 with (fail)
      obtain ⟨W3, hW3⟩ : ∃ W3, W3 = w3.setCell ⟨w.heap.size, 8, none⟩ (.slice sc1 a.comms.length cc1) := ⟨_, rfl⟩
      have KB : Kept (fun b => b = w.heap.size) w3 W3 := by rw [hW3]; exact Kept.setCell _ _ rfl
      have QA3 : Hid (W3.heap[w.heap.size]? = some (.cells #[.int .i64 a.has, .int .i64 a.origin, .slice sp1 a.path.length cp1, .int .u32 a.hop, .int .i64 a.med, .int .i64 a.loc, .int .i64 a.aggrAs, .int .u32 a.aggrId, .slice sc1 a.comms.length cc1, .slice so a.others.length co] 42 (0, 0))) := Lib.hid (by
        rw [hW3]
        have := set_same ((hb3.block _ (row_lt QA.out)).trans QA.out) 8 (.slice sc1 a.comms.length cc1)
        simpa using this)
      have QZ3 : Hid (W3.heap[w.heap.size + 1]? = some (.cells atZ 42 (0, 0))) := Lib.hid (by
        have h1 := (hb3.block _ (row_lt QZ.out)).trans QZ.out
        exact (KB.block _ (row_lt h1) (by omega)).trans h1)
      have LW : lo ≤ wr.heap.size := by have := row_lt QZ.out; have := S0.out; omega
      have DP3 := Lib.hid ((DP.out.below hb3).kept KB (fun k _ hl e => by have := S0.out; omega))
      have DC3 : Hid (Fresh lo W3 fun W => W.ownsRow lo 3 1 (.slice sc1 a.comms.length cc1) a.comms.length (a.comms.flatMap i64L)) := Lib.hid (((own_fresh ow3).wide (G := fun k => lo ≤ k) (fun k hk _ => by omega) |>.imp (fun W h => own_base h LW)).kept KB (fun k _ hl e => by have := S0.out; omega))
      have B3 : Hid (Below w.heap.size w W3) := Lib.hid ((below_on B.out hb3).trans (KB.below (by have := (below_on B.out hb3).size; omega) (fun k hk => by omega)))
      rw [← hW3]
      clear hW3 KB a8 f8 hb3 QA QZ B DP ow3 LW
      have a9 : W3.cell? ⟨w.heap.size, 9, none⟩ = some (.slice so a.others.length co) := row_cell QA3.out 9
      go_wp2_with fail
      refine (COt.out _ B3.out).mono ?_
      rintro e w4 ⟨vo1, rfl, ow4, hb4⟩
      have a9 := cell_below a9 hb4
      have f9 := row_free ((hb4.block _ (row_lt QA3.out)).trans QA3.out) 9
      obtain ⟨so1, co1, rfl, k1⟩ := own_form ow4
      have O1 := Lib.hid k1
      have LW : lo ≤ W3.heap.size := by have := row_lt QZ3.out; have := S0.out; omega
      have RU0 : RowsUp (fun s : Oth => .int .i64 s.1) (fun W u s => I64r s.1 ∧ BytesAt W u s.2) w W3.heap.size 159 w4 (.slice so1 a.others.length co1) a.others 0 rowsO := ⟨O12.out.2, O12.out.1, ow4, fun j x hx => by
        obtain ⟨cs, h1, u, rfl, h2⟩ := O3.out j x hx
        exact ⟨u, h1, fun h => absurd h (by omega), fun _ => h2⟩⟩
      clear k1 ow4
      go_upto_region 9 with (fail)
      obtain ⟨W4, hW4⟩ : ∃ W4, W4 = w4.setCell ⟨w.heap.size, 9, none⟩ (.slice so1 a.others.length co1) := ⟨_, rfl⟩
      have KB : Kept (fun b => b = w.heap.size) w4 W4 := by rw [hW4]; exact Kept.setCell _ _ rfl
      have QA4 : Hid (W4.heap[w.heap.size]? = some (.cells #[.int .i64 a.has, .int .i64 a.origin, .slice sp1 a.path.length cp1, .int .u32 a.hop, .int .i64 a.med, .int .i64 a.loc, .int .i64 a.aggrAs, .int .u32 a.aggrId, .slice sc1 a.comms.length cc1, .slice so1 a.others.length co1] 42 (0, 0))) := Lib.hid (by
        rw [hW4]
        have := set_same ((hb4.block _ (row_lt QA3.out)).trans QA3.out) 9 (.slice so1 a.others.length co1)
        simpa using this)
      have QZ4 : Hid (W4.heap[w.heap.size + 1]? = some (.cells atZ 42 (0, 0))) := Lib.hid (by
        have h1 := (hb4.block _ (row_lt QZ3.out)).trans QZ3.out
        exact (KB.block _ (row_lt h1) (by omega)).trans h1)
      have DB4 := Lib.hid ((((DP3.out.and DC3.out).wide (G := fun k => lo ≤ k ∧ k < W3.heap.size) (fun k hk hl => ⟨hk, hl⟩)).below hb4).kept KB (fun k _ hl e => by have := S0.out; omega))
      have RU4 := Lib.hid (RU0.kept KB (fun k hk e => by have := S0.out; omega))
      have B4 : Hid (Below w.heap.size w W4) := Lib.hid ((below_on B3.out hb4).trans (KB.below (by have := (below_on B3.out hb4).size; omega) (fun k hk => by omega)))
      rw [← hW4]
      clear hW4 KB RU0 a9 f9 hb4 QA3 QZ3 DP3 DC3 B3
      have L3 := Lib.hid LW
      clear LW
      generalize W3.heap.size = lo3 at DB4 RU4 L3
      have y9 : W4.cell? ⟨w.heap.size, 9, none⟩ = some (.slice so1 a.others.length co1) := row_cell QA4.out 9
      go_wp2_with fail
      clear y9
      go_loopw [39] (fun t wr => ∃ (i : Nat) (rows : List (List Value)), i ≤ a.others.length ∧ t = .int .i64 i ∧ Hid (RowsUp (fun s : Oth => .int .i64 s.1) (fun W u s => I64r s.1 ∧ BytesAt W u s.2) w lo3 159 wr (.slice so1 a.others.length co1) a.others i rows) ∧ Hid (On (fun k => lo ≤ k ∧ k < lo3) wr fun W => (SlAt W 2 (fun x cs => ∃ u, cs = [.bool x.1, u] ∧ IntsAt W u x.2 ∧ NF W 1 u) (.slice sp1 a.path.length cp1) a.path ∧ NF W 2 (.slice sp1 a.path.length cp1)) ∧ W.ownsRow lo 3 1 (.slice sc1 a.comms.length cc1) a.comms.length (a.comms.flatMap i64L)) ∧ Hid (wr.heap[w.heap.size]? = some (.cells #[.int .i64 a.has, .int .i64 a.origin, .slice sp1 a.path.length cp1, .int .u32 a.hop, .int .i64 a.med, .int .i64 a.loc, .int .i64 a.aggrAs, .int .u32 a.aggrId, .slice sc1 a.comms.length cc1, .slice so1 a.others.length co1] 42 (0, 0))) ∧ Hid (wr.heap[w.heap.size + 1]? = some (.cells atZ 42 (0, 0))) ∧ Hid (Below w.heap.size w wr)) (fun t _ => a.others.length - (intOf t).toNat)
      case atStart => exact ⟨0, rowsO, by omega, rfl, RU4, DB4, QA4, QZ4, B4⟩
      case round =>
        clear RU4 DB4 QA4 QZ4 B4
        obtain ⟨i, rows, hi, rfl, RU, DB, QA, QZ, B⟩ := hrel
        by_cases hlt : i < a.others.length
        · obtain ⟨s, hs⟩ : ∃ s, a.others[i]? = some s := ⟨_, List.getElem?_eq_getElem hlt⟩
          obtain ⟨u, hr, _, hin⟩ := RU.out.at_ i s hs
          have IN := (hin (Nat.le_refl _)).2
          have IR := Lib.hid (hin (Nat.le_refl _)).1
          obtain ⟨g, rfl⟩ := O1.out (by omega)
          obtain ⟨x1, f1, lg, gl⟩ := own_row_cell RU.out.own rfl (j := i * 2 + 1) (u := u) (by rw [rows_get RU.out.two i _ hr 1 (by decide)]; rfl)
          have y2 : wr.cell? ⟨w.heap.size, 9, none⟩ = some (.slice (some ⟨g, 0, none⟩) a.others.length co1) := row_cell QA.out 9
          have Y2 := Lib.hid y2
          have NE : Hid (w.heap.size ≠ g) := Lib.hid (by have := S0.out; have := L3.out; omega)
          have NE1 : Hid (w.heap.size + 1 ≠ g) := Lib.hid (by have := S0.out; have := L3.out; omega)
          have LG : Hid (w.heap.size ≤ g) := Lib.hid (by have := S0.out; have := L3.out; omega)
          have LG3 := Lib.hid lg
          have F1 := Lib.hid f1
          have CI := Lib.hid (fun W (hW : Below w.heap.size w W) => clone_bytes u s.2 W (IN.below hW) (HZ.out.vals s (List.mem_of_getElem? hs)))
          have RG := Lib.hid (bytes_rng IN)
          have x1d : (World.drew wr).cell? ⟨g, i * 2 + 1, none⟩ = some u := x1
          have X1 := Lib.hid x1
          have HS := Lib.hid hs
          have HR := Lib.hid hr
          have j0 : (0 : Int) ≤ (i : Int) := by omega
          have j1 : (i : Int) < (a.others.length : Int) := by omega
          clear hs hr hin IN lg gl f1 x1
          go_upto_region 12 with (fail)
          refine wp_region_held_drew (S := fun w' => Kept (fun b => b = g) wr w') (by kernel_rfl) ?_ (fun hHeld => ?_)
          · exact (Kept.refl _ _).drew
          refine rg_yes (i := 0) (v := ?_) at0 (by kernel_rfl) (by kernel_rfl) (by kernel_rfl) (fun _ _ _ h => h) ?_ ?_ hHeld ?_; rotate_left 1; (· rfl); (· intro w' hSw; (try dsimp only at hSw); (try clear hHeld); go_simp; try with_reducible rfl)
          try simp only [zp1, zp3, zp4, zp5]
          refine rg_yes (i := 1) (v := ?_) (atS at0) (by kernel_rfl) (by kernel_rfl) (by kernel_rfl) (fun _ _ _ h => h) ?_ ?_ hHeld ?_; rotate_left 1; (· rfl); (· intro w' hSw; (try dsimp only at hSw); have y2 := hSw.cell Y2.out NE.out; (try clear hHeld); go_simp; try with_reducible rfl)
          try simp only [zp1, zp3, zp4, zp5]
          refine rg_yes (i := 2) (v := ?_) (atS (atS at0)) (by kernel_rfl) (by kernel_rfl) (by kernel_rfl) (fun _ _ _ h => h) ?_ ?_ hHeld ?_; rotate_left 1; (· rfl); (· intro w' hSw; (try dsimp only at hSw); (try clear hHeld); go_simp; try with_reducible rfl)
          try simp only [zp1, zp3, zp4, zp5]
          refine rg_yes (i := 3) (v := ?_) (atS (atS (atS at0))) (by kernel_rfl) (by kernel_rfl) (by kernel_rfl) (fun _ _ _ h => h) ?_ ?_ hHeld ?_; rotate_left 1; (· rfl); (· intro w' hSw; (try dsimp only at hSw); (try clear hHeld); go_simp; try with_reducible rfl)
          try simp only [zp1, zp3, zp4, zp5]
          refine rg_yes (i := 4) (v := ?_) (atS (atS (atS (atS at0)))) (by kernel_rfl) (by kernel_rfl) (by kernel_rfl) (fun _ _ _ h => h) ?_ ?_ hHeld ?_; rotate_left 1; (· rfl); (· intro w' hSw; (try dsimp only at hSw); have y2 := hSw.cell Y2.out NE.out; (try clear hHeld); go_simp; try with_reducible rfl)
          try simp only [zp1, zp3, zp4, zp5]
          refine rg_yes (i := 5) (v := ?_) (atS (atS (atS (atS (atS at0))))) (by kernel_rfl) (by kernel_rfl) (by kernel_rfl) (fun _ _ _ h => h) ?_ ?_ hHeld ?_; rotate_left 1; (· rfl); (· intro w' hSw; (try dsimp only at hSw); (try clear hHeld); go_simp; try with_reducible rfl)
          try simp only [zp1, zp3, zp4, zp5]
          refine rg_yes (i := 6) (v := ?_) (atS (atS (atS (atS (atS (atS at0)))))) (by kernel_rfl) (by kernel_rfl) (by kernel_rfl) (fun _ _ _ h => h) ?_ ?_ hHeld ?_; rotate_left 1; (· rfl); (· intro w' hSw; (try dsimp only at hSw); have y2 := hSw.cell Y2.out NE.out; (try clear hHeld); go_simp; try with_reducible rfl)
          try simp only [zp1, zp3, zp4, zp5]
          refine rg_yes (i := 7) (v := ?_) (atS (atS (atS (atS (atS (atS (atS at0))))))) (by kernel_rfl) (by kernel_rfl) (by kernel_rfl) (fun _ _ _ h => h) ?_ ?_ hHeld ?_; rotate_left 1; (· rfl); (· intro w' hSw; (try dsimp only at hSw); (try clear hHeld); go_simp; try with_reducible rfl)
          try simp only [zp1, zp3, zp4, zp5]
          refine rg_call (i := 8) (atS (atS (atS (atS (atS (atS (atS (atS at0)))))))) (by kernel_rfl) ?_ (fun K hK => ?_); (· rfl); (try clear hb); go_simp; go_wp2_with fail; refine hK.out _ _ ?_ (fun hHeld => ?_); (· exact hHeld); clear hK K
          try simp only [zp1, zp3, zp4, zp5]
          refine rg_call (i := 9) (atS (atS (atS (atS (atS (atS (atS (atS (atS at0))))))))) (by kernel_rfl) ?_ (fun K hK => ?_); (· rfl); (try clear hb); go_simp; (refine (CI.out _ (B.out.drew)).mono ?_; rintro e w5 ⟨u', rfl, ow5, hb5⟩); obtain ⟨su, cu, rfl, -⟩ := own_form ow5; have HB5 : Hid (Below wr.heap.size wr w5) := Lib.hid ((Below.refl _ _).drew.trans hb5); have x5 := cell_below X1.out HB5.out; have f5 : w5.frozen? ⟨g, i * 2 + 1, none⟩ = false := (HB5.out.frozen (p := ⟨g, i * 2 + 1, none⟩) (size_lt X1.out)).trans F1.out; go_wp2_with fail; refine hK.out _ _ ?_ (fun hHeld => ?_); (· exact hHeld.trans (Kept.of_below hb5)); clear hK K
          try simp only [zp1, zp3, zp4, zp5]
          refine rg_yes (i := 10) (v := ?_) (atS (atS (atS (atS (atS (atS (atS (atS (atS (atS at0)))))))))) (by kernel_rfl) (by kernel_rfl) (by kernel_rfl) (fun _ _ _ h => h) ?_ ?_ hHeld ?_; rotate_left 1; (· rfl); (· intro w' hSw; (try dsimp only at hSw); have y2 := hSw.cell Y2.out NE.out; (try clear hHeld); go_simp; try with_reducible rfl)
          try simp only [zp1, zp3, zp4, zp5]
          refine rg_yes (i := 11) (v := ?_) (atS (atS (atS (atS (atS (atS (atS (atS (atS (atS (atS at0))))))))))) (by kernel_rfl) (by kernel_rfl) (by kernel_rfl) (fun _ _ _ h => h) ?_ ?_ hHeld ?_; rotate_left 1; (· rfl); (· intro w' hSw; (try dsimp only at hSw); (try clear hHeld); go_simp; try with_reducible rfl)
          try simp only [zp1, zp3, zp4, zp5]
          refine rg_call (i := 12) (atS (atS (atS (atS (atS (atS (atS (atS (atS (atS (atS (atS at0)))))))))))) (by kernel_rfl) ?_ (fun K hK => ?_); (· rfl); (try clear hb); go_simp; go_wp2_with fail; refine hK.out _ _ ?_ (fun hHeld => ?_); (· exact hHeld.trans (Kept.setCell _ _ rfl)); clear hK K
          try simp only [zp1, zp3, zp4, zp5]
          refine wpAnyH_done (by kernel_rfl) ?_ _
          have STP := Lib.hid (RU.out.step HS.out HR.out HB5.out rfl ((own_fresh ow5).imp (fun W h => ⟨⟨IR.out, own_u8s h RG.out⟩, own_nf h⟩)))
          have NB6 : Hid (Below w.heap.size w (w5.setCell ⟨g, i * 2 + 1, none⟩ (.slice su s.2.length cu))) := Lib.hid ((below_on B.out HB5.out).setCell LG.out _)
          have QA6 := Lib.hid ((hHeld.block _ (row_lt QA.out) NE.out).trans QA.out)
          have QZ6 := Lib.hid ((hHeld.block _ (row_lt QZ.out) NE1.out).trans QZ.out)
          have DB6 := Lib.hid (DB.out.kept hHeld (fun k _ hl e => by have := LG3.out; omega))
          clear hHeld x1d HB5 x5 f5 ow5 RU QA QZ B DB y2 Y2 CI
          go_wp2_with fail
          exact ⟨⟨i + 1, _, by omega, by go_num, STP, DB6, QA6, QZ6, NB6⟩, by simp [intOf]; omega⟩
        · obtain rfl : i = a.others.length := by omega
          have DO := Lib.hid (RU.out.done)
          have RC := Lib.hid (ints_rng HC.out)
          have FIN : Hid (Fresh lo wr (fun W => AtL W a (.slice sp1 a.path.length cp1) (.slice sc1 a.comms.length cc1) (.slice so1 a.others.length co1) ∧ W.ownsRow w.heap.size 3 1 (.slice sc1 a.comms.length cc1) a.comms.length (a.comms.flatMap i64L) ∧ AtU W a (.slice sp1 a.path.length cp1) (.slice sc1 a.comms.length cc1) (.slice so1 a.others.length co1))) := Lib.hid (by
            have h1 : Fresh lo wr _ := DB.out.wide (fun k hk _ => hk.1)
            have h2 : Fresh lo wr _ := DO.out.wide (fun k hk _ => Nat.le_trans L3.out hk)
            refine (h1.and h2).imp (fun W h => ?_)
            have au : AtU W a (.slice sp1 a.path.length cp1) (.slice sc1 a.comms.length cc1) (.slice so1 a.others.length co1) := ⟨h.1.1.1, h.1.1.2, own_i64s h.1.2 RC.out, own_nf h.1.2, h.2.1, h.2.2⟩
            exact ⟨au.atl, own_base h.1.2 (by have := S0.out; omega), au⟩)
          clear RU DB DO hlt hi
          obtain ⟨y0, y1, y2, y3, y4, y5, y6, y7, y8, y9⟩ := atc_cells QA.out
          have z0 := row_free QZ.out
          go_wp2_with ((with_reducible refine halt_at (X := .store 42 (.tmp 2) (.tmp 55)) ?_ ?_); (· rfl))
          unfold Halt
          refine st_row rfl 42 (.tmp 2) (.tmp 55) rfl (w.heap.size + 1) rfl 42 atZ #[.int .i64 a.has, .int .i64 a.origin, .slice sp1 a.path.length cp1, .int .u32 a.hop, .int .i64 a.med, .int .i64 a.loc, .int .i64 a.aggrAs, .int .u32 a.aggrId, .slice sc1 a.comms.length cc1, .slice so1 a.others.length co1] rfl QZ.out ?_ rfl (by simp [Value.oneCell']) ?_
          · kernel_rfl
          go_wp2_with fail
          refine bodyPost_ret (results_Clone _ _ (w.heap.size + 1) _ ?_ ?_ (setRow_heap _ _ _ _ _ _ QZ.out)) rfl ⟨_, _, _, rfl, ?_, below_setRow B.out (Nat.le_succ _) _⟩
          · rfl
          · rfl
          · exact (FIN.out.kept (kept_setRow (F := fun k => k = w.heap.size + 1) _ _ rfl) (fun k _ hl e => by have := S0.out; omega)).wide (fun k hk _ => by have := S0.out; omega)
end Go.Proofs.YtkoidahgbbabiaaGreat
