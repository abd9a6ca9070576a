/-
  TrieRuns: the two functions that are called at each.
-/
import Derived.Test.YtnklhfdhaclfiaaItE
import Derived.Test.YtnklhfdhaclfiaaTwW
import Derived.Shelf.Abstract
namespace Go.Proofs.Ytnklhfdhaclfiaa
open Go.RowKit

def itOf (x : Itm) : It3 := (x.1.1, (x.1.2 : Int), intOf x.2)
structure GI (Wf : World) (gb : Nat) (P : Nat → Prop) (L : List Itm) (W : World) : Prop where
  bel : Below Wf.heap.size Wf W
  row : ∃ vg, W.heap[gb]? = some (.cells #[vg] 49 (0, 0)) ∧ OwnIts W Wf.heap.size vg (L.map itOf) ∧ ∀ j, vg.ownBlock = some j → ¬ P j
  hg : Wf.heap.size ≤ gb
  fg : ¬ P gb
  pl : ∀ b, P b → b < W.heap.size
theorem own_ne_row {W : World} {B gb : Nat} {vg u : Value} {l : List It3} (h : OwnIts W B vg l) (hr : W.heap[gb]? = some (.cells #[u] 49 (0, 0))) : vg.ownBlock ≠ some gb := by
  obtain ⟨_, ⟨rfl, _⟩ | ⟨g, cap, cur, rfl, _, hg, _⟩⟩ := h
  · intro e; cases e
  · intro e
    simp [Value.ownBlock] at e
    subst e
    rw [hr] at hg
    simp at hg
theorem GI.stab {Wf W W' : World} {gb : Nat} {P P' : Nat → Prop} {L : List Itm} (h : GI Wf gb P L W) (hb : Below W.heap.size W W') (hP : ∀ b, P' b → P b ∨ (W.heap.size ≤ b ∧ b < W'.heap.size)) : GI Wf gb P' L W' := by
  obtain ⟨vg, r1, r2, r3⟩ := h.row
  refine ⟨h.bel.trans (hb.mono h.bel.size), ⟨vg, (hb.block gb (row_lt r1)).trans r1, r2.below hb, fun j hj hp => ?_⟩, h.hg, fun hp => ?_, fun b hp => ?_⟩
  · rcases hP j hp with h1 | h1
    · exact r3 j hj h1
    · have := own_block_lt r2 j hj; omega
  · rcases hP gb hp with h1 | h1
    · exact h.fg h1
    · have := row_lt r1; omega
  · rcases hP b hp with h1 | h1
    · exact Nat.lt_of_lt_of_le (h.pl b h1) hb.size
    · exact h1.2
theorem GI.step {Wf W Wm W5 : World} {gb : Nat} {P : Nat → Prop} {L : List Itm} {x : Itm} {vg v' : Value} (h : GI Wf gb P L W) (r1 : W.heap[gb]? = some (.cells #[vg] 49 (0, 0))) (r2 : OwnIts W Wf.heap.size vg (L.map itOf)) (r3 : ∀ j, vg.ownBlock = some j → ¬ P j)
    (hb : Below W.heap.size W Wm) (hown : OwnIts W5 Wf.heap.size v' (L.map itOf ++ [itOf x])) (hgr : Wm.grownBy W5 vg.ownBlock) (hat : v'.ownBlock = vg.ownBlock ∨ v'.ownBlock = some Wm.heap.size) :
    W5.heap[gb]? = some (.cells #[vg] 49 (0, 0)) ∧ GI Wf gb P (L ++ [x]) (W5.setCell ⟨gb, 0, none⟩ v') ∧ Kept (fun b => ¬ P b) W (W5.setCell ⟨gb, 0, none⟩ v') ∧ (W5.setCell ⟨gb, 0, none⟩ v').heap[gb]? = some (.cells #[v'] 49 (0, 0)) := by
  have hne := own_ne_row r2 r1
  have r5 : W5.heap[gb]? = some (.cells #[vg] 49 (0, 0)) := (hgr.block gb (Nat.lt_of_lt_of_le (row_lt r1) hb.size) (fun e => hne e.symm)).trans ((hb.block gb (row_lt r1)).trans r1)
  have hne' : v'.ownBlock ≠ some gb := by
    rcases hat with e | e
    · rw [e]; exact hne
    · rw [e]
      have := row_lt r1
      have := hb.size
      intro e2; cases e2; omega
  have hpv : ∀ j, v'.ownBlock = some j → ¬ P j := by
    intro j hj
    rcases hat with e | e
    · exact r3 j (e ▸ hj)
    · rw [e] at hj; cases hj
      intro hp
      have := h.pl _ hp
      have := hb.size
      omega
  have k5 : Kept (fun b => ¬ P b) W W5 := ⟨hgr.os.trans hb.os, hgr.tape.trans hb.tape, hgr.output.trans hb.output, Nat.le_trans hb.size hgr.size, fun k hk hp => (hgr.block k (Nat.lt_of_lt_of_le hk hb.size) (fun e => hp (r3 k e.symm))).trans (hb.block k hk)⟩
  have b5 : Below Wf.heap.size Wf W5 := (h.bel.trans (hb.mono h.bel.size)).grown hgr (Nat.le_trans h.bel.size hb.size) (own_ge r2)
  have s5 := set_same r5 0 v'
  refine ⟨r5, ⟨b5.setCell h.hg _, ⟨v', s5, ?_, hpv⟩, h.hg, h.fg, fun b hp => ?_⟩, k5.put _ _ (.inl h.fg), s5⟩
  · obtain ⟨o1, o2⟩ := hown
    rw [List.map_append]
    refine ⟨by simpa using o1, ?_⟩
    rcases o2 with ⟨e1, e2⟩ | ⟨g, cap, cur, e1, e2, e3, e4⟩
    · simp at e2
    · refine .inr ⟨g, cap, cur, e1, e2, ?_, by simpa using e4⟩
      rw [set_other _ _ _ (fun e => hne' (by rw [e1, ← e]; rfl))]
      exact e3
  · have h1 := h.pl b hp
    have h2 := k5.size
    have h3 : (W5.setCell ⟨gb, 0, none⟩ v').heap.size = W5.heap.size := by simp [World.setCell]
    omega

set_option maxHeartbeats 3200000 in
set_option maxRecDepth 100000 in
theorem each2_call {Wf : World} {gb : Nat} (P : Nat → Prop) (L : List Itm) (W : World) (A i : Nat) (n : Int) (h : GI Wf gb P L W) (hL : L.length < 8589934592) :
    Calls Try.prog 34 #[.agg #[.int .u32 A, .int .i64 i], .int .i64 n, .pointer (some ⟨gb, 0, none⟩)] W fun e w' => e = .returned (.bool true) ∧ GI Wf gb P (L ++ [((A, i), .int .i64 n)]) w' ∧ Kept (fun b => ¬ P b) W w' := by
  obtain ⟨i0, hi, hz0, hz1, hz2⟩ := info_parts info_item
  obtain ⟨vg, r1, r2, r3⟩ := h.row
  have H := Lib.hid h
  have R1 := Lib.hid r1
  have R2 := Lib.hid r2
  have R3 := Lib.hid r3
  have LM : (L.map itOf).length = L.length := List.length_map ..
  clear h r1 r2 r3
  go_enter Try.func34, Try.ntmps34
  go_upto_region 1 with (fail)
  obtain ⟨W0, hW0, q0, q1, hb⟩ := box2 W (.int .u32 A) (.int .i64 i) 31
  rw [← hW0]; clear hW0
  have n0 := (hb.block gb (row_lt R1.out)).trans R1.out
  have c0 : W0.cell? ⟨gb, 0, none⟩ = some vg := row_cell n0 0
  have O0 := Lib.hid (R2.out.below hb)
  have HB := Lib.hid hb
  clear hb n0
  go_wp2_with (at_builtin; refine wpList_append_own_at _ rfl _ _ 49 rfl Wf.heap.size 55 i0 _ 3 24 Try.underlying49 hi hz0 hz1 hz2 rfl (by decide) _ (L.map itOf).length (rowsOf (L.map itOf)) rfl (O0.out.alloc _) ⟨W0.heap.size, 0, none⟩ 1 1 (it3C (A, (i : Int), n)) rfl ?ar1 ?br1 ?cr1 ?dr1 ?er1 ?fr1 ?_)
  case ar1 => rfl
  case br1 => first | exact its_cells W0 (A, (i : Int), n) | exact fun _ _ h => h
  case cr1 => exact it3_one _
  case dr1 => rw [LM]; unfold maxLen; omega
  case er1 => rw [LM]; omega
  case fr1 => have := H.out.bel.size; have := HB.out.size; simp; omega
  intro v' w5 hown hgrow _ hat
  rw [← LM] at hown
  obtain ⟨r5, I6, K6, r6⟩ := GI.step (x := ((A, i), .int .i64 n)) H.out R1.out R2.out R3.out (HB.out.alloc HB.out.size _) (own_snoc hown) hgrow (by simpa using hat)
  have c5 : w5.cell? ⟨gb, 0, none⟩ = some vg := row_cell r5 0
  have f5 := row_free r5 0
  have J := Lib.hid (And.intro I6 K6)
  have LN : ∃ sa cap, v' = .slice sa (L.length + 1) cap := by
    obtain ⟨sa, cap, e, _⟩ := OwnIts.at_ (own_snoc (x := (A, (i : Int), n)) hown) |>.view
    refine ⟨sa, cap, ?_⟩
    rw [e]; simp
  obtain ⟨sa, cap, rfl⟩ := LN
  clear I6 K6 hown hgrow hat r5 r6
  go_wp2_with fail
  go_ret
  exact ⟨rfl, J.out.1, J.out.2⟩
set_option maxHeartbeats 3200000 in
set_option maxRecDepth 100000 in
theorem each1_call {Wf : World} {gb sb : Nat} {V : Int} (hV : Wf.cell? ⟨sb, 4, none⟩ = some (.int .i64 V)) (P : Nat → Prop) (L : List Itm) (W : World) (A i : Nat) (n : Int) (h : GI Wf gb P L W) (hL : L.length < 8589934592) :
    Calls Try.prog 31 #[.agg #[.int .u32 A, .int .i64 i], .int .i64 n, .pointer (some ⟨gb, 0, none⟩), .pointer (some ⟨sb, 0, none⟩)] W fun e w' => e = .returned (.bool (((L.length + 1 : Nat) : Int) != V)) ∧ GI Wf gb P (L ++ [((A, i), .int .i64 n)]) w' ∧ Kept (fun b => ¬ P b) W w' := by
  obtain ⟨i0, hi, hz0, hz1, hz2⟩ := info_parts info_item
  obtain ⟨vg, r1, r2, r3⟩ := h.row
  have H := Lib.hid h
  have R1 := Lib.hid r1
  have R2 := Lib.hid r2
  have R3 := Lib.hid r3
  have LM : (L.map itOf).length = L.length := List.length_map ..
  clear h r1 r2 r3
  go_enter Try.func31, Try.ntmps31
  go_upto_region 1 with (fail)
  obtain ⟨W0, hW0, q0, q1, hb⟩ := box2 W (.int .u32 A) (.int .i64 i) 31
  rw [← hW0]; clear hW0
  have n0 := (hb.block gb (row_lt R1.out)).trans R1.out
  have c0 : W0.cell? ⟨gb, 0, none⟩ = some vg := row_cell n0 0
  have O0 := Lib.hid (R2.out.below hb)
  have HB := Lib.hid hb
  clear hb n0
  go_wp2_with (at_builtin; refine wpList_append_own_at _ rfl _ _ 49 rfl Wf.heap.size 55 i0 _ 3 24 Try.underlying49 hi hz0 hz1 hz2 rfl (by decide) _ (L.map itOf).length (rowsOf (L.map itOf)) rfl (O0.out.alloc _) ⟨W0.heap.size, 0, none⟩ 1 1 (it3C (A, (i : Int), n)) rfl ?ar1 ?br1 ?cr1 ?dr1 ?er1 ?fr1 ?_)
  case ar1 => rfl
  case br1 => first | exact its_cells W0 (A, (i : Int), n) | exact fun _ _ h => h
  case cr1 => exact it3_one _
  case dr1 => rw [LM]; unfold maxLen; omega
  case er1 => rw [LM]; omega
  case fr1 => have := H.out.bel.size; have := HB.out.size; simp; omega
  intro v' w5 hown hgrow _ hat
  rw [← LM] at hown
  obtain ⟨r5, I6, K6, r6⟩ := GI.step (x := ((A, i), .int .i64 n)) H.out R1.out R2.out R3.out (HB.out.alloc HB.out.size _) (own_snoc hown) hgrow (by simpa using hat)
  have c5 : w5.cell? ⟨gb, 0, none⟩ = some vg := row_cell r5 0
  have f5 := row_free r5 0
  have J := Lib.hid (And.intro I6 K6)
  have LN : ∃ sa cap, v' = .slice sa (L.length + 1) cap := by
    obtain ⟨sa, cap, e, _⟩ := OwnIts.at_ (own_snoc (x := (A, (i : Int), n)) hown) |>.view
    refine ⟨sa, cap, ?_⟩
    rw [e]; simp
  obtain ⟨sa, cap, rfl⟩ := LN
  have V5 := (I6.bel.cell (size_lt hV)).trans hV
  have c6 := row_cell r6 0
  have nsb : ¬ sb = gb := by have := size_lt hV; have := H.out.hg; omega
  clear hown hgrow hat r5 I6 K6 hV
  go_upto_region 2 with (fail)
  generalize w5.setCell ⟨gb, 0, none⟩ (.slice sa (L.length + 1) cap) = W6 at J V5 c6 r6 ⊢
  replace c6 : W6.cell? ⟨gb, 0, none⟩ = some (.slice sa (L.length + 1) cap) := c6
  go_wp2_with fail
  go_ret
  exact ⟨rfl, J.out.1, J.out.2⟩
end Go.Proofs.Ytnklhfdhaclfiaa
