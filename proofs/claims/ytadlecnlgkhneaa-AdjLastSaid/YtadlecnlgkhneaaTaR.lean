/-
  A TRIE OF ATTRIBUTES: reach.
-/
import Derived.Test.YtadlecnlgkhneaaTaF
import Derived.Deep.CutBlock
import Derived.Deep.DeepCutAuto
namespace Go.Proofs.Ytadlecnlgkhneaa
open Go.RowKit

/-- more nodes, all of them new. -/
def TExt (N N' : Nat → Option Nat) (B : Nat) : Prop := (∀ k b, N k = some b → N' k = some b) ∧ ∀ k b, N' k = some b → N k = some b ∨ B ≤ b
theorem TExt.refl (N : Nat → Option Nat) (B : Nat) : TExt N N B := ⟨fun _ _ h => h, fun _ _ h => .inl h⟩
theorem TExt.upd {N N' : Nat → Option Nat} {B κ nb : Nat} (h : TExt N N' B) (hn : N' κ = none) (hB : B ≤ nb) : TExt N (updN N' κ (some nb)) B := by
  refine ⟨fun k b hk => ?_, fun k b hk => ?_⟩
  · have h1 := h.1 k b hk
    rw [updN_ne _ _ (fun e => by rw [e, hn] at h1; cases h1)]
    exact h1
  · by_cases e : k = κ
    · subst e
      rw [updN_same] at hk
      cases hk
      exact .inr hB
    · rw [updN_ne _ _ e] at hk
      exact h.2 k b hk
theorem Kept.put {F : Nat → Prop} {w w1 : World} (h : Kept F w w1) (p : Addr) (v : Value) (hF : F p.block ∨ w.heap.size ≤ p.block) : Kept F w (w1.setCell p v) := by
  refine ⟨h.os, h.tape, h.output, by simpa [World.setCell] using h.size, fun k hk hf => ?_⟩
  rw [Deep.blk_setCell_other w1 p v k (fun e => by
    subst e
    rcases hF with hF | hF
    · exact hf hF
    · omega)]
  exact h.block k hk hf
theorem Kept.grow {F : Nat → Prop} {w w1 w2 : World} (h : Kept F w w1) (hb : Below w1.heap.size w1 w2) : Kept F w w2 := h.trans (Kept.of_below hb)
theorem slot_own {tb : Nat} {N N' : Nat → Option Nat} {B κ : Nat} {ad : Addr} (hs : SlotAt tb N' κ ad) (hx : TExt N N' B) : TOwn tb N ad.block ∨ B ≤ ad.block := by
  rcases hs with ⟨_, rfl⟩ | ⟨_, b, hb, rfl⟩
  · exact .inl (.inl rfl)
  · rcases hx.2 _ _ hb with h | h
    · exact .inl (.inr ⟨_, h⟩)
    · exact .inr h
def ReachPost (tb : Nat) (N : Nat → Option Nat) (S : List (Nat × AV)) (most : Int) (w : World) (κ : Nat) (e : Ending) (w' : World) : Prop :=
  ∃ N' b, e = .returned (.pointer (some ⟨b, 0, none⟩)) ∧ N' κ = some b ∧ TrI w' tb N' S most ∧ TExt N N' w.heap.size ∧ Kept (TOwn tb N) w w'
theorem hang_node {tb : Nat} {N : Nat → Option Nat} {S : List (Nat × AV)} {most : Int} {W : World} (h : TrI W tb N S most) {κ : Nat} {ad : Addr} (hs : SlotAt tb N κ ad) (hn : N κ = none) (h1 : 1 ≤ κ) (hd : κ < 2 ^ 33) :
    TrI ((W.alloc (.cells #[.pointer none, .pointer none, .bool false, .int .i64 0, .int .i64 0, .slice none 0 0, .int .u32 0, .int .i64 0, .int .i64 0, .int .i64 0, .int .u32 0, .slice none 0 0, .slice none 0 0] 122)).setCell ad (.pointer (some ⟨W.heap.size, 0, none⟩))) tb (updN N κ (some W.heap.size)) S most :=
  h.hang (o := some W.heap.size) ((Below.refl _ _).alloc (Nat.le_refl _) _) hs h1 hd (.inl hn) (h.none_of hn) (h.up_none hn h1).1 (h.up_none hn h1).2 (fun nb e => by
    cases e; exact ⟨Nat.le_refl _, heap_alloc_new W _⟩)
theorem slot_next {tb : Nat} {N : Nat → Option Nat} {a k b d : Nat} (hk : k < 32) (hb : N (keyN a k) = some b) (hd : a / 2 ^ (31 - k) % 2 = d) : SlotAt tb N (keyN a (k + 1)) ⟨b, d, none⟩ :=
  .inr ⟨keyN_two a k, b, by rw [keyN_half a k hk]; exact hb, by rw [keyN_mod a k hk, hd]⟩

set_option maxHeartbeats 3200000 in
set_option maxRecDepth 100000 in
theorem trI_reach {tb : Nat} {N : Nat → Option Nat} {S : List (Nat × AV)} {most : Int} (a n : Nat) (w : World) (h : TrI w tb N S most) (ha : a < 4294967296) (hn : n ≤ 32) :
    Calls Try.prog 61 #[.pointer (some ⟨tb, 0, none⟩), .agg #[.int .u32 a, .int .i64 n]] w (ReachPost tb N S most w (keyN a n)) := by
  have H := Lib.hid h
  have K0 := Lib.hid (keyN_0 a ha)
  clear h
  go_enter Try.func61, Try.ntmps61
  go_wp2_with fail
  obtain ⟨W0, hW0, c0, c1, hB⟩ := box2 w (.int .u32 a) (.int .i64 n) 29
  rw [← hW0]; clear hW0
  have H1 := Lib.hid (H.out.below hB)
  have nf : Hid (¬ TOwn tb N w.heap.size) := Lib.hid fun ho => by have := H.out.own_lt ho; omega
  go_loopw [5, 6] (fun x i wr => ∃ (k : Nat) (N' : Nat → Option Nat) (ad : Addr), k ≤ n ∧ i = .int .i64 k ∧ x = .pointer (some ad) ∧ Hid (SlotAt tb N' (keyN a k) ad ∧ TrI wr tb N' S most ∧ TExt N N' W0.heap.size ∧ Kept (TOwn tb N) W0 wr)) (fun _ i _ => n - (intOf i).toNat)
  case atStart => exact ⟨0, N, ⟨tb, 0, none⟩, by omega, rfl, rfl, Lib.hid ⟨.inl ⟨K0.out, rfl⟩, H1.out, TExt.refl _ _, Kept.refl _ _⟩⟩
  case round =>
    obtain ⟨k, N', ad, hk, rfl, rfl, C⟩ := hrel
    have c0 := C.out.2.2.2.cell c0 nf.out
    have c1 := C.out.2.2.2.cell c1 nf.out
    obtain ⟨ac, af⟩ := C.out.1.cell C.out.2.1
    have BQ := Lib.hid (fun W (h32 : k < 32) => bit_q a k ha h32 W)
    cases hx : N' (keyN a k) with
    | none =>
      rw [hx] at ac
      have ac : wr.cell? ad = some (.pointer none) := ac
      have hal : Below wr.heap.size wr (wr.alloc (.cells #[.pointer none, .pointer none, .bool false, .int .i64 0, .int .i64 0, .slice none 0 0, .int .u32 0, .int .i64 0, .int .i64 0, .int .i64 0, .int .u32 0, .slice none 0 0, .slice none 0 0] 122)) := (Below.refl _ _).alloc (Nat.le_refl _) _
      have ac' := cell_below ac hal
      have af' := frozen_below (World.block_lt_of_cell? wr ad ac) af hal
      go_upto_region 6 with (fail)
      obtain ⟨W2, hW2⟩ : ∃ W2, W2 = (wr.alloc (.cells #[.pointer none, .pointer none, .bool false, .int .i64 0, .int .i64 0, .slice none 0 0, .int .u32 0, .int .i64 0, .int .i64 0, .int .i64 0, .int .u32 0, .slice none 0 0, .slice none 0 0] 122)).setCell ad (.pointer (some ⟨wr.heap.size, 0, none⟩)) := ⟨_, rfl⟩
      have T2 : TrI W2 tb (updN N' (keyN a k) (some wr.heap.size)) S most := by rw [hW2]; exact hang_node C.out.2.1 C.out.1 hx (keyN_pos _ _) (keyN_deep a k ha (by omega))
      have K2 : Kept (TOwn tb N) W0 W2 := by
        rw [hW2]
        exact (C.out.2.2.2.grow ((Below.refl _ _).alloc (Nat.le_refl _) _)).put _ _ (slot_own C.out.1 C.out.2.2.1)
      have X2 : TExt N (updN N' (keyN a k) (some wr.heap.size)) W0.heap.size := C.out.2.2.1.upd hx C.out.2.2.2.size
      have S2 : SlotAt tb (updN N' (keyN a k) (some wr.heap.size)) (keyN a k) ad := by
        rcases C.out.1 with ⟨e, rfl⟩ | ⟨e, b', hb', rfl⟩
        · exact .inl ⟨e, rfl⟩
        · exact .inr ⟨e, b', by rw [updN_ne _ _ (by omega)]; exact hb', rfl⟩
      have ac2 := (S2.cell T2).1
      rw [updN_same] at ac2
      have hb2 := updN_same N' (keyN a k) (some wr.heap.size)
      have C2 := Lib.hid (And.intro T2 (And.intro X2 K2))
      rw [← hW2]
      generalize updN N' (keyN a k) (some wr.heap.size) = Nv at C2 hb2
      clear hW2 T2 K2 X2 S2 ac af ac' af' hal c0 c1
      have c0 := C2.out.2.2.cell ‹W0.cell? ⟨w.heap.size, 0, none⟩ = _› nf.out
      have c1 := C2.out.2.2.cell ‹W0.cell? ⟨w.heap.size, 1, none⟩ = _› nf.out
      generalize wr.heap.size = b at ac2 hb2 ⊢
      rw [ptrN_some] at ac2
      by_cases hlt : k < n
      · have z1 : ((k : Int) == (n : Int)) = false := by rw [beq_eq_false_iff_ne]; omega
        obtain ⟨d0, d1, _⟩ := C2.out.1.ncells hb2
        have HB2 := Lib.hid hb2
        clear hb2
        rcases Nat.mod_two_eq_zero_or_one (a / 2 ^ (31 - k)) with m | m
        · have BQ' := Lib.hid (fun W => BQ.out W (by omega))
          rw [m] at BQ'
          have M := Lib.hid m
          clear m
          go_wp2_with fail
          go_quiet ((go_at_call 60; exact Calls.quiet_of_same (BQ'.out _)))
          go_wp2_with fail
          exact ⟨⟨k + 1, Nv, ⟨b, 0, none⟩, by omega, by go_num, rfl, Lib.hid ⟨slot_next (by omega) HB2.out M.out, C2.out.1.below (below_drewN (Below.refl _ _) _), C2.out.2.1, C2.out.2.2.grow (below_drewN (Below.refl _ _) _)⟩⟩, by simp [intOf]; omega⟩
        · have BQ' := Lib.hid (fun W => BQ.out W (by omega))
          rw [m] at BQ'
          have M := Lib.hid m
          clear m
          go_wp2_with fail
          go_quiet ((go_at_call 60; exact Calls.quiet_of_same (BQ'.out _)))
          go_wp2_with fail
          exact ⟨⟨k + 1, Nv, ⟨b, 1, none⟩, by omega, by go_num, rfl, Lib.hid ⟨slot_next (by omega) HB2.out M.out, C2.out.1.below (below_drewN (Below.refl _ _) _), C2.out.2.1, C2.out.2.2.grow (below_drewN (Below.refl _ _) _)⟩⟩, by simp [intOf]; omega⟩
      · obtain rfl : k = n := by omega
        have HB2 := Lib.hid hb2
        clear hb2
        go_wp2_with fail
        go_ret
        exact ⟨Nv, b, rfl, HB2.out, C2.out.1, ⟨C2.out.2.1.1, fun k' b' hk' => (C2.out.2.1.2 k' b' hk').imp_right (fun h => by have := hB.size; omega)⟩, (Kept.of_below hB).trans C2.out.2.2⟩
    | some b =>
      rw [hx] at ac
      have C2 := Lib.hid (And.intro C.out.2.1 (And.intro C.out.2.2.1 C.out.2.2.2))
      have hb2 := hx
      have ac2 := ac
      clear hx ac
      obtain ⟨W2, hW2⟩ : ∃ W2, W2 = wr := ⟨_, rfl⟩
      obtain ⟨Nv, hNv⟩ : ∃ Nv, Nv = N' := ⟨_, rfl⟩
      subst hW2 hNv
      rw [ptrN_some] at ac2
      by_cases hlt : k < n
      · have z1 : ((k : Int) == (n : Int)) = false := by rw [beq_eq_false_iff_ne]; omega
        obtain ⟨d0, d1, _⟩ := C2.out.1.ncells hb2
        have HB2 := Lib.hid hb2
        clear hb2
        rcases Nat.mod_two_eq_zero_or_one (a / 2 ^ (31 - k)) with m | m
        · have BQ' := Lib.hid (fun W => BQ.out W (by omega))
          rw [m] at BQ'
          have M := Lib.hid m
          clear m
          go_wp2_with fail
          go_quiet ((go_at_call 60; exact Calls.quiet_of_same (BQ'.out _)))
          go_wp2_with fail
          exact ⟨⟨k + 1, Nv, ⟨b, 0, none⟩, by omega, by go_num, rfl, Lib.hid ⟨slot_next (by omega) HB2.out M.out, C2.out.1.below (below_drewN (Below.refl _ _) _), C2.out.2.1, C2.out.2.2.grow (below_drewN (Below.refl _ _) _)⟩⟩, by simp [intOf]; omega⟩
        · have BQ' := Lib.hid (fun W => BQ.out W (by omega))
          rw [m] at BQ'
          have M := Lib.hid m
          clear m
          go_wp2_with fail
          go_quiet ((go_at_call 60; exact Calls.quiet_of_same (BQ'.out _)))
          go_wp2_with fail
          exact ⟨⟨k + 1, Nv, ⟨b, 1, none⟩, by omega, by go_num, rfl, Lib.hid ⟨slot_next (by omega) HB2.out M.out, C2.out.1.below (below_drewN (Below.refl _ _) _), C2.out.2.1, C2.out.2.2.grow (below_drewN (Below.refl _ _) _)⟩⟩, by simp [intOf]; omega⟩
      · obtain rfl : k = n := by omega
        have HB2 := Lib.hid hb2
        clear hb2
        go_wp2_with fail
        go_ret
        exact ⟨Nv, b, rfl, HB2.out, C2.out.1, ⟨C2.out.2.1.1, fun k' b' hk' => (C2.out.2.1.2 k' b' hk').imp_right (fun h => by have := hB.size; omega)⟩, (Kept.of_below hB).trans C2.out.2.2⟩
end Go.Proofs.Ytadlecnlgkhneaa
