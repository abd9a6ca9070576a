/-
  A TRIE OF BOOLS: the same contracts (printed by a program out of those of a trie of numbers).
-/
import Derived.Test.YtnklhfdhaclfiaaTrB
import Derived.Test.YtnklhfdhaclfiaaTrH
namespace Go.Proofs.Ytnklhfdhaclfiaa
open Go.RowKit Go.Lib
set_option linter.unusedVariables false

abbrev zvB : Value := .bool false

abbrev TrB := TrieAt 70 75 zvB

theorem trB_made (w : World) (most : Int) : TrB (w.alloc (.cells #[.pointer none, .int .i64 most, .int .i64 0] 70)) w.heap.size (fun _ => none) [] most :=
  ⟨heap_alloc_new w _, fun _ _ h => (by cases h), fun _ _ _ h => (by cases h), fun _ h => (by cases h), fun _ _ h => (by cases h), rfl, fun _ h => absurd h (by simp), fun _ _ => rfl, by simp [KeysApart]⟩

set_option maxHeartbeats 400000 in
theorem trB_New (n : Int) (w : World) : Calls Try.prog 9 #[.int .i64 n] w fun e w' => e = .returned (.pointer (some ⟨w.heap.size, 0, none⟩)) ∧ TrB w' w.heap.size (fun _ => none) [] (min (max n 0) 4096) ∧ Below w.heap.size w w' := by
  have E : Hid (∀ m, m = min (max n 0) 4096 → TrB (w.alloc (.cells #[.pointer none, .int .i64 m, .int .i64 0] 70)) w.heap.size (fun _ => none) [] (min (max n 0) 4096)) := Lib.hid fun m hm => by rw [← hm]; exact trB_made w m
  go_enter Try.func9, Try.ntmps9
  go_wp2_with fail
  all_goals
    go_ret
    exact ⟨rfl, E.out _ (by omega), (Below.refl _ _).alloc (Nat.le_refl _) _⟩

set_option maxHeartbeats 400000 in
theorem trB_Len {tb : Nat} {N : Nat → Option Nat} {S : List (Nat × Value)} {most : Int} {w : World} (h : TrB w tb N S most) : Calls Try.prog 13 #[.pointer (some ⟨tb, 0, none⟩)] w fun e w' => e = .returned (.int .i64 S.length) ∧ w = w' := by
  obtain ⟨c0, c1, c2⟩ := h.cells
  clear h
  go_enter Try.func13, Try.ntmps13
  go_wp2_with fail
  go_ret
  exact ⟨rfl, rfl⟩

set_option maxHeartbeats 400000 in
theorem trB_find_nil (a n : Int) (w : World) : Calls Try.prog 39 #[.pointer none, .agg #[.int .u32 a, .int .i64 n]] w fun e w' => e = .returned (.pointer none) ∧ Below w.heap.size w w' := by
  go_enter Try.func39, Try.ntmps39
  go_wp2_with fail
  go_ret
  exact ⟨rfl, (Below.refl _ _).alloc (Nat.le_refl _) _⟩

set_option maxHeartbeats 400000 in
theorem trB_find_no (p : Addr) (a n : Int) (w : World) (h0 : 0 ≤ a) (h : a < 4294967296) (hR : rightB a n = false) : Calls Try.prog 39 #[.pointer (some p), .agg #[.int .u32 a, .int .i64 n]] w fun e w' => e = .returned (.pointer none) ∧ Below w.heap.size w w' := by
  go_enter Try.func39, Try.ntmps39
  go_wp2_with fail
  obtain ⟨W0, hW0, c0, c1, hB⟩ := box2 w (.int .u32 a) (.int .i64 n) 31
  rw [← hW0]; clear hW0
  refine (ip_Check a n W0 h0 h).mono ?_
  rintro e w1 ⟨rfl, hb⟩
  have hB := below_on hB hb
  rw [hR]
  go_wp2_with fail
  go_ret
  exact ⟨rfl, hB⟩

set_option maxHeartbeats 1600000 in
set_option maxRecDepth 100000 in
theorem trB_find {tb : Nat} {N : Nat → Option Nat} {S : List (Nat × Value)} {most : Int} (a n : Nat) (w : World) (h : TrB w tb N S most) (ha : a < 4294967296) (hR : rightB a n = true) :
    Calls Try.prog 39 #[.pointer (some ⟨tb, 0, none⟩), .agg #[.int .u32 a, .int .i64 n]] w fun e w' => e = .returned (ptrN (N (keyN a n))) ∧ Below w.heap.size w w' := by
  have hn : n ≤ 32 := by have := (rightB_range hR).2; omega
  have CK := ip_Check a n (h0 := by omega) (h := by omega)
  have H := Lib.hid h
  have K0 := Lib.hid (keyN_0 a ha)
  clear h
  go_enter Try.func39, Try.ntmps39
  go_wp2_with fail
  obtain ⟨W0, hW0, c0, c1, hB⟩ := box2 w (.int .u32 a) (.int .i64 n) 31
  rw [← hW0]; clear hW0
  refine (CK W0).mono ?_
  rintro e w1 ⟨rfl, hb⟩
  have c0 := cell_below c0 hb
  have c1 := cell_below c1 hb
  have hB := below_on hB hb
  have H1 := Lib.hid (H.out.below hB)
  have t0 := H1.out.cells.1
  clear hb CK
  rw [hR]
  go_wp2_with fail
  clear t0
  go_loopw [5, 6] (fun x i wr => ∃ k : Nat, k ≤ n ∧ i = .int .i64 k ∧ x = ptrN (N (keyN a k)) ∧ Below w1.heap.size w1 wr) (fun _ i _ => n - (intOf i).toNat)
  case atStart => exact ⟨0, by omega, rfl, by rw [K0.out], Below.refl _ _⟩
  case round =>
    obtain ⟨k, hk, rfl, rfl, hbr⟩ := hrel
    have c0 := cell_below c0 hbr
    have c1 := cell_below c1 hbr
    have hBr := below_on hB hbr
    have Hr := Lib.hid (H1.out.below hbr)
    by_cases hlt : k < n
    · cases hx : N (keyN a k) with
      | none =>
        have E : Hid (N (keyN a n) = none) := Lib.hid (by
          have aux : ∀ d, k + d ≤ n → N (keyN a (k + d)) = none := by
            intro d
            induction d with
            | zero => intro _; exact hx
            | succ d ih =>
              intro hd
              have h1 := ih (by omega)
              rw [show k + (d + 1) = (k + d) + 1 by omega, keyN_succ a (k + d) (by omega)]
              obtain ⟨u1, u2⟩ := Hr.out.up_none h1 (keyN_pos a _)
              rcases Nat.mod_two_eq_zero_or_one (a / 2 ^ (31 - (k + d))) with m | m
              · rw [m]; exact u1
              · rw [m]; exact u2
          have := aux (n - k) (by omega)
          rwa [show k + (n - k) = n by omega] at this)
        clear hx
        go_wp2_with fail
        go_ret
        exact ⟨by rw [E.out]; rfl, hBr⟩
      | some b =>
        obtain ⟨d0, d1, _, _⟩ := Hr.out.ncells hx
        have hbit := Nat.mod_two_eq_zero_or_one (a / 2 ^ (31 - k))
        have KS := keyN_succ a k (by omega)
        have BQ := fun W => bit_q a k ha (by omega) W
        clear hx
        rw [ptrN_some]
        rcases hbit with m | m
        · rw [m] at KS BQ
          have KS := Lib.hid KS
          have BQ := Lib.hid BQ
          clear m
          go_wp2_with fail
          go_quiet ((go_at_call 46; exact Calls.quiet_of_same (BQ.out _)))
          go_wp2_with fail
          exact ⟨⟨k + 1, by omega, by go_num, by rw [KS.out]; rfl, below_drewN hbr _⟩, by simp [intOf]; omega⟩
        · rw [m] at KS BQ
          have KS := Lib.hid KS
          have BQ := Lib.hid BQ
          clear m
          go_wp2_with fail
          go_quiet ((go_at_call 46; exact Calls.quiet_of_same (BQ.out _)))
          go_wp2_with fail
          exact ⟨⟨k + 1, by omega, by go_num, by rw [KS.out], below_drewN hbr _⟩, by simp [intOf]; omega⟩
    · obtain rfl : k = n := by omega
      go_wp2_with fail
      go_ret
      exact ⟨rfl, hBr⟩

def ReachPostB (tb : Nat) (N : Nat → Option Nat) (S : List (Nat × Value)) (most : Int) (w : World) (κ : Nat) (e : Ending) (w' : World) : Prop :=
  ∃ N' b, e = .returned (.pointer (some ⟨b, 0, none⟩)) ∧ N' κ = some b ∧ TrB w' tb N' S most ∧ TExt N N' w.heap.size ∧ Kept (TOwn tb N) w w'

theorem hang_nodeB {tb : Nat} {N : Nat → Option Nat} {S : List (Nat × Value)} {most : Int} {W : World} (h : TrB W tb N S most) {κ : Nat} {ad : Addr} (hs : SlotAt tb N κ ad) (hn : N κ = none) (h1 : 1 ≤ κ) (hd : κ < 2 ^ 33) :
    TrB ((W.alloc (.cells #[.pointer none, .pointer none, .bool false, .bool false] 75)).setCell ad (.pointer (some ⟨W.heap.size, 0, none⟩))) tb (updN N κ (some W.heap.size)) S most :=
  h.hang (o := some W.heap.size) ((Below.refl _ _).alloc (Nat.le_refl _) _) hs h1 hd (.inl hn) (h.none_of hn) (h.up_none hn h1).1 (h.up_none hn h1).2 (fun nb e => by
    cases e; exact ⟨Nat.le_refl _, heap_alloc_new W _⟩)

set_option maxHeartbeats 3200000 in
set_option maxRecDepth 100000 in
theorem trB_reach {tb : Nat} {N : Nat → Option Nat} {S : List (Nat × Value)} {most : Int} (a n : Nat) (w : World) (h : TrB w tb N S most) (ha : a < 4294967296) (hn : n ≤ 32) :
    Calls Try.prog 40 #[.pointer (some ⟨tb, 0, none⟩), .agg #[.int .u32 a, .int .i64 n]] w (ReachPostB tb N S most w (keyN a n)) := by
  have H := Lib.hid h
  have K0 := Lib.hid (keyN_0 a ha)
  clear h
  go_enter Try.func40, Try.ntmps40
  go_wp2_with fail
  obtain ⟨W0, hW0, c0, c1, hB⟩ := box2 w (.int .u32 a) (.int .i64 n) 31
  rw [← hW0]; clear hW0
  have H1 := Lib.hid (H.out.below hB)
  have nf : Hid (¬ TOwn tb N w.heap.size) := Lib.hid fun ho => by have := H.out.own_lt ho; omega
  go_loopw [5, 6] (fun x i wr => ∃ (k : Nat) (N' : Nat → Option Nat) (ad : Addr), k ≤ n ∧ i = .int .i64 k ∧ x = .pointer (some ad) ∧ Hid (SlotAt tb N' (keyN a k) ad ∧ TrB wr tb N' S most ∧ TExt N N' W0.heap.size ∧ Kept (TOwn tb N) W0 wr)) (fun _ i _ => n - (intOf i).toNat)
  case atStart => exact ⟨0, N, ⟨tb, 0, none⟩, by omega, rfl, rfl, Lib.hid ⟨.inl ⟨K0.out, rfl⟩, H1.out, TExt.refl _ _, Kept.refl _ _⟩⟩
  case round =>
    obtain ⟨k, N', ad, hk, rfl, rfl, C⟩ := hrel
    have c0 := C.out.2.2.2.cell c0 nf.out
    have c1 := C.out.2.2.2.cell c1 nf.out
    obtain ⟨ac, af⟩ := C.out.1.cell C.out.2.1
    have BQ := Lib.hid (fun W (h32 : k < 32) => bit_q a k ha h32 W)
    cases hx : N' (keyN a k) with
    | none =>
      rw [hx] at ac
      have ac : wr.cell? ad = some (.pointer none) := ac
      have hal : Below wr.heap.size wr (wr.alloc (.cells #[.pointer none, .pointer none, .bool false, .bool false] 75)) := (Below.refl _ _).alloc (Nat.le_refl _) _
      have ac' := cell_below ac hal
      have af' := frozen_below (World.block_lt_of_cell? wr ad ac) af hal
      go_upto_region 6 with (fail)
      obtain ⟨W2, hW2⟩ : ∃ W2, W2 = (wr.alloc (.cells #[.pointer none, .pointer none, .bool false, .bool false] 75)).setCell ad (.pointer (some ⟨wr.heap.size, 0, none⟩)) := ⟨_, rfl⟩
      have T2 : TrB W2 tb (updN N' (keyN a k) (some wr.heap.size)) S most := by rw [hW2]; exact hang_nodeB C.out.2.1 C.out.1 hx (keyN_pos _ _) (keyN_deep a k ha (by omega))
      have K2 : Kept (TOwn tb N) W0 W2 := by
        rw [hW2]
        exact (C.out.2.2.2.grow ((Below.refl _ _).alloc (Nat.le_refl _) _)).put _ _ (slot_own C.out.1 C.out.2.2.1)
      have X2 : TExt N (updN N' (keyN a k) (some wr.heap.size)) W0.heap.size := C.out.2.2.1.upd hx C.out.2.2.2.size
      have S2 : SlotAt tb (updN N' (keyN a k) (some wr.heap.size)) (keyN a k) ad := by
        rcases C.out.1 with ⟨e, rfl⟩ | ⟨e, b', hb', rfl⟩
        · exact .inl ⟨e, rfl⟩
        · exact .inr ⟨e, b', by rw [updN_ne _ _ (by omega)]; exact hb', rfl⟩
      have ac2 := (S2.cell T2).1
      rw [updN_same] at ac2
      have hb2 := updN_same N' (keyN a k) (some wr.heap.size)
      have C2 := Lib.hid (And.intro T2 (And.intro X2 K2))
      rw [← hW2]
      generalize updN N' (keyN a k) (some wr.heap.size) = Nv at C2 hb2
      clear hW2 T2 K2 X2 S2 ac af ac' af' hal c0 c1
      have c0 := C2.out.2.2.cell ‹W0.cell? ⟨w.heap.size, 0, none⟩ = _› nf.out
      have c1 := C2.out.2.2.cell ‹W0.cell? ⟨w.heap.size, 1, none⟩ = _› nf.out
      generalize wr.heap.size = b at ac2 hb2 ⊢
      rw [ptrN_some] at ac2
      by_cases hlt : k < n
      · have z1 : ((k : Int) == (n : Int)) = false := by rw [beq_eq_false_iff_ne]; omega
        obtain ⟨d0, d1, _, _⟩ := C2.out.1.ncells hb2
        have HB2 := Lib.hid hb2
        clear hb2
        rcases Nat.mod_two_eq_zero_or_one (a / 2 ^ (31 - k)) with m | m
        · have BQ' := Lib.hid (fun W => BQ.out W (by omega))
          rw [m] at BQ'
          have M := Lib.hid m
          clear m
          go_wp2_with fail
          go_quiet ((go_at_call 46; exact Calls.quiet_of_same (BQ'.out _)))
          go_wp2_with fail
          exact ⟨⟨k + 1, Nv, ⟨b, 0, none⟩, by omega, by go_num, rfl, Lib.hid ⟨slot_next (by omega) HB2.out M.out, C2.out.1.below (below_drewN (Below.refl _ _) _), C2.out.2.1, C2.out.2.2.grow (below_drewN (Below.refl _ _) _)⟩⟩, by simp [intOf]; omega⟩
        · have BQ' := Lib.hid (fun W => BQ.out W (by omega))
          rw [m] at BQ'
          have M := Lib.hid m
          clear m
          go_wp2_with fail
          go_quiet ((go_at_call 46; exact Calls.quiet_of_same (BQ'.out _)))
          go_wp2_with fail
          exact ⟨⟨k + 1, Nv, ⟨b, 1, none⟩, by omega, by go_num, rfl, Lib.hid ⟨slot_next (by omega) HB2.out M.out, C2.out.1.below (below_drewN (Below.refl _ _) _), C2.out.2.1, C2.out.2.2.grow (below_drewN (Below.refl _ _) _)⟩⟩, by simp [intOf]; omega⟩
      · obtain rfl : k = n := by omega
        have HB2 := Lib.hid hb2
        clear hb2
        go_wp2_with fail
        go_ret
        exact ⟨Nv, b, rfl, HB2.out, C2.out.1, ⟨C2.out.2.1.1, fun k' b' hk' => (C2.out.2.1.2 k' b' hk').imp_right (fun h => by have := hB.size; omega)⟩, (Kept.of_below hB).trans C2.out.2.2⟩
    | some b =>
      rw [hx] at ac
      have C2 := Lib.hid (And.intro C.out.2.1 (And.intro C.out.2.2.1 C.out.2.2.2))
      have hb2 := hx
      have ac2 := ac
      clear hx ac
      obtain ⟨W2, hW2⟩ : ∃ W2, W2 = wr := ⟨_, rfl⟩
      obtain ⟨Nv, hNv⟩ : ∃ Nv, Nv = N' := ⟨_, rfl⟩
      subst hW2 hNv
      rw [ptrN_some] at ac2
      by_cases hlt : k < n
      · have z1 : ((k : Int) == (n : Int)) = false := by rw [beq_eq_false_iff_ne]; omega
        obtain ⟨d0, d1, _, _⟩ := C2.out.1.ncells hb2
        have HB2 := Lib.hid hb2
        clear hb2
        rcases Nat.mod_two_eq_zero_or_one (a / 2 ^ (31 - k)) with m | m
        · have BQ' := Lib.hid (fun W => BQ.out W (by omega))
          rw [m] at BQ'
          have M := Lib.hid m
          clear m
          go_wp2_with fail
          go_quiet ((go_at_call 46; exact Calls.quiet_of_same (BQ'.out _)))
          go_wp2_with fail
          exact ⟨⟨k + 1, Nv, ⟨b, 0, none⟩, by omega, by go_num, rfl, Lib.hid ⟨slot_next (by omega) HB2.out M.out, C2.out.1.below (below_drewN (Below.refl _ _) _), C2.out.2.1, C2.out.2.2.grow (below_drewN (Below.refl _ _) _)⟩⟩, by simp [intOf]; omega⟩
        · have BQ' := Lib.hid (fun W => BQ.out W (by omega))
          rw [m] at BQ'
          have M := Lib.hid m
          clear m
          go_wp2_with fail
          go_quiet ((go_at_call 46; exact Calls.quiet_of_same (BQ'.out _)))
          go_wp2_with fail
          exact ⟨⟨k + 1, Nv, ⟨b, 1, none⟩, by omega, by go_num, rfl, Lib.hid ⟨slot_next (by omega) HB2.out M.out, C2.out.1.below (below_drewN (Below.refl _ _) _), C2.out.2.1, C2.out.2.2.grow (below_drewN (Below.refl _ _) _)⟩⟩, by simp [intOf]; omega⟩
      · obtain rfl : k = n := by omega
        have HB2 := Lib.hid hb2
        clear hb2
        go_wp2_with fail
        go_ret
        exact ⟨Nv, b, rfl, HB2.out, C2.out.1, ⟨C2.out.2.1.1, fun k' b' hk' => (C2.out.2.1.2 k' b' hk').imp_right (fun h => by have := hB.size; omega)⟩, (Kept.of_below hB).trans C2.out.2.2⟩

def PutPostB (tb : Nat) (N : Nat → Option Nat) (most : Int) (w : World) (r : Int × List (Nat × Value)) (e : Ending) (w' : World) : Prop :=
  ∃ N', e = .returned (.int .i64 r.1) ∧ TrB w' tb N' r.2 most ∧ TExt N N' w.heap.size ∧ Kept (TOwn tb N) w w'

set_option maxHeartbeats 400000 in
theorem trB_Put_no (p : Addr) (a n : Int) (v : Bool) (w : World) (h0 : 0 ≤ a) (h : a < 4294967296) (hR : rightB a n = false) : Calls Try.prog 10 #[.pointer (some p), .agg #[.int .u32 a, .int .i64 n], .bool v] w fun e w' => e = .returned (.int .i64 1) ∧ Below w.heap.size w w' := by
  go_enter Try.func10, Try.ntmps10
  go_wp2_with fail
  obtain ⟨W0, hW0, c0, c1, hB⟩ := box2 w (.int .u32 a) (.int .i64 n) 31
  rw [← hW0]; clear hW0
  refine (ip_Check a n W0 h0 h).mono ?_
  rintro e w1 ⟨rfl, hb⟩
  have hB := below_on hB hb
  rw [hR]
  go_wp2_with fail
  go_ret
  exact ⟨rfl, hB⟩

set_option maxHeartbeats 3200000 in
set_option maxRecDepth 100000 in
theorem trB_Put {tb : Nat} {N : Nat → Option Nat} {S : List (Nat × Value)} {most : Int} (a n : Nat) (v : Bool) (w : World) (h : TrB w tb N S most) (hm : most ≤ 4096) (ha : a < 4294967296) (hR : rightB a n = true) :
    Calls Try.prog 10 #[.pointer (some ⟨tb, 0, none⟩), .agg #[.int .u32 a, .int .i64 n], .bool v] w (PutPostB tb N most w (putR S most (keyN a n) (.bool v))) := by
  have hn : n ≤ 32 := by have := (rightB_range hR).2; omega
  have CK := ip_Check a n (h0 := by omega) (h := by omega)
  have H := Lib.hid h
  have FD := Lib.hid (fun W (h : TrB W tb N S most) => trB_find a n W h ha hR)
  have RC := Lib.hid (fun W (h : TrB W tb N S most) => trB_reach a n W h ha hn)
  clear h
  generalize hκ : keyN a n = κ at *
  clear hκ
  go_enter Try.func10, Try.ntmps10
  go_wp2_with fail
  obtain ⟨W0, hW0, c0, c1, hB⟩ := box2 w (.int .u32 a) (.int .i64 n) 31
  rw [← hW0]; clear hW0
  refine (CK W0).mono ?_
  rintro e w1 ⟨rfl, hb⟩
  have c0 := cell_below c0 hb
  have c1 := cell_below c1 hb
  have hB := below_on hB hb
  clear hb CK
  rw [hR]
  go_wp2_with fail
  refine (FD.out _ (H.out.below hB)).mono ?_
  rintro e w2 ⟨rfl, hb⟩
  have c0 := cell_below c0 hb
  have c1 := cell_below c1 hb
  have hB := below_on hB hb
  clear hb
  have T2 := Lib.hid (H.out.below hB)
  obtain ⟨_, t1, t2⟩ := T2.out.cells
  cases hg : getL S κ with
  | none =>
    cases hx : N κ with
    | none =>
      have HG := Lib.hid hg
      have HX := Lib.hid hx
      clear hg hx
      by_cases hf : most ≤ (S.length : Int)
      · have E := Lib.hid (putR_full (v := .bool v) HG.out hf)
        go_wp2_with fail
        go_quiet (fail)
        go_wp2_with fail
        go_ret
        exact ⟨N, ret_put E.out, by rw [E.out]; exact T2.out.below (below_drewN (Below.refl _ _) _), TExt.refl _ _, ((Kept.refl (TOwn tb N) w).grow hB).grow (below_drewN (Below.refl _ _) _)⟩
      · have E := Lib.hid (putR_new (v := .bool v) HG.out hf)
        go_wp2_with fail
        go_quiet (fail)
        go_wp2_with fail
        refine (RC.out _ (T2.out.below (below_drewN (Below.refl _ _) _))).mono ?_
        rintro e w4 ⟨N', b4, rfl, hb4, T4, X4, K4⟩
        have K4' := Lib.hid (((Kept.refl (TOwn tb N) w).grow (hB.trans ((below_drewN (Below.refl _ _) nq).mono hB.size))).trans K4)
        have X4' := Lib.hid (X4.mono (show w.heap.size ≤ (w2.drewN nq).heap.size from hB.size))
        obtain ⟨_, _, s2⟩ := T4.cells
        obtain ⟨_, _, e2, e3⟩ := T4.ncells hb4
        have g2 := row_free (T4.node κ b4 hb4) 2
        have g3 := row_free (T4.node κ b4 hb4) 3
        have g4 := row_free T4.row 2
        have n1 : ¬ b4 = tb := fun e => T4.top κ (e ▸ hb4)
        have n2 : ¬ tb = b4 := fun e => n1 e.symm
        have PN := Lib.hid (T4.putNew hb4 HG.out (.bool v))
        have HB4 := Lib.hid hb4
        rw [HG.out] at e2 e3
        have e2 : w4.cell? ⟨b4, 2, none⟩ = some (.bool false) := e2
        have e3 : w4.cell? ⟨b4, 3, none⟩ = some (.bool false) := e3
        clear K4 X4 T4 hb4
        go_wp2_with fail
        go_ret
        refine ⟨N', ret_put E.out, by rw [E.out]; exact PN.out, X4'.out, ?_⟩
        have hown : TOwn tb N b4 ∨ w.heap.size ≤ b4 := (X4'.out.2 _ _ HB4.out).imp_left fun h => .inr ⟨κ, h⟩
        exact ((K4'.out.put _ _ hown).put _ _ (.inl (.inl rfl))).put _ _ hown
    | some b =>
      obtain ⟨_, _, d2, _⟩ := T2.out.ncells hx
      rw [hg] at d2
      have d2 : w2.cell? ⟨b, 2, none⟩ = some (.bool false) := d2
      rw [ptrN_some]
      have HG := Lib.hid hg
      have HX := Lib.hid hx
      clear hg hx
      by_cases hf : most ≤ (S.length : Int)
      · have E := Lib.hid (putR_full (v := .bool v) HG.out hf)
        go_wp2_with fail
        go_quiet (fail)
        go_wp2_with fail
        go_ret
        exact ⟨N, ret_put E.out, by rw [E.out]; exact T2.out.below (below_drewN (Below.refl _ _) _), TExt.refl _ _, ((Kept.refl (TOwn tb N) w).grow hB).grow (below_drewN (Below.refl _ _) _)⟩
      · have E := Lib.hid (putR_new (v := .bool v) HG.out hf)
        go_wp2_with fail
        go_quiet (fail)
        go_wp2_with fail
        refine (RC.out _ (T2.out.below (below_drewN (Below.refl _ _) _))).mono ?_
        rintro e w4 ⟨N', b4, rfl, hb4, T4, X4, K4⟩
        have K4' := Lib.hid (((Kept.refl (TOwn tb N) w).grow (hB.trans ((below_drewN (Below.refl _ _) nq).mono hB.size))).trans K4)
        have X4' := Lib.hid (X4.mono (show w.heap.size ≤ (w2.drewN nq).heap.size from hB.size))
        obtain ⟨_, _, s2⟩ := T4.cells
        obtain ⟨_, _, e2, e3⟩ := T4.ncells hb4
        have g2 := row_free (T4.node κ b4 hb4) 2
        have g3 := row_free (T4.node κ b4 hb4) 3
        have g4 := row_free T4.row 2
        have n1 : ¬ b4 = tb := fun e => T4.top κ (e ▸ hb4)
        have n2 : ¬ tb = b4 := fun e => n1 e.symm
        have PN := Lib.hid (T4.putNew hb4 HG.out (.bool v))
        have HB4 := Lib.hid hb4
        rw [HG.out] at e2 e3
        have e2 : w4.cell? ⟨b4, 2, none⟩ = some (.bool false) := e2
        have e3 : w4.cell? ⟨b4, 3, none⟩ = some (.bool false) := e3
        clear K4 X4 T4 hb4
        go_wp2_with fail
        go_ret
        refine ⟨N', ret_put E.out, by rw [E.out]; exact PN.out, X4'.out, ?_⟩
        have hown : TOwn tb N b4 ∨ w.heap.size ≤ b4 := (X4'.out.2 _ _ HB4.out).imp_left fun h => .inr ⟨κ, h⟩
        exact ((K4'.out.put _ _ hown).put _ _ (.inl (.inl rfl))).put _ _ hown
  | some x =>
    obtain ⟨b, hx⟩ := H.out.dom' (k := κ) (by rw [hg]; rfl)
    obtain ⟨_, _, d2, d3⟩ := T2.out.ncells hx
    have f3 := row_free (T2.out.node κ b hx) 3
    rw [hg] at d2 d3
    have d2 : w2.cell? ⟨b, 2, none⟩ = some (.bool true) := d2
    rw [hx, ptrN_some]
    have PO := Lib.hid (T2.out.putOld hx (by rw [hg]; rfl) (.bool v))
    have E := Lib.hid (putR_old (most := most) (κ := κ) (v := .bool v) (S := S) (by rw [hg]; rfl))
    have KP := Lib.hid (((Kept.refl (TOwn tb N) w).grow hB).put ⟨b, 3, none⟩ (.bool v) (.inl (.inr ⟨κ, hx⟩)))
    have d3 : w2.cell? ⟨b, 3, none⟩ = some x := d3
    clear hg hx
    go_wp2_with fail
    go_ret
    exact ⟨N, ret_put E.out, by rw [E.out]; exact PO.out, TExt.refl _ _, KP.out⟩

section
variable {tb : Nat} {N : Nat → Option Nat} {S : List (Nat × Value)} {most : Int} {g : Nat} {lb : Array Value} {cont : List Itm → Bool} {Inv : (Nat → Prop) → List Itm → World → Prop}

/-- what is asked of the function that is called at each. -/
structure EachOkB (tb : Nat) (N : Nat → Option Nat) (S : List (Nat × Value)) (most : Int) (g : Nat) (lb : Array Value) (cont : List Itm → Bool) (Inv : (Nat → Prop) → List Itm → World → Prop) : Prop where
  ent : ∀ args w, (callFunc g args).run Try.prog w = .ok (.enter g args) w
  stab : ∀ P P' L W W', Inv P L W → Below W.heap.size W W' → (∀ b, P' b → P b ∨ (W.heap.size ≤ b ∧ b < W'.heap.size)) → Inv P' L W'
  tri : ∀ P L W, Inv P L W → TrB W tb N S most
  call : ∀ P L W (A i : Nat) v, Inv P L W → A < 4294967296 → rightB A i = true → getL S (keyN A i) = some v →
    Calls Try.prog g (#[.agg #[.int .u32 A, .int .i64 i], v] ++ lb) W fun e w' => e = .returned (.bool (cont (L ++ [((A, i), v)]))) ∧ Inv P (L ++ [((A, i), v)]) w' ∧ Kept (fun b => ¬ P b) W w'

set_option maxHeartbeats 1600000 in
set_option maxRecDepth 100000 in
theorem walk_nilB (E : EachOkB tb N S most g lb cont Inv) (d A i : Nat) (L : List Itm) (P : Nat → Prop) (w : World) (hi : i + d = 32) (hr : A % 2 ^ (32 - i) = 0) (hI : Inv P L w) (hn : N (keyN A i) = none) :
    Calls Try.prog 52 #[.pointer none, .agg #[.int .u32 A, .int .i64 i], .func (.func g) #[] lb] w (WalkPost cont Inv P w (runL cont L (goP S d A i))) := by
  have G := Lib.hid (show runL cont L (goP S d A i) = (L, true) by rw [goP_none (E.tri _ _ _ hI) d A i hi hr hn]; rfl)
  have HB : ∀ o, Below w.heap.size w (w.alloc o) := fun o => (Below.refl _ _).alloc (Nat.le_refl _) _
  have I2 := Lib.hid (fun o => E.stab P P L w (w.alloc o) hI (HB o) (fun b h => .inl h))
  clear hn hI
  go_enter Try.func52, Try.ntmps52
  go_wp2_with fail
  go_ret
  exact WalkPost.of G.out (I2.out _) (Kept.of_below (HB _))

theorem WSt.belowB (E : EachOkB tb N S most g lb cont Inv) {P : Nat → Prop} {w W W' : World} {A i : Nat} {L : List Itm} (h : WSt Inv P w A i L W) (hb : Below W.heap.size W W') : WSt Inv P w A i L W' :=
  ⟨E.stab _ _ _ _ _ h.1 hb (fun _ h => .inl h), cell_below h.2.1 hb, cell_below h.2.2.1 hb, h.2.2.2.grow hb⟩

theorem WSt.doneB (E : EachOkB tb N S most g lb cont Inv) {P : Nat → Prop} {w W : World} {A i : Nat} {L : List Itm} {r : List Itm × Bool} {c : Bool} (h : WSt Inv P w A i L W) (hr : r = (L, c)) : WalkPost cont Inv P w r (.returned (.bool c)) W :=
  WalkPost.of hr (E.stab _ _ _ _ _ h.1 (Below.refl _ _) (fun _ h => .inl (.inl h))) h.2.2.2

set_option maxHeartbeats 3200000 in
set_option maxRecDepth 100000 in
theorem walk_0B (E : EachOkB tb N S most g lb cont Inv) (A i : Nat) (h32 : i = 32) (L : List Itm) (P : Nat → Prop) (w : World) (ha : A < 4294967296) (hR : rightB A i = true) (hI : Inv P L w) {b : Nat} (hn : N (keyN A i) = some b) :
    Calls Try.prog 52 #[.pointer (some ⟨b, 0, none⟩), .agg #[.int .u32 A, .int .i64 i], .func (.func g) #[] lb] w (WalkPost cont Inv P w (runL cont L (goP S 0 A i))) := by
  have HF := Lib.hid (fun t W => half_32 A i h32 t ha W)
  clear h32
  have eg := E.ent
  have HN := Lib.hid hn
  have HI := Lib.hid hI
  have EE := Lib.hid E
  have HR := Lib.hid hR
  clear hn hI E
  cases hg : getL S (keyN A i) with
  | none =>
    have G := Lib.hid (hereP_no hg)
    have HG := Lib.hid hg
    clear hg
    go_enter Try.func52, Try.ntmps52
    go_wp2_with fail
    obtain ⟨W0, hW0, c0, c1, hB⟩ := box2 w (.int .u32 A) (.int .i64 i) 31
    have hz : W0.heap.size = w.heap.size + 1 := by rw [hW0]; simp
    rw [← hW0]; clear hW0
    have S0 : Hid (WSt Inv P w A i L W0) := Lib.hid ⟨EE.out.stab _ _ _ _ _ HI.out hB (fun b h => h.imp_right (fun e => by omega)), c0, c1, Kept.of_below hB⟩
    clear hz
    obtain ⟨_, _, d2, _⟩ := (EE.out.tri _ _ _ S0.out.1).ncells HN.out
    rw [HG.out] at d2
    replace d2 : W0.cell? ⟨b, 2, none⟩ = some (.bool false) := d2
    go_quiet (fail)
    obtain ⟨Wc, hWc⟩ : ∃ Wc, Wc = W0.drewN nq := ⟨_, rfl⟩
    have SC : Hid (WSt Inv P w A i L Wc) := Lib.hid (by rw [hWc]; exact S0.out.belowB EE.out (below_drewN (Below.refl _ _) nq))
    rw [← hWc]
    clear hWc S0 d2 c0 c1 hB
    obtain ⟨L1, hL1⟩ : ∃ L1, L1 = L := ⟨_, rfl⟩
    have GR : Hid (∀ xs, runL cont L (hereP S A i ++ xs) = runL cont L1 xs) := Lib.hid (fun xs => by rw [G.out, hL1]; rfl)
    rw [← hL1] at SC
    clear hL1
    go_wp2_with fail
    refine wp_loop_rounds 3 ?_
    rw [rounds_succ]
    have c0 := SC.out.2.1
    have c1 := SC.out.2.2.1
    go_wp2_with fail
    refine (HF.out 0 _).mono ?_
    rintro e w3 ⟨rfl, hb⟩
    have SC := Lib.hid (SC.out.belowB EE.out hb)
    clear hb c0 c1
    go_wp2_with fail
    obtain ⟨W4, hW4, h0, h1, hb4⟩ := box2 w3 (.int .u32 0) (.int .i64 0) 31
    rw [← hW4]; clear hW4
    have SC := Lib.hid (SC.out.belowB EE.out hb4)
    clear hb4 h0 h1
    go_quiet (fail)
    obtain ⟨W5, hW5⟩ : ∃ W5, W5 = W4.drewN nq := ⟨_, rfl⟩
    have SC : Hid (WSt Inv P w A i L1 W5) := Lib.hid (by rw [hW5]; exact SC.out.belowB EE.out (below_drewN (Below.refl _ _) nq))
    rw [← hW5]
    clear hW5
    go_wp2_with fail
    rw [rounds_succ]
    have c0 := SC.out.2.1
    have c1 := SC.out.2.2.1
    go_wp2_with fail
    refine (HF.out 1 _).mono ?_
    rintro e w3 ⟨rfl, hb⟩
    have SC := Lib.hid (SC.out.belowB EE.out hb)
    clear hb c0 c1
    go_wp2_with fail
    obtain ⟨W4, hW4, h0, h1, hb4⟩ := box2 w3 (.int .u32 0) (.int .i64 0) 31
    rw [← hW4]; clear hW4
    have SC := Lib.hid (SC.out.belowB EE.out hb4)
    clear hb4 h0 h1
    go_quiet (fail)
    obtain ⟨W5, hW5⟩ : ∃ W5, W5 = W4.drewN nq := ⟨_, rfl⟩
    have SC : Hid (WSt Inv P w A i L1 W5) := Lib.hid (by rw [hW5]; exact SC.out.belowB EE.out (below_drewN (Below.refl _ _) nq))
    rw [← hW5]
    clear hW5
    go_wp2_with fail
    rw [rounds_succ]
    go_wp2_with fail
    go_ret
    exact SC.out.doneB EE.out (by rw [show goP S 0 A i = hereP S A i ++ [] by rw [List.append_nil]; rfl, GR.out]; rfl)
  | some v =>
    have G := Lib.hid (hereP_yes hg)
    have HG := Lib.hid hg
    clear hg
    have EC := Lib.hid (fun W (h : WSt Inv P w A i L W) => EE.out.call _ L W A i v h.1 ha HR.out HG.out)
    generalize hcc : cont (L ++ [((A, i), v)]) = cc at EC
    go_enter Try.func52, Try.ntmps52
    go_wp2_with fail
    obtain ⟨W0, hW0, c0, c1, hB⟩ := box2 w (.int .u32 A) (.int .i64 i) 31
    have hz : W0.heap.size = w.heap.size + 1 := by rw [hW0]; simp
    rw [← hW0]; clear hW0
    have S0 : Hid (WSt Inv P w A i L W0) := Lib.hid ⟨EE.out.stab _ _ _ _ _ HI.out hB (fun b h => h.imp_right (fun e => by omega)), c0, c1, Kept.of_below hB⟩
    clear hz
    obtain ⟨_, _, d2, d3⟩ := (EE.out.tri _ _ _ S0.out.1).ncells HN.out
    rw [HG.out] at d2 d3
    replace d2 : W0.cell? ⟨b, 2, none⟩ = some (.bool true) := d2
    replace d3 : W0.cell? ⟨b, 3, none⟩ = some v := d3
    refine reg_tail 11 (by kernel_rfl) (by kernel_rfl) ?_
    simp only [List.take_succ_cons, List.take_zero, List.drop_succ_cons, List.drop_zero]
    repeat still_step
    refine wpStill_nil ?_
    go_wp2_with fail
    refine (EC.out _ (S0.out.belowB EE.out (Below.refl _ _).drew)).mono ?_
    rintro e Wc ⟨rfl, I1, K1⟩
    have SC : Hid (WSt Inv P w A i (L ++ [((A, i), v)]) Wc) := Lib.hid ((S0.out.belowB EE.out (Below.refl _ _).drew).step I1 K1)
    clear I1 K1 S0 d2 d3 c0 c1 hB EC
    cases hcc2 : cc
    · have GF : Hid (∀ xs, runL cont L (hereP S A i ++ xs) = (L ++ [((A, i), v)], false)) := Lib.hid (fun xs => by
        rw [G.out]
        simp only [List.cons_append, List.nil_append, runL]
        rw [hcc, hcc2]; exact if_neg (by decide))
      clear hcc hcc2
      go_wp2_with fail
      go_ret
      exact SC.out.doneB EE.out (by rw [show goP S 0 A i = hereP S A i ++ [] by rw [List.append_nil]; rfl]; exact GF.out _)
    · have GR : Hid (∀ xs, runL cont L (hereP S A i ++ xs) = runL cont (L ++ [((A, i), v)]) xs) := Lib.hid (fun xs => by
        rw [G.out]
        simp only [List.cons_append, List.nil_append, runL]
        rw [hcc, hcc2]; exact if_pos rfl)
      clear hcc hcc2
      generalize L ++ [((A, i), v)] = L1 at SC GR
      go_wp2_with fail
      refine wp_loop_rounds 3 ?_
      rw [rounds_succ]
      have c0 := SC.out.2.1
      have c1 := SC.out.2.2.1
      go_wp2_with fail
      refine (HF.out 0 _).mono ?_
      rintro e w3 ⟨rfl, hb⟩
      have SC := Lib.hid (SC.out.belowB EE.out hb)
      clear hb c0 c1
      go_wp2_with fail
      obtain ⟨W4, hW4, h0, h1, hb4⟩ := box2 w3 (.int .u32 0) (.int .i64 0) 31
      rw [← hW4]; clear hW4
      have SC := Lib.hid (SC.out.belowB EE.out hb4)
      clear hb4 h0 h1
      go_quiet (fail)
      obtain ⟨W5, hW5⟩ : ∃ W5, W5 = W4.drewN nq := ⟨_, rfl⟩
      have SC : Hid (WSt Inv P w A i L1 W5) := Lib.hid (by rw [hW5]; exact SC.out.belowB EE.out (below_drewN (Below.refl _ _) nq))
      rw [← hW5]
      clear hW5
      go_wp2_with fail
      rw [rounds_succ]
      have c0 := SC.out.2.1
      have c1 := SC.out.2.2.1
      go_wp2_with fail
      refine (HF.out 1 _).mono ?_
      rintro e w3 ⟨rfl, hb⟩
      have SC := Lib.hid (SC.out.belowB EE.out hb)
      clear hb c0 c1
      go_wp2_with fail
      obtain ⟨W4, hW4, h0, h1, hb4⟩ := box2 w3 (.int .u32 0) (.int .i64 0) 31
      rw [← hW4]; clear hW4
      have SC := Lib.hid (SC.out.belowB EE.out hb4)
      clear hb4 h0 h1
      go_quiet (fail)
      obtain ⟨W5, hW5⟩ : ∃ W5, W5 = W4.drewN nq := ⟨_, rfl⟩
      have SC : Hid (WSt Inv P w A i L1 W5) := Lib.hid (by rw [hW5]; exact SC.out.belowB EE.out (below_drewN (Below.refl _ _) nq))
      rw [← hW5]
      clear hW5
      go_wp2_with fail
      rw [rounds_succ]
      go_wp2_with fail
      go_ret
      exact SC.out.doneB EE.out (by rw [show goP S 0 A i = hereP S A i ++ [] by rw [List.append_nil]; rfl, GR.out]; rfl)

set_option maxHeartbeats 3200000 in
set_option maxRecDepth 100000 in
theorem walk_SB (E : EachOkB tb N S most g lb cont Inv) (d A i : Nat) (hi : i + (d + 1) = 32) (IH : ∀ (A i : Nat) (L : List Itm) (P : Nat → Prop) (w : World), i + d = 32 → A < 4294967296 → rightB A i = true → Inv P L w → Calls Try.prog 52 #[ptrN (N (keyN A i)), .agg #[.int .u32 A, .int .i64 i], .func (.func g) #[] lb] w (WalkPost cont Inv P w (runL cont L (goP S d A i)))) (L : List Itm) (P : Nat → Prop) (w : World) (ha : A < 4294967296) (hR : rightB A i = true) (hI : Inv P L w) {b : Nat} (hn : N (keyN A i) = some b) :
    Calls Try.prog 52 #[.pointer (some ⟨b, 0, none⟩), .agg #[.int .u32 A, .int .i64 i], .func (.func g) #[] lb] w (WalkPost cont Inv P w (runL cont L (goP S (d + 1) A i))) := by
  have hm := (right_mod.1 hR).1
  have GO := Lib.hid (show goP S (d + 1) A i = hereP S A i ++ (goP S d A (i + 1) ++ goP S d (A + 2 ^ (31 - i)) (i + 1)) from rfl)
  have HF0 : Hid (∀ W, Calls Try.prog 53 #[.agg #[.int .u32 A, .int .i64 i], .int .i64 0] W fun e w' => e = .returned (.tuple #[.agg #[.int .u32 A, .int .i64 ((i : Int) + 1)], .int .i64 0]) ∧ Below W.heap.size W w') := Lib.hid (half_0 A i ha (by omega) hR)
  have HF1 := Lib.hid (half_1 A i ha (by omega) hR)
  have KL := Lib.hid (key_left (show i < 32 by omega) hm)
  have KR := Lib.hid (key_right (show i < 32 by omega) hm)
  have IH0 : Hid (∀ L P w, Inv P L w → Calls Try.prog 52 #[ptrN (N (keyN A (i + 1))), .agg #[.int .u32 A, .int .i64 ((i : Int) + 1)], .func (.func g) #[] lb] w (WalkPost cont Inv P w (runL cont L (goP S d A (i + 1))))) := Lib.hid (fun L P w h => IH A (i + 1) L P w (by omega) ha (right_mod.2 ⟨mod_left (by omega) hm, by omega⟩) h)
  have IH1 := Lib.hid (fun L P w h => IH (A + 2 ^ (31 - i)) (i + 1) L P w (by omega) (lt_right (by omega) ha hm) (right_mod.2 ⟨mod_right (by omega) hm, by omega⟩) h)
  generalize A + 2 ^ (31 - i) = B at GO HF1 KR IH1
  have HF1 : Hid (∀ W, Calls Try.prog 53 #[.agg #[.int .u32 A, .int .i64 i], .int .i64 1] W fun e w' => e = .returned (.tuple #[.agg #[.int .u32 B, .int .i64 ((i : Int) + 1)], .int .i64 0]) ∧ Below W.heap.size W w') := Lib.hid HF1.out
  have IH1 : Hid (∀ L P w, Inv P L w → Calls Try.prog 52 #[ptrN (N (keyN B (i + 1))), .agg #[.int .u32 B, .int .i64 ((i : Int) + 1)], .func (.func g) #[] lb] w (WalkPost cont Inv P w (runL cont L (goP S d B (i + 1))))) := Lib.hid IH1.out
  clear IH hm
  have eg := E.ent
  have HN := Lib.hid hn
  have HI := Lib.hid hI
  have EE := Lib.hid E
  have HR := Lib.hid hR
  clear hn hI E
  cases hg : getL S (keyN A i) with
  | none =>
    have G := Lib.hid (hereP_no hg)
    have HG := Lib.hid hg
    clear hg
    go_enter Try.func52, Try.ntmps52
    go_wp2_with fail
    obtain ⟨W0, hW0, c0, c1, hB⟩ := box2 w (.int .u32 A) (.int .i64 i) 31
    have hz : W0.heap.size = w.heap.size + 1 := by rw [hW0]; simp
    rw [← hW0]; clear hW0
    have S0 : Hid (WSt Inv P w A i L W0) := Lib.hid ⟨EE.out.stab _ _ _ _ _ HI.out hB (fun b h => h.imp_right (fun e => by omega)), c0, c1, Kept.of_below hB⟩
    clear hz
    obtain ⟨_, _, d2, _⟩ := (EE.out.tri _ _ _ S0.out.1).ncells HN.out
    rw [HG.out] at d2
    replace d2 : W0.cell? ⟨b, 2, none⟩ = some (.bool false) := d2
    go_quiet (fail)
    obtain ⟨Wc, hWc⟩ : ∃ Wc, Wc = W0.drewN nq := ⟨_, rfl⟩
    have SC : Hid (WSt Inv P w A i L Wc) := Lib.hid (by rw [hWc]; exact S0.out.belowB EE.out (below_drewN (Below.refl _ _) nq))
    rw [← hWc]
    clear hWc S0 d2 c0 c1 hB
    obtain ⟨L1, hL1⟩ : ∃ L1, L1 = L := ⟨_, rfl⟩
    have GR : Hid (∀ xs, runL cont L (hereP S A i ++ xs) = runL cont L1 xs) := Lib.hid (fun xs => by rw [G.out, hL1]; rfl)
    rw [← hL1] at SC
    clear hL1
    go_wp2_with fail
    refine wp_loop_rounds 3 ?_
    rw [rounds_succ]
    have c0 := SC.out.2.1
    have c1 := SC.out.2.2.1
    go_wp2_with fail
    refine (HF0.out _).mono ?_
    rintro e w3 ⟨rfl, hb⟩
    have SC := Lib.hid (SC.out.belowB EE.out hb)
    clear hb c0 c1
    go_wp2_with fail
    obtain ⟨W4, hW4, h0, h1, hb4⟩ := box2 w3 (.int .u32 A) (.int .i64 ((i : Int) + 1)) 31
    rw [← hW4]; clear hW4
    have SC := Lib.hid (SC.out.belowB EE.out hb4)
    clear hb4
    obtain ⟨q0, q1, _, _⟩ := (EE.out.tri _ _ _ SC.out.1).ncells HN.out
    rw [← KL.out] at q0
    rw [← KR.out] at q1
    refine reg_tail 11 (by kernel_rfl) (by kernel_rfl) ?_
    simp only [List.take_succ_cons, List.take_zero, List.drop_succ_cons, List.drop_zero]
    repeat still_step
    refine wpStill_nil ?_
    go_wp2_with fail
    have SD := Lib.hid (SC.out.belowB EE.out (Below.refl _ _).drew)
    refine (IH0.out _ _ _ SD.out.1).mono ?_
    rintro e w5 ⟨rfl, I5, K5⟩
    have SC := Lib.hid (SD.out.step I5 K5)
    clear I5 K5 SD q0 q1 h0 h1
    obtain ⟨⟨L2, c2⟩, h2⟩ : ∃ r, r = runL cont L1 (goP S d A (i + 1)) := ⟨_, rfl⟩
    rw [← h2] at SC ⊢
    have H2 := Lib.hid h2
    clear h2
    cases c2
    · go_wp2_with fail
      go_ret
      exact SC.out.doneB EE.out (by rw [GO.out, GR.out, runL_append, ← H2.out]; rfl)
    go_wp2_with fail
    rw [rounds_succ]
    have c0 := SC.out.2.1
    have c1 := SC.out.2.2.1
    go_wp2_with fail
    refine (HF1.out _).mono ?_
    rintro e w3 ⟨rfl, hb⟩
    have SC := Lib.hid (SC.out.belowB EE.out hb)
    clear hb c0 c1
    go_wp2_with fail
    obtain ⟨W4, hW4, h0, h1, hb4⟩ := box2 w3 (.int .u32 B) (.int .i64 ((i : Int) + 1)) 31
    rw [← hW4]; clear hW4
    have SC := Lib.hid (SC.out.belowB EE.out hb4)
    clear hb4
    obtain ⟨q0, q1, _, _⟩ := (EE.out.tri _ _ _ SC.out.1).ncells HN.out
    rw [← KL.out] at q0
    rw [← KR.out] at q1
    refine reg_tail 11 (by kernel_rfl) (by kernel_rfl) ?_
    simp only [List.take_succ_cons, List.take_zero, List.drop_succ_cons, List.drop_zero]
    repeat still_step
    refine wpStill_nil ?_
    go_wp2_with fail
    have SD := Lib.hid (SC.out.belowB EE.out (Below.refl _ _).drew)
    refine (IH1.out _ _ _ SD.out.1).mono ?_
    rintro e w5 ⟨rfl, I5, K5⟩
    have SC := Lib.hid (SD.out.step I5 K5)
    clear I5 K5 SD q0 q1 h0 h1
    obtain ⟨⟨L3, c3⟩, h3⟩ : ∃ r, r = runL cont L2 (goP S d B (i + 1)) := ⟨_, rfl⟩
    rw [← h3] at SC ⊢
    have H3 := Lib.hid h3
    clear h3
    cases c3
    · go_wp2_with fail
      go_ret
      exact SC.out.doneB EE.out (by rw [GO.out, GR.out, runL_append, ← H2.out]; exact H3.out.symm)
    go_wp2_with fail
    rw [rounds_succ]
    go_wp2_with fail
    go_ret
    exact SC.out.doneB EE.out (by rw [GO.out, GR.out, runL_append, ← H2.out]; exact H3.out.symm)
  | some v =>
    have G := Lib.hid (hereP_yes hg)
    have HG := Lib.hid hg
    clear hg
    have EC := Lib.hid (fun W (h : WSt Inv P w A i L W) => EE.out.call _ L W A i v h.1 ha HR.out HG.out)
    generalize hcc : cont (L ++ [((A, i), v)]) = cc at EC
    go_enter Try.func52, Try.ntmps52
    go_wp2_with fail
    obtain ⟨W0, hW0, c0, c1, hB⟩ := box2 w (.int .u32 A) (.int .i64 i) 31
    have hz : W0.heap.size = w.heap.size + 1 := by rw [hW0]; simp
    rw [← hW0]; clear hW0
    have S0 : Hid (WSt Inv P w A i L W0) := Lib.hid ⟨EE.out.stab _ _ _ _ _ HI.out hB (fun b h => h.imp_right (fun e => by omega)), c0, c1, Kept.of_below hB⟩
    clear hz
    obtain ⟨_, _, d2, d3⟩ := (EE.out.tri _ _ _ S0.out.1).ncells HN.out
    rw [HG.out] at d2 d3
    replace d2 : W0.cell? ⟨b, 2, none⟩ = some (.bool true) := d2
    replace d3 : W0.cell? ⟨b, 3, none⟩ = some v := d3
    refine reg_tail 11 (by kernel_rfl) (by kernel_rfl) ?_
    simp only [List.take_succ_cons, List.take_zero, List.drop_succ_cons, List.drop_zero]
    repeat still_step
    refine wpStill_nil ?_
    go_wp2_with fail
    refine (EC.out _ (S0.out.belowB EE.out (Below.refl _ _).drew)).mono ?_
    rintro e Wc ⟨rfl, I1, K1⟩
    have SC : Hid (WSt Inv P w A i (L ++ [((A, i), v)]) Wc) := Lib.hid ((S0.out.belowB EE.out (Below.refl _ _).drew).step I1 K1)
    clear I1 K1 S0 d2 d3 c0 c1 hB EC
    cases hcc2 : cc
    · have GF : Hid (∀ xs, runL cont L (hereP S A i ++ xs) = (L ++ [((A, i), v)], false)) := Lib.hid (fun xs => by
        rw [G.out]
        simp only [List.cons_append, List.nil_append, runL]
        rw [hcc, hcc2]; exact if_neg (by decide))
      clear hcc hcc2
      go_wp2_with fail
      go_ret
      exact SC.out.doneB EE.out (by rw [GO.out]; exact GF.out _)
    · have GR : Hid (∀ xs, runL cont L (hereP S A i ++ xs) = runL cont (L ++ [((A, i), v)]) xs) := Lib.hid (fun xs => by
        rw [G.out]
        simp only [List.cons_append, List.nil_append, runL]
        rw [hcc, hcc2]; exact if_pos rfl)
      clear hcc hcc2
      generalize L ++ [((A, i), v)] = L1 at SC GR
      go_wp2_with fail
      refine wp_loop_rounds 3 ?_
      rw [rounds_succ]
      have c0 := SC.out.2.1
      have c1 := SC.out.2.2.1
      go_wp2_with fail
      refine (HF0.out _).mono ?_
      rintro e w3 ⟨rfl, hb⟩
      have SC := Lib.hid (SC.out.belowB EE.out hb)
      clear hb c0 c1
      go_wp2_with fail
      obtain ⟨W4, hW4, h0, h1, hb4⟩ := box2 w3 (.int .u32 A) (.int .i64 ((i : Int) + 1)) 31
      rw [← hW4]; clear hW4
      have SC := Lib.hid (SC.out.belowB EE.out hb4)
      clear hb4
      obtain ⟨q0, q1, _, _⟩ := (EE.out.tri _ _ _ SC.out.1).ncells HN.out
      rw [← KL.out] at q0
      rw [← KR.out] at q1
      refine reg_tail 11 (by kernel_rfl) (by kernel_rfl) ?_
      simp only [List.take_succ_cons, List.take_zero, List.drop_succ_cons, List.drop_zero]
      repeat still_step
      refine wpStill_nil ?_
      go_wp2_with fail
      have SD := Lib.hid (SC.out.belowB EE.out (Below.refl _ _).drew)
      refine (IH0.out _ _ _ SD.out.1).mono ?_
      rintro e w5 ⟨rfl, I5, K5⟩
      have SC := Lib.hid (SD.out.step I5 K5)
      clear I5 K5 SD q0 q1 h0 h1
      obtain ⟨⟨L2, c2⟩, h2⟩ : ∃ r, r = runL cont L1 (goP S d A (i + 1)) := ⟨_, rfl⟩
      rw [← h2] at SC ⊢
      have H2 := Lib.hid h2
      clear h2
      cases c2
      · go_wp2_with fail
        go_ret
        exact SC.out.doneB EE.out (by rw [GO.out, GR.out, runL_append, ← H2.out]; rfl)
      go_wp2_with fail
      rw [rounds_succ]
      have c0 := SC.out.2.1
      have c1 := SC.out.2.2.1
      go_wp2_with fail
      refine (HF1.out _).mono ?_
      rintro e w3 ⟨rfl, hb⟩
      have SC := Lib.hid (SC.out.belowB EE.out hb)
      clear hb c0 c1
      go_wp2_with fail
      obtain ⟨W4, hW4, h0, h1, hb4⟩ := box2 w3 (.int .u32 B) (.int .i64 ((i : Int) + 1)) 31
      rw [← hW4]; clear hW4
      have SC := Lib.hid (SC.out.belowB EE.out hb4)
      clear hb4
      obtain ⟨q0, q1, _, _⟩ := (EE.out.tri _ _ _ SC.out.1).ncells HN.out
      rw [← KL.out] at q0
      rw [← KR.out] at q1
      refine reg_tail 11 (by kernel_rfl) (by kernel_rfl) ?_
      simp only [List.take_succ_cons, List.take_zero, List.drop_succ_cons, List.drop_zero]
      repeat still_step
      refine wpStill_nil ?_
      go_wp2_with fail
      have SD := Lib.hid (SC.out.belowB EE.out (Below.refl _ _).drew)
      refine (IH1.out _ _ _ SD.out.1).mono ?_
      rintro e w5 ⟨rfl, I5, K5⟩
      have SC := Lib.hid (SD.out.step I5 K5)
      clear I5 K5 SD q0 q1 h0 h1
      obtain ⟨⟨L3, c3⟩, h3⟩ : ∃ r, r = runL cont L2 (goP S d B (i + 1)) := ⟨_, rfl⟩
      rw [← h3] at SC ⊢
      have H3 := Lib.hid h3
      clear h3
      cases c3
      · go_wp2_with fail
        go_ret
        exact SC.out.doneB EE.out (by rw [GO.out, GR.out, runL_append, ← H2.out]; exact H3.out.symm)
      go_wp2_with fail
      rw [rounds_succ]
      go_wp2_with fail
      go_ret
      exact SC.out.doneB EE.out (by rw [GO.out, GR.out, runL_append, ← H2.out]; exact H3.out.symm)

theorem trB_walk (E : EachOkB tb N S most g lb cont Inv) : ∀ (d A i : Nat) (L : List Itm) (P : Nat → Prop) (w : World), i + d = 32 → A < 4294967296 → rightB A i = true → Inv P L w →
    Calls Try.prog 52 #[ptrN (N (keyN A i)), .agg #[.int .u32 A, .int .i64 i], .func (.func g) #[] lb] w (WalkPost cont Inv P w (runL cont L (goP S d A i)))
  | 0, A, i, L, P, w, hi, ha, hR, hI => by
    obtain rfl : i = 32 := by omega
    cases hn : N (keyN A 32) with
    | none => exact walk_nilB E 0 A 32 L P w rfl (right_mod.1 hR).1 hI hn
    | some b => exact walk_0B E A 32 rfl L P w ha hR hI hn
  | d + 1, A, i, L, P, w, hi, ha, hR, hI => by
    cases hn : N (keyN A i) with
    | none => exact walk_nilB E (d + 1) A i L P w hi (right_mod.1 hR).1 hI hn
    | some b => exact walk_SB E d A i hi (trB_walk E d) L P w ha hR hI hn

theorem neq_funcB (g : Nat) (lb : Array Value) (w : World) : (binOp .neq 33 (.func (.func g) #[] lb) .nilFunc).run Try.prog w = .ok (.bool true) w := by
  first | rfl | kernel_rfl | simp [binOp, go_sem]

set_option maxHeartbeats 1600000 in
set_option maxRecDepth 100000 in
theorem trB_Below (E : EachOkB tb N S most g lb cont Inv) (A i : Nat) (L : List Itm) (P : Nat → Prop) (w : World) (ha : A < 4294967296) (hR : rightB A i = true) (hI : Inv P L w) :
    Calls Try.prog 41 #[.pointer (some ⟨tb, 0, none⟩), .agg #[.int .u32 A, .int .i64 i], .func (.func g) #[] lb] w (BelowPost Inv P w (runL cont L (goP S (32 - i) A i)).1) := by
  have hi := (right_mod.1 hR).2
  have EE := Lib.hid E
  have HI := Lib.hid hI
  have FD := Lib.hid (fun W h => trB_find (tb := tb) (N := N) (S := S) (most := most) A i W h ha hR)
  have WK := Lib.hid (fun P L W h => trB_walk E (32 - i) A i L P W (by omega) ha hR h)
  clear E hI
  have nf := fun W => neq_funcB g lb W
  go_enter Try.func41, Try.ntmps41
  go_wp2_with fail
  obtain ⟨W0, hW0, c0, c1, hB⟩ := box2 w (.int .u32 A) (.int .i64 i) 31
  have hz : W0.heap.size = w.heap.size + 1 := by rw [hW0]; simp
  rw [← hW0]; clear hW0
  have S0 : Hid (WSt Inv P w A i L W0) := Lib.hid ⟨EE.out.stab _ _ _ _ _ HI.out hB (fun b h => h.imp_right (fun e => by omega)), c0, c1, Kept.of_below hB⟩
  clear hz
  have SD : Hid (WSt Inv P w A i L W0.drew) := Lib.hid (S0.out.belowB EE.out (Below.refl _ _).drew)
  go_region_with (first
    | (go_at_call 39; refine (FD.out _ (EE.out.tri _ _ _ SD.out.1)).mono ?_; rintro e w1 ⟨rfl, hb⟩; have S1 := Lib.hid (SD.out.belowB EE.out hb); have c0 := S1.out.2.1; have c1 := S1.out.2.2.1)
    | (go_at_call 52; refine (WK.out _ _ _ S1.out.1).mono ?_; rintro e w2 ⟨rfl, I2, K2⟩; have SE := Lib.hid (S1.out.step I2 K2)))
  all_goals
    go_wp2_with fail
    go_end0
    exact ⟨rfl, EE.out.stab _ _ _ _ _ SE.out.1 (Below.refl _ _) (fun _ h => .inl (.inl h)), SE.out.2.2.2⟩

set_option maxHeartbeats 1600000 in
set_option maxRecDepth 100000 in
theorem trB_All (E : EachOkB tb N S most g lb cont Inv) (L : List Itm) (P : Nat → Prop) (w : World) (hI : Inv P L w) :
    Calls Try.prog 11 #[.pointer (some ⟨tb, 0, none⟩), .func (.func g) #[] lb] w (BelowPost Inv P w (runL cont L (goP S 32 0 0)).1) := by
  have BL := Lib.hid (trB_Below E 0 0 L P w (by decide) (by decide +kernel) hI)
  go_enter Try.func11, Try.ntmps11
  go_wp2_with fail
  refine BL.out.mono ?_
  rintro e w1 ⟨rfl, I1, K1⟩
  have J1 := Lib.hid (And.intro I1 K1)
  clear I1 K1
  go_wp2_with fail
  go_end0
  exact ⟨rfl, J1.out.1, J1.out.2⟩

end
section
variable {w W W' : World} {tb : Nat} {N N' : Nat → Option Nat} {S : List (Nat × Value)} {most : Int}

/-- a trie of the call's own. -/
structure LStB (w W : World) (tb : Nat) (N : Nat → Option Nat) (S : List (Nat × Value)) (most : Int) : Prop where
  tri : TrB W tb N S most
  own : ∀ b, TOwn tb N b → w.heap.size ≤ b
  bel : Below w.heap.size w W

theorem LStB.below (h : LStB w W tb N S most) (hb : Below W.heap.size W W') : LStB w W' tb N S most := ⟨h.tri.below hb, h.own, below_on h.bel hb⟩

theorem LStB.made (hB : Below w.heap.size w W) (h : TrB W' W.heap.size (fun _ => none) [] most) (hb : Below W.heap.size W W') : LStB w W' W.heap.size (fun _ => none) [] most :=
  ⟨h, fun b hb' => (by
    rcases hb' with rfl | ⟨k, hk⟩
    · exact hB.size
    · cases hk), below_on hB hb⟩

theorem LStB.kept {S' : List (Nat × Value)} (h : LStB w W tb N S most) (ht : TrB W' tb N' S' most) (hx : ∀ k b, N' k = some b → N k = some b ∨ W.heap.size ≤ b) (hk : Kept (TOwn tb N) W W') : LStB w W' tb N' S' most :=
  ⟨ht, fun b hb => by
    rcases hb with rfl | ⟨k, hk'⟩
    · exact h.own _ (.inl rfl)
    · rcases hx k b hk' with h1 | h1
      · exact h.own _ (.inr ⟨k, h1⟩)
      · exact Nat.le_trans h.bel.size h1,
   h.bel.trans (hk.below h.bel.size h.own)⟩

theorem PutPostB.st {r : Int × List (Nat × Value)} {e : Ending} (h : LStB w W tb N S most) (hp : PutPostB tb N most W r e W') : ∃ N', e = .returned (.int .i64 r.1) ∧ LStB w W' tb N' r.2 most ∧ TExt N N' W.heap.size ∧ Kept (TOwn tb N) W W' := by
  obtain ⟨N', h1, h2, h3, h4⟩ := hp
  exact ⟨N', h1, h.kept h2 h3.2 h4, h3, h4⟩
end
end Go.Proofs.Ytnklhfdhaclfiaa
