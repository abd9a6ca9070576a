/-
  TrieRuns: whatever is put, dropped and asked for, the trie answers as the list does; for all steps; no condition.
-/
import Derived.Test.YtnklhfdhaclfiaaItW
namespace Go.Proofs.Ytnklhfdhaclfiaa
open Go.RowKit

theorem runs_drewN (W : World) (n : Nat) : Below W.heap.size W (W.drewN n) := ⟨rfl, rfl, rfl, Nat.le_refl _, fun _ _ => rfl⟩
theorem goB_top (S : List (Nat × Value)) : goB S ((0 : Nat), (0 : Int)) = goP S 32 0 0 := by
  have h : pRight ((0 : Nat), (0 : Int)) = true := by decide +kernel
  unfold goB
  rw [if_pos h]
  simp only [Int.toNat_zero, Nat.sub_zero]
theorem rowsOf_take (l : List It3) (j : Nat) : rowsOf (l.take j) = (rowsOf l).take (j * 3) := by
  induction l generalizing j with
  | nil => simp [rowsOf]
  | cons x l ih =>
    cases j with
    | zero => simp [rowsOf]
    | succ j =>
      have e : rowsOf (x :: l) = it3C x ++ rowsOf l := rfl
      have e2 : rowsOf (x :: l.take j) = it3C x ++ rowsOf (l.take j) := rfl
      rw [List.take_succ_cons, e, e2, ih, List.take_append]
      have : (it3C x).length = 3 := rfl
      rw [this, List.take_of_length_le (l := it3C x) (by rw [this]; omega)]
      congr 2
      omega
theorem runs_cut {W : World} {sa : Option Addr} {cap : Nat} {l : List It3} (h : ItsAt W (.slice sa l.length cap) l) (j : Nat) (hj : j ≤ l.length) : ItsAt W (.slice sa j cap) (l.take j) := by
  have hl : (l.take j).length = j := by rw [List.length_take]; omega
  obtain ⟨h1, h2⟩ := h
  unfold ItsAt OwnIts World.ownsRow
  rw [hl, rowsOf_take]
  refine ⟨by rw [List.length_take, h1]; omega, ?_⟩
  rcases h2 with ⟨h3, h4⟩ | ⟨g, cap', cur, h3, h4, h5, h6, h7, h8, h9⟩
  · injection h3 with e1 e2 e3
    obtain rfl : j = 0 := by omega
    exact .inl ⟨by rw [e1, e3], rfl⟩
  · injection h3 with e1 e2 e3
    refine .inr ⟨g, cap', cur, by rw [e1, e3], h4, h5, by omega, h7, h8, ?_⟩
    rw [← h9, List.take_take]
    congr 1
    omega

set_option maxHeartbeats 12800000 in
set_option maxRecDepth 100000 in
theorem law_runs (most : Int) (sa : Option Addr) (xs : List St) (cap : Nat) (w : World) (hm : xs.length ≤ maxLen) (hP : 0 < xs.length → ∃ b off : Nat, sa = some ⟨b, off, none⟩ ∧ StsIn w b off xs) :
    Calls Try.prog 6 #[.int .i64 most, .slice sa xs.length cap] w fun e w' => e = .returned (.bool true) ∧ Below w.heap.size w w' := by
  have HP := Lib.hid hP
  unfold maxLen at hm
  clear hP
  go_enter Try.func6, Try.ntmps6
  go_wp2_with fail
  refine (law_head _).mono ?_
  rintro e w1 ⟨rfl, hb⟩
  have B1 := Lib.hid hb
  clear hb
  go_wp2_with fail
  refine (trI_New most _).mono ?_
  rintro e w2 ⟨rfl, T, hb2⟩
  have X := Lib.hid (LSt.made (w := w) B1.out (show TrI w2 w1.heap.size (fun _ => none) [] (min (max most 0) 4096) from T) hb2)
  clear T hb2 B1
  generalize (fun _ => none : Nat → Option Nat) = N0 at X
  generalize w1.heap.size = tb at X ⊢
  go_upto_region 6 with (fail)
  have hroom : Hid (min (max most 0) 4096 ≤ 4096) := Lib.hid (by omega)
  generalize (min (max most 0) 4096 : Int) = room at X hroom ⊢
  obtain ⟨W3, hW3⟩ : ∃ W3, W3 = w2.alloc (.cells #[] 55) := ⟨_, rfl⟩
  have R3 : Hid (RSt w W3 tb N0 [] room (.slice (some ⟨w2.heap.size, 0, none⟩) 0 0) []) := Lib.hid (by
    rw [hW3]
    exact ⟨X.out.below ((Below.refl _ _).alloc (Nat.le_refl _) _), Rl.nil, OwnIts.at_ (own_none w2 _ (Nat.le_refl _))⟩)
  rw [← hW3]
  clear hW3 X
  obtain ⟨vo, hvo⟩ : ∃ vo : Value, vo = .slice (some ⟨w2.heap.size, 0, none⟩) 0 0 := ⟨_, rfl⟩
  rw [← hvo] at R3 ⊢
  clear hvo
  go_wp2_with fail
  go_loopw [7, 8] (fun all i wr => ∃ (k : Nat) (N : Nat → Option Nat) (S : List (Nat × Value)) (l : List It3), k ≤ xs.length ∧ k ≤ 60 ∧ i = .int .i64 k ∧ Hid (RSt w wr tb N S room all l) ∧ l.length ≤ k) (fun _ i _ => xs.length - (intOf i).toNat)
  case atStart => exact ⟨0, N0, [], [], by omega, by omega, rfl, R3, by simp⟩
  case round =>
    clear R3
    obtain ⟨k, N, S, l, hk, hk60, rfl, R, hl⟩ := hrel
    by_cases hlt : k < xs.length ∧ k < 60
    · obtain ⟨hlt, hlt60⟩ := hlt
      obtain ⟨b, off, hsa, hP⟩ := HP.out (by omega)
      subst hsa
      obtain ⟨s, hs⟩ : ∃ s, xs[k]? = some s := ⟨_, List.getElem?_eq_getElem hlt⟩
      obtain ⟨hok, d0, d1, d2, d3, d4⟩ := hP k s hs
      have d0 := (R.out.st.bel.cell (size_lt d0)).trans d0
      have d1 := (R.out.st.bel.cell (size_lt d1)).trans d1
      have d2 := (R.out.st.bel.cell (size_lt d2)).trans d2
      have d3 := (R.out.st.bel.cell (size_lt d3)).trans d3
      have d4 := (R.out.st.bel.cell (size_lt d4)).trans d4
      obtain ⟨sk, ⟨pa, pn⟩, sA, sv⟩ := s
      simp only at d0 d1 d2 d3 d4
      have OKs := Lib.hid hok
      have ha : pa < 4294967296 := hok.2.1.1
      have hA : sA < 4294967296 := hok.2.2.1
      have hl5 : l.length ≤ 100000 := by omega
      clear hP hs hok
      have i0 : (0 : Int) ≤ (k : Int) := by omega
      have i1 : (k : Int) < (xs.length : Int) := by omega
      have i2 : (k : Int) < 60 := by omega
      go_upto_region 10 with (fail)
      obtain ⟨W4, hW4, y0, y1, y2, y3, y4, hb4⟩ := box_5 wr (.int .i64 sk) (.int .u32 pa) (.int .i64 pn) (.int .u32 sA) (.int .i64 sv) 51
      rw [← hW4]; clear hW4
      have R4 := Lib.hid (R.out.below hb4)
      clear hb4 R d0 d1 d2 d3 d4
      by_cases k0 : sk = 0
      · as_aux_lemma =>
        subst k0
        have LE := refPut_le l room (pa, pn, sv)
        have RP := Lib.hid (fun W h => ref_Put u7 l room (pa, pn, sv) W h hl5 ha)
        have TP := Lib.hid (fun W h => trI_PutR (tb := tb) (N := N) (S := S) (l := l) (most := room) pa pn sv W h R4.out.rl hroom.out ha)
        generalize refPut l room (pa, pn, sv) = r at LE RP TP
        obtain ⟨l', c⟩ := r
        simp only at LE RP
        go_wp2_with fail
        refine (RP.out _ R4.out.its).mono ?_
        rintro e w5 ⟨v5, rfl, I5, hb5⟩
        have y1 := cell_below y1 hb5
        have y2 := cell_below y2 hb5
        have y4 := cell_below y4 hb5
        have L5 := Lib.hid (R4.out.st.below hb5)
        have I5 := Lib.hid I5
        clear hb5 y0 y3
        go_wp2_with fail
        refine (TP.out _ L5.out.tri).mono ?_
        intro e w6 hp
        obtain ⟨N9, S9, rfl, R8, _⟩ := RSt.put L5.out I5.out hp
        have R9 := Lib.hid R8
        clear R8 hp TP RP L5 I5 R4 y1 y2 y4
        simp only at R9
        obtain ⟨sa9, cap9, hv9, _⟩ := R9.out.its.view
        subst hv9
        go_wp2_with fail
        refine (trI_Len R9.out.st.tri).mono ?_
        rintro e w9 ⟨rfl, rfl⟩
        rw [R9.out.len]
        go_wp2_with fail
        exact ⟨⟨k + 1, N9, S9, _, by omega, by omega, by go_num, R9, by omega⟩, by simp [intOf]; omega⟩
      by_cases k1 : sk = 1
      · as_aux_lemma =>
        subst k1
        clear k0
        have LE := refDrop_le l pa pn
        have RP := Lib.hid (fun W h => ref_Drop u7 l pa pn W h hl5)
        have TP := Lib.hid (fun W h => trI_DropR (tb := tb) (N := N) (S := S) (l := l) (most := room) pa pn W h R4.out.rl (by rw [R4.out.len]; omega) ha)
        generalize refDrop l pa pn = r at LE RP TP
        obtain ⟨l', c⟩ := r
        simp only at LE RP
        go_wp2_with fail
        refine (RP.out _ R4.out.its).mono ?_
        rintro e w5 ⟨v5, rfl, I5, hb5⟩
        have y1 := cell_below y1 hb5
        have y2 := cell_below y2 hb5
        have L5 := Lib.hid (R4.out.st.below hb5)
        have I5 := Lib.hid I5
        clear hb5 y0 y3 y4
        go_wp2_with fail
        refine (TP.out _ L5.out.tri).mono ?_
        intro e w6 hp
        obtain ⟨N9, S9, rfl, R8, _⟩ := RSt.drop L5.out I5.out hp
        have R9 := Lib.hid R8
        clear R8 hp TP RP L5 I5 R4 y1 y2
        simp only at R9
        obtain ⟨sa9, cap9, hv9, _⟩ := R9.out.its.view
        subst hv9
        cases c
        · go_wp2_with fail
          refine (trI_Len R9.out.st.tri).mono ?_
          rintro e w9 ⟨rfl, rfl⟩
          rw [R9.out.len]
          go_wp2_with fail
          exact ⟨⟨k + 1, N9, S9, _, by omega, by omega, by go_num, R9, by omega⟩, by simp [intOf]; omega⟩
        · go_wp2_with fail
          refine (trI_Len R9.out.st.tri).mono ?_
          rintro e w9 ⟨rfl, rfl⟩
          rw [R9.out.len]
          go_wp2_with fail
          exact ⟨⟨k + 1, N9, S9, _, by omega, by omega, by go_num, R9, by omega⟩, by simp [intOf]; omega⟩
      by_cases k2 : sk = 2
      · as_aux_lemma =>
        subst k2
        clear k0 k1
        have FD := Lib.hid (fun W h => ref_Find u7 l pa pn W h)
        have TP := Lib.hid (fun W h => trI_GetR (tb := tb) (N := N) (S := S) (l := l) (most := room) pa pn W h R4.out.rl ha)
        go_wp2_with fail
        refine (TP.out _ R4.out.st.tri).mono ?_
        rintro e w5 ⟨hg, hb5⟩
        have R5 := Lib.hid (R4.out.below hb5)
        clear hb5 R4 y0 y1 y2 y3 y4 TP
        rcases hg with ⟨rfl, f1⟩ | ⟨i, v, rfl, f1, f2⟩
        · rw [f1] at FD
          clear f1
          go_wp2_with fail
          refine (FD.out _ R5.out.its).mono ?_
          rintro e w6 ⟨rfl, hb6⟩
          have R9 := Lib.hid (R5.out.below hb6)
          clear hb6 R5 FD
          obtain ⟨sa9, cap9, hv9, _⟩ := R9.out.its.view
          subst hv9
          go_wp2_with fail
          refine (trI_Len R9.out.st.tri).mono ?_
          rintro e w9 ⟨rfl, rfl⟩
          rw [R9.out.len]
          go_wp2_with fail
          exact ⟨⟨k + 1, N, S, _, by omega, by omega, by go_num, R9, by omega⟩, by simp [intOf]; omega⟩
        · rw [f1] at FD
          clear f1
          go_wp2_with fail
          refine (FD.out _ R5.out.its).mono ?_
          rintro e w6 ⟨rfl, hb6⟩
          have R9 := Lib.hid (R5.out.below hb6)
          clear hb6 R5 FD
          obtain ⟨sa9, cap9, hv9, _, _, HV9⟩ := R9.out.its.view
          subst hv9
          obtain ⟨g, hsa, _, _, e2⟩ := HV9 i _ f2
          subst hsa
          have j1 : (i : Int) < (l.length : Int) := by have := (List.getElem?_eq_some_iff.1 f2).1; omega
          have j0 : (0 : Int) ≤ (i : Int) := by omega
          simp only at e2
          clear f2 HV9
          go_wp2_with fail
          refine (trI_Len R9.out.st.tri).mono ?_
          rintro e w9 ⟨rfl, rfl⟩
          rw [R9.out.len]
          go_wp2_with fail
          exact ⟨⟨k + 1, N, S, _, by omega, by omega, by go_num, R9, by omega⟩, by simp [intOf]; omega⟩
      by_cases k3 : sk = 3
      · as_aux_lemma =>
        subst k3
        clear k0 k1 k2
        have LG := Lib.hid (fun W h => ref_Longest u7 l sA W h hA hl5 R4.out.ok)
        have TP := Lib.hid (fun W h => trI_LongR (tb := tb) (N := N) (S := S) (l := l) (most := room) sA W h R4.out.rl hA)
        go_wp2_with fail
        refine (TP.out _ R4.out.st.tri).mono ?_
        rintro e w5 ⟨hg, hb5⟩
        have R5 := Lib.hid (R4.out.below hb5)
        have y3 := cell_below y3 hb5
        clear hb5 R4 y0 y1 y2 y4 TP
        rcases hg with ⟨rfl, f1⟩ | ⟨i, x, rfl, f1, f2⟩
        · rw [f1] at LG
          clear f1
          go_upto_region 30 with (fail)
          obtain ⟨W6, hW6, q0, q1, hb6⟩ := box2 w5 (.int .u32 0) (.int .i64 0) 31
          rw [← hW6]; clear hW6
          have R6 := Lib.hid (R5.out.below hb6)
          have y3 := cell_below y3 hb6
          clear hb6 R5
          go_wp2_with fail
          refine (LG.out _ R6.out.its).mono ?_
          rintro e w7 ⟨rfl, hb7⟩
          have R7 := Lib.hid (R6.out.below hb7)
          have q0 := cell_below q0 hb7
          have q1 := cell_below q1 hb7
          clear hb7 R6 LG y3
          go_wp2_with fail
          go_quiet (fail)
          have R9 := Lib.hid (R7.out.below (runs_drewN w7 nq))
          clear R7 q0 q1
          obtain ⟨sa9, cap9, hv9, _⟩ := R9.out.its.view
          subst hv9
          go_wp2_with fail
          refine (trI_Len R9.out.st.tri).mono ?_
          rintro e w9 ⟨rfl, rfl⟩
          rw [R9.out.len]
          go_wp2_with fail
          exact ⟨⟨k + 1, N, S, _, by omega, by omega, by go_num, R9, by omega⟩, by simp [intOf]; omega⟩
        · rw [f1] at LG
          clear f1
          obtain ⟨xa, xn, xv⟩ := x
          simp only
          go_upto_region 30 with (fail)
          obtain ⟨W6, hW6, q0, q1, hb6⟩ := box2 w5 (.int .u32 xa) (.int .i64 xn) 31
          rw [← hW6]; clear hW6
          have R6 := Lib.hid (R5.out.below hb6)
          have y3 := cell_below y3 hb6
          clear hb6 R5
          go_wp2_with fail
          refine (LG.out _ R6.out.its).mono ?_
          rintro e w7 ⟨rfl, hb7⟩
          have R7 := Lib.hid (R6.out.below hb7)
          have q0 := cell_below q0 hb7
          have q1 := cell_below q1 hb7
          clear hb7 R6 LG y3
          obtain ⟨sa9, cap9, hv9, _, _, HV9⟩ := R7.out.its.view
          subst hv9
          obtain ⟨g, hsa, g0, g1, g2⟩ := HV9 i _ f2
          subst hsa
          have j1 : (i : Int) < (l.length : Int) := by have := (List.getElem?_eq_some_iff.1 f2).1; omega
          have j0 : (0 : Int) ≤ (i : Int) := by omega
          have j2 : decide ((0 : Int) ≤ (i : Int)) = true := by simp
          simp only at g0 g1 g2
          clear f2 HV9
          go_wp2_with fail
          go_quiet (fail)
          have R9 := Lib.hid (R7.out.below (runs_drewN w7 nq))
          clear R7 q0 q1 g0 g1 g2
          go_wp2_with fail
          refine (trI_Len R9.out.st.tri).mono ?_
          rintro e w9 ⟨rfl, rfl⟩
          rw [R9.out.len]
          go_wp2_with fail
          exact ⟨⟨k + 1, N, S, _, by omega, by omega, by go_num, R9, by omega⟩, by simp [intOf]; omega⟩
      by_cases k4 : sk = 4
      · as_aux_lemma =>
        subst k4
        clear k0 k1 k2 k3
        have hmf : ∀ (fn : Fn) (first cap : Array Value) (w : World), (Instr.makeFunc fn first cap).run Try.prog w = .ok (.func fn first cap) w := fun _ _ _ _ => rfl
        have SRT := Lib.hid (fun W h => ref_Sorted u7 l pa pn W h ha hl5 R4.out.ok)
        have RE := Lib.hid (R4.out.rl.sorted (a := pa) (n := pn) OKs.out.2.1)
        have LS : Hid ((refSorted l pa pn).length ≤ 100000) := Lib.hid (by have := sorted_len l pa pn; omega)
        go_upto_region 35 with (fail)
        obtain ⟨W5, hW5, G5⟩ := gi_made W4
        rw [← hW5]
        clear hW5
        have BL := Lib.hid (trI_BelowAN (each1_ok (gb := W4.heap.size + 1) y4 R4.out.st.tri R4.out.rl) pa pn [] _ W5 ha G5 (by unfold Ln; decide))
        have y1 := cell_below y1 G5.bel
        have y2 := cell_below y2 G5.bel
        have Y4 := Lib.hid y4
        clear y0 y3 y4
        go_wp2_with fail
        refine BL.out.mono ?_
        rintro e w6 ⟨rfl, I6, K6⟩
        rw [runL_upto _ _ _ (by omega), List.length_nil, List.nil_append, List.nil_append] at I6
        obtain ⟨vg, g1, g2, _⟩ := I6.row
        have VG := row_cell g1 0
        have OG := Lib.hid (OwnIts.at_ g2)
        have R6 := Lib.hid (R4.out.below I6.bel)
        have Y4 := Lib.hid ((I6.bel.cell (size_lt Y4.out)).trans Y4.out)
        clear K6 I6 BL R4 y1 y2
        go_wp2_with fail
        refine (SRT.out _ R6.out.its).mono ?_
        rintro e w7 ⟨v7, rfl, I7, hb7⟩
        have R7 := Lib.hid (R6.out.below hb7)
        have VG := cell_below VG hb7
        replace OG := Lib.hid (OwnIts.below OG.out hb7)
        have y4 := cell_below Y4.out hb7
        clear hb7 R6 Y4 SRT hmf
        rw [RE.out] at I7
        have LS7 : Hid ((List.map itOf (goB S (pa, pn))).length ≤ 100000) := Lib.hid (by have := LS.out; rw [RE.out] at this; exact this)
        obtain ⟨sa7, cap7, hv7, hc7, hm7, _⟩ := I7.view
        subst hv7
        have CUT := Lib.hid (fun (V : Nat) hV => runs_cut I7 V hV)
        have FULL : Hid (∀ n, (List.map itOf (goB S (pa, pn))).length = n → ItsAt w7 (.slice sa7 n cap7) (List.map itOf (goB S (pa, pn)))) := Lib.hid (fun n hn => by subst hn; exact I7)
        clear I7
        unfold maxLen at hm7
        generalize hn : (List.map itOf (goB S (pa, pn))).length = n at hc7 ⊢
        have HN := Lib.hid hn
        have hn1 : n ≤ 100000 := by rw [← hn]; exact LS7.out
        clear hn LS RE
        generalize goB S (pa, pn) = G at OG LS7 CUT FULL HN
        by_cases hV : 0 < sv
        · obtain ⟨V, rfl⟩ := Int.eq_ofNat_of_zero_le (show 0 ≤ sv by omega)
          rw [if_pos (by simpa using hV)] at OG
          by_cases hL : V < n
          · have LG : Hid (((G.take V).map itOf).length ≤ 100000) := Lib.hid (by rw [List.length_map, List.length_take]; have := LS7.out; rw [List.length_map] at this; omega)
            have LS2 : Hid (((G.map itOf).take V).length ≤ 100000) := Lib.hid (by rw [List.length_take]; have := LS7.out; omega)
            have IV := Lib.hid (CUT.out V (by rw [HN.out]; omega))
            have EQ : Hid (decide ((G.take V).map itOf = (G.map itOf).take V) = true) := Lib.hid (by rw [decide_eq_true_eq, List.map_take])
            replace OG : Hid (ItsAt w7 vg ((G.take V).map itOf)) := Lib.hid (by have := OG.out; simpa using this)
            have g1 : (V : Int) < (n : Int) := by omega
            have g2 : (V : Int) ≤ (cap7 : Int) := by omega
            have g3 : (0 : Int) ≤ (V : Int) := by omega
            clear hL CUT FULL HN LS7
            go_wp2_with fail
            refine (law_same _ _ _ _ _ OG.out IV.out LG.out LS2.out).mono ?_
            rintro e w8 ⟨rfl, hb8⟩
            rw [EQ.out]
            have R9 := Lib.hid (R7.out.below hb8)
            clear R7 hb8 VG OG IV EQ
            obtain ⟨sa9, cap9, hv9, _⟩ := R9.out.its.view
            subst hv9
            go_wp2_with fail
            refine (trI_Len R9.out.st.tri).mono ?_
            rintro e w9 ⟨rfl, rfl⟩
            rw [R9.out.len]
            go_wp2_with fail
            exact ⟨⟨k + 1, N, S, _, by omega, by omega, by go_num, R9, by omega⟩, by simp [intOf]; omega⟩
          · have LG : Hid ((G.map itOf).length ≤ 100000) := LS7
            have LS2 := LG
            have IV := Lib.hid (FULL.out n HN.out)
            have EQ : Hid (decide (G.map itOf = G.map itOf) = true) := Lib.hid (by simp)
            replace OG : Hid (ItsAt w7 vg (G.map itOf)) := Lib.hid (by have := OG.out; rw [List.take_of_length_le (by have := HN.out; rw [List.length_map] at this; simp; omega)] at this; exact this)
            have g1 : ¬ (V : Int) < (n : Int) := by omega
            clear hL CUT FULL HN LS7
            go_wp2_with fail
            refine (law_same _ _ _ _ _ OG.out IV.out LG.out LS2.out).mono ?_
            rintro e w8 ⟨rfl, hb8⟩
            rw [show decide (List.map itOf G = List.map itOf G) = true from decide_eq_true rfl]
            have R9 := Lib.hid (R7.out.below hb8)
            clear R7 hb8 VG OG IV EQ
            obtain ⟨sa9, cap9, hv9, _⟩ := R9.out.its.view
            subst hv9
            go_wp2_with fail
            refine (trI_Len R9.out.st.tri).mono ?_
            rintro e w9 ⟨rfl, rfl⟩
            rw [R9.out.len]
            go_wp2_with fail
            exact ⟨⟨k + 1, N, S, _, by omega, by omega, by go_num, R9, by omega⟩, by simp [intOf]; omega⟩
        · rw [if_neg (by simpa using hV)] at OG
          have LG : Hid ((G.map itOf).length ≤ 100000) := LS7
          have LS2 := LG
          have IV := Lib.hid (FULL.out n HN.out)
          have EQ : Hid (decide (G.map itOf = G.map itOf) = true) := Lib.hid (by simp)
          clear CUT FULL HN LS7
          go_wp2_with fail
          refine (law_same _ _ _ _ _ OG.out IV.out LG.out LS2.out).mono ?_
          rintro e w8 ⟨rfl, hb8⟩
          rw [show decide (List.map itOf G = List.map itOf G) = true from decide_eq_true rfl]
          have R9 := Lib.hid (R7.out.below hb8)
          clear R7 hb8 VG OG IV EQ
          obtain ⟨sa9, cap9, hv9, _⟩ := R9.out.its.view
          subst hv9
          go_wp2_with fail
          refine (trI_Len R9.out.st.tri).mono ?_
          rintro e w9 ⟨rfl, rfl⟩
          rw [R9.out.len]
          go_wp2_with fail
          exact ⟨⟨k + 1, N, S, _, by omega, by omega, by go_num, R9, by omega⟩, by simp [intOf]; omega⟩
      have R9 := R4
      obtain ⟨sa9, cap9, hv9, _⟩ := R9.out.its.view
      subst hv9
      clear R4
      go_wp2_with fail
      refine (trI_Len R9.out.st.tri).mono ?_
      rintro e w9 ⟨rfl, rfl⟩
      rw [R9.out.len]
      go_wp2_with fail
      exact ⟨⟨k + 1, N, S, _, by omega, by omega, by go_num, R9, by omega⟩, by simp [intOf]; omega⟩
    · have hmf : ∀ (fn : Fn) (first cap : Array Value) (w : World), (Instr.makeFunc fn first cap).run Try.prog w = .ok (.func fn first cap) w := fun _ _ _ _ => rfl
      have hex : k = xs.length ∨ (k < xs.length ∧ k = 60) := by omega
      obtain ⟨sa9, cap9, hv9, _⟩ := R.out.its.view
      subst hv9
      have SRT := Lib.hid (fun W h => ref_Sorted (.slice sa9 l.length cap9) l 0 0 W h (by decide) (by omega) R.out.ok)
      have RE : Hid (refSorted l 0 0 = (goP S 32 0 0).map itOf) := Lib.hid (by rw [R.out.rl.sorted (a := 0) (n := 0) ⟨by decide, by decide, by decide⟩, goB_top])
      have LS : Hid ((refSorted l 0 0).length ≤ 100000) := Lib.hid (by have := sorted_len l 0 0; omega)
      clear hlt
      rcases hex with rfl | ⟨h1, rfl⟩
      · go_upto_region 44 with (fail)
        obtain ⟨W5, hW5, G5⟩ := gi_made wr
        rw [← hW5]
        clear hW5
        have AL := Lib.hid (trI_AllN (each2_ok R.out.st.tri R.out.rl (gb := wr.heap.size + 1)) [] _ W5 G5 (by unfold Ln; decide))
        clear G5
        go_wp2_with fail
        refine AL.out.mono ?_
        rintro e w6 ⟨rfl, I6, K6⟩
        rw [runL_all _ (fun _ => rfl), List.nil_append] at I6
        obtain ⟨vg, g1, g2, _⟩ := I6.row
        have VG := row_cell g1 0
        have OG := Lib.hid (OwnIts.at_ g2)
        have R6 := Lib.hid (R.out.below I6.bel)
        generalize goP S 32 0 0 = G at RE OG
        have LG : Hid ((G.map itOf).length ≤ 100000) := Lib.hid (by
          have h1 := LS.out
          rw [RE.out] at h1
          exact h1)
        have SM : Hid (∀ u W, ItsAt W vg (G.map itOf) → ItsAt W u (refSorted l 0 0) → Calls Try.prog 33 #[vg, u] W fun e w' => e = .returned (.bool true) ∧ Below W.heap.size W w') := Lib.hid (fun u W h1 h2 => by
          have h3 := law_same vg u _ _ W h1 h2 LG.out LS.out
          rw [decide_eq_true RE.out.symm] at h3
          exact h3)
        replace VG : w6.cell? ⟨wr.heap.size + 1, 0, none⟩ = some vg := VG
        clear g1 g2 I6 K6 AL R RE LS LG
        go_wp2_with fail
        refine wp_region_held_drew (S := fun w' => Below w6.heap.size w6 w') (by kernel_rfl) ?_ (fun hHeld => ?_)
        · exact (Below.refl _ _).drew
        refine rg_yes (i := 0) (v := ?_) at0 (by kernel_rfl) (by kernel_rfl) (by kernel_rfl) (fun _ _ _ h => h) ?_ ?_ hHeld ?_; rotate_left 1; (· rfl); (· intro w' hSw; (try dsimp only at hSw); have VG := cell_below VG hSw; (try clear hHeld); go_simp; try with_reducible rfl)
        try simp only [Act.put, List.setIfInBounds_toArray, List.set_cons_zero, List.set_cons_succ]
        refine rg_yes (i := 1) (v := ?_) (atS at0) (by kernel_rfl) (by kernel_rfl) (by kernel_rfl) (fun _ _ _ h => h) ?_ ?_ hHeld ?_; rotate_left 1; (· rfl); (· intro w' hSw; (try dsimp only at hSw); (try clear hHeld); go_simp; try with_reducible rfl)
        try simp only [Act.put, List.setIfInBounds_toArray, List.set_cons_zero, List.set_cons_succ]
        refine rg_call (i := 2) (atS (atS at0)) (by kernel_rfl) ?_ (fun K hK => ?_); (· rfl); (try clear hb); go_simp; (refine (SRT.out _ (R6.out.below hHeld).its).mono ?_; rintro e w7 ⟨v7, rfl, I7, hb⟩; have I7 := Lib.hid I7; have O7 := Lib.hid (OwnIts.below (OwnIts.below OG.out hHeld) hb)); go_wp2_with fail; refine hK.out _ _ ?_ (fun hHeld => ?_); (· exact hHeld.trans (hb.mono hHeld.size)); clear hK K
        try simp only [Act.put, List.setIfInBounds_toArray, List.set_cons_zero, List.set_cons_succ]
        refine rg_call (i := 3) (atS (atS (atS at0))) (by kernel_rfl) ?_ (fun K hK => ?_); (· rfl); (try clear hb); go_simp; (refine (SM.out _ _ O7.out I7.out).mono ?_; rintro e w8 ⟨rfl, hb⟩); go_wp2_with fail; refine hK.out _ _ ?_ (fun hHeld => ?_); (· exact hHeld.trans (hb.mono hHeld.size)); clear hK K
        try simp only [Act.put, List.setIfInBounds_toArray, List.set_cons_zero, List.set_cons_succ]
        refine rg_yes (i := 4) (v := ?_) (atS (atS (atS (atS at0)))) (by kernel_rfl) (by kernel_rfl) (by kernel_rfl) (fun _ _ _ h => h) ?_ ?_ hHeld ?_; rotate_left 1; (· rfl); (· intro w' hSw; (try dsimp only at hSw); (try clear hHeld); go_simp; try with_reducible rfl)
        try simp only [Act.put, List.setIfInBounds_toArray, List.set_cons_zero, List.set_cons_succ]
        refine wpAnyH_done (by kernel_rfl) ?_ _
        go_wp2_with fail
        go_ret
        exact ⟨rfl, (R6.out.below hHeld).st.bel⟩
      · go_upto_region 44 with (fail)
        obtain ⟨W5, hW5, G5⟩ := gi_made wr
        rw [← hW5]
        clear hW5
        have AL := Lib.hid (trI_AllN (each2_ok R.out.st.tri R.out.rl (gb := wr.heap.size + 1)) [] _ W5 G5 (by unfold Ln; decide))
        clear G5
        go_wp2_with fail
        refine AL.out.mono ?_
        rintro e w6 ⟨rfl, I6, K6⟩
        rw [runL_all _ (fun _ => rfl), List.nil_append] at I6
        obtain ⟨vg, g1, g2, _⟩ := I6.row
        have VG := row_cell g1 0
        have OG := Lib.hid (OwnIts.at_ g2)
        have R6 := Lib.hid (R.out.below I6.bel)
        generalize goP S 32 0 0 = G at RE OG
        have LG : Hid ((G.map itOf).length ≤ 100000) := Lib.hid (by
          have h1 := LS.out
          rw [RE.out] at h1
          exact h1)
        have SM : Hid (∀ u W, ItsAt W vg (G.map itOf) → ItsAt W u (refSorted l 0 0) → Calls Try.prog 33 #[vg, u] W fun e w' => e = .returned (.bool true) ∧ Below W.heap.size W w') := Lib.hid (fun u W h1 h2 => by
          have h3 := law_same vg u _ _ W h1 h2 LG.out LS.out
          rw [decide_eq_true RE.out.symm] at h3
          exact h3)
        replace VG : w6.cell? ⟨wr.heap.size + 1, 0, none⟩ = some vg := VG
        clear g1 g2 I6 K6 AL R RE LS LG
        go_wp2_with fail
        refine wp_region_held_drew (S := fun w' => Below w6.heap.size w6 w') (by kernel_rfl) ?_ (fun hHeld => ?_)
        · exact (Below.refl _ _).drew
        refine rg_yes (i := 0) (v := ?_) at0 (by kernel_rfl) (by kernel_rfl) (by kernel_rfl) (fun _ _ _ h => h) ?_ ?_ hHeld ?_; rotate_left 1; (· rfl); (· intro w' hSw; (try dsimp only at hSw); have VG := cell_below VG hSw; (try clear hHeld); go_simp; try with_reducible rfl)
        try simp only [Act.put, List.setIfInBounds_toArray, List.set_cons_zero, List.set_cons_succ]
        refine rg_yes (i := 1) (v := ?_) (atS at0) (by kernel_rfl) (by kernel_rfl) (by kernel_rfl) (fun _ _ _ h => h) ?_ ?_ hHeld ?_; rotate_left 1; (· rfl); (· intro w' hSw; (try dsimp only at hSw); (try clear hHeld); go_simp; try with_reducible rfl)
        try simp only [Act.put, List.setIfInBounds_toArray, List.set_cons_zero, List.set_cons_succ]
        refine rg_call (i := 2) (atS (atS at0)) (by kernel_rfl) ?_ (fun K hK => ?_); (· rfl); (try clear hb); go_simp; (refine (SRT.out _ (R6.out.below hHeld).its).mono ?_; rintro e w7 ⟨v7, rfl, I7, hb⟩; have I7 := Lib.hid I7; have O7 := Lib.hid (OwnIts.below (OwnIts.below OG.out hHeld) hb)); go_wp2_with fail; refine hK.out _ _ ?_ (fun hHeld => ?_); (· exact hHeld.trans (hb.mono hHeld.size)); clear hK K
        try simp only [Act.put, List.setIfInBounds_toArray, List.set_cons_zero, List.set_cons_succ]
        refine rg_call (i := 3) (atS (atS (atS at0))) (by kernel_rfl) ?_ (fun K hK => ?_); (· rfl); (try clear hb); go_simp; (refine (SM.out _ _ O7.out I7.out).mono ?_; rintro e w8 ⟨rfl, hb⟩); go_wp2_with fail; refine hK.out _ _ ?_ (fun hHeld => ?_); (· exact hHeld.trans (hb.mono hHeld.size)); clear hK K
        try simp only [Act.put, List.setIfInBounds_toArray, List.set_cons_zero, List.set_cons_succ]
        refine rg_yes (i := 4) (v := ?_) (atS (atS (atS (atS at0)))) (by kernel_rfl) (by kernel_rfl) (by kernel_rfl) (fun _ _ _ h => h) ?_ ?_ hHeld ?_; rotate_left 1; (· rfl); (· intro w' hSw; (try dsimp only at hSw); (try clear hHeld); go_simp; try with_reducible rfl)
        try simp only [Act.put, List.setIfInBounds_toArray, List.set_cons_zero, List.set_cons_succ]
        refine wpAnyH_done (by kernel_rfl) ?_ _
        go_wp2_with fail
        go_ret
        exact ⟨rfl, (R6.out.below hHeld).st.bel⟩
theorem law_TrieRuns (most : Int) (v : Value) (xs : List St) (w : World) (hS : StepsAt w v xs) : Calls Try.prog 6 #[.int .i64 most, v] w fun e w' => e = .returned (.bool true) ∧ Below w.heap.size w w' := by
  obtain ⟨sa, cap, rfl, hm, hP⟩ := hS
  exact law_runs most sa xs cap w hm hP

namespace trieRuns
open Go.ChangeShapes Go.WideShapes Go.ChangeAt Go.RowKit
set_option linter.unusedVariables false
set_option maxRecDepth 100000 in
theorem lifted (os : Os) (started : os.Started) (H : Type) (enc : TypeId × Value → H) :
    ReturnsInHanded {} Try.checked os 6 .any (Rows.trieRunsSpec.pre6 enc Try.prog Try.f6 Rows.trieRunsRow.domain false) (Rows.trieRunsSpec.post enc Try.prog Try.f6 false true false false) := by
  refine returnsInHanded_of_change (C := Try.checked) fr_own started (by kernel_rfl) Try.func6
    (ChangeSpec.witness6 (enc := enc) (C := Try.checked) false ⟨#[], #[.int .i64 0, .slice none 0 0], []⟩ 8 (by kernel_rfl) (by kernel_rfl) (by kernel_rfl) (by kernel_rfl)) ?_
  intro W base args ds gs before hval0 hW hcnd _
  have hval : ∀ (j : Nat) t v, Try.f6.params[j]? = some t → args[j]? = some v → Value.okWide Try.prog W .any base t v := hval0
  have hW' := hW
  obtain ⟨p, q, hA0, hV, rfl, hfz, hnd⟩ := hW
  have hA : DataW.TrodAll enc Try.prog W 0 (fun _ => true) true Try.f6.params.toList args.toList ds p := hA0
  rw [Try.params6] at hA hval
  obtain ⟨v0, vs0, d0, ds0, p0, q0, hargs, rfl, rfl, h0, r0⟩ := trodAll_cons hA
  obtain ⟨v1, vs1, d1, ds1, p1, q1, rfl, rfl, rfl, h1, r1⟩ := trodAll_cons r0
  obtain ⟨rfl, rfl, rfl⟩ := trodAll_nil r1
  obtain rfl : args = #[v0, v1] := by cases args; simp_all
  obtain ⟨rfl, rfl⟩ := trodVars_none hV
  have lt0 : ∀ x ∈ p0, x.block < W.heap.size := by obtain ⟨m, hm⟩ := h0; exact DataW.trod_lt m _ _ _ hm
  have lt1 : ∀ x ∈ p1, x.block < W.heap.size := by obtain ⟨m, hm⟩ := h1; exact DataW.trod_lt m _ _ _ hm
  obtain ⟨most, rfl, hm0, hm1⟩ := open_i64 (hval 0 3 v0 rfl rfl)
  obtain ⟨xs, hS⟩ := open_steps (hval 1 48 v1 rfl rfl) h1
  clear hA0 hval0
  refine (law_TrieRuns most _ xs W hS).mono fun e W' ⟨he, bel⟩ => ?_
  subst he
  exact ⟨_, rfl, _, _, _, [], _, [], hW', trodAll_mk1 (shut_bool Try.underlying4 _), (trodAll_cons_mk (Below.trod fr_laidOut (by kernel_rfl) (of_decide_eq_true (by kernel_rfl)) h0 bel lt0) (trodAll_cons_mk (Below.trod fr_laidOut (by kernel_rfl) (of_decide_eq_true (by kernel_rfl)) h1 bel lt1) trodAll_mk0)), rfl, bel.frame _, fun h => by cases h⟩
theorem over : Rows.trieRunsRow.holds Try.pinned (OpenSpec.ofChange Rows.trieRunsSpec) :=
  OpenClaim.holds_of_wide 6 Try.f6 rfl rfl rfl rfl rfl rfl rfl ⟨rfl, rfl, rfl, rfl, rfl⟩ rfl rfl rfl rfl rfl (by kernel_rfl) Try.func6 (by kernel_rfl)
    (of_decide_eq_true (by kernel_rfl)) (by unfold Func.isWrapper; first | (rw [if_pos (by decide +kernel)]; kernel_rfl) | (rw [if_neg (by decide +kernel)]; exact ⟨rfl, rfl⟩))
    (fun os started H enc _ => lifted os started H enc)
/-- THE STATEMENT TrieRuns. -/
theorem proved : Rows.TrieRunsSaid := over
#print axioms proved
end trieRuns
end Go.Proofs.Ytnklhfdhaclfiaa
