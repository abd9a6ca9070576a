/-
  TagsRuns, the walk.
-/
import Derived.Test.YtcoclbcjbpjblaaTagRunL
import Derived.Test.YtcoclbcjbpjblaaPoolN
import Derived.Test.YtcoclbcjbpjblaaKeyEq
import Derived.Test.YtcoclbcjbpjblaaBits
import Derived.Deep.DeepCutAuto
import Derived.Deep.CutBlock
namespace Go.Proofs.Ytcoclbcjbpjblaa
open Go.RowKit
theorem zero_slot (w : World) : (zeroValue 44).run Try.prog w = .ok (slV ((0, 0, 0), 0)) w := by kernel_rfl
@[go_sem ↓] theorem field_suses (x y z u : Int) (w : World) : (Instr.field 44 (.agg #[.int .i64 x, .int .i64 y, .int .i64 z, .int .i64 u]) 1).run Try.prog w = .ok (.int .i64 u) w := by kernel_rfl
structure RD (w W : World) (g a b y : Nat) (p : Pl) (L : List (Int × Sl)) : Prop where
  h : Held w W g a b p
  m : MapT nV slV I64 W y L
  hy : w.heap.size ≤ y
  nya : y ≠ a
  nyb : y ≠ b
theorem RD.on {w W W' : World} {g a b y : Nat} {p : Pl} {L : List (Int × Sl)} (h : RD w W g a b y p L) (hb : Below W.heap.size W W') : RD w W' g a b y p L :=
  ⟨h.h.on hb, h.m.below hb, h.hy, h.nya, h.nyb⟩
theorem RD.step {w W W' : World} {g a b y : Nat} {p p' : Pl} {L : List (Int × Sl)} (h : RD w W g a b y p L) (hp : PoolAt W' g a b p') (hk : Kept (Of2 a b) W W') : RD w W' g a b y p' L :=
  ⟨h.h.step hp hk, h.m.kept hk (by rintro (e | e); exact h.nya e; exact h.nyb e), h.hy, h.nya, h.nyb⟩
theorem RD.put {w W W1 : World} {g a b y : Nat} {p : Pl} {L M : List (Int × Sl)} (h : RD w W g a b y p L) (hk : Kept (fun k => k = y) W W1) (hm : MapT nV slV I64 W1 y M) : RD w W1 g a b y p M := by
  have ngy : g ≠ y := by rintro rfl; obtain ⟨es, c, q, _⟩ := h.m; rw [h.h.at_.row] at q; cases q
  exact ⟨⟨h.h.at_.kept hk ngy (fun e => h.nya e.symm) (fun e => h.nyb e.symm), h.h.below.trans (hk.below h.h.below.size (by rintro k rfl; exact h.hy)), h.h.hg, h.h.ha, h.h.hb⟩, hm, h.hy, h.nya, h.nyb⟩
theorem RD.kept {w W W' : World} {g a b y : Nat} {p : Pl} {L : List (Int × Sl)} (h : RD w W g a b y p L) {r : Nat} (hk : Kept (fun k => k = r) W W') (hg : r ≠ g) (ha : r ≠ a) (hb : r ≠ b) (hy : r ≠ y) (hr : w.heap.size ≤ r) : RD w W' g a b y p L :=
  ⟨⟨h.h.at_.kept hk (fun e => hg e.symm) (fun e => ha e.symm) (fun e => hb e.symm), h.h.below.trans (hk.below h.h.below.size (by rintro k rfl; exact hr)), h.h.hg, h.h.ha, h.h.hb⟩, h.m.kept hk (fun e => hy e.symm), h.hy, h.nya, h.nyb⟩
theorem RD.lts {w W : World} {g a b y : Nat} {p : Pl} {L : List (Int × Sl)} (h : RD w W g a b y p L) : g < W.heap.size ∧ a < W.heap.size ∧ b < W.heap.size ∧ y < W.heap.size ∧ w.heap.size ≤ W.heap.size :=
  ⟨h.h.at_.lt, h.h.at_.tg.lt, h.h.at_.hd.lt, h.m.lt, h.h.below.size⟩
theorem look_slot {W : World} {y : Nat} {L : List (Int × Sl)} (hm : MapT nV slV I64 W y L) (t : Int) (ht : I64 t) (w : World) (hw : w.heap[y]? = W.heap[y]?) (c : Bool) : (Instr.lookup 42 (.map (some y)) (.int .i64 t) c).run Try.prog w = .ok (if c then .tuple #[slV ((getL L t).getD ((0, 0, 0), 0)), .bool (getL L t).isSome] else slV ((getL L t).getD ((0, 0, 0), 0))) w := by
  have := hm.look int_enc Try.underlying42 t ht zero_slot w hw c
  rw [this]
  cases getL L t <;> rfl
theorem store_slot {W : World} {y : Nat} {L : List (Int × Sl)} (hm : MapT nV slV I64 W y L) (t : Int) (ht : I64 t) (k1 k2 k3 u : Int) (hr : L.length < maxLen) (w : World) (hw : w.heap[y]? = W.heap[y]?) : ∃ o, (Instr.mapUpdate 42 (.map (some y)) (.int .i64 t) (.agg #[.int .i64 k1, .int .i64 k2, .int .i64 k3, .int .i64 u])).run Try.prog w = .ok () (ChangeMaps.setBlock w y o) ∧ MapT nV slV I64 (ChangeMaps.setBlock w y o) y (putL L t ((k1, k2, k3), u)) :=
  hm.store int_enc Try.underlying42 t ht ((k1, k2, k3), u) hr w hw
theorem drop_slot {W : World} {y : Nat} {L : List (Int × Sl)} (hm : MapT nV slV I64 W y L) (t : Int) (ht : I64 t) (w : World) (hw : w.heap[y]? = W.heap[y]?) : ∃ o, (∀ ty, (Builtin.delete_ #[42, 3] ty #[.map (some y), .int .i64 t]).run Try.prog w = .ok (.tuple #[]) (ChangeMaps.setBlock w y o)) ∧ MapT nV slV I64 (ChangeMaps.setBlock w y o) y (delL L t) :=
  hm.drop int_enc Try.underlying42 t ht w hw
/-- a step in its box. -/
structure SC (W : World) (q : Nat) (sk k1 k2 k3 st : Int) : Prop where
  s0 : W.cell? ⟨q, 0, none⟩ = some (.int .i64 sk)
  s1 : W.cell? ⟨q, 1, none⟩ = some (.int .i64 k1)
  s2 : W.cell? ⟨q, 2, none⟩ = some (.int .i64 k2)
  s3 : W.cell? ⟨q, 3, none⟩ = some (.int .i64 k3)
  s4 : W.cell? ⟨q, 4, none⟩ = some (.int .i64 st)
theorem SC.below {W W' : World} {q : Nat} {sk k1 k2 k3 st : Int} (h : SC W q sk k1 k2 k3 st) (hb : Below W.heap.size W W') : SC W' q sk k1 k2 k3 st :=
  ⟨cell_below h.s0 hb, cell_below h.s1 hb, cell_below h.s2 hb, cell_below h.s3 hb, cell_below h.s4 hb⟩
theorem SC.kept {W W' : World} {F : Nat → Prop} {q : Nat} {sk k1 k2 k3 st : Int} (h : SC W q sk k1 k2 k3 st) (hk : Kept F W W') (hq : ¬ F q) : SC W' q sk k1 k2 k3 st :=
  ⟨hk.cell h.s0 hq, hk.cell h.s1 hq, hk.cell h.s2 hq, hk.cell h.s3 hq, hk.cell h.s4 hq⟩
theorem kept_set {w : World} {y : Nat} (o : Obj) : Kept (fun k => k = y) w (ChangeMaps.setBlock w y o) := Kept.setBlock o rfl
set_option maxRecDepth 100000 in
set_option maxHeartbeats 3200000 in
theorem runs_nil (most : Int) (v : Value) (w : World) (hn : most < 0 ∨ 256 < most) : Calls Try.prog 5 #[.int .i64 most, v] w fun e w' => e = .returned (.bool true) ∧ Below w.heap.size w w' := by
  have HN := Lib.hid hn
  by_cases h0 : most < 0
  all_goals
    have h1 : (decide (most < 0) || decide (256 < most)) = true := by
      rcases HN.out with h | h
      · simp [h]
      · simp [h]
    try have h2 : 256 < most := by omega
    clear hn
    go_enter Try.func5, Try.ntmps5
    go_wp2_with fail
    refine (law_head _).mono ?_
    rintro e w0 ⟨rfl, hB0⟩
    go_wp2_with fail
    refine (pool_New_no most HN.out w0).mono ?_
    rintro e w1 ⟨rfl, rfl⟩
    go_wp2_with fail
    refine (nil_Take _ _ _ _).mono ?_
    rintro e w1 ⟨rfl, hb⟩
    have B1 := Lib.hid (below_on hB0 hb)
    clear hb hB0
    go_wp2_with fail
    refine (nil_Key _ _).mono ?_
    rintro e w2 ⟨rfl, hb⟩
    have hbx : Below w2.heap.size w2 (w2.alloc (.cells #[.int .i64 0, .int .i64 0, .int .i64 0] 30)) := (Below.refl _ _).alloc (Nat.le_refl _) _
    have B2 := Lib.hid (below_on (below_on B1.out hb) hbx)
    clear hb hbx B1
    go_wp2_with fail
    refine (nil_Give _ _).mono ?_
    rintro e w3 ⟨rfl, rfl⟩
    go_wp2_with fail
    refine (nil_Drop _ _).mono ?_
    rintro e w3 ⟨rfl, rfl⟩
    go_wp2_with fail
    refine (nil_Sweep _).mono ?_
    rintro e w3 ⟨rfl, rfl⟩
    go_wp2_with fail
    refine (nil_Len _).mono ?_
    rintro e w3 ⟨rfl, rfl⟩
    go_wp2_with fail
    refine (nil_Uses _ _).mono ?_
    rintro e w3 ⟨rfl, rfl⟩
    go_wp2_with fail
    go_ret
    exact ⟨rfl, B2.out⟩
set_option maxRecDepth 100000 in
set_option maxHeartbeats 6400000 in
theorem runs_ok (n : Nat) (hn256 : n ≤ 256) (v : Value) (xs : List St) (w : World) (hS : StepsAt w v xs) : Calls Try.prog 5 #[.int .i64 n, v] w fun e w' => e = .returned (.bool true) ∧ Below w.heap.size w w' := by
  obtain ⟨sa, cap, rfl, hlen, hcells⟩ := hS
  have HC := Lib.hid hcells
  clear hcells
  have hmm := @run_makeMap Try.prog
  have g1 : ¬ ((n : Int) < 0) := by omega
  have g2 : ¬ (256 < (n : Int)) := by omega
  unfold maxLen at hlen
  go_enter Try.func5, Try.ntmps5
  go_wp2_with fail
  refine (law_head _).mono ?_
  rintro e w0 ⟨rfl, hB0⟩
  go_wp2_with fail
  refine (pool_New_ok (n : Int) (by omega) (by omega) w0).mono ?_
  rintro e w1 ⟨g, a, b, rfl, hp, hg, ha, hb, hB⟩
  have H := Lib.hid (⟨hp, below_on hB0 hB, Nat.le_trans hB0.size hg, Nat.le_trans hB0.size ha, Nat.le_trans hB0.size hb⟩ : Held w w1 g a b ⟨n, [], []⟩)
  have la := hp.tg.lt
  have lb := hp.hd.lt
  clear hp hB hg ha hb hB0
  go_wp2_with fail
  have D : Hid (RD w (w1.alloc (.map #[] 0)) g a b w1.heap.size ⟨n, [], []⟩ []) := Lib.hid (by
    have hb1 : Below w1.heap.size w1 (w1.alloc (.map #[] 0)) := (Below.refl _ _).alloc (Nat.le_refl _) _
    have hz := H.out.below.size
    exact ⟨H.out.on hb1, MapT.made (ek := nV) (ev := slV) (ok := I64) w1, by omega, by omega, by omega⟩)
  clear H hmm
  generalize w1.alloc (.map #[] 0) = w2 at D ⊢
  generalize w1.heap.size = y at D la lb ⊢
  clear la lb
  go_loopw [12] (fun t wr => ∃ (i : Nat) (p : Pl), i ≤ xs.length ∧ i ≤ 80 ∧ t = .int .i64 i ∧ RD w wr g a b y p p.hd ∧ RunI n i p) (fun t _ => 80 - (intOf t).toNat)
  case atStart => exact ⟨0, ⟨n, [], []⟩, by omega, by omega, rfl, D.out, RunI.start n⟩
  case round =>
    obtain ⟨i, p, hi, hi80, rfl, hD, hI⟩ := hrel
    clear D
    have D := Lib.hid hD
    have I := Lib.hid hI
    clear hD hI
    have hw : IntKind.i64.wrap ((i : Int) + 1) = ((i + 1 : Nat) : Int) := by rw [IntWalk.i64_in _ (by omega)]; omega
    by_cases hlt : i < xs.length ∧ i < 80
    · obtain ⟨hl1, hl2⟩ := hlt
      obtain ⟨bb, off, hsa, hcl⟩ := HC.out (by omega)
      subst hsa
      obtain ⟨s, hs⟩ : ∃ s, xs[i]? = some s := ⟨xs[i], List.getElem?_eq_getElem hl1⟩
      obtain ⟨hok, d0, d1, d2, d3, d4⟩ := hcl i s hs
      obtain ⟨sk, ⟨k1, k2, k3⟩, st⟩ := s
      have hBw := D.out.h.below
      replace d0 := (hBw.cell (size_lt d0)).trans d0
      replace d1 := (hBw.cell (size_lt d1)).trans d1
      replace d2 := (hBw.cell (size_lt d2)).trans d2
      replace d3 := (hBw.cell (size_lt d3)).trans d3
      replace d4 := (hBw.cell (size_lt d4)).trans d4
      clear hcl hs hBw
      simp only at d0 d1 d2 d3 d4
      have hbS : Below wr.heap.size wr (wr.alloc (.cells #[.int .i64 sk, .int .i64 k1, .int .i64 k2, .int .i64 k3, .int .i64 st] 37)) := (Below.refl _ _).alloc (Nat.le_refl _) _
      go_upto_block 2 with fail
      have D3 := Lib.hid (D.out.on hbS)
      have SS : Hid (SC (wr.alloc (.cells #[.int .i64 sk, .int .i64 k1, .int .i64 k2, .int .i64 k3, .int .i64 st] 37)) wr.heap.size sk k1 k2 k3 st) := Lib.hid ⟨by simp, by simp, by simp, by simp, by simp⟩
      obtain ⟨lg, la, lb, ly, lw⟩ := D.out.lts
      clear hbS D d0 d1 d2 d3 d4
      generalize wr.alloc (.cells #[.int .i64 sk, .int .i64 k1, .int .i64 k2, .int .i64 k3, .int .i64 st] 37) = W3 at D3 SS ⊢
      generalize wr.heap.size = q at SS lg la lb ly lw ⊢
      have hqo : ¬ Of2 a b q := by rintro (e | e) <;> omega
      go_cut [14, 15, 16, 17, 18, 19, 20, 21, 22, 23, 24, 25, 26, 27, 28, 29, 30, 31, 32] (fun _ _ _ _ _ _ _ _ _ _ _ _ _ _ _ _ _ _ _ wx => ∃ p' : Pl, RD w wx g a b y p' p'.hd ∧ RunI n (i + 1) p')
      case first =>
        have s0 := SS.out.s0
        have s1 := SS.out.s1
        have s2 := SS.out.s2
        have s3 := SS.out.s3
        have s4 := SS.out.s4
        by_cases h0 : sk = 0
        · subst h0
          clear s0 s1 s2 s3 s4
          cases ht : getL p.tg (k1, k2, k3) with
          | some tt =>
            as_aux_lemma =>
              obtain ⟨u, hu⟩ := I.out.c1 _ _ ht
              obtain ⟨-, hu0, hui, -, ht0, htn⟩ := I.out.c2 _ _ _ hu
              have htI : I64 tt := by unfold I64; omega
              have HT1 := Lib.hid ht
              have HGU := Lib.hid hu
              have HIN : Hid (p.hd.any (fun e => e.1 == tt) = true) := Lib.hid (List.any_eq_true.2 ⟨_, getL_mem hu, by simp⟩)
              have IH := Lib.hid (I.out.had (k1, k2, k3) tt u ht hu)
              clear ht hu
              obtain ⟨W5, hr, hRr, hBr, hzr⟩ := D3.out.m.range Try.underlying42
              have E0 := Lib.hid (⟨D3.out.on hBr, hRr, SS.out.below hBr, D3.out.m.apart⟩ : RD w W5 g a b y p p.hd ∧ RangeT nV slV I64 W5 y W3.heap.size p.hd p.hd ∧ SC W5 q 0 k1 k2 k3 st ∧ KeysApart p.hd)
              obtain ⟨mg, ma, mb, my, mw⟩ := D3.out.lts
              have mq := size_lt SS.out.s0
              clear hRr hBr hzr D3 SS
              go_wp2_with fail
              clear hr
              generalize W3.heap.size = r at E0 mg ma mb my mw mq ⊢
              go_loopw [14] (fun t wr => ∃ left : List (Int × Sl), t = .int .i64 (if left.any (fun e => e.1 == tt) then -1 else tt) ∧ RD w wr g a b y p p.hd ∧ RangeT nV slV I64 wr y r p.hd left ∧ SC wr q 0 k1 k2 k3 st ∧ KeysApart left) (fun _ wr => wr.rangeLeft y r)
              case atStart => exact ⟨p.hd, by rw [HIN.out]; rfl, E0.out⟩
              case round =>
                obtain ⟨left, rfl, hD, hR, hC, hA⟩ := hrel
                clear E0
                have HRL := Lib.hid hR.left_eq
                rcases hR.next (P := Try.prog) 0 with ⟨rfl, hn⟩ | ⟨ii, qq, W6, hi2, hq, hn, hR1, hk1, hz1, hen⟩
                · have hn' : ∀ ty, (Instr.next (.pointer (some ⟨r, 0, none⟩)) false ty).run Try.prog wr = .ok (.tuple #[.bool false]) wr := fun _ => hn
                  have D3 := Lib.hid hD
                  have SS := Lib.hid hC
                  clear hn hR hD hC hA HRL
                  simp only [List.any_nil, Bool.false_eq_true, if_false]
                  go_wp2_with fail
                  clear hn'
                  refine wp_loop_rounds 1 ?_
                  rw [rounds_succ]
                  have hn0 : 0 < (n : Int) := by omega
                  have hneg : ¬ (tt < 0) := by omega
                  have c1 := SS.out.s1
                  have c2 := SS.out.s2
                  have c3 := SS.out.s3
                  go_wp2_with fail
                  refine (pool_Take_had D3.out.h.at_ (k1, k2, k3) hok.2.1 tt htI u HT1.out HGU.out hu0 (by omega) (by have := I.out.hdl; unfold maxLen; omega)).mono ?_
                  rintro e w2 ⟨rfl, hp, hkp⟩
                  have DD := Lib.hid (D3.out.step hp hkp)
                  have SD := Lib.hid (SS.out.kept hkp hqo)
                  clear hp hkp D3 SS c1 c2 c3
                  have lks := look_slot DD.out.m (tt) htI w2 rfl false
                  obtain ⟨o1, hs1, hm1⟩ := store_slot DD.out.m (tt) htI k1 k2 k3 (u + 1) (by have := I.out.hdl; unfold maxLen; omega) w2 rfl
                  rw [HGU.out] at lks
                  simp only [Bool.false_eq_true, if_false, Option.getD_some, slV, slC] at lks
                  have hwu : IntKind.i64.wrap (u + 1) = u + 1 := IntWalk.i64_in _ (by omega)
                  have c1 := SD.out.s1
                  have c2 := SD.out.s2
                  have c3 := SD.out.s3
                  go_wp2_with fail
                  have DF := DD.out.put (kept_set o1) hm1
                  go_meet
                  exact ⟨_, DF, IH.out⟩
                · have hlen2 : (left.eraseIdx ii).length < left.length := by
                    have := (List.getElem?_eq_some_iff.1 hi2).1
                    rw [List.length_eraseIdx_of_lt this]; omega
                  have HL2 := Lib.hid hlen2
                  obtain ⟨t5, ⟨x1, x2, x3⟩, u5⟩ := qq
                  have hgq := getL_of_mem hD.m.apart hq
                  have hc2 := (I.out.c2 _ _ _ hgq).1
                  have hA2 : KeysApart (left.eraseIdx ii) := List.Pairwise.sublist (List.eraseIdx_sublist _ _) hA
                  have hD2 := hD.kept hk1 (by omega) (by omega) (by omega) (by omega) (by omega)
                  have hC2 := hC.kept hk1 (fun e => by have e2 : q = r := e; omega)
                  have hbk : Below W6.heap.size W6 (W6.alloc (.cells #[.int .i64 x1, .int .i64 x2, .int .i64 x3, .int .i64 u5] 44)) := (Below.refl _ _).alloc (Nat.le_refl _) _
                  have GG := Lib.hid (⟨hD2.on hbk, hR1.below hbk, hC2.below hbk, hA2⟩ : RD w (W6.alloc (.cells #[.int .i64 x1, .int .i64 x2, .int .i64 x3, .int .i64 u5] 44)) g a b y p p.hd ∧ RangeT nV slV I64 (W6.alloc (.cells #[.int .i64 x1, .int .i64 x2, .int .i64 x3, .int .i64 u5] 44)) y r p.hd (left.eraseIdx ii) ∧ SC (W6.alloc (.cells #[.int .i64 x1, .int .i64 x2, .int .i64 x3, .int .i64 u5] 44)) q 0 k1 k2 k3 st ∧ KeysApart (left.eraseIdx ii))
                  have c1 := hC2.s1
                  have c2 := hC2.s2
                  have c3 := hC2.s3
                  have hq6 := size_lt c1
                  simp only [slV, slC, nV] at hn hen
                  have hn' : ∀ ty, (Instr.next (.pointer (some ⟨r, 0, none⟩)) false ty).run Try.prog wr = .ok (.tuple #[.bool true, .int .i64 t5, .agg #[.int .i64 x1, .int .i64 x2, .int .i64 x3, .int .i64 u5]]) W6 := fun _ => hn
                  have hae := any_erase hA hi2 tt
                  simp only at hae
                  by_cases htt : t5 = tt
                  · subst htt
                    have hek : eqK x1 x2 x3 k1 k2 k3 = true := by
                      rw [eqK_iff]
                      have := HGU.out
                      rw [hgq] at this; injection this with this; injection this
                    have hw2 : (if (left.eraseIdx ii).any (fun e => e.1 == t5) then (-1 : Int) else t5) = t5 := by rw [hae]; simp
                    have HW2 := Lib.hid hw2
                    clear hn hq hi2 hR1 hk1 hz1 hbk hD2 hC2 hR hD hC hA hA2 hlen2 hgq hc2 hae hw2
                    go_wp2_with fail
                    exact ⟨⟨_, by rw [HW2.out], GG.out⟩, by rw [GG.out.2.1.left_eq, HRL.out]; exact HL2.out⟩
                  · have hek : eqK x1 x2 x3 k1 k2 k3 = false := by
                      cases hq9 : eqK x1 x2 x3 k1 k2 k3 with
                      | false => rfl
                      | true =>
                        have e9 := (eqK_iff _ _ _ _ _ _).1 hq9
                        rw [e9] at hc2
                        have := HT1.out
                        rw [hc2] at this; injection this with this; exact absurd this htt
                    have hw2 : (if (left.eraseIdx ii).any (fun e => e.1 == tt) then (-1 : Int) else tt) = (if left.any (fun e => e.1 == tt) then (-1 : Int) else tt) := by
                      rw [hae]
                      have : (tt == t5) = false := by rw [beq_eq_false_iff_ne]; exact fun e => htt e.symm
                      simp only [this, Bool.not_false, Bool.and_true]
                    have HW2 := Lib.hid hw2
                    clear hn hq hi2 hR1 hk1 hz1 hbk hD2 hC2 hR hD hC hA hA2 hlen2 hgq hc2 hae hw2 htt
                    generalize (if left.any (fun e => e.1 == tt) then (-1 : Int) else tt) = wv at HW2 ⊢
                    go_wp2_with fail
                    exact ⟨⟨_, by rw [HW2.out], GG.out⟩, by rw [GG.out.2.1.left_eq, HRL.out]; exact HL2.out⟩
          | none =>
            have HT1 := Lib.hid ht
            clear ht
            rcases least_free (fun j => (getL p.hd (j : Int)).isSome) n with hall | ⟨t0, ht0, hfree, hall⟩
            · skip
              as_aux_lemma =>
                have HALL := Lib.hid hall
                clear hall
                obtain ⟨W5, hr, hRr, hBr, hzr⟩ := D3.out.m.range Try.underlying42
                have E0 := Lib.hid (⟨D3.out.on hBr, hRr, SS.out.below hBr, D3.out.m.apart⟩ : RD w W5 g a b y p p.hd ∧ RangeT nV slV I64 W5 y W3.heap.size p.hd p.hd ∧ SC W5 q 0 k1 k2 k3 st ∧ KeysApart p.hd)
                obtain ⟨mg, ma, mb, my, mw⟩ := D3.out.lts
                have mq := size_lt SS.out.s0
                clear hRr hBr hzr D3 SS
                go_wp2_with fail
                clear hr
                generalize W3.heap.size = r at E0 mg ma mb my mw mq ⊢
                go_loopw [14] (fun t wr => ∃ left : List (Int × Sl), t = .int .i64 (-1) ∧ RD w wr g a b y p p.hd ∧ RangeT nV slV I64 wr y r p.hd left ∧ SC wr q 0 k1 k2 k3 st ∧ KeysApart left) (fun _ wr => wr.rangeLeft y r)
                case atStart => exact ⟨p.hd, by rfl, E0.out⟩
                case round =>
                  obtain ⟨left, rfl, hD, hR, hC, hA⟩ := hrel
                  clear E0
                  have HRL := Lib.hid hR.left_eq
                  rcases hR.next (P := Try.prog) 0 with ⟨rfl, hn⟩ | ⟨ii, qq, W6, hi2, hq, hn, hR1, hk1, hz1, hen⟩
                  · have hn' : ∀ ty, (Instr.next (.pointer (some ⟨r, 0, none⟩)) false ty).run Try.prog wr = .ok (.tuple #[.bool false]) wr := fun _ => hn
                    have D3 := Lib.hid hD
                    have SS := Lib.hid hC
                    clear hn hR hD hC hA HRL
                    skip
                    go_wp2_with fail
                    clear hn'
                    go_loopw [14, 17] (fun wv t wr => ∃ j : Nat, j ≤ n ∧ t = .int .i64 j ∧ wv = .int .i64 (-1) ∧ RD w wr g a b y p p.hd ∧ SC wr q 0 k1 k2 k3 st) (fun _ t _ => n - (intOf t).toNat)
                    case atStart => exact ⟨0, by omega, rfl, rfl, D3.out, SS.out⟩
                    case round =>
                      obtain ⟨j, hj, rfl, rfl, hD, hC⟩ := hrel
                      have D4 := Lib.hid hD
                      have S4 := Lib.hid hC
                      clear D3 SS hD hC
                      have hwj : IntKind.i64.wrap ((j : Int) + 1) = ((j + 1 : Nat) : Int) := by rw [IntWalk.i64_in _ (by omega)]; omega
                      rcases Nat.lt_or_ge j n with hlt | hge
                      · have hjn : (j : Int) < n := by omega
                        obtain ⟨⟨⟨y1, y2, y3⟩, y4⟩, hys⟩ := Option.isSome_iff_exists.1 (HALL.out j hlt)
                        have lk := look_slot D4.out.m j (by unfold I64; omega) wr rfl true
                        rw [hys] at lk
                        simp only [if_true, Option.getD_some, Option.isSome_some, slV, slC] at lk
                        have hby : Below wr.heap.size wr (wr.alloc (.cells #[.int .i64 y1, .int .i64 y2, .int .i64 y3, .int .i64 y4] 44)) := (Below.refl _ _).alloc (Nat.le_refl _) _
                        have D5 := Lib.hid (D4.out.on hby)
                        have S5 := Lib.hid (S4.out.below hby)
                        clear hys hby D4 S4
                        go_wp2_with fail
                        exact ⟨⟨j + 1, by omega, by simp, rfl, D5.out, S5.out⟩, by simp [intOf]; omega⟩
                      · obtain rfl : n = j := by omega
                        have c1 := S4.out.s1
                        have c2 := S4.out.s2
                        have c3 := S4.out.s3
                        clear hge hj
                        go_wp2_with fail
                        refine (pool_Take_full D4.out.h.at_ (k1, k2, k3) hok.2.1 n I.out.most (by omega) HT1.out HALL.out).mono ?_
                        rintro e w2 ⟨rfl, hp, hkp⟩
                        have DD := Lib.hid (D4.out.step hp hkp)
                        clear hp hkp
                        go_wp2_with fail
                        go_meet
                        exact ⟨_, DD.out, I.out.idle⟩
                  · have hlen2 : (left.eraseIdx ii).length < left.length := by
                      have := (List.getElem?_eq_some_iff.1 hi2).1
                      rw [List.length_eraseIdx_of_lt this]; omega
                    have HL2 := Lib.hid hlen2
                    obtain ⟨t5, ⟨x1, x2, x3⟩, u5⟩ := qq
                    have hgq := getL_of_mem hD.m.apart hq
                    have hc2 := (I.out.c2 _ _ _ hgq).1
                    have hA2 : KeysApart (left.eraseIdx ii) := List.Pairwise.sublist (List.eraseIdx_sublist _ _) hA
                    have hD2 := hD.kept hk1 (by omega) (by omega) (by omega) (by omega) (by omega)
                    have hC2 := hC.kept hk1 (fun e => by have e2 : q = r := e; omega)
                    have hbk : Below W6.heap.size W6 (W6.alloc (.cells #[.int .i64 x1, .int .i64 x2, .int .i64 x3, .int .i64 u5] 44)) := (Below.refl _ _).alloc (Nat.le_refl _) _
                    have GG := Lib.hid (⟨hD2.on hbk, hR1.below hbk, hC2.below hbk, hA2⟩ : RD w (W6.alloc (.cells #[.int .i64 x1, .int .i64 x2, .int .i64 x3, .int .i64 u5] 44)) g a b y p p.hd ∧ RangeT nV slV I64 (W6.alloc (.cells #[.int .i64 x1, .int .i64 x2, .int .i64 x3, .int .i64 u5] 44)) y r p.hd (left.eraseIdx ii) ∧ SC (W6.alloc (.cells #[.int .i64 x1, .int .i64 x2, .int .i64 x3, .int .i64 u5] 44)) q 0 k1 k2 k3 st ∧ KeysApart (left.eraseIdx ii))
                    have c1 := hC2.s1
                    have c2 := hC2.s2
                    have c3 := hC2.s3
                    have hq6 := size_lt c1
                    simp only [slV, slC, nV] at hn hen
                    have hn' : ∀ ty, (Instr.next (.pointer (some ⟨r, 0, none⟩)) false ty).run Try.prog wr = .ok (.tuple #[.bool true, .int .i64 t5, .agg #[.int .i64 x1, .int .i64 x2, .int .i64 x3, .int .i64 u5]]) W6 := fun _ => hn
                    have hek : eqK x1 x2 x3 k1 k2 k3 = false := by
                      cases hq9 : eqK x1 x2 x3 k1 k2 k3 with
                      | false => rfl
                      | true =>
                        have e9 := (eqK_iff _ _ _ _ _ _).1 hq9
                        rw [e9] at hc2
                        have := HT1.out
                        rw [hc2] at this; cases this
                    clear hn hq hi2 hR1 hk1 hz1 hbk hD2 hC2 hR hD hC hA hA2 hlen2 hgq hc2
                    go_wp2_with fail
                    exact ⟨⟨_, rfl, GG.out⟩, by rw [GG.out.2.1.left_eq, HRL.out]; exact HL2.out⟩
            · skip
              as_aux_lemma =>
                have hfree' : getL p.hd (t0 : Int) = none := by
                  cases hq : getL p.hd (t0 : Int) with
                  | none => rfl
                  | some z => rw [hq] at hfree; cases hfree
                have htI : I64 (t0 : Int) := by unfold I64; omega
                have HGU := Lib.hid hfree'
                have IH := Lib.hid (I.out.new (k1, k2, k3) hok.2.1 (t0 : Int) (by omega) (by omega) HT1.out hfree')
                have HALL := Lib.hid hall
                clear hall hfree hfree'
                obtain ⟨W5, hr, hRr, hBr, hzr⟩ := D3.out.m.range Try.underlying42
                have E0 := Lib.hid (⟨D3.out.on hBr, hRr, SS.out.below hBr, D3.out.m.apart⟩ : RD w W5 g a b y p p.hd ∧ RangeT nV slV I64 W5 y W3.heap.size p.hd p.hd ∧ SC W5 q 0 k1 k2 k3 st ∧ KeysApart p.hd)
                obtain ⟨mg, ma, mb, my, mw⟩ := D3.out.lts
                have mq := size_lt SS.out.s0
                clear hRr hBr hzr D3 SS
                go_wp2_with fail
                clear hr
                generalize W3.heap.size = r at E0 mg ma mb my mw mq ⊢
                go_loopw [14] (fun t wr => ∃ left : List (Int × Sl), t = .int .i64 (-1) ∧ RD w wr g a b y p p.hd ∧ RangeT nV slV I64 wr y r p.hd left ∧ SC wr q 0 k1 k2 k3 st ∧ KeysApart left) (fun _ wr => wr.rangeLeft y r)
                case atStart => exact ⟨p.hd, by rfl, E0.out⟩
                case round =>
                  obtain ⟨left, rfl, hD, hR, hC, hA⟩ := hrel
                  clear E0
                  have HRL := Lib.hid hR.left_eq
                  rcases hR.next (P := Try.prog) 0 with ⟨rfl, hn⟩ | ⟨ii, qq, W6, hi2, hq, hn, hR1, hk1, hz1, hen⟩
                  · have hn' : ∀ ty, (Instr.next (.pointer (some ⟨r, 0, none⟩)) false ty).run Try.prog wr = .ok (.tuple #[.bool false]) wr := fun _ => hn
                    have D3 := Lib.hid hD
                    have SS := Lib.hid hC
                    clear hn hR hD hC hA HRL
                    skip
                    go_wp2_with fail
                    clear hn'
                    go_loopw [14, 17] (fun wv t wr => ∃ j : Nat, j ≤ t0 + 1 ∧ t = .int .i64 j ∧ wv = .int .i64 (if j = t0 + 1 then (t0 : Int) else -1) ∧ RD w wr g a b y p p.hd ∧ SC wr q 0 k1 k2 k3 st) (fun _ t _ => n + 1 - (intOf t).toNat)
                    case atStart => exact ⟨0, by omega, rfl, rfl, D3.out, SS.out⟩
                    case round =>
                      obtain ⟨j, hj, rfl, rfl, hD, hC⟩ := hrel
                      have D4 := Lib.hid hD
                      have S4 := Lib.hid hC
                      clear D3 SS hD hC
                      have hwj : IntKind.i64.wrap ((j : Int) + 1) = ((j + 1 : Nat) : Int) := by rw [IntWalk.i64_in _ (by omega)]; omega
                      rcases (by omega : j < t0 ∨ j = t0 ∨ j = t0 + 1) with hlt | rfl | rfl
                      · rw [if_neg (by omega)]
                        have hjn : (j : Int) < n := by omega
                        obtain ⟨⟨⟨y1, y2, y3⟩, y4⟩, hys⟩ := Option.isSome_iff_exists.1 (HALL.out j hlt)
                        have lk := look_slot D4.out.m j (by unfold I64; omega) wr rfl true
                        rw [hys] at lk
                        simp only [if_true, Option.getD_some, Option.isSome_some, slV, slC] at lk
                        have hby : Below wr.heap.size wr (wr.alloc (.cells #[.int .i64 y1, .int .i64 y2, .int .i64 y3, .int .i64 y4] 44)) := (Below.refl _ _).alloc (Nat.le_refl _) _
                        have D5 := Lib.hid (D4.out.on hby)
                        have S5 := Lib.hid (S4.out.below hby)
                        clear hys hby D4 S4
                        go_wp2_with fail
                        exact ⟨⟨j + 1, by omega, by simp, by rw [if_neg (by omega)], D5.out, S5.out⟩, by simp [intOf]; omega⟩
                      · rw [if_neg (by omega)]
                        have hjn : (j : Int) < n := by omega
                        have lk := look_slot D4.out.m j (by unfold I64; omega) wr rfl true
                        rw [HGU.out] at lk
                        simp only [if_true, Option.getD_none, Option.isSome_none, slV, slC] at lk
                        have hby : Below wr.heap.size wr (wr.alloc (.cells #[.int .i64 0, .int .i64 0, .int .i64 0, .int .i64 0] 44)) := (Below.refl _ _).alloc (Nat.le_refl _) _
                        have D5 := Lib.hid (D4.out.on hby)
                        have S5 := Lib.hid (S4.out.below hby)
                        clear hby D4 S4
                        go_wp2_with fail
                        exact ⟨⟨j + 1, by omega, by simp, by rw [if_pos rfl], D5.out, S5.out⟩, by simp [intOf]; omega⟩
                      · rw [if_pos rfl]
                        have c1 := S4.out.s1
                        have c2 := S4.out.s2
                        have c3 := S4.out.s3
                        have hneg : ¬ ((t0 : Int) < 0) := by omega
                        clear hj
                        have SS := S4
                        by_cases hjn : ((t0 + 1 : Nat) : Int) < n
                        all_goals
                          go_wp2_with fail
                          refine (pool_Take_new D4.out.h.at_ (k1, k2, k3) hok.2.1 (by have := I.out.tgl; unfold maxLen; omega) (by have := I.out.hdl; unfold maxLen; omega) n I.out.most (by omega) HT1.out t0 ht0 HGU.out HALL.out).mono ?_
                          rintro e w2 ⟨rfl, hp, hkp⟩
                          have DD := Lib.hid (D4.out.step hp hkp)
                          have SD := Lib.hid (SS.out.kept hkp hqo)
                          clear hp hkp D4 SS c1 c2 c3
                          have lks := look_slot DD.out.m ((t0 : Int)) htI w2 rfl false
                          obtain ⟨o1, hs1, hm1⟩ := store_slot DD.out.m ((t0 : Int)) htI k1 k2 k3 (1) (by have := I.out.hdl; unfold maxLen; omega) w2 rfl
                          rw [HGU.out] at lks
                          simp only [Bool.false_eq_true, if_false, Option.getD_none, slV, slC] at lks
                          skip
                          have c1 := SD.out.s1
                          have c2 := SD.out.s2
                          have c3 := SD.out.s3
                          go_wp2_with fail
                          have DF := DD.out.put (kept_set o1) hm1
                          go_meet
                          exact ⟨_, DF, IH.out⟩
                  · have hlen2 : (left.eraseIdx ii).length < left.length := by
                      have := (List.getElem?_eq_some_iff.1 hi2).1
                      rw [List.length_eraseIdx_of_lt this]; omega
                    have HL2 := Lib.hid hlen2
                    obtain ⟨t5, ⟨x1, x2, x3⟩, u5⟩ := qq
                    have hgq := getL_of_mem hD.m.apart hq
                    have hc2 := (I.out.c2 _ _ _ hgq).1
                    have hA2 : KeysApart (left.eraseIdx ii) := List.Pairwise.sublist (List.eraseIdx_sublist _ _) hA
                    have hD2 := hD.kept hk1 (by omega) (by omega) (by omega) (by omega) (by omega)
                    have hC2 := hC.kept hk1 (fun e => by have e2 : q = r := e; omega)
                    have hbk : Below W6.heap.size W6 (W6.alloc (.cells #[.int .i64 x1, .int .i64 x2, .int .i64 x3, .int .i64 u5] 44)) := (Below.refl _ _).alloc (Nat.le_refl _) _
                    have GG := Lib.hid (⟨hD2.on hbk, hR1.below hbk, hC2.below hbk, hA2⟩ : RD w (W6.alloc (.cells #[.int .i64 x1, .int .i64 x2, .int .i64 x3, .int .i64 u5] 44)) g a b y p p.hd ∧ RangeT nV slV I64 (W6.alloc (.cells #[.int .i64 x1, .int .i64 x2, .int .i64 x3, .int .i64 u5] 44)) y r p.hd (left.eraseIdx ii) ∧ SC (W6.alloc (.cells #[.int .i64 x1, .int .i64 x2, .int .i64 x3, .int .i64 u5] 44)) q 0 k1 k2 k3 st ∧ KeysApart (left.eraseIdx ii))
                    have c1 := hC2.s1
                    have c2 := hC2.s2
                    have c3 := hC2.s3
                    have hq6 := size_lt c1
                    simp only [slV, slC, nV] at hn hen
                    have hn' : ∀ ty, (Instr.next (.pointer (some ⟨r, 0, none⟩)) false ty).run Try.prog wr = .ok (.tuple #[.bool true, .int .i64 t5, .agg #[.int .i64 x1, .int .i64 x2, .int .i64 x3, .int .i64 u5]]) W6 := fun _ => hn
                    have hek : eqK x1 x2 x3 k1 k2 k3 = false := by
                      cases hq9 : eqK x1 x2 x3 k1 k2 k3 with
                      | false => rfl
                      | true =>
                        have e9 := (eqK_iff _ _ _ _ _ _).1 hq9
                        rw [e9] at hc2
                        have := HT1.out
                        rw [hc2] at this; cases this
                    clear hn hq hi2 hR1 hk1 hz1 hbk hD2 hC2 hR hD hC hA hA2 hlen2 hgq hc2
                    go_wp2_with fail
                    exact ⟨⟨_, rfl, GG.out⟩, by rw [GG.out.2.1.left_eq, HRL.out]; exact HL2.out⟩
        · have h0' : (sk == 0) = false := by rw [beq_eq_false_iff_ne]; exact h0
          by_cases h1 : sk = 1
          · subst h1
            as_aux_lemma =>
              cases hg : getL p.hd st with
              | none =>
                have lk := look_slot D3.out.m st hok.2.2 W3 rfl true
                rw [hg] at lk
                simp only [if_true, Option.getD_none, Option.isSome_none, slV, slC] at lk
                have hby : Below W3.heap.size W3 (W3.alloc (.cells #[.int .i64 0, .int .i64 0, .int .i64 0, .int .i64 0] 44)) := (Below.refl _ _).alloc (Nat.le_refl _) _
                have D4 := Lib.hid (D3.out.on hby)
                have HT := Lib.hid (pool_Give_no (D3.out.on hby).h.at_ st hok.2.2 (by rw [hg]; rfl))
                have lq := size_lt s0
                clear hby hg D3 SS
                go_wp2_with fail
                refine HT.out.mono ?_
                rintro e w5 ⟨rfl, hb⟩
                have D5 := Lib.hid (D4.out.on hb)
                clear hb HT D4 s0 s1 s2 s3 s4 lk
                go_wp2_with fail
                go_meet
                exact ⟨_, D5.out, I.out.idle⟩
              | some z5 =>
                obtain ⟨⟨j1, j2, j3⟩, u⟩ := z5
                obtain ⟨-, hu0, hui, hkj, -, -⟩ := I.out.c2 _ _ _ hg
                have lk := look_slot D3.out.m st hok.2.2 W3 rfl true
                rw [hg] at lk
                simp only [if_true, Option.getD_some, Option.isSome_some, slV, slC] at lk
                have hby : Below W3.heap.size W3 (W3.alloc (.cells #[.int .i64 j1, .int .i64 j2, .int .i64 j3, .int .i64 u] 44)) := (Below.refl _ _).alloc (Nat.le_refl _) _
                have D4 := Lib.hid (D3.out.on hby)
                have S4 := Lib.hid (SS.out.below hby)
                have r0 : (W3.alloc (.cells #[.int .i64 j1, .int .i64 j2, .int .i64 j3, .int .i64 u] 44)).cell? ⟨W3.heap.size, 0, none⟩ = some (.int .i64 j1) := by simp
                have r1 : (W3.alloc (.cells #[.int .i64 j1, .int .i64 j2, .int .i64 j3, .int .i64 u] 44)).cell? ⟨W3.heap.size, 1, none⟩ = some (.int .i64 j2) := by simp
                have r2 : (W3.alloc (.cells #[.int .i64 j1, .int .i64 j2, .int .i64 j3, .int .i64 u] 44)).cell? ⟨W3.heap.size, 2, none⟩ = some (.int .i64 j3) := by simp
                have r3 : (W3.alloc (.cells #[.int .i64 j1, .int .i64 j2, .int .i64 j3, .int .i64 u] 44)).cell? ⟨W3.heap.size, 3, none⟩ = some (.int .i64 u) := by simp
                have lq := size_lt s0
                obtain ⟨zg, za, zb, zy, zw⟩ := D3.out.lts
                have HG := Lib.hid hg
                clear hby hg D3 SS
                go_wp2_with fail
                generalize W3.alloc (.cells #[.int .i64 j1, .int .i64 j2, .int .i64 j3, .int .i64 u] 44) = W4 at D4 S4 r0 r1 r2 r3 ⊢
                clear s0 s1 s2 s3 s4 lk
                generalize W3.heap.size = z at r0 r1 r2 r3 lq zg za zb zy zw ⊢
                have hzo : ¬ Of2 a b z := by rintro (e | e) <;> omega
                by_cases hu : u = 0
                · subst hu
                  refine (pool_Give_no D4.out.h.at_ st hok.2.2 (by rw [HG.out]; rfl)).mono ?_
                  rintro e w5 ⟨rfl, hb⟩
                  have D5 := Lib.hid (D4.out.on hb)
                  replace r3 := cell_below r3 hb
                  clear hb D4 S4 r0 r1 r2
                  go_wp2_with fail
                  go_meet
                  exact ⟨_, D5.out, I.out.idle⟩
                · have IH := Lib.hid (I.out.give (j1, j2, j3) st u HG.out (by omega))
                  refine (pool_Give_yes D4.out.h.at_ st hok.2.2 (j1, j2, j3) u HG.out (by omega) (by omega) (by have := I.out.hdl; unfold maxLen; omega)).mono ?_
                  rintro e w5 ⟨rfl, hp, hkp⟩
                  have D5 := Lib.hid (D4.out.step hp hkp)
                  have S5 := Lib.hid (S4.out.kept hkp hqo)
                  replace r0 := hkp.cell r0 hzo
                  replace r1 := hkp.cell r1 hzo
                  replace r2 := hkp.cell r2 hzo
                  replace r3 := hkp.cell r3 hzo
                  clear hp hkp D4 S4
                  obtain ⟨o1, hs1, hm1⟩ := store_slot D5.out.m st hok.2.2 j1 j2 j3 (u - 1) (by have := I.out.hdl; unfold maxLen; omega) w5 rfl
                  have D6 := Lib.hid (D5.out.put (kept_set o1) hm1)
                  have S6 := Lib.hid (S5.out.kept (kept_set o1) (fun e => by have e2 : q = y := e; omega))
                  have hwu : IntKind.i64.wrap (u - 1) = u - 1 := IntWalk.i64_in _ (by omega)
                  have hpos : 0 < u := by omega
                  have t0 := S6.out.s0
                  have t4 := S5.out.s4
                  clear hm1
                  go_wp2_with fail
                  go_meet
                  exact ⟨_, D6.out, IH.out⟩
          · have h1' : (sk == 1) = false := by rw [beq_eq_false_iff_ne]; exact h1
            by_cases h4 : sk = 4
            · subst h4
              as_aux_lemma =>
                cases hg : getL p.hd st with
                | none =>
                  have lk := look_slot D3.out.m st hok.2.2 W3 rfl true
                  rw [hg] at lk
                  simp only [if_true, Option.getD_none, Option.isSome_none, slV, slC] at lk
                  have hby : Below W3.heap.size W3 (W3.alloc (.cells #[.int .i64 0, .int .i64 0, .int .i64 0, .int .i64 0] 44)) := (Below.refl _ _).alloc (Nat.le_refl _) _
                  have D4 := Lib.hid (D3.out.on hby)
                  have HT := Lib.hid (pool_Drop_no (D3.out.on hby).h.at_ st hok.2.2 (by rw [hg]; rfl))
                  have lq := size_lt s0
                  clear hby hg D3 SS
                  go_wp2_with fail
                  refine HT.out.mono ?_
                  rintro e w5 ⟨rfl, hb⟩
                  have D5 := Lib.hid (D4.out.on hb)
                  clear hb HT D4 s0 s1 s2 s3 s4 lk
                  go_wp2_with fail
                  go_meet
                  exact ⟨_, D5.out, I.out.idle⟩
                | some z5 =>
                  obtain ⟨⟨j1, j2, j3⟩, u⟩ := z5
                  obtain ⟨-, hu0, hui, hkj, -, -⟩ := I.out.c2 _ _ _ hg
                  have lk := look_slot D3.out.m st hok.2.2 W3 rfl true
                  rw [hg] at lk
                  simp only [if_true, Option.getD_some, Option.isSome_some, slV, slC] at lk
                  have hby : Below W3.heap.size W3 (W3.alloc (.cells #[.int .i64 j1, .int .i64 j2, .int .i64 j3, .int .i64 u] 44)) := (Below.refl _ _).alloc (Nat.le_refl _) _
                  have D4 := Lib.hid (D3.out.on hby)
                  have S4 := Lib.hid (SS.out.below hby)
                  have r0 : (W3.alloc (.cells #[.int .i64 j1, .int .i64 j2, .int .i64 j3, .int .i64 u] 44)).cell? ⟨W3.heap.size, 0, none⟩ = some (.int .i64 j1) := by simp
                  have r1 : (W3.alloc (.cells #[.int .i64 j1, .int .i64 j2, .int .i64 j3, .int .i64 u] 44)).cell? ⟨W3.heap.size, 1, none⟩ = some (.int .i64 j2) := by simp
                  have r2 : (W3.alloc (.cells #[.int .i64 j1, .int .i64 j2, .int .i64 j3, .int .i64 u] 44)).cell? ⟨W3.heap.size, 2, none⟩ = some (.int .i64 j3) := by simp
                  have r3 : (W3.alloc (.cells #[.int .i64 j1, .int .i64 j2, .int .i64 j3, .int .i64 u] 44)).cell? ⟨W3.heap.size, 3, none⟩ = some (.int .i64 u) := by simp
                  have lq := size_lt s0
                  obtain ⟨zg, za, zb, zy, zw⟩ := D3.out.lts
                  have HG := Lib.hid hg
                  clear hby hg D3 SS
                  go_wp2_with fail
                  generalize W3.alloc (.cells #[.int .i64 j1, .int .i64 j2, .int .i64 j3, .int .i64 u] 44) = W4 at D4 S4 r0 r1 r2 r3 ⊢
                  clear s0 s1 s2 s3 s4 lk
                  generalize W3.heap.size = z at r0 r1 r2 r3 lq zg za zb zy zw ⊢
                  have hzo : ¬ Of2 a b z := by rintro (e | e) <;> omega
                  by_cases hu : u = 0
                  · subst hu
                    refine (pool_Drop_no D4.out.h.at_ st hok.2.2 (by rw [HG.out]; rfl)).mono ?_
                    rintro e w5 ⟨rfl, hb⟩
                    have D5 := Lib.hid (D4.out.on hb)
                    replace r3 := cell_below r3 hb
                    clear hb D4 S4 r0 r1 r2
                    go_wp2_with fail
                    go_meet
                    exact ⟨_, D5.out, I.out.idle⟩
                  · have HY := Lib.hid (pool_Drop_yes D4.out.h.at_ st hok.2.2 (j1, j2, j3) hkj u HG.out (by omega) (by omega) (by have := I.out.hdl; unfold maxLen; omega))
                    have hpos : 0 < u := by omega
                    by_cases hu1 : u = 1
                    · subst hu1
                      have IH := Lib.hid (I.out.drop (j1, j2, j3) st 1 HG.out)
                      simp only [if_true] at HY
                      refine HY.out.mono ?_
                      rintro e w5 ⟨rfl, hp, hkp⟩
                      have D5 := Lib.hid (D4.out.step hp hkp)
                      have S5 := Lib.hid (S4.out.kept hkp hqo)
                      replace r0 := hkp.cell r0 hzo
                      replace r1 := hkp.cell r1 hzo
                      replace r2 := hkp.cell r2 hzo
                      replace r3 := hkp.cell r3 hzo
                      clear hp hkp D4 S4 HY
                      obtain ⟨o1, hs1, hm1⟩ := store_slot D5.out.m st hok.2.2 j1 j2 j3 0 (by have := I.out.hdl; unfold maxLen; omega) w5 rfl
                      have D6 := Lib.hid (D5.out.put (kept_set o1) hm1)
                      have S6 := Lib.hid (S5.out.kept (kept_set o1) (fun e => by have e2 : q = y := e; omega))
                      have r3' := (kept_set o1).cell r3 (fun e => by have e2 : z = y := e; omega)
                      obtain ⟨o2, hs2, hm2⟩ := drop_slot hm1 st hok.2.2 (ChangeMaps.setBlock w5 y o1) rfl
                      have D7 := Lib.hid (D6.out.put (kept_set o2) hm2)
                      have t0 := S6.out.s0
                      have t4 := S5.out.s4
                      have t5 := S6.out.s4
                      clear hm1 hm2
                      go_wp2_with fail
                      go_meet
                      exact ⟨_, D7.out, IH.out⟩
                    · have IH := Lib.hid (I.out.give (j1, j2, j3) st u HG.out (by omega))
                      have hne1 : (u == 1) = false := by rw [beq_eq_false_iff_ne]; exact hu1
                      rw [if_neg hu1] at HY
                      refine HY.out.mono ?_
                      rintro e w5 ⟨rfl, hp, hkp⟩
                      have D5 := Lib.hid (D4.out.step hp hkp)
                      have S5 := Lib.hid (S4.out.kept hkp hqo)
                      replace r0 := hkp.cell r0 hzo
                      replace r1 := hkp.cell r1 hzo
                      replace r2 := hkp.cell r2 hzo
                      replace r3 := hkp.cell r3 hzo
                      clear hp hkp D4 S4 HY
                      obtain ⟨o1, hs1, hm1⟩ := store_slot D5.out.m st hok.2.2 j1 j2 j3 (u - 1) (by have := I.out.hdl; unfold maxLen; omega) w5 rfl
                      have D6 := Lib.hid (D5.out.put (kept_set o1) hm1)
                      have S6 := Lib.hid (S5.out.kept (kept_set o1) (fun e => by have e2 : q = y := e; omega))
                      have r3' := (kept_set o1).cell r3 (fun e => by have e2 : z = y := e; omega)
                      have hwu : IntKind.i64.wrap (u - 1) = u - 1 := IntWalk.i64_in _ (by omega)
                      have t0 := S6.out.s0
                      have t4 := S5.out.s4
                      clear hm1 hu1
                      go_wp2_with fail
                      go_meet
                      exact ⟨_, D6.out, IH.out⟩
            · have h4' : (sk == 4) = false := by rw [beq_eq_false_iff_ne]; exact h4
              by_cases h2 : sk = 2
              · subst h2
                as_aux_lemma =>
                  have hN0 : ∀ e ∈ p.hd, 0 ≤ e.1 ∧ e.1 < (n : Int) := fun e he => by
                    have := I.out.c2 e.1 e.2.1 e.2.2 (getL_of_mem D3.out.h.at_.hd.apart he)
                    exact ⟨this.2.2.2.2.1, this.2.2.2.2.2⟩
                  have HN0 := Lib.hid hN0
                  have HAP := Lib.hid D3.out.h.at_.hd.apart
                  obtain ⟨e1, e2⟩ := sw_start p.hd fun e he => (hN0 e he).1
                  have E0 : Hid (RD w W3 g a b y p (swL p.hd 0)) := Lib.hid (by rw [e1]; exact D3.out)
                  have E2 := Lib.hid e2
                  clear hN0 e1 e2 s0 s1 s2 s3 s4 SS D3
                  go_wp2_with fail
                  go_loopw [25, 26] (fun nv t wr => ∃ j : Nat, j ≤ n ∧ t = .int .i64 j ∧ nv = .int .i64 (swN p.hd j) ∧ RD w wr g a b y p (swL p.hd j)) (fun _ t _ => n - (intOf t).toNat)
                  case atStart => exact ⟨0, by omega, rfl, by rw [E2.out]; rfl, E0.out⟩
                  case round =>
                    obtain ⟨j, hj, rfl, rfl, hD⟩ := hrel
                    have D4 := Lib.hid hD
                    clear E0 E2 hD
                    have hwj : IntKind.i64.wrap ((j : Int) + 1) = ((j + 1 : Nat) : Int) := by rw [IntWalk.i64_in _ (by omega)]; omega
                    have hsn := swN_le p.hd j
                    have hhd := I.out.hdl
                    rcases Nat.lt_or_ge j n with hlt | hge
                    · have hjn : (j : Int) < n := by omega
                      have hjI : I64 (j : Int) := by unfold I64; omega
                      cases hg : getL (swL p.hd j) (j : Int) with
                      | none =>
                        have HW := Lib.hid ((sw_step HAP.out j).2 fun k u h => by rw [hg] at h; cases h)
                        have lk := look_slot D4.out.m j hjI wr rfl true
                        rw [hg] at lk
                        simp only [if_true, Option.getD_none, Option.isSome_none, slV, slC] at lk
                        have hby : Below wr.heap.size wr (wr.alloc (.cells #[.int .i64 0, .int .i64 0, .int .i64 0, .int .i64 0] 44)) := (Below.refl _ _).alloc (Nat.le_refl _) _
                        have D5 := Lib.hid (D4.out.on hby)
                        clear hg hby D4
                        go_wp2_with fail
                        exact ⟨⟨j + 1, by omega, by simp, by rw [HW.out.2], by rw [HW.out.1]; exact D5.out⟩, by simp [intOf]; omega⟩
                      | some z5 =>
                        obtain ⟨⟨j1, j2, j3⟩, u⟩ := z5
                        have lk := look_slot D4.out.m j hjI wr rfl true
                        rw [hg] at lk
                        simp only [if_true, Option.getD_some, Option.isSome_some, slV, slC] at lk
                        have hby : Below wr.heap.size wr (wr.alloc (.cells #[.int .i64 j1, .int .i64 j2, .int .i64 j3, .int .i64 u] 44)) := (Below.refl _ _).alloc (Nat.le_refl _) _
                        have D5 := Lib.hid (D4.out.on hby)
                        clear hby D4
                        by_cases hu : u = 0
                        · subst hu
                          have HW := Lib.hid ((sw_step HAP.out j).1 _ _ hg rfl)
                          obtain ⟨o1, hs1, hm1⟩ := drop_slot D5.out.m j hjI (wr.alloc (.cells #[.int .i64 j1, .int .i64 j2, .int .i64 j3, .int .i64 0] 44)) rfl
                          have D6 := Lib.hid (D5.out.put (kept_set o1) hm1)
                          have hwn : IntKind.i64.wrap ((swN p.hd j : Int) + 1) = ((swN p.hd j + 1 : Nat) : Int) := by rw [IntWalk.i64_in _ (by omega)]; omega
                          clear hg hm1 D5
                          go_wp2_with fail
                          exact ⟨⟨j + 1, by omega, by simp, by rw [HW.out.2]; rfl, by rw [HW.out.1]; exact D6.out⟩, by simp [intOf]; omega⟩
                        · have HW := Lib.hid ((sw_step HAP.out j).2 fun k v h => by rw [hg] at h; injection h with h; injection h with _ h; rw [← h]; exact hu)
                          have hue : (u == 0) = false := by rw [beq_eq_false_iff_ne]; exact hu
                          clear hg hu
                          go_wp2_with fail
                          exact ⟨⟨j + 1, by omega, by simp, by rw [HW.out.2], by rw [HW.out.1]; exact D5.out⟩, by simp [intOf]; omega⟩
                    · obtain rfl : n = j := by omega
                      obtain ⟨x1, x2⟩ := sw_end p.hd n fun e he => (HN0.out e he).2
                      have HX := Lib.hid (And.intro x1 x2)
                      have hjn : ¬ ((n : Int) < n) := by omega
                      have IS := Lib.hid (I.out.sweep D4.out.h.at_.tg.apart D4.out.h.at_.hd.apart)
                      have HS := Lib.hid (pool_Sweep D4.out.h.at_ (by omega) (fun e he => (I.out.c2 e.1 e.2.1 e.2.2 (getL_of_mem HAP.out he)).2.2.2.1))
                      clear hge hj x1 x2 hsn hhd hwj
                      go_wp2_with fail
                      refine HS.out.mono ?_
                      rintro e w5 ⟨rfl, hp, hkp⟩
                      have D5 := Lib.hid (D4.out.step hp hkp)
                      clear hp hkp HS D4
                      rw [← HX.out.2]
                      go_wp2_with fail
                      go_meet
                      exact ⟨_, by have := D5.out; rw [HX.out.1] at this; exact this, IS.out⟩
              · have h2' : (sk == 2) = false := by rw [beq_eq_false_iff_ne]; exact h2
                by_cases h3 : sk = 3
                · subst h3
                  as_aux_lemma =>
                    cases hg : getL p.hd st with
                    | none =>
                      skip
                      have HK := pool_Key D3.out.h.at_ st hok.2.2
                      rw [hg] at HK
                      simp only [Option.getD_none, Option.isSome_none] at HK
                      have HK2 := Lib.hid HK
                      have HG := Lib.hid hg
                      clear hg HK s0 s1 s2 s3
                      go_wp2_with fail
                      refine HK2.out.mono ?_
                      rintro e w5 ⟨rfl, hb⟩
                      have hbk : Below w5.heap.size w5 (w5.alloc (.cells #[.int .i64 0, .int .i64 0, .int .i64 0] 30)) := (Below.refl _ _).alloc (Nat.le_refl _) _
                      have D5 := Lib.hid ((D3.out.on hb).on hbk)
                      have S5 := Lib.hid ((SS.out.below hb).below hbk)
                      have lk := look_slot ((D3.out.on hb).on hbk).m st hok.2.2 (w5.alloc (.cells #[.int .i64 0, .int .i64 0, .int .i64 0] 30)) rfl true
                      rw [HG.out] at lk
                      simp only [if_true, Option.getD_none, Option.isSome_none, slV, slC] at lk
                      have r0 : (w5.alloc (.cells #[.int .i64 0, .int .i64 0, .int .i64 0] 30)).cell? ⟨w5.heap.size, 0, none⟩ = some (.int .i64 0) := by simp
                      have r1 : (w5.alloc (.cells #[.int .i64 0, .int .i64 0, .int .i64 0] 30)).cell? ⟨w5.heap.size, 1, none⟩ = some (.int .i64 0) := by simp
                      have r2 : (w5.alloc (.cells #[.int .i64 0, .int .i64 0, .int .i64 0] 30)).cell? ⟨w5.heap.size, 2, none⟩ = some (.int .i64 0) := by simp
                      clear hb hbk D3 SS HK2
                      go_upto_region 64 with fail
                      generalize w5.alloc (.cells #[.int .i64 0, .int .i64 0, .int .i64 0] 30) = W6 at D5 S5 lk r0 r1 r2 ⊢
                      generalize w5.heap.size = z at r0 r1 r2 ⊢
                      have s4' := S5.out.s4
                      have hbs : Below W6.heap.size W6 (W6.alloc (.cells #[.int .i64 0, .int .i64 0, .int .i64 0, .int .i64 0] 44)) := (Below.refl _ _).alloc (Nat.le_refl _) _
                      have D7 := Lib.hid (D5.out.on hbs)
                      replace r0 := cell_below r0 hbs
                      replace r1 := cell_below r1 hbs
                      replace r2 := cell_below r2 hbs
                      have s4'' := cell_below s4' hbs
                      have t0 : (W6.alloc (.cells #[.int .i64 0, .int .i64 0, .int .i64 0, .int .i64 0] 44)).cell? ⟨W6.heap.size, 0, none⟩ = some (.int .i64 0) := by simp
                      have t1 : (W6.alloc (.cells #[.int .i64 0, .int .i64 0, .int .i64 0, .int .i64 0] 44)).cell? ⟨W6.heap.size, 1, none⟩ = some (.int .i64 0) := by simp
                      have t2 : (W6.alloc (.cells #[.int .i64 0, .int .i64 0, .int .i64 0, .int .i64 0] 44)).cell? ⟨W6.heap.size, 2, none⟩ = some (.int .i64 0) := by simp
                      have t3 : (W6.alloc (.cells #[.int .i64 0, .int .i64 0, .int .i64 0, .int .i64 0] 44)).cell? ⟨W6.heap.size, 3, none⟩ = some (.int .i64 0) := by simp
                      have hlq := size_lt s4'
                      clear hbs
                      go_upto_region 65 with fail
                      generalize W6.alloc (.cells #[.int .i64 0, .int .i64 0, .int .i64 0, .int .i64 0] 44) = Wl at D7 r0 r1 r2 s4'' t0 t1 t2 t3 ⊢
                      clear lk s4' s4 hlq D5 S5
                      generalize W6.heap.size = z2 at t0 t1 t2 t3 ⊢
                      have HU : Hid (∀ nq, Calls Try.prog 14 #[pt g, .int .i64 st] (Wl.drewN nq) fun e w' => e = .returned (.int .i64 0) ∧ w' = Wl.drewN nq) := Lib.hid fun nq => by
                        have hB9 : Below Wl.heap.size Wl (Wl.drewN nq) := ⟨rfl, rfl, rfl, Nat.le_refl _, fun _ _ => rfl⟩
                        have := pool_Uses (D7.out.on hB9).h.at_ st hok.2.2
                        rw [HG.out] at this
                        exact this.mono fun e w' h => ⟨h.1, h.2.symm⟩
                      have ek := eqK_yes 0 0 0
                      go_quiet ((go_at_call 14; exact Calls.quiet_of_same (HU.out _)))
                      have hB9 : Below Wl.heap.size Wl (Wl.drewN nq) := ⟨rfl, rfl, rfl, Nat.le_refl _, fun _ _ => rfl⟩
                      generalize Wl.drewN nq = W9 at hB9 ⊢
                      have D9 := Lib.hid (D7.out.on hB9)
                      clear hB9 r0 r1 r2 s4'' t0 t1 t2 t3 D7 HU
                      go_wp2_with fail
                      go_meet
                      exact ⟨_, D9.out, I.out.idle⟩
                    | some z5 =>
                      obtain ⟨⟨j1, j2, j3⟩, u⟩ := z5
                      have HK := pool_Key D3.out.h.at_ st hok.2.2
                      rw [hg] at HK
                      simp only [Option.getD_some, Option.isSome_some] at HK
                      have HK2 := Lib.hid HK
                      have HG := Lib.hid hg
                      clear hg HK s0 s1 s2 s3
                      go_wp2_with fail
                      refine HK2.out.mono ?_
                      rintro e w5 ⟨rfl, hb⟩
                      have hbk : Below w5.heap.size w5 (w5.alloc (.cells #[.int .i64 j1, .int .i64 j2, .int .i64 j3] 30)) := (Below.refl _ _).alloc (Nat.le_refl _) _
                      have D5 := Lib.hid ((D3.out.on hb).on hbk)
                      have S5 := Lib.hid ((SS.out.below hb).below hbk)
                      have lk := look_slot ((D3.out.on hb).on hbk).m st hok.2.2 (w5.alloc (.cells #[.int .i64 j1, .int .i64 j2, .int .i64 j3] 30)) rfl true
                      rw [HG.out] at lk
                      simp only [if_true, Option.getD_some, Option.isSome_some, slV, slC] at lk
                      have r0 : (w5.alloc (.cells #[.int .i64 j1, .int .i64 j2, .int .i64 j3] 30)).cell? ⟨w5.heap.size, 0, none⟩ = some (.int .i64 j1) := by simp
                      have r1 : (w5.alloc (.cells #[.int .i64 j1, .int .i64 j2, .int .i64 j3] 30)).cell? ⟨w5.heap.size, 1, none⟩ = some (.int .i64 j2) := by simp
                      have r2 : (w5.alloc (.cells #[.int .i64 j1, .int .i64 j2, .int .i64 j3] 30)).cell? ⟨w5.heap.size, 2, none⟩ = some (.int .i64 j3) := by simp
                      clear hb hbk D3 SS HK2
                      go_upto_region 64 with fail
                      generalize w5.alloc (.cells #[.int .i64 j1, .int .i64 j2, .int .i64 j3] 30) = W6 at D5 S5 lk r0 r1 r2 ⊢
                      generalize w5.heap.size = z at r0 r1 r2 ⊢
                      have s4' := S5.out.s4
                      have hbs : Below W6.heap.size W6 (W6.alloc (.cells #[.int .i64 j1, .int .i64 j2, .int .i64 j3, .int .i64 u] 44)) := (Below.refl _ _).alloc (Nat.le_refl _) _
                      have D7 := Lib.hid (D5.out.on hbs)
                      replace r0 := cell_below r0 hbs
                      replace r1 := cell_below r1 hbs
                      replace r2 := cell_below r2 hbs
                      have s4'' := cell_below s4' hbs
                      have t0 : (W6.alloc (.cells #[.int .i64 j1, .int .i64 j2, .int .i64 j3, .int .i64 u] 44)).cell? ⟨W6.heap.size, 0, none⟩ = some (.int .i64 j1) := by simp
                      have t1 : (W6.alloc (.cells #[.int .i64 j1, .int .i64 j2, .int .i64 j3, .int .i64 u] 44)).cell? ⟨W6.heap.size, 1, none⟩ = some (.int .i64 j2) := by simp
                      have t2 : (W6.alloc (.cells #[.int .i64 j1, .int .i64 j2, .int .i64 j3, .int .i64 u] 44)).cell? ⟨W6.heap.size, 2, none⟩ = some (.int .i64 j3) := by simp
                      have t3 : (W6.alloc (.cells #[.int .i64 j1, .int .i64 j2, .int .i64 j3, .int .i64 u] 44)).cell? ⟨W6.heap.size, 3, none⟩ = some (.int .i64 u) := by simp
                      have hlq := size_lt s4'
                      clear hbs
                      go_upto_region 65 with fail
                      generalize W6.alloc (.cells #[.int .i64 j1, .int .i64 j2, .int .i64 j3, .int .i64 u] 44) = Wl at D7 r0 r1 r2 s4'' t0 t1 t2 t3 ⊢
                      clear lk s4' s4 hlq D5 S5
                      generalize W6.heap.size = z2 at t0 t1 t2 t3 ⊢
                      have HU : Hid (∀ nq, Calls Try.prog 14 #[pt g, .int .i64 st] (Wl.drewN nq) fun e w' => e = .returned (.int .i64 u) ∧ w' = Wl.drewN nq) := Lib.hid fun nq => by
                        have hB9 : Below Wl.heap.size Wl (Wl.drewN nq) := ⟨rfl, rfl, rfl, Nat.le_refl _, fun _ _ => rfl⟩
                        have := pool_Uses (D7.out.on hB9).h.at_ st hok.2.2
                        rw [HG.out] at this
                        exact this.mono fun e w' h => ⟨h.1, h.2.symm⟩
                      have ek := eqK_yes j1 j2 j3
                      go_quiet ((go_at_call 14; exact Calls.quiet_of_same (HU.out _)))
                      have hB9 : Below Wl.heap.size Wl (Wl.drewN nq) := ⟨rfl, rfl, rfl, Nat.le_refl _, fun _ _ => rfl⟩
                      generalize Wl.drewN nq = W9 at hB9 ⊢
                      have D9 := Lib.hid (D7.out.on hB9)
                      clear hB9 r0 r1 r2 s4'' t0 t1 t2 t3 D7 HU
                      go_wp2_with fail
                      go_meet
                      exact ⟨_, D9.out, I.out.idle⟩
                · have h3' : (sk == 3) = false := by rw [beq_eq_false_iff_ne]; exact h3
                  go_wp2_with fail
                  go_meet
                  exact ⟨_, D3.out, I.out.idle⟩
      case rest =>
        as_aux_lemma =>
          obtain ⟨p2, hD, hI⟩ := hcut
          have E0 := Lib.hid hD
          have J := Lib.hid hI
          have hle := J.out.short hD.h.at_.hd.apart
          have hgt : ¬ ((n : Int) < (p2.hd.length : Int)) := by omega
          clear D3 SS I hI hD hle
          go_wp2_with fail
          refine (pool_Len E0.out.h.at_).mono ?_
          rintro e w8 ⟨rfl, rfl⟩
          have hlm := fun ty => E0.out.m.len (P := Try.prog) Try.underlying42 ty wc rfl
          go_wp2_with fail
          refine (pool_Len E0.out.h.at_).mono ?_
          rintro e w8 ⟨rfl, rfl⟩
          go_wp2_with fail
          exact ⟨⟨i + 1, p2, by omega, by omega, by simp, E0.out, J.out⟩, by simp [intOf]; omega⟩
    · by_cases hl1 : i < xs.length
      · have hl2 : ¬ ((i : Int) < 80) := by omega
        clear hlt
        go_wp2_with fail
        go_ret
        exact ⟨rfl, D.out.h.below⟩
      · clear hlt
        go_wp2_with fail
        go_ret
        exact ⟨rfl, D.out.h.below⟩
theorem law_TagsRuns (most : Int) (v : Value) (xs : List St) (w : World) (hS : StepsAt w v xs) : Calls Try.prog 5 #[.int .i64 most, v] w fun e w' => e = .returned (.bool true) ∧ Below w.heap.size w w' := by
  by_cases h : most < 0 ∨ 256 < most
  · exact runs_nil most v w h
  · obtain ⟨n, rfl⟩ := Int.eq_ofNat_of_zero_le (by omega : 0 ≤ most)
    exact runs_ok n (by omega) v xs w hS
end Go.Proofs.Ytcoclbcjbpjblaa
