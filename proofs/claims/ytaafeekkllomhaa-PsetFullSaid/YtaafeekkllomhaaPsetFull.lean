/-
  PsetFull: so many prefixes a set has, and no more; the same ones again count once; for all numbers; no condition.
-/
import Derived.Test.YtaafeekkllomhaaPsO
import Derived.Test.YtaafeekkllomhaaBits
import Derived.IntWalk
import Derived.Deep.DeepCutAuto
namespace Go.Proofs.Ytaafeekkllomhaa
open Go.RowKit

def manyP (i : Nat) : Pf := ((i : Int) * 256, 24)
def manyL (n : Nat) : List Pf := (List.range n).map manyP
theorem manyL_succ (n : Nat) : manyL (n + 1) = manyL n ++ [manyP n] := by unfold manyL; rw [List.range_succ, List.map_append]; rfl
theorem manyL_len (n : Nat) : (manyL n).length = n := by unfold manyL; simp
theorem manyL_at {n i : Nat} (h : i < n) : (manyL n)[i]? = some (manyP i) := by unfold manyL; simp [h]
theorem manyL_mem {n : Nat} {p : Pf} : p ∈ manyL n ↔ ∃ i, i < n ∧ p = manyP i := by
  unfold manyL
  rw [List.mem_map]
  constructor
  · rintro ⟨i, h, rfl⟩
    exact ⟨i, List.mem_range.1 h, rfl⟩
  · rintro ⟨i, h, rfl⟩
    exact ⟨i, List.mem_range.2 h, rfl⟩
theorem manyL_srt (n : Nat) : Srt (manyL n) := by
  unfold Srt
  rw [List.pairwise_iff_getElem]
  intro i j hi hj hij
  rw [manyL_len] at hi hj
  have h1 := manyL_at hi
  have h2 := manyL_at hj
  rw [List.getElem?_eq_getElem (by rw [manyL_len]; exact hi)] at h1
  rw [List.getElem?_eq_getElem (by rw [manyL_len]; exact hj)] at h2
  rw [Option.some.inj h1, Option.some.inj h2]
  unfold plt manyP
  simp only
  omega
theorem many_set (n t : Nat) : setOf (manyL n ++ (manyL n).take t) = manyL n := setOf_is (manyL_srt n) fun p => by
  rw [List.mem_append]
  exact ⟨.inl, fun h => h.elim id List.mem_of_mem_take⟩
theorem many_right (i : Nat) : rightB (manyP i).1 (manyP i).2 = true := by
  rw [rightB_iff]
  refine ⟨?_, by show (0 : Int) ≤ 24; decide, by show (24 : Int) ≤ 32; decide⟩
  show ((i : Int) * 256) % 2 ^ lowN 24 = 0
  rw [show (2 : Int) ^ lowN 24 = 256 by decide]
  omega
theorem many_rights (n t : Nat) : rights (manyL n ++ (manyL n).take t) = true := by
  unfold rights
  rw [List.all_eq_true]
  intro p hp
  have hm : p ∈ manyL n := by
    rcases List.mem_append.1 hp with h | h
    · exact h
    · exact List.mem_of_mem_take h
  obtain ⟨i, -, rfl⟩ := manyL_mem.1 hm
  exact many_right i
theorem many_of {n t : Nat} (hn : n ≤ 4200) (ht : t ≤ 16) : ofE (manyL n ++ (manyL n).take t) = (if 4096 < n then 3 else 0) := by
  unfold ofE
  rw [if_neg (by rw [List.length_append, List.length_take, manyL_len]; omega), many_rights, if_pos rfl, many_set, manyL_len]
abbrev top1 : Pf := (2147483648, 1)
theorem many_or {n : Nat} (hn : n ≤ 4200) : orL (manyL n) [top1] = manyL n ++ [top1] := by
  have hs : Srt (manyL n ++ [top1]) := by
    rw [Srt, List.pairwise_append]
    refine ⟨manyL_srt n, List.pairwise_singleton _ _, fun a ha b hb => ?_⟩
    rw [List.mem_singleton.1 hb]
    obtain ⟨i, hi, rfl⟩ := manyL_mem.1 ha
    unfold plt manyP
    simp only
    omega
  refine srt_ext (mrg_srt _ _ _) hs fun p => ?_
  rw [mrg_mem, List.mem_append]
  simp only [Bool.or_eq_true, decide_eq_true_eq, and_self]
theorem many_orE {n : Nat} (hn : n ≤ 4096) : orE (manyL n) [top1] = (if n = 4096 then 3 else 0) := by
  unfold orE
  rw [many_or (by omega), List.length_append, manyL_len]
  simp only [List.length_singleton]
  by_cases h : n = 4096
  · rw [if_pos h, if_pos (by omega)]
  · rw [if_neg h, if_neg (by omega)]
theorem many_ok (n : Nat) (hn : n ≤ 4200) : ∀ p ∈ manyL n, OkP p := by
  intro p hp
  obtain ⟨i, hi, rfl⟩ := manyL_mem.1 hp
  unfold OkP manyP
  simp only
  omega
set_option maxHeartbeats 25600000 in
set_option maxRecDepth 100000 in
theorem full_walk (n t : Int) (w : World) : Calls Try.prog 7 #[.int .i64 n, .int .i64 t] w fun e w' => e = .returned (.bool true) ∧ Below w.heap.size w w' := by
  obtain ⟨i0, hii, hz0, hz1, hz2⟩ := info_parts info_pref
  have e1 : bits .and .i64 n 31 = n % 32 := and_low_i64 n 5 (by decide)
  have e2 : bits .and .i64 t 15 = t % 16 := and_low_i64 t 4 (by decide)
  obtain ⟨m, hm⟩ : ∃ m : Nat, 4080 + n % 32 = (m : Int) := ⟨(4080 + n % 32).toNat, by omega⟩
  obtain ⟨q, hq⟩ : ∃ q : Nat, t % 16 = (q : Int) := ⟨(t % 16).toNat, by omega⟩
  have m0 : 4080 ≤ m := by omega
  have m1 : m ≤ 4111 := by omega
  have q1 : q ≤ 15 := by omega
  have n0 : 0 ≤ n % 32 := by omega
  have n1 : n % 32 ≤ 31 := by omega
  have HM := Lib.hid hm
  have HQ := Lib.hid hq
  clear hm hq
  go_enter Try.func7, Try.ntmps7
  go_wp2_with fail
  refine (ps_head _).mono ?_
  rintro e w1 ⟨rfl, hb1⟩
  have B := Lib.hid hb1
  clear hb1
  go_upto_region 5 with (fail)
  rw [HM.out, HQ.out]
  clear e1 e2 n0 n1
  go_upto_region 6 with (fail)
  obtain ⟨W2, hW⟩ : ∃ W2, W2 = w1.alloc (.cells #[] 35) := ⟨_, rfl⟩
  have O : Hid (W2.ownsRow w1.heap.size 35 2 (.slice (some ⟨w1.heap.size, 0, none⟩) 0 0) 0 []) := Lib.hid (by rw [hW]; exact own_empty (Nat.le_refl _))
  have B2 : Hid (Below w1.heap.size w1 W2) := Lib.hid (by rw [hW]; exact (Below.refl _ _).alloc (Nat.le_refl _) _)
  rw [← hW]
  clear hW
  go_wp2_with fail
  go_loopw [6, 5] (fun i6 v5 wr => ∃ i : Nat, i ≤ m ∧ i6 = .int .i64 i ∧ Hid (wr.ownsRow w1.heap.size 35 2 v5 (manyL i).length ((manyL i).flatMap encP)) ∧ Hid (Below w1.heap.size w1 wr)) (fun i6 _ _ => m - (intOf i6).toNat)
  case atStart => exact ⟨0, by omega, rfl, O, B2⟩
  case round =>
    clear O B2
    obtain ⟨i, hi, rfl, O, BR⟩ := hrel
    by_cases hlt : i < m
    · have hl := manyL_len i
      have HL := Lib.hid hl
      have j0 : decide ((i : Int) < (m : Int)) = true := by simpa using hlt
      have i0' : (0 : Int) ≤ (i : Int) := by omega
      have i1' : (i : Int) ≤ 4111 := by omega
      clear hl
      go_wp2_with (at_builtin; refine wpList_append_own _ rfl _ _ 22 rfl w1.heap.size 35 i0 _ 2 16 Try.underlying22 hii hz0 hz1 hz2 rfl (by decide) _ (manyL i).length ((manyL i).flatMap encP) rfl (O.out.alloc _) ⟨wr.heap.size, 0, none⟩ 1 1 [.int .u32 ((i : Int) * 256), .int .i64 24] rfl rfl (new_cells wr _ _) (one_pf (manyP i)) (by rw [HL.out]; unfold maxLen; omega) (by rw [HL.out]; omega) (by have := BR.out.size; simp; omega) ?_)
      intro v' w5 hown hgrow _
      have O5 := Lib.hid (own_snocP (x := manyP i) hown)
      rw [← manyL_succ] at O5
      have B5 := Lib.hid ((BR.out.alloc BR.out.size _).grown hgrow (by have := BR.out.size; simp; omega) (own_form_le O.out))
      clear hown hgrow
      go_wp2_with fail
      exact ⟨⟨i + 1, by omega, by go_num, O5, B5⟩, by simp [intOf]; omega⟩
    · obtain rfl : i = m := by omega
      have j0 : decide ((i : Int) < (i : Int)) = false := by simp
      obtain ⟨wo, hwo⟩ : ∃ wo : World, wo = wr := ⟨_, rfl⟩
      obtain ⟨vo, hvo⟩ : ∃ vo, vo = u5 := ⟨_, rfl⟩
      rw [← hwo, ← hvo] at O
      rw [← hwo] at BR ⊢
      rw [← hvo]
      clear hwo hvo
      go_wp2_with fail
      clear j0
      go_loopw [7, 5] (fun j7 v5 wr => ∃ j : Nat, j ≤ q ∧ j7 = .int .i64 j ∧ Hid (wr.ownsRow w1.heap.size 35 2 v5 (manyL i ++ (manyL i).take j).length ((manyL i ++ (manyL i).take j).flatMap encP)) ∧ Hid (Below w1.heap.size w1 wr)) (fun j7 _ _ => q - (intOf j7).toNat)
      case atStart => exact ⟨0, by omega, rfl, Lib.hid (by rw [List.take_zero, List.append_nil]; exact O.out), BR⟩
      case round =>
        clear O BR
        obtain ⟨j, hj, rfl, O, BR⟩ := hrel
        have HL := Lib.hid (show (manyL i ++ (manyL i).take j).length = i + j by rw [List.length_append, List.length_take, manyL_len]; omega)
        by_cases hlt : j < q
        · have j0 : decide ((j : Int) < (q : Int)) = true := by simpa using hlt
          have TK : Hid ((manyL i).take (j + 1) = (manyL i).take j ++ [manyP j]) := Lib.hid (by rw [List.take_add_one, manyL_at (by omega)]; rfl)
          have AT : Hid ((manyL i ++ (manyL i).take j)[j]? = some (manyP j)) := Lib.hid (by rw [List.getElem?_append_left (by rw [manyL_len]; omega), manyL_at (by omega)])
          obtain ⟨Q, hQ⟩ : ∃ Q, Q = manyL i ++ (manyL i).take j := ⟨_, rfl⟩
          have HQ2 := Lib.hid hQ
          rw [← hQ] at O HL AT
          clear hQ
          obtain ⟨g, c, rfl⟩ : ∃ g c, u5 = .slice (some ⟨g, 0, none⟩) Q.length c := by
            rcases own_slice O.out with ⟨h1, h0⟩ | h
            · have := HL.out; omega
            · exact h
          obtain ⟨x0, x1, -, -⟩ := own_two O.out (i := j) (x := manyP j) AT.out
          have k0 : (0 : Int) ≤ (j : Int) := by omega
          have k1 : (j : Int) < (Q.length : Int) := by have := HL.out; omega
          have k2 : (j : Int) ≤ 15 := by omega
          go_wp2_with (at_builtin; refine wpList_append_own _ rfl _ _ 22 rfl w1.heap.size 35 i0 _ 2 16 Try.underlying22 hii hz0 hz1 hz2 rfl (by decide) _ Q.length (Q.flatMap encP) rfl (O.out.alloc _) ⟨wr.heap.size, 0, none⟩ 1 1 [.int .u32 (manyP j).1, .int .i64 (manyP j).2] rfl rfl (new_cells wr _ _) (one_pf (manyP j)) (by rw [HL.out]; unfold maxLen; omega) (by rw [HL.out]; omega) (by have := BR.out.size; simp; omega) ?_)
          intro v' w5 hown hgrow _
          have O5 := Lib.hid (own_snocP (x := manyP j) hown)
          rw [HQ2.out, List.append_assoc, ← TK.out] at O5
          have B5 := Lib.hid ((BR.out.alloc BR.out.size _).grown hgrow (by have := BR.out.size; simp; omega) (own_form_le O.out))
          clear hown hgrow x0 x1 k1
          go_wp2_with fail
          exact ⟨⟨j + 1, by omega, by go_num, O5, B5⟩, by simp [intOf]; omega⟩
        · obtain rfl : j = q := by omega
          have j0 : decide ((j : Int) < (j : Int)) = false := by simp
          have PL : Hid (PsAt wr u5 (manyL i ++ (manyL i).take j)) := Lib.hid (OwnPs.at ⟨O.out, fun p hp => by
            rcases List.mem_append.1 hp with h | h
            · exact many_ok i (by omega) p h
            · exact many_ok i (by omega) p (List.mem_of_mem_take h)⟩)
          have OF := Lib.hid (ps_Of u5 _ wr PL.out)
          have OE := Lib.hid (many_of (n := i) (t := j) (by omega) (by omega))
          have B := Lib.hid (below_on B.out BR.out)
          clear O BR
          go_wp2_with fail
          refine OF.out.mono ?_
          rintro e w6 ⟨vs, rfl, oo, hb6⟩
          have B := Lib.hid (below_on B.out hb6)
          clear hb6 OF PL
          by_cases hc : 4096 < i
          · have E3 : ofE (manyL i ++ (manyL i).take j) = 3 := by rw [OE.out, if_pos hc]
            have EL : ofL (manyL i ++ (manyL i).take j) = [] := by unfold ofL; rw [if_neg (by rw [E3]; decide)]
            rw [EL] at oo
            rw [E3]
            have PS := Lib.hid oo.at
            obtain ⟨ss, cs, rfl, -⟩ := id PS.out
            have j1 : decide ((i : Int) > 4096) = true := by simp; omega
            clear oo E3 EL hc j0
            go_upto_region 15 with (fail)
            obtain ⟨W7, hW, q7, hb7, -⟩ := boxC w6 #[.slice ss 0 cs] 26
            rw [← hW]
            have d7 : W7.cell? ⟨w6.heap.size, 0, none⟩ = some (.slice ss 0 cs) := row_cell q7 0
            have LN := Lib.hid (ps_Len (.slice ss 0 cs) [] W7 (PS.out.below hb7))
            have B := Lib.hid (below_on B.out hb7)
            clear hW q7 hb7
            go_wp2_with fail
            refine LN.out.mono ?_
            rintro e w8 ⟨rfl, hb8⟩
            have B := Lib.hid (below_on B.out hb8)
            clear hb8 d7 LN
            go_wp2_with fail
            go_ret
            exact ⟨rfl, B.out⟩
          · have E3 : ofE (manyL i ++ (manyL i).take j) = 0 := by rw [OE.out, if_neg hc]
            have EL : ofL (manyL i ++ (manyL i).take j) = manyL i := by unfold ofL; rw [if_pos E3, many_set]
            rw [EL] at oo
            rw [E3]
            have PS := Lib.hid oo.at
            have HLi := manyL_len i
            obtain ⟨ss, cs, rfl, -⟩ := id PS.out
            have j1 : decide ((i : Int) > 4096) = false := by simp; omega
            have LNL := Lib.hid HLi
            have OR := Lib.hid (many_orE (n := i) (by omega))
            have ic : i ≤ 4096 := by omega
            clear oo E3 EL hc j0 HLi
            go_upto_region 15 with (fail)
            obtain ⟨W7, hW, q7, hb7, -⟩ := boxC w6 #[.slice ss (manyL i).length cs] 26
            rw [← hW]
            have d7 : W7.cell? ⟨w6.heap.size, 0, none⟩ = some (.slice ss (manyL i).length cs) := row_cell q7 0
            have PS := Lib.hid (PS.out.below hb7)
            have B := Lib.hid (below_on B.out hb7)
            clear hW q7 hb7
            go_wp2_with fail
            obtain ⟨W8, hW, pl, hb8⟩ := lit_ps W7 [top1] (ok_lit (by decide)) (by decide) #[.int .u32 2147483648, .int .i64 1] rfl (n := 1) rfl
            rw [← hW]
            have PS := Lib.hid (PS.out.below hb8)
            have D7 := Lib.hid (cell_below d7 hb8)
            have B := Lib.hid (below_on B.out hb8)
            have OF := Lib.hid (ps_Of _ _ W8 pl)
            clear hW pl hb8 d7
            refine OF.out.mono ?_
            rintro e w9 ⟨vo, rfl, oo, hb9⟩
            have O1 := of_e (ps := [top1]) (qs := [top1]) (setOf_is (by decide) (fun p => Iff.rfl)) (by decide) (by decide +kernel) (by decide)
            rw [O1.1]
            rw [O1.2] at oo
            have PO := Lib.hid oo.at
            have PS := Lib.hid (PS.out.below hb9)
            have D7 := Lib.hid (cell_below D7.out hb9)
            have B := Lib.hid (below_on B.out hb9)
            obtain ⟨so, co, rfl, -⟩ := id PO.out
            clear oo hb9 OF O1
            go_upto_region 18 with (fail)
            obtain ⟨W10, hW, q10, hb10, -⟩ := boxC w9 #[.slice so 1 co] 26
            rw [← hW]
            have d10 : W10.cell? ⟨w9.heap.size, 0, none⟩ = some (.slice so 1 co) := row_cell q10 0
            have PS := Lib.hid (PS.out.below hb10)
            have PO := Lib.hid (PO.out.below hb10)
            have d7 := cell_below D7.out hb10
            have B := Lib.hid (below_on B.out hb10)
            have ORC := Lib.hid (ps_Or _ _ (manyL i) [top1] W10 PS.out PO.out (manyL_srt i) (by decide) (by rw [manyL_len]; simp; omega))
            clear hW q10 hb10 D7
            go_wp2_with fail
            refine ORC.out.mono ?_
            rintro e w11 ⟨vr, rfl, pr, hb11⟩
            have PS := Lib.hid (PS.out.below hb11)
            have d7 := cell_below d7 hb11
            have B := Lib.hid (below_on B.out hb11)
            obtain ⟨sr, cr, rfl, -⟩ := pr
            clear hb11 ORC d10
            go_upto_region 19 with (fail)
            obtain ⟨W12, hW, q12, hb12, -⟩ := boxC w11 #[.slice sr (orR (manyL i) [top1]).length cr] 26
            rw [← hW]
            have d7 := cell_below d7 hb12
            have LN := Lib.hid (ps_Len (.slice ss (manyL i).length cs) (manyL i) W12 (PS.out.below hb12))
            have B := Lib.hid (below_on B.out hb12)
            clear hW q12 hb12
            have i2 : (((manyL i).length : Int) == (i : Int)) = true := by rw [LNL.out]; simp
            by_cases hi2 : i = 4096
            · have hOE : orE (manyL i) [top1] = 3 := by rw [OR.out, if_pos hi2]
              have i3 : ((i : Int) == 4096) = true := by simp [hi2]
              rw [hOE]
              clear hOE hi2
              go_wp2_with fail
              refine LN.out.mono ?_
              rintro e w13 ⟨rfl, hb13⟩
              have B := Lib.hid (below_on B.out hb13)
              clear hb13 d7 LN
              go_wp2_with fail
              go_ret
              exact ⟨rfl, B.out⟩
            · have hOE : orE (manyL i) [top1] = 0 := by rw [OR.out, if_neg hi2]
              have i3 : ((i : Int) == 4096) = false := by simp; omega
              rw [hOE]
              clear hOE hi2
              go_wp2_with fail
              refine LN.out.mono ?_
              rintro e w13 ⟨rfl, hb13⟩
              have B := Lib.hid (below_on B.out hb13)
              clear hb13 d7 LN
              go_wp2_with fail
              go_ret
              exact ⟨rfl, B.out⟩
namespace psetFull
open Go.ChangeShapes Go.WideShapes Go.ChangeAt Go.RowKit
set_option linter.unusedVariables false
set_option maxRecDepth 100000 in
theorem lifted (os : Os) (started : os.Started) (H : Type) (enc : TypeId × Value → H) :
    ReturnsInHanded {} Try.checked os 7 .any (Rows.psetFullSpec.pre6 enc Try.prog Try.f7 Rows.psetFullRow.domain false) (Rows.psetFullSpec.post enc Try.prog Try.f7 false true false false) := by
  refine returnsInHanded_of_change (C := Try.checked) fr_own started (by kernel_rfl) Try.func7
    (ChangeSpec.witness6 (enc := enc) (C := Try.checked) false ⟨#[], #[.int .i64 0, .int .i64 0], []⟩ 8 (by kernel_rfl) (by kernel_rfl) (by kernel_rfl) (by kernel_rfl)) ?_
  intro W base args ds gs before hval0 hW hcnd _
  have hval : ∀ (j : Nat) t v, Try.f7.params[j]? = some t → args[j]? = some v → Value.okWide Try.prog W .any base t v := hval0
  have hW' := hW
  obtain ⟨p, q, hA0, hV, rfl, hfz, hnd⟩ := hW
  have hA : DataW.TrodAll enc Try.prog W 0 (fun _ => true) true Try.f7.params.toList args.toList ds p := hA0
  rw [Try.params7] at hA hval
  obtain ⟨v0, vs0, d0, ds0, p0, q0, hargs, rfl, rfl, h0, r0⟩ := trodAll_cons hA
  obtain ⟨v1, vs1, d1, ds1, p1, q1, rfl, rfl, rfl, h1, r1⟩ := trodAll_cons r0
  obtain ⟨rfl, rfl, rfl⟩ := trodAll_nil r1
  obtain rfl : args = #[v0, v1] := by cases args; simp_all
  obtain ⟨rfl, rfl⟩ := trodVars_none hV
  have lt0 : ∀ x ∈ p0, x.block < W.heap.size := by obtain ⟨m, hm⟩ := h0; exact DataW.trod_lt m _ _ _ hm
  have lt1 : ∀ x ∈ p1, x.block < W.heap.size := by obtain ⟨m, hm⟩ := h1; exact DataW.trod_lt m _ _ _ hm
  obtain ⟨n, rfl, z0, z1⟩ := open_i64 (hval 0 3 v0 rfl rfl)
  obtain ⟨t, rfl, z2, z3⟩ := open_i64 (hval 1 3 v1 rfl rfl)
  clear hA0 hval0
  refine (full_walk n t W).mono fun e W' ⟨he, bel⟩ => ?_
  subst he
  exact ⟨_, rfl, _, _, _, [], _, [], hW', trodAll_mk1 (shut_bool Try.underlying4 _), (trodAll_cons_mk (Below.trod fr_laidOut (by kernel_rfl) (of_decide_eq_true (by kernel_rfl)) h0 bel lt0) (trodAll_cons_mk (Below.trod fr_laidOut (by kernel_rfl) (of_decide_eq_true (by kernel_rfl)) h1 bel lt1) trodAll_mk0)), rfl, bel.frame _, fun h => by cases h⟩
theorem over : Rows.psetFullRow.holds Try.pinned (OpenSpec.ofChange Rows.psetFullSpec) :=
  OpenClaim.holds_of_wide 7 Try.f7 rfl rfl rfl rfl rfl rfl rfl ⟨rfl, rfl, rfl, rfl, rfl⟩ rfl rfl rfl rfl rfl (by kernel_rfl) Try.func7 (by kernel_rfl)
    (of_decide_eq_true (by kernel_rfl)) (by unfold Func.isWrapper; first | (rw [if_pos (by decide +kernel)]; kernel_rfl) | (rw [if_neg (by decide +kernel)]; exact ⟨rfl, rfl⟩))
    (fun os started H enc _ => lifted os started H enc)
/-- THE STATEMENT PsetFull. -/
theorem proved : Rows.PsetFullSaid := over
#print axioms proved
end psetFull
end Go.Proofs.Ytaafeekkllomhaa
