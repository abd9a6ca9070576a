/-
  SETS OF PREFIXES: the statements' example (head).
-/
import Derived.Test.YtaafeekkllomhaaPsG
namespace Go.Proofs.Ytaafeekkllomhaa
open Go.RowKit

abbrev h1 : Pf := (16777216, 8)
abbrev h2 : Pf := (33554432, 8)
abbrev h3 : Pf := (50331648, 8)
set_option maxRecDepth 100000 in
theorem ps_at1 (w : World) : Calls Try.prog 30 #[.int .i64 1] w fun e w' => e = .returned (.agg #[.int .u32 16777216, .int .i64 8]) ∧ Below w.heap.size w w' := by
  go_enter Try.func30, Try.ntmps30
  go_wp2_with fail
  exact bodyPost_ret (v := .agg #[.int .u32 16777216, .int .i64 8]) (by simp [results, Try.results30, go_sem]) rfl ⟨rfl, (Below.refl _ _).alloc (Nat.le_refl _) _⟩
set_option maxRecDepth 100000 in
theorem ps_at2 (w : World) : Calls Try.prog 30 #[.int .i64 2] w fun e w' => e = .returned (.agg #[.int .u32 33554432, .int .i64 8]) ∧ Below w.heap.size w w' := by
  go_enter Try.func30, Try.ntmps30
  go_wp2_with fail
  exact bodyPost_ret (v := .agg #[.int .u32 33554432, .int .i64 8]) (by simp [results, Try.results30, go_sem]) rfl ⟨rfl, (Below.refl _ _).alloc (Nat.le_refl _) _⟩
set_option maxRecDepth 100000 in
theorem ps_at3 (w : World) : Calls Try.prog 30 #[.int .i64 3] w fun e w' => e = .returned (.agg #[.int .u32 50331648, .int .i64 8]) ∧ Below w.heap.size w w' := by
  go_enter Try.func30, Try.ntmps30
  go_wp2_with fail
  exact bodyPost_ret (v := .agg #[.int .u32 50331648, .int .i64 8]) (by simp [results, Try.results30, go_sem]) rfl ⟨rfl, (Below.refl _ _).alloc (Nat.le_refl _) _⟩
/-- some prefixes, written out in a row. -/
theorem lit_ps (w : World) (xs : List Pf) (hok : ∀ p ∈ xs, OkP p) (hl : xs.length ≤ maxLen) (C : Array Value) (hC : C.toList = xs.flatMap encP) {n : Nat} (hn : n = xs.length) : ∃ W, W = w.alloc (.cells C 35) ∧ PsAt W (.slice (some ⟨w.heap.size, 0, none⟩) n n) xs ∧ Below w.heap.size w W := by
  refine ⟨_, rfl, ?_, (Below.refl _ _).alloc (Nat.le_refl _) _⟩
  subst hn
  refine (own_slat (B := w.heap.size) (e := 35) encP_len ⟨flat_len encP_len xs, .inr ⟨w.heap.size, xs.length, C, rfl, Nat.le_refl _, heap_alloc_new w _, Nat.le_refl _, hl, ?_, ?_⟩⟩).imp fun p cs hp hc => ⟨hc, hok p hp⟩
  · rw [← Array.length_toList, hC, flat_len encP_len]
  · rw [hC, ← flat_len encP_len xs, List.take_length]
theorem set_all : setOf [h3, h1, h2, h1] = [h1, h2, h3] := setOf_is (by decide) (fun p => by
  simp only [List.mem_cons, List.not_mem_nil, or_false]
  constructor
  · rintro (h | h | h)
    · exact .inr (.inl h)
    · exact .inr (.inr (.inl h))
    · exact .inl h
  · rintro (h | h | h | h)
    · exact .inr (.inr h)
    · exact .inl h
    · exact .inr (.inl h)
    · exact .inl h)
theorem set_x : setOf [h1, h2] = [h1, h2] := setOf_is (by decide) (fun p => Iff.rfl)
theorem set_y : setOf [h2] = [h2] := setOf_is (by decide) (fun p => Iff.rfl)
theorem set_z : setOf [h1, h3] = [h1, h3] := setOf_is (by decide) (fun p => Iff.rfl)
theorem of_e {ps qs : List Pf} (h : setOf ps = qs) (h1 : decide (ps.length ≤ 4096) = true) (h2 : rights ps = true) (h3 : decide (qs.length ≤ 4096) = true) : ofE ps = 0 ∧ ofL ps = qs := by
  have e : ofE ps = 0 := by
    simp at h1 h3
    unfold ofE
    rw [if_neg (by omega), h2, if_pos rfl, h, if_neg (by omega)]
  exact ⟨e, by unfold ofL; rw [if_pos e, h]⟩
theorem of_all : ofE [h3, h1, h2, h1] = 0 ∧ ofL [h3, h1, h2, h1] = [h1, h2, h3] := of_e set_all (by decide) (by decide +kernel) (by decide)
theorem of_x : ofE [h1, h2] = 0 ∧ ofL [h1, h2] = [h1, h2] := of_e set_x (by decide) (by decide +kernel) (by decide)
theorem of_y : ofE [h2] = 0 ∧ ofL [h2] = [h2] := of_e set_y (by decide) (by decide +kernel) (by decide)
theorem of_z : ofE [h1, h3] = 0 ∧ ofL [h1, h3] = [h1, h3] := of_e set_z (by decide) (by decide +kernel) (by decide)
theorem grp_p : grpL (sameB [[h1, h2], [h2]]) [h1, h2, h3] = [[h1], [h2], [h3]] := by decide +kernel
theorem grp_q : grpL (sameB [[h1, h3]]) [h1, h2, h3] = [[h1, h3], [h2]] := by decide +kernel
/-- a group's slice. -/
theorem grp_at {w : World} {B : Nat} {v : Value} {vs : List Value} {sm : Pf → Pf → Bool} {xs : List Pf} (h : GrpAt w B v vs (grpL sm xs)) (hok : ∀ p ∈ xs, OkP p) {i : Nat} {u : Value} {x : List Pf} (hu : vs[i]? = some u) (hx : (grpL sm xs)[i]? = some x) : PsAt w u x := by
  refine OwnPs.at ⟨h.own i u x hu hx, fun p hp => hok p ?_⟩
  unfold grpL at hx
  rw [List.getElem?_map] at hx
  obtain ⟨r, -, rfl⟩ := Option.map_eq_some_iff.1 hx
  exact (List.mem_filter.1 hp).1
theorem ok_lit {ps : List Pf} (h : (ps.all fun p => decide (0 ≤ p.1) && decide (p.1 < 4294967296)) = true) : ∀ p ∈ ps, OkP p := by
  intro p hp
  have := List.all_eq_true.1 h p hp
  simpa [OkP] using this
theorem lit_sets (w : World) (bys : List (List Pf)) (C : Array Value) {n : Nat} (hn : n = bys.length) (hv : ∀ (i : Nat) (x : List Pf), bys[i]? = some x → ∃ v, C[i]? = some v ∧ PsAt w v x ∧ Srt x) (hm : bys.length ≤ maxLen := by decide) :
    ∃ W, W = w.alloc (.cells C 26) ∧ SetsAt W (.slice (some ⟨w.heap.size, 0, none⟩) n n) bys ∧ Below w.heap.size w W := by
  have hb : Below w.heap.size w (w.alloc (.cells C 26)) := (Below.refl _ _).alloc (Nat.le_refl _) _
  refine ⟨_, rfl, ?_, hb⟩
  subst hn
  refine ⟨_, _, rfl, Nat.le_refl _, hm, fun _ => ⟨w.heap.size, 0, rfl, fun i x hx => ?_⟩⟩
  obtain ⟨v, h1, h2, h3⟩ := hv i x hx
  refine ⟨[v], rfl, ⟨v, rfl, h2.below hb, h3⟩, fun j c hc => ?_⟩
  match j, hc with
  | 0, hc =>
    obtain rfl := Option.some.inj hc
    rw [row_cell (heap_alloc_new w _), Nat.zero_add, Nat.mul_one, Nat.add_zero]
    exact h1
set_option maxHeartbeats 12800000 in
set_option maxRecDepth 100000 in
theorem ps_head (w : World) : Calls Try.prog 9 #[] w fun e w' => e = .returned (.bool true) ∧ Below w.heap.size w w' := by
  have B0 := Lib.hid (Below.refl w.heap.size w)
  go_enter Try.func9, Try.ntmps9
  go_wp2_with fail
  refine (ps_at3 _).mono ?_
  rintro e w1 ⟨rfl, hb⟩
  have B0 := Lib.hid (below_on B0.out hb)
  clear hb
  go_wp2_with fail
  refine (ps_at1 _).mono ?_
  rintro e w2 ⟨rfl, hb⟩
  have B0 := Lib.hid (below_on B0.out hb)
  clear hb
  go_wp2_with fail
  refine (ps_at2 _).mono ?_
  rintro e w3 ⟨rfl, hb⟩
  have B0 := Lib.hid (below_on B0.out hb)
  clear hb
  go_wp2_with fail
  refine (ps_at1 _).mono ?_
  rintro e w4 ⟨rfl, hb⟩
  have B0 := Lib.hid (below_on B0.out hb)
  clear hb
  go_wp2_with fail
  obtain ⟨W4, hW, pp, hb⟩ := lit_ps w4 [h3, h1, h2, h1] (ok_lit (by decide)) (by decide) #[.int .u32 50331648, .int .i64 8, .int .u32 16777216, .int .i64 8, .int .u32 33554432, .int .i64 8, .int .u32 16777216, .int .i64 8] rfl (n := 4) rfl
  rw [← hW]
  have B0 := Lib.hid (below_on B0.out hb)
  have OF := Lib.hid (ps_Of _ _ W4 pp)
  clear hW pp hb
  refine OF.out.mono ?_
  rintro e v4 ⟨ua, rfl, oo, hb⟩
  rw [of_all.1]
  rw [of_all.2] at oo
  have Pa := Lib.hid oo.at
  have B0 := Lib.hid (below_on B0.out hb)
  clear oo hb OF
  obtain ⟨sa, ca, rfl, -⟩ := id Pa.out
  go_upto_region 2 with (fail)
  obtain ⟨V4, hW, qq, hb, -⟩ := boxC v4 #[.slice sa 3 ca] 26
  rw [← hW]
  have Da : Hid (V4.cell? ⟨v4.heap.size, 0, none⟩ = some (.slice sa 3 ca)) := Lib.hid (row_cell qq 0)
  have Pa := Lib.hid (Pa.out.below hb)
  have B0 := Lib.hid (below_on B0.out hb)
  clear hW qq hb
  obtain ⟨bka, hbka⟩ : ∃ b, v4.heap.size = b := ⟨_, rfl⟩
  rw [hbka] at Da ⊢
  clear hbka
  go_wp2_with fail
  refine (ps_at1 _).mono ?_
  rintro e w5 ⟨rfl, hb⟩
  have B0 := Lib.hid (below_on B0.out hb)
  have Pa := Lib.hid (Pa.out.below hb)
  have Da := Lib.hid (cell_below Da.out hb)
  clear hb
  go_wp2_with fail
  refine (ps_at2 _).mono ?_
  rintro e w6 ⟨rfl, hb⟩
  have B0 := Lib.hid (below_on B0.out hb)
  have Pa := Lib.hid (Pa.out.below hb)
  have Da := Lib.hid (cell_below Da.out hb)
  clear hb
  go_wp2_with fail
  obtain ⟨W6, hW, pp, hb⟩ := lit_ps w6 [h1, h2] (ok_lit (by decide)) (by decide) #[.int .u32 16777216, .int .i64 8, .int .u32 33554432, .int .i64 8] rfl (n := 2) rfl
  rw [← hW]
  have B0 := Lib.hid (below_on B0.out hb)
  have OF := Lib.hid (ps_Of _ _ W6 pp)
  have Pa := Lib.hid (Pa.out.below hb)
  have Da := Lib.hid (cell_below Da.out hb)
  clear hW pp hb
  refine OF.out.mono ?_
  rintro e v6 ⟨ux, rfl, oo, hb⟩
  rw [of_x.1]
  rw [of_x.2] at oo
  have Px := Lib.hid oo.at
  have B0 := Lib.hid (below_on B0.out hb)
  have Pa := Lib.hid (Pa.out.below hb)
  have Da := Lib.hid (cell_below Da.out hb)
  clear oo hb OF
  obtain ⟨sx, cx, rfl, -⟩ := id Px.out
  go_upto_region 3 with (fail)
  obtain ⟨V6, hW, qq, hb, -⟩ := boxC v6 #[.slice sx 2 cx] 26
  rw [← hW]
  have Dx : Hid (V6.cell? ⟨v6.heap.size, 0, none⟩ = some (.slice sx 2 cx)) := Lib.hid (row_cell qq 0)
  have Px := Lib.hid (Px.out.below hb)
  have B0 := Lib.hid (below_on B0.out hb)
  have Pa := Lib.hid (Pa.out.below hb)
  have Da := Lib.hid (cell_below Da.out hb)
  clear hW qq hb
  obtain ⟨bkx, hbkx⟩ : ∃ b, v6.heap.size = b := ⟨_, rfl⟩
  rw [hbkx] at Dx ⊢
  clear hbkx
  go_wp2_with fail
  refine (ps_at2 _).mono ?_
  rintro e w7 ⟨rfl, hb⟩
  have B0 := Lib.hid (below_on B0.out hb)
  have Pa := Lib.hid (Pa.out.below hb)
  have Da := Lib.hid (cell_below Da.out hb)
  have Px := Lib.hid (Px.out.below hb)
  have Dx := Lib.hid (cell_below Dx.out hb)
  clear hb
  go_wp2_with fail
  obtain ⟨W7, hW, pp, hb⟩ := lit_ps w7 [h2] (ok_lit (by decide)) (by decide) #[.int .u32 33554432, .int .i64 8] rfl (n := 1) rfl
  rw [← hW]
  have B0 := Lib.hid (below_on B0.out hb)
  have OF := Lib.hid (ps_Of _ _ W7 pp)
  have Pa := Lib.hid (Pa.out.below hb)
  have Da := Lib.hid (cell_below Da.out hb)
  have Px := Lib.hid (Px.out.below hb)
  have Dx := Lib.hid (cell_below Dx.out hb)
  clear hW pp hb
  refine OF.out.mono ?_
  rintro e v7 ⟨uy, rfl, oo, hb⟩
  rw [of_y.1]
  rw [of_y.2] at oo
  have Py := Lib.hid oo.at
  have B0 := Lib.hid (below_on B0.out hb)
  have Pa := Lib.hid (Pa.out.below hb)
  have Da := Lib.hid (cell_below Da.out hb)
  have Px := Lib.hid (Px.out.below hb)
  have Dx := Lib.hid (cell_below Dx.out hb)
  clear oo hb OF
  obtain ⟨sy, cy, rfl, -⟩ := id Py.out
  go_upto_region 4 with (fail)
  obtain ⟨V7, hW, qq, hb, -⟩ := boxC v7 #[.slice sy 1 cy] 26
  rw [← hW]
  have Dy : Hid (V7.cell? ⟨v7.heap.size, 0, none⟩ = some (.slice sy 1 cy)) := Lib.hid (row_cell qq 0)
  have Py := Lib.hid (Py.out.below hb)
  have B0 := Lib.hid (below_on B0.out hb)
  have Pa := Lib.hid (Pa.out.below hb)
  have Da := Lib.hid (cell_below Da.out hb)
  have Px := Lib.hid (Px.out.below hb)
  have Dx := Lib.hid (cell_below Dx.out hb)
  clear hW qq hb
  obtain ⟨bky, hbky⟩ : ∃ b, v7.heap.size = b := ⟨_, rfl⟩
  rw [hbky] at Dy ⊢
  clear hbky
  go_wp2_with fail
  refine (ps_at1 _).mono ?_
  rintro e w8 ⟨rfl, hb⟩
  have B0 := Lib.hid (below_on B0.out hb)
  have Pa := Lib.hid (Pa.out.below hb)
  have Da := Lib.hid (cell_below Da.out hb)
  have Px := Lib.hid (Px.out.below hb)
  have Dx := Lib.hid (cell_below Dx.out hb)
  have Py := Lib.hid (Py.out.below hb)
  have Dy := Lib.hid (cell_below Dy.out hb)
  clear hb
  go_wp2_with fail
  refine (ps_at3 _).mono ?_
  rintro e w9 ⟨rfl, hb⟩
  have B0 := Lib.hid (below_on B0.out hb)
  have Pa := Lib.hid (Pa.out.below hb)
  have Da := Lib.hid (cell_below Da.out hb)
  have Px := Lib.hid (Px.out.below hb)
  have Dx := Lib.hid (cell_below Dx.out hb)
  have Py := Lib.hid (Py.out.below hb)
  have Dy := Lib.hid (cell_below Dy.out hb)
  clear hb
  go_wp2_with fail
  obtain ⟨W9, hW, pp, hb⟩ := lit_ps w9 [h1, h3] (ok_lit (by decide)) (by decide) #[.int .u32 16777216, .int .i64 8, .int .u32 50331648, .int .i64 8] rfl (n := 2) rfl
  rw [← hW]
  have B0 := Lib.hid (below_on B0.out hb)
  have OF := Lib.hid (ps_Of _ _ W9 pp)
  have Pa := Lib.hid (Pa.out.below hb)
  have Da := Lib.hid (cell_below Da.out hb)
  have Px := Lib.hid (Px.out.below hb)
  have Dx := Lib.hid (cell_below Dx.out hb)
  have Py := Lib.hid (Py.out.below hb)
  have Dy := Lib.hid (cell_below Dy.out hb)
  clear hW pp hb
  refine OF.out.mono ?_
  rintro e v9 ⟨uz, rfl, oo, hb⟩
  rw [of_z.1]
  rw [of_z.2] at oo
  have Pz := Lib.hid oo.at
  have B0 := Lib.hid (below_on B0.out hb)
  have Pa := Lib.hid (Pa.out.below hb)
  have Da := Lib.hid (cell_below Da.out hb)
  have Px := Lib.hid (Px.out.below hb)
  have Dx := Lib.hid (cell_below Dx.out hb)
  have Py := Lib.hid (Py.out.below hb)
  have Dy := Lib.hid (cell_below Dy.out hb)
  clear oo hb OF
  obtain ⟨sz, cz, rfl, -⟩ := id Pz.out
  go_upto_region 5 with (fail)
  obtain ⟨V9, hW, qq, hb, -⟩ := boxC v9 #[.slice sz 2 cz] 26
  rw [← hW]
  have Dz : Hid (V9.cell? ⟨v9.heap.size, 0, none⟩ = some (.slice sz 2 cz)) := Lib.hid (row_cell qq 0)
  have Pz := Lib.hid (Pz.out.below hb)
  have B0 := Lib.hid (below_on B0.out hb)
  have Pa := Lib.hid (Pa.out.below hb)
  have Da := Lib.hid (cell_below Da.out hb)
  have Px := Lib.hid (Px.out.below hb)
  have Dx := Lib.hid (cell_below Dx.out hb)
  have Py := Lib.hid (Py.out.below hb)
  have Dy := Lib.hid (cell_below Dy.out hb)
  clear hW qq hb
  obtain ⟨bkz, hbkz⟩ : ∃ b, v9.heap.size = b := ⟨_, rfl⟩
  rw [hbkz] at Dz ⊢
  clear hbkz
  have da := Da.out
  have LN := Lib.hid (ps_Len _ _ V9 Pa.out)
  go_wp2_with fail
  refine LN.out.mono ?_
  rintro e w20 ⟨rfl, hb⟩
  have B0 := Lib.hid (below_on B0.out hb)
  have Pa := Lib.hid (Pa.out.below hb)
  have Da := Lib.hid (cell_below Da.out hb)
  have Px := Lib.hid (Px.out.below hb)
  have Dx := Lib.hid (cell_below Dx.out hb)
  have Py := Lib.hid (Py.out.below hb)
  have Dy := Lib.hid (cell_below Dy.out hb)
  have Pz := Lib.hid (Pz.out.below hb)
  have Dz := Lib.hid (cell_below Dz.out hb)
  clear hb da LN
  go_upto_region 7 with (fail)
  have da := Da.out
  have dx := Dx.out
  have dy := Dy.out
  go_wp2_with fail
  obtain ⟨W21, hW, ss, hb⟩ := lit_sets w20 [[h1, h2], [h2]] #[.slice sx 2 cx, .slice sy 1 cy] (n := 2) rfl (fun i x hx => by
    match i, hx with
    | 0, hx => obtain rfl := Option.some.inj hx; exact ⟨_, rfl, Px.out, by decide⟩
    | 1, hx => obtain rfl := Option.some.inj hx; exact ⟨_, rfl, Py.out, by decide⟩)
  rw [← hW]
  have B0 := Lib.hid (below_on B0.out hb)
  have Pa := Lib.hid (Pa.out.below hb)
  have Da := Lib.hid (cell_below Da.out hb)
  have Px := Lib.hid (Px.out.below hb)
  have Dx := Lib.hid (cell_below Dx.out hb)
  have Py := Lib.hid (Py.out.below hb)
  have Dy := Lib.hid (cell_below Dy.out hb)
  have Pz := Lib.hid (Pz.out.below hb)
  have Dz := Lib.hid (cell_below Dz.out hb)
  have GR := Lib.hid (ps_Group _ _ [h1, h2, h3] [[h1, h2], [h2]] W21 Pa.out (by decide) ss (by decide) (by decide) (by decide))
  clear hW ss hb da dx dy
  refine GR.out.mono ?_
  rintro e w22 ⟨vp, vps, rfl, gp, hb⟩
  rw [grp_p] at gp
  have SP := Lib.hid (own_slice gp.row)
  have B0 := Lib.hid (below_on B0.out hb)
  have Pa := Lib.hid (Pa.out.below hb)
  have Da := Lib.hid (cell_below Da.out hb)
  have Px := Lib.hid (Px.out.below hb)
  have Dx := Lib.hid (cell_below Dx.out hb)
  have Py := Lib.hid (Py.out.below hb)
  have Dy := Lib.hid (cell_below Dy.out hb)
  have Pz := Lib.hid (Pz.out.below hb)
  have Dz := Lib.hid (cell_below Dz.out hb)
  obtain ⟨sp, cp, rfl⟩ : ∃ sp cp, vp = .slice sp 3 cp := by
    rcases SP.out with ⟨h, h0⟩ | ⟨g, c, h⟩
    · cases h0
    · exact ⟨_, _, h⟩
  clear gp hb SP GR
  have da := Da.out
  have dz := Dz.out
  go_wp2_with fail
  obtain ⟨W23, hW, ss, hb⟩ := lit_sets w22 [[h1, h3]] #[.slice sz 2 cz] (n := 1) rfl (fun i x hx => by
    match i, hx with
    | 0, hx => obtain rfl := Option.some.inj hx; exact ⟨_, rfl, Pz.out, by decide⟩)
  rw [← hW]
  have B0 := Lib.hid (below_on B0.out hb)
  have Pa := Lib.hid (Pa.out.below hb)
  have Da := Lib.hid (cell_below Da.out hb)
  have Px := Lib.hid (Px.out.below hb)
  have Dx := Lib.hid (cell_below Dx.out hb)
  have Py := Lib.hid (Py.out.below hb)
  have Dy := Lib.hid (cell_below Dy.out hb)
  have Pz := Lib.hid (Pz.out.below hb)
  have Dz := Lib.hid (cell_below Dz.out hb)
  have GR := Lib.hid (ps_Group _ _ [h1, h2, h3] [[h1, h3]] W23 Pa.out (by decide) ss (by decide) (by decide) (by decide))
  have OKA := Lib.hid (ps_ok Pa.out)
  clear hW ss hb da dz
  refine GR.out.mono ?_
  rintro e w24 ⟨vq, vqs, rfl, gq, hb⟩
  have B0 := Lib.hid (below_on B0.out hb)
  have Pa := Lib.hid (Pa.out.below hb)
  have Da := Lib.hid (cell_below Da.out hb)
  have Px := Lib.hid (Px.out.below hb)
  have Dx := Lib.hid (cell_below Dx.out hb)
  have Py := Lib.hid (Py.out.below hb)
  have Dy := Lib.hid (cell_below Dy.out hb)
  have Pz := Lib.hid (Pz.out.below hb)
  have Dz := Lib.hid (cell_below Dz.out hb)
  have GQ := Lib.hid gq
  rw [grp_q] at gq
  have SP := Lib.hid (own_slice gq.row)
  obtain ⟨gb, cq, rfl⟩ : ∃ gb cq, vq = .slice (some ⟨gb, 0, none⟩) 2 cq := by
    rcases SP.out with ⟨h, h0⟩ | ⟨g, c, h⟩
    · cases h0
    · exact ⟨_, _, h⟩
  have hvl := gq.len
  obtain ⟨q0, q1, rfl⟩ : ∃ q0 q1, vqs = [q0, q1] := by
    match vqs, hvl with
    | [a, b], _ => exact ⟨a, b, rfl⟩
  have Q0 : Hid (PsAt w24 q0 [h1, h3]) := Lib.hid (grp_at GQ.out OKA.out (i := 0) rfl (by rw [grp_q]; rfl))
  have Q1 : Hid (PsAt w24 q1 [h2]) := Lib.hid (grp_at GQ.out OKA.out (i := 1) rfl (by rw [grp_q]; rfl))
  obtain ⟨z0, -, -, -⟩ := own_row_cell gq.row rfl (j := 0) (u := q0) rfl
  obtain ⟨z1, -, -, -⟩ := own_row_cell gq.row rfl (j := 1) (u := q1) rfl
  obtain ⟨s0, c0, rfl, -⟩ := id Q0.out
  obtain ⟨s1, c1, rfl, -⟩ := id Q1.out
  clear gq hb SP GR GQ hvl
  have dz := Dz.out
  have dy := Dy.out
  have S1 := Lib.hid (fun (W : World) (hW : Below w24.heap.size w24 W) => ps_Same (.slice s0 2 c0) (.slice sz 2 cz) [h1, h3] [h1, h3] W (Q0.out.below hW) (Pz.out.below hW))
  have S2 := Lib.hid (fun (W : World) (hW : Below w24.heap.size w24 W) => ps_Same (.slice s1 1 c1) (.slice sy 1 cy) [h2] [h2] W (Q1.out.below hW) (Py.out.below hW))
  rw [show decide (([h1, h3] : List Pf) = [h1, h3]) = true from by decide] at S1
  rw [show decide (([h2] : List Pf) = [h2]) = true from by decide] at S2
  go_wp2_with fail
  refine wp_region_held_drew (S := fun w' => Below w24.heap.size w24 w') (by kernel_rfl) ?_ (fun hHeld => ?_)
  · exact (Below.refl _ _).drew
  refine rg_yes (i := 0) (v := ?_) at0 (by kernel_rfl) (by kernel_rfl) (by kernel_rfl) (fun _ _ _ h => h) ?_ ?_ hHeld ?_; rotate_left 1; (· rfl); (· intro w' hSw; (try dsimp only at hSw); (try clear hHeld); go_simp; try with_reducible rfl)
  try simp only [Act.put, List.setIfInBounds_toArray, List.set_cons_zero, List.set_cons_succ]
  refine rg_yes (i := 1) (v := ?_) (atS at0) (by kernel_rfl) (by kernel_rfl) (by kernel_rfl) (fun _ _ _ h => h) ?_ ?_ hHeld ?_; rotate_left 1; (· rfl); (· intro w' hSw; (try dsimp only at hSw); (try clear hHeld); go_simp; try with_reducible rfl)
  try simp only [Act.put, List.setIfInBounds_toArray, List.set_cons_zero, List.set_cons_succ]
  refine rg_yes (i := 2) (v := ?_) (atS (atS at0)) (by kernel_rfl) (by kernel_rfl) (by kernel_rfl) (fun _ _ _ h => h) ?_ ?_ hHeld ?_; rotate_left 1; (· rfl); (· intro w' hSw; (try dsimp only at hSw); (try clear hHeld); go_simp; try with_reducible rfl)
  try simp only [Act.put, List.setIfInBounds_toArray, List.set_cons_zero, List.set_cons_succ]
  refine rg_yes (i := 3) (v := ?_) (atS (atS (atS at0))) (by kernel_rfl) (by kernel_rfl) (by kernel_rfl) (fun _ _ _ h => h) ?_ ?_ hHeld ?_; rotate_left 1; (· rfl); (· intro w' hSw; (try dsimp only at hSw); (try clear hHeld); go_simp; try with_reducible rfl)
  try simp only [Act.put, List.setIfInBounds_toArray, List.set_cons_zero, List.set_cons_succ]
  first | (refine rg_no (i := 4) (atS (atS (atS (atS at0)))) (by kernel_rfl) (by kernel_rfl) (by kernel_rfl) (fun _ _ _ h => h) ?_ hHeld ?_; (· rfl)) | (refine rg_yes (i := 4) (v := ?_) (atS (atS (atS (atS at0)))) (by kernel_rfl) (by kernel_rfl) (by kernel_rfl) (fun _ _ _ h => h) ?_ ?_ hHeld ?_; rotate_left 1; (· rfl); (· intro w' hSw; (try dsimp only at hSw); (try clear hHeld); go_simp; try with_reducible rfl))
  try simp only [Act.put, List.setIfInBounds_toArray, List.set_cons_zero, List.set_cons_succ]
  first | (refine rg_no (i := 5) (atS (atS (atS (atS (atS at0))))) (by kernel_rfl) (by kernel_rfl) (by kernel_rfl) (fun _ _ _ h => h) ?_ hHeld ?_; (· rfl)) | (refine rg_yes (i := 5) (v := ?_) (atS (atS (atS (atS (atS at0))))) (by kernel_rfl) (by kernel_rfl) (by kernel_rfl) (fun _ _ _ h => h) ?_ ?_ hHeld ?_; rotate_left 1; (· rfl); (· intro w' hSw; (try dsimp only at hSw); (try clear hHeld); go_simp; try with_reducible rfl))
  try simp only [Act.put, List.setIfInBounds_toArray, List.set_cons_zero, List.set_cons_succ]
  first | (refine rg_no (i := 6) (atS (atS (atS (atS (atS (atS at0)))))) (by kernel_rfl) (by kernel_rfl) (by kernel_rfl) (fun _ _ _ h => h) ?_ hHeld ?_; (· rfl)) | (refine rg_yes (i := 6) (v := ?_) (atS (atS (atS (atS (atS (atS at0)))))) (by kernel_rfl) (by kernel_rfl) (by kernel_rfl) (fun _ _ _ h => h) ?_ ?_ hHeld ?_; rotate_left 1; (· rfl); (· intro w' hSw; (try dsimp only at hSw); (try clear hHeld); go_simp; try with_reducible rfl))
  try simp only [Act.put, List.setIfInBounds_toArray, List.set_cons_zero, List.set_cons_succ]
  refine rg_yes (i := 7) (v := ?_) (atS (atS (atS (atS (atS (atS (atS at0))))))) (by kernel_rfl) (by kernel_rfl) (by kernel_rfl) (fun _ _ _ h => h) ?_ ?_ hHeld ?_; rotate_left 1; (· rfl); (· intro w' hSw; (try dsimp only at hSw); (try clear hHeld); go_simp; try with_reducible rfl)
  try simp only [Act.put, List.setIfInBounds_toArray, List.set_cons_zero, List.set_cons_succ]
  refine rg_yes (i := 8) (v := ?_) (atS (atS (atS (atS (atS (atS (atS (atS at0)))))))) (by kernel_rfl) (by kernel_rfl) (by kernel_rfl) (fun _ _ _ h => h) ?_ ?_ hHeld ?_; rotate_left 1; (· rfl); (· intro w' hSw; (try dsimp only at hSw); (try clear hHeld); go_simp; try with_reducible rfl)
  try simp only [Act.put, List.setIfInBounds_toArray, List.set_cons_zero, List.set_cons_succ]
  first | (refine rg_no (i := 9) (atS (atS (atS (atS (atS (atS (atS (atS (atS at0))))))))) (by kernel_rfl) (by kernel_rfl) (by kernel_rfl) (fun _ _ _ h => h) ?_ hHeld ?_; (· rfl)) | (refine rg_yes (i := 9) (v := ?_) (atS (atS (atS (atS (atS (atS (atS (atS (atS at0))))))))) (by kernel_rfl) (by kernel_rfl) (by kernel_rfl) (fun _ _ _ h => h) ?_ ?_ hHeld ?_; rotate_left 1; (· rfl); (· intro w' hSw; (try dsimp only at hSw); (try clear hHeld); go_simp; try with_reducible rfl))
  try simp only [Act.put, List.setIfInBounds_toArray, List.set_cons_zero, List.set_cons_succ]
  first | (refine rg_no (i := 10) (atS (atS (atS (atS (atS (atS (atS (atS (atS (atS at0)))))))))) (by kernel_rfl) (by kernel_rfl) (by kernel_rfl) (fun _ _ _ h => h) ?_ hHeld ?_; (· rfl)) | (refine rg_yes (i := 10) (v := ?_) (atS (atS (atS (atS (atS (atS (atS (atS (atS (atS at0)))))))))) (by kernel_rfl) (by kernel_rfl) (by kernel_rfl) (fun _ _ _ h => h) ?_ ?_ hHeld ?_; rotate_left 1; (· rfl); (· intro w' hSw; (try dsimp only at hSw); have dz := cell_below dz hSw; have dy := cell_below dy hSw; have z0 := cell_below z0 hSw; have z1 := cell_below z1 hSw; (try clear hHeld); go_simp; try with_reducible rfl))
  try simp only [Act.put, List.setIfInBounds_toArray, List.set_cons_zero, List.set_cons_succ]
  first | (refine rg_no (i := 11) (atS (atS (atS (atS (atS (atS (atS (atS (atS (atS (atS at0))))))))))) (by kernel_rfl) (by kernel_rfl) (by kernel_rfl) (fun _ _ _ h => h) ?_ hHeld ?_; (· rfl)) | (refine rg_yes (i := 11) (v := ?_) (atS (atS (atS (atS (atS (atS (atS (atS (atS (atS (atS at0))))))))))) (by kernel_rfl) (by kernel_rfl) (by kernel_rfl) (fun _ _ _ h => h) ?_ ?_ hHeld ?_; rotate_left 1; (· rfl); (· intro w' hSw; (try dsimp only at hSw); have dz := cell_below dz hSw; have dy := cell_below dy hSw; have z0 := cell_below z0 hSw; have z1 := cell_below z1 hSw; (try clear hHeld); go_simp; try with_reducible rfl))
  try simp only [Act.put, List.setIfInBounds_toArray, List.set_cons_zero, List.set_cons_succ]
  first | (refine rg_no (i := 12) (atS (atS (atS (atS (atS (atS (atS (atS (atS (atS (atS (atS at0)))))))))))) (by kernel_rfl) (by kernel_rfl) (by kernel_rfl) (fun _ _ _ h => h) ?_ hHeld ?_; (· rfl)) | (refine rg_yes (i := 12) (v := ?_) (atS (atS (atS (atS (atS (atS (atS (atS (atS (atS (atS (atS at0)))))))))))) (by kernel_rfl) (by kernel_rfl) (by kernel_rfl) (fun _ _ _ h => h) ?_ ?_ hHeld ?_; rotate_left 1; (· rfl); (· intro w' hSw; (try dsimp only at hSw); have dz := cell_below dz hSw; have dy := cell_below dy hSw; have z0 := cell_below z0 hSw; have z1 := cell_below z1 hSw; (try clear hHeld); go_simp; try with_reducible rfl))
  try simp only [Act.put, List.setIfInBounds_toArray, List.set_cons_zero, List.set_cons_succ]
  first | (refine rg_no (i := 13) (atS (atS (atS (atS (atS (atS (atS (atS (atS (atS (atS (atS (atS at0))))))))))))) (by kernel_rfl) (by kernel_rfl) (by kernel_rfl) (fun _ _ _ h => h) ?_ hHeld ?_; (· rfl)) | (refine rg_call (i := 13) (atS (atS (atS (atS (atS (atS (atS (atS (atS (atS (atS (atS (atS at0))))))))))))) (by kernel_rfl) ?_ (fun K hK => ?_); (· rfl); (try clear hb); go_simp; (refine (S1.out _ hHeld).mono ?_; rintro e w1 ⟨rfl, hb⟩); go_wp2_with fail; refine hK.out _ _ ?_ (fun hHeld => ?_); (· exact hHeld.trans (hb.mono hHeld.size)); clear hK K)
  try simp only [Act.put, List.setIfInBounds_toArray, List.set_cons_zero, List.set_cons_succ]
  refine rg_yes (i := 14) (v := ?_) (atS (atS (atS (atS (atS (atS (atS (atS (atS (atS (atS (atS (atS (atS at0)))))))))))))) (by kernel_rfl) (by kernel_rfl) (by kernel_rfl) (fun _ _ _ h => h) ?_ ?_ hHeld ?_; rotate_left 1; (· rfl); (· intro w' hSw; (try dsimp only at hSw); (try clear hHeld); go_simp; try with_reducible rfl)
  try simp only [Act.put, List.setIfInBounds_toArray, List.set_cons_zero, List.set_cons_succ]
  refine rg_yes (i := 15) (v := ?_) (atS (atS (atS (atS (atS (atS (atS (atS (atS (atS (atS (atS (atS (atS (atS at0))))))))))))))) (by kernel_rfl) (by kernel_rfl) (by kernel_rfl) (fun _ _ _ h => h) ?_ ?_ hHeld ?_; rotate_left 1; (· rfl); (· intro w' hSw; (try dsimp only at hSw); (try clear hHeld); go_simp; try with_reducible rfl)
  try simp only [Act.put, List.setIfInBounds_toArray, List.set_cons_zero, List.set_cons_succ]
  first | (refine rg_no (i := 16) (atS (atS (atS (atS (atS (atS (atS (atS (atS (atS (atS (atS (atS (atS (atS (atS at0)))))))))))))))) (by kernel_rfl) (by kernel_rfl) (by kernel_rfl) (fun _ _ _ h => h) ?_ hHeld ?_; (· rfl)) | (refine rg_yes (i := 16) (v := ?_) (atS (atS (atS (atS (atS (atS (atS (atS (atS (atS (atS (atS (atS (atS (atS (atS at0)))))))))))))))) (by kernel_rfl) (by kernel_rfl) (by kernel_rfl) (fun _ _ _ h => h) ?_ ?_ hHeld ?_; rotate_left 1; (· rfl); (· intro w' hSw; (try dsimp only at hSw); (try clear hHeld); go_simp; try with_reducible rfl))
  try simp only [Act.put, List.setIfInBounds_toArray, List.set_cons_zero, List.set_cons_succ]
  first | (refine rg_no (i := 17) (atS (atS (atS (atS (atS (atS (atS (atS (atS (atS (atS (atS (atS (atS (atS (atS (atS at0))))))))))))))))) (by kernel_rfl) (by kernel_rfl) (by kernel_rfl) (fun _ _ _ h => h) ?_ hHeld ?_; (· rfl)) | (refine rg_yes (i := 17) (v := ?_) (atS (atS (atS (atS (atS (atS (atS (atS (atS (atS (atS (atS (atS (atS (atS (atS (atS at0))))))))))))))))) (by kernel_rfl) (by kernel_rfl) (by kernel_rfl) (fun _ _ _ h => h) ?_ ?_ hHeld ?_; rotate_left 1; (· rfl); (· intro w' hSw; (try dsimp only at hSw); have dz := cell_below dz hSw; have dy := cell_below dy hSw; have z0 := cell_below z0 hSw; have z1 := cell_below z1 hSw; (try clear hHeld); go_simp; try with_reducible rfl))
  try simp only [Act.put, List.setIfInBounds_toArray, List.set_cons_zero, List.set_cons_succ]
  first | (refine rg_no (i := 18) (atS (atS (atS (atS (atS (atS (atS (atS (atS (atS (atS (atS (atS (atS (atS (atS (atS (atS at0)))))))))))))))))) (by kernel_rfl) (by kernel_rfl) (by kernel_rfl) (fun _ _ _ h => h) ?_ hHeld ?_; (· rfl)) | (refine rg_yes (i := 18) (v := ?_) (atS (atS (atS (atS (atS (atS (atS (atS (atS (atS (atS (atS (atS (atS (atS (atS (atS (atS at0)))))))))))))))))) (by kernel_rfl) (by kernel_rfl) (by kernel_rfl) (fun _ _ _ h => h) ?_ ?_ hHeld ?_; rotate_left 1; (· rfl); (· intro w' hSw; (try dsimp only at hSw); have dz := cell_below dz hSw; have dy := cell_below dy hSw; have z0 := cell_below z0 hSw; have z1 := cell_below z1 hSw; (try clear hHeld); go_simp; try with_reducible rfl))
  try simp only [Act.put, List.setIfInBounds_toArray, List.set_cons_zero, List.set_cons_succ]
  first | (refine rg_no (i := 19) (atS (atS (atS (atS (atS (atS (atS (atS (atS (atS (atS (atS (atS (atS (atS (atS (atS (atS (atS at0))))))))))))))))))) (by kernel_rfl) (by kernel_rfl) (by kernel_rfl) (fun _ _ _ h => h) ?_ hHeld ?_; (· rfl)) | (refine rg_yes (i := 19) (v := ?_) (atS (atS (atS (atS (atS (atS (atS (atS (atS (atS (atS (atS (atS (atS (atS (atS (atS (atS (atS at0))))))))))))))))))) (by kernel_rfl) (by kernel_rfl) (by kernel_rfl) (fun _ _ _ h => h) ?_ ?_ hHeld ?_; rotate_left 1; (· rfl); (· intro w' hSw; (try dsimp only at hSw); have dz := cell_below dz hSw; have dy := cell_below dy hSw; have z0 := cell_below z0 hSw; have z1 := cell_below z1 hSw; (try clear hHeld); go_simp; try with_reducible rfl))
  try simp only [Act.put, List.setIfInBounds_toArray, List.set_cons_zero, List.set_cons_succ]
  first | (refine rg_no (i := 20) (atS (atS (atS (atS (atS (atS (atS (atS (atS (atS (atS (atS (atS (atS (atS (atS (atS (atS (atS (atS at0)))))))))))))))))))) (by kernel_rfl) (by kernel_rfl) (by kernel_rfl) (fun _ _ _ h => h) ?_ hHeld ?_; (· rfl)) | (refine rg_call (i := 20) (atS (atS (atS (atS (atS (atS (atS (atS (atS (atS (atS (atS (atS (atS (atS (atS (atS (atS (atS (atS at0)))))))))))))))))))) (by kernel_rfl) ?_ (fun K hK => ?_); (· rfl); (try clear hb); go_simp; (refine (S2.out _ hHeld).mono ?_; rintro e w1 ⟨rfl, hb⟩); go_wp2_with fail; refine hK.out _ _ ?_ (fun hHeld => ?_); (· exact hHeld.trans (hb.mono hHeld.size)); clear hK K)
  try simp only [Act.put, List.setIfInBounds_toArray, List.set_cons_zero, List.set_cons_succ]
  refine rg_yes (i := 21) (v := ?_) (atS (atS (atS (atS (atS (atS (atS (atS (atS (atS (atS (atS (atS (atS (atS (atS (atS (atS (atS (atS (atS at0))))))))))))))))))))) (by kernel_rfl) (by kernel_rfl) (by kernel_rfl) (fun _ _ _ h => h) ?_ ?_ hHeld ?_; rotate_left 1; (· rfl); (· intro w' hSw; (try dsimp only at hSw); (try clear hHeld); go_simp; try with_reducible rfl)
  try simp only [Act.put, List.setIfInBounds_toArray, List.set_cons_zero, List.set_cons_succ]
  refine rg_yes (i := 22) (v := ?_) (atS (atS (atS (atS (atS (atS (atS (atS (atS (atS (atS (atS (atS (atS (atS (atS (atS (atS (atS (atS (atS (atS at0)))))))))))))))))))))) (by kernel_rfl) (by kernel_rfl) (by kernel_rfl) (fun _ _ _ h => h) ?_ ?_ hHeld ?_; rotate_left 1; (· rfl); (· intro w' hSw; (try dsimp only at hSw); (try clear hHeld); go_simp; try with_reducible rfl)
  try simp only [Act.put, List.setIfInBounds_toArray, List.set_cons_zero]
  refine wpAnyH_done (by kernel_rfl) ?_ _
  have B1 := Lib.hid (below_on B0.out hHeld)
  clear hHeld hb
  go_wp2_with fail
  go_ret
  exact ⟨rfl, B1.out⟩
end Go.Proofs.Ytaafeekkllomhaa
