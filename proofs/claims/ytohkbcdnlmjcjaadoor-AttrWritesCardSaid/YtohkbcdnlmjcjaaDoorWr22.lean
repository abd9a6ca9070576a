/- Texts of one proof, one behind another. -/
import Derived.Test.YtohkbcdnlmjcjaaDoorWr21
/-
  ATTRIBUTES AS THE REFERENCE HAS THEM.
-/
namespace Go.Proofs.YtohkbcdnlmjcjaaDoor
open Go.RowKit

def ratL (a : At) (vp vc vo : Value) : List Value := [.int .i64 a.has, .int .i64 a.origin, vp, .int .i64 a.hop, .int .i64 a.med, .int .i64 a.loc, .int .i64 a.aggrAs, .int .i64 a.aggrId, vc, vo]
abbrev ratZ : Array Value := #[.int .i64 0, .int .i64 0, .slice none 0 0, .int .i64 0, .int .i64 0, .int .i64 0, .int .i64 0, .int .i64 0, .slice none 0 0, .slice none 0 0]
set_option maxRecDepth 100000 in
theorem sz_rat : (Tryd.prog.info? 47).map (·.size) = some 10 := by kernel_rfl
set_option maxRecDepth 100000 in
theorem info_rseg : (Tryd.prog.info? 75).map (fun i => (i.zero, i.size, i.bytes)) = some (some (.agg #[.bool false, .slice none 0 0]), 2, 32) := by kernel_rfl
set_option maxRecDepth 100000 in
theorem info_rother : (Tryd.prog.info? 76).map (fun i => (i.zero, i.size, i.bytes)) = some (some (.agg #[.int .i64 0, .slice none 0 0]), 2, 32) := by kernel_rfl
set_option maxRecDepth 100000 in
theorem results_PlainL (tmps : Array Value) (W : World) (b : Nat) (C : Array Value) (hC : C.size = 10) (h4 : tmps.getD 2 undef = .pointer (some ⟨b, 0, none⟩)) (hb : W.heap[b]? = some (.cells C 47 (0, 0))) :
    (results Tryd.f17 tmps).run Tryd.prog W = .ok (.agg C) W := results_cell_row Tryd.results17 tmps W b 47 C (0, 0) _ h4 hb Tryd.underlying47 rfl (by rw [hC]; kernel_rfl)
set_option maxRecDepth 100000 in
theorem one_so {c : Int} {s : Option Addr} {n k : Nat} : ∀ u ∈ [Value.int .i64 c, .slice s n k], u.oneCell' = true := by
  intro u hu
  rcases List.mem_cons.1 hu with rfl | hu
  · rfl
  · rw [List.mem_singleton.1 hu]; rfl
set_option maxRecDepth 100000 in
theorem flat_take_step {rows : List (List Value)} {i : Nat} {r : List Value} (h : rows[i]? = some r) : (rows.take (i + 1)).flatten = (rows.take i).flatten ++ r := by
  obtain ⟨h1, h2⟩ := List.getElem?_eq_some_iff.1 h
  rw [List.take_succ_eq_append_getElem h1, h2]
  simp
set_option maxRecDepth 100000 in
/-- three rows of a call's own. -/
theorem box3 (w : World) (C : Array Value) (T : TypeId) (Z : Array Value) (U : TypeId) (Y : Array Value) (X : TypeId) : ∃ W0, W0 = ((w.alloc (.cells C T)).alloc (.cells Z U)).alloc (.cells Y X) ∧ W0.heap[w.heap.size]? = some (.cells C T (0, 0)) ∧ W0.heap[w.heap.size + 1]? = some (.cells Z U (0, 0)) ∧ W0.heap[w.heap.size + 1 + 1]? = some (.cells Y X (0, 0)) ∧ Below w.heap.size w W0 ∧ W0.heap.size = w.heap.size + 3 := by
  obtain ⟨W1, h1, q1, q2, hb⟩ := boxTwo w C T Z U
  have hs : W1.heap.size = w.heap.size + 2 := by rw [h1]; simp
  obtain ⟨W2, h2, q3, hb2, hs2⟩ := box1 W1 Y X
  refine ⟨W2, by rw [h2, h1], (hb2.block _ (row_lt q1)).trans q1, (hb2.block _ (row_lt q2)).trans q2, by rw [show w.heap.size + 1 + 1 = W1.heap.size from hs.symm]; exact q3, below_on hb hb2, by omega⟩
set_option maxHeartbeats 6400000 in
set_option maxRecDepth 100000 in
theorem r_Plain (a : At) (vp vc vo : Value) (w : World) (hA : AtL w a vp vc vo) (hr : a.Rng) (hs : Small a) : Calls Tryd.prog 17 #[.agg (atV a vp vc vo).toArray] w fun e w' => ∃ vp' vo', e = .returned (.agg (ratL a vp' vc vo').toArray) ∧ AtL w' a vp' vc vo' ∧ Below w.heap.size w w' := by
  show Calls Tryd.prog 17 #[.agg #[.int .i64 a.has, .int .i64 a.origin, vp, .int .u32 a.hop, .int .i64 a.med, .int .i64 a.loc, .int .i64 a.aggrAs, .int .u32 a.aggrId, vc, vo]] w _
  have HA := Lib.hid hA
  have HS := Lib.hid hs
  have HR := Lib.hid hr
  have HP := Lib.hid (slat_rows hA.1)
  have HO := Lib.hid (slat_rows hA.2.2)
  clear hs
  obtain ⟨sp, cp, rowsP, rfl, -, -, p1, p2, p3, p4⟩ := HP.out
  obtain ⟨so, co, rowsO, rfl, -, -, o1, o2, o3, o4⟩ := HO.out
  obtain ⟨sc, cc, rfl, -⟩ := id hA.2.1
  have P1 := Lib.hid p1
  have P2 := Lib.hid p2
  have P3 := Lib.hid p3
  have P4 := Lib.hid p4
  have O1 := Lib.hid o1
  have O2 := Lib.hid o2
  have O3 := Lib.hid o3
  have O4 := Lib.hid o4
  have k1 : IntKind.i64.wrap (a.hop : Int) = (a.hop : Int) := wrap_nat (by have := hr.2.2.1; omega)
  have k2 : IntKind.i64.wrap (a.aggrId : Int) = (a.aggrId : Int) := wrap_nat (by have := hr.2.2.2.2.2.2; omega)
  obtain ⟨i0, hii, hz0, hz1, hz2⟩ := info_parts info_rseg
  obtain ⟨j0, hji, hy0, hy1, hy2⟩ := info_parts info_rother
  clear hA hr p1 p2 p3 p4 o1 o2 o3 o4 HP HO
  go_enter Tryd.func17, Tryd.ntmps17
  go_upto_region 2 with (fail)
  obtain ⟨W0, hW0, qa, qz, qx, hb0, hs0⟩ := box3 w #[.int .i64 a.has, .int .i64 a.origin, .slice sp a.path.length cp, .int .u32 a.hop, .int .i64 a.med, .int .i64 a.loc, .int .i64 a.aggrAs, .int .u32 a.aggrId, .slice sc a.comms.length cc, .slice so a.others.length co] 28 ratZ 47 #[.int .i64 a.has, .int .i64 a.origin, .slice none 0 0, .int .i64 a.hop, .int .i64 a.med, .int .i64 a.loc, .int .i64 a.aggrAs, .int .i64 a.aggrId, .slice sc a.comms.length cc, .slice none 0 0] 47
  rw [← hW0]
  clear hW0
  have QA0 := Lib.hid qa
  have QZ0 := Lib.hid qz
  have QX0 := Lib.hid qx
  have B0 := Lib.hid hb0
  have S0 : Hid (w.heap.size + 3 ≤ W0.heap.size) := Lib.hid (by omega)
  have pl : a.path.length ≤ 9223372036854775807 := by have := HS.out.path; omega
  have ol : a.others.length ≤ 9223372036854775807 := by have := HS.out.others; omega
  have y2 : W0.cell? ⟨w.heap.size, 2, none⟩ = some (.slice sp a.path.length cp) := row_cell qa 2
  clear qa qz qx hb0 hs0
  go_wp2_with fail
  clear y2
  go_loopw [30] (fun t wr => ∃ (i : Nat) (s : Option Addr) (c : Nat), i ≤ a.path.length ∧ t = .int .i64 i ∧ Hid (wr.ownsRow (w.heap.size + 3) 75 2 (.slice s i c) i (rowsP.take i).flatten) ∧ Hid (wr.heap[w.heap.size]? = some (.cells #[.int .i64 a.has, .int .i64 a.origin, .slice sp a.path.length cp, .int .u32 a.hop, .int .i64 a.med, .int .i64 a.loc, .int .i64 a.aggrAs, .int .u32 a.aggrId, .slice sc a.comms.length cc, .slice so a.others.length co] 28 (0, 0))) ∧ Hid (wr.heap[w.heap.size + 1]? = some (.cells ratZ 47 (0, 0))) ∧ Hid (wr.heap[w.heap.size + 1 + 1]? = some (.cells #[.int .i64 a.has, .int .i64 a.origin, .slice s i c, .int .i64 a.hop, .int .i64 a.med, .int .i64 a.loc, .int .i64 a.aggrAs, .int .i64 a.aggrId, .slice sc a.comms.length cc, .slice none 0 0] 47 (0, 0))) ∧ Hid (Below w.heap.size w wr) ∧ Hid (w.heap.size + 3 ≤ wr.heap.size)) (fun t _ => a.path.length - (intOf t).toNat)
  case atStart => exact ⟨0, none, 0, by omega, rfl, Lib.hid ⟨by simp, .inl ⟨rfl, rfl⟩⟩, QA0, QZ0, QX0, B0, S0⟩
  case round =>
    clear QA0 QZ0 QX0 B0 S0
    obtain ⟨i, s, c, hi, rfl, O, QA, QZ, QX, B, S⟩ := hrel
    by_cases hlt : i < a.path.length
    · obtain ⟨sg, hsg⟩ : ∃ sg, a.path[i]? = some sg := ⟨_, List.getElem?_eq_getElem hlt⟩
      obtain ⟨r, hr, u, rfl, hu⟩ := P3.out i sg hsg
      obtain ⟨su, cu, rfl, -⟩ := hu
      obtain ⟨b, off, rfl, hcell⟩ := P4.out (by omega)
      have y3 : wr.cell? ⟨b, off + i * 2, none⟩ = some (.bool sg.1) := cell_below (hcell (i * 2 + 0) _ (by rw [rows_get P2.out i _ hr 0 (by decide)]; rfl)) B.out
      have y4 : wr.cell? ⟨b, off + i * 2 + 1, none⟩ = some (.slice su sg.2.length cu) := by
        rw [Nat.add_assoc]
        exact cell_below (hcell (i * 2 + 1) _ (by rw [rows_get P2.out i _ hr 1 (by decide)]; rfl)) B.out
      have FT := Lib.hid (flat_take_step hr)
      generalize sg.1 = bo at y3 FT
      generalize sg.2.length = m at y4 FT
      have i1 : (0 : Int) ≤ (i : Int) := by omega
      have i2 : (i : Int) < (a.path.length : Int) := by omega
      have IM : Hid (i ≤ 20) := Lib.hid (by have := HS.out.path; omega)
      clear hsg hr hcell
      go_upto_region 5 with (fail)
      obtain ⟨W2, hW2, q2, hb2, -⟩ := box1 wr #[.bool bo, .slice su m cu] 32
      rw [← hW2]
      clear hW2 y3 y4
      have z0 : W2.cell? ⟨wr.heap.size, 0, none⟩ = some (.bool bo) := row_cell q2 0
      have z1 : W2.cell? ⟨wr.heap.size, 1, none⟩ = some (.slice su m cu) := row_cell q2 1
      have O2 := Lib.hid (own_below O.out hb2)
      have QA2 := Lib.hid ((hb2.block _ (row_lt QA.out)).trans QA.out)
      have QZ2 := Lib.hid ((hb2.block _ (row_lt QZ.out)).trans QZ.out)
      have QX2 := Lib.hid ((hb2.block _ (row_lt QX.out)).trans QX.out)
      have B2 := Lib.hid (below_on B.out hb2)
      have S2 : Hid (w.heap.size + 3 ≤ W2.heap.size) := Lib.hid (Nat.le_trans S.out hb2.size)
      have y2 : W2.cell? ⟨w.heap.size + 1 + 1, 2, none⟩ = some (.slice s i c) := row_cell QX2.out 2
      clear q2 hb2 O QA QZ QX B S
      go_wp2_with (at_builtin; refine wpList_append_own_at _ rfl _ _ 44 rfl (w.heap.size + 3) 75 i0 _ 2 32 Tryd.underlying44 hii hz0 hz1 hz2 rfl (by decide) _ i (rowsP.take i).flatten rfl (O2.out.alloc _) ⟨W2.heap.size, 0, none⟩ 1 1 [.bool bo, .slice su m cu] rfl rfl (new_cells W2 _ _) one_sg (by have := IM.out; unfold maxLen; omega) (by have := IM.out; omega) (by have := S2.out; simp; omega) ?_)
      intro v7 w7 hown hgrow _ _
      obtain ⟨s7, c7, hv7, -⟩ := own_form hown
      subst hv7
      have hal : Below W2.heap.size W2 (W2.alloc (.cells #[.bool bo, .slice su m cu] 75)) := (Below.refl _ _).alloc (Nat.le_refl _) _
      have K7 : Hid (Kept (fun k => w.heap.size + 3 ≤ k) W2 w7) := Lib.hid ((Kept.of_below hal).trans ((kept_grownB hgrow).imp fun k e => own_form_le O2.out k e))
      have QA7 := Lib.hid ((K7.out.block _ (row_lt QA2.out) (by omega)).trans QA2.out)
      have QZ7 := Lib.hid ((K7.out.block _ (row_lt QZ2.out) (by omega)).trans QZ2.out)
      have QX7 := Lib.hid ((K7.out.block _ (row_lt QX2.out) (by omega)).trans QX2.out)
      have B7 := Lib.hid (B2.out.trans (K7.out.below B2.out.size (fun k hk => by omega)))
      have S7 : Hid (w.heap.size + 3 ≤ w7.heap.size) := Lib.hid (Nat.le_trans S2.out K7.out.size)
      rw [← FT.out] at hown
      have O7 := Lib.hid hown
      have x2 : w7.cell? ⟨w.heap.size + 1 + 1, 2, none⟩ = some (.slice s i c) := row_cell QX7.out 2
      have f2 := row_free QX7.out 2
      clear hown hgrow hal K7 O2 QA2 QZ2 QX2 B2 S2 y2 z0 z1 FT
      go_upto_region 6 with (fail)
      obtain ⟨W8, hW8⟩ : ∃ W8, W8 = w7.setCell ⟨w.heap.size + 1 + 1, 2, none⟩ (.slice s7 (i + 1) c7) := ⟨_, rfl⟩
      have K8 : Hid (Kept (fun k => k = w.heap.size + 1 + 1) w7 W8) := Lib.hid (by rw [hW8]; exact Kept.setCell _ _ rfl)
      have QX8 : Hid (W8.heap[w.heap.size + 1 + 1]? = some (.cells #[.int .i64 a.has, .int .i64 a.origin, .slice s7 (i + 1) c7, .int .i64 a.hop, .int .i64 a.med, .int .i64 a.loc, .int .i64 a.aggrAs, .int .i64 a.aggrId, .slice sc a.comms.length cc, .slice none 0 0] 47 (0, 0))) := Lib.hid (by
        rw [hW8]
        have := set_same QX7.out 2 (.slice s7 (i + 1) c7)
        simpa using this)
      have QA8 := Lib.hid ((K8.out.block _ (row_lt QA7.out) (by omega)).trans QA7.out)
      have QZ8 := Lib.hid ((K8.out.block _ (row_lt QZ7.out) (by omega)).trans QZ7.out)
      have B8 := Lib.hid (B7.out.trans (K8.out.below B7.out.size (fun k hk => by omega)))
      have S8 : Hid (w.heap.size + 3 ≤ W8.heap.size) := Lib.hid (Nat.le_trans S7.out K8.out.size)
      have O8 := Lib.hid ((own_fresh O7.out).kept K8.out (fun k _ hl e => by omega)).self
      rw [← hW8]
      clear hW8 K8 QX7 QA7 QZ7 B7 S7 O7 x2 f2
      go_wp2_with fail
      exact ⟨⟨i + 1, s7, c7, by omega, by go_num, O8, QA8, QZ8, QX8, B8, S8⟩, by simp [intOf]; omega⟩
    · obtain rfl : i = a.path.length := by omega
      clear hi hlt
      obtain ⟨wq, hwq⟩ : ∃ wq, wq = wr := ⟨_, rfl⟩
      subst hwq
      rw [List.take_of_length_le (by rw [P1.out]; exact Nat.le_refl _)] at O
      have LT : Hid (∀ g, (Value.slice s a.path.length c).ownBlock = some g → g < wq.heap.size) := Lib.hid (own_lt O.out)
      have y9 : wq.cell? ⟨w.heap.size, 9, none⟩ = some (.slice so a.others.length co) := row_cell QA.out 9
      obtain ⟨LO, hLO⟩ : ∃ LO, wq.heap.size = LO := ⟨_, rfl⟩
      rw [hLO] at S LT
      have SL : Hid (LO ≤ wq.heap.size) := Lib.hid (by omega)
      have S3 := S
      clear hLO
      go_wp2_with fail
      clear y9
      go_loopw [48] (fun t wr => ∃ (i : Nat) (so1 : Option Addr) (co1 : Nat), i ≤ a.others.length ∧ t = .int .i64 i ∧ Hid (wr.ownsRow LO 76 2 (.slice so1 i co1) i (rowsO.take i).flatten) ∧ Hid (wr.ownsRow (w.heap.size + 3) 75 2 (.slice s a.path.length c) a.path.length rowsP.flatten) ∧ Hid (wr.heap[w.heap.size]? = some (.cells #[.int .i64 a.has, .int .i64 a.origin, .slice sp a.path.length cp, .int .u32 a.hop, .int .i64 a.med, .int .i64 a.loc, .int .i64 a.aggrAs, .int .u32 a.aggrId, .slice sc a.comms.length cc, .slice so a.others.length co] 28 (0, 0))) ∧ Hid (wr.heap[w.heap.size + 1]? = some (.cells ratZ 47 (0, 0))) ∧ Hid (wr.heap[w.heap.size + 1 + 1]? = some (.cells #[.int .i64 a.has, .int .i64 a.origin, .slice s a.path.length c, .int .i64 a.hop, .int .i64 a.med, .int .i64 a.loc, .int .i64 a.aggrAs, .int .i64 a.aggrId, .slice sc a.comms.length cc, .slice so1 i co1] 47 (0, 0))) ∧ Hid (Below w.heap.size w wr) ∧ Hid (LO ≤ wr.heap.size)) (fun t _ => a.others.length - (intOf t).toNat)
      case atStart => exact ⟨0, none, 0, by omega, rfl, Lib.hid ⟨by simp, .inl ⟨rfl, rfl⟩⟩, O, QA, QZ, QX, B, SL⟩
      case round =>
        clear QA QZ QX B S O SL
        obtain ⟨i, so1, co1, hi, rfl, O, OP, QA, QZ, QX, B, S⟩ := hrel
        by_cases hlt : i < a.others.length
        · obtain ⟨sg, hsg⟩ : ∃ sg, a.others[i]? = some sg := ⟨_, List.getElem?_eq_getElem hlt⟩
          obtain ⟨r, hr, u, rfl, hrg, hu⟩ := O3.out i sg hsg
          obtain ⟨su, cu, rfl, -⟩ := hu
          obtain ⟨b, off, rfl, hcell⟩ := O4.out (by omega)
          have y3 : wr.cell? ⟨b, off + i * 2, none⟩ = some (.int .i64 sg.1) := cell_below (hcell (i * 2 + 0) _ (by rw [rows_get O2.out i _ hr 0 (by decide)]; rfl)) B.out
          have y4 : wr.cell? ⟨b, off + i * 2 + 1, none⟩ = some (.slice su sg.2.length cu) := by
            rw [Nat.add_assoc]
            exact cell_below (hcell (i * 2 + 1) _ (by rw [rows_get O2.out i _ hr 1 (by decide)]; rfl)) B.out
          have FT := Lib.hid (flat_take_step hr)
          generalize sg.1 = ty at y3 FT
          generalize sg.2.length = m at y4 FT
          have i1 : (0 : Int) ≤ (i : Int) := by omega
          have i2 : (i : Int) < (a.others.length : Int) := by omega
          have IM : Hid (i ≤ 20) := Lib.hid (by have := HS.out.others; omega)
          clear hsg hr hcell hrg
          go_upto_region 10 with (fail)
          obtain ⟨W2, hW2, q2, hb2, -⟩ := box1 wr #[.int .i64 ty, .slice su m cu] 61
          rw [← hW2]
          clear hW2 y3 y4
          have z0 : W2.cell? ⟨wr.heap.size, 0, none⟩ = some (.int .i64 ty) := row_cell q2 0
          have z1 : W2.cell? ⟨wr.heap.size, 1, none⟩ = some (.slice su m cu) := row_cell q2 1
          have O5 := Lib.hid (own_below O.out hb2)
          have OP2 := Lib.hid (own_below OP.out hb2)
          have QA2 := Lib.hid ((hb2.block _ (row_lt QA.out)).trans QA.out)
          have QZ2 := Lib.hid ((hb2.block _ (row_lt QZ.out)).trans QZ.out)
          have QX2 := Lib.hid ((hb2.block _ (row_lt QX.out)).trans QX.out)
          have B2 := Lib.hid (below_on B.out hb2)
          have S2 : Hid (LO ≤ W2.heap.size) := Lib.hid (Nat.le_trans S.out hb2.size)
          have y2 : W2.cell? ⟨w.heap.size + 1 + 1, 9, none⟩ = some (.slice so1 i co1) := row_cell QX2.out 9
          clear q2 hb2 O OP QA QZ QX B S
          go_wp2_with (at_builtin; refine wpList_append_own_at _ rfl _ _ 45 rfl LO 76 j0 _ 2 32 Tryd.underlying45 hji hy0 hy1 hy2 rfl (by decide) _ i (rowsO.take i).flatten rfl (O5.out.alloc _) ⟨W2.heap.size, 0, none⟩ 1 1 [.int .i64 ty, .slice su m cu] rfl rfl (new_cells W2 _ _) one_so (by have := IM.out; unfold maxLen; omega) (by have := IM.out; omega) (by have := S2.out; simp; omega) ?_)
          intro v7 w7 hown hgrow _ _
          obtain ⟨s7, c7, hv7, -⟩ := own_form hown
          subst hv7
          have hal : Below W2.heap.size W2 (W2.alloc (.cells #[.int .i64 ty, .slice su m cu] 76)) := (Below.refl _ _).alloc (Nat.le_refl _) _
          have K7 : Hid (Kept (fun k => LO ≤ k) W2 w7) := Lib.hid ((Kept.of_below hal).trans ((kept_grownB hgrow).imp fun k e => own_form_le O5.out k e))
          have QA7 := Lib.hid ((K7.out.block _ (row_lt QA2.out) (by have := S3.out; omega)).trans QA2.out)
          have QZ7 := Lib.hid ((K7.out.block _ (row_lt QZ2.out) (by have := S3.out; omega)).trans QZ2.out)
          have QX7 := Lib.hid ((K7.out.block _ (row_lt QX2.out) (by have := S3.out; omega)).trans QX2.out)
          have B7 := Lib.hid (B2.out.trans (K7.out.below B2.out.size (fun k hk => by have := S3.out; omega)))
          have S7 : Hid (LO ≤ w7.heap.size) := Lib.hid (Nat.le_trans S2.out K7.out.size)
          have OP7 := Lib.hid ((own_on OP2.out).kept K7.out (fun k _ h e => by have := LT.out k h; omega)).self
          rw [← FT.out] at hown
          have O7 := Lib.hid hown
          have x2 : w7.cell? ⟨w.heap.size + 1 + 1, 9, none⟩ = some (.slice so1 i co1) := row_cell QX7.out 9
          have f2 := row_free QX7.out 9
          clear hown hgrow hal K7 O5 OP2 QA2 QZ2 QX2 B2 S2 y2 z0 z1 FT
          go_upto_region 11 with (fail)
          obtain ⟨W8, hW8⟩ : ∃ W8, W8 = w7.setCell ⟨w.heap.size + 1 + 1, 9, none⟩ (.slice s7 (i + 1) c7) := ⟨_, rfl⟩
          have K8 : Hid (Kept (fun k => k = w.heap.size + 1 + 1) w7 W8) := Lib.hid (by rw [hW8]; exact Kept.setCell _ _ rfl)
          have QX8 : Hid (W8.heap[w.heap.size + 1 + 1]? = some (.cells #[.int .i64 a.has, .int .i64 a.origin, .slice s a.path.length c, .int .i64 a.hop, .int .i64 a.med, .int .i64 a.loc, .int .i64 a.aggrAs, .int .i64 a.aggrId, .slice sc a.comms.length cc, .slice s7 (i + 1) c7] 47 (0, 0))) := Lib.hid (by
            rw [hW8]
            have := set_same QX7.out 9 (.slice s7 (i + 1) c7)
            simpa using this)
          have QA8 := Lib.hid ((K8.out.block _ (row_lt QA7.out) (by omega)).trans QA7.out)
          have QZ8 := Lib.hid ((K8.out.block _ (row_lt QZ7.out) (by omega)).trans QZ7.out)
          have B8 := Lib.hid (B7.out.trans (K8.out.below B7.out.size (fun k hk => by omega)))
          have S8 : Hid (LO ≤ W8.heap.size) := Lib.hid (Nat.le_trans S7.out K8.out.size)
          have O8 := Lib.hid ((own_fresh O7.out).kept K8.out (fun k _ hl e => by have := S3.out; omega)).self
          have OP8 := Lib.hid ((own_fresh OP7.out).kept K8.out (fun k _ hl e => by omega)).self
          rw [← hW8]
          clear hW8 K8 QX7 QA7 QZ7 B7 S7 O7 OP7 x2 f2
          go_wp2_with fail
          exact ⟨⟨i + 1, s7, c7, by omega, by go_num, O8, OP8, QA8, QZ8, QX8, B8, S8⟩, by simp [intOf]; omega⟩
        · obtain rfl : i = a.others.length := by omega
          clear hi hlt
          rw [List.take_of_length_le (by rw [O1.out]; exact Nat.le_refl _)] at O
          have FIN : Hid (∀ W, Kept (fun k => k = w.heap.size + 1) wr W → AtL W a (.slice s a.path.length c) (.slice sc a.comms.length cc) (.slice so1 a.others.length co1)) := Lib.hid fun W hk => by
            have hb : Below w.heap.size w W := B.out.trans (hk.below B.out.size (fun k hk => by omega))
            have o1 := ((own_fresh O.out).kept hk (fun k _ hl e => by have := S3.out; omega)).self
            have o2 := ((own_fresh OP.out).kept hk (fun k _ hl e => by omega)).self
            exact ⟨own_rows o2 P2.out (fun i x hx => by
              obtain ⟨cs, h1, u, h2, h3⟩ := P3.out i x hx
              exact ⟨cs, h1, u, h2, h3.below hb⟩), HA.out.2.1.below hb, own_rows o1 O2.out (fun i x hx => by
              obtain ⟨cs, h1, u, h2, h3, h4⟩ := O3.out i x hx
              exact ⟨cs, h1, u, h2, h3, BytesAt.below h4 hb⟩)⟩
          clear O OP QA
          go_wp2_with ((with_reducible refine halt_at (X := .load 47 (.tmp 3)) ?_ ?_); (· rfl))
          unfold Halt
          refine ld_at (by rfl) 47 (.tmp 3) rfl (w.heap.size + 1 + 1) rfl 47 _ (0, 0) _ QX.out Tryd.underlying47 rfl sz_rat ?_
          go_wp2_with ((with_reducible refine halt_at (X := .store 47 (.tmp 2) (.tmp 63)) ?_ ?_); (· rfl))
          unfold Halt
          refine st_row rfl 47 (.tmp 2) (.tmp 63) rfl (w.heap.size + 1) rfl 47 ratZ _ rfl QZ.out sz_rat rfl (by simp [Value.oneCell']) ?_
          go_wp2_with fail
          have KR : Kept (fun k => k = w.heap.size + 1) wr (wr.setRow (w.heap.size + 1) (ratL a (.slice s a.path.length c) (.slice sc a.comms.length cc) (.slice so1 a.others.length co1)).toArray) := kept_row _ _ rfl
          refine bodyPost_ret (results_PlainL _ _ (w.heap.size + 1) _ rfl rfl (setRow_heap _ _ _ _ _ _ QZ.out)) rfl ⟨.slice s a.path.length c, .slice so1 a.others.length co1, rfl, ?_, B.out.trans (KR.below B.out.size (fun k hk => by omega))⟩
          exact FIN.out _ KR
end Go.Proofs.YtohkbcdnlmjcjaaDoor
