/-
  EXPORT: New, Set, Goes: which routes go to whom.
-/
import Derived.Test.YtafckbapplelhaaAtP
import Derived.Test.YtafckbapplelhaaBits
import Derived.Test.YtafckbapplelhaaRgS
import Derived.Test.YtafckbapplelhaaRg2
namespace Go.Proofs.Ytafckbapplelhaa
open Go.RowKit

/-- the community of two numbers. -/
def commI (h l : Int) : Int := h % 65536 * 65536 + l % 65536
set_option maxHeartbeats 400000 in
theorem export_Of (h l : Int) (w : World) :
    Calls Try.prog 11 #[.int .i64 h, .int .i64 l] w fun e w' => e = .returned (.int .i64 (commI h l)) ∧ w = w' := by
  have e1 := and_65535 h
  have e2 := and_65535 l
  have e3 := or_side (h % 65536) (l % 65536) (by omega) (by omega) (by omega) (by omega)
  have h1 : 0 ≤ h % 65536 := by omega
  have h2 : h % 65536 < 65536 := by omega
  go_enter Try.func11, Try.ntmps11
  go_wp2
  go_ret
  exact ⟨ret_int (by rfl), rfl⟩
theorem ex_isPeer (n : Nat) (hn : n < 16) (w : World) : Calls Try.prog 19 #[.int .i64 n] w fun e w' => e = .returned (.bool true) ∧ w = w' := by
  have h0 : ((n : Int) ≥ 0) := by omega
  have h1 : (n : Int) < 16 := by omega
  go_enter Try.func19, Try.ntmps19
  go_wp2_with fail
  go_ret
  exact ⟨rfl, rfl⟩
/-- a filter in memory: the system's own number; which ways are blocked. -/
structure FilAt (w : World) (fb : Nat) (own : Int) (bl : Nat → Bool) : Prop where
  own : w.cell? ⟨fb, 0, none⟩ = some (.int .i64 own)
  way : ∀ i, i < 256 → w.cell? ⟨fb, 1 + i, none⟩ = some (.bool (bl i))
  free : ∀ i, w.frozen? ⟨fb, i, none⟩ = false
theorem FilAt.below {w w' : World} {fb : Nat} {own : Int} {bl : Nat → Bool} (h : FilAt w fb own bl) (hb : Below w.heap.size w w') : FilAt w' fb own bl :=
  ⟨cell_below h.own hb, fun i hi => cell_below (h.way i hi) hb, fun i => (hb.frozen (p := ⟨fb, i, none⟩) (size_lt h.own)).trans (h.free i)⟩
theorem FilAt.kept {F : Nat → Prop} {w w' : World} {fb : Nat} {own : Int} {bl : Nat → Bool} (h : FilAt w fb own bl) (hk : Kept F w w') (hne : ¬ F fb) : FilAt w' fb own bl :=
  ⟨hk.cell h.own hne, fun i hi => hk.cell (h.way i hi) hne, fun i => (World.frozen?_of_block (w := w) (hk.block fb (size_lt h.own) hne)).trans (h.free i)⟩
def setWay (bl : Nat → Bool) (i : Nat) (b : Bool) (k : Nat) : Bool := if k = i then b else bl k
theorem FilAt.set {w : World} {fb : Nat} {own : Int} {bl : Nat → Bool} (h : FilAt w fb own bl) {i : Nat} (hi : i < 256) (b : Bool) : FilAt (w.setCell ⟨fb, 1 + i, none⟩ (.bool b)) fb own (setWay bl i b) := by
  refine ⟨by rw [World.cell?_setCell_other _ _ _ _ (by intro e; injection e with _ e _; omega)]; exact h.own, fun k hk => ?_, fun k => by rw [World.frozen?_setCell]; exact h.free k⟩
  by_cases e : k = i
  · subst e
    rw [World.cell?_setCell_same _ _ _ (h.way k hk)]
    unfold setWay
    rw [if_pos rfl]
  · rw [World.cell?_setCell_other _ _ _ _ (by intro q; injection q with _ q _; omega), h.way k hk]
    unfold setWay
    rw [if_neg e]
def filC (own : Int) : Array Value := #[.int .i64 own] ++ Array.replicate 256 (.bool false)
theorem filC_way (own : Int) (i : Nat) (hi : i < 256) : (filC own)[1 + i]? = some (.bool false) := by
  unfold filC
  rw [Array.getElem?_append_right (by show 1 ≤ 1 + i; omega)]
  rw [show 1 + i - (#[Value.int .i64 own] : Array Value).size = i by show 1 + i - 1 = i; omega, Array.getElem?_replicate, if_pos hi]
theorem filC_own (own : Int) : (filC own)[0]? = some (.int .i64 own) := by
  unfold filC
  rw [Array.getElem?_append_left (by show 0 < 1; omega)]; rfl
theorem fil_new (w : World) (own : Int) : FilAt (w.alloc (.cells (filC own) 51)) w.heap.size own (fun _ => false) := by
  have q := heap_alloc_new w (.cells (filC own) 51)
  exact ⟨by rw [row_cell q]; exact filC_own own, fun i hi => by rw [row_cell q]; exact filC_way own i hi, fun i => row_free q i⟩
theorem fil_built (own : Int) : Try.prog.built 51 [(0, .int .i64 own)] = some (filC own) := by kernel_rfl
section
variable {P : Program} {ops : Array Oper} {rest : List Oper} {o : Oper} {a : Act} {w : World} {Q : Exit → Act → World → Prop}
theorem wpList_built (hgd : o.guard = none) (t : TypeId) (parts : Array (Nat × Operand)) (ho : o.op = .build t parts) (l : List (Nat × Value)) (hl : (parts.map fun (i, x) => (i, a.eval x)).toList = l) (cells : Array Value) (hc : P.built t l = some cells)
    (h : wpList P ops Q rest (a.put o.dst (.agg cells)) w) : wpList P ops Q (o :: rest) a w :=
  wpList_plain hgd fun _ hK => wp_build t parts ho (by rw [hl, hc]; rfl) (by rw [hl, hc]; exact hK _ _ h)
end
set_option maxHeartbeats 1600000 in
theorem ex_has (c : Int) (tb : Nat) (vc : Value) (l : List Int) (w : World) (hc : w.cell? ⟨tb, 8, none⟩ = some vc) (hl : IntsAt w vc l) :
    Calls Try.prog 20 #[.int .i64 c, .pointer (some ⟨tb, 0, none⟩)] w fun e w' => e = .returned (.bool (l.contains c)) ∧ w = w' := by
  have CT := Lib.hid (sl_Contains _ l c _ hl)
  generalize hz : l.contains c = z at CT
  have HZ := Lib.hid hz
  clear hz
  obtain ⟨sa, cap, rfl, -⟩ := hl
  go_enter Try.func20, Try.ntmps20
  go_wp2_with fail
  refine CT.out.mono ?_
  rintro e w1 ⟨rfl, rfl⟩
  go_wp2_with fail
  go_ret
  exact ⟨rfl, rfl⟩

set_option maxRecDepth 100000 in
theorem ex_New (own : Int) (w : World) : Calls Try.prog 7 #[.int .i64 own] w fun e w' => e = .returned (.pointer (some ⟨w.heap.size, 0, none⟩)) ∧ FilAt w' w.heap.size (own % 65536) (fun _ => false) ∧ Below w.heap.size w w' := by
  have e1 := and_65535 own
  go_enter Try.func7, Try.ntmps7
  go_wp2_with (refine wpList_built rfl 51 _ rfl [(0, .int .i64 (own % 65536))] ?hl1 (filC (own % 65536)) (fil_built (own % 65536)) ?_)
  go_ret
  exact ⟨rfl, fil_new w _, (Below.refl _ _).alloc (Nat.le_refl _) _⟩
/-- whether a route goes, by its communities. -/
def commB (own : Int) (l : List Int) (t : Int) : Bool := !(l.contains 4294967042 || l.contains 4294967041) && (l.contains (commI own t) || (!l.contains (commI 0 t) && !l.contains (commI 0 own)))
set_option maxHeartbeats 3200000 in
set_option maxRecDepth 100000 in
theorem ex_Set (fb : Nat) (own : Int) (bl : Nat → Bool) (i j : Nat) (b : Bool) (hi : i < 16) (hj : j < 16) (w : World) (h : FilAt w fb own bl) :
    Calls Try.prog 10 #[.pointer (some ⟨fb, 0, none⟩), .int .i64 i, .int .i64 j, .bool b] w fun e w' => e = .returned (.int .i64 0) ∧ FilAt w' fb own (setWay bl (i * 16 + j) b) ∧ Kept (fun k => k = fb) w w' := by
  have H := Lib.hid h
  have c0 := h.way (i * 16 + j) (by omega)
  have f0 := h.free (1 + (i * 16 + j))
  rw [← Nat.add_assoc] at c0 f0
  have i0 : (0 : Int) ≤ (i : Int) := by omega
  have i1 : (i : Int) < 16 := by omega
  have j0 : (0 : Int) ≤ (j : Int) := by omega
  have j1 : (j : Int) < 16 := by omega
  have P1 := Lib.hid (ex_isPeer i hi)
  have P2 := Lib.hid (ex_isPeer j hj)
  clear h
  go_enter Try.func10, Try.ntmps10
  go_wp2_with fail
  refine (P1.out _).mono ?_
  rintro e w1 ⟨rfl, rfl⟩
  go_wp2_with fail
  refine (P2.out _).mono ?_
  rintro e w1 ⟨rfl, rfl⟩
  go_wp2_with fail
  have R := Lib.hid (H.out.set (i := i * 16 + j) (by omega) b)
  rw [← Nat.add_assoc] at R
  go_ret
  exact ⟨rfl, R.out, Kept.setCell _ _ rfl⟩
def goesB (own : Int) (bl : Nat → Bool) (a : At) (i j : Nat) (t : Int) : Bool := !(i == j || passB a.path t) && !bl (i * 16 + j) && commB own a.comms t
abbrev atC (a : At) (vp vc vo : Value) : Array Value := #[.int .i64 a.has, .int .i64 a.origin, vp, .int .u32 a.hop, .int .i64 a.med, .int .i64 a.loc, .int .i64 a.aggrAs, .int .u32 a.aggrId, vc, vo]
theorem at_block {W : World} {b : Nat} {c0 c1 c2 c3 c4 c5 c6 c7 c8 c9 : Value} {T : TypeId} (q : W.heap[b]? = some (.cells #[c0, c1, c2, c3, c4, c5, c6, c7, c8, c9] T (0, 0))) :
    W.cell? ⟨b, 0, none⟩ = some c0 ∧ W.cell? ⟨b, 1, none⟩ = some c1 ∧ W.cell? ⟨b, 2, none⟩ = some c2 ∧ W.cell? ⟨b, 3, none⟩ = some c3 ∧ W.cell? ⟨b, 4, none⟩ = some c4 ∧ W.cell? ⟨b, 5, none⟩ = some c5 ∧ W.cell? ⟨b, 6, none⟩ = some c6 ∧ W.cell? ⟨b, 7, none⟩ = some c7 ∧ W.cell? ⟨b, 8, none⟩ = some c8 ∧ W.cell? ⟨b, 9, none⟩ = some c9 :=
  ⟨row_cell q 0, row_cell q 1, row_cell q 2, row_cell q 3, row_cell q 4, row_cell q 5, row_cell q 6, row_cell q 7, row_cell q 8, row_cell q 9⟩
set_option maxHeartbeats 6400000 in
set_option maxRecDepth 100000 in
theorem ex_Goes (fb : Nat) (own : Int) (bl : Nat → Bool) (a : At) (vp vc vo : Value) (i j : Nat) (t : Int) (hi : i < 16) (hj : j < 16) (w : World) (h : FilAt w fb own bl) (hA : AtL w a vp vc vo) :
    Calls Try.prog 9 #[.pointer (some ⟨fb, 0, none⟩), .agg (atV a vp vc vo).toArray, .int .i64 i, .int .i64 j, .int .i64 t] w fun e w' => e = .returned (.bool (goesB own bl a i j t)) ∧ Below w.heap.size w w' := by
  show Calls Try.prog 9 #[.pointer (some ⟨fb, 0, none⟩), .agg (atC a vp vc vo), .int .i64 i, .int .i64 j, .int .i64 t] w _
  have H := Lib.hid h
  have HA := Lib.hid hA
  have P1 := Lib.hid (ex_isPeer i hi)
  have P2 := Lib.hid (ex_isPeer j hj)
  obtain ⟨d, hd⟩ : ∃ d, (i == j) = d := ⟨_, rfl⟩
  obtain ⟨z, hz⟩ : ∃ z, passB a.path t = z := ⟨_, rfl⟩
  obtain ⟨bb, hbb⟩ : ∃ b, bl (i * 16 + j) = b := ⟨_, rfl⟩
  obtain ⟨x1, hx1⟩ : ∃ x, a.comms.contains 4294967042 = x := ⟨_, rfl⟩
  obtain ⟨x2, hx2⟩ : ∃ x, a.comms.contains 4294967041 = x := ⟨_, rfl⟩
  obtain ⟨x3, hx3⟩ : ∃ x, a.comms.contains (commI own t) = x := ⟨_, rfl⟩
  obtain ⟨x4, hx4⟩ : ∃ x, a.comms.contains (commI 0 t) = x := ⟨_, rfl⟩
  obtain ⟨x5, hx5⟩ : ∃ x, a.comms.contains (commI 0 own) = x := ⟨_, rfl⟩
  have PS := Lib.hid (fun W h => at_Passes a vp vc vo t W h)
  have X1 := Lib.hid (fun tb W => ex_has 4294967042 tb vc a.comms W)
  have X2 := Lib.hid (fun tb W => ex_has 4294967041 tb vc a.comms W)
  have X3 := Lib.hid (fun tb W => ex_has (commI own t) tb vc a.comms W)
  have X4 := Lib.hid (fun tb W => ex_has (commI 0 t) tb vc a.comms W)
  have X5 := Lib.hid (fun tb W => ex_has (commI 0 own) tb vc a.comms W)
  rw [hz] at PS
  rw [hx1] at X1
  rw [hx2] at X2
  rw [hx3] at X3
  rw [hx4] at X4
  rw [hx5] at X5
  have EQ : Hid (goesB own bl a i j t = (!(d || z) && !bb && (!(x1 || x2) && (x3 || (!x4 && !x5))))) := Lib.hid (by unfold goesB commB; rw [hd, hz, hbb, hx1, hx2, hx3, hx4, hx5])
  have CB : Hid (∀ W, Below w.heap.size w W → W.cell? ⟨fb, 1 + i * 16 + j, none⟩ = some (.bool bb)) := Lib.hid (fun W hW => by
    have c0 := (H.out.below hW).way (i * 16 + j) (by omega)
    rw [← Nat.add_assoc, hbb] at c0
    exact c0)
  have hdi : ((i : Int) == (j : Int)) = d := by
    rw [← hd]
    by_cases e : i = j
    · rw [beq_iff_eq.2 e, beq_iff_eq.2 (show (i : Int) = (j : Int) by omega)]
    · rw [beq_eq_false_iff_ne.2 e, beq_eq_false_iff_ne.2 (show (i : Int) ≠ (j : Int) by omega)]
  clear hd hz hbb hx1 hx2 hx3 hx4 hx5
  obtain ⟨sp, cp, rfl, -⟩ := id hA.1
  obtain ⟨sc, cc, rfl, -⟩ := id hA.2.1
  obtain ⟨so, co, rfl, -⟩ := id hA.2.2
  have i0 : (0 : Int) ≤ (i : Int) := by omega
  have i1 : (i : Int) < 16 := by omega
  have j0 : (0 : Int) ≤ (j : Int) := by omega
  have j1 : (j : Int) < 16 := by omega
  clear h hA
  go_enter Try.func9, Try.ntmps9
  go_upto_region 1 with (fail)
  obtain ⟨W0, hW0, qa, hb0, -⟩ := box1 w (atC a (.slice sp a.path.length cp) (.slice sc a.comms.length cc) (.slice so a.others.length co)) 28
  rw [← hW0]
  clear hW0
  have QA := Lib.hid qa
  have B0 := Lib.hid hb0
  obtain ⟨y0, y1, y2, y3, y4, y5, y6, y7, y8, y9⟩ := at_block qa
  have HA0 := Lib.hid (HA.out.below hb0)
  clear qa hb0
  cases d
  · go_wp2_with fail
    refine (PS.out _ HA0.out.1).mono ?_
    rintro e w1 ⟨rfl, hb1⟩
    have B1 := Lib.hid (below_on B0.out hb1)
    have HA1 := Lib.hid (HA0.out.below hb1)
    have y8 := cell_below y8 hb1
    have Y8 := Lib.hid y8
    clear y0 y1 y2 y3 y4 y5 y6 y7 y9 hb1 HA0 B0 QA
    cases z
    · go_wp2_with fail
      refine (P1.out _).mono ?_
      rintro e w2 ⟨rfl, rfl⟩
      go_wp2_with fail
      refine (P2.out _).mono ?_
      rintro e w2 ⟨rfl, rfl⟩
      have cb := CB.out _ B1.out
      have c0 := (H.out.below B1.out).own
      cases bb
      · go_wp2_with fail
        refine (X1.out _ _ Y8.out HA1.out.2.1).mono ?_
        rintro e w2 ⟨rfl, rfl⟩
        cases x1
        · go_wp2_with fail
          refine (X2.out _ _ Y8.out HA1.out.2.1).mono ?_
          rintro e w2 ⟨rfl, rfl⟩
          cases x2
          · go_wp2_with fail
            refine (export_Of own t _).mono ?_
            rintro e w2 ⟨rfl, rfl⟩
            go_wp2_with fail
            refine (X3.out _ _ Y8.out HA1.out.2.1).mono ?_
            rintro e w2 ⟨rfl, rfl⟩
            cases x3
            · go_wp2_with fail
              refine (export_Of 0 t _).mono ?_
              rintro e w2 ⟨rfl, rfl⟩
              go_wp2_with fail
              refine (X4.out _ _ Y8.out HA1.out.2.1).mono ?_
              rintro e w2 ⟨rfl, rfl⟩
              cases x4
              · go_wp2_with fail
                refine (export_Of 0 own _).mono ?_
                rintro e w2 ⟨rfl, rfl⟩
                go_wp2_with fail
                refine (X5.out _ _ Y8.out HA1.out.2.1).mono ?_
                rintro e w2 ⟨rfl, rfl⟩
                cases x5
                · go_wp2_with fail
                  go_ret
                  exact ⟨by rw [EQ.out]; rfl, B1.out⟩
                · go_wp2_with fail
                  go_ret
                  exact ⟨by rw [EQ.out]; rfl, B1.out⟩
              · go_wp2_with fail
                go_ret
                exact ⟨by rw [EQ.out]; rfl, B1.out⟩
            · go_wp2_with fail
              go_ret
              exact ⟨by rw [EQ.out]; rfl, B1.out⟩
          · go_wp2_with fail
            go_ret
            exact ⟨by rw [EQ.out]; rfl, B1.out⟩
        · go_wp2_with fail
          go_ret
          exact ⟨by rw [EQ.out]; rfl, B1.out⟩
      · go_wp2_with fail
        go_ret
        exact ⟨by rw [EQ.out]; rfl, B1.out⟩
    · go_wp2_with fail
      go_ret
      exact ⟨by rw [EQ.out]; rfl, B1.out⟩
  · go_wp2_with fail
    go_ret
    exact ⟨by rw [EQ.out]; rfl, B0.out⟩
end Go.Proofs.Ytafckbapplelhaa
