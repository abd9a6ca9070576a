/- Texts of one proof, one behind another. -/
import Derived.Test.YtkoidahgbbabiaaGreatSf6
import Derived.Test.YtkoidahgbbabiaaGreatSf2
import Derived.Test.YtkoidahgbbabiaaGreatSf3
import Derived.Laws.BitsAllLaws
import Derived.RowKit
import Derived.Deep.Heap
import Derived.Test.YtkoidahgbbabiaaGreatSf1
import Derived.Deep.MidRow
import Derived.StillTailTactics
/-
  EXPORT: New, Set, Goes: which routes go to whom.
-/
namespace Go.Proofs.YtkoidahgbbabiaaGreat
open Go.RowKit
def commI (h l : Int) : Int := h % 65536 * 65536 + l % 65536
set_option maxHeartbeats 400000 in
theorem export_Of (h l : Int) (w : World) :
    Calls Tryz.prog 126 #[.int .i64 h, .int .i64 l] w fun e w' => e = .returned (.int .i64 (commI h l)) ∧ w = w' := by
  have e1 := and_65535 h
  have e2 := and_65535 l
  have e3 := or_side (h % 65536) (l % 65536) (by omega) (by omega) (by omega) (by omega)
  have h1 : 0 ≤ h % 65536 := by omega
  have h2 : h % 65536 < 65536 := by omega
  go_enter Tryz.func126, Tryz.ntmps126
  go_wp2
  go_ret
  exact ⟨ret_int (by rfl), rfl⟩
theorem ex_isPeer (n : Nat) (hn : n < 16) (w : World) : Calls Tryz.prog 119 #[.int .i64 n] w fun e w' => e = .returned (.bool true) ∧ w = w' := by
  have h0 : ((n : Int) ≥ 0) := by omega
  have h1 : (n : Int) < 16 := by omega
  go_enter Tryz.func119, Tryz.ntmps119
  go_wp2_with fail
  go_ret
  exact ⟨rfl, rfl⟩
structure FilAt (w : World) (fb : Nat) (own : Int) (bl : Nat → Bool) : Prop where
  own : w.cell? ⟨fb, 0, none⟩ = some (.int .i64 own)
  way : ∀ i, i < 256 → w.cell? ⟨fb, 1 + i, none⟩ = some (.bool (bl i))
  free : ∀ i, w.frozen? ⟨fb, i, none⟩ = false
theorem FilAt.below {w w' : World} {fb : Nat} {own : Int} {bl : Nat → Bool} (h : FilAt w fb own bl) (hb : Below w.heap.size w w') : FilAt w' fb own bl :=
  ⟨cell_below h.own hb, fun i hi => cell_below (h.way i hi) hb, fun i => (hb.frozen (p := ⟨fb, i, none⟩) (size_lt h.own)).trans (h.free i)⟩
theorem FilAt.kept {F : Nat → Prop} {w w' : World} {fb : Nat} {own : Int} {bl : Nat → Bool} (h : FilAt w fb own bl) (hk : Kept F w w') (hne : ¬ F fb) : FilAt w' fb own bl :=
  ⟨hk.cell h.own hne, fun i hi => hk.cell (h.way i hi) hne, fun i => (World.frozen?_of_block (w := w) (hk.block fb (size_lt h.own) hne)).trans (h.free i)⟩
def setWay (bl : Nat → Bool) (i : Nat) (b : Bool) (k : Nat) : Bool := if k = i then b else bl k
theorem FilAt.set {w : World} {fb : Nat} {own : Int} {bl : Nat → Bool} (h : FilAt w fb own bl) {i : Nat} (hi : i < 256) (b : Bool) : FilAt (w.setCell ⟨fb, 1 + i, none⟩ (.bool b)) fb own (setWay bl i b) := by
  refine ⟨by rw [World.cell?_setCell_other _ _ _ _ (by intro e; injection e with _ e _; omega)]; exact h.own, fun k hk => ?_, fun k => by rw [World.frozen?_setCell]; exact h.free k⟩
  by_cases e : k = i
  · subst e
    rw [World.cell?_setCell_same _ _ _ (h.way k hk)]
    unfold setWay
    rw [if_pos rfl]
  · rw [World.cell?_setCell_other _ _ _ _ (by intro q; injection q with _ q _; omega), h.way k hk]
    unfold setWay
    rw [if_neg e]
def filC (own : Int) : Array Value := #[.int .i64 own] ++ Array.replicate 256 (.bool false)
theorem filC_way (own : Int) (i : Nat) (hi : i < 256) : (filC own)[1 + i]? = some (.bool false) := by
  unfold filC
  rw [Array.getElem?_append_right (by show 1 ≤ 1 + i; omega)]
  rw [show 1 + i - (#[Value.int .i64 own] : Array Value).size = i by show 1 + i - 1 = i; omega, Array.getElem?_replicate, if_pos hi]
theorem filC_own (own : Int) : (filC own)[0]? = some (.int .i64 own) := by
  unfold filC
  rw [Array.getElem?_append_left (by show 0 < 1; omega)]; rfl
theorem fil_new (w : World) (own : Int) : FilAt (w.alloc (.cells (filC own) 164)) w.heap.size own (fun _ => false) := by
  have q := heap_alloc_new w (.cells (filC own) 164)
  exact ⟨by rw [row_cell q]; exact filC_own own, fun i hi => by rw [row_cell q]; exact filC_way own i hi, fun i => row_free q i⟩
theorem fil_built (own : Int) : Tryz.prog.built 164 [(0, .int .i64 own)] = some (filC own) := by kernel_rfl
section
variable {P : Program} {ops : Array Oper} {rest : List Oper} {o : Oper} {a : Act} {w : World} {Q : Exit → Act → World → Prop}
theorem wpList_built (hgd : o.guard = none) (t : TypeId) (parts : Array (Nat × Operand)) (ho : o.op = .build t parts) (l : List (Nat × Value)) (hl : (parts.map fun (i, x) => (i, a.eval x)).toList = l) (cells : Array Value) (hc : P.built t l = some cells)
    (h : wpList P ops Q rest (a.put o.dst (.agg cells)) w) : wpList P ops Q (o :: rest) a w :=
  wpList_plain hgd fun _ hK => wp_build t parts ho (by rw [hl, hc]; rfl) (by rw [hl, hc]; exact hK _ _ h)
end
set_option maxHeartbeats 1600000 in
theorem ex_has (c : Int) (tb : Nat) (vc : Value) (l : List Int) (w : World) (hc : w.cell? ⟨tb, 8, none⟩ = some vc) (hl : IntsAt w vc l) :
    Calls Tryz.prog 124 #[.int .i64 c, .pointer (some ⟨tb, 0, none⟩)] w fun e w' => e = .returned (.bool (l.contains c)) ∧ w = w' := by
  have CT := Lib.hid (sl_Contains _ l c _ hl)
  generalize hz : l.contains c = z at CT
  have HZ := Lib.hid hz
  clear hz
  obtain ⟨sa, cap, rfl, -⟩ := hl
  go_enter Tryz.func124, Tryz.ntmps124
  go_wp2_with fail
  refine CT.out.mono ?_
  rintro e w1 ⟨rfl, rfl⟩
  go_wp2_with fail
  go_ret
  exact ⟨rfl, rfl⟩
set_option maxRecDepth 100000 in
theorem ex_New (own : Int) (w : World) : Calls Tryz.prog 38 #[.int .i64 own] w fun e w' => e = .returned (.pointer (some ⟨w.heap.size, 0, none⟩)) ∧ FilAt w' w.heap.size (own % 65536) (fun _ => false) ∧ Below w.heap.size w w' := by
  have e1 := and_65535 own
  go_enter Tryz.func38, Tryz.ntmps38
  go_wp2_with (refine wpList_built rfl 164 _ rfl [(0, .int .i64 (own % 65536))] ?hl1 (filC (own % 65536)) (fil_built (own % 65536)) ?_)
  go_ret
  exact ⟨rfl, fil_new w _, (Below.refl _ _).alloc (Nat.le_refl _) _⟩
def commB (own : Int) (l : List Int) (t : Int) : Bool := !(l.contains 4294967042 || l.contains 4294967041) && (l.contains (commI own t) || (!l.contains (commI 0 t) && !l.contains (commI 0 own)))
def goesB (own : Int) (bl : Nat → Bool) (a : At) (i j : Nat) (t : Int) : Bool := !(i == j || passB a.path t) && !bl (i * 16 + j) && commB own a.comms t
abbrev atC (a : At) (vp vc vo : Value) : Array Value := #[.int .i64 a.has, .int .i64 a.origin, vp, .int .u32 a.hop, .int .i64 a.med, .int .i64 a.loc, .int .i64 a.aggrAs, .int .u32 a.aggrId, vc, vo]
theorem at_block {W : World} {b : Nat} {c0 c1 c2 c3 c4 c5 c6 c7 c8 c9 : Value} {T : TypeId} (q : W.heap[b]? = some (.cells #[c0, c1, c2, c3, c4, c5, c6, c7, c8, c9] T (0, 0))) :
    W.cell? ⟨b, 0, none⟩ = some c0 ∧ W.cell? ⟨b, 1, none⟩ = some c1 ∧ W.cell? ⟨b, 2, none⟩ = some c2 ∧ W.cell? ⟨b, 3, none⟩ = some c3 ∧ W.cell? ⟨b, 4, none⟩ = some c4 ∧ W.cell? ⟨b, 5, none⟩ = some c5 ∧ W.cell? ⟨b, 6, none⟩ = some c6 ∧ W.cell? ⟨b, 7, none⟩ = some c7 ∧ W.cell? ⟨b, 8, none⟩ = some c8 ∧ W.cell? ⟨b, 9, none⟩ = some c9 :=
  ⟨row_cell q 0, row_cell q 1, row_cell q 2, row_cell q 3, row_cell q 4, row_cell q 5, row_cell q 6, row_cell q 7, row_cell q 8, row_cell q 9⟩
set_option maxHeartbeats 6400000 in
set_option maxRecDepth 100000 in
theorem ex_Goes (fb : Nat) (own : Int) (bl : Nat → Bool) (a : At) (vp vc vo : Value) (i j : Nat) (t : Int) (hi : i < 16) (hj : j < 16) (w : World) (h : FilAt w fb own bl) (hA : AtL w a vp vc vo) :
    Calls Tryz.prog 76 #[.pointer (some ⟨fb, 0, none⟩), .agg (atV a vp vc vo).toArray, .int .i64 i, .int .i64 j, .int .i64 t] w fun e w' => e = .returned (.bool (goesB own bl a i j t)) ∧ Below w.heap.size w w' := by
  show Calls Tryz.prog 76 #[.pointer (some ⟨fb, 0, none⟩), .agg (atC a vp vc vo), .int .i64 i, .int .i64 j, .int .i64 t] w _
  have H := Lib.hid h
  have HA := Lib.hid hA
  have P1 := Lib.hid (ex_isPeer i hi)
  have P2 := Lib.hid (ex_isPeer j hj)
  obtain ⟨d, hd⟩ : ∃ d, (i == j) = d := ⟨_, rfl⟩
  obtain ⟨z, hz⟩ : ∃ z, passB a.path t = z := ⟨_, rfl⟩
  obtain ⟨bb, hbb⟩ : ∃ b, bl (i * 16 + j) = b := ⟨_, rfl⟩
  obtain ⟨x1, hx1⟩ : ∃ x, a.comms.contains 4294967042 = x := ⟨_, rfl⟩
  obtain ⟨x2, hx2⟩ : ∃ x, a.comms.contains 4294967041 = x := ⟨_, rfl⟩
  obtain ⟨x3, hx3⟩ : ∃ x, a.comms.contains (commI own t) = x := ⟨_, rfl⟩
  obtain ⟨x4, hx4⟩ : ∃ x, a.comms.contains (commI 0 t) = x := ⟨_, rfl⟩
  obtain ⟨x5, hx5⟩ : ∃ x, a.comms.contains (commI 0 own) = x := ⟨_, rfl⟩
  have PS := Lib.hid (fun W h => at_Passes a vp vc vo t W h)
  have X1 := Lib.hid (fun tb W => ex_has 4294967042 tb vc a.comms W)
  have X2 := Lib.hid (fun tb W => ex_has 4294967041 tb vc a.comms W)
  have X3 := Lib.hid (fun tb W => ex_has (commI own t) tb vc a.comms W)
  have X4 := Lib.hid (fun tb W => ex_has (commI 0 t) tb vc a.comms W)
  have X5 := Lib.hid (fun tb W => ex_has (commI 0 own) tb vc a.comms W)
  rw [hz] at PS
  rw [hx1] at X1
  rw [hx2] at X2
  rw [hx3] at X3
  rw [hx4] at X4
  rw [hx5] at X5
  have EQ : Hid (goesB own bl a i j t = (!(d || z) && !bb && (!(x1 || x2) && (x3 || (!x4 && !x5))))) := Lib.hid (by unfold goesB commB; rw [hd, hz, hbb, hx1, hx2, hx3, hx4, hx5])
  have CB : Hid (∀ W, Below w.heap.size w W → W.cell? ⟨fb, 1 + i * 16 + j, none⟩ = some (.bool bb)) := Lib.hid (fun W hW => by
    have c0 := (H.out.below hW).way (i * 16 + j) (by omega)
    rw [← Nat.add_assoc, hbb] at c0
    exact c0)
  have hdi : ((i : Int) == (j : Int)) = d := by
    rw [← hd]
    by_cases e : i = j
    · rw [beq_iff_eq.2 e, beq_iff_eq.2 (show (i : Int) = (j : Int) by omega)]
    · rw [beq_eq_false_iff_ne.2 e, beq_eq_false_iff_ne.2 (show (i : Int) ≠ (j : Int) by omega)]
  clear hd hz hbb hx1 hx2 hx3 hx4 hx5
  obtain ⟨sp, cp, rfl, -⟩ := id hA.1
  obtain ⟨sc, cc, rfl, -⟩ := id hA.2.1
  obtain ⟨so, co, rfl, -⟩ := id hA.2.2
  have i0 : (0 : Int) ≤ (i : Int) := by omega
  have i1 : (i : Int) < 16 := by omega
  have j0 : (0 : Int) ≤ (j : Int) := by omega
  have j1 : (j : Int) < 16 := by omega
  clear h hA
  go_enter Tryz.func76, Tryz.ntmps76
  go_upto_region 1 with (fail)
  obtain ⟨W0, hW0, qa, hb0, -⟩ := box1 w (atC a (.slice sp a.path.length cp) (.slice sc a.comms.length cc) (.slice so a.others.length co)) 42
  rw [← hW0]
  clear hW0
  have QA := Lib.hid qa
  have B0 := Lib.hid hb0
  obtain ⟨y0, y1, y2, y3, y4, y5, y6, y7, y8, y9⟩ := at_block qa
  have HA0 := Lib.hid (HA.out.below hb0)
  clear qa hb0
  cases d
  · go_wp2_with fail
    refine (PS.out _ HA0.out.1).mono ?_
    rintro e w1 ⟨rfl, hb1⟩
    have B1 := Lib.hid (below_on B0.out hb1)
    have HA1 := Lib.hid (HA0.out.below hb1)
    have y8 := cell_below y8 hb1
    have Y8 := Lib.hid y8
    clear y0 y1 y2 y3 y4 y5 y6 y7 y9 hb1 HA0 B0 QA
    cases z
    · go_wp2_with fail
      refine (P1.out _).mono ?_
      rintro e w2 ⟨rfl, rfl⟩
      go_wp2_with fail
      refine (P2.out _).mono ?_
      rintro e w2 ⟨rfl, rfl⟩
      have cb := CB.out _ B1.out
      have c0 := (H.out.below B1.out).own
      cases bb
      · go_wp2_with fail
        refine (X1.out _ _ Y8.out HA1.out.2.1).mono ?_
        rintro e w2 ⟨rfl, rfl⟩
        cases x1
        · go_wp2_with fail
          refine (X2.out _ _ Y8.out HA1.out.2.1).mono ?_
          rintro e w2 ⟨rfl, rfl⟩
          cases x2
          · go_wp2_with fail
            refine (export_Of own t _).mono ?_
            rintro e w2 ⟨rfl, rfl⟩
            go_wp2_with fail
            refine (X3.out _ _ Y8.out HA1.out.2.1).mono ?_
            rintro e w2 ⟨rfl, rfl⟩
            cases x3
            · go_wp2_with fail
              refine (export_Of 0 t _).mono ?_
              rintro e w2 ⟨rfl, rfl⟩
              go_wp2_with fail
              refine (X4.out _ _ Y8.out HA1.out.2.1).mono ?_
              rintro e w2 ⟨rfl, rfl⟩
              cases x4
              · go_wp2_with fail
                refine (export_Of 0 own _).mono ?_
                rintro e w2 ⟨rfl, rfl⟩
                go_wp2_with fail
                refine (X5.out _ _ Y8.out HA1.out.2.1).mono ?_
                rintro e w2 ⟨rfl, rfl⟩
                cases x5
                · go_wp2_with fail
                  go_ret
                  exact ⟨by rw [EQ.out]; rfl, B1.out⟩
                · go_wp2_with fail
                  go_ret
                  exact ⟨by rw [EQ.out]; rfl, B1.out⟩
              · go_wp2_with fail
                go_ret
                exact ⟨by rw [EQ.out]; rfl, B1.out⟩
            · go_wp2_with fail
              go_ret
              exact ⟨by rw [EQ.out]; rfl, B1.out⟩
          · go_wp2_with fail
            go_ret
            exact ⟨by rw [EQ.out]; rfl, B1.out⟩
        · go_wp2_with fail
          go_ret
          exact ⟨by rw [EQ.out]; rfl, B1.out⟩
      · go_wp2_with fail
        go_ret
        exact ⟨by rw [EQ.out]; rfl, B1.out⟩
    · go_wp2_with fail
      go_ret
      exact ⟨by rw [EQ.out]; rfl, B1.out⟩
  · go_wp2_with fail
    go_ret
    exact ⟨by rw [EQ.out]; rfl, B0.out⟩
end Go.Proofs.YtkoidahgbbabiaaGreat
/-
  STRIPPED: slices.IndexFunc, slices.DeleteFunc over communities: those of the system's own go.
-/
namespace Go.Proofs.YtkoidahgbbabiaaGreat
open Go.RowKit
def ownB (own c : Int) : Bool := c / 65536 == 0 || c / 65536 == own
set_option maxRecDepth 100000 in
theorem st_del (c : Int) (tb fb : Nat) (own : Int) (w : World) (ht : w.cell? ⟨tb, 0, none⟩ = some (.pointer (some ⟨fb, 0, none⟩))) (hf : w.cell? ⟨fb, 0, none⟩ = some (.int .i64 own)) :
    Calls Tryz.prog 87 #[.int .i64 c, .pointer (some ⟨tb, 0, none⟩)] w fun e w' => e = .returned (.bool (ownB own c)) ∧ Below w.heap.size w w' := by
  go_enter Tryz.func87, Tryz.ntmps87
  by_cases h : c / 65536 = 0
  · have h1 : (c / 65536 == 0) = true := by simpa using h
    have E : Hid (ownB own c = true) := Lib.hid (by unfold ownB; rw [h1]; rfl)
    clear h
    go_wp2_with fail
    go_ret
    exact ⟨ret_bool E.out.symm, Below.refl _ _⟩
  · have h1 : (c / 65536 == 0) = false := by simpa using h
    have E : Hid (ownB own c = (c / 65536 == own)) := Lib.hid (by unfold ownB; rw [h1]; rfl)
    clear h
    go_wp2_with fail
    go_ret
    exact ⟨ret_bool E.out.symm, Below.refl _ _⟩
structure CapAt (W : World) (tb fb : Nat) (own : Int) : Prop where
  box : W.cell? ⟨tb, 0, none⟩ = some (.pointer (some ⟨fb, 0, none⟩))
  own : W.cell? ⟨fb, 0, none⟩ = some (.int .i64 own)
theorem CapAt.below {W W' : World} {tb fb : Nat} {own : Int} (h : CapAt W tb fb own) (hb : Below W.heap.size W W') : CapAt W' tb fb own := ⟨cell_below h.box hb, cell_below h.own hb⟩
theorem CapAt.kept {W W' : World} {tb fb g : Nat} {own : Int} (h : CapAt W tb fb own) (hk : Kept (fun b => b = g) W W') (h1 : tb ≠ g) (h2 : fb ≠ g) : CapAt W' tb fb own := ⟨hk.cell h.box h1, hk.cell h.own h2⟩
def idxO (own : Int) : List Int → Nat → Int
  | [], _ => -1
  | r :: rs, k => if ownB own r = true then (k : Int) else idxO own rs (k + 1)
theorem idxO_step {own : Int} {rs : List Int} {k : Nat} {r : Int} (h : rs[k]? = some r) : idxO own (rs.drop k) k = if ownB own r = true then (k : Int) else idxO own (rs.drop (k + 1)) (k + 1) := by
  obtain ⟨h1, h2⟩ := List.getElem?_eq_some_iff.1 h
  rw [List.drop_eq_getElem_cons h1, h2]; rfl
def FilI (w : World) (g : Nat) (xs : List Int) : Prop := ∀ (i : Nat) (x : Int), xs[i]? = some x → w.cell? ⟨g, i, none⟩ = some (.int .i64 x)
set_option maxHeartbeats 3200000 in
set_option maxRecDepth 100000 in
theorem st_Index (g n : Nat) (rs : List Int) (tb fb : Nat) (own : Int) (w : World) (h : FilI w g rs) (hl : rs.length ≤ n) (hn : n ≤ maxLen) (ht : CapAt w tb fb own) :
    Calls Tryz.prog 131 #[.slice (some ⟨g, 0, none⟩) rs.length n, .func (.func 87) #[] #[.pointer (some ⟨tb, 0, none⟩)]] w fun e w' => e = .returned (.int .i64 (idxO own rs 0)) ∧ Below w.heap.size w w' := by
  have HV := Lib.hid h
  have HT := Lib.hid ht
  have DL := Lib.hid (fun c W (h : CapAt W tb fb own) => st_del c tb fb own W h.box h.own)
  unfold maxLen at hn
  clear h ht
  go_enter Tryz.func131, Tryz.ntmps131
  go_wp2_with fail
  go_loopw [8] (fun i wr => ∃ k : Nat, k ≤ rs.length ∧ i = .int .i64 k ∧ Hid (idxO own rs 0 = idxO own (rs.drop k) k) ∧ Hid (Below w.heap.size w wr)) (fun i _ => rs.length - (intOf i).toNat)
  case atStart => exact ⟨0, by omega, rfl, Lib.hid rfl, Lib.hid (Below.refl _ _)⟩
  case round =>
    obtain ⟨k, hk, rfl, E, B⟩ := hrel
    by_cases hlt : k < rs.length
    · obtain ⟨r, hr⟩ : ∃ r, rs[k]? = some r := ⟨_, List.getElem?_eq_getElem hlt⟩
      have x0 := cell_below (HV.out k r hr) B.out
      have t0 := Lib.hid (HT.out.below B.out)
      have E2 : Hid (idxO own rs 0 = if ownB own r = true then (k : Int) else idxO own (rs.drop (k + 1)) (k + 1)) := Lib.hid (by rw [E.out, idxO_step hr])
      have j0 : (0 : Int) ≤ (k : Int) := by omega
      have j1 : (k : Int) < (rs.length : Int) := by omega
      obtain ⟨z, hz⟩ : ∃ z, ownB own r = z := ⟨_, rfl⟩
      have D1 := Lib.hid (DL.out r wr t0.out)
      rw [hz] at D1 E2
      clear hr E hz
      go_wp2_with fail
      refine D1.out.mono ?_
      rintro e w2 ⟨rfl, hb2⟩
      have B2 := Lib.hid (below_on B.out hb2)
      clear hb2 B x0 t0 D1
      rcases z with _ | _
      · have E3 : Hid (idxO own rs 0 = idxO own (rs.drop (k + 1)) (k + 1)) := Lib.hid (by rw [E2.out, if_neg (by simp)])
        clear E2
        go_wp2_with fail
        exact ⟨⟨k + 1, by omega, by go_num, E3, B2⟩, by simp [intOf]; omega⟩
      · have E3 : Hid (idxO own rs 0 = (k : Int)) := Lib.hid (by rw [E2.out, if_pos rfl])
        clear E2
        go_wp2_with fail
        go_ret
        exact ⟨ret_int E3.out.symm, B2.out⟩
    · obtain rfl : rs.length = k := by omega
      have E3 : Hid (idxO own rs 0 = -1) := Lib.hid (by rw [E.out, List.drop_length]; rfl)
      clear E
      go_wp2_with fail
      go_ret
      exact ⟨ret_int E3.out.symm, B.out⟩
theorem run_clear_ints (w : World) (g o n c : Nat) (hn : 0 < n) (ht : w.there g o n) :
    ∃ L : List Value, L.length = n ∧ ∀ ty, (Builtin.clear_ #[39] ty #[.slice (some ⟨g, o, none⟩) n c]).run Tryz.prog w = .ok (.tuple #[]) (w.setCells g o L) := by
  have hlen : (Builtin.zeroCells #[.int .i64 0] n).toList.length = n := by rw [Array.length_toList, size_zeroCells]; simp
  refine ⟨(Builtin.zeroCells #[.int .i64 0] n).toList, hlen, fun ty => ?_⟩
  have hst := run_storeCells_cells (P := Tryz.prog) g o (Builtin.zeroCells #[.int .i64 0] n).toList 0 w (fun j hj => by rw [Nat.add_zero]; exact (ht j (by rw [hlen] at hj; exact hj)).1) (fun j hj => by rw [Nat.add_zero]; exact (ht j (by rw [hlen] at hj; exact hj)).2)
    (zeroCells_one #[.int .i64 0] (by intro v hv; simp at hv; subst hv; rfl) (by decide) n)
  simp only [Nat.add_zero] at hst
  obtain ⟨m, rfl⟩ : ∃ m, n = m + 1 := ⟨n - 1, by omega⟩
  simp [Builtin.clear_, run_underlying Tryz.underlying39, Value.cells, hst]
def keepO (own : Int) (c : Int) : Bool := !ownB own c
def kpO (own : Int) (rs : List Int) (j : Nat) : List Int := (rs.take j).filter (keepO own)
theorem kpO_step (own : Int) {rs : List Int} {j : Nat} {r : Int} (h : rs[j]? = some r) : kpO own rs (j + 1) = kpO own rs j ++ (if keepO own r then [r] else []) := filter_step _ h
theorem idxO_none {own : Int} : ∀ (rs : List Int) (k : Nat), idxO own rs k = -1 → ∀ r ∈ rs, keepO own r = true
  | [], _, _, r, hr => by simp at hr
  | x :: rs, k, h, r, hr => by
    unfold idxO at h
    split at h
    · omega
    · next hx =>
      rcases List.mem_cons.1 hr with rfl | hr
      · unfold keepO; simpa using hx
      · exact idxO_none rs (k + 1) h r hr
theorem idxO_some {own : Int} : ∀ (rs : List Int) (k : Nat), idxO own rs k ≠ -1 → ∃ i, idxO own rs k = ((k + i : Nat) : Int) ∧ i < rs.length ∧ (rs.take i).filter (keepO own) = rs.take i ∧ ∃ r, rs[i]? = some r ∧ keepO own r = false
  | [], _, h => absurd rfl h
  | x :: rs, k, h => by
    unfold idxO at h ⊢
    by_cases hx : ownB own x = true
    · rw [if_pos hx]
      exact ⟨0, rfl, by simp, by simp, x, rfl, by unfold keepO; rw [hx]; rfl⟩
    · rw [if_neg hx] at h ⊢
      obtain ⟨i, h1, h2, h3, r, h4, h5⟩ := idxO_some rs (k + 1) h
      refine ⟨i + 1, by rw [h1]; congr 1; omega, by simp; omega, ?_, r, by simpa using h4, h5⟩
      rw [List.take_succ_cons, List.filter_cons_of_pos (by unfold keepO; simpa using hx), h3]
def IntRow (w : World) (g n : Nat) (rs : List Int) : Prop := FilI w g rs ∧ w.there g 0 n
theorem IntRow.below {w w' : World} {g n : Nat} {rs : List Int} (h : IntRow w g n rs) (hb : Below w.heap.size w w') : IntRow w' g n rs := ⟨fun i x hx => cell_below (h.1 i x hx) hb, there_below h.2 hb⟩
set_option maxHeartbeats 6400000 in
set_option maxRecDepth 100000 in
theorem st_Delete (g n c : Nat) (rs : List Int) (tb fb : Nat) (own : Int) (w : World) (R : IntRow w g n rs) (hln : rs.length ≤ n) (hlc : rs.length ≤ c) (hn : c ≤ maxLen) (ht : CapAt w tb fb own) (hne : tb ≠ g) (hnf : fb ≠ g) :
    Calls Tryz.prog 86 #[.slice (some ⟨g, 0, none⟩) rs.length c, .func (.func 87) #[] #[.pointer (some ⟨tb, 0, none⟩)]] w fun e w' => e = .returned (.slice (some ⟨g, 0, none⟩) (rs.filter (keepO own)).length c) ∧ IntRow w' g n (rs.filter (keepO own)) ∧ Kept (fun b => b = g) w w' := by
  have IX := Lib.hid (st_Index g c rs tb fb own w R.1 hlc hn ht)
  have HR := Lib.hid R
  have HT := Lib.hid ht
  have DL := Lib.hid (fun c W (h : CapAt W tb fb own) => st_del c tb fb own W h.box h.own)
  have NG := Lib.hid (And.intro hne hnf)
  unfold maxLen at hn
  clear R ht hne hnf
  by_cases hi : idxO own rs 0 = -1
  · have E : Hid (rs.filter (keepO own) = rs) := Lib.hid (List.filter_eq_self.2 (idxO_none rs 0 hi))
    rw [hi] at IX
    rw [E.out]
    clear hi E
    go_enter Tryz.func86, Tryz.ntmps86
    go_wp2_with fail
    refine IX.out.mono ?_
    rintro e w1 ⟨rfl, hb1⟩
    have R1 := Lib.hid (HR.out.below hb1)
    have K1 := Lib.hid (Kept.of_below (F := fun b => b = g) hb1)
    clear hb1 IX HR
    go_wp2_with fail
    go_ret
    exact ⟨rfl, R1.out, K1.out⟩
  · obtain ⟨i, h1, h2, h3, r0, h4, h5⟩ := idxO_some rs 0 hi
    rw [Nat.zero_add] at h1
    rw [h1] at IX
    have KI : Hid (kpO own rs (i + 1) = rs.take i) := Lib.hid (by
      rw [kpO_step own h4, h5]
      unfold kpO
      rw [h3]; simp)
    have H4 := Lib.hid h4
    clear hi h1 h3 h4 h5
    have n1 : ((i : Int) == -1) = false := by rw [beq_eq_false_iff_ne]; omega
    go_enter Tryz.func86, Tryz.ntmps86
    go_wp2_with fail
    refine IX.out.mono ?_
    rintro e w1 ⟨rfl, hb1⟩
    have R1 := HR.out.below hb1
    have K1 := Lib.hid (Kept.of_below (F := fun b => b = g) hb1)
    have F1 : Hid (FilI w1 g (kpO own rs (i + 1))) := Lib.hid (by
      rw [KI.out]
      intro q x hx
      have hq := (List.getElem?_eq_some_iff.1 hx).1
      rw [List.getElem?_take_of_lt (by simp at hq; omega)] at hx
      exact R1.1 q x hx)
    have T1 := Lib.hid R1.2
    have S1 : Hid (∀ (q : Nat) (x : Int), i + 1 ≤ q → rs[q]? = some x → w1.cell? ⟨g, q, none⟩ = some (.int .i64 x)) := Lib.hid (fun q x _ hx => R1.1 q x hx)
    have LK : Hid ((kpO own rs (i + 1)).length + 1 ≤ i + 1) := Lib.hid (by rw [KI.out, List.length_take]; omega)
    have E0 : Hid ((kpO own rs (i + 1)).length = i) := Lib.hid (by rw [KI.out, List.length_take]; omega)
    clear hb1 R1 IX HR H4 KI
    go_wp2_with fail
    go_loopw [5, 6] (fun vi vj wr => ∃ j : Nat, i + 1 ≤ j ∧ j ≤ rs.length ∧ vj = .int .i64 j ∧ vi = .int .i64 ((kpO own rs j).length : Nat) ∧ Hid (FilI wr g (kpO own rs j)) ∧ Hid (wr.there g 0 n) ∧ Hid (∀ (q : Nat) (x : Int), j ≤ q → rs[q]? = some x → wr.cell? ⟨g, q, none⟩ = some (.int .i64 x)) ∧ Hid (Kept (fun b => b = g) w wr) ∧ Hid ((kpO own rs j).length + 1 ≤ j)) (fun _ vj _ => rs.length - (intOf vj).toNat)
    case atStart => exact ⟨i + 1, by omega, by omega, by go_num, by rw [E0.out], F1, T1, S1, K1, LK⟩
    case round =>
      clear F1 T1 S1 K1 LK E0
      obtain ⟨j, hj1, hj2, rfl, rfl, F, T, S, K, LK⟩ := hrel
      by_cases hlt : j < rs.length
      · obtain ⟨r, hr⟩ : ∃ r, rs[j]? = some r := ⟨_, List.getElem?_eq_getElem hlt⟩
        have x0 : wr.cell? ⟨g, j, none⟩ = some (.int .i64 r) := S.out j r (Nat.le_refl _) hr
        have TC := Lib.hid (HT.out.kept K.out NG.out.1 NG.out.2)
        have ST := Lib.hid (kpO_step own hr)
        have j0 : (0 : Int) ≤ (j : Int) := by omega
        have j1 : (j : Int) < (rs.length : Int) := by omega
        have D1 := Lib.hid (DL.out r wr TC.out)
        obtain ⟨z, hz⟩ : ∃ z, ownB own r = z := ⟨_, rfl⟩
        rw [hz] at D1
        have HZ := Lib.hid hz
        clear hr TC hz
        go_wp2_with fail
        refine D1.out.mono ?_
        rintro e w5 ⟨rfl, hb5⟩
        have F5 : Hid (FilI w5 g (kpO own rs j)) := Lib.hid (fun q x hx => cell_below (F.out q x hx) hb5)
        have T5 := Lib.hid (there_below T.out hb5)
        have S5 : Hid (∀ (q : Nat) (x : Int), j ≤ q → rs[q]? = some x → w5.cell? ⟨g, q, none⟩ = some (.int .i64 x)) := Lib.hid (fun q x h1 h2 => cell_below (S.out q x h1 h2) hb5)
        have K5 := Lib.hid (K.out.trans (Kept.of_below hb5))
        clear hb5 F T S K D1 x0
        rcases z with _ | _
        · have ST2 : Hid (kpO own rs (j + 1) = kpO own rs j ++ [r]) := Lib.hid (by rw [ST.out]; unfold keepO; rw [HZ.out]; rfl)
          have LK2 : Hid ((kpO own rs (j + 1)).length + 1 ≤ j + 1) := Lib.hid (by rw [ST2.out, List.length_append]; have := LK.out; simp; omega)
          have lk := LK.out
          have EV : Hid (Value.int .i64 ((kpO own rs j).length + 1 : Nat) = .int .i64 ((kpO own rs (j + 1)).length : Nat)) := Lib.hid (by rw [ST2.out, List.length_append]; rfl)
          obtain ⟨m, hm⟩ : ∃ m, (kpO own rs j).length = m := ⟨_, rfl⟩
          rw [hm] at lk EV ⊢
          have tm := T5.out m (by omega)
          rw [Nat.zero_add] at tm
          obtain ⟨v0, hv0⟩ := Option.isSome_iff_exists.1 tm.1
          have hf0 := tm.2
          have Fss : Hid (FilI (w5.setCell ⟨g, m, none⟩ (.int .i64 r)) g (kpO own rs (j + 1))) := Lib.hid (by
            rw [ST2.out]
            intro q x hx
            by_cases hq : q < m
            · rw [List.getElem?_append_left (by rw [hm]; exact hq)] at hx
              rw [World.cell?_setCell_other _ _ _ _ (by intro e; injection e with _ e; omega)]
              exact F5.out q x hx
            · have hl := (List.getElem?_eq_some_iff.1 hx).1
              rw [List.length_append, hm, List.length_singleton] at hl
              obtain rfl : q = m := by omega
              rw [List.getElem?_append_right (by rw [hm]; exact Nat.le_refl _), hm, Nat.sub_self] at hx
              have hx : r = x := by simpa using hx
              subst hx
              exact World.cell?_setCell_same _ _ _ hv0)
          have TS : Hid ((w5.setCell ⟨g, m, none⟩ (.int .i64 r)).there g 0 n) := Lib.hid (World.there_setCells T5.out g m [Value.int .i64 r])
          have SS : Hid (∀ (q : Nat) (x : Int), j + 1 ≤ q → rs[q]? = some x → (w5.setCell ⟨g, m, none⟩ (.int .i64 r)).cell? ⟨g, q, none⟩ = some (.int .i64 x)) := Lib.hid (fun q x h1 h2 => by
            rw [World.cell?_setCell_other _ _ _ _ (by intro e; injection e with _ e; omega)]
            exact S5.out q x (by omega) h2)
          have K6 : Hid (Kept (fun b => b = g) w (w5.setCell ⟨g, m, none⟩ (.int .i64 r))) := Lib.hid (K5.out.trans (Kept.setCell _ _ rfl))
          have m0 : (0 : Int) ≤ (m : Int) := by omega
          have m1 : (m : Int) < (rs.length : Int) := by omega
          clear ST ST2 S5 LK F5 T5 K5 hm
          go_wp2_with fail
          exact ⟨⟨j + 1, by omega, by omega, by go_num, EV.out, Fss, TS, SS, K6, LK2⟩, by simp [intOf]; omega⟩
        · have ST2 : Hid (kpO own rs (j + 1) = kpO own rs j) := Lib.hid (by rw [ST.out]; unfold keepO; rw [HZ.out]; simp)
          have LK2 : Hid ((kpO own rs (j + 1)).length + 1 ≤ j + 1) := Lib.hid (by rw [ST2.out]; have := LK.out; omega)
          rw [← ST2.out] at F5
          have EV : Hid (Value.int .i64 ((kpO own rs j).length : Nat) = .int .i64 ((kpO own rs (j + 1)).length : Nat)) := Lib.hid (by rw [ST2.out])
          have S6 : Hid (∀ (q : Nat) (x : Int), j + 1 ≤ q → rs[q]? = some x → w5.cell? ⟨g, q, none⟩ = some (.int .i64 x)) := Lib.hid (fun q x h1 h2 => S5.out q x (by omega) h2)
          clear ST ST2 S5 LK
          go_wp2_with fail
          exact ⟨⟨j + 1, by omega, by omega, by go_num, EV.out, F5, T5, S6, K5, LK2⟩, by simp [intOf]; omega⟩
      · obtain rfl : j = rs.length := by omega
        have EF : Hid (kpO own rs rs.length = rs.filter (keepO own)) := Lib.hid (by unfold kpO; rw [List.take_length])
        have lk := LK.out
        rw [EF.out] at F LK lk
        rw [EF.out]
        clear EF S hlt LK
        generalize hm : (rs.filter (keepO own)).length = m at *
        have m0 : (0 : Int) ≤ (m : Int) := by omega
        have m1 : (m : Int) ≤ (rs.length : Int) := by omega
        obtain ⟨L, hL, hcl⟩ := run_clear_ints wr g m (rs.length - m) (c - m) (by omega) (fun q hq => by
          have := T.out (m + q) (by omega)
          rw [Nat.zero_add] at this
          exact this)
        have K6 := Lib.hid (K.out.trans (kept_cells (F := fun b => b = g) rfl L m wr))
        have R6 : Hid (IntRow (wr.setCells g m L) g n (rs.filter (keepO own))) := Lib.hid ⟨fun q x hx => by
          have hq := (List.getElem?_eq_some_iff.1 hx).1
          have h1 : wr.rangeAt g q [Value.int .i64 x] := fun k v hv => by
            match k, hv with
            | 0, hv =>
              simp at hv
              subst hv
              exact F.out q x hx
          exact World.rangeAt_setCells_apart h1 _ _ _ (.inr (.inl (by show q + 1 ≤ m; omega))) 0 _ rfl, World.there_setCells T.out _ _ _⟩
        clear hL F T K
        go_wp2_with (simp only [hcl])
        go_ret
        exact ⟨by rw [hm]; rfl, R6.out, K6.out⟩
set_option maxRecDepth 100000 in
theorem st_Index_nil (f : Value) (w : World) : Calls Tryz.prog 131 #[.slice none 0 0, f] w fun e w' => e = .returned (.int .i64 (-1)) ∧ w = w' := by
  go_enter Tryz.func131, Tryz.ntmps131
  go_wp2_with fail
  go_loopw [8] (fun i wr => i = .int .i64 0 ∧ w = wr) (fun _ _ => 0)
  case atStart => exact ⟨rfl, rfl⟩
  case round =>
    obtain ⟨rfl, rfl⟩ := hrel
    go_wp2_with fail
    go_ret
    exact ⟨rfl, rfl⟩
set_option maxRecDepth 100000 in
theorem st_Delete_nil (f : Value) (w : World) : Calls Tryz.prog 86 #[.slice none 0 0, f] w fun e w' => e = .returned (.slice none 0 0) ∧ w = w' := by
  have IX := Lib.hid (st_Index_nil f w)
  go_enter Tryz.func86, Tryz.ntmps86
  go_wp2_with fail
  refine IX.out.mono ?_
  rintro e w1 ⟨rfl, rfl⟩
  go_wp2_with fail
  go_ret
  exact ⟨rfl, rfl⟩
end Go.Proofs.YtkoidahgbbabiaaGreat
/-
  PLAIN ARITHMETIC FOR THE ADDRESSES AND PREFIXES: no program in sight. Masks of 32 bits, the number that is left of an address under a mask, bits of an address.
-/
namespace Go.Proofs.YtkoidahgbbabiaaGreat
open Go.RowKit (wrap64 wrap32)
theorem cases33 {P : Nat → Prop} (k : Nat) (hk : k ≤ 32) (h0 : P 0) (h1 : P 1) (h2 : P 2) (h3 : P 3) (h4 : P 4) (h5 : P 5) (h6 : P 6) (h7 : P 7) (h8 : P 8) (h9 : P 9) (h10 : P 10) (h11 : P 11) (h12 : P 12) (h13 : P 13) (h14 : P 14) (h15 : P 15) (h16 : P 16)
    (h17 : P 17) (h18 : P 18) (h19 : P 19) (h20 : P 20) (h21 : P 21) (h22 : P 22) (h23 : P 23) (h24 : P 24) (h25 : P 25) (h26 : P 26) (h27 : P 27) (h28 : P 28) (h29 : P 29) (h30 : P 30) (h31 : P 31) (h32 : P 32) : P k := by
  match k, hk with
  | 0, _ => exact h0
  | 1, _ => exact h1
  | 2, _ => exact h2
  | 3, _ => exact h3
  | 4, _ => exact h4
  | 5, _ => exact h5
  | 6, _ => exact h6
  | 7, _ => exact h7
  | 8, _ => exact h8
  | 9, _ => exact h9
  | 10, _ => exact h10
  | 11, _ => exact h11
  | 12, _ => exact h12
  | 13, _ => exact h13
  | 14, _ => exact h14
  | 15, _ => exact h15
  | 16, _ => exact h16
  | 17, _ => exact h17
  | 18, _ => exact h18
  | 19, _ => exact h19
  | 20, _ => exact h20
  | 21, _ => exact h21
  | 22, _ => exact h22
  | 23, _ => exact h23
  | 24, _ => exact h24
  | 25, _ => exact h25
  | 26, _ => exact h26
  | 27, _ => exact h27
  | 28, _ => exact h28
  | 29, _ => exact h29
  | 30, _ => exact h30
  | 31, _ => exact h31
  | 32, _ => exact h32
  | k + 33, h => omega
def cl (n : Int) : Int := min (max n 0) 32
theorem cl_lo (n : Int) : 0 ≤ cl n := by unfold cl; omega
theorem cl_hi (n : Int) : cl n ≤ 32 := by unfold cl; omega
theorem cl_of (n : Int) (h0 : 0 ≤ n) (h : n ≤ 32) : cl n = n := by unfold cl; omega
def lowN (n : Int) : Nat := (32 - cl n).toNat
theorem lowN_le (n : Int) : lowN n ≤ 32 := by have := cl_lo n; unfold lowN; omega
theorem lowN_of (n : Int) (h0 : 0 ≤ n) (h : n ≤ 32) : lowN n = (32 - n).toNat := by unfold lowN; rw [cl_of n h0 h]
def maskI (n : Int) : Int := 4294967296 - 2 ^ lowN n
def keepI (a n : Int) : Int := a - a % 2 ^ lowN n
theorem pow33 (k : Nat) (hk : k ≤ 32) : (4294967295 * 2 ^ k % 4294967296 : Int) = 4294967296 - 2 ^ k := by
  refine cases33 (P := fun k => (4294967295 * 2 ^ k % 4294967296 : Int) = 4294967296 - 2 ^ k) k hk ?_ ?_ ?_ ?_ ?_ ?_ ?_ ?_ ?_ ?_ ?_ ?_ ?_ ?_ ?_ ?_ ?_ ?_ ?_ ?_ ?_ ?_ ?_ ?_ ?_ ?_ ?_ ?_ ?_ ?_ ?_ ?_ ?_ <;> decide
theorem mask_walk (n : Int) : (4294967295 * 2 ^ (32 - cl n).toNat % 4294967296 : Int) = maskI n := pow33 _ (lowN_le n)
theorem pow_pos33 (k : Nat) : (0 : Int) < 2 ^ k := Int.pow_pos (by decide)
theorem pow_le33 (k : Nat) (hk : k ≤ 32) : (2 ^ k : Int) ≤ 4294967296 := by
  refine cases33 (P := fun k => (2 ^ k : Int) ≤ 4294967296) k hk ?_ ?_ ?_ ?_ ?_ ?_ ?_ ?_ ?_ ?_ ?_ ?_ ?_ ?_ ?_ ?_ ?_ ?_ ?_ ?_ ?_ ?_ ?_ ?_ ?_ ?_ ?_ ?_ ?_ ?_ ?_ ?_ ?_ <;> decide
theorem maskI_lo (n : Int) : 0 ≤ maskI n := by have := pow_le33 _ (lowN_le n); unfold maskI; omega
theorem maskI_hi (n : Int) : maskI n < 4294967296 := by have := pow_pos33 (lowN n); unfold maskI; omega
theorem nat_and_mask (a k : Nat) (ha : a < 4294967296) (hk : k ≤ 32) : a &&& (4294967296 - 2 ^ k) = a - a % 2 ^ k := by
  have e1 : 4294967296 - 2 ^ k = (2 ^ (32 - k) - 1) <<< k := by
    rw [Nat.shiftLeft_eq, Nat.sub_mul, ← Nat.pow_add, show 32 - k + k = 32 by omega]; omega
  have e2 : a - a % 2 ^ k = (a >>> k) <<< k := by
    rw [Nat.shiftLeft_eq, Nat.shiftRight_eq_div_pow]
    have := Nat.div_add_mod a (2 ^ k)
    rw [Nat.mul_comm] at this
    omega
  rw [e1, e2]
  apply Nat.eq_of_testBit_eq
  intro i
  rw [Nat.testBit_and, Nat.testBit_shiftLeft, Nat.testBit_shiftLeft, Nat.testBit_two_pow_sub_one, Nat.testBit_shiftRight]
  by_cases hi : k ≤ i
  · rw [show k + (i - k) = i by omega]
    by_cases h32 : i < 32
    · have : i - k < 32 - k := by omega
      simp [hi, this]
    · have hlt : a < 2 ^ i := Nat.lt_of_lt_of_le ha (by have : 2 ^ 32 ≤ 2 ^ i := Nat.pow_le_pow_right (by decide) (by omega); omega)
      rw [Nat.testBit_lt_two_pow hlt]; simp
  · simp [hi]
theorem and_mask (a n : Int) (h0 : 0 ≤ a) (h : a < 4294967296) : bits .and .u32 a (maskI n) = keepI a n := by
  rw [u32_and a _ h0 h (maskI_lo n) (maskI_hi n)]
  obtain ⟨x, rfl⟩ := Int.eq_ofNat_of_zero_le h0
  have e : (maskI n).toNat = 4294967296 - 2 ^ lowN n := by
    unfold maskI
    have h1 := pow_le33 _ (lowN_le n)
    have h2 : ((2 : Int) ^ lowN n) = ((2 ^ lowN n : Nat) : Int) := by simp
    rw [h2] at h1 ⊢; omega
  have hle : x % 2 ^ lowN n ≤ x := Nat.mod_le _ _
  rw [e, Int.toNat_natCast, nat_and_mask x _ (by omega) (lowN_le n), keepI]
  have h2 : ((x : Int) % 2 ^ lowN n) = ((x % 2 ^ lowN n : Nat) : Int) := by simp
  rw [h2]; omega
def bitI (a n : Int) : Int := if 0 ≤ n ∧ n < 32 then a / 2 ^ (31 - n).toNat % 2 else 0
theorem and_one (x : Int) (h0 : 0 ≤ x) (h : x < 4294967296) : bits .and .u32 x 1 = x % 2 := by
  rw [u32_and x 1 h0 h (by decide) (by decide)]
  obtain ⟨y, rfl⟩ := Int.eq_ofNat_of_zero_le h0
  have : y &&& 1 = y % 2 := Nat.and_one_is_mod y
  simp [this]
theorem bit_walk (a n : Int) (h0 : 0 ≤ a) (h : a < 4294967296) (hn0 : 0 ≤ n) (hn : n < 32) : wrap64 (bits .and .u32 (a / 2 ^ (31 - n).toNat) 1) = bitI a n := by
  have hp := pow_pos33 (31 - n).toNat
  have h1 : 0 ≤ a / 2 ^ (31 - n).toNat := Int.ediv_nonneg h0 (by omega)
  have h2 : a / 2 ^ (31 - n).toNat ≤ a := Int.ediv_le_self _ h0
  rw [and_one _ h1 (by omega), bitI, if_pos ⟨hn0, hn⟩]
  generalize a / 2 ^ (31 - n).toNat = x at *
  unfold wrap64; omega
def rightB (a n : Int) : Bool := a == keepI a n && n == cl n
def errI (b : Bool) : Int := if b then 0 else 1
theorem errI_zero (b : Bool) : (errI b == 0) = b := by cases b <;> rfl
theorem rightB_no {a n : Int} (h : (!a == keepI a n) = true ∨ (!n == cl n) = true) : rightB a n = false := by
  unfold rightB; cases h1 : (a == keepI a n) <;> cases h2 : (n == cl n) <;> simp [h1, h2] at h ⊢
theorem rightB_yes {a n : Int} (h : (!a == keepI a n) = false ∧ (!n == cl n) = false) : rightB a n = true := by
  unfold rightB; cases h1 : (a == keepI a n) <;> cases h2 : (n == cl n) <;> simp [h1, h2] at h ⊢
theorem rightB_iff (a n : Int) : rightB a n = true ↔ a % 2 ^ lowN n = 0 ∧ 0 ≤ n ∧ n ≤ 32 := by
  unfold rightB keepI
  have h1 := cl_lo n
  have h2 := cl_hi n
  rw [Bool.and_eq_true, beq_iff_eq, beq_iff_eq]
  constructor
  · rintro ⟨ha, hn⟩; exact ⟨by omega, by omega, by omega⟩
  · rintro ⟨ha, hn, hn'⟩; exact ⟨by omega, (cl_of n hn hn').symm⟩
theorem rightB_range {a n : Int} (h : rightB a n = true) : 0 ≤ n ∧ n ≤ 32 := ((rightB_iff a n).1 h).2
theorem bitI_nat (x i : Nat) (hi : i < 32) : bitI (x : Int) (31 - (i : Int)) = ((x / 2 ^ i % 2 : Nat) : Int) := by
  unfold bitI
  rw [if_pos (by omega)]
  have e : (31 - (31 - (i : Int))).toNat = i := by omega
  rw [e]; simp
end Go.Proofs.YtkoidahgbbabiaaGreat
/-
  NUMBERS FOR NETS: a net's node is its bits behind a one.
-/
namespace Go.Proofs.YtkoidahgbbabiaaGreat
def keyN (a i : Nat) : Nat := 2 ^ i + a / 2 ^ (32 - i)
theorem keyN_0 (a : Nat) (ha : a < 4294967296) : keyN a 0 = 1 := by
  unfold keyN
  rw [Nat.div_eq_of_lt (by simpa using ha)]
theorem keyN_succ (a i : Nat) (hi : i < 32) : keyN a (i + 1) = 2 * keyN a i + a / 2 ^ (31 - i) % 2 := by
  unfold keyN
  have h1 : 32 - (i + 1) = 31 - i := by omega
  have h2 : 2 ^ (32 - i) = 2 ^ (31 - i) * 2 := by rw [show 32 - i = (31 - i) + 1 by omega, Nat.pow_succ]
  rw [h1, h2, ← Nat.div_div_eq_div_mul, Nat.pow_succ]
  generalize a / 2 ^ (31 - i) = x
  generalize 2 ^ i = y
  omega
theorem keyN_half (a i : Nat) (hi : i < 32) : keyN a (i + 1) / 2 = keyN a i := by rw [keyN_succ a i hi]; omega
theorem keyN_mod (a i : Nat) (hi : i < 32) : keyN a (i + 1) % 2 = a / 2 ^ (31 - i) % 2 := by rw [keyN_succ a i hi]; omega
theorem keyN_lo (a i : Nat) : 2 ^ i ≤ keyN a i := Nat.le_add_right _ _
theorem keyN_pos (a i : Nat) : 1 ≤ keyN a i := Nat.le_trans (Nat.pow_pos (by decide)) (keyN_lo a i)
theorem keyN_two (a i : Nat) : 2 ≤ keyN a (i + 1) := Nat.le_trans (by rw [Nat.pow_succ]; have := Nat.pow_pos (n := i) (show 0 < 2 by decide); omega) (keyN_lo a (i + 1))
theorem keyN_hi (a i : Nat) (ha : a < 4294967296) (hi : i ≤ 32) : keyN a i < 2 ^ (i + 1) := by
  unfold keyN
  have : a / 2 ^ (32 - i) < 2 ^ i := by
    refine Nat.div_lt_of_lt_mul ?_
    rw [← Nat.pow_add, show 32 - i + i = 32 by omega]
    exact ha
  rw [Nat.pow_succ]
  omega
theorem keyN_deep (a i : Nat) (ha : a < 4294967296) (hi : i ≤ 32) : keyN a i < 2 ^ 33 := by
  refine Nat.lt_of_lt_of_le (keyN_hi a i ha hi) (Nat.pow_le_pow_right (by decide) (by omega))
theorem keyN_len {a b i j : Nat} (ha : a < 4294967296) (hb : b < 4294967296) (hi : i ≤ 32) (hj : j ≤ 32) (h : keyN a i = keyN b j) : i = j := by
  have a1 := keyN_lo a i
  have a2 := keyN_hi a i ha hi
  have b1 := keyN_lo b j
  have b2 := keyN_hi b j hb hj
  rw [h] at a1 a2
  have h1 : i < j + 1 := (Nat.pow_lt_pow_iff_right (by decide)).1 (Nat.lt_of_le_of_lt a1 b2)
  have h2 : j < i + 1 := (Nat.pow_lt_pow_iff_right (by decide)).1 (Nat.lt_of_le_of_lt b1 a2)
  omega
theorem keyN_inj {a b i j : Nat} (ha : a < 4294967296) (hb : b < 4294967296) (hi : i ≤ 32) (hj : j ≤ 32) (h : keyN a i = keyN b j) : i = j ∧ a / 2 ^ (32 - i) = b / 2 ^ (32 - i) := by
  obtain rfl := keyN_len ha hb hi hj h
  refine ⟨rfl, ?_⟩
  unfold keyN at h
  omega
theorem bit_key (a i : Nat) (hi : i < 32) : bitI (a : Int) (i : Int) = ((a / 2 ^ (31 - i) % 2 : Nat) : Int) := by
  have := bitI_nat a (31 - i) (by omega)
  rw [show (31 - ((31 - i : Nat) : Int)) = (i : Int) by omega] at this
  exact this
end Go.Proofs.YtkoidahgbbabiaaGreat
/-
  ATTRIBUTES AS VALUES: ten cells; how they are stored into a node of a trie.
-/
namespace Go.Proofs.YtkoidahgbbabiaaGreat
open Go.RowKit
structure AV where
  has : Int
  origin : Int
  ps : Option Addr
  pn : Nat
  pc : Nat
  hop : Nat
  med : Int
  loc : Int
  aggrAs : Int
  aggrId : Nat
  cs : Option Addr
  cn : Nat
  cc : Nat
  os : Option Addr
  on : Nat
  oc : Nat
abbrev AV.C (v : AV) : Array Value := #[.int .i64 v.has, .int .i64 v.origin, .slice v.ps v.pn v.pc, .int .u32 v.hop, .int .i64 v.med, .int .i64 v.loc, .int .i64 v.aggrAs, .int .u32 v.aggrId, .slice v.cs v.cn v.cc, .slice v.os v.on v.oc]
abbrev AV.V (v : AV) : Value := .agg #[.int .i64 v.has, .int .i64 v.origin, .slice v.ps v.pn v.pc, .int .u32 v.hop, .int .i64 v.med, .int .i64 v.loc, .int .i64 v.aggrAs, .int .u32 v.aggrId, .slice v.cs v.cn v.cc, .slice v.os v.on v.oc]
def av0 : AV := ⟨0, 0, none, 0, 0, 0, 0, 0, 0, 0, none, 0, 0, none, 0, 0⟩
abbrev nodeR (k0 k1 h : Value) (v : AV) : Array Value := #[k0, k1, h, .int .i64 v.has, .int .i64 v.origin, .slice v.ps v.pn v.pc, .int .u32 v.hop, .int .i64 v.med, .int .i64 v.loc, .int .i64 v.aggrAs, .int .u32 v.aggrId, .slice v.cs v.cn v.cc, .slice v.os v.on v.oc]
def setAV (W : World) (b : Nat) (v : AV) : World :=
  (((((((((W.setCell ⟨b, 3, none⟩ (.int .i64 v.has)).setCell ⟨b, 4, none⟩ (.int .i64 v.origin)).setCell ⟨b, 5, none⟩ (.slice v.ps v.pn v.pc)).setCell ⟨b, 6, none⟩ (.int .u32 v.hop)).setCell ⟨b, 7, none⟩ (.int .i64 v.med)).setCell ⟨b, 8, none⟩ (.int .i64 v.loc)).setCell ⟨b, 9, none⟩ (.int .i64 v.aggrAs)).setCell ⟨b, 10, none⟩ (.int .u32 v.aggrId)).setCell ⟨b, 11, none⟩ (.slice v.cs v.cn v.cc)).setCell ⟨b, 12, none⟩ (.slice v.os v.on v.oc)
theorem AV.one (v : AV) : (v.C.all (·.oneCell')) = true := by simp [AV.C, Value.oneCell']
theorem setAV_eq (W : World) (b : Nat) (v : AV) : W.setCells b 3 v.C.toList = setAV W b v := rfl
theorem setAV_row {W : World} {b : Nat} {k0 k1 h : Value} {u : AV} {tN : TypeId} (hb : W.heap[b]? = some (.cells (nodeR k0 k1 h u) tN (0, 0))) (v : AV) : (setAV W b v).heap[b]? = some (.cells (nodeR k0 k1 h v) tN (0, 0)) := by
  unfold setAV
  rw [set_same (set_same (set_same (set_same (set_same (set_same (set_same (set_same (set_same (set_same hb _ _) _ _) _ _) _ _) _ _) _ _) _ _) _ _) _ _) _ _]
  simp only [List.setIfInBounds_toArray, List.set_cons_succ, List.set_cons_zero]
theorem setAV_other {W : World} {b g : Nat} (h : g ≠ b) (v : AV) : (setAV W b v).heap[g]? = W.heap[g]? := by
  unfold setAV
  rw [set_other _ _ _ h, set_other _ _ _ h, set_other _ _ _ h, set_other _ _ _ h, set_other _ _ _ h, set_other _ _ _ h, set_other _ _ _ h, set_other _ _ _ h, set_other _ _ _ h, set_other _ _ _ h]
theorem node_flag {W : World} {b : Nat} {k0 k1 h : Value} {u : AV} {tN : TypeId} (hb : W.heap[b]? = some (.cells (nodeR k0 k1 h u) tN (0, 0))) (h' : Value) : (W.setCell ⟨b, 2, none⟩ h').drew.heap[b]? = some (.cells (nodeR k0 k1 h' u) tN (0, 0)) := by
  show (W.setCell ⟨b, 2, none⟩ h').heap[b]? = _
  rw [set_same hb]
  simp only [List.setIfInBounds_toArray, List.set_cons_succ, List.set_cons_zero]
theorem exec_ldm {P : Program} {oi : Oper} {ev : Operand → Value} {w : World} (ty : TypeId) (x : Operand) (ho : oi.op = .load ty x) (b o : Nat) (hx : ev x = .pointer (some ⟨b, o, none⟩)) (cs : List Value) (d : TypeDesc) (hc : w.rangeAt b o cs)
    (hu : P.underlying ty = some d) (hd : d.isRow = true) (hi : (P.info? ty).map (·.size) = some cs.length) : (execOp ev oi).run P w = .ok (.value (.agg cs.toArray)) w := by
  unfold execOp
  simp only [ho, hx, Instr.loadAt, Instr.sureAddr, Sem.run_bind, Sem.run_pure, Result.andThen_ok, run_loadVar_mid w b o ty cs d hc hu hd hi]
theorem still_ld {P : Program} {ops : Array Oper} {w : World} {Q : Act → Prop} {a : Act} {o : Oper} {rest : List Oper} (hgd : Region.wanted o (yielded ops a.tmps) = true) {v : Value} (he : (execOp a.eval o).run P w = .ok (.value v) w) (h : wpStill P ops w Q rest (a.put o.dst v)) : wpStill P ops w Q (o :: rest) a := by
  unfold wpStill
  rw [if_pos hgd]
  unfold Oper.still
  rw [he, Oper.stillUpon_value]
  exact h
theorem ldm_at {P : Program} {ops : Array Oper} {rest : List Oper} {o : Oper} {a : Act} {w : World} {Q : Exit → Act → World → Prop} (hgd : Region.wanted o (yielded ops a.tmps) = true) (ty : TypeId) (x : Operand) (ho : o.op = .load ty x)
    (b off : Nat) (hx : a.eval x = .pointer (some ⟨b, off, none⟩)) (cs : List Value) (d : TypeDesc) (hc : w.rangeAt b off cs) (hu : P.underlying ty = some d) (hd : d.isRow = true) (hi : (P.info? ty).map (·.size) = some cs.length)
    (h : wpList P ops Q rest (a.put o.dst (.agg cs.toArray)) w) : wpList P ops Q (o :: rest) a w := by
  unfold wpList
  rw [if_pos hgd]
  exact .inl (wp_load_mid ty x ho b off hx cs d hc hu hd hi h)
theorem node_there {W : World} {b : Nat} {k0 k1 h : Value} {u : AV} {tN : TypeId} (hb : W.heap[b]? = some (.cells (nodeR k0 k1 h u) tN (0, 0))) : W.there b 3 10 := fun j hj => by
  refine ⟨?_, row_free hb _⟩
  rw [row_cell hb, Array.getElem?_eq_getElem (by simp; omega)]
  rfl
theorem node_range {W : World} {b : Nat} {k0 k1 h : Value} {u : AV} {tN : TypeId} (hb : W.heap[b]? = some (.cells (nodeR k0 k1 h u) tN (0, 0))) : W.rangeAt b 3 u.C.toList := fun j v hv => by
  rw [row_cell hb]
  have hj : j < 10 := by have := (List.getElem?_eq_some_iff.1 hv).1; simpa using this
  match j, hj with
  | 0, _ => simpa using hv
  | 1, _ => simpa using hv
  | 2, _ => simpa using hv
  | 3, _ => simpa using hv
  | 4, _ => simpa using hv
  | 5, _ => simpa using hv
  | 6, _ => simpa using hv
  | 7, _ => simpa using hv
  | 8, _ => simpa using hv
  | 9, _ => simpa using hv
end Go.Proofs.YtkoidahgbbabiaaGreat
/-
  A TRIE IN MEMORY: which nodes there are, what stands at which; what a store turns.
-/
namespace Go.Proofs.YtkoidahgbbabiaaGreat
open Go.RowKit
abbrev ptrN (o : Option Nat) : Value := .pointer (o.map fun b => ⟨b, 0, none⟩)
abbrev nodeC (z : AV) (N : Nat → Option Nat) (S : List (Nat × AV)) (k : Nat) : Array Value := nodeR (ptrN (N (2 * k))) (ptrN (N (2 * k + 1))) (.bool (getL S k).isSome) ((getL S k).getD z)
abbrev trieC (N : Nat → Option Nat) (S : List (Nat × AV)) (most : Int) : Array Value := #[ptrN (N 1), .int .i64 most, .int .i64 S.length]
structure TrieAt (tT tN : TypeId) (z : AV) (W : World) (tb : Nat) (N : Nat → Option Nat) (S : List (Nat × AV)) (most : Int) : Prop where
  row : W.heap[tb]? = some (.cells (trieC N S most) tT (0, 0))
  node : ∀ k b, N k = some b → W.heap[b]? = some (.cells (nodeC z N S k) tN (0, 0))
  inj : ∀ k k' b, N k = some b → N k' = some b → k = k'
  top : ∀ k, N k ≠ some tb
  up : ∀ k, 2 ≤ k → (N k).isSome → (N (k / 2)).isSome
  pos : N 0 = none
  dom : ∀ p ∈ S, (N p.1).isSome
  deep : ∀ k, 2 ^ 33 ≤ k → N k = none
  ap : KeysApart S
def TOwn (tb : Nat) (N : Nat → Option Nat) (b : Nat) : Prop := b = tb ∨ ∃ k, N k = some b
section
variable {tT tN : TypeId} {z : AV} {W W' : World} {tb : Nat} {N : Nat → Option Nat} {S : List (Nat × AV)} {most : Int}
theorem TrieAt.lt (h : TrieAt tT tN z W tb N S most) : tb < W.heap.size := row_lt h.row
theorem TrieAt.nlt (h : TrieAt tT tN z W tb N S most) {k b : Nat} (hb : N k = some b) : b < W.heap.size := row_lt (h.node k b hb)
theorem TrieAt.own_lt (h : TrieAt tT tN z W tb N S most) {b : Nat} (hb : TOwn tb N b) : b < W.heap.size := by
  rcases hb with rfl | ⟨k, hb⟩
  · exact h.lt
  · exact h.nlt hb
theorem TrieAt.of_blocks (h : TrieAt tT tN z W tb N S most) (hb : ∀ b, TOwn tb N b → W'.heap[b]? = W.heap[b]?) : TrieAt tT tN z W' tb N S most :=
  ⟨(hb tb (.inl rfl)).trans h.row, fun k b hk => (hb b (.inr ⟨k, hk⟩)).trans (h.node k b hk), h.inj, h.top, h.up, h.pos, h.dom, h.deep, h.ap⟩
theorem TrieAt.below (h : TrieAt tT tN z W tb N S most) (hb : Below W.heap.size W W') : TrieAt tT tN z W' tb N S most := h.of_blocks fun _ ho => hb.block _ (h.own_lt ho)
theorem TrieAt.kept {F : Nat → Prop} (h : TrieAt tT tN z W tb N S most) (hk : Kept F W W') (hF : ∀ b, TOwn tb N b → ¬ F b) : TrieAt tT tN z W' tb N S most := h.of_blocks fun b ho => hk.block b (h.own_lt ho) (hF b ho)
theorem ptrN_some (b : Nat) : ptrN (some b) = .pointer (some ⟨b, 0, none⟩) := rfl
theorem TrieAt.cells (h : TrieAt tT tN z W tb N S most) : W.cell? ⟨tb, 0, none⟩ = some (ptrN (N 1)) ∧ W.cell? ⟨tb, 1, none⟩ = some (.int .i64 most) ∧ W.cell? ⟨tb, 2, none⟩ = some (.int .i64 S.length) :=
  ⟨row_cell h.row 0, row_cell h.row 1, row_cell h.row 2⟩
theorem TrieAt.ncells (h : TrieAt tT tN z W tb N S most) {k b : Nat} (hb : N k = some b) : W.cell? ⟨b, 0, none⟩ = some (ptrN (N (2 * k))) ∧ W.cell? ⟨b, 1, none⟩ = some (ptrN (N (2 * k + 1))) ∧ W.cell? ⟨b, 2, none⟩ = some (.bool (getL S k).isSome) :=
  ⟨row_cell (h.node k b hb) 0, row_cell (h.node k b hb) 1, row_cell (h.node k b hb) 2⟩
theorem TrieAt.dom' (h : TrieAt tT tN z W tb N S most) {k : Nat} (hk : (getL S k).isSome = true) : ∃ b, N k = some b := by
  obtain ⟨v, hv⟩ := Option.isSome_iff_exists.1 hk
  exact Option.isSome_iff_exists.1 (h.dom _ (getL_mem hv))
theorem TrieAt.none_of (h : TrieAt tT tN z W tb N S most) {k : Nat} (hk : N k = none) : getL S k = none := by
  cases hg : getL S k with
  | none => rfl
  | some v => obtain ⟨b, hb⟩ := h.dom' (k := k) (by rw [hg]; rfl); rw [hk] at hb; cases hb
theorem TrieAt.up_none (h : TrieAt tT tN z W tb N S most) {k : Nat} (hk : N k = none) (h1 : 1 ≤ k) : N (2 * k) = none ∧ N (2 * k + 1) = none := by
  constructor
  · cases hg : N (2 * k) with
    | none => rfl
    | some v =>
      have := h.up (2 * k) (by omega) (by rw [hg]; rfl)
      rw [show 2 * k / 2 = k by omega, hk] at this; cases this
  · cases hg : N (2 * k + 1) with
    | none => rfl
    | some v =>
      have := h.up (2 * k + 1) (by omega) (by rw [hg]; rfl)
      rw [show (2 * k + 1) / 2 = k by omega, hk] at this; cases this
def SlotAt (tb : Nat) (N : Nat → Option Nat) (κ : Nat) (ad : Addr) : Prop := (κ = 1 ∧ ad = ⟨tb, 0, none⟩) ∨ (2 ≤ κ ∧ ∃ b, N (κ / 2) = some b ∧ ad = ⟨b, κ % 2, none⟩)
theorem SlotAt.cell {κ : Nat} {ad : Addr} (h : TrieAt tT tN z W tb N S most) (hs : SlotAt tb N κ ad) : W.cell? ad = some (ptrN (N κ)) ∧ W.frozen? ad = false := by
  rcases hs with ⟨rfl, rfl⟩ | ⟨h2, b, hb, rfl⟩
  · exact ⟨h.cells.1, row_free h.row 0⟩
  · refine ⟨?_, row_free (h.node _ _ hb) _⟩
    obtain ⟨c0, c1, _⟩ := h.ncells hb
    rcases Nat.mod_two_eq_zero_or_one κ with e | e
    · rw [e, c0, show 2 * (κ / 2) = κ by omega]
    · rw [e, c1, show 2 * (κ / 2) + 1 = κ by omega]
def updN (N : Nat → Option Nat) (κ : Nat) (o : Option Nat) : Nat → Option Nat := fun k => if k = κ then o else N k
theorem updN_same (N : Nat → Option Nat) (κ : Nat) (o : Option Nat) : updN N κ o κ = o := if_pos rfl
theorem updN_ne (N : Nat → Option Nat) {κ k : Nat} (o : Option Nat) (h : k ≠ κ) : updN N κ o k = N k := if_neg h
theorem TrieAt.hang {W1 : World} {κ : Nat} {ad : Addr} {o : Option Nat} (h : TrieAt tT tN z W tb N S most) (hB : Below W.heap.size W W1) (hs : SlotAt tb N κ ad) (h1 : 1 ≤ κ) (hd : κ < 2 ^ 33)
    (hold : N κ = none ∨ o = none) (hk0 : getL S κ = none) (hl : N (2 * κ) = none) (hr : N (2 * κ + 1) = none) (hnew : ∀ nb, o = some nb → W.heap.size ≤ nb ∧ W1.heap[nb]? = some (.cells (nodeR (.pointer none) (.pointer none) (.bool false) z) tN (0, 0))) :
    TrieAt tT tN z (W1.setCell ad (ptrN o)) tb (updN N κ o) S most := by
  have g := h.below hB
  have hne : ∀ nb, o = some nb → nb ≠ tb ∧ ∀ k, N k ≠ some nb := fun nb e => ⟨by have := (hnew nb e).1; have := h.lt; omega, fun k hk => by have := (hnew nb e).1; have := h.nlt hk; omega⟩
  have hub : ∀ k b, updN N κ o k = some b → (k = κ ∧ o = some b) ∨ (k ≠ κ ∧ N k = some b) := by
    intro k b hk
    by_cases e : k = κ
    · subst e; rw [updN_same] at hk; exact .inl ⟨rfl, hk⟩
    · rw [updN_ne _ _ e] at hk; exact .inr ⟨e, hk⟩
  -- how a node's row turns
  have hrow : ∀ k b, k ≠ κ → N k = some b → (W1.setCell ad (ptrN o)).heap[b]? = some (.cells (nodeC z (updN N κ o) S k) tN (0, 0)) := by
    intro k b hk hb
    by_cases e : κ / 2 = k ∧ 2 ≤ κ
    · obtain ⟨e, e2⟩ := e
      rcases hs with ⟨rfl, _⟩ | ⟨_, b', hb', rfl⟩
      · omega
      rw [e] at hb'
      obtain rfl : b' = b := by rw [hb] at hb'; exact (Option.some.inj hb').symm
      rw [set_same (g.node k b' hb)]
      congr 2
      rcases Nat.mod_two_eq_zero_or_one κ with m | m
      · obtain rfl : κ = 2 * k := by omega
        rw [m]
        simp [nodeC, updN_same, updN_ne]
      · obtain rfl : κ = 2 * k + 1 := by omega
        rw [m]
        simp [nodeC, updN_same, updN_ne]
    · have hbo : b ≠ ad.block := by
        rcases hs with ⟨rfl, rfl⟩ | ⟨h2, b', hb', rfl⟩
        · intro e'
          simp only at e'
          subst e'
          exact h.top k hb
        · intro e'
          simp only at e'
          subst e'
          exact e ⟨(h.inj _ _ _ hb' hb), h2⟩
      have hcell : (W1.setCell ad (ptrN o)).heap[b]? = W1.heap[b]? := Deep.blk_setCell_other W1 ad (ptrN o) b hbo
      rw [hcell, g.node k b hb]
      have e2 : 2 * k ≠ κ := fun x => by
        by_cases k0 : k = 0
        · subst k0; omega
        · exact e ⟨by omega, by omega⟩
      have e3 : 2 * k + 1 ≠ κ := fun x => by
        by_cases k0 : k = 0
        · subst k0; rw [h.pos] at hb; cases hb
        · exact e ⟨by omega, by omega⟩
      simp only [nodeC, updN_ne _ _ e2, updN_ne _ _ e3]
  refine ⟨?_, ?_, ?_, ?_, ?_, ?_, ?_, ?_, h.ap⟩
  · rcases hs with ⟨rfl, rfl⟩ | ⟨h2, b', hb', rfl⟩
    · rw [set_same g.row]
      simp [trieC, updN_same]
    · rw [set_other _ _ _ (fun e => h.top _ (e ▸ hb')), g.row]
      simp only [trieC, updN_ne N o (show 1 ≠ κ by omega)]
  · intro k b hk
    rcases hub k b hk with ⟨rfl, ho⟩ | ⟨e, hb⟩
    · have hbo : b ≠ ad.block := by
        rcases hs with ⟨_, rfl⟩ | ⟨_, b', hb', rfl⟩
        · exact (hne b ho).1
        · intro e'
          simp only at e'
          subst e'
          exact (hne b ho).2 _ hb'
      have hcell : (W1.setCell ad (ptrN o)).heap[b]? = W1.heap[b]? := Deep.blk_setCell_other W1 ad (ptrN o) b hbo
      rw [hcell, (hnew b ho).2]
      simp only [nodeC, updN_ne N o (show 2 * k ≠ k by omega), updN_ne N o (show 2 * k + 1 ≠ k by omega), hl, hr, hk0]
      rfl
    · exact hrow k b e hb
  · intro k k' b hk hk'
    rcases hub k b hk with ⟨rfl, ho⟩ | ⟨e, hb⟩ <;> rcases hub k' b hk' with ⟨rfl, ho'⟩ | ⟨e', hb'⟩
    · rfl
    · exact absurd hb' ((hne b ho).2 _)
    · exact absurd hb ((hne b ho').2 _)
    · exact h.inj _ _ _ hb hb'
  · intro k hk
    rcases hub k tb hk with ⟨rfl, ho⟩ | ⟨e, hb⟩
    · exact (hne tb ho).1 rfl
    · exact h.top k hb
  · intro k h2 hk
    by_cases e : k / 2 = κ
    · have e2 : k ≠ κ := by omega
      rw [updN_ne _ _ e2] at hk
      have : k = 2 * κ ∨ k = 2 * κ + 1 := by omega
      rcases this with rfl | rfl
      · rw [hl] at hk; cases hk
      · rw [hr] at hk; cases hk
    · rw [updN_ne _ _ e]
      by_cases e2 : k = κ
      · subst e2
        rcases hs with ⟨rfl, _⟩ | ⟨_, b', hb', _⟩
        · omega
        · rw [hb']; rfl
      · rw [updN_ne _ _ e2] at hk
        exact h.up k h2 hk
  · rw [updN_ne _ _ (by omega)]; exact h.pos
  · intro p hp
    have e : p.1 ≠ κ := by
      intro e
      have := getL_none.1 hk0 p hp
      exact this e
    rw [updN_ne _ _ e]
    exact h.dom p hp
  · intro k hk
    rw [updN_ne _ _ (by omega)]
    exact h.deep k hk
theorem TrieAt.turn {κ b : Nat} {S' : List (Nat × AV)} (h : TrieAt tT tN z W tb N S most) (hb : N κ = some b) (hrow : W'.heap[tb]? = some (.cells (trieC N S' most) tT (0, 0))) (hnode : W'.heap[b]? = some (.cells (nodeC z N S' κ) tN (0, 0)))
    (hoth : ∀ g, g ≠ tb → g ≠ b → W'.heap[g]? = W.heap[g]?) (hg : ∀ k, k ≠ κ → getL S' k = getL S k) (hap : KeysApart S') : TrieAt tT tN z W' tb N S' most := by
  refine ⟨hrow, ?_, h.inj, h.top, h.up, h.pos, ?_, h.deep, hap⟩
  · intro k c hk
    by_cases e : k = κ
    · subst e
      rw [hb] at hk
      obtain rfl := Option.some.inj hk
      exact hnode
    · rw [hoth c (fun x => h.top k (x ▸ hk)) (fun x => e (h.inj _ _ _ hk (x ▸ hb))), h.node k c hk]
      simp only [nodeC, hg k e]
  · intro p hp
    by_cases e : p.1 = κ
    · rw [e, hb]; rfl
    · have : getL S p.1 = some p.2 := by rw [← hg p.1 e]; exact getL_of_mem hap hp
      exact h.dom _ (getL_mem this)
theorem getL_snoc (S : List (Nat × AV)) (κ k : Nat) (v : AV) : getL (delL S κ ++ [(κ, v)]) k = if k = κ then some v else getL S k := by
  rw [getL_append, getL_del]
  by_cases e : k = κ
  · subst e; simp [getL]
  · rw [if_neg e, if_neg e]
    simp [getL, Ne.symm e]
theorem apart_snoc {S : List (Nat × AV)} (h : KeysApart S) (κ : Nat) (v : AV) : KeysApart (delL S κ ++ [(κ, v)]) := by
  unfold KeysApart
  rw [List.pairwise_append]
  refine ⟨apart_del h κ, by simp, ?_⟩
  intro p hp q hq
  simp at hq
  subst hq
  exact (mem_del.1 hp).2
theorem len_snoc {S : List (Nat × AV)} (h : KeysApart S) (κ : Nat) (v : AV) : (delL S κ ++ [(κ, v)]).length = if (getL S κ).isSome then S.length else S.length + 1 := by
  rw [List.length_append, len_del h]
  cases hg : getL S κ with
  | none => simp
  | some x =>
    have : 0 < S.length := List.length_pos_of_mem (getL_mem hg)
    simp; omega
theorem TrieAt.putNew {κ b : Nat} (h : TrieAt tT tN z W tb N S most) (hb : N κ = some b) (hno : getL S κ = none) (v : AV) :
    TrieAt tT tN z (setAV ((W.setCell ⟨b, 2, none⟩ (.bool true)).setCell ⟨tb, 2, none⟩ (.int .i64 ((S.length : Int) + 1))) b v) tb N (delL S κ ++ [(κ, v)]) most := by
  have hne : b ≠ tb := fun e => h.top κ (e ▸ hb)
  refine h.turn hb ?_ ?_ ?_ ?_ (apart_snoc h.ap κ v)
  · rw [setAV_other (Ne.symm hne), set_same ((set_other _ _ _ (Ne.symm hne)).trans h.row)]
    congr 2
    have e := len_snoc h.ap κ v
    rw [hno] at e
    simp only [trieC, e]
    rfl
  · have r1 := set_same (h.node κ b hb) 2 (.bool true)
    have r2 : ((W.setCell ⟨b, 2, none⟩ (.bool true)).setCell ⟨tb, 2, none⟩ (.int .i64 ((S.length : Int) + 1))).heap[b]? = _ := (set_other _ _ _ hne).trans r1
    rw [setAV_row r2]
    simp [nodeC, getL_snoc]
  · intro g h1 h2
    rw [setAV_other h2, set_other _ _ _ h1, set_other _ _ _ h2]
  · intro k hk
    rw [getL_snoc, if_neg hk]
theorem TrieAt.putOld {κ b : Nat} (h : TrieAt tT tN z W tb N S most) (hb : N κ = some b) (hy : (getL S κ).isSome = true) (v : AV) :
    TrieAt tT tN z (setAV W b v) tb N (delL S κ ++ [(κ, v)]) most := by
  have hne : b ≠ tb := fun e => h.top κ (e ▸ hb)
  refine h.turn hb ?_ ?_ ?_ ?_ (apart_snoc h.ap κ v)
  · rw [setAV_other (Ne.symm hne), h.row, trieC, trieC, len_snoc h.ap, hy]
    rfl
  · rw [setAV_row (h.node κ b hb)]
    simp [nodeC, getL_snoc, hy]
  · intro g h1 h2
    rw [setAV_other h2]
  · intro k hk
    rw [getL_snoc, if_neg hk]
theorem TrieAt.dropAt {κ b : Nat} (h : TrieAt tT tN z W tb N S most) (hb : N κ = some b) (hy : (getL S κ).isSome = true) (hrow : W'.heap[b]? = some (.cells (nodeR (ptrN (N (2 * κ))) (ptrN (N (2 * κ + 1))) (.bool false) z) tN (0, 0))) (hoth : ∀ g, g < W.heap.size → g ≠ b → W'.heap[g]? = W.heap[g]?) :
    TrieAt tT tN z (W'.setCell ⟨tb, 2, none⟩ (.int .i64 ((S.length : Int) - 1))) tb N (delL S κ) most := by
  have hne : b ≠ tb := fun e => h.top κ (e ▸ hb)
  refine ⟨?_, ?_, h.inj, h.top, h.up, h.pos, ?_, h.deep, apart_del h.ap κ⟩
  · rw [set_same ((hoth _ h.lt (Ne.symm hne)).trans h.row)]
    congr 2
    have hp : 0 < S.length := by
      obtain ⟨v, hv⟩ := Option.isSome_iff_exists.1 hy
      exact List.length_pos_of_mem (getL_mem hv)
    have e := len_del h.ap κ
    rw [hy] at e
    simp only [if_true] at e
    simp only [trieC, e]
    simp
    omega
  · intro k c hk
    have hct : c ≠ tb := fun x => h.top k (x ▸ hk)
    rw [set_other _ _ _ hct]
    by_cases e : k = κ
    · subst e
      rw [hb] at hk
      obtain rfl := Option.some.inj hk
      rw [hrow]
      simp [nodeC, getL_del]
    · rw [hoth c (h.nlt hk) (fun x => e (h.inj _ _ _ hk (x ▸ hb))), h.node k c hk]
      simp only [nodeC, getL_del, if_neg e]
  · intro p hp
    exact h.dom _ (mem_del.1 hp).1
end
end Go.Proofs.YtkoidahgbbabiaaGreat
/-
  MORE PLAIN ARITHMETIC ON NETS: a net in its form is all addresses from its first to its last; its halves.
-/
namespace Go.Proofs.YtkoidahgbbabiaaGreat
open Go.RowKit (wrap64)
def sizeI (n : Int) : Int := 2 ^ lowN n
theorem sizeI_pos (n : Int) : 0 < sizeI n := pow_pos33 _
theorem size_succ (n : Int) (h0 : 0 ≤ n) (h : n < 32) : sizeI n = 2 * sizeI (n + 1) := by
  unfold sizeI
  have e : lowN n = lowN (n + 1) + 1 := by rw [lowN_of n h0 (by omega), lowN_of (n + 1) (by omega) (by omega)]; omega
  rw [e, Int.pow_succ]; omega
theorem size_top (n : Int) (h0 : 0 ≤ n) (h : n < 32) : (2 : Int) ^ (31 - n).toNat = sizeI (n + 1) := by
  unfold sizeI
  rw [lowN_of (n + 1) (by omega) (by omega), show (31 - n).toNat = (32 - (n + 1)).toNat by omega]
theorem or_low (a b : Int) (k : Nat) (h0 : 0 ≤ a) (h : a < 4294967296) (hb0 : 0 ≤ b) (hb : b < 2 ^ k) (hk : k ≤ 32) (hm : a % 2 ^ k = 0) : bits .or .u32 a b = a + b := by
  have hp := pow_le33 k hk
  rw [u32_or a b h0 h hb0 (by omega)]
  obtain ⟨x, rfl⟩ := Int.eq_ofNat_of_zero_le h0
  obtain ⟨y, rfl⟩ := Int.eq_ofNat_of_zero_le hb0
  rw [Int.toNat_natCast, Int.toNat_natCast]
  have hy : y < 2 ^ k := by
    have e : ((2 : Int) ^ k) = ((2 ^ k : Nat) : Int) := by simp
    rw [e] at hb; omega
  have hx : x % 2 ^ k = 0 := by
    have e : ((x : Int) % 2 ^ k) = ((x % 2 ^ k : Nat) : Int) := by simp
    rw [e] at hm; omega
  have hd : x = 2 ^ k * (x / 2 ^ k) := by have := Nat.div_add_mod x (2 ^ k); omega
  have := Nat.two_pow_add_eq_or_of_lt hy (x / 2 ^ k)
  rw [← hd] at this
  omega
theorem or_half (a n : Int) (h0 : 0 ≤ a) (h : a < 4294967296) (hr : rightB a n = true) (hn : n < 32) : bits .or .u32 a (2 ^ (31 - n).toNat % 4294967296) = a + sizeI (n + 1) := by
  obtain ⟨h1, h2, h3⟩ := (rightB_iff a n).1 hr
  have hs := size_succ n h2 hn
  have hp := sizeI_pos (n + 1)
  have hle : sizeI n ≤ 4294967296 := pow_le33 _ (lowN_le n)
  rw [size_top n h2 hn, Int.emod_eq_of_lt (by omega) (by omega)]
  exact or_low a _ (lowN n) h0 h (by omega) (by show sizeI (n + 1) < sizeI n; omega) (lowN_le n) h1
def halfI (a n t : Int) : Int := if t = 0 then a else a + sizeI (n + 1)
theorem halfI_0 (a n : Int) : halfI a n 0 = a := rfl
theorem halfI_1 (a n t : Int) (h : t ≠ 0) : halfI a n t = a + sizeI (n + 1) := if_neg h
end Go.Proofs.YtkoidahgbbabiaaGreat
