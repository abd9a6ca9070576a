/-
  CHOOSE: right, ranks: all candidates looked at.
-/
import Derived.Test.YtfkplbkllmnfeaaChD
import Derived.Test.YtfkplbkllmnfeaaSo
namespace Go.Proofs.Ytfkplbkllmnfeaa
open Go.RowKit

def rightC (c : Cd) : Bool := decide (c.a.path.length ≤ 8) && checkB c.a
def rightL (cs : List Cd) : Bool := decide (cs.length ≤ 12) && cs.all rightC
/-- a candidate is taken into a variable. -/
theorem takeCd (w : World) (C : Array Value) : ∃ W0, W0 = w.alloc (.cells C 35) ∧ W0.heap[w.heap.size]? = some (.cells C 35 (0, 0)) ∧ Below w.heap.size w W0 ∧ W0.heap.size = w.heap.size + 1 :=
  ⟨_, rfl, heap_alloc_new w _, (Below.refl _ _).alloc (Nat.le_refl _) _, by simp⟩
set_option maxHeartbeats 6400000 in
set_option maxRecDepth 100000 in
theorem law_right (v : Value) (xs : List Cd) (w : World) (h : CdsAt w v xs) : Calls Try.prog 12 #[v] w fun e w' => e = .returned (.bool (rightL xs)) ∧ Below w.heap.size w w' := by
  obtain ⟨sa, cap, rfl, hlc, hcm, hV⟩ := h
  have HV := Lib.hid hV
  unfold maxLen at hcm
  clear hV
  by_cases h12 : xs.length ≤ 12
  · go_enter Try.func12, Try.ntmps12
    go_wp2_with fail
    go_loopw [10] (fun i wr => ∃ k : Nat, k ≤ xs.length ∧ i = .int .i64 k ∧ Hid (rightL xs = (xs.drop k).all rightC) ∧ Below w.heap.size w wr) (fun i _ => xs.length - (intOf i).toNat)
    case atStart => exact ⟨0, by omega, rfl, Lib.hid (by unfold rightL; rw [decide_eq_true h12]; rfl), Below.refl _ _⟩
    case round =>
      obtain ⟨k, hk, rfl, E, hb⟩ := hrel
      by_cases hlt : k < xs.length
      · obtain ⟨c, hc⟩ : ∃ s, xs[k]? = some s := ⟨_, List.getElem?_eq_getElem hlt⟩
        obtain ⟨b, off, hsa, hP⟩ := HV.out (by omega)
        subst hsa
        obtain ⟨cs, _, ⟨vp, vc, vo, rfl, _, hA⟩, hcs⟩ := hP k c hc
        have E2 : Hid (rightL xs = (rightC c && (xs.drop (k + 1)).all rightC)) := Lib.hid (by rw [E.out, all_drop hc])
        have HA := Lib.hid (hA)
        obtain ⟨⟨sp, cp, rfl, _⟩, ⟨sc, cc, rfl, _⟩, ⟨so, co, rfl, _⟩⟩ := hA
        obtain ⟨c0, c1, c2, c3, c4, c5, c6, c7, c8, c9, c10, c11, c12, c13⟩ := cd_cells hcs
        have c0 := (hb.cell (size_lt c0)).trans c0
        have c1 := (hb.cell (size_lt c1)).trans c1
        have c2 := (hb.cell (size_lt c2)).trans c2
        have c3 := (hb.cell (size_lt c3)).trans c3
        have c4 := (hb.cell (size_lt c4)).trans c4
        have c5 := (hb.cell (size_lt c5)).trans c5
        have c6 := (hb.cell (size_lt c6)).trans c6
        have c7 := (hb.cell (size_lt c7)).trans c7
        have c8 := (hb.cell (size_lt c8)).trans c8
        have c9 := (hb.cell (size_lt c9)).trans c9
        have c10 := (hb.cell (size_lt c10)).trans c10
        have c11 := (hb.cell (size_lt c11)).trans c11
        have c12 := (hb.cell (size_lt c12)).trans c12
        have c13 := (hb.cell (size_lt c13)).trans c13
        have i0 : (0 : Int) ≤ (k : Int) := by omega
        have i1 : (k : Int) < (xs.length : Int) := by omega
        clear hP hcs hc E
        go_upto_region 6 with (fail)
        obtain ⟨W1, hW1, q, hb1, _⟩ := takeCd wr (cdA c (.slice sp c.a.path.length cp) (.slice sc c.a.comms.length cc) (.slice so c.a.others.length co))
        rw [← hW1]
        clear hW1 c0 c1 c2 c3 c4 c5 c6 c7 c8 c9 c10 c11 c12 c13
        have B1 := Lib.hid (below_on hb hb1)
        have HA1 := Lib.hid (HA.out.below B1.out)
        obtain ⟨c0, c1, c2, c3, c4, c5, c6, c7, c8, c9, c10, c11, c12, c13⟩ := cd_row q
        clear q hb hb1
        have CK := Lib.hid (fun W h => at_Check c.a (.slice sp c.a.path.length cp) (.slice sc c.a.comms.length cc) (.slice so c.a.others.length co) W h)
        by_cases h8 : c.a.path.length ≤ 8
        · cases hck : checkB c.a
          · have E3 : Hid (rightL xs = false) := Lib.hid (by rw [E2.out]; unfold rightC; rw [hck]; simp)
            have e1 : checkI c.a = 1 := by unfold checkI; rw [hck]; rfl
            rw [e1] at CK
            clear hck e1 E2
            go_wp2_with fail
            refine (CK.out _ HA1.out).mono ?_
            rintro e w2 ⟨rfl, hb2⟩
            go_wp2_with fail
            go_ret
            exact ⟨ret_bool E3.out.symm, below_on B1.out hb2⟩
          · have E3 : Hid (rightL xs = (xs.drop (k + 1)).all rightC) := Lib.hid (by rw [E2.out]; unfold rightC; rw [hck, decide_eq_true h8]; rfl)
            have e1 : checkI c.a = 0 := by unfold checkI; rw [hck]; rfl
            rw [e1] at CK
            clear hck e1 E2
            go_wp2_with fail
            refine (CK.out _ HA1.out).mono ?_
            rintro e w2 ⟨rfl, hb2⟩
            go_wp2_with fail
            exact ⟨⟨k + 1, by omega, by go_num, E3, below_on B1.out hb2⟩, by simp [intOf]; omega⟩
        · have E3 : Hid (rightL xs = false) := Lib.hid (by rw [E2.out]; unfold rightC; rw [decide_eq_false h8]; rfl)
          clear E2
          go_wp2_with fail
          go_ret
          exact ⟨ret_bool E3.out.symm, B1.out⟩
      · obtain rfl : k = xs.length := by omega
        have E3 : Hid (rightL xs = true) := Lib.hid (by rw [E.out, List.drop_length]; rfl)
        clear E
        go_wp2_with fail
        go_ret
        exact ⟨ret_bool E3.out.symm, hb⟩
  · have E3 : Hid (rightL xs = false) := Lib.hid (by unfold rightL; rw [decide_eq_false h12]; rfl)
    go_enter Try.func12, Try.ntmps12
    go_wp2_with fail
    go_ret
    exact ⟨ret_bool E3.out.symm, Below.refl _ _⟩
end Go.Proofs.Ytfkplbkllmnfeaa
