/-
  IpReads: THE WALK.
-/
import Derived.Test.YtgmpbppiakjpdaaDoorTxtB
import Derived.Test.YtgmpbppiakjpdaaDoorTxtW
namespace Go.Proofs.YtgmpbppiakjpdaaDoor
open Go.RowKit Go.Shelf

theorem parE_cases (l : List UInt8) : (parE l = 2 ∧ parV l = 0) ∨ ∃ a, a < 4294967296 ∧ parE l = 0 ∧ parV l = a ∧ textL a = l := by
  cases h : parseL l with
  | none => exact .inl ⟨parE_no h, by unfold parV; rw [h]; rfl⟩
  | some a => exact .inr ⟨a, parseL_lt h, (par_some h).1, (par_some h).2, text_parse h⟩
theorem ppR_cases (l : List UInt8) : ppR l = (0, 0, 1) ∨ ppR l = (0, 0, 2) ∨ ∃ a n, a < 4294967296 ∧ ppR l = (a, n, 0) ∧ fullT a n = l := by
  have hx : ∀ x : Nat × Nat × Nat, ppR l = x → x = (0, 0, 1) ∨ x = (0, 0, 2) ∨ ∃ a n, a < 4294967296 ∧ x = (a, n, 0) := by
    intro x h
    unfold ppR at h
    cases hp : parseL (cutC l 47).1 with
    | none => rw [hp] at h; exact .inr (.inl h.symm)
    | some a =>
      rw [hp] at h
      simp only at h
      split at h
      · split at h
        · exact .inr (.inr ⟨a, _, parseL_lt hp, h.symm⟩)
        · exact .inl h.symm
      · exact .inr (.inl h.symm)
  rcases hx _ rfl with h | h | ⟨a, n, ha, h⟩
  · exact .inl h
  · exact .inr (.inl h)
  · exact .inr (.inr ⟨a, n, ha, h, full_pp h⟩)
theorem ppE_of {l : List UInt8} {a n e : Nat} (h : ppR l = (a, n, e)) : ppE l = Ending.returned (.tuple #[.agg #[.int .u32 a, .int .i64 n], .int .i64 e]) := (pp_eq h).symm
theorem rppE_of {l : List UInt8} {a n e : Nat} (h : ppR l = (a, n, e)) : rppE l = Ending.returned (.tuple #[.int .u32 a, .int .i64 n, .int .i64 e]) := by unfold rppE; rw [h]

set_option maxHeartbeats 1600000 in
set_option maxRecDepth 100000 in
theorem reads_long (s : ByteArray) (hs : 100 < s.size) (hs2 : s.size ≤ 9223372036854775807) (mx : Int) (w : World) (hm : MaxC w mx) (htab : PowTab w) : Calls Tryd.prog 4 #[.string s] w fun e w' => e = .returned (.bool true) ∧ Below w.heap.size w w' := by
  have LT := Lib.hid (law_text mx w hm htab)
  clear hm htab
  go_enter Tryd.func4, Tryd.ntmps4
  go_wp2_with fail
  refine LT.out.mono ?_
  rintro e w1 ⟨rfl, hb⟩
  go_wp2_with fail
  go_ret
  exact ⟨rfl, hb⟩

set_option maxHeartbeats 3200000 in
set_option maxRecDepth 100000 in
theorem reads_21 (l : List UInt8) (hl : l.length ≤ 100) (hP : parE l = 2 ∧ parV l = 0) (hQ : ppR l = (0, 0, 1)) (mx : Int) (w : World) (hm : MaxC w mx) (htab : PowTab w) : Calls Tryd.prog 4 #[.string ⟨l.toArray⟩] w fun e w' => e = .returned (.bool true) ∧ Below w.heap.size w w' := by
  have HT := Lib.hid (Lib.tabBelow_of_tabIs htab)
  have LT := Lib.hid (law_text mx w hm htab)
  have IP := Lib.hid (fun (W : World) (hb : Below w.heap.size w W) => ip_Parse l (by omega) mx W (cell_below hm hb))
  have RP := Lib.hid (fun (W : World) => ref_Parse l (by omega) W)
  have IQ := Lib.hid (fun (W : World) (hb : Below w.heap.size w W) => ip_ParsePrefix l (by omega) mx W (cell_below hm hb))
  have RQ := Lib.hid (fun (W : World) => ref_PP l (by omega) W)
  rw [ppE_of hQ] at IQ
  rw [rppE_of hQ] at RQ
  rw [hP.1, hP.2] at IP RP
  clear hP hQ hm htab
  go_enter Tryd.func4, Tryd.ntmps4
  go_wp2_with fail
  refine LT.out.mono ?_
  rintro e w1 ⟨rfl, hB⟩
  go_wp2_with fail
  refine (IP.out _ hB).mono ?_
  rintro e w2 ⟨rfl, hb⟩
  have hB := below_on hB hb
  clear hb
  go_wp2_with fail
  refine (RP.out _).mono ?_
  rintro e w3 ⟨rfl, hb⟩
  have hB := below_on hB hb
  clear hb
  go_wp2_with fail
  refine (IQ.out _ hB).mono ?_
  rintro e w4 ⟨rfl, hb⟩
  have hB := below_on hB hb
  clear hb
  go_wp2_with fail
  obtain ⟨W5, hW5, e0, e1, hb⟩ := box2 w4 (.int .u32 0) (.int .i64 0) 25
  have hB := below_on hB hb
  clear hb
  rw [← hW5]
  clear hW5
  refine (RQ.out _).mono ?_
  rintro e w6 ⟨rfl, hb⟩
  have e0 := cell_below e0 hb
  have e1 := cell_below e1 hb
  have hB := below_on hB hb
  clear hb
  go_wp2_with fail
  go_ret
  exact ⟨rfl, hB⟩

set_option maxHeartbeats 3200000 in
set_option maxRecDepth 100000 in
theorem reads_22 (l : List UInt8) (hl : l.length ≤ 100) (hP : parE l = 2 ∧ parV l = 0) (hQ : ppR l = (0, 0, 2)) (mx : Int) (w : World) (hm : MaxC w mx) (htab : PowTab w) : Calls Tryd.prog 4 #[.string ⟨l.toArray⟩] w fun e w' => e = .returned (.bool true) ∧ Below w.heap.size w w' := by
  have HT := Lib.hid (Lib.tabBelow_of_tabIs htab)
  have LT := Lib.hid (law_text mx w hm htab)
  have IP := Lib.hid (fun (W : World) (hb : Below w.heap.size w W) => ip_Parse l (by omega) mx W (cell_below hm hb))
  have RP := Lib.hid (fun (W : World) => ref_Parse l (by omega) W)
  have IQ := Lib.hid (fun (W : World) (hb : Below w.heap.size w W) => ip_ParsePrefix l (by omega) mx W (cell_below hm hb))
  have RQ := Lib.hid (fun (W : World) => ref_PP l (by omega) W)
  rw [ppE_of hQ] at IQ
  rw [rppE_of hQ] at RQ
  rw [hP.1, hP.2] at IP RP
  clear hP hQ hm htab
  go_enter Tryd.func4, Tryd.ntmps4
  go_wp2_with fail
  refine LT.out.mono ?_
  rintro e w1 ⟨rfl, hB⟩
  go_wp2_with fail
  refine (IP.out _ hB).mono ?_
  rintro e w2 ⟨rfl, hb⟩
  have hB := below_on hB hb
  clear hb
  go_wp2_with fail
  refine (RP.out _).mono ?_
  rintro e w3 ⟨rfl, hb⟩
  have hB := below_on hB hb
  clear hb
  go_wp2_with fail
  refine (IQ.out _ hB).mono ?_
  rintro e w4 ⟨rfl, hb⟩
  have hB := below_on hB hb
  clear hb
  go_wp2_with fail
  obtain ⟨W5, hW5, e0, e1, hb⟩ := box2 w4 (.int .u32 0) (.int .i64 0) 25
  have hB := below_on hB hb
  clear hb
  rw [← hW5]
  clear hW5
  refine (RQ.out _).mono ?_
  rintro e w6 ⟨rfl, hb⟩
  have e0 := cell_below e0 hb
  have e1 := cell_below e1 hb
  have hB := below_on hB hb
  clear hb
  go_wp2_with fail
  go_ret
  exact ⟨rfl, hB⟩

set_option maxHeartbeats 3200000 in
set_option maxRecDepth 100000 in
theorem reads_20 (l : List UInt8) (hl : l.length ≤ 100) (hP : parE l = 2 ∧ parV l = 0) (pa pn : Nat) (hpa : pa < 4294967296) (hF : fullT pa pn = l) (hQ : ppR l = (pa, pn, 0)) (mx : Int) (w : World) (hm : MaxC w mx) (htab : PowTab w) : Calls Tryd.prog 4 #[.string ⟨l.toArray⟩] w fun e w' => e = .returned (.bool true) ∧ Below w.heap.size w w' := by
  have HT := Lib.hid (Lib.tabBelow_of_tabIs htab)
  have LT := Lib.hid (law_text mx w hm htab)
  have IP := Lib.hid (fun (W : World) (hb : Below w.heap.size w W) => ip_Parse l (by omega) mx W (cell_below hm hb))
  have RP := Lib.hid (fun (W : World) => ref_Parse l (by omega) W)
  have IQ := Lib.hid (fun (W : World) (hb : Below w.heap.size w W) => ip_ParsePrefix l (by omega) mx W (cell_below hm hb))
  have RQ := Lib.hid (fun (W : World) => ref_PP l (by omega) W)
  have PT := Lib.hid (fun W ht => ip_PText (pa : Int) (pn : Int) W (by omega) (by omega) ht)
  rw [hF] at PT
  rw [ppE_of hQ] at IQ
  rw [rppE_of hQ] at RQ
  rw [hP.1, hP.2] at IP RP
  clear hP hQ hm htab hF
  go_enter Tryd.func4, Tryd.ntmps4
  go_wp2_with fail
  refine LT.out.mono ?_
  rintro e w1 ⟨rfl, hB⟩
  go_wp2_with fail
  refine (IP.out _ hB).mono ?_
  rintro e w2 ⟨rfl, hb⟩
  have hB := below_on hB hb
  clear hb
  go_wp2_with fail
  refine (RP.out _).mono ?_
  rintro e w3 ⟨rfl, hb⟩
  have hB := below_on hB hb
  clear hb
  go_wp2_with fail
  refine (IQ.out _ hB).mono ?_
  rintro e w4 ⟨rfl, hb⟩
  have hB := below_on hB hb
  clear hb
  go_wp2_with fail
  obtain ⟨W5, hW5, e0, e1, hb⟩ := box2 w4 (.int .u32 pa) (.int .i64 pn) 25
  have hB := below_on hB hb
  clear hb
  rw [← hW5]
  clear hW5
  refine (RQ.out _).mono ?_
  rintro e w6 ⟨rfl, hb⟩
  have e0 := cell_below e0 hb
  have e1 := cell_below e1 hb
  have hB := below_on hB hb
  clear hb
  go_wp2_with fail
  refine (PT.out _ ((HT.out.on hB).here)).mono ?_
  rintro e wx ⟨rfl, hb⟩
  have e0 := cell_below e0 hb
  have e1 := cell_below e1 hb
  have hB := below_on hB hb
  clear hb
  go_wp2_with fail
  go_ret
  exact ⟨rfl, hB⟩

set_option maxHeartbeats 3200000 in
set_option maxRecDepth 100000 in
theorem reads_01 (l : List UInt8) (hl : l.length ≤ 100) (av : Nat) (hav : av < 4294967296) (hT : textL av = l) (hP : parE l = 0 ∧ parV l = av) (hQ : ppR l = (0, 0, 1)) (mx : Int) (w : World) (hm : MaxC w mx) (htab : PowTab w) : Calls Tryd.prog 4 #[.string ⟨l.toArray⟩] w fun e w' => e = .returned (.bool true) ∧ Below w.heap.size w w' := by
  have HT := Lib.hid (Lib.tabBelow_of_tabIs htab)
  have LT := Lib.hid (law_text mx w hm htab)
  have IP := Lib.hid (fun (W : World) (hb : Below w.heap.size w W) => ip_Parse l (by omega) mx W (cell_below hm hb))
  have RP := Lib.hid (fun (W : World) => ref_Parse l (by omega) W)
  have IQ := Lib.hid (fun (W : World) (hb : Below w.heap.size w W) => ip_ParsePrefix l (by omega) mx W (cell_below hm hb))
  have RQ := Lib.hid (fun (W : World) => ref_PP l (by omega) W)
  have TT := Lib.hid (fun W ht => ip_Text av hav W ht)
  rw [hT] at TT
  rw [ppE_of hQ] at IQ
  rw [rppE_of hQ] at RQ
  rw [hP.1, hP.2] at IP RP
  clear hP hQ hm htab hT
  go_enter Tryd.func4, Tryd.ntmps4
  go_wp2_with fail
  refine LT.out.mono ?_
  rintro e w1 ⟨rfl, hB⟩
  go_wp2_with fail
  refine (IP.out _ hB).mono ?_
  rintro e w2 ⟨rfl, hb⟩
  have hB := below_on hB hb
  clear hb
  go_wp2_with fail
  refine (RP.out _).mono ?_
  rintro e w3 ⟨rfl, hb⟩
  have hB := below_on hB hb
  clear hb
  go_wp2_with fail
  refine (IQ.out _ hB).mono ?_
  rintro e w4 ⟨rfl, hb⟩
  have hB := below_on hB hb
  clear hb
  go_wp2_with fail
  obtain ⟨W5, hW5, e0, e1, hb⟩ := box2 w4 (.int .u32 0) (.int .i64 0) 25
  have hB := below_on hB hb
  clear hb
  rw [← hW5]
  clear hW5
  refine (RQ.out _).mono ?_
  rintro e w6 ⟨rfl, hb⟩
  have e0 := cell_below e0 hb
  have e1 := cell_below e1 hb
  have hB := below_on hB hb
  clear hb
  go_wp2_with fail
  refine (TT.out _ ((HT.out.on hB).here)).mono ?_
  rintro e wx ⟨rfl, hb⟩
  have e0 := cell_below e0 hb
  have e1 := cell_below e1 hb
  have hB := below_on hB hb
  clear hb
  go_wp2_with fail
  go_ret
  exact ⟨rfl, hB⟩

set_option maxHeartbeats 3200000 in
set_option maxRecDepth 100000 in
theorem reads_02 (l : List UInt8) (hl : l.length ≤ 100) (av : Nat) (hav : av < 4294967296) (hT : textL av = l) (hP : parE l = 0 ∧ parV l = av) (hQ : ppR l = (0, 0, 2)) (mx : Int) (w : World) (hm : MaxC w mx) (htab : PowTab w) : Calls Tryd.prog 4 #[.string ⟨l.toArray⟩] w fun e w' => e = .returned (.bool true) ∧ Below w.heap.size w w' := by
  have HT := Lib.hid (Lib.tabBelow_of_tabIs htab)
  have LT := Lib.hid (law_text mx w hm htab)
  have IP := Lib.hid (fun (W : World) (hb : Below w.heap.size w W) => ip_Parse l (by omega) mx W (cell_below hm hb))
  have RP := Lib.hid (fun (W : World) => ref_Parse l (by omega) W)
  have IQ := Lib.hid (fun (W : World) (hb : Below w.heap.size w W) => ip_ParsePrefix l (by omega) mx W (cell_below hm hb))
  have RQ := Lib.hid (fun (W : World) => ref_PP l (by omega) W)
  have TT := Lib.hid (fun W ht => ip_Text av hav W ht)
  rw [hT] at TT
  rw [ppE_of hQ] at IQ
  rw [rppE_of hQ] at RQ
  rw [hP.1, hP.2] at IP RP
  clear hP hQ hm htab hT
  go_enter Tryd.func4, Tryd.ntmps4
  go_wp2_with fail
  refine LT.out.mono ?_
  rintro e w1 ⟨rfl, hB⟩
  go_wp2_with fail
  refine (IP.out _ hB).mono ?_
  rintro e w2 ⟨rfl, hb⟩
  have hB := below_on hB hb
  clear hb
  go_wp2_with fail
  refine (RP.out _).mono ?_
  rintro e w3 ⟨rfl, hb⟩
  have hB := below_on hB hb
  clear hb
  go_wp2_with fail
  refine (IQ.out _ hB).mono ?_
  rintro e w4 ⟨rfl, hb⟩
  have hB := below_on hB hb
  clear hb
  go_wp2_with fail
  obtain ⟨W5, hW5, e0, e1, hb⟩ := box2 w4 (.int .u32 0) (.int .i64 0) 25
  have hB := below_on hB hb
  clear hb
  rw [← hW5]
  clear hW5
  refine (RQ.out _).mono ?_
  rintro e w6 ⟨rfl, hb⟩
  have e0 := cell_below e0 hb
  have e1 := cell_below e1 hb
  have hB := below_on hB hb
  clear hb
  go_wp2_with fail
  refine (TT.out _ ((HT.out.on hB).here)).mono ?_
  rintro e wx ⟨rfl, hb⟩
  have e0 := cell_below e0 hb
  have e1 := cell_below e1 hb
  have hB := below_on hB hb
  clear hb
  go_wp2_with fail
  go_ret
  exact ⟨rfl, hB⟩

set_option maxHeartbeats 3200000 in
set_option maxRecDepth 100000 in
theorem reads_00 (l : List UInt8) (hl : l.length ≤ 100) (av : Nat) (hav : av < 4294967296) (hT : textL av = l) (hP : parE l = 0 ∧ parV l = av) (pa pn : Nat) (hpa : pa < 4294967296) (hF : fullT pa pn = l) (hQ : ppR l = (pa, pn, 0)) (mx : Int) (w : World) (hm : MaxC w mx) (htab : PowTab w) : Calls Tryd.prog 4 #[.string ⟨l.toArray⟩] w fun e w' => e = .returned (.bool true) ∧ Below w.heap.size w w' := by
  have HT := Lib.hid (Lib.tabBelow_of_tabIs htab)
  have LT := Lib.hid (law_text mx w hm htab)
  have IP := Lib.hid (fun (W : World) (hb : Below w.heap.size w W) => ip_Parse l (by omega) mx W (cell_below hm hb))
  have RP := Lib.hid (fun (W : World) => ref_Parse l (by omega) W)
  have IQ := Lib.hid (fun (W : World) (hb : Below w.heap.size w W) => ip_ParsePrefix l (by omega) mx W (cell_below hm hb))
  have RQ := Lib.hid (fun (W : World) => ref_PP l (by omega) W)
  have TT := Lib.hid (fun W ht => ip_Text av hav W ht)
  rw [hT] at TT
  have PT := Lib.hid (fun W ht => ip_PText (pa : Int) (pn : Int) W (by omega) (by omega) ht)
  rw [hF] at PT
  rw [ppE_of hQ] at IQ
  rw [rppE_of hQ] at RQ
  rw [hP.1, hP.2] at IP RP
  clear hP hQ hm htab hT hF
  go_enter Tryd.func4, Tryd.ntmps4
  go_wp2_with fail
  refine LT.out.mono ?_
  rintro e w1 ⟨rfl, hB⟩
  go_wp2_with fail
  refine (IP.out _ hB).mono ?_
  rintro e w2 ⟨rfl, hb⟩
  have hB := below_on hB hb
  clear hb
  go_wp2_with fail
  refine (RP.out _).mono ?_
  rintro e w3 ⟨rfl, hb⟩
  have hB := below_on hB hb
  clear hb
  go_wp2_with fail
  refine (IQ.out _ hB).mono ?_
  rintro e w4 ⟨rfl, hb⟩
  have hB := below_on hB hb
  clear hb
  go_wp2_with fail
  obtain ⟨W5, hW5, e0, e1, hb⟩ := box2 w4 (.int .u32 pa) (.int .i64 pn) 25
  have hB := below_on hB hb
  clear hb
  rw [← hW5]
  clear hW5
  refine (RQ.out _).mono ?_
  rintro e w6 ⟨rfl, hb⟩
  have e0 := cell_below e0 hb
  have e1 := cell_below e1 hb
  have hB := below_on hB hb
  clear hb
  go_wp2_with fail
  refine (TT.out _ ((HT.out.on hB).here)).mono ?_
  rintro e wx ⟨rfl, hb⟩
  have e0 := cell_below e0 hb
  have e1 := cell_below e1 hb
  have hB := below_on hB hb
  clear hb
  go_wp2_with fail
  refine (PT.out _ ((HT.out.on hB).here)).mono ?_
  rintro e wx ⟨rfl, hb⟩
  have e0 := cell_below e0 hb
  have e1 := cell_below e1 hb
  have hB := below_on hB hb
  clear hb
  go_wp2_with fail
  go_ret
  exact ⟨rfl, hB⟩

theorem law_IpReads (s : ByteArray) (hs : s.size ≤ 9223372036854775807) (mx : Int) (w : World) (hm : MaxC w mx) (htab : PowTab w) : Calls Tryd.prog 4 #[.string s] w fun e w' => e = .returned (.bool true) ∧ Below w.heap.size w w' := by
  by_cases hl : 100 < s.size
  · exact reads_long s hl hs mx w hm htab
  · obtain ⟨l, rfl⟩ : ∃ l : List UInt8, s = ⟨l.toArray⟩ := ⟨s.data.toList, by simp⟩
    have hl' : l.length ≤ 100 := by simp [ByteArray.size] at hl; omega
    rcases parE_cases l with h | ⟨av, hav, h1, h2, hT⟩
    · rcases ppR_cases l with hQ | hQ | ⟨pa, pn, hpa, hQ, hF⟩
      · exact reads_21 l hl' h hQ mx w hm htab
      · exact reads_22 l hl' h hQ mx w hm htab
      · exact reads_20 l hl' h pa pn hpa hF hQ mx w hm htab
    · rcases ppR_cases l with hQ | hQ | ⟨pa, pn, hpa, hQ, hF⟩
      · exact reads_01 l hl' av hav hT ⟨h1, h2⟩ hQ mx w hm htab
      · exact reads_02 l hl' av hav hT ⟨h1, h2⟩ hQ mx w hm htab
      · exact reads_00 l hl' av hav hT ⟨h1, h2⟩ pa pn hpa hF hQ mx w hm htab
end Go.Proofs.YtgmpbppiakjpdaaDoor
