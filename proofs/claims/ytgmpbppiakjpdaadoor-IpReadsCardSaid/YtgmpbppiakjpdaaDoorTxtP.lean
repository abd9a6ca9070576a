/-
  THE ADDRESS, AND THE NET, THAT A TEXT SAYS: ip.Parse, ip.ParsePrefix.
-/
import Derived.Test.YtgmpbppiakjpdaaDoorTxtN
import Derived.Test.YtgmpbppiakjpdaaDoorShelf
import Derived.Test.YtgmpbppiakjpdaaDoorIpWalk
import Derived.LoopTactic
namespace Go.Proofs.YtgmpbppiakjpdaaDoor
open Go.RowKit Go.Shelf

def cutC (l : List UInt8) (c : UInt8) : List UInt8 × List UInt8 × Bool := Lib.cut l [c]
abbrev MaxC (w : World) (mx : Int) : Prop := w.cell? ⟨1, 0, none⟩ = some (.int .i64 mx)
theorem str_Cut (l : List UInt8) (c : UInt8) (mx : Int) (w : World) (hl : l.length ≤ 1000000) (hm : MaxC w mx) : Calls Tryd.prog 20 #[.string ⟨l.toArray⟩, .string ⟨#[c]⟩] w fun e w' => e = .returned (.tuple #[.string ⟨(cutC l c).1.toArray⟩, .string ⟨(cutC l c).2.1.toArray⟩, .bool (cutC l c).2.2]) ∧ Below w.heap.size w w' := by
  refine (Tryd.strings_Cut ⟨l.toArray⟩ ⟨#[c]⟩ mx w (by simp [ByteArray.size]; omega) hm).mono ?_
  rintro e w' ⟨rfl, n, rfl⟩
  exact ⟨rfl, below_drewN (Below.refl _ _) _⟩

def parseGo : Nat → Nat → List UInt8 → Option Nat
  | 0, a, _ => some a
  | k + 1, a, r => if numOk (cutC r 46).1 255 && ((cutC r 46).2.2 == decide (0 < k)) then parseGo k (a * 256 + valD (cutC r 46).1 0) (cutC r 46).2.1 else none
def parseL (l : List UInt8) : Option Nat := parseGo 4 0 l
def parV (l : List UInt8) : Nat := (parseL l).getD 0
def parE (l : List UInt8) : Nat := if (parseL l).isSome then 0 else 2
theorem cut_le (l : List UInt8) (c : UInt8) : (cutC l c).1.length ≤ l.length ∧ (cutC l c).2.1.length ≤ l.length := by
  unfold cutC Lib.cut
  split <;> simp <;> omega
theorem num_lt {l : List UInt8} {m : Nat} (h : numOk l m = true) : valD l 0 ≤ m := by
  simp [numOk] at h; exact h.2
theorem or_shift (a n : Nat) (ha : a < 16777216) (hn : n < 256) : bits .or .u32 ((a : Int) * 256) n = ((a * 256 + n : Nat) : Int) := by
  have h := or_low (a * 256 : Nat) (n : Nat) 8 (by omega) (by omega) (by omega) (by omega) (by omega) (by omega)
  rw [show ((a : Int) * 256) = ((a * 256 : Nat) : Int) by omega, h]
  omega
theorem par_no {l : List UInt8} (h : parseL l = none) : Ending.returned (.tuple #[.int .u32 0, .int .i64 2]) = Ending.returned (.tuple #[.int .u32 (parV l), .int .i64 (parE l)]) := by unfold parV parE; rw [h]; rfl
theorem par_yes {l : List UInt8} {a : Nat} (h : parseL l = some a) : Ending.returned (.tuple #[.int .u32 a, .int .i64 0]) = Ending.returned (.tuple #[.int .u32 (parV l), .int .i64 (parE l)]) := by unfold parV parE; rw [h]; rfl

set_option maxHeartbeats 1600000 in
theorem ip_Parse (l : List UInt8) (hl : l.length ≤ 1000000) (mx : Int) (w : World) (hm : MaxC w mx) : Calls Tryd.prog 10 #[.string ⟨l.toArray⟩] w fun e w' => e = .returned (.tuple #[.int .u32 (parV l), .int .i64 (parE l)]) ∧ Below w.heap.size w w' := by
  go_enter Tryd.func10, Tryd.ntmps10
  go_wp2_with fail
  go_loopw [4, 5, 13] (fun a rest i wr => ∃ (k av : Nat) (r : List UInt8), k ≤ 4 ∧ i = .int .i64 k ∧ a = .int .u32 av ∧ rest = .string ⟨r.toArray⟩ ∧ r.length ≤ l.length ∧ av < 256 ^ k ∧ Hid (parseL l = parseGo (4 - k) av r) ∧ Below w.heap.size w wr) (fun _ _ i _ => 4 - (intOf i).toNat)
  case atStart => exact ⟨0, 0, l, by omega, rfl, rfl, rfl, Nat.le_refl _, by decide, Lib.hid rfl, Below.refl _ _⟩
  case round =>
    obtain ⟨k, av, r, hk, rfl, rfl, rfl, hr, hav, HP, hb⟩ := hrel
    by_cases hlt : k < 4
    · have hm' := cell_below hm hb
      have ha24 : av < 16777216 := Nat.lt_of_lt_of_le hav (by calc 256 ^ k ≤ 256 ^ 3 := Nat.pow_le_pow_right (by decide) (by omega)
        _ = 16777216 := by decide)
      obtain ⟨q1, q2⟩ := cut_le r 46
      have hstep : Hid (parseGo (4 - k) av r = if numOk (cutC r 46).1 255 && ((cutC r 46).2.2 == decide (0 < 3 - k)) then parseGo (3 - k) (av * 256 + valD (cutC r 46).1 0) (cutC r 46).2.1 else none) := by
        rw [show 4 - k = (3 - k) + 1 by omega]; rfl
      go_wp2_with fail
      refine (str_Cut r 46 mx _ (by omega) hm').mono ?_
      rintro e w1 ⟨rfl, hb1⟩
      have hb2 := below_on hb hb1
      clear hm' hb hb1
      generalize hpt : cutC r 46 = pt at *
      obtain ⟨part, behind, dot⟩ := pt
      simp only at q1 q2 hstep
      go_wp2_with fail
      refine (ip_number part 255 (by omega) _).mono ?_
      rintro e w2 ⟨rfl, rfl⟩
      cases hok : numOk part 255
      · rw [hok] at hstep
        have E : parseL l = none := by rw [HP.out, hstep.out]; rfl
        have E' := Lib.hid E
        clear HP hstep E
        go_wp2_with fail
        exact bodyPost_ret (v := .tuple #[.int .u32 0, .int .i64 2]) (by simp [results, Tryd.results10, go_sem]) rfl ⟨par_no E'.out, hb2⟩
      · have hv : numV part 255 = valD part 0 := numOk_yes hok
        have hv' := num_lt hok
        rw [hok] at hstep
        rw [hv]
        have or1 := or_shift av (valD part 0) ha24 (by omega)
        cases dot <;> by_cases hk3 : k < 3
        · have E : parseL l = none := by rw [HP.out, hstep.out]; simp; omega
          have E' := Lib.hid E
          clear HP hstep E
          go_wp2_with fail
          exact bodyPost_ret (v := .tuple #[.int .u32 0, .int .i64 2]) (by simp [results, Tryd.results10, go_sem]) rfl ⟨par_no E'.out, hb2⟩
        · have E : parseL l = parseGo (4 - (k + 1)) (av * 256 + valD part 0) behind := by rw [HP.out, hstep.out, if_pos (by simp; omega), show 4 - (k + 1) = 3 - k by omega]
          have E' := Lib.hid E
          clear HP hstep E
          have hpow : av * 256 + valD part 0 < 256 ^ (k + 1) := by rw [Nat.pow_succ]; omega
          go_wp2_with fail
          · exact ⟨⟨k + 1, av * 256 + valD part 0, behind, by omega, by go_num, by go_num, rfl, by omega, hpow, E', hb2⟩, by simp [intOf]; omega⟩
        · have E : parseL l = parseGo (4 - (k + 1)) (av * 256 + valD part 0) behind := by rw [HP.out, hstep.out, if_pos (by simp; omega), show 4 - (k + 1) = 3 - k by omega]
          have E' := Lib.hid E
          clear HP hstep E
          have hpow : av * 256 + valD part 0 < 256 ^ (k + 1) := by rw [Nat.pow_succ]; omega
          go_wp2_with fail
          · have hx := ‹(!decide ((k : Int) < 3)) = true›
            simp at hx
            omega
          · exact ⟨⟨k + 1, av * 256 + valD part 0, behind, by omega, by go_num, by go_num, rfl, by omega, hpow, E', hb2⟩, by simp [intOf]; omega⟩
        · have E : parseL l = none := by rw [HP.out, hstep.out]; simp; omega
          have E' := Lib.hid E
          clear HP hstep E
          go_wp2_with fail
          · exact bodyPost_ret (v := .tuple #[.int .u32 0, .int .i64 2]) (by simp [results, Tryd.results10, go_sem]) rfl ⟨par_no E'.out, hb2⟩
          · have hx := ‹(!decide ((k : Int) < 3)) = false›
            simp at hx
            omega
    · obtain rfl : k = 4 := by omega
      have E : parseL l = some av := HP.out
      go_wp2
      exact bodyPost_ret (by simp [results, Tryd.results10, go_sem]) rfl ⟨par_yes E, hb⟩
/-- what ip.ParsePrefix gives back. -/
def ppR (l : List UInt8) : Nat × Nat × Nat :=
  match parseL (cutC l 47).1 with
  | none => (0, 0, 2)
  | some a => if numOk (cutC l 47).2.1 32 then (if rightB a (valD (cutC l 47).2.1 0) then (a, valD (cutC l 47).2.1 0, 0) else (0, 0, 1)) else (0, 0, 2)
theorem parseGo_lt : ∀ (k a : Nat) (r : List UInt8) (b : Nat), parseGo k a r = some b → b < (a + 1) * 256 ^ k
  | 0, a, r, b, h => by simp [parseGo] at h; omega
  | k + 1, a, r, b, h => by
    unfold parseGo at h
    split at h
    · next hc =>
      simp at hc
      have hv := num_lt hc.1
      have h1 := parseGo_lt k _ _ b h
      refine Nat.lt_of_lt_of_le h1 ?_
      rw [Nat.pow_succ, Nat.mul_comm (256 ^ k) 256, ← Nat.mul_assoc]
      exact Nat.mul_le_mul_right _ (by omega)
    · cases h
theorem parseL_lt {l : List UInt8} {a : Nat} (h : parseL l = some a) : a < 4294967296 := by
  have := parseGo_lt 4 0 l a h
  omega
theorem parE_no {l : List UInt8} (h : parseL l = none) : parE l = 2 := by unfold parE; rw [h]; rfl
theorem par_some {l : List UInt8} {a : Nat} (h : parseL l = some a) : parE l = 0 ∧ parV l = a := by unfold parE parV; rw [h]; exact ⟨rfl, rfl⟩
def ppE (l : List UInt8) : Ending := .returned (.tuple #[.agg #[.int .u32 (ppR l).1, .int .i64 (ppR l).2.1], .int .i64 (ppR l).2.2])
theorem pp_eq {l : List UInt8} {a n e : Nat} (h : ppR l = (a, n, e)) : Ending.returned (.tuple #[.agg #[.int .u32 a, .int .i64 n], .int .i64 e]) = ppE l := by unfold ppE; rw [h]

set_option maxHeartbeats 1600000 in
theorem ip_ParsePrefix (l : List UInt8) (hl : l.length ≤ 1000000) (mx : Int) (w : World) (hm : MaxC w mx) : Calls Tryd.prog 11 #[.string ⟨l.toArray⟩] w fun e w' => e = ppE l ∧ Below w.heap.size w w' := by
  obtain ⟨q1, q2⟩ := cut_le l 47
  have hpp : Hid (ppR l = match parseL (cutC l 47).1 with
    | none => (0, 0, 2)
    | some a => if numOk (cutC l 47).2.1 32 then (if rightB a (valD (cutC l 47).2.1 0) then (a, valD (cutC l 47).2.1 0, 0) else (0, 0, 1)) else (0, 0, 2)) := rfl
  go_enter Tryd.func11, Tryd.ntmps11
  go_wp2_with fail
  obtain ⟨W0, hW0, r0, r1, hB⟩ := box2 w (.int .u32 0) (.int .i64 0) 25
  have f0 : W0.frozen? ⟨w.heap.size, 0, none⟩ = false := by rw [hW0]; simp
  have f1 : W0.frozen? ⟨w.heap.size, 1, none⟩ = false := by rw [hW0]; simp
  rw [← hW0]; clear hW0
  refine (str_Cut l 47 mx _ hl (cell_below hm hB)).mono ?_
  rintro e w1 ⟨rfl, hb⟩
  have f0 := frozen_below (size_lt r0) f0 hb
  have f1 := frozen_below (size_lt r1) f1 hb
  have r0 := cell_below r0 hb
  have r1 := cell_below r1 hb
  have hB := below_on hB hb
  clear hb
  generalize hpt : cutC l 47 = pt at *
  obtain ⟨front, behind, slash⟩ := pt
  simp only at q1 q2 hpp
  go_wp2_with fail
  refine (ip_Parse front (by omega) mx _ (cell_below hm hB)).mono ?_
  rintro e w2 ⟨rfl, hb⟩
  have f0 := frozen_below (size_lt r0) f0 hb
  have f1 := frozen_below (size_lt r1) f1 hb
  have r0 := cell_below r0 hb
  have r1 := cell_below r1 hb
  have hB := below_on hB hb
  clear hb
  cases hpl : parseL front with
  | none =>
    rw [parE_no hpl]
    rw [hpl] at hpp
    have hE := Lib.hid (pp_eq hpp.out)
    go_wp2_with fail
    refine bodyPost_ret (v := .tuple #[.agg #[.int .u32 0, .int .i64 0], .int .i64 2]) (by simp [results, Tryd.results11, go_sem, r0, r1]) rfl ⟨hE.out, ?_⟩
    exact (hB.setCell (by simp) _).setCell (by simp) _
  | some a =>
    obtain ⟨e1, e2⟩ := par_some hpl
    have ha := parseL_lt hpl
    rw [e1, e2]
    rw [hpl] at hpp
    go_wp2_with fail
    refine (ip_number behind 32 (by omega) _).mono ?_
    rintro e w3 ⟨rfl, rfl⟩
    cases hok : numOk behind 32
    · rw [hok] at hpp
      have hE := Lib.hid (pp_eq hpp.out)
      go_wp2_with fail
      refine bodyPost_ret (v := .tuple #[.agg #[.int .u32 0, .int .i64 0], .int .i64 2]) (by simp [results, Tryd.results11, go_sem, r0, r1]) rfl ⟨hE.out, ?_⟩
      exact (hB.setCell (by simp) _).setCell (by simp) _
    · rw [hok] at hpp
      rw [numOk_yes hok]
      generalize valD behind 0 = n at *
      go_wp2_with fail
      obtain ⟨W2, hW2, e0, e1, hb2⟩ := box2 w2 (.int .u32 a) (.int .i64 n) 25
      rw [← hW2]; clear hW2
      have hne : ¬ w.heap.size = w2.heap.size := by have := size_lt r0; omega
      have f0 := frozen_below (size_lt r0) f0 hb2
      have f1 := frozen_below (size_lt r1) f1 hb2
      have r0 := cell_below r0 hb2
      have r1 := cell_below r1 hb2
      have hB := below_on hB hb2
      clear hb2
      refine (ip_Check a n W2 (by omega) (by omega)).mono ?_
      rintro e w4 ⟨rfl, hb⟩
      have f0 := frozen_below (size_lt r0) f0 hb
      have f1 := frozen_below (size_lt r1) f1 hb
      have r0 := cell_below r0 hb
      have r1 := cell_below r1 hb
      have e0 := cell_below e0 hb
      have e1 := cell_below e1 hb
      have hB := below_on hB hb
      clear hb
      cases hR : rightB a n
      · rw [hR] at hpp
        have hE := Lib.hid (pp_eq hpp.out)
        clear hpp
        go_wp2_with fail
        refine bodyPost_ret (v := .tuple #[.agg #[.int .u32 0, .int .i64 0], .int .i64 1]) (by simp [results, Tryd.results11, go_sem, r0, r1, errI]) rfl ⟨hE.out, ?_⟩
        exact (hB.setCell (by simp) _).setCell (by simp) _
      · rw [hR] at hpp
        have hE := Lib.hid (pp_eq hpp.out)
        clear hpp
        go_wp2_with fail
        refine bodyPost_ret (v := .tuple #[.agg #[.int .u32 a, .int .i64 n], .int .i64 0]) (by simp [results, Tryd.results11, go_sem, r0, r1]) rfl ⟨hE.out, ?_⟩
        exact (hB.setCell (by simp) _).setCell (by simp) _
end Go.Proofs.YtgmpbppiakjpdaaDoor
