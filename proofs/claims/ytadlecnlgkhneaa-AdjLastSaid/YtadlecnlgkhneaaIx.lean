/-
  slices.Index, slices.Contains over integers: where the first one is; whether one is there.
-/
import Derived.Test.YtadlecnlgkhneaaSl
import Derived.Test.YtadlecnlgkhneaaSo
import Derived.LoopTactic
import Derived.OwnWalk
import Derived.Deep.DeepCutAuto
import Derived.LoopN
namespace Go.Proofs.Ytadlecnlgkhneaa
open Go.RowKit

def idxI (t : Int) : List Int → Nat → Int
  | [], _ => -1
  | r :: rs, k => if t = r then (k : Int) else idxI t rs (k + 1)
theorem idxI_step {t : Int} {rs : List Int} {k : Nat} {r : Int} (h : rs[k]? = some r) : idxI t (rs.drop k) k = if t = r then (k : Int) else idxI t (rs.drop (k + 1)) (k + 1) := by
  obtain ⟨h1, h2⟩ := List.getElem?_eq_some_iff.1 h
  rw [List.drop_eq_getElem_cons h1, h2]; rfl
theorem idxI_has (t : Int) : ∀ (rs : List Int) (k : Nat), decide (idxI t rs k ≥ 0) = rs.contains t
  | [], k => by simp [idxI]
  | r :: rs, k => by
    have ih := idxI_has t rs (k + 1)
    unfold idxI
    rw [List.contains_cons]
    by_cases h : t = r
    · subst h; simp
    · rw [if_neg h, ih]
      simp [h]
set_option maxHeartbeats 1600000 in
theorem sl_Index (v : Value) (xs : List Int) (t : Int) (w : World) (h : IntsAt w v xs) : Calls Try.prog 63 #[v, .int .i64 t] w fun e w' => e = .returned (.int .i64 (idxI t xs 0)) ∧ w = w' := by
  obtain ⟨sa, cap, rfl, hlc, hcm, hV⟩ := h
  have HV := Lib.hid hV
  unfold maxLen at hcm
  clear hV
  go_enter Try.func63, Try.ntmps63
  go_wp2_with fail
  go_loopw [8] (fun i wr => ∃ k : Nat, k ≤ xs.length ∧ i = .int .i64 k ∧ Hid (idxI t xs 0 = idxI t (xs.drop k) k) ∧ wr = w) (fun i _ => xs.length - (intOf i).toNat)
  case atStart => exact ⟨0, by omega, rfl, Lib.hid rfl, rfl⟩
  case round =>
    obtain ⟨k, hk, rfl, E, rfl⟩ := hrel
    by_cases hlt : k < xs.length
    · obtain ⟨r, hr⟩ : ∃ r, xs[k]? = some r := ⟨_, List.getElem?_eq_getElem hlt⟩
      obtain ⟨b, off, hsa, hP⟩ := HV.out (by omega)
      subst hsa
      obtain ⟨cs, _, ⟨rfl, _⟩, hc⟩ := hP k r hr
      have x0 := hc 0 _ rfl
      simp only [Nat.add_zero, Nat.mul_one] at x0
      have E2 : Hid (idxI t xs 0 = if t = r then (k : Int) else idxI t (xs.drop (k + 1)) (k + 1)) := Lib.hid (by rw [E.out, idxI_step hr])
      have j0 : (0 : Int) ≤ (k : Int) := by omega
      have j1 : (k : Int) < (xs.length : Int) := by omega
      clear hP hc hr E
      by_cases hp : t = r
      · have E3 : Hid (idxI t xs 0 = (k : Int)) := Lib.hid (by rw [E2.out, if_pos hp])
        have hb : (t == r) = true := by simpa using hp
        clear E2 hp
        go_wp2_with fail
        go_ret
        exact ⟨ret_int E3.out.symm, rfl⟩
      · have E3 : Hid (idxI t xs 0 = idxI t (xs.drop (k + 1)) (k + 1)) := Lib.hid (by rw [E2.out, if_neg hp])
        have hb : (t == r) = false := by simpa using hp
        clear E2 hp
        go_wp2_with fail
        exact ⟨⟨k + 1, by omega, by go_num, E3, trivial⟩, by simp [intOf]; omega⟩
    · obtain rfl : k = xs.length := by omega
      have E3 : Hid (idxI t xs 0 = -1) := Lib.hid (by rw [E.out, List.drop_length]; rfl)
      clear E
      go_wp2_with fail
      go_ret
      exact ⟨ret_int E3.out.symm, rfl⟩
theorem sl_Contains (v : Value) (xs : List Int) (t : Int) (w : World) (h : IntsAt w v xs) : Calls Try.prog 36 #[v, .int .i64 t] w fun e w' => e = .returned (.bool (xs.contains t)) ∧ w = w' := by
  have RI := Lib.hid (sl_Index v xs t w h)
  have EQ := Lib.hid (idxI_has t xs 0)
  generalize idxI t xs 0 = n at RI EQ
  clear h
  go_enter Try.func36, Try.ntmps36
  go_wp2_with fail
  refine RI.out.mono ?_
  rintro e w1 ⟨rfl, rfl⟩
  go_wp2_with fail
  go_ret
  exact ⟨ret_bool EQ.out, rfl⟩
end Go.Proofs.Ytadlecnlgkhneaa
