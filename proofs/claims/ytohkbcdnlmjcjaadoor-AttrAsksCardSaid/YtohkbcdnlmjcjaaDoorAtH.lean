/-
  ATTRIBUTES: Hops, First, Is: how long the path is, where it begins, what is there.
-/
import Derived.Test.YtohkbcdnlmjcjaaDoorAt
import Derived.LoopTactic
import Derived.OwnWalk
import Derived.Deep.DeepCutAuto
import Derived.LoopN
namespace Go.Proofs.YtohkbcdnlmjcjaaDoor
open Go.RowKit

def hopsN : List Sg → Nat
  | [] => 0
  | s :: p => (if s.1 then 1 else s.2.length) + hopsN p
set_option maxRecDepth 100000 in
theorem hopsN_append (p q : List Sg) : hopsN (p ++ q) = hopsN p + hopsN q := by
  induction p with
  | nil => simp [hopsN]
  | cons s p ih => simp only [List.cons_append, hopsN, ih]; omega
set_option maxRecDepth 100000 in
theorem hopsN_step {p : List Sg} {k : Nat} {s : Sg} (hs : p[k]? = some s) : hopsN (p.take (k + 1)) = hopsN (p.take k) + (if s.1 then 1 else s.2.length) := by
  obtain ⟨h1, h2⟩ := List.getElem?_eq_some_iff.1 hs
  rw [List.take_succ_eq_append_getElem h1, hopsN_append, h2]
  simp [hopsN]
set_option maxRecDepth 100000 in
theorem hopsN_le (p : List Sg) (k : Nat) : hopsN (p.take k) ≤ hopsN p := by
  conv => rhs; rw [← List.take_append_drop k p]
  rw [hopsN_append]; omega
def firstN : List Sg → Int
  | [] => 0
  | s :: _ => if s.1 then 0 else s.2.headD 0
set_option maxRecDepth 100000 in
/-- attributes are boxed at the call's beginning. -/
theorem boxA (w : World) (c0 c1 c2 c3 c4 c5 c6 c7 c8 c9 : Value) : ∃ W0, W0 = w.alloc (.cells #[c0, c1, c2, c3, c4, c5, c6, c7, c8, c9] 28) ∧ W0.heap[w.heap.size]? = some (.cells #[c0, c1, c2, c3, c4, c5, c6, c7, c8, c9] 28 (0, 0)) ∧ Below w.heap.size w W0 ∧ W0.heap.size = w.heap.size + 1 :=
  ⟨_, rfl, heap_alloc_new w _, (Below.refl _ _).alloc (Nat.le_refl _) _, by simp⟩

set_option maxHeartbeats 1600000 in
set_option maxRecDepth 100000 in
theorem at_Hops (c0 c1 vp c3 c4 c5 c6 c7 c8 c9 : Value) (p : List Sg) (w : World) (hP : PathAt w vp p) (hh : hopsN p ≤ 4611686018427387904) :
    Calls Tryd.prog 9 #[.agg #[c0, c1, vp, c3, c4, c5, c6, c7, c8, c9]] w fun e w' => e = .returned (.int .i64 (hopsN p)) ∧ Below w.heap.size w w' := by
  obtain ⟨sa, cap, rfl, hlc, hcm, hV⟩ := hP
  have HV := Lib.hid hV
  have HH := Lib.hid hh
  unfold maxLen at hcm
  clear hV hh
  go_enter Tryd.func9, Tryd.ntmps9
  go_upto_region 2 with (fail)
  obtain ⟨W0, hW0, q, hb0, _⟩ := boxA w c0 c1 (.slice sa p.length cap) c3 c4 c5 c6 c7 c8 c9
  rw [← hW0]
  clear hW0
  have y2 : W0.cell? ⟨w.heap.size, 2, none⟩ = some (.slice sa p.length cap) := row_cell q 2
  clear q
  go_wp2_with fail
  go_loopw [3, 9] (fun n i wr => ∃ k : Nat, k ≤ p.length ∧ i = .int .i64 k ∧ n = .int .i64 (hopsN (p.take k)) ∧ Below w.heap.size w wr) (fun _ i _ => p.length - (intOf i).toNat)
  case atStart => exact ⟨0, by omega, rfl, rfl, hb0⟩
  case round =>
    obtain ⟨k, hk, rfl, rfl, hb⟩ := hrel
    by_cases hlt : k < p.length
    · obtain ⟨s, hs⟩ : ∃ s, p[k]? = some s := ⟨_, List.getElem?_eq_getElem hlt⟩
      obtain ⟨b, off, hsa, hP⟩ := HV.out (by omega)
      subst hsa
      obtain ⟨cs, _, ⟨u, rfl, sb, cb, rfl, hl1, hl2, _⟩, hc⟩ := hP k s hs
      have d0 := (hb.cell (size_lt (hc 0 _ rfl))).trans (hc 0 _ rfl)
      have d1 := (hb.cell (size_lt (hc 1 _ rfl))).trans (hc 1 _ rfl)
      simp only [Nat.add_zero] at d0
      have ST := Lib.hid (hopsN_step hs)
      have h1 := hopsN_le p k
      have h2 := hopsN_le p (k + 1)
      rw [ST.out] at h2
      have h3 := HH.out
      unfold maxLen at hl2
      obtain ⟨set, ss⟩ := s
      simp only at d0 d1 ST h2 hl1 hl2
      have hB : Hid (∀ o, Below w.heap.size w (wr.alloc o)) := Lib.hid fun o => hb.alloc hb.size o
      clear hP hc hs
      cases set
      · simp only [Bool.false_eq_true, if_false] at ST h2
        have e1 : (hopsN (List.take k p) : Int) + (ss.length : Int) ≤ 4611686018427387904 := by omega
        go_wp2_with fail
        exact ⟨⟨k + 1, by omega, by go_num, by rw [ST.out]; go_num, hB.out _⟩, by simp [intOf]; omega⟩
      · simp only [if_true] at ST h2
        have e1 : (hopsN (List.take k p) : Int) + 1 ≤ 4611686018427387904 := by omega
        go_wp2_with fail
        exact ⟨⟨k + 1, by omega, by go_num, by rw [ST.out]; go_num, hB.out _⟩, by simp [intOf]; omega⟩
    · obtain rfl : k = p.length := by omega
      go_wp2_with fail
      go_ret
      exact ⟨ret_int (by rw [List.take_length]), hb⟩
end Go.Proofs.YtohkbcdnlmjcjaaDoor
