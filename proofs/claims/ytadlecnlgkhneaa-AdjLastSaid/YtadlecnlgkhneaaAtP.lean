/-
  ATTRIBUTES: Passes: whether a system is on the path.
-/
import Derived.Test.YtadlecnlgkhneaaAt
import Derived.Test.YtadlecnlgkhneaaIx
import Derived.Test.YtadlecnlgkhneaaMapT
namespace Go.Proofs.Ytadlecnlgkhneaa
open Go.RowKit

theorem box1 (w : World) (C : Array Value) (T : TypeId) : ∃ W0, W0 = w.alloc (.cells C T) ∧ W0.heap[w.heap.size]? = some (.cells C T (0, 0)) ∧ Below w.heap.size w W0 ∧ W0.heap.size = w.heap.size + 1 :=
  ⟨_, rfl, heap_alloc_new w _, (Below.refl _ _).alloc (Nat.le_refl _) _, by simp⟩
theorem boxTwo (w : World) (C : Array Value) (T : TypeId) (Z : Array Value) (U : TypeId) : ∃ W0, W0 = (w.alloc (.cells C T)).alloc (.cells Z U) ∧ W0.heap[w.heap.size]? = some (.cells C T (0, 0)) ∧ W0.heap[w.heap.size + 1]? = some (.cells Z U (0, 0)) ∧ Below w.heap.size w W0 := by
  refine ⟨_, rfl, ?_, ?_, ((Below.refl _ _).alloc (Nat.le_refl _) _).alloc (by simp) _⟩
  · have h1 := heap_alloc_new w (.cells C T)
    have h2 : Below (w.alloc (.cells C T)).heap.size (w.alloc (.cells C T)) ((w.alloc (.cells C T)).alloc (.cells Z U)) := (Below.refl _ _).alloc (Nat.le_refl _) _
    exact (h2.block _ (row_lt h1)).trans h1
  · have h1 := heap_alloc_new (w.alloc (.cells C T)) (.cells Z U)
    simpa using h1
/-- whether a system is on a path. -/
def passB (p : List Sg) (t : Int) : Bool := p.any fun s => s.2.contains t
set_option maxHeartbeats 1600000 in
set_option maxRecDepth 100000 in
theorem at_pass1 (b : Bool) (u : Value) (l : List Int) (tb : Nat) (t : Int) (w : World) (hu : IntsAt w u l) (ht : w.cell? ⟨tb, 0, none⟩ = some (.int .i64 t)) :
    Calls Try.prog 35 #[.agg #[.bool b, u], .pointer (some ⟨tb, 0, none⟩)] w fun e w' => e = .returned (.bool (l.contains t)) ∧ Below w.heap.size w w' := by
  have HU := Lib.hid hu
  go_enter Try.func35, Try.ntmps35
  go_upto_region 1 with (fail)
  obtain ⟨W0, hW0, q0, hb0, -⟩ := box1 w #[.bool b, u] 54
  rw [← hW0]
  clear hW0
  have c1 : W0.cell? ⟨w.heap.size, 1, none⟩ = some u := row_cell q0 1
  have t0 := cell_below ht hb0
  have H0 := Lib.hid (HU.out.below hb0)
  clear q0 ht hu
  have CT := Lib.hid (sl_Contains _ l t _ H0.out)
  generalize hz : l.contains t = z at CT
  have HZ := Lib.hid hz
  clear hz
  obtain ⟨sa, cap, rfl, -⟩ := id HU.out
  go_wp2_with fail
  refine CT.out.mono ?_
  rintro e w1 ⟨rfl, rfl⟩
  clear c1 t0
  go_wp2_with fail
  go_ret
  exact ⟨ret_bool HZ.out.symm, hb0⟩
def idxP (t : Int) : List Sg → Nat → Int
  | [], _ => -1
  | r :: rs, k => if r.2.contains t = true then (k : Int) else idxP t rs (k + 1)
theorem idxP_step {t : Int} {rs : List Sg} {k : Nat} {r : Sg} (h : rs[k]? = some r) : idxP t (rs.drop k) k = if r.2.contains t = true then (k : Int) else idxP t (rs.drop (k + 1)) (k + 1) := by
  obtain ⟨h1, h2⟩ := List.getElem?_eq_some_iff.1 h
  rw [List.drop_eq_getElem_cons h1, h2]; rfl
theorem idxP_has (t : Int) : ∀ (rs : List Sg) (k : Nat), decide (idxP t rs k ≥ 0) = passB rs t
  | [], k => by simp [idxP, passB]
  | r :: rs, k => by
    have ih := idxP_has t rs (k + 1)
    unfold idxP
    unfold passB at ih ⊢
    rw [List.any_cons]
    cases h : r.2.contains t
    · simpa using ih
    · simp
set_option maxHeartbeats 3200000 in
set_option maxRecDepth 100000 in
theorem at_IndexF (v : Value) (p : List Sg) (tb : Nat) (t : Int) (w : World) (h : PathAt w v p) (ht : w.cell? ⟨tb, 0, none⟩ = some (.int .i64 t)) :
    Calls Try.prog 62 #[v, .func (.func 35) #[] #[.pointer (some ⟨tb, 0, none⟩)]] w fun e w' => e = .returned (.int .i64 (idxP t p 0)) ∧ Below w.heap.size w w' := by
  obtain ⟨sa, cap, rfl, hlc, hcm, hV⟩ := h
  have HV := Lib.hid hV
  have HT := Lib.hid ht
  unfold maxLen at hcm
  clear hV ht
  go_enter Try.func62, Try.ntmps62
  go_wp2_with fail
  go_loopw [8] (fun i wr => ∃ k : Nat, k ≤ p.length ∧ i = .int .i64 k ∧ Hid (idxP t p 0 = idxP t (p.drop k) k) ∧ Hid (Below w.heap.size w wr)) (fun i _ => p.length - (intOf i).toNat)
  case atStart => exact ⟨0, by omega, rfl, Lib.hid rfl, Lib.hid (Below.refl _ _)⟩
  case round =>
    obtain ⟨k, hk, rfl, E, B⟩ := hrel
    by_cases hlt : k < p.length
    · obtain ⟨r, hr⟩ : ∃ r, p[k]? = some r := ⟨_, List.getElem?_eq_getElem hlt⟩
      obtain ⟨b, off, hsa, hP⟩ := HV.out (by omega)
      subst hsa
      obtain ⟨cs, _, ⟨u, rfl, hu⟩, hc⟩ := hP k r hr
      have x0 := hc 0 _ rfl
      have x1 := hc 1 _ rfl
      simp only [Nat.add_zero] at x0
      have x0 := (B.out.cell (size_lt x0)).trans x0
      have x1 := (B.out.cell (size_lt x1)).trans x1
      have t0 := Lib.hid ((B.out.cell (size_lt HT.out)).trans HT.out)
      have P1 := Lib.hid (at_pass1 r.1 u r.2 tb t wr (hu.below B.out) t0.out)
      obtain ⟨su, cu, rfl, -⟩ := hu
      have E2 : Hid (idxP t p 0 = if r.2.contains t = true then (k : Int) else idxP t (p.drop (k + 1)) (k + 1)) := Lib.hid (by rw [E.out, idxP_step hr])
      have j0 : (0 : Int) ≤ (k : Int) := by omega
      have j1 : (k : Int) < (p.length : Int) := by omega
      clear hP hc hr E t0
      generalize hz : r.2.contains t = z at P1 E2
      go_wp2_with fail
      refine P1.out.mono ?_
      rintro e w2 ⟨rfl, hb2⟩
      have B2 := Lib.hid (below_on B.out hb2)
      clear hb2 B x0 x1 P1 hz
      cases z
      · have E3 : Hid (idxP t p 0 = idxP t (p.drop (k + 1)) (k + 1)) := Lib.hid (by rw [E2.out, if_neg (by simp)])
        clear E2
        go_wp2_with fail
        exact ⟨⟨k + 1, by omega, by go_num, E3, B2⟩, by simp [intOf]; omega⟩
      · have E3 : Hid (idxP t p 0 = (k : Int)) := Lib.hid (by rw [E2.out, if_pos rfl])
        clear E2
        go_wp2_with fail
        go_ret
        exact ⟨ret_int E3.out.symm, B2.out⟩
    · obtain rfl : p.length = k := by omega
      have E3 : Hid (idxP t p 0 = -1) := Lib.hid (by rw [E.out, List.drop_length]; rfl)
      clear E
      go_wp2_with fail
      go_ret
      exact ⟨ret_int E3.out.symm, B.out⟩
theorem at_ContainsF (v : Value) (p : List Sg) (tb : Nat) (t : Int) (w : World) (h : PathAt w v p) (ht : w.cell? ⟨tb, 0, none⟩ = some (.int .i64 t)) :
    Calls Try.prog 34 #[v, .func (.func 35) #[] #[.pointer (some ⟨tb, 0, none⟩)]] w fun e w' => e = .returned (.bool (passB p t)) ∧ Below w.heap.size w w' := by
  have RI := Lib.hid (at_IndexF v p tb t w h ht)
  have EQ := Lib.hid (idxP_has t p 0)
  generalize idxP t p 0 = n at RI EQ
  clear h ht
  go_enter Try.func34, Try.ntmps34
  go_wp2_with fail
  refine RI.out.mono ?_
  rintro e w1 ⟨rfl, hb⟩
  go_wp2_with fail
  go_ret
  exact ⟨ret_bool EQ.out, hb⟩
set_option maxHeartbeats 1600000 in
set_option maxRecDepth 100000 in
theorem at_Passes (a : At) (vp vc vo : Value) (t : Int) (w : World) (hP : PathAt w vp a.path) : Calls Try.prog 13 #[.agg (atV a vp vc vo).toArray, .int .i64 t] w fun e w' => e = .returned (.bool (passB a.path t)) ∧ Below w.heap.size w w' := by
  show Calls Try.prog 13 #[.agg #[.int .i64 a.has, .int .i64 a.origin, vp, .int .u32 a.hop, .int .i64 a.med, .int .i64 a.loc, .int .i64 a.aggrAs, .int .u32 a.aggrId, vc, vo], .int .i64 t] w _
  have HP := Lib.hid hP
  obtain ⟨sa, cap, rfl, -⟩ := hP
  go_enter Try.func13, Try.ntmps13
  go_upto_region 1 with (fail)
  obtain ⟨W0, hW0, q0, q1, hb0⟩ := boxTwo w #[.int .i64 a.has, .int .i64 a.origin, .slice sa a.path.length cap, .int .u32 a.hop, .int .i64 a.med, .int .i64 a.loc, .int .i64 a.aggrAs, .int .u32 a.aggrId, vc, vo] 35 #[.int .i64 t] 3
  rw [← hW0]
  clear hW0
  have c2 : W0.cell? ⟨w.heap.size, 2, none⟩ = some (.slice sa a.path.length cap) := row_cell q0 2
  have t0 : W0.cell? ⟨w.heap.size + 1, 0, none⟩ = some (.int .i64 t) := row_cell q1 0
  have CF := Lib.hid (at_ContainsF _ a.path (w.heap.size + 1) t W0 (HP.out.below hb0) t0)
  clear q0 q1
  go_wp2_with fail
  refine CF.out.mono ?_
  rintro e w1 ⟨rfl, hb⟩
  have hb2 := Lib.hid (below_on hb0 hb)
  clear hb c2 t0 hb0 CF
  go_wp2_with fail
  go_ret
  exact ⟨rfl, hb2.out⟩
end Go.Proofs.Ytadlecnlgkhneaa
