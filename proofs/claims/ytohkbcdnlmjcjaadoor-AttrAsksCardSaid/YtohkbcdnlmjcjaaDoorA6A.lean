/-
  ATTRIBUTES: Missing; the law's own 'big'.
-/
import Derived.Test.YtohkbcdnlmjcjaaDoorAtK
import Derived.Test.YtohkbcdnlmjcjaaDoorBits
namespace Go.Proofs.YtohkbcdnlmjcjaaDoor
open Go.RowKit

def missN (has : Int) : Nat := if isB has 1 = false then 1 else if isB has 2 = false then 2 else if isB has 3 = false then 3 else 0
set_option maxRecDepth 100000 in
theorem miss_at {has : Int} {k : Nat} (h1 : 1 ≤ k) (h3 : k ≤ 3) (h : ∀ j : Nat, 1 ≤ j → j < k → isB has j = true) (hk : isB has k = false) : missN has = k := by
  unfold missN
  have : k = 1 ∨ k = 2 ∨ k = 3 := by omega
  rcases this with rfl | rfl | rfl
  · have hk : isB has 1 = false := hk
    rw [if_pos hk]
  · have hk : isB has 2 = false := hk
    have a : isB has 1 = true := h 1 (by omega) (by omega)
    rw [if_neg (by rw [a]; simp), if_pos hk]
  · have hk : isB has 3 = false := hk
    have a : isB has 1 = true := h 1 (by omega) (by omega)
    have b : isB has 2 = true := h 2 (by omega) (by omega)
    rw [if_neg (by rw [a]; simp), if_neg (by rw [b]; simp), if_pos hk]
set_option maxRecDepth 100000 in
theorem miss_none {has : Int} (h : ∀ j : Nat, 1 ≤ j → j < 4 → isB has j = true) : missN has = 0 := by
  have a : isB has 1 = true := h 1 (by omega) (by omega)
  have b : isB has 2 = true := h 2 (by omega) (by omega)
  have c : isB has 3 = true := h 3 (by omega) (by omega)
  unfold missN
  rw [a, b, c]
  rfl
set_option maxRecDepth 100000 in
theorem at10 {W : World} {b : Nat} {c0 c1 c2 c3 c4 c5 c6 c7 c8 c9 : Value} {T : TypeId} (q : W.heap[b]? = some (.cells #[c0, c1, c2, c3, c4, c5, c6, c7, c8, c9] T (0, 0))) :
    W.cell? ⟨b, 0, none⟩ = some c0 ∧ W.cell? ⟨b, 1, none⟩ = some c1 ∧ W.cell? ⟨b, 2, none⟩ = some c2 ∧ W.cell? ⟨b, 3, none⟩ = some c3 ∧ W.cell? ⟨b, 4, none⟩ = some c4 ∧ W.cell? ⟨b, 5, none⟩ = some c5 ∧ W.cell? ⟨b, 6, none⟩ = some c6 ∧ W.cell? ⟨b, 7, none⟩ = some c7 ∧ W.cell? ⟨b, 8, none⟩ = some c8 ∧ W.cell? ⟨b, 9, none⟩ = some c9 :=
  ⟨row_cell q 0, row_cell q 1, row_cell q 2, row_cell q 3, row_cell q 4, row_cell q 5, row_cell q 6, row_cell q 7, row_cell q 8, row_cell q 9⟩
set_option maxHeartbeats 3200000 in
set_option maxRecDepth 100000 in
theorem at_Missing (a : At) (vp vc vo : Value) (w : World) (hA : AtL w a vp vc vo) : Calls Tryd.prog 12 #[.agg #[.int .i64 a.has, .int .i64 a.origin, vp, .int .u32 a.hop, .int .i64 a.med, .int .i64 a.loc, .int .i64 a.aggrAs, .int .u32 a.aggrId, vc, vo]] w fun e w' => e = .returned (.int .i64 (missN a.has)) ∧ Below w.heap.size w w' := by
  obtain ⟨⟨sp, cp, rfl, _⟩, ⟨sc, cc, rfl, _⟩, ⟨so, co, rfl, _⟩⟩ := hA
  have IS := Lib.hid (fun t W => at_Is a.has (.int .i64 a.origin) (.slice sp a.path.length cp) (.int .u32 a.hop) (.int .i64 a.med) (.int .i64 a.loc) (.int .i64 a.aggrAs) (.int .u32 a.aggrId) (.slice sc a.comms.length cc) (.slice so a.others.length co) t W)
  go_enter Tryd.func12, Tryd.ntmps12
  go_upto_region 1 with (fail)
  obtain ⟨W0, hW0, q, hb0, _⟩ := boxA w (.int .i64 a.has) (.int .i64 a.origin) (.slice sp a.path.length cp) (.int .u32 a.hop) (.int .i64 a.med) (.int .i64 a.loc) (.int .i64 a.aggrAs) (.int .u32 a.aggrId) (.slice sc a.comms.length cc) (.slice so a.others.length co)
  rw [← hW0]
  clear hW0
  have Q := Lib.hid q
  have B := Lib.hid hb0
  clear q hb0
  go_wp2_with fail
  go_loopw [3] (fun t wr => ∃ k : Nat, 1 ≤ k ∧ k ≤ 4 ∧ t = .int .i64 k ∧ Hid (∀ j : Nat, 1 ≤ j → j < k → isB a.has j = true) ∧ Hid (wr.heap[w.heap.size]? = some (.cells #[.int .i64 a.has, .int .i64 a.origin, .slice sp a.path.length cp, .int .u32 a.hop, .int .i64 a.med, .int .i64 a.loc, .int .i64 a.aggrAs, .int .u32 a.aggrId, .slice sc a.comms.length cc, .slice so a.others.length co] 28 (0, 0))) ∧ Hid (Below w.heap.size w wr)) (fun t _ => 4 - (intOf t).toNat)
  case atStart => exact ⟨1, by omega, by omega, rfl, Lib.hid (fun j h1 h2 => by omega), Q, B⟩
  case round =>
    clear Q B
    obtain ⟨k, hk1, hk4, rfl, L, Q, B⟩ := hrel
    by_cases hlt : k ≤ 3
    · obtain ⟨y0, y1, y2, y3, y4, y5, y6, y7, y8, y9⟩ := at10 Q.out
      obtain ⟨z, hz⟩ : ∃ z, isB a.has (k : Int) = z := ⟨_, rfl⟩
      have IK := Lib.hid (IS.out (k : Int) wr)
      rw [hz] at IK
      have HZ := Lib.hid hz
      clear hz
      have k0 : (k : Int) ≤ 3 := by omega
      go_wp2_with fail
      refine IK.out.mono ?_
      rintro e w1 ⟨rfl, hb1⟩
      have Q1 := Lib.hid ((hb1.block _ (row_lt Q.out)).trans Q.out)
      have B1 := Lib.hid (below_on B.out hb1)
      clear hb1 Q B IK y0 y1 y2 y3 y4 y5 y6 y7 y8 y9
      cases z
      · have M := Lib.hid (miss_at hk1 hlt L.out HZ.out)
        go_wp2_with fail
        go_ret
        exact ⟨ret_int (by rw [M.out]), B1.out⟩
      · have L2 : Hid (∀ j : Nat, 1 ≤ j → j < k + 1 → isB a.has j = true) := Lib.hid (fun j h1 h2 => by
          by_cases e : j = k
          · subst e; exact HZ.out
          · exact L.out j h1 (by omega))
        clear L
        go_wp2_with fail
        exact ⟨⟨k + 1, by omega, by omega, by go_num, L2, Q1, B1⟩, by simp [intOf]; omega⟩
    · obtain rfl : k = 4 := by omega
      have M := Lib.hid (miss_none L.out)
      clear L Q
      go_wp2_with fail
      go_ret
      exact ⟨ret_int (by rw [M.out]; rfl), B.out⟩
structure Small (a : At) : Prop where
  path : a.path.length ≤ 20
  comms : a.comms.length ≤ 300
  others : a.others.length ≤ 20
  segs : ∀ s ∈ a.path, s.2.length ≤ 300
  vals : ∀ o ∈ a.others, o.2.length ≤ 5000
set_option maxRecDepth 100000 in
theorem box_two (w : World) (c0 c1 : Value) (T : TypeId) : ∃ W0, W0 = w.alloc (.cells #[c0, c1] T) ∧ W0.cell? ⟨w.heap.size, 1, none⟩ = some c1 ∧ Below w.heap.size w W0 := by
  refine ⟨_, rfl, ?_, (Below.refl _ _).alloc (Nat.le_refl _) _⟩
  rw [row_cell (heap_alloc_new w _)]; rfl
def BigPost (w : World) (a : At) (e : Ending) (w' : World) : Prop := ∃ b, e = .returned (.bool b) ∧ (b = false → Small a) ∧ Below w.heap.size w w'
set_option maxHeartbeats 6400000 in
set_option maxRecDepth 100000 in
theorem law_big (a : At) (vp vc vo : Value) (w : World) (hA : AtL w a vp vc vo) : Calls Tryd.prog 8 #[.agg #[.int .i64 a.has, .int .i64 a.origin, vp, .int .u32 a.hop, .int .i64 a.med, .int .i64 a.loc, .int .i64 a.aggrAs, .int .u32 a.aggrId, vc, vo]] w (BigPost w a) := by
  obtain ⟨⟨sp, cp, rfl, _, hcp, hP⟩, ⟨sc, cc, rfl, _⟩, ⟨so, co, rfl, _, hco, hO⟩⟩ := hA
  have HP := Lib.hid hP
  have HO := Lib.hid hO
  clear hP hO
  by_cases hb : a.path.length ≤ 20 ∧ a.comms.length ≤ 300 ∧ a.others.length ≤ 20
  · obtain ⟨l1, l2, l3⟩ := hb
    go_enter Tryd.func8, Tryd.ntmps8
    go_upto_region 1 with (fail)
    obtain ⟨W0, hW0, q, hb0, _⟩ := boxA w (.int .i64 a.has) (.int .i64 a.origin) (.slice sp a.path.length cp) (.int .u32 a.hop) (.int .i64 a.med) (.int .i64 a.loc) (.int .i64 a.aggrAs) (.int .u32 a.aggrId) (.slice sc a.comms.length cc) (.slice so a.others.length co)
    rw [← hW0]
    clear hW0
    obtain ⟨y0, y1, y2, y3, y4, y5, y6, y7, y8, y9⟩ := at10 q
    have Q := Lib.hid q
    have B := Lib.hid hb0
    clear q hb0
    have e1 : ¬ ((a.path.length : Int) > 20) := by omega
    have e2 : ¬ ((a.comms.length : Int) > 300) := by omega
    have e3 : ¬ ((a.others.length : Int) > 20) := by omega
    go_wp2_with fail
    clear y0 y1 y2 y3 y4 y5 y6 y7 y8 y9
    go_loopw [26] (fun t wr => ∃ k : Nat, k ≤ a.path.length ∧ t = .int .i64 k ∧ Hid (∀ (i : Nat) (s : Sg), i < k → a.path[i]? = some s → s.2.length ≤ 300) ∧ Hid (wr.heap[w.heap.size]? = some (.cells #[.int .i64 a.has, .int .i64 a.origin, .slice sp a.path.length cp, .int .u32 a.hop, .int .i64 a.med, .int .i64 a.loc, .int .i64 a.aggrAs, .int .u32 a.aggrId, .slice sc a.comms.length cc, .slice so a.others.length co] 28 (0, 0))) ∧ Hid (Below w.heap.size w wr)) (fun t _ => a.path.length - (intOf t).toNat)
    case atStart => exact ⟨0, by omega, rfl, Lib.hid (fun i s h => by omega), Q, B⟩
    case round =>
      clear Q B
      obtain ⟨k, hk, rfl, L, Q, B⟩ := hrel
      by_cases hlt : k < a.path.length
      · obtain ⟨s, hs⟩ : ∃ s, a.path[k]? = some s := ⟨_, List.getElem?_eq_getElem hlt⟩
        obtain ⟨b, off, hsa, hP⟩ := HP.out (by omega)
        subst hsa
        obtain ⟨cs, _, ⟨u, rfl, hu⟩, hc⟩ := hP k s hs
        have c0 := hc 0 _ rfl
        have c1 := hc 1 _ rfl
        simp only [Nat.add_zero] at c0
        have c0 := (B.out.cell (size_lt c0)).trans c0
        have c1 := (B.out.cell (size_lt c1)).trans c1
        obtain ⟨su, cu, rfl, -⟩ := hu
        have j0 : (0 : Int) ≤ (k : Int) := by omega
        have j1 : (k : Int) < (a.path.length : Int) := by omega
        have HS := Lib.hid hs
        clear hs hP hc
        go_upto_region 6 with (fail)
        obtain ⟨W1, hW1, x1, hb1⟩ := box_two wr (.bool s.1) (.slice su s.2.length cu) 32
        rw [← hW1]
        clear hW1
        have Q1 := Lib.hid ((hb1.block _ (row_lt Q.out)).trans Q.out)
        have B1 := Lib.hid (below_on B.out hb1)
        clear Q B hb1 c0 c1
        by_cases h3 : s.2.length ≤ 300
        · have e4 : ¬ ((s.2.length : Int) > 300) := by omega
          have L2 : Hid (∀ (i : Nat) (s : Sg), i < k + 1 → a.path[i]? = some s → s.2.length ≤ 300) := Lib.hid (fun i s' hi hs' => by
            by_cases e : i = k
            · subst e
              rw [HS.out] at hs'
              cases hs'
              exact h3
            · exact L.out i s' (by omega) hs')
          clear L
          go_wp2_with fail
          exact ⟨⟨k + 1, by omega, by go_num, L2, Q1, B1⟩, by simp [intOf]; omega⟩
        · have e4 : ((s.2.length : Int) > 300) := by omega
          go_wp2_with fail
          go_ret
          exact ⟨_, rfl, (fun h => by cases h), B1.out⟩
      · obtain rfl : k = a.path.length := by omega
        have LP : Hid (∀ s ∈ a.path, s.2.length ≤ 300) := Lib.hid (fun s hs => by
          obtain ⟨i, hi⟩ := List.getElem?_of_mem hs
          exact L.out i s (List.getElem?_eq_some_iff.1 hi).1 hi)
        clear L
        obtain ⟨y0, y1, y2, y3, y4, y5, y6, y7, y8, y9⟩ := at10 Q.out
        go_wp2_with fail
        clear y0 y1 y2 y3 y4 y5 y6 y7 y8 y9
        go_loopw [38] (fun t wr => ∃ k : Nat, k ≤ a.others.length ∧ t = .int .i64 k ∧ Hid (∀ (i : Nat) (s : Oth), i < k → a.others[i]? = some s → s.2.length ≤ 5000) ∧ Hid (Below w.heap.size w wr)) (fun t _ => a.others.length - (intOf t).toNat)
        case atStart => exact ⟨0, by omega, rfl, Lib.hid (fun i s h => by omega), B⟩
        case round =>
          clear Q B
          obtain ⟨k, hk, rfl, L, B⟩ := hrel
          by_cases hlt : k < a.others.length
          · obtain ⟨s, hs⟩ : ∃ s, a.others[k]? = some s := ⟨_, List.getElem?_eq_getElem hlt⟩
            obtain ⟨b, off, hsa, hP⟩ := HO.out (by omega)
            subst hsa
            obtain ⟨cs, _, ⟨u, rfl, _, hu⟩, hc⟩ := hP k s hs
            have c0 := hc 0 _ rfl
            have c1 := hc 1 _ rfl
            simp only [Nat.add_zero] at c0
            have c0 := (B.out.cell (size_lt c0)).trans c0
            have c1 := (B.out.cell (size_lt c1)).trans c1
            obtain ⟨su, cu, rfl, -⟩ := hu
            have j0 : (0 : Int) ≤ (k : Int) := by omega
            have j1 : (k : Int) < (a.others.length : Int) := by omega
            have HS := Lib.hid hs
            clear hs hP hc
            go_upto_region 12 with (fail)
            obtain ⟨W1, hW1, x1, hb1⟩ := box_two wr (.int .i64 s.1) (.slice su s.2.length cu) 61
            rw [← hW1]
            clear hW1
            have B1 := Lib.hid (below_on B.out hb1)
            clear B hb1 c0 c1
            by_cases h3 : s.2.length ≤ 5000
            · have e4 : ¬ ((s.2.length : Int) > 5000) := by omega
              have L2 : Hid (∀ (i : Nat) (s : Oth), i < k + 1 → a.others[i]? = some s → s.2.length ≤ 5000) := Lib.hid (fun i s' hi hs' => by
                by_cases e : i = k
                · subst e
                  rw [HS.out] at hs'
                  cases hs'
                  exact h3
                · exact L.out i s' (by omega) hs')
              clear L
              go_wp2_with fail
              exact ⟨⟨k + 1, by omega, by go_num, L2, B1⟩, by simp [intOf]; omega⟩
            · have e4 : ((s.2.length : Int) > 5000) := by omega
              go_wp2_with fail
              go_ret
              exact ⟨_, rfl, (fun h => by cases h), B1.out⟩
          · obtain rfl : k = a.others.length := by omega
            have SM : Hid (Small a) := Lib.hid ⟨l1, l2, l3, LP.out, fun s hs => by
              obtain ⟨i, hi⟩ := List.getElem?_of_mem hs
              exact L.out i s (List.getElem?_eq_some_iff.1 hi).1 hi⟩
            clear L
            go_wp2_with fail
            go_ret
            exact ⟨_, rfl, fun _ => SM.out, B.out⟩
  · have hb2 : ((a.path.length : Int) > 20) ∨ (¬ ((a.path.length : Int) > 20) ∧ ((a.comms.length : Int) > 300)) ∨ (¬ ((a.path.length : Int) > 20) ∧ ¬ ((a.comms.length : Int) > 300) ∧ ((a.others.length : Int) > 20)) := by omega
    clear hb
    go_enter Tryd.func8, Tryd.ntmps8
    go_upto_region 1 with (fail)
    obtain ⟨W0, hW0, q, hb0, _⟩ := boxA w (.int .i64 a.has) (.int .i64 a.origin) (.slice sp a.path.length cp) (.int .u32 a.hop) (.int .i64 a.med) (.int .i64 a.loc) (.int .i64 a.aggrAs) (.int .u32 a.aggrId) (.slice sc a.comms.length cc) (.slice so a.others.length co)
    rw [← hW0]
    clear hW0
    obtain ⟨y0, y1, y2, y3, y4, y5, y6, y7, y8, y9⟩ := at10 q
    have B := Lib.hid hb0
    clear q hb0
    rcases hb2 with e1 | ⟨e1, e2⟩ | ⟨e1, e2, e3⟩
    · go_wp2_with fail
      go_ret
      exact ⟨_, rfl, (fun h => by cases h), B.out⟩
    · go_wp2_with fail
      go_ret
      exact ⟨_, rfl, (fun h => by cases h), B.out⟩
    · go_wp2_with fail
      go_ret
      exact ⟨_, rfl, (fun h => by cases h), B.out⟩
end Go.Proofs.YtohkbcdnlmjcjaaDoor
