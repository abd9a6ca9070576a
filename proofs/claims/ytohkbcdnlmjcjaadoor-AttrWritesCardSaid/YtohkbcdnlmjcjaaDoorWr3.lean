/- Texts of one proof, one behind another. -/
import Derived.Test.YtohkbcdnlmjcjaaDoorWr2
/-
  ATTRIBUTES: Missing; the law's own 'big'.
-/
namespace Go.Proofs.YtohkbcdnlmjcjaaDoor
open Go.RowKit

def missN (has : Int) : Nat := if isB has 1 = false then 1 else if isB has 2 = false then 2 else if isB has 3 = false then 3 else 0
set_option maxRecDepth 100000 in
theorem miss_at {has : Int} {k : Nat} (h1 : 1 ≤ k) (h3 : k ≤ 3) (h : ∀ j : Nat, 1 ≤ j → j < k → isB has j = true) (hk : isB has k = false) : missN has = k := by
  unfold missN
  have : k = 1 ∨ k = 2 ∨ k = 3 := by omega
  rcases this with rfl | rfl | rfl
  · have hk : isB has 1 = false := hk
    rw [if_pos hk]
  · have hk : isB has 2 = false := hk
    have a : isB has 1 = true := h 1 (by omega) (by omega)
    rw [if_neg (by rw [a]; simp), if_pos hk]
  · have hk : isB has 3 = false := hk
    have a : isB has 1 = true := h 1 (by omega) (by omega)
    have b : isB has 2 = true := h 2 (by omega) (by omega)
    rw [if_neg (by rw [a]; simp), if_neg (by rw [b]; simp), if_pos hk]
set_option maxRecDepth 100000 in
theorem miss_none {has : Int} (h : ∀ j : Nat, 1 ≤ j → j < 4 → isB has j = true) : missN has = 0 := by
  have a : isB has 1 = true := h 1 (by omega) (by omega)
  have b : isB has 2 = true := h 2 (by omega) (by omega)
  have c : isB has 3 = true := h 3 (by omega) (by omega)
  unfold missN
  rw [a, b, c]
  rfl
set_option maxRecDepth 100000 in
theorem at10 {W : World} {b : Nat} {c0 c1 c2 c3 c4 c5 c6 c7 c8 c9 : Value} {T : TypeId} (q : W.heap[b]? = some (.cells #[c0, c1, c2, c3, c4, c5, c6, c7, c8, c9] T (0, 0))) :
    W.cell? ⟨b, 0, none⟩ = some c0 ∧ W.cell? ⟨b, 1, none⟩ = some c1 ∧ W.cell? ⟨b, 2, none⟩ = some c2 ∧ W.cell? ⟨b, 3, none⟩ = some c3 ∧ W.cell? ⟨b, 4, none⟩ = some c4 ∧ W.cell? ⟨b, 5, none⟩ = some c5 ∧ W.cell? ⟨b, 6, none⟩ = some c6 ∧ W.cell? ⟨b, 7, none⟩ = some c7 ∧ W.cell? ⟨b, 8, none⟩ = some c8 ∧ W.cell? ⟨b, 9, none⟩ = some c9 :=
  ⟨row_cell q 0, row_cell q 1, row_cell q 2, row_cell q 3, row_cell q 4, row_cell q 5, row_cell q 6, row_cell q 7, row_cell q 8, row_cell q 9⟩
set_option maxHeartbeats 3200000 in
set_option maxRecDepth 100000 in
theorem at_Missing (a : At) (vp vc vo : Value) (w : World) (hA : AtL w a vp vc vo) : Calls Tryd.prog 12 #[.agg #[.int .i64 a.has, .int .i64 a.origin, vp, .int .u32 a.hop, .int .i64 a.med, .int .i64 a.loc, .int .i64 a.aggrAs, .int .u32 a.aggrId, vc, vo]] w fun e w' => e = .returned (.int .i64 (missN a.has)) ∧ Below w.heap.size w w' := by
  obtain ⟨⟨sp, cp, rfl, _⟩, ⟨sc, cc, rfl, _⟩, ⟨so, co, rfl, _⟩⟩ := hA
  have IS := Lib.hid (fun t W => at_Is a.has (.int .i64 a.origin) (.slice sp a.path.length cp) (.int .u32 a.hop) (.int .i64 a.med) (.int .i64 a.loc) (.int .i64 a.aggrAs) (.int .u32 a.aggrId) (.slice sc a.comms.length cc) (.slice so a.others.length co) t W)
  go_enter Tryd.func12, Tryd.ntmps12
  go_upto_region 1 with (fail)
  obtain ⟨W0, hW0, q, hb0, _⟩ := boxA w (.int .i64 a.has) (.int .i64 a.origin) (.slice sp a.path.length cp) (.int .u32 a.hop) (.int .i64 a.med) (.int .i64 a.loc) (.int .i64 a.aggrAs) (.int .u32 a.aggrId) (.slice sc a.comms.length cc) (.slice so a.others.length co)
  rw [← hW0]
  clear hW0
  have Q := Lib.hid q
  have B := Lib.hid hb0
  clear q hb0
  go_wp2_with fail
  go_loopw [3] (fun t wr => ∃ k : Nat, 1 ≤ k ∧ k ≤ 4 ∧ t = .int .i64 k ∧ Hid (∀ j : Nat, 1 ≤ j → j < k → isB a.has j = true) ∧ Hid (wr.heap[w.heap.size]? = some (.cells #[.int .i64 a.has, .int .i64 a.origin, .slice sp a.path.length cp, .int .u32 a.hop, .int .i64 a.med, .int .i64 a.loc, .int .i64 a.aggrAs, .int .u32 a.aggrId, .slice sc a.comms.length cc, .slice so a.others.length co] 28 (0, 0))) ∧ Hid (Below w.heap.size w wr)) (fun t _ => 4 - (intOf t).toNat)
  case atStart => exact ⟨1, by omega, by omega, rfl, Lib.hid (fun j h1 h2 => by omega), Q, B⟩
  case round =>
    clear Q B
    obtain ⟨k, hk1, hk4, rfl, L, Q, B⟩ := hrel
    by_cases hlt : k ≤ 3
    · obtain ⟨y0, y1, y2, y3, y4, y5, y6, y7, y8, y9⟩ := at10 Q.out
      obtain ⟨z, hz⟩ : ∃ z, isB a.has (k : Int) = z := ⟨_, rfl⟩
      have IK := Lib.hid (IS.out (k : Int) wr)
      rw [hz] at IK
      have HZ := Lib.hid hz
      clear hz
      have k0 : (k : Int) ≤ 3 := by omega
      go_wp2_with fail
      refine IK.out.mono ?_
      rintro e w1 ⟨rfl, hb1⟩
      have Q1 := Lib.hid ((hb1.block _ (row_lt Q.out)).trans Q.out)
      have B1 := Lib.hid (below_on B.out hb1)
      clear hb1 Q B IK y0 y1 y2 y3 y4 y5 y6 y7 y8 y9
      cases z
      · have M := Lib.hid (miss_at hk1 hlt L.out HZ.out)
        go_wp2_with fail
        go_ret
        exact ⟨ret_int (by rw [M.out]), B1.out⟩
      · have L2 : Hid (∀ j : Nat, 1 ≤ j → j < k + 1 → isB a.has j = true) := Lib.hid (fun j h1 h2 => by
          by_cases e : j = k
          · subst e; exact HZ.out
          · exact L.out j h1 (by omega))
        clear L
        go_wp2_with fail
        exact ⟨⟨k + 1, by omega, by omega, by go_num, L2, Q1, B1⟩, by simp [intOf]; omega⟩
    · obtain rfl : k = 4 := by omega
      have M := Lib.hid (miss_none L.out)
      clear L Q
      go_wp2_with fail
      go_ret
      exact ⟨ret_int (by rw [M.out]; rfl), B.out⟩
structure Small (a : At) : Prop where
  path : a.path.length ≤ 20
  comms : a.comms.length ≤ 300
  others : a.others.length ≤ 20
  segs : ∀ s ∈ a.path, s.2.length ≤ 300
  vals : ∀ o ∈ a.others, o.2.length ≤ 5000
set_option maxRecDepth 100000 in
theorem box_two (w : World) (c0 c1 : Value) (T : TypeId) : ∃ W0, W0 = w.alloc (.cells #[c0, c1] T) ∧ W0.cell? ⟨w.heap.size, 1, none⟩ = some c1 ∧ Below w.heap.size w W0 := by
  refine ⟨_, rfl, ?_, (Below.refl _ _).alloc (Nat.le_refl _) _⟩
  rw [row_cell (heap_alloc_new w _)]; rfl
def BigPost (w : World) (a : At) (e : Ending) (w' : World) : Prop := ∃ b, e = .returned (.bool b) ∧ (b = false → Small a) ∧ Below w.heap.size w w'
set_option maxHeartbeats 6400000 in
set_option maxRecDepth 100000 in
theorem law_big (a : At) (vp vc vo : Value) (w : World) (hA : AtL w a vp vc vo) : Calls Tryd.prog 8 #[.agg #[.int .i64 a.has, .int .i64 a.origin, vp, .int .u32 a.hop, .int .i64 a.med, .int .i64 a.loc, .int .i64 a.aggrAs, .int .u32 a.aggrId, vc, vo]] w (BigPost w a) := by
  obtain ⟨⟨sp, cp, rfl, _, hcp, hP⟩, ⟨sc, cc, rfl, _⟩, ⟨so, co, rfl, _, hco, hO⟩⟩ := hA
  have HP := Lib.hid hP
  have HO := Lib.hid hO
  clear hP hO
  by_cases hb : a.path.length ≤ 20 ∧ a.comms.length ≤ 300 ∧ a.others.length ≤ 20
  · obtain ⟨l1, l2, l3⟩ := hb
    go_enter Tryd.func8, Tryd.ntmps8
    go_upto_region 1 with (fail)
    obtain ⟨W0, hW0, q, hb0, _⟩ := boxA w (.int .i64 a.has) (.int .i64 a.origin) (.slice sp a.path.length cp) (.int .u32 a.hop) (.int .i64 a.med) (.int .i64 a.loc) (.int .i64 a.aggrAs) (.int .u32 a.aggrId) (.slice sc a.comms.length cc) (.slice so a.others.length co)
    rw [← hW0]
    clear hW0
    obtain ⟨y0, y1, y2, y3, y4, y5, y6, y7, y8, y9⟩ := at10 q
    have Q := Lib.hid q
    have B := Lib.hid hb0
    clear q hb0
    have e1 : ¬ ((a.path.length : Int) > 20) := by omega
    have e2 : ¬ ((a.comms.length : Int) > 300) := by omega
    have e3 : ¬ ((a.others.length : Int) > 20) := by omega
    go_wp2_with fail
    clear y0 y1 y2 y3 y4 y5 y6 y7 y8 y9
    go_loopw [26] (fun t wr => ∃ k : Nat, k ≤ a.path.length ∧ t = .int .i64 k ∧ Hid (∀ (i : Nat) (s : Sg), i < k → a.path[i]? = some s → s.2.length ≤ 300) ∧ Hid (wr.heap[w.heap.size]? = some (.cells #[.int .i64 a.has, .int .i64 a.origin, .slice sp a.path.length cp, .int .u32 a.hop, .int .i64 a.med, .int .i64 a.loc, .int .i64 a.aggrAs, .int .u32 a.aggrId, .slice sc a.comms.length cc, .slice so a.others.length co] 28 (0, 0))) ∧ Hid (Below w.heap.size w wr)) (fun t _ => a.path.length - (intOf t).toNat)
    case atStart => exact ⟨0, by omega, rfl, Lib.hid (fun i s h => by omega), Q, B⟩
    case round =>
      clear Q B
      obtain ⟨k, hk, rfl, L, Q, B⟩ := hrel
      by_cases hlt : k < a.path.length
      · obtain ⟨s, hs⟩ : ∃ s, a.path[k]? = some s := ⟨_, List.getElem?_eq_getElem hlt⟩
        obtain ⟨b, off, hsa, hP⟩ := HP.out (by omega)
        subst hsa
        obtain ⟨cs, _, ⟨u, rfl, hu⟩, hc⟩ := hP k s hs
        have c0 := hc 0 _ rfl
        have c1 := hc 1 _ rfl
        simp only [Nat.add_zero] at c0
        have c0 := (B.out.cell (size_lt c0)).trans c0
        have c1 := (B.out.cell (size_lt c1)).trans c1
        obtain ⟨su, cu, rfl, -⟩ := hu
        have j0 : (0 : Int) ≤ (k : Int) := by omega
        have j1 : (k : Int) < (a.path.length : Int) := by omega
        have HS := Lib.hid hs
        clear hs hP hc
        go_upto_region 6 with (fail)
        obtain ⟨W1, hW1, x1, hb1⟩ := box_two wr (.bool s.1) (.slice su s.2.length cu) 32
        rw [← hW1]
        clear hW1
        have Q1 := Lib.hid ((hb1.block _ (row_lt Q.out)).trans Q.out)
        have B1 := Lib.hid (below_on B.out hb1)
        clear Q B hb1 c0 c1
        by_cases h3 : s.2.length ≤ 300
        · have e4 : ¬ ((s.2.length : Int) > 300) := by omega
          have L2 : Hid (∀ (i : Nat) (s : Sg), i < k + 1 → a.path[i]? = some s → s.2.length ≤ 300) := Lib.hid (fun i s' hi hs' => by
            by_cases e : i = k
            · subst e
              rw [HS.out] at hs'
              cases hs'
              exact h3
            · exact L.out i s' (by omega) hs')
          clear L
          go_wp2_with fail
          exact ⟨⟨k + 1, by omega, by go_num, L2, Q1, B1⟩, by simp [intOf]; omega⟩
        · have e4 : ((s.2.length : Int) > 300) := by omega
          go_wp2_with fail
          go_ret
          exact ⟨_, rfl, (fun h => by cases h), B1.out⟩
      · obtain rfl : k = a.path.length := by omega
        have LP : Hid (∀ s ∈ a.path, s.2.length ≤ 300) := Lib.hid (fun s hs => by
          obtain ⟨i, hi⟩ := List.getElem?_of_mem hs
          exact L.out i s (List.getElem?_eq_some_iff.1 hi).1 hi)
        clear L
        obtain ⟨y0, y1, y2, y3, y4, y5, y6, y7, y8, y9⟩ := at10 Q.out
        go_wp2_with fail
        clear y0 y1 y2 y3 y4 y5 y6 y7 y8 y9
        go_loopw [38] (fun t wr => ∃ k : Nat, k ≤ a.others.length ∧ t = .int .i64 k ∧ Hid (∀ (i : Nat) (s : Oth), i < k → a.others[i]? = some s → s.2.length ≤ 5000) ∧ Hid (Below w.heap.size w wr)) (fun t _ => a.others.length - (intOf t).toNat)
        case atStart => exact ⟨0, by omega, rfl, Lib.hid (fun i s h => by omega), B⟩
        case round =>
          clear Q B
          obtain ⟨k, hk, rfl, L, B⟩ := hrel
          by_cases hlt : k < a.others.length
          · obtain ⟨s, hs⟩ : ∃ s, a.others[k]? = some s := ⟨_, List.getElem?_eq_getElem hlt⟩
            obtain ⟨b, off, hsa, hP⟩ := HO.out (by omega)
            subst hsa
            obtain ⟨cs, _, ⟨u, rfl, _, hu⟩, hc⟩ := hP k s hs
            have c0 := hc 0 _ rfl
            have c1 := hc 1 _ rfl
            simp only [Nat.add_zero] at c0
            have c0 := (B.out.cell (size_lt c0)).trans c0
            have c1 := (B.out.cell (size_lt c1)).trans c1
            obtain ⟨su, cu, rfl, -⟩ := hu
            have j0 : (0 : Int) ≤ (k : Int) := by omega
            have j1 : (k : Int) < (a.others.length : Int) := by omega
            have HS := Lib.hid hs
            clear hs hP hc
            go_upto_region 12 with (fail)
            obtain ⟨W1, hW1, x1, hb1⟩ := box_two wr (.int .i64 s.1) (.slice su s.2.length cu) 61
            rw [← hW1]
            clear hW1
            have B1 := Lib.hid (below_on B.out hb1)
            clear B hb1 c0 c1
            by_cases h3 : s.2.length ≤ 5000
            · have e4 : ¬ ((s.2.length : Int) > 5000) := by omega
              have L2 : Hid (∀ (i : Nat) (s : Oth), i < k + 1 → a.others[i]? = some s → s.2.length ≤ 5000) := Lib.hid (fun i s' hi hs' => by
                by_cases e : i = k
                · subst e
                  rw [HS.out] at hs'
                  cases hs'
                  exact h3
                · exact L.out i s' (by omega) hs')
              clear L
              go_wp2_with fail
              exact ⟨⟨k + 1, by omega, by go_num, L2, B1⟩, by simp [intOf]; omega⟩
            · have e4 : ((s.2.length : Int) > 5000) := by omega
              go_wp2_with fail
              go_ret
              exact ⟨_, rfl, (fun h => by cases h), B1.out⟩
          · obtain rfl : k = a.others.length := by omega
            have SM : Hid (Small a) := Lib.hid ⟨l1, l2, l3, LP.out, fun s hs => by
              obtain ⟨i, hi⟩ := List.getElem?_of_mem hs
              exact L.out i s (List.getElem?_eq_some_iff.1 hi).1 hi⟩
            clear L
            go_wp2_with fail
            go_ret
            exact ⟨_, rfl, fun _ => SM.out, B.out⟩
  · have hb2 : ((a.path.length : Int) > 20) ∨ (¬ ((a.path.length : Int) > 20) ∧ ((a.comms.length : Int) > 300)) ∨ (¬ ((a.path.length : Int) > 20) ∧ ¬ ((a.comms.length : Int) > 300) ∧ ((a.others.length : Int) > 20)) := by omega
    clear hb
    go_enter Tryd.func8, Tryd.ntmps8
    go_upto_region 1 with (fail)
    obtain ⟨W0, hW0, q, hb0, _⟩ := boxA w (.int .i64 a.has) (.int .i64 a.origin) (.slice sp a.path.length cp) (.int .u32 a.hop) (.int .i64 a.med) (.int .i64 a.loc) (.int .i64 a.aggrAs) (.int .u32 a.aggrId) (.slice sc a.comms.length cc) (.slice so a.others.length co)
    rw [← hW0]
    clear hW0
    obtain ⟨y0, y1, y2, y3, y4, y5, y6, y7, y8, y9⟩ := at10 q
    have B := Lib.hid hb0
    clear q hb0
    rcases hb2 with e1 | ⟨e1, e2⟩ | ⟨e1, e2, e3⟩
    · go_wp2_with fail
      go_ret
      exact ⟨_, rfl, (fun h => by cases h), B.out⟩
    · go_wp2_with fail
      go_ret
      exact ⟨_, rfl, (fun h => by cases h), B.out⟩
    · go_wp2_with fail
      go_ret
      exact ⟨_, rfl, (fun h => by cases h), B.out⟩
end Go.Proofs.YtohkbcdnlmjcjaaDoor

/-
  ATTRIBUTES: read, cut: numbers of bytes; where an attribute's value begins and ends.
-/
namespace Go.Proofs.YtohkbcdnlmjcjaaDoor
open Go.RowKit

/-- a number out of bytes. -/
def readN (xs : List Nat) : Nat := xs.foldl (fun n b => n * 256 + b) 0
set_option maxRecDepth 100000 in
theorem readN_step {xs : List Nat} {k : Nat} {b : Nat} (h : xs[k]? = some b) : readN (xs.take (k + 1)) = readN (xs.take k) * 256 + b := by
  obtain ⟨h1, h2⟩ := List.getElem?_eq_some_iff.1 h
  unfold readN
  rw [List.take_succ_eq_append_getElem h1, h2, List.foldl_append]
  rfl
set_option maxRecDepth 100000 in
theorem readN_lt {xs : List Nat} (hx : ∀ x ∈ xs, x < 256) (k : Nat) (hk : k ≤ xs.length) : readN (xs.take k) < 256 ^ k := by
  induction k with
  | zero => simp [readN]
  | succ k ih =>
    have h1 : xs[k]? = some xs[k] := List.getElem?_eq_getElem (by omega)
    rw [readN_step h1, Nat.pow_succ]
    have h2 := ih (by omega)
    have h3 := hx xs[k] (List.getElem_mem ..)
    omega
set_option maxRecDepth 100000 in
theorem or_byte (h l : Nat) (h1 : h < 16777216) (l1 : l < 256) : bits .or .i64 ((h : Int) * 256) (l : Int) = (h : Int) * 256 + (l : Int) := by
  show IntKind.i64.wrap ((BitVec.ofInt 64 ((h : Int) * 256) ||| BitVec.ofInt 64 (l : Int)).toNat : Int) = _
  rw [BitVec.toNat_or, ofInt64_nat, ofInt64_nat]
  have e1 : (((h : Int) * 256) % 18446744073709551616).toNat = 2 ^ 8 * h := by omega
  have e2 : (((l : Int)) % 18446744073709551616).toNat = l := by omega
  rw [e1, e2, ← Nat.two_pow_add_eq_or_of_lt (by omega)]
  rw [IntWalk.i64_in _ (by omega)]
  omega
set_option maxHeartbeats 1600000 in
set_option maxRecDepth 100000 in
theorem at_read (v : Value) (xs : List Nat) (w : World) (h : BytesAt w v xs) (h4 : xs.length ≤ 4) : Calls Tryd.prog 62 #[v] w fun e w' => e = .returned (.int .i64 (readN xs)) ∧ w = w' := by
  have BR : ∀ x ∈ xs, x < 256 := fun x hx => by
    obtain ⟨sa, cap, _, _, _, h4⟩ := h
    obtain ⟨i, hi⟩ := List.getElem?_of_mem hx
    obtain ⟨b, off, _, h6⟩ := h4 (by have := (List.getElem?_eq_some_iff.1 hi).1; omega)
    obtain ⟨cs, _, hr, _⟩ := h6 i x hi
    exact hr.2
  obtain ⟨sa, cap, rfl, hlc, hcm, hV⟩ := h
  have HV := Lib.hid hV
  have HB := Lib.hid BR
  unfold maxLen at hcm
  clear hV BR
  go_enter Tryd.func62, Tryd.ntmps62
  go_wp2_with fail
  go_loopw [3, 8] (fun n t wr => ∃ k : Nat, k ≤ xs.length ∧ t = .int .i64 k ∧ n = .int .i64 (readN (xs.take k)) ∧ wr = w) (fun _ t _ => xs.length - (intOf t).toNat)
  case atStart => exact ⟨0, by omega, rfl, rfl, rfl⟩
  case round =>
    obtain ⟨k, hk, rfl, rfl, rfl⟩ := hrel
    by_cases hlt : k < xs.length
    · obtain ⟨x, hx⟩ : ∃ x, xs[k]? = some x := ⟨_, List.getElem?_eq_getElem hlt⟩
      obtain ⟨b, off, hsa, hP⟩ := HV.out (by omega)
      subst hsa
      obtain ⟨cs, _, ⟨rfl, hx2⟩, hc⟩ := hP k x hx
      have x0 := hc 0 _ rfl
      simp only [Nat.add_zero, Nat.mul_one] at x0
      have ST := Lib.hid (readN_step hx)
      have hn : readN (xs.take k) < 16777216 := by
        have h1 := readN_lt HB.out k (by omega)
        have h2 : 256 ^ k ≤ 256 ^ 3 := Nat.pow_le_pow_right (by decide) (by omega)
        omega
      have OB := or_byte (readN (xs.take k)) x hn hx2
      have j0 : (0 : Int) ≤ (k : Int) := by omega
      have j1 : (k : Int) < (xs.length : Int) := by omega
      have n1 : ((readN (xs.take k) : Nat) : Int) < 16777216 := by omega
      have n0 : (0 : Int) ≤ ((readN (xs.take k) : Nat) : Int) := by omega
      clear hP hc hx
      go_wp2_with fail
      exact ⟨⟨k + 1, by omega, by go_num, by rw [ST.out]; congr 1, trivial⟩, by simp [intOf]; omega⟩
    · obtain rfl : k = xs.length := by omega
      have E : Hid (readN (xs.take xs.length) = readN xs) := Lib.hid (by rw [List.take_length])
      go_wp2_with fail
      go_ret
      exact ⟨ret_int (by rw [E.out]), rfl⟩
set_option maxRecDepth 100000 in
/-- a part of a slice. -/
theorem slat_sub {α : Type} {w : World} {R : α → List Value → Prop} {b off cap : Nat} {xs : List α} (h : SlAt w 1 R (.slice (some ⟨b, off, none⟩) xs.length cap) xs) {i j : Nat} (hij : i ≤ j) (hj : j ≤ xs.length) :
    SlAt w 1 R (.slice (some ⟨b, off + i, none⟩) (j - i) (cap - i)) ((xs.take j).drop i) := by
  obtain ⟨sa, c, h1, h2, h3, h4⟩ := h
  injection h1 with h1 _ hc
  subst hc
  have hl : ((xs.take j).drop i).length = j - i := by rw [List.length_drop, List.length_take]; omega
  refine ⟨some ⟨b, off + i, none⟩, cap - i, by rw [hl], by omega, by omega, fun h0 => ⟨b, off + i, rfl, fun q x hx => ?_⟩⟩
  rw [List.getElem?_drop, List.getElem?_take_of_lt (by have := (List.getElem?_eq_some_iff.1 hx).1; rw [List.length_take] at this; omega)] at hx
  obtain ⟨b', off', e, h6⟩ := h4 (by have := (List.getElem?_eq_some_iff.1 hx).1; omega)
  rw [← h1] at e
  injection e with e
  injection e with e1 e2 _
  subst e1; subst e2
  obtain ⟨cs, c1, c2, c3⟩ := h6 _ x hx
  refine ⟨cs, c1, c2, fun p u hu => ?_⟩
  have := c3 p u hu
  rw [← this]
  congr 2
  omega
def longB (x : Nat) : Bool := bits .and .u8 (x : Int) 16 != 0
def fromN : List Nat → Nat
  | [] => 3
  | x :: _ => if longB x then 4 else 3
def cutN (xs : List Nat) : Nat := fromN xs + readN ((xs.take (fromN xs)).drop 2)
def cutV (xs : List Nat) : Value := .tuple (if xs.length < fromN xs then #[.int .i64 0, .int .i64 0, .bool false] else #[.int .i64 (fromN xs), .int .i64 (cutN xs), .bool (decide (cutN xs ≤ xs.length))])
set_option maxRecDepth 100000 in
theorem from_le (xs : List Nat) : fromN xs = 3 ∨ fromN xs = 4 := by
  unfold fromN
  cases xs with
  | nil => exact .inl rfl
  | cons x xs => cases longB x <;> simp
set_option maxRecDepth 100000 in
theorem bytes_lt {w : World} {v : Value} {xs : List Nat} (h : BytesAt w v xs) : ∀ x ∈ xs, x < 256 := fun x hx => by
  obtain ⟨sa, cap, _, _, _, h4⟩ := h
  obtain ⟨i, hi⟩ := List.getElem?_of_mem hx
  obtain ⟨b, off, _, h6⟩ := h4 (by have := (List.getElem?_eq_some_iff.1 hi).1; omega)
  obtain ⟨cs, _, hr, _⟩ := h6 i x hi
  exact hr.2
set_option maxHeartbeats 3200000 in
set_option maxRecDepth 100000 in
theorem at_cut (v : Value) (xs : List Nat) (w : World) (h : BytesAt w v xs) : Calls Tryd.prog 42 #[v] w fun e w' => e = .returned (cutV xs) ∧ w = w' := by
  have H := Lib.hid h
  obtain ⟨sa, cap, rfl, hlc, hcm, hV⟩ := h
  cases xs with
  | nil =>
    have E : Hid (fromN [] = 3) := Lib.hid rfl
    go_enter Tryd.func42, Tryd.ntmps42
    go_wp2_with fail
    exact bodyPost_ret (results_tmp3 Tryd.results42 _ _ _) rfl ⟨rfl, rfl⟩
  | cons x xs =>
    obtain ⟨b, off, rfl, hP⟩ := hV (by simp)
    obtain ⟨cs, _, ⟨rfl, hx2⟩, hc⟩ := hP 0 x rfl
    have x0 := hc 0 _ rfl
    simp only [Nat.add_zero, Nat.zero_mul] at x0
    clear hP hc hV
    obtain ⟨ys, hys⟩ : ∃ ys, x :: xs = ys := ⟨_, rfl⟩
    have hn1 : 1 ≤ ys.length := by rw [← hys]; simp
    rw [hys] at H hlc ⊢
    unfold maxLen at hcm
    have n0 : ((ys.length : Int) > 0) := by omega
    cases hz : (bits .and .u8 (x : Int) 16 != 0)
    · have hb : (bits .and .u8 (x : Int) 16 != 0) = false := hz
      have hb2 : (bits .and .u8 (x : Int) 16 = 0) = True := eq_true (bne_eq_false_iff_eq.1 hz)
      have F : Hid (fromN ys = 3) := Lib.hid (by rw [← hys]; show (if longB x = true then 4 else 3) = 3; rw [show longB x = false from hz]; rfl)
      clear hz
      by_cases hn : ys.length < 3
      · have R : Hid (cutV ys = .tuple #[.int .i64 0, .int .i64 0, .bool false]) := Lib.hid (by unfold cutV; rw [F.out, if_pos hn])
        have hnI : (ys.length : Int) < 3 := by omega
        go_enter Tryd.func42, Tryd.ntmps42
        go_wp2_with fail
        exact bodyPost_ret (results_tmp3 Tryd.results42 _ _ _) rfl ⟨by rw [R.out]; rfl, rfl⟩
      · have R0 : cutV ys = .tuple #[.int .i64 3, .int .i64 (cutN ys), .bool (decide (cutN ys ≤ ys.length))] := by unfold cutV; rw [F.out, if_neg hn]; rfl
        have SB : Hid (BytesAt w (.slice (some ⟨b, off + 2, none⟩) 1 (cap - 2)) ((ys.take 3).drop 2)) := Lib.hid (slat_sub H.out (i := 2) (j := 3) (by omega) (by omega))
        have RD := Lib.hid (at_read _ _ w SB.out (by rw [List.length_drop, List.length_take]; omega))
        have CN : cutN ys = 3 + readN ((ys.take 3).drop 2) := by unfold cutN; rw [F.out]
        rw [CN] at R0
        have RL : readN ((ys.take 3).drop 2) < 65536 := by
          have h1 := readN_lt (xs := (ys.take 3).drop 2) (fun y hy => bytes_lt H.out y (List.mem_of_mem_take (List.mem_of_mem_drop hy))) _ (Nat.le_refl _)
          rw [List.take_length] at h1
          have h2 : ((ys.take 3).drop 2).length ≤ 2 := by rw [List.length_drop, List.length_take]; omega
          have h3 : 256 ^ ((ys.take 3).drop 2).length ≤ 256 ^ 2 := Nat.pow_le_pow_right (by decide) h2
          omega
        generalize readN ((ys.take 3).drop 2) = r at RD R0 RL
        have R : Hid (cutV ys = .tuple #[.int .i64 3, .int .i64 (3 + (r : Int)), .bool (decide (3 + (r : Int) ≤ (ys.length : Int)))]) := Lib.hid (by
          rw [R0, decide_eq_decide.2 (show (3 + r ≤ ys.length) ↔ ((3 : Int) + (r : Int) ≤ (ys.length : Int)) from ⟨fun h => by omega, fun h => by omega⟩)]
          rfl)
        clear R0 CN
        have hnI : ¬ (ys.length : Int) < 3 := by omega
        have hc1 : (3 : Int) ≤ (cap : Int) := by omega
        have hc2 : ¬ (cap : Int) = 2 := by omega
        have hc3 : ¬ cap = 2 := by omega
        have r0 : (0 : Int) ≤ (r : Int) := by omega
        have r1 : (r : Int) ≤ 65535 := by omega
        clear H SB F RL
        go_enter Tryd.func42, Tryd.ntmps42
        go_wp2_with fail
        refine RD.out.mono ?_
        rintro e w1 ⟨rfl, rfl⟩
        go_wp2_with fail
        refine bodyPost_ret (results_tmp3 Tryd.results42 _ _ _) rfl ⟨?_, rfl⟩
        rw [R.out]
        rfl
    · have hb : (bits .and .u8 (x : Int) 16 != 0) = true := hz
      have hb2 : ¬ bits .and .u8 (x : Int) 16 = 0 := bne_iff_ne.1 hz
      have F : Hid (fromN ys = 4) := Lib.hid (by rw [← hys]; show (if longB x = true then 4 else 3) = 4; rw [show longB x = true from hz]; rfl)
      clear hz
      by_cases hn : ys.length < 4
      · have R : Hid (cutV ys = .tuple #[.int .i64 0, .int .i64 0, .bool false]) := Lib.hid (by unfold cutV; rw [F.out, if_pos hn])
        have hnI : (ys.length : Int) < 4 := by omega
        go_enter Tryd.func42, Tryd.ntmps42
        go_wp2_with fail
        exact bodyPost_ret (results_tmp3 Tryd.results42 _ _ _) rfl ⟨by rw [R.out]; rfl, rfl⟩
      · have R0 : cutV ys = .tuple #[.int .i64 4, .int .i64 (cutN ys), .bool (decide (cutN ys ≤ ys.length))] := by unfold cutV; rw [F.out, if_neg hn]; rfl
        have SB : Hid (BytesAt w (.slice (some ⟨b, off + 2, none⟩) 2 (cap - 2)) ((ys.take 4).drop 2)) := Lib.hid (slat_sub H.out (i := 2) (j := 4) (by omega) (by omega))
        have RD := Lib.hid (at_read _ _ w SB.out (by rw [List.length_drop, List.length_take]; omega))
        have CN : cutN ys = 4 + readN ((ys.take 4).drop 2) := by unfold cutN; rw [F.out]
        rw [CN] at R0
        have RL : readN ((ys.take 4).drop 2) < 65536 := by
          have h1 := readN_lt (xs := (ys.take 4).drop 2) (fun y hy => bytes_lt H.out y (List.mem_of_mem_take (List.mem_of_mem_drop hy))) _ (Nat.le_refl _)
          rw [List.take_length] at h1
          have h2 : ((ys.take 4).drop 2).length ≤ 2 := by rw [List.length_drop, List.length_take]; omega
          have h3 : 256 ^ ((ys.take 4).drop 2).length ≤ 256 ^ 2 := Nat.pow_le_pow_right (by decide) h2
          omega
        generalize readN ((ys.take 4).drop 2) = r at RD R0 RL
        have R : Hid (cutV ys = .tuple #[.int .i64 4, .int .i64 (4 + (r : Int)), .bool (decide (4 + (r : Int) ≤ (ys.length : Int)))]) := Lib.hid (by
          rw [R0, decide_eq_decide.2 (show (4 + r ≤ ys.length) ↔ ((4 : Int) + (r : Int) ≤ (ys.length : Int)) from ⟨fun h => by omega, fun h => by omega⟩)]
          rfl)
        clear R0 CN
        have hnI : ¬ (ys.length : Int) < 4 := by omega
        have hc1 : (4 : Int) ≤ (cap : Int) := by omega
        have hc2 : ¬ (cap : Int) = 2 := by omega
        have hc3 : ¬ cap = 2 := by omega
        have r0 : (0 : Int) ≤ (r : Int) := by omega
        have r1 : (r : Int) ≤ 65535 := by omega
        clear H SB F RL
        go_enter Tryd.func42, Tryd.ntmps42
        go_wp2_with fail
        refine RD.out.mono ?_
        rintro e w1 ⟨rfl, rfl⟩
        go_wp2_with fail
        refine bodyPost_ret (results_tmp3 Tryd.results42 _ _ _) rfl ⟨?_, rfl⟩
        rw [R.out]
        rfl
end Go.Proofs.YtohkbcdnlmjcjaaDoor

/-
  ATTRIBUTES: slices.SortFunc of no others.
-/
namespace Go.Proofs.YtohkbcdnlmjcjaaDoor
open Go.RowKit

set_option maxHeartbeats 1600000 in
set_option maxRecDepth 100000 in
theorem ins_none (sa : Option Addr) (cap : Nat) (fv : Value) (w : World) : Calls Tryd.prog 68 #[.slice sa 0 cap, .int .i64 0, .int .i64 0, fv] w fun e w' => e = .returned (.tuple #[]) ∧ w = w' := by
  go_enter Tryd.func68, Tryd.ntmps68
  go_wp2_with fail
  go_loopw [8] (fun t wr => t = .int .i64 1 ∧ wr = w) (fun _ _ => 0)
  case atStart => exact ⟨rfl, rfl⟩
  case round =>
    obtain ⟨rfl, rfl⟩ := hrel
    go_wp2_with fail
    exact bodyPost_end (results_none Tryd.results68 _ _ _) rfl ⟨rfl, rfl⟩
set_option maxRecDepth 100000 in
theorem len64_zero (w : World) : Calls Tryd.prog 77 #[.int .u64 0] w fun e w' => e = .returned (.int .i64 0) ∧ w = w' := by
  go_enter Tryd.func77, Tryd.ntmps77
  go_wp2_with fail
  go_ret
  exact ⟨ret_int (by decide +kernel), rfl⟩
set_option maxRecDepth 100000 in
theorem len_zero (w : World) : Calls Tryd.prog 65 #[.int .u64 0] w fun e w' => e = .returned (.int .i64 0) ∧ w = w' := by
  go_enter Tryd.func65, Tryd.ntmps65
  go_wp2_with fail
  refine (len64_zero _).mono ?_
  rintro e w1 ⟨rfl, rfl⟩
  go_wp2_with fail
  go_ret
  exact ⟨rfl, rfl⟩
set_option maxHeartbeats 1600000 in
set_option maxRecDepth 100000 in
theorem pdq_none (sa : Option Addr) (cap : Nat) (fv : Value) (w : World) : Calls Tryd.prog 64 #[.slice sa 0 cap, .int .i64 0, .int .i64 0, .int .i64 0, fv] w fun e w' => e = .returned (.tuple #[]) ∧ w = w' := by
  go_enter Tryd.func64, Tryd.ntmps64
  go_wp2_with fail
  go_loopw [1, 2, 3, 10, 11] (fun a b c d e wr => a = .int .i64 0 ∧ b = .int .i64 0 ∧ c = .int .i64 0 ∧ d = .bool true ∧ e = .bool true ∧ wr = w) (fun _ _ _ _ _ _ => 0)
  case atStart => exact ⟨rfl, rfl, rfl, rfl, rfl, rfl⟩
  case round =>
    obtain ⟨rfl, rfl, rfl, rfl, rfl, rfl⟩ := hrel
    go_wp2_with fail
    refine (ins_none sa cap fv _).mono ?_
    rintro e w1 ⟨rfl, rfl⟩
    go_wp2_with fail
    exact bodyPost_ret (results_none Tryd.results64 _ _ _) rfl ⟨rfl, rfl⟩
set_option maxRecDepth 100000 in
theorem sort_none (sa : Option Addr) (cap : Nat) (fv : Value) (w : World) : Calls Tryd.prog 45 #[.slice sa 0 cap, fv] w fun e w' => e = .returned (.tuple #[]) ∧ w = w' := by
  go_enter Tryd.func45, Tryd.ntmps45
  go_wp2_with fail
  refine (len_zero _).mono ?_
  rintro e w1 ⟨rfl, rfl⟩
  go_wp2_with fail
  refine (pdq_none sa cap fv _).mono ?_
  rintro e w1 ⟨rfl, rfl⟩
  go_wp2_with fail
  exact bodyPost_end (results_none Tryd.results45 _ _ _) rfl ⟨rfl, rfl⟩
end Go.Proofs.YtohkbcdnlmjcjaaDoor
