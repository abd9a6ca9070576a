/-
  AttrAsks, walked: what is told of any attributes.
-/
import Derived.Test.YtohkbcdnlmjcjaaDoorA6L
namespace Go.Proofs.YtohkbcdnlmjcjaaDoor
open Go.RowKit

set_option maxRecDepth 100000 in
theorem hops_small : ∀ (p : List Sg), (∀ s ∈ p, s.2.length ≤ 300) → hopsN p ≤ p.length * 300
  | [], _ => by simp [hopsN]
  | s :: p, h => by
    have ih := hops_small p (fun x hx => h x (List.mem_cons_of_mem _ hx))
    have h0 := h s (List.mem_cons_self ..)
    simp only [hopsN, List.length_cons]
    split <;> omega
set_option maxRecDepth 100000 in
theorem pass_step {p : List Sg} {k : Nat} {s : Sg} (h : p[k]? = some s) (t : Int) : passB (p.take (k + 1)) t = (passB (p.take k) t || s.2.contains t) := by
  obtain ⟨h1, h2⟩ := List.getElem?_eq_some_iff.1 h
  unfold passB
  rw [List.take_succ_eq_append_getElem h1, h2, List.any_append]
  simp
set_option maxRecDepth 100000 in
theorem has_step {l : List Int} {j : Nat} {x : Int} (h : l[j]? = some x) (t : Int) : (l.take (j + 1)).contains t = ((l.take j).contains t || x == t) := by
  obtain ⟨h1, h2⟩ := List.getElem?_eq_some_iff.1 h
  rw [List.take_succ_eq_append_getElem h1, h2, List.contains_append, List.contains_cons]
  simp [BEq.comm]
/-- which is missing, from above. -/
def zB (has : Int) (i : Nat) : Bool := bits .and .i64 (has / 2 ^ i) 1 == 0
def mN (has : Int) : Nat → Nat
  | 0 => if zB has 1 then 1 else mN1 has
  | 1 => mN1 has
  | 2 => if zB has 3 then 3 else 0
  | _ => 0
where mN1 (has : Int) : Nat := if zB has 2 then 2 else if zB has 3 then 3 else 0
set_option maxRecDepth 100000 in
theorem mN_step (has : Int) {i : Nat} (h1 : 1 ≤ i) (h3 : i ≤ 3) : mN has (i - 1) = if zB has i then i else mN has i := by
  have : i = 1 ∨ i = 2 ∨ i = 3 := by omega
  rcases this with rfl | rfl | rfl <;> rfl
set_option maxRecDepth 100000 in
theorem z_is (has : Int) (i : Nat) (h1 : 1 ≤ i) (h8 : i ≤ 8) : zB has i = !isB has i := by
  have h := and_low_i64 (has / 2 ^ i) 1 (by decide)
  rw [show ((2 ^ 1 - 1 : Nat) : Int) = 1 by decide] at h
  unfold zB isB knownB bitB
  rw [decide_eq_true (show (1 : Int) ≤ (i : Int) by omega), decide_eq_true (show (i : Int) ≤ 8 by omega)]
  rw [show ((i : Int)).toNat = i by omega, h]
  have := Int.emod_two_eq (has / 2 ^ i)
  rcases this with e | e
  · rw [show ((2 ^ 1 : Nat) : Int) = 2 by decide, e]; rfl
  · rw [show ((2 ^ 1 : Nat) : Int) = 2 by decide, e]; rfl
set_option maxRecDepth 100000 in
theorem mN_miss (has : Int) : mN has 0 = missN has := by
  show (if zB has 1 then 1 else if zB has 2 then 2 else if zB has 3 then 3 else 0) = _
  rw [z_is has 1 (by decide) (by decide), z_is has 2 (by decide) (by decide), z_is has 3 (by decide) (by decide)]
  unfold missN
  show (if (!isB has 1) = true then 1 else if (!isB has 2) = true then 2 else if (!isB has 3) = true then 3 else 0) = _
  cases isB has 1 <;> cases isB has 2 <;> cases isB has 3 <;> rfl
set_option maxHeartbeats 12800000 in
set_option maxRecDepth 100000 in
theorem law_AttrAsks (a : At) (vp vc vo : Value) (sy t : Int) (w : World) (hA : AtL w a vp vc vo) (hT : Tabs w) :
    Calls Tryd.prog 3 #[.agg (atV a vp vc vo).toArray, .int .i64 sy, .int .i64 t] w fun e w' => e = .returned (.bool true) ∧ Below w.heap.size w w' := by
  show Calls Tryd.prog 3 #[.agg #[.int .i64 a.has, .int .i64 a.origin, vp, .int .u32 a.hop, .int .i64 a.med, .int .i64 a.loc, .int .i64 a.aggrAs, .int .u32 a.aggrId, vc, vo], .int .i64 sy, .int .i64 t] w _
  have HA := Lib.hid hA
  have HT := Lib.hid hT
  have BG := Lib.hid (fun W h => law_big a vp vc vo W h)
  have HF := Lib.hid (fun W h => at_First (.int .i64 a.has) (.int .i64 a.origin) vp (.int .u32 a.hop) (.int .i64 a.med) (.int .i64 a.loc) (.int .i64 a.aggrAs) (.int .u32 a.aggrId) vc vo a.path W h)
  have HH := Lib.hid (fun W h hh => at_Hops (.int .i64 a.has) (.int .i64 a.origin) vp (.int .u32 a.hop) (.int .i64 a.med) (.int .i64 a.loc) (.int .i64 a.aggrAs) (.int .u32 a.aggrId) vc vo a.path W h hh)
  have HS := Lib.hid (fun W (h : AtL W a vp vc vo) => at_Passes a vp vc vo sy W h.1)
  have HM := Lib.hid (fun W h => at_Missing a vp vc vo W h)
  have HI := Lib.hid (fun W => at_Is a.has (.int .i64 a.origin) vp (.int .u32 a.hop) (.int .i64 a.med) (.int .i64 a.loc) (.int .i64 a.aggrAs) (.int .u32 a.aggrId) vc vo t W)
  obtain ⟨⟨sp, cp, rfl, hlc, hcm, hV⟩, ⟨sc, cc, rfl, _⟩, ⟨so, co, rfl, _⟩⟩ := hA
  have HV := Lib.hid hV
  unfold maxLen at hcm
  clear hV hT
  go_enter Tryd.func3, Tryd.ntmps3
  go_upto_region 1 with (fail)
  obtain ⟨W0, hW0, q, hb0, _⟩ := boxA w (.int .i64 a.has) (.int .i64 a.origin) (.slice sp a.path.length cp) (.int .u32 a.hop) (.int .i64 a.med) (.int .i64 a.loc) (.int .i64 a.aggrAs) (.int .u32 a.aggrId) (.slice sc a.comms.length cc) (.slice so a.others.length co)
  rw [← hW0]
  clear hW0
  have Q0 := Lib.hid q
  have B0 := Lib.hid hb0
  clear q hb0
  go_wp2_with fail
  refine (law_head _ (HT.out.below B0.out)).mono ?_
  rintro e w1 ⟨rfl, hb1⟩
  have Q1 := Lib.hid ((hb1.block _ (row_lt Q0.out)).trans Q0.out)
  have B1 := Lib.hid (below_on B0.out hb1)
  obtain ⟨y0, y1, y2, y3, y4, y5, y6, y7, y8, y9⟩ := at10 Q1.out
  clear hb1 Q0 B0
  go_wp2_with fail
  refine (BG.out _ (HA.out.below B1.out)).mono ?_
  rintro e w2 ⟨b, rfl, hsm, hb2⟩
  have Q2 := Lib.hid ((hb2.block _ (row_lt Q1.out)).trans Q1.out)
  have B2 := Lib.hid (below_on B1.out hb2)
  have SM := Lib.hid hsm
  clear hb2 Q1 B1 hsm y0 y1 y2 y3 y4 y5 y6 y7 y8 y9 BG
  cases b
  case true =>
    go_wp2_with fail
    go_ret
    exact ⟨rfl, B2.out⟩
  have SM2 := Lib.hid (SM.out rfl)
  have HB : Hid (hopsN a.path ≤ 6000) := Lib.hid (by
    have h1 := hops_small a.path SM2.out.segs
    have h2 := SM2.out.path
    omega)
  clear SM
  have y2 := row_cell Q2.out 2
  go_wp2_with fail
  clear y2
  go_loopw [7, 8, 24] (fun hv pv iv wr => ∃ k : Nat, k ≤ a.path.length ∧ iv = .int .i64 k ∧ hv = .int .i64 (hopsN (a.path.take k)) ∧ (∃ z, pv = .bool z ∧ Hid (z = passB (a.path.take k) sy)) ∧ Hid (wr.heap[w.heap.size]? = some (.cells #[.int .i64 a.has, .int .i64 a.origin, .slice sp a.path.length cp, .int .u32 a.hop, .int .i64 a.med, .int .i64 a.loc, .int .i64 a.aggrAs, .int .u32 a.aggrId, .slice sc a.comms.length cc, .slice so a.others.length co] 28 (0, 0))) ∧ Hid (Below w.heap.size w wr)) (fun _ _ iv _ => a.path.length - (intOf iv).toNat)
  case atStart => exact ⟨0, by omega, rfl, rfl, ⟨false, rfl, Lib.hid rfl⟩, Q2, B2⟩
  case round =>
    clear Q2 B2
    obtain ⟨k, hk, rfl, rfl, ⟨z, rfl, Z⟩, Q, B⟩ := hrel
    by_cases hlt : k < a.path.length
    · obtain ⟨s, hs⟩ : ∃ s, a.path[k]? = some s := ⟨_, List.getElem?_eq_getElem hlt⟩
      obtain ⟨b, off, hsa, hP⟩ := HV.out (by omega)
      subst hsa
      obtain ⟨cs, _, ⟨u, rfl, hu⟩, hc⟩ := hP k s hs
      have c0 := hc 0 _ rfl
      have c1 := hc 1 _ rfl
      simp only [Nat.add_zero] at c0
      have c0 := (B.out.cell (size_lt c0)).trans c0
      have c1 := (B.out.cell (size_lt c1)).trans c1
      have ST := Lib.hid (hopsN_step hs)
      have PT := Lib.hid (pass_step hs sy)
      have hl := hopsN_le a.path k
      have hs3 := SM2.out.segs s (List.mem_of_getElem? hs)
      have hb6 := HB.out
      have hn : ((hopsN (a.path.take k) : Nat) : Int) ≤ 6000 := by omega
      have hn0 : (0 : Int) ≤ ((hopsN (a.path.take k) : Nat) : Int) := by omega
      have hsl : ((s.2.length : Nat) : Int) ≤ 300 := by omega
      obtain ⟨su, cu, rfl, huc, hum, hU⟩ := hu
      have HU := Lib.hid hU
      unfold maxLen at hum
      have j0 : (0 : Int) ≤ (k : Int) := by omega
      have j1 : (k : Int) < (a.path.length : Int) := by omega
      clear hs hP hc hl hs3 hb6 hU
      go_upto_region 10 with (fail)
      obtain ⟨W1, hW1, q1, hb1, -⟩ := box1 wr #[.bool s.1, .slice su s.2.length cu] 32
      rw [← hW1]
      clear hW1
      have r0 := row_cell q1 0
      have r1 := row_cell q1 1
      have Q1 := Lib.hid ((hb1.block _ (row_lt Q.out)).trans Q.out)
      have B1 := Lib.hid (below_on B.out hb1)
      clear q1 hb1 Q B c0 c1
      obtain ⟨sb, hsb⟩ : ∃ sb, s.1 = sb := ⟨_, rfl⟩
      obtain ⟨h', hh'⟩ : ∃ h' : Nat, hopsN (a.path.take (k + 1)) = h' := ⟨_, rfl⟩
      rw [hh'] at ST
      rw [hsb] at ST r0
      have HH' := Lib.hid hh'
      clear hsb hh'
      cases sb
      · have EV : Hid (((h' : Nat) : Int) = (hopsN (a.path.take k) : Int) + (s.2.length : Int)) := Lib.hid (by have := ST.out; simp at this; omega)
        obtain ⟨wo, hwo⟩ : ∃ wo : World, wo = W1 := ⟨_, rfl⟩
        rw [← hwo] at Q1 B1 r0 r1 ⊢
        clear hwo ST
        go_wp2_with fail
        clear r0 r1
        go_loopw [8, 40] (fun pv iv wr => ∃ j : Nat, j ≤ s.2.length ∧ iv = .int .i64 j ∧ (∃ y, pv = .bool y ∧ Hid (y = (z || (s.2.take j).contains sy))) ∧ wr = wo) (fun _ iv _ => s.2.length - (intOf iv).toNat)
        case atStart => exact ⟨0, by omega, rfl, ⟨z, rfl, Lib.hid (by simp)⟩, rfl⟩
        case round =>
          obtain ⟨j, hj, rfl, ⟨y, rfl, Y⟩, rfl⟩ := hrel
          by_cases hjl : j < s.2.length
          · obtain ⟨x, hx⟩ : ∃ x, s.2[j]? = some x := ⟨_, List.getElem?_eq_getElem hjl⟩
            obtain ⟨b2, off2, hsa2, hP2⟩ := HU.out (by omega)
            subst hsa2
            obtain ⟨cs2, _, ⟨rfl, _⟩, hc2⟩ := hP2 j x hx
            have x0 := hc2 0 _ rfl
            simp only [Nat.add_zero, Nat.mul_one] at x0
            have x0 := (B1.out.cell (size_lt x0)).trans x0
            have CT := Lib.hid (has_step hx sy)
            have i0 : (0 : Int) ≤ (j : Int) := by omega
            have i1 : (j : Int) < (s.2.length : Int) := by omega
            clear hP2 hc2 hx
            cases y
            · by_cases he : x = sy
              · have hT : (x = sy) = True := eq_true he
                have hB : (x == sy) = true := beq_iff_eq.2 he
                have Y2 : Hid (true = (z || (s.2.take (j + 1)).contains sy)) := Lib.hid (by rw [CT.out, hB]; simp)
                clear he Y CT
                go_wp2_with fail
                exact ⟨⟨j + 1, by omega, by go_num, ⟨true, rfl, Y2⟩, trivial⟩, by simp [intOf]; omega⟩
              · have hB : (x == sy) = false := beq_eq_false_iff_ne.2 he
                have Y2 : Hid (false = (z || (s.2.take (j + 1)).contains sy)) := Lib.hid (by rw [CT.out, hB, Bool.or_false]; exact Y.out)
                clear Y CT
                go_wp2_with fail
                exact ⟨⟨j + 1, by omega, by go_num, ⟨false, rfl, Y2⟩, trivial⟩, by simp [intOf]; omega⟩
            · have Y2 : Hid (true = (z || (s.2.take (j + 1)).contains sy)) := Lib.hid (by rw [CT.out, ← Bool.or_assoc, ← Y.out]; rfl)
              clear Y CT
              go_wp2_with fail
              exact ⟨⟨j + 1, by omega, by go_num, ⟨true, rfl, Y2⟩, trivial⟩, by simp [intOf]; omega⟩
          · obtain rfl : j = s.2.length := by omega
            have Z2 : Hid (y = passB (a.path.take (k + 1)) sy) := Lib.hid (by rw [PT.out, ← Z.out, Y.out, List.take_length])
            clear Y Z PT
            go_wp2_with fail
            exact ⟨⟨k + 1, by omega, by go_num, by rw [HH'.out, EV.out], ⟨y, rfl, Z2⟩, Q1, B1⟩, by simp [intOf]; omega⟩
      · have EV : Hid (((h' : Nat) : Int) = (hopsN (a.path.take k) : Int) + 1) := Lib.hid (by have := ST.out; simp at this; omega)
        obtain ⟨wo, hwo⟩ : ∃ wo : World, wo = W1 := ⟨_, rfl⟩
        rw [← hwo] at Q1 B1 r0 r1 ⊢
        clear hwo ST
        go_wp2_with fail
        clear r0 r1
        go_loopw [8, 40] (fun pv iv wr => ∃ j : Nat, j ≤ s.2.length ∧ iv = .int .i64 j ∧ (∃ y, pv = .bool y ∧ Hid (y = (z || (s.2.take j).contains sy))) ∧ wr = wo) (fun _ iv _ => s.2.length - (intOf iv).toNat)
        case atStart => exact ⟨0, by omega, rfl, ⟨z, rfl, Lib.hid (by simp)⟩, rfl⟩
        case round =>
          obtain ⟨j, hj, rfl, ⟨y, rfl, Y⟩, rfl⟩ := hrel
          by_cases hjl : j < s.2.length
          · obtain ⟨x, hx⟩ : ∃ x, s.2[j]? = some x := ⟨_, List.getElem?_eq_getElem hjl⟩
            obtain ⟨b2, off2, hsa2, hP2⟩ := HU.out (by omega)
            subst hsa2
            obtain ⟨cs2, _, ⟨rfl, _⟩, hc2⟩ := hP2 j x hx
            have x0 := hc2 0 _ rfl
            simp only [Nat.add_zero, Nat.mul_one] at x0
            have x0 := (B1.out.cell (size_lt x0)).trans x0
            have CT := Lib.hid (has_step hx sy)
            have i0 : (0 : Int) ≤ (j : Int) := by omega
            have i1 : (j : Int) < (s.2.length : Int) := by omega
            clear hP2 hc2 hx
            cases y
            · by_cases he : x = sy
              · have hT : (x = sy) = True := eq_true he
                have hB : (x == sy) = true := beq_iff_eq.2 he
                have Y2 : Hid (true = (z || (s.2.take (j + 1)).contains sy)) := Lib.hid (by rw [CT.out, hB]; simp)
                clear he Y CT
                go_wp2_with fail
                exact ⟨⟨j + 1, by omega, by go_num, ⟨true, rfl, Y2⟩, trivial⟩, by simp [intOf]; omega⟩
              · have hB : (x == sy) = false := beq_eq_false_iff_ne.2 he
                have Y2 : Hid (false = (z || (s.2.take (j + 1)).contains sy)) := Lib.hid (by rw [CT.out, hB, Bool.or_false]; exact Y.out)
                clear Y CT
                go_wp2_with fail
                exact ⟨⟨j + 1, by omega, by go_num, ⟨false, rfl, Y2⟩, trivial⟩, by simp [intOf]; omega⟩
            · have Y2 : Hid (true = (z || (s.2.take (j + 1)).contains sy)) := Lib.hid (by rw [CT.out, ← Bool.or_assoc, ← Y.out]; rfl)
              clear Y CT
              go_wp2_with fail
              exact ⟨⟨j + 1, by omega, by go_num, ⟨true, rfl, Y2⟩, trivial⟩, by simp [intOf]; omega⟩
          · obtain rfl : j = s.2.length := by omega
            have Z2 : Hid (y = passB (a.path.take (k + 1)) sy) := Lib.hid (by rw [PT.out, ← Z.out, Y.out, List.take_length])
            clear Y Z PT
            go_wp2_with fail
            exact ⟨⟨k + 1, by omega, by go_num, by rw [HH'.out, EV.out], ⟨y, rfl, Z2⟩, Q1, B1⟩, by simp [intOf]; omega⟩
    · obtain rfl : k = a.path.length := by omega
      have EH : Hid (hopsN (a.path.take a.path.length) = hopsN a.path) := Lib.hid (by rw [List.take_length])
      have EP : Hid (passB a.path sy = z) := Lib.hid (by rw [Z.out, List.take_length])
      rw [EH.out]
      clear Z EH hk hlt
      have HS2 := Lib.hid (fun W h => HS.out W h)
      rw [EP.out] at HS2
      clear EP
      by_cases h0 : a.path.length = 0
      · have FV : firstN a.path = 0 := by rw [List.length_eq_zero_iff.1 h0]; rfl
        have HF2 := Lib.hid (fun W h => HF.out W h)
        rw [FV] at HF2
        clear FV
        have e0 : ¬ ((a.path.length : Int) > 0) := by omega
        clear h0
        obtain ⟨wo, hwo⟩ : ∃ wo : World, wo = wr := ⟨_, rfl⟩
        rw [← hwo] at Q B ⊢
        clear hwo
        have y2 := row_cell Q.out 2
        go_wp2_with fail
        clear y2
        go_loopw [14, 15] (fun mv iv wx => ∃ i : Nat, i ≤ 3 ∧ iv = .int .i64 i ∧ mv = .int .i64 (mN a.has i) ∧ wx = wo) (fun _ iv _ => (intOf iv).toNat)
        case atStart => exact ⟨3, by omega, rfl, rfl, rfl⟩
        case round =>
          obtain ⟨i, hi, rfl, rfl, rfl⟩ := hrel
          by_cases hi1 : 1 ≤ i
          · obtain ⟨z3, hz3⟩ : ∃ z3, zB a.has i = z3 := ⟨_, rfl⟩
            have MS := Lib.hid (mN_step a.has hi1 hi)
            rw [hz3] at MS
            have i0 : (1 : Int) ≤ (i : Int) := by omega
            have i3 : i < 64 := by omega
            have i63 : (i : Int) ≤ 3 := by omega
            have y0 := row_cell Q.out 0
            cases z3
            · have hb : (bits .and .i64 (a.has / 2 ^ i) 1 == 0) = false := hz3
              have hb2 : ¬ bits .and .i64 (a.has / 2 ^ i) 1 = 0 := beq_eq_false_iff_ne.1 hz3
              have M2 : Hid (mN a.has (i - 1) = mN a.has i) := Lib.hid (by rw [MS.out]; simp)
              clear hz3 MS
              go_wp2_with fail
              exact ⟨⟨i - 1, by omega, by congr 1; omega, by rw [M2.out], trivial⟩, by simp [intOf]; omega⟩
            · have hb : (bits .and .i64 (a.has / 2 ^ i) 1 == 0) = true := hz3
              have hb2 : (bits .and .i64 (a.has / 2 ^ i) 1 = 0) = True := eq_true (beq_iff_eq.1 hz3)
              have M2 : Hid (mN a.has (i - 1) = i) := Lib.hid (by rw [MS.out]; simp)
              clear hz3 MS
              go_wp2_with fail
              exact ⟨⟨i - 1, by omega, by congr 1; omega, by rw [M2.out], trivial⟩, by simp [intOf]; omega⟩
          · obtain rfl : i = 0 := by omega
            have HM2 := Lib.hid (fun W h => HM.out W h)
            rw [← mN_miss] at HM2
            clear hi hi1
            by_cases ht1 : t ≥ 1
            · by_cases ht8 : t ≤ 8
              · obtain ⟨n, rfl⟩ := Int.eq_ofNat_of_zero_le (show 0 ≤ t by omega)
                have n63 : n < 64 := by omega
                obtain ⟨z2, hz2⟩ : ∃ z2, (bits .and .i64 (a.has / 2 ^ n) 1 == 1) = z2 := ⟨_, rfl⟩
                have EI : Hid (isB a.has (n : Int) = z2) := Lib.hid (by
                  unfold isB knownB
                  rw [decide_eq_true (show (1 : Int) ≤ (n : Int) from ht1), decide_eq_true (show (n : Int) ≤ 8 from ht8)]
                  exact hz2)
                have HI2 := Lib.hid (fun W => HI.out W)
                rw [EI.out] at HI2
                clear EI
                obtain ⟨y0, y1, y2, y3, y4, y5, y6, y7, y8, y9⟩ := at10 Q.out
                go_wp2_with fail
                refine (HH.out _ ((HA.out.below B.out).1) (by have := HB.out; omega)).mono ?_
                rintro e w11 ⟨rfl, hb11⟩
                have Q' := Lib.hid ((hb11.block _ (row_lt Q.out)).trans Q.out)
                have B' := Lib.hid (below_on B.out hb11)
                clear hb11 Q B y0 y1 y2 y3 y4 y5 y6 y7 y8 y9
                have Q := Q'
                have B := B'
                clear Q' B'
                obtain ⟨y0, y1, y2, y3, y4, y5, y6, y7, y8, y9⟩ := at10 Q.out
                go_wp2_with fail
                refine (HS2.out _ (HA.out.below B.out)).mono ?_
                rintro e w12 ⟨rfl, hb12⟩
                have Q' := Lib.hid ((hb12.block _ (row_lt Q.out)).trans Q.out)
                have B' := Lib.hid (below_on B.out hb12)
                clear hb12 Q B y0 y1 y2 y3 y4 y5 y6 y7 y8 y9
                have Q := Q'
                have B := B'
                clear Q' B'
                obtain ⟨y0, y1, y2, y3, y4, y5, y6, y7, y8, y9⟩ := at10 Q.out
                go_wp2_with fail
                refine (HF2.out _ ((HA.out.below B.out).1)).mono ?_
                rintro e w13 ⟨rfl, hb13⟩
                have Q' := Lib.hid ((hb13.block _ (row_lt Q.out)).trans Q.out)
                have B' := Lib.hid (below_on B.out hb13)
                clear hb13 Q B y0 y1 y2 y3 y4 y5 y6 y7 y8 y9
                have Q := Q'
                have B := B'
                clear Q' B'
                obtain ⟨y0, y1, y2, y3, y4, y5, y6, y7, y8, y9⟩ := at10 Q.out
                go_wp2_with fail
                refine (HM2.out _ (HA.out.below B.out)).mono ?_
                rintro e w14 ⟨rfl, hb14⟩
                have Q' := Lib.hid ((hb14.block _ (row_lt Q.out)).trans Q.out)
                have B' := Lib.hid (below_on B.out hb14)
                clear hb14 Q B y0 y1 y2 y3 y4 y5 y6 y7 y8 y9
                have Q := Q'
                have B := B'
                clear Q' B'
                obtain ⟨y0, y1, y2, y3, y4, y5, y6, y7, y8, y9⟩ := at10 Q.out
                go_wp2_with fail
                refine (HI2.out _).mono ?_
                rintro e w15 ⟨rfl, hb15⟩
                have Q' := Lib.hid ((hb15.block _ (row_lt Q.out)).trans Q.out)
                have B' := Lib.hid (below_on B.out hb15)
                clear hb15 Q B y0 y1 y2 y3 y4 y5 y6 y7 y8 y9
                have Q := Q'
                have B := B'
                clear Q' B'
                go_wp2_with fail
                go_ret
                exact ⟨ret_bool (by simp), B.out⟩
              · have HI2 := Lib.hid (fun W => HI.out W)
                rw [show isB a.has t = false by unfold isB knownB; rw [decide_eq_false ht8, Bool.and_false, Bool.false_and]] at HI2
                obtain ⟨y0, y1, y2, y3, y4, y5, y6, y7, y8, y9⟩ := at10 Q.out
                go_wp2_with fail
                refine (HH.out _ ((HA.out.below B.out).1) (by have := HB.out; omega)).mono ?_
                rintro e w11 ⟨rfl, hb11⟩
                have Q' := Lib.hid ((hb11.block _ (row_lt Q.out)).trans Q.out)
                have B' := Lib.hid (below_on B.out hb11)
                clear hb11 Q B y0 y1 y2 y3 y4 y5 y6 y7 y8 y9
                have Q := Q'
                have B := B'
                clear Q' B'
                obtain ⟨y0, y1, y2, y3, y4, y5, y6, y7, y8, y9⟩ := at10 Q.out
                go_wp2_with fail
                refine (HS2.out _ (HA.out.below B.out)).mono ?_
                rintro e w12 ⟨rfl, hb12⟩
                have Q' := Lib.hid ((hb12.block _ (row_lt Q.out)).trans Q.out)
                have B' := Lib.hid (below_on B.out hb12)
                clear hb12 Q B y0 y1 y2 y3 y4 y5 y6 y7 y8 y9
                have Q := Q'
                have B := B'
                clear Q' B'
                obtain ⟨y0, y1, y2, y3, y4, y5, y6, y7, y8, y9⟩ := at10 Q.out
                go_wp2_with fail
                refine (HF2.out _ ((HA.out.below B.out).1)).mono ?_
                rintro e w13 ⟨rfl, hb13⟩
                have Q' := Lib.hid ((hb13.block _ (row_lt Q.out)).trans Q.out)
                have B' := Lib.hid (below_on B.out hb13)
                clear hb13 Q B y0 y1 y2 y3 y4 y5 y6 y7 y8 y9
                have Q := Q'
                have B := B'
                clear Q' B'
                obtain ⟨y0, y1, y2, y3, y4, y5, y6, y7, y8, y9⟩ := at10 Q.out
                go_wp2_with fail
                refine (HM2.out _ (HA.out.below B.out)).mono ?_
                rintro e w14 ⟨rfl, hb14⟩
                have Q' := Lib.hid ((hb14.block _ (row_lt Q.out)).trans Q.out)
                have B' := Lib.hid (below_on B.out hb14)
                clear hb14 Q B y0 y1 y2 y3 y4 y5 y6 y7 y8 y9
                have Q := Q'
                have B := B'
                clear Q' B'
                obtain ⟨y0, y1, y2, y3, y4, y5, y6, y7, y8, y9⟩ := at10 Q.out
                go_wp2_with fail
                refine (HI2.out _).mono ?_
                rintro e w15 ⟨rfl, hb15⟩
                have Q' := Lib.hid ((hb15.block _ (row_lt Q.out)).trans Q.out)
                have B' := Lib.hid (below_on B.out hb15)
                clear hb15 Q B y0 y1 y2 y3 y4 y5 y6 y7 y8 y9
                have Q := Q'
                have B := B'
                clear Q' B'
                go_wp2_with fail
                go_ret
                exact ⟨ret_bool (by simp), B.out⟩
            · have HI2 := Lib.hid (fun W => HI.out W)
              rw [show isB a.has t = false by unfold isB knownB; rw [decide_eq_false ht1, Bool.false_and, Bool.false_and]] at HI2
              obtain ⟨y0, y1, y2, y3, y4, y5, y6, y7, y8, y9⟩ := at10 Q.out
              go_wp2_with fail
              refine (HH.out _ ((HA.out.below B.out).1) (by have := HB.out; omega)).mono ?_
              rintro e w11 ⟨rfl, hb11⟩
              have Q' := Lib.hid ((hb11.block _ (row_lt Q.out)).trans Q.out)
              have B' := Lib.hid (below_on B.out hb11)
              clear hb11 Q B y0 y1 y2 y3 y4 y5 y6 y7 y8 y9
              have Q := Q'
              have B := B'
              clear Q' B'
              obtain ⟨y0, y1, y2, y3, y4, y5, y6, y7, y8, y9⟩ := at10 Q.out
              go_wp2_with fail
              refine (HS2.out _ (HA.out.below B.out)).mono ?_
              rintro e w12 ⟨rfl, hb12⟩
              have Q' := Lib.hid ((hb12.block _ (row_lt Q.out)).trans Q.out)
              have B' := Lib.hid (below_on B.out hb12)
              clear hb12 Q B y0 y1 y2 y3 y4 y5 y6 y7 y8 y9
              have Q := Q'
              have B := B'
              clear Q' B'
              obtain ⟨y0, y1, y2, y3, y4, y5, y6, y7, y8, y9⟩ := at10 Q.out
              go_wp2_with fail
              refine (HF2.out _ ((HA.out.below B.out).1)).mono ?_
              rintro e w13 ⟨rfl, hb13⟩
              have Q' := Lib.hid ((hb13.block _ (row_lt Q.out)).trans Q.out)
              have B' := Lib.hid (below_on B.out hb13)
              clear hb13 Q B y0 y1 y2 y3 y4 y5 y6 y7 y8 y9
              have Q := Q'
              have B := B'
              clear Q' B'
              obtain ⟨y0, y1, y2, y3, y4, y5, y6, y7, y8, y9⟩ := at10 Q.out
              go_wp2_with fail
              refine (HM2.out _ (HA.out.below B.out)).mono ?_
              rintro e w14 ⟨rfl, hb14⟩
              have Q' := Lib.hid ((hb14.block _ (row_lt Q.out)).trans Q.out)
              have B' := Lib.hid (below_on B.out hb14)
              clear hb14 Q B y0 y1 y2 y3 y4 y5 y6 y7 y8 y9
              have Q := Q'
              have B := B'
              clear Q' B'
              obtain ⟨y0, y1, y2, y3, y4, y5, y6, y7, y8, y9⟩ := at10 Q.out
              go_wp2_with fail
              refine (HI2.out _).mono ?_
              rintro e w15 ⟨rfl, hb15⟩
              have Q' := Lib.hid ((hb15.block _ (row_lt Q.out)).trans Q.out)
              have B' := Lib.hid (below_on B.out hb15)
              clear hb15 Q B y0 y1 y2 y3 y4 y5 y6 y7 y8 y9
              have Q := Q'
              have B := B'
              clear Q' B'
              go_wp2_with fail
              go_ret
              exact ⟨ret_bool (by simp), B.out⟩
      · obtain ⟨s0, hs0⟩ : ∃ s0, a.path[0]? = some s0 := ⟨_, List.getElem?_eq_getElem (by omega)⟩
        have FV : firstN a.path = if s0.1 then 0 else s0.2.headD 0 := by
          obtain ⟨h1, h2⟩ := List.getElem?_eq_some_iff.1 hs0
          cases hp : a.path with
          | nil => rw [hp] at h1; simp at h1
          | cons x xs =>
            simp only [hp, List.getElem_cons_zero] at h2
            rw [← h2]; rfl
        obtain ⟨b, off, hsa, hP⟩ := HV.out (by omega)
        subst hsa
        obtain ⟨cs, _, ⟨u, rfl, hu⟩, hc⟩ := hP 0 s0 hs0
        have c0 := hc 0 _ rfl
        have c1 := hc 1 _ rfl
        simp only [Nat.add_zero, Nat.zero_mul] at c0 c1
        obtain ⟨su, cu, rfl, huc, hum, hU⟩ := hu
        have e0 : ((a.path.length : Int) > 0) := by omega
        clear hs0 hP hc
        obtain ⟨sb, hsb⟩ : ∃ sb, s0.1 = sb := ⟨_, rfl⟩
        rw [hsb] at FV c0
        clear hsb
        cases sb
        · by_cases hl0 : s0.2.length = 0
          · have HF2 := Lib.hid (fun W h => HF.out W h)
            rw [FV, List.length_eq_zero_iff.1 hl0] at HF2
            simp only [List.headD_nil, Bool.false_eq_true, if_false] at HF2
            have e1 : ¬ ((s0.2.length : Int) > 0) := by omega
            clear FV hU hl0
            obtain ⟨wo, hwo⟩ : ∃ wo : World, wo = wr := ⟨_, rfl⟩
            rw [← hwo] at Q B ⊢
            clear hwo
            have c0 := (B.out.cell (size_lt c0)).trans c0
            have c1 := (B.out.cell (size_lt c1)).trans c1
            have y2 := row_cell Q.out 2
            go_wp2_with fail
            clear y2 c0 c1
            go_loopw [14, 15] (fun mv iv wx => ∃ i : Nat, i ≤ 3 ∧ iv = .int .i64 i ∧ mv = .int .i64 (mN a.has i) ∧ wx = wo) (fun _ iv _ => (intOf iv).toNat)
            case atStart => exact ⟨3, by omega, rfl, rfl, rfl⟩
            case round =>
              obtain ⟨i, hi, rfl, rfl, rfl⟩ := hrel
              by_cases hi1 : 1 ≤ i
              · obtain ⟨z3, hz3⟩ : ∃ z3, zB a.has i = z3 := ⟨_, rfl⟩
                have MS := Lib.hid (mN_step a.has hi1 hi)
                rw [hz3] at MS
                have i0 : (1 : Int) ≤ (i : Int) := by omega
                have i3 : i < 64 := by omega
                have i63 : (i : Int) ≤ 3 := by omega
                have y0 := row_cell Q.out 0
                cases z3
                · have hb : (bits .and .i64 (a.has / 2 ^ i) 1 == 0) = false := hz3
                  have hb2 : ¬ bits .and .i64 (a.has / 2 ^ i) 1 = 0 := beq_eq_false_iff_ne.1 hz3
                  have M2 : Hid (mN a.has (i - 1) = mN a.has i) := Lib.hid (by rw [MS.out]; simp)
                  clear hz3 MS
                  go_wp2_with fail
                  exact ⟨⟨i - 1, by omega, by congr 1; omega, by rw [M2.out], trivial⟩, by simp [intOf]; omega⟩
                · have hb : (bits .and .i64 (a.has / 2 ^ i) 1 == 0) = true := hz3
                  have hb2 : (bits .and .i64 (a.has / 2 ^ i) 1 = 0) = True := eq_true (beq_iff_eq.1 hz3)
                  have M2 : Hid (mN a.has (i - 1) = i) := Lib.hid (by rw [MS.out]; simp)
                  clear hz3 MS
                  go_wp2_with fail
                  exact ⟨⟨i - 1, by omega, by congr 1; omega, by rw [M2.out], trivial⟩, by simp [intOf]; omega⟩
              · obtain rfl : i = 0 := by omega
                have HM2 := Lib.hid (fun W h => HM.out W h)
                rw [← mN_miss] at HM2
                clear hi hi1
                by_cases ht1 : t ≥ 1
                · by_cases ht8 : t ≤ 8
                  · obtain ⟨n, rfl⟩ := Int.eq_ofNat_of_zero_le (show 0 ≤ t by omega)
                    have n63 : n < 64 := by omega
                    obtain ⟨z2, hz2⟩ : ∃ z2, (bits .and .i64 (a.has / 2 ^ n) 1 == 1) = z2 := ⟨_, rfl⟩
                    have EI : Hid (isB a.has (n : Int) = z2) := Lib.hid (by
                      unfold isB knownB
                      rw [decide_eq_true (show (1 : Int) ≤ (n : Int) from ht1), decide_eq_true (show (n : Int) ≤ 8 from ht8)]
                      exact hz2)
                    have HI2 := Lib.hid (fun W => HI.out W)
                    rw [EI.out] at HI2
                    clear EI
                    obtain ⟨y0, y1, y2, y3, y4, y5, y6, y7, y8, y9⟩ := at10 Q.out
                    go_wp2_with fail
                    refine (HH.out _ ((HA.out.below B.out).1) (by have := HB.out; omega)).mono ?_
                    rintro e w11 ⟨rfl, hb11⟩
                    have Q' := Lib.hid ((hb11.block _ (row_lt Q.out)).trans Q.out)
                    have B' := Lib.hid (below_on B.out hb11)
                    clear hb11 Q B y0 y1 y2 y3 y4 y5 y6 y7 y8 y9
                    have Q := Q'
                    have B := B'
                    clear Q' B'
                    obtain ⟨y0, y1, y2, y3, y4, y5, y6, y7, y8, y9⟩ := at10 Q.out
                    go_wp2_with fail
                    refine (HS2.out _ (HA.out.below B.out)).mono ?_
                    rintro e w12 ⟨rfl, hb12⟩
                    have Q' := Lib.hid ((hb12.block _ (row_lt Q.out)).trans Q.out)
                    have B' := Lib.hid (below_on B.out hb12)
                    clear hb12 Q B y0 y1 y2 y3 y4 y5 y6 y7 y8 y9
                    have Q := Q'
                    have B := B'
                    clear Q' B'
                    obtain ⟨y0, y1, y2, y3, y4, y5, y6, y7, y8, y9⟩ := at10 Q.out
                    go_wp2_with fail
                    refine (HF2.out _ ((HA.out.below B.out).1)).mono ?_
                    rintro e w13 ⟨rfl, hb13⟩
                    have Q' := Lib.hid ((hb13.block _ (row_lt Q.out)).trans Q.out)
                    have B' := Lib.hid (below_on B.out hb13)
                    clear hb13 Q B y0 y1 y2 y3 y4 y5 y6 y7 y8 y9
                    have Q := Q'
                    have B := B'
                    clear Q' B'
                    obtain ⟨y0, y1, y2, y3, y4, y5, y6, y7, y8, y9⟩ := at10 Q.out
                    go_wp2_with fail
                    refine (HM2.out _ (HA.out.below B.out)).mono ?_
                    rintro e w14 ⟨rfl, hb14⟩
                    have Q' := Lib.hid ((hb14.block _ (row_lt Q.out)).trans Q.out)
                    have B' := Lib.hid (below_on B.out hb14)
                    clear hb14 Q B y0 y1 y2 y3 y4 y5 y6 y7 y8 y9
                    have Q := Q'
                    have B := B'
                    clear Q' B'
                    obtain ⟨y0, y1, y2, y3, y4, y5, y6, y7, y8, y9⟩ := at10 Q.out
                    go_wp2_with fail
                    refine (HI2.out _).mono ?_
                    rintro e w15 ⟨rfl, hb15⟩
                    have Q' := Lib.hid ((hb15.block _ (row_lt Q.out)).trans Q.out)
                    have B' := Lib.hid (below_on B.out hb15)
                    clear hb15 Q B y0 y1 y2 y3 y4 y5 y6 y7 y8 y9
                    have Q := Q'
                    have B := B'
                    clear Q' B'
                    go_wp2_with fail
                    go_ret
                    exact ⟨ret_bool (by simp), B.out⟩
                  · have HI2 := Lib.hid (fun W => HI.out W)
                    rw [show isB a.has t = false by unfold isB knownB; rw [decide_eq_false ht8, Bool.and_false, Bool.false_and]] at HI2
                    obtain ⟨y0, y1, y2, y3, y4, y5, y6, y7, y8, y9⟩ := at10 Q.out
                    go_wp2_with fail
                    refine (HH.out _ ((HA.out.below B.out).1) (by have := HB.out; omega)).mono ?_
                    rintro e w11 ⟨rfl, hb11⟩
                    have Q' := Lib.hid ((hb11.block _ (row_lt Q.out)).trans Q.out)
                    have B' := Lib.hid (below_on B.out hb11)
                    clear hb11 Q B y0 y1 y2 y3 y4 y5 y6 y7 y8 y9
                    have Q := Q'
                    have B := B'
                    clear Q' B'
                    obtain ⟨y0, y1, y2, y3, y4, y5, y6, y7, y8, y9⟩ := at10 Q.out
                    go_wp2_with fail
                    refine (HS2.out _ (HA.out.below B.out)).mono ?_
                    rintro e w12 ⟨rfl, hb12⟩
                    have Q' := Lib.hid ((hb12.block _ (row_lt Q.out)).trans Q.out)
                    have B' := Lib.hid (below_on B.out hb12)
                    clear hb12 Q B y0 y1 y2 y3 y4 y5 y6 y7 y8 y9
                    have Q := Q'
                    have B := B'
                    clear Q' B'
                    obtain ⟨y0, y1, y2, y3, y4, y5, y6, y7, y8, y9⟩ := at10 Q.out
                    go_wp2_with fail
                    refine (HF2.out _ ((HA.out.below B.out).1)).mono ?_
                    rintro e w13 ⟨rfl, hb13⟩
                    have Q' := Lib.hid ((hb13.block _ (row_lt Q.out)).trans Q.out)
                    have B' := Lib.hid (below_on B.out hb13)
                    clear hb13 Q B y0 y1 y2 y3 y4 y5 y6 y7 y8 y9
                    have Q := Q'
                    have B := B'
                    clear Q' B'
                    obtain ⟨y0, y1, y2, y3, y4, y5, y6, y7, y8, y9⟩ := at10 Q.out
                    go_wp2_with fail
                    refine (HM2.out _ (HA.out.below B.out)).mono ?_
                    rintro e w14 ⟨rfl, hb14⟩
                    have Q' := Lib.hid ((hb14.block _ (row_lt Q.out)).trans Q.out)
                    have B' := Lib.hid (below_on B.out hb14)
                    clear hb14 Q B y0 y1 y2 y3 y4 y5 y6 y7 y8 y9
                    have Q := Q'
                    have B := B'
                    clear Q' B'
                    obtain ⟨y0, y1, y2, y3, y4, y5, y6, y7, y8, y9⟩ := at10 Q.out
                    go_wp2_with fail
                    refine (HI2.out _).mono ?_
                    rintro e w15 ⟨rfl, hb15⟩
                    have Q' := Lib.hid ((hb15.block _ (row_lt Q.out)).trans Q.out)
                    have B' := Lib.hid (below_on B.out hb15)
                    clear hb15 Q B y0 y1 y2 y3 y4 y5 y6 y7 y8 y9
                    have Q := Q'
                    have B := B'
                    clear Q' B'
                    go_wp2_with fail
                    go_ret
                    exact ⟨ret_bool (by simp), B.out⟩
                · have HI2 := Lib.hid (fun W => HI.out W)
                  rw [show isB a.has t = false by unfold isB knownB; rw [decide_eq_false ht1, Bool.false_and, Bool.false_and]] at HI2
                  obtain ⟨y0, y1, y2, y3, y4, y5, y6, y7, y8, y9⟩ := at10 Q.out
                  go_wp2_with fail
                  refine (HH.out _ ((HA.out.below B.out).1) (by have := HB.out; omega)).mono ?_
                  rintro e w11 ⟨rfl, hb11⟩
                  have Q' := Lib.hid ((hb11.block _ (row_lt Q.out)).trans Q.out)
                  have B' := Lib.hid (below_on B.out hb11)
                  clear hb11 Q B y0 y1 y2 y3 y4 y5 y6 y7 y8 y9
                  have Q := Q'
                  have B := B'
                  clear Q' B'
                  obtain ⟨y0, y1, y2, y3, y4, y5, y6, y7, y8, y9⟩ := at10 Q.out
                  go_wp2_with fail
                  refine (HS2.out _ (HA.out.below B.out)).mono ?_
                  rintro e w12 ⟨rfl, hb12⟩
                  have Q' := Lib.hid ((hb12.block _ (row_lt Q.out)).trans Q.out)
                  have B' := Lib.hid (below_on B.out hb12)
                  clear hb12 Q B y0 y1 y2 y3 y4 y5 y6 y7 y8 y9
                  have Q := Q'
                  have B := B'
                  clear Q' B'
                  obtain ⟨y0, y1, y2, y3, y4, y5, y6, y7, y8, y9⟩ := at10 Q.out
                  go_wp2_with fail
                  refine (HF2.out _ ((HA.out.below B.out).1)).mono ?_
                  rintro e w13 ⟨rfl, hb13⟩
                  have Q' := Lib.hid ((hb13.block _ (row_lt Q.out)).trans Q.out)
                  have B' := Lib.hid (below_on B.out hb13)
                  clear hb13 Q B y0 y1 y2 y3 y4 y5 y6 y7 y8 y9
                  have Q := Q'
                  have B := B'
                  clear Q' B'
                  obtain ⟨y0, y1, y2, y3, y4, y5, y6, y7, y8, y9⟩ := at10 Q.out
                  go_wp2_with fail
                  refine (HM2.out _ (HA.out.below B.out)).mono ?_
                  rintro e w14 ⟨rfl, hb14⟩
                  have Q' := Lib.hid ((hb14.block _ (row_lt Q.out)).trans Q.out)
                  have B' := Lib.hid (below_on B.out hb14)
                  clear hb14 Q B y0 y1 y2 y3 y4 y5 y6 y7 y8 y9
                  have Q := Q'
                  have B := B'
                  clear Q' B'
                  obtain ⟨y0, y1, y2, y3, y4, y5, y6, y7, y8, y9⟩ := at10 Q.out
                  go_wp2_with fail
                  refine (HI2.out _).mono ?_
                  rintro e w15 ⟨rfl, hb15⟩
                  have Q' := Lib.hid ((hb15.block _ (row_lt Q.out)).trans Q.out)
                  have B' := Lib.hid (below_on B.out hb15)
                  clear hb15 Q B y0 y1 y2 y3 y4 y5 y6 y7 y8 y9
                  have Q := Q'
                  have B := B'
                  clear Q' B'
                  go_wp2_with fail
                  go_ret
                  exact ⟨ret_bool (by simp), B.out⟩
          · obtain ⟨b2, off2, rfl, hP2⟩ := hU (by omega)
            obtain ⟨x, hx⟩ : ∃ x, s0.2[0]? = some x := ⟨_, List.getElem?_eq_getElem (by omega)⟩
            obtain ⟨cs2, _, ⟨rfl, _⟩, hc2⟩ := hP2 0 x hx
            have x0 := hc2 0 _ rfl
            simp only [Nat.add_zero, Nat.zero_mul] at x0
            have HF2 := Lib.hid (fun W h => HF.out W h)
            rw [FV] at HF2
            rw [show s0.2.headD 0 = x by
              cases hp : s0.2 with
              | nil => rw [hp] at hx; simp at hx
              | cons y ys => rw [hp] at hx; simp at hx; rw [← hx]; rfl] at HF2
            simp only [Bool.false_eq_true, if_false] at HF2
            have e1 : ((s0.2.length : Int) > 0) := by omega
            clear FV hU hP2 hc2 hx
            obtain ⟨wo, hwo⟩ : ∃ wo : World, wo = wr := ⟨_, rfl⟩
            rw [← hwo] at Q B ⊢
            clear hwo
            have c0 := (B.out.cell (size_lt c0)).trans c0
            have c1 := (B.out.cell (size_lt c1)).trans c1
            have x0 := (B.out.cell (size_lt x0)).trans x0
            have y2 := row_cell Q.out 2
            go_wp2_with fail
            clear y2 c0 c1 x0
            go_loopw [14, 15] (fun mv iv wx => ∃ i : Nat, i ≤ 3 ∧ iv = .int .i64 i ∧ mv = .int .i64 (mN a.has i) ∧ wx = wo) (fun _ iv _ => (intOf iv).toNat)
            case atStart => exact ⟨3, by omega, rfl, rfl, rfl⟩
            case round =>
              obtain ⟨i, hi, rfl, rfl, rfl⟩ := hrel
              by_cases hi1 : 1 ≤ i
              · obtain ⟨z3, hz3⟩ : ∃ z3, zB a.has i = z3 := ⟨_, rfl⟩
                have MS := Lib.hid (mN_step a.has hi1 hi)
                rw [hz3] at MS
                have i0 : (1 : Int) ≤ (i : Int) := by omega
                have i3 : i < 64 := by omega
                have i63 : (i : Int) ≤ 3 := by omega
                have y0 := row_cell Q.out 0
                cases z3
                · have hb : (bits .and .i64 (a.has / 2 ^ i) 1 == 0) = false := hz3
                  have hb2 : ¬ bits .and .i64 (a.has / 2 ^ i) 1 = 0 := beq_eq_false_iff_ne.1 hz3
                  have M2 : Hid (mN a.has (i - 1) = mN a.has i) := Lib.hid (by rw [MS.out]; simp)
                  clear hz3 MS
                  go_wp2_with fail
                  exact ⟨⟨i - 1, by omega, by congr 1; omega, by rw [M2.out], trivial⟩, by simp [intOf]; omega⟩
                · have hb : (bits .and .i64 (a.has / 2 ^ i) 1 == 0) = true := hz3
                  have hb2 : (bits .and .i64 (a.has / 2 ^ i) 1 = 0) = True := eq_true (beq_iff_eq.1 hz3)
                  have M2 : Hid (mN a.has (i - 1) = i) := Lib.hid (by rw [MS.out]; simp)
                  clear hz3 MS
                  go_wp2_with fail
                  exact ⟨⟨i - 1, by omega, by congr 1; omega, by rw [M2.out], trivial⟩, by simp [intOf]; omega⟩
              · obtain rfl : i = 0 := by omega
                have HM2 := Lib.hid (fun W h => HM.out W h)
                rw [← mN_miss] at HM2
                clear hi hi1
                by_cases ht1 : t ≥ 1
                · by_cases ht8 : t ≤ 8
                  · obtain ⟨n, rfl⟩ := Int.eq_ofNat_of_zero_le (show 0 ≤ t by omega)
                    have n63 : n < 64 := by omega
                    obtain ⟨z2, hz2⟩ : ∃ z2, (bits .and .i64 (a.has / 2 ^ n) 1 == 1) = z2 := ⟨_, rfl⟩
                    have EI : Hid (isB a.has (n : Int) = z2) := Lib.hid (by
                      unfold isB knownB
                      rw [decide_eq_true (show (1 : Int) ≤ (n : Int) from ht1), decide_eq_true (show (n : Int) ≤ 8 from ht8)]
                      exact hz2)
                    have HI2 := Lib.hid (fun W => HI.out W)
                    rw [EI.out] at HI2
                    clear EI
                    obtain ⟨y0, y1, y2, y3, y4, y5, y6, y7, y8, y9⟩ := at10 Q.out
                    go_wp2_with fail
                    refine (HH.out _ ((HA.out.below B.out).1) (by have := HB.out; omega)).mono ?_
                    rintro e w11 ⟨rfl, hb11⟩
                    have Q' := Lib.hid ((hb11.block _ (row_lt Q.out)).trans Q.out)
                    have B' := Lib.hid (below_on B.out hb11)
                    clear hb11 Q B y0 y1 y2 y3 y4 y5 y6 y7 y8 y9
                    have Q := Q'
                    have B := B'
                    clear Q' B'
                    obtain ⟨y0, y1, y2, y3, y4, y5, y6, y7, y8, y9⟩ := at10 Q.out
                    go_wp2_with fail
                    refine (HS2.out _ (HA.out.below B.out)).mono ?_
                    rintro e w12 ⟨rfl, hb12⟩
                    have Q' := Lib.hid ((hb12.block _ (row_lt Q.out)).trans Q.out)
                    have B' := Lib.hid (below_on B.out hb12)
                    clear hb12 Q B y0 y1 y2 y3 y4 y5 y6 y7 y8 y9
                    have Q := Q'
                    have B := B'
                    clear Q' B'
                    obtain ⟨y0, y1, y2, y3, y4, y5, y6, y7, y8, y9⟩ := at10 Q.out
                    go_wp2_with fail
                    refine (HF2.out _ ((HA.out.below B.out).1)).mono ?_
                    rintro e w13 ⟨rfl, hb13⟩
                    have Q' := Lib.hid ((hb13.block _ (row_lt Q.out)).trans Q.out)
                    have B' := Lib.hid (below_on B.out hb13)
                    clear hb13 Q B y0 y1 y2 y3 y4 y5 y6 y7 y8 y9
                    have Q := Q'
                    have B := B'
                    clear Q' B'
                    obtain ⟨y0, y1, y2, y3, y4, y5, y6, y7, y8, y9⟩ := at10 Q.out
                    go_wp2_with fail
                    refine (HM2.out _ (HA.out.below B.out)).mono ?_
                    rintro e w14 ⟨rfl, hb14⟩
                    have Q' := Lib.hid ((hb14.block _ (row_lt Q.out)).trans Q.out)
                    have B' := Lib.hid (below_on B.out hb14)
                    clear hb14 Q B y0 y1 y2 y3 y4 y5 y6 y7 y8 y9
                    have Q := Q'
                    have B := B'
                    clear Q' B'
                    obtain ⟨y0, y1, y2, y3, y4, y5, y6, y7, y8, y9⟩ := at10 Q.out
                    go_wp2_with fail
                    refine (HI2.out _).mono ?_
                    rintro e w15 ⟨rfl, hb15⟩
                    have Q' := Lib.hid ((hb15.block _ (row_lt Q.out)).trans Q.out)
                    have B' := Lib.hid (below_on B.out hb15)
                    clear hb15 Q B y0 y1 y2 y3 y4 y5 y6 y7 y8 y9
                    have Q := Q'
                    have B := B'
                    clear Q' B'
                    go_wp2_with fail
                    go_ret
                    exact ⟨ret_bool (by simp), B.out⟩
                  · have HI2 := Lib.hid (fun W => HI.out W)
                    rw [show isB a.has t = false by unfold isB knownB; rw [decide_eq_false ht8, Bool.and_false, Bool.false_and]] at HI2
                    obtain ⟨y0, y1, y2, y3, y4, y5, y6, y7, y8, y9⟩ := at10 Q.out
                    go_wp2_with fail
                    refine (HH.out _ ((HA.out.below B.out).1) (by have := HB.out; omega)).mono ?_
                    rintro e w11 ⟨rfl, hb11⟩
                    have Q' := Lib.hid ((hb11.block _ (row_lt Q.out)).trans Q.out)
                    have B' := Lib.hid (below_on B.out hb11)
                    clear hb11 Q B y0 y1 y2 y3 y4 y5 y6 y7 y8 y9
                    have Q := Q'
                    have B := B'
                    clear Q' B'
                    obtain ⟨y0, y1, y2, y3, y4, y5, y6, y7, y8, y9⟩ := at10 Q.out
                    go_wp2_with fail
                    refine (HS2.out _ (HA.out.below B.out)).mono ?_
                    rintro e w12 ⟨rfl, hb12⟩
                    have Q' := Lib.hid ((hb12.block _ (row_lt Q.out)).trans Q.out)
                    have B' := Lib.hid (below_on B.out hb12)
                    clear hb12 Q B y0 y1 y2 y3 y4 y5 y6 y7 y8 y9
                    have Q := Q'
                    have B := B'
                    clear Q' B'
                    obtain ⟨y0, y1, y2, y3, y4, y5, y6, y7, y8, y9⟩ := at10 Q.out
                    go_wp2_with fail
                    refine (HF2.out _ ((HA.out.below B.out).1)).mono ?_
                    rintro e w13 ⟨rfl, hb13⟩
                    have Q' := Lib.hid ((hb13.block _ (row_lt Q.out)).trans Q.out)
                    have B' := Lib.hid (below_on B.out hb13)
                    clear hb13 Q B y0 y1 y2 y3 y4 y5 y6 y7 y8 y9
                    have Q := Q'
                    have B := B'
                    clear Q' B'
                    obtain ⟨y0, y1, y2, y3, y4, y5, y6, y7, y8, y9⟩ := at10 Q.out
                    go_wp2_with fail
                    refine (HM2.out _ (HA.out.below B.out)).mono ?_
                    rintro e w14 ⟨rfl, hb14⟩
                    have Q' := Lib.hid ((hb14.block _ (row_lt Q.out)).trans Q.out)
                    have B' := Lib.hid (below_on B.out hb14)
                    clear hb14 Q B y0 y1 y2 y3 y4 y5 y6 y7 y8 y9
                    have Q := Q'
                    have B := B'
                    clear Q' B'
                    obtain ⟨y0, y1, y2, y3, y4, y5, y6, y7, y8, y9⟩ := at10 Q.out
                    go_wp2_with fail
                    refine (HI2.out _).mono ?_
                    rintro e w15 ⟨rfl, hb15⟩
                    have Q' := Lib.hid ((hb15.block _ (row_lt Q.out)).trans Q.out)
                    have B' := Lib.hid (below_on B.out hb15)
                    clear hb15 Q B y0 y1 y2 y3 y4 y5 y6 y7 y8 y9
                    have Q := Q'
                    have B := B'
                    clear Q' B'
                    go_wp2_with fail
                    go_ret
                    exact ⟨ret_bool (by simp), B.out⟩
                · have HI2 := Lib.hid (fun W => HI.out W)
                  rw [show isB a.has t = false by unfold isB knownB; rw [decide_eq_false ht1, Bool.false_and, Bool.false_and]] at HI2
                  obtain ⟨y0, y1, y2, y3, y4, y5, y6, y7, y8, y9⟩ := at10 Q.out
                  go_wp2_with fail
                  refine (HH.out _ ((HA.out.below B.out).1) (by have := HB.out; omega)).mono ?_
                  rintro e w11 ⟨rfl, hb11⟩
                  have Q' := Lib.hid ((hb11.block _ (row_lt Q.out)).trans Q.out)
                  have B' := Lib.hid (below_on B.out hb11)
                  clear hb11 Q B y0 y1 y2 y3 y4 y5 y6 y7 y8 y9
                  have Q := Q'
                  have B := B'
                  clear Q' B'
                  obtain ⟨y0, y1, y2, y3, y4, y5, y6, y7, y8, y9⟩ := at10 Q.out
                  go_wp2_with fail
                  refine (HS2.out _ (HA.out.below B.out)).mono ?_
                  rintro e w12 ⟨rfl, hb12⟩
                  have Q' := Lib.hid ((hb12.block _ (row_lt Q.out)).trans Q.out)
                  have B' := Lib.hid (below_on B.out hb12)
                  clear hb12 Q B y0 y1 y2 y3 y4 y5 y6 y7 y8 y9
                  have Q := Q'
                  have B := B'
                  clear Q' B'
                  obtain ⟨y0, y1, y2, y3, y4, y5, y6, y7, y8, y9⟩ := at10 Q.out
                  go_wp2_with fail
                  refine (HF2.out _ ((HA.out.below B.out).1)).mono ?_
                  rintro e w13 ⟨rfl, hb13⟩
                  have Q' := Lib.hid ((hb13.block _ (row_lt Q.out)).trans Q.out)
                  have B' := Lib.hid (below_on B.out hb13)
                  clear hb13 Q B y0 y1 y2 y3 y4 y5 y6 y7 y8 y9
                  have Q := Q'
                  have B := B'
                  clear Q' B'
                  obtain ⟨y0, y1, y2, y3, y4, y5, y6, y7, y8, y9⟩ := at10 Q.out
                  go_wp2_with fail
                  refine (HM2.out _ (HA.out.below B.out)).mono ?_
                  rintro e w14 ⟨rfl, hb14⟩
                  have Q' := Lib.hid ((hb14.block _ (row_lt Q.out)).trans Q.out)
                  have B' := Lib.hid (below_on B.out hb14)
                  clear hb14 Q B y0 y1 y2 y3 y4 y5 y6 y7 y8 y9
                  have Q := Q'
                  have B := B'
                  clear Q' B'
                  obtain ⟨y0, y1, y2, y3, y4, y5, y6, y7, y8, y9⟩ := at10 Q.out
                  go_wp2_with fail
                  refine (HI2.out _).mono ?_
                  rintro e w15 ⟨rfl, hb15⟩
                  have Q' := Lib.hid ((hb15.block _ (row_lt Q.out)).trans Q.out)
                  have B' := Lib.hid (below_on B.out hb15)
                  clear hb15 Q B y0 y1 y2 y3 y4 y5 y6 y7 y8 y9
                  have Q := Q'
                  have B := B'
                  clear Q' B'
                  go_wp2_with fail
                  go_ret
                  exact ⟨ret_bool (by simp), B.out⟩
        · have HF2 := Lib.hid (fun W h => HF.out W h)
          rw [FV] at HF2
          simp only [if_true] at HF2
          clear FV hU
          obtain ⟨wo, hwo⟩ : ∃ wo : World, wo = wr := ⟨_, rfl⟩
          rw [← hwo] at Q B ⊢
          clear hwo
          have c0 := (B.out.cell (size_lt c0)).trans c0
          have c1 := (B.out.cell (size_lt c1)).trans c1
          have y2 := row_cell Q.out 2
          go_wp2_with fail
          clear y2 c0 c1
          go_loopw [14, 15] (fun mv iv wx => ∃ i : Nat, i ≤ 3 ∧ iv = .int .i64 i ∧ mv = .int .i64 (mN a.has i) ∧ wx = wo) (fun _ iv _ => (intOf iv).toNat)
          case atStart => exact ⟨3, by omega, rfl, rfl, rfl⟩
          case round =>
            obtain ⟨i, hi, rfl, rfl, rfl⟩ := hrel
            by_cases hi1 : 1 ≤ i
            · obtain ⟨z3, hz3⟩ : ∃ z3, zB a.has i = z3 := ⟨_, rfl⟩
              have MS := Lib.hid (mN_step a.has hi1 hi)
              rw [hz3] at MS
              have i0 : (1 : Int) ≤ (i : Int) := by omega
              have i3 : i < 64 := by omega
              have i63 : (i : Int) ≤ 3 := by omega
              have y0 := row_cell Q.out 0
              cases z3
              · have hb : (bits .and .i64 (a.has / 2 ^ i) 1 == 0) = false := hz3
                have hb2 : ¬ bits .and .i64 (a.has / 2 ^ i) 1 = 0 := beq_eq_false_iff_ne.1 hz3
                have M2 : Hid (mN a.has (i - 1) = mN a.has i) := Lib.hid (by rw [MS.out]; simp)
                clear hz3 MS
                go_wp2_with fail
                exact ⟨⟨i - 1, by omega, by congr 1; omega, by rw [M2.out], trivial⟩, by simp [intOf]; omega⟩
              · have hb : (bits .and .i64 (a.has / 2 ^ i) 1 == 0) = true := hz3
                have hb2 : (bits .and .i64 (a.has / 2 ^ i) 1 = 0) = True := eq_true (beq_iff_eq.1 hz3)
                have M2 : Hid (mN a.has (i - 1) = i) := Lib.hid (by rw [MS.out]; simp)
                clear hz3 MS
                go_wp2_with fail
                exact ⟨⟨i - 1, by omega, by congr 1; omega, by rw [M2.out], trivial⟩, by simp [intOf]; omega⟩
            · obtain rfl : i = 0 := by omega
              have HM2 := Lib.hid (fun W h => HM.out W h)
              rw [← mN_miss] at HM2
              clear hi hi1
              by_cases ht1 : t ≥ 1
              · by_cases ht8 : t ≤ 8
                · obtain ⟨n, rfl⟩ := Int.eq_ofNat_of_zero_le (show 0 ≤ t by omega)
                  have n63 : n < 64 := by omega
                  obtain ⟨z2, hz2⟩ : ∃ z2, (bits .and .i64 (a.has / 2 ^ n) 1 == 1) = z2 := ⟨_, rfl⟩
                  have EI : Hid (isB a.has (n : Int) = z2) := Lib.hid (by
                    unfold isB knownB
                    rw [decide_eq_true (show (1 : Int) ≤ (n : Int) from ht1), decide_eq_true (show (n : Int) ≤ 8 from ht8)]
                    exact hz2)
                  have HI2 := Lib.hid (fun W => HI.out W)
                  rw [EI.out] at HI2
                  clear EI
                  obtain ⟨y0, y1, y2, y3, y4, y5, y6, y7, y8, y9⟩ := at10 Q.out
                  go_wp2_with fail
                  refine (HH.out _ ((HA.out.below B.out).1) (by have := HB.out; omega)).mono ?_
                  rintro e w11 ⟨rfl, hb11⟩
                  have Q' := Lib.hid ((hb11.block _ (row_lt Q.out)).trans Q.out)
                  have B' := Lib.hid (below_on B.out hb11)
                  clear hb11 Q B y0 y1 y2 y3 y4 y5 y6 y7 y8 y9
                  have Q := Q'
                  have B := B'
                  clear Q' B'
                  obtain ⟨y0, y1, y2, y3, y4, y5, y6, y7, y8, y9⟩ := at10 Q.out
                  go_wp2_with fail
                  refine (HS2.out _ (HA.out.below B.out)).mono ?_
                  rintro e w12 ⟨rfl, hb12⟩
                  have Q' := Lib.hid ((hb12.block _ (row_lt Q.out)).trans Q.out)
                  have B' := Lib.hid (below_on B.out hb12)
                  clear hb12 Q B y0 y1 y2 y3 y4 y5 y6 y7 y8 y9
                  have Q := Q'
                  have B := B'
                  clear Q' B'
                  obtain ⟨y0, y1, y2, y3, y4, y5, y6, y7, y8, y9⟩ := at10 Q.out
                  go_wp2_with fail
                  refine (HF2.out _ ((HA.out.below B.out).1)).mono ?_
                  rintro e w13 ⟨rfl, hb13⟩
                  have Q' := Lib.hid ((hb13.block _ (row_lt Q.out)).trans Q.out)
                  have B' := Lib.hid (below_on B.out hb13)
                  clear hb13 Q B y0 y1 y2 y3 y4 y5 y6 y7 y8 y9
                  have Q := Q'
                  have B := B'
                  clear Q' B'
                  obtain ⟨y0, y1, y2, y3, y4, y5, y6, y7, y8, y9⟩ := at10 Q.out
                  go_wp2_with fail
                  refine (HM2.out _ (HA.out.below B.out)).mono ?_
                  rintro e w14 ⟨rfl, hb14⟩
                  have Q' := Lib.hid ((hb14.block _ (row_lt Q.out)).trans Q.out)
                  have B' := Lib.hid (below_on B.out hb14)
                  clear hb14 Q B y0 y1 y2 y3 y4 y5 y6 y7 y8 y9
                  have Q := Q'
                  have B := B'
                  clear Q' B'
                  obtain ⟨y0, y1, y2, y3, y4, y5, y6, y7, y8, y9⟩ := at10 Q.out
                  go_wp2_with fail
                  refine (HI2.out _).mono ?_
                  rintro e w15 ⟨rfl, hb15⟩
                  have Q' := Lib.hid ((hb15.block _ (row_lt Q.out)).trans Q.out)
                  have B' := Lib.hid (below_on B.out hb15)
                  clear hb15 Q B y0 y1 y2 y3 y4 y5 y6 y7 y8 y9
                  have Q := Q'
                  have B := B'
                  clear Q' B'
                  go_wp2_with fail
                  go_ret
                  exact ⟨ret_bool (by simp), B.out⟩
                · have HI2 := Lib.hid (fun W => HI.out W)
                  rw [show isB a.has t = false by unfold isB knownB; rw [decide_eq_false ht8, Bool.and_false, Bool.false_and]] at HI2
                  obtain ⟨y0, y1, y2, y3, y4, y5, y6, y7, y8, y9⟩ := at10 Q.out
                  go_wp2_with fail
                  refine (HH.out _ ((HA.out.below B.out).1) (by have := HB.out; omega)).mono ?_
                  rintro e w11 ⟨rfl, hb11⟩
                  have Q' := Lib.hid ((hb11.block _ (row_lt Q.out)).trans Q.out)
                  have B' := Lib.hid (below_on B.out hb11)
                  clear hb11 Q B y0 y1 y2 y3 y4 y5 y6 y7 y8 y9
                  have Q := Q'
                  have B := B'
                  clear Q' B'
                  obtain ⟨y0, y1, y2, y3, y4, y5, y6, y7, y8, y9⟩ := at10 Q.out
                  go_wp2_with fail
                  refine (HS2.out _ (HA.out.below B.out)).mono ?_
                  rintro e w12 ⟨rfl, hb12⟩
                  have Q' := Lib.hid ((hb12.block _ (row_lt Q.out)).trans Q.out)
                  have B' := Lib.hid (below_on B.out hb12)
                  clear hb12 Q B y0 y1 y2 y3 y4 y5 y6 y7 y8 y9
                  have Q := Q'
                  have B := B'
                  clear Q' B'
                  obtain ⟨y0, y1, y2, y3, y4, y5, y6, y7, y8, y9⟩ := at10 Q.out
                  go_wp2_with fail
                  refine (HF2.out _ ((HA.out.below B.out).1)).mono ?_
                  rintro e w13 ⟨rfl, hb13⟩
                  have Q' := Lib.hid ((hb13.block _ (row_lt Q.out)).trans Q.out)
                  have B' := Lib.hid (below_on B.out hb13)
                  clear hb13 Q B y0 y1 y2 y3 y4 y5 y6 y7 y8 y9
                  have Q := Q'
                  have B := B'
                  clear Q' B'
                  obtain ⟨y0, y1, y2, y3, y4, y5, y6, y7, y8, y9⟩ := at10 Q.out
                  go_wp2_with fail
                  refine (HM2.out _ (HA.out.below B.out)).mono ?_
                  rintro e w14 ⟨rfl, hb14⟩
                  have Q' := Lib.hid ((hb14.block _ (row_lt Q.out)).trans Q.out)
                  have B' := Lib.hid (below_on B.out hb14)
                  clear hb14 Q B y0 y1 y2 y3 y4 y5 y6 y7 y8 y9
                  have Q := Q'
                  have B := B'
                  clear Q' B'
                  obtain ⟨y0, y1, y2, y3, y4, y5, y6, y7, y8, y9⟩ := at10 Q.out
                  go_wp2_with fail
                  refine (HI2.out _).mono ?_
                  rintro e w15 ⟨rfl, hb15⟩
                  have Q' := Lib.hid ((hb15.block _ (row_lt Q.out)).trans Q.out)
                  have B' := Lib.hid (below_on B.out hb15)
                  clear hb15 Q B y0 y1 y2 y3 y4 y5 y6 y7 y8 y9
                  have Q := Q'
                  have B := B'
                  clear Q' B'
                  go_wp2_with fail
                  go_ret
                  exact ⟨ret_bool (by simp), B.out⟩
              · have HI2 := Lib.hid (fun W => HI.out W)
                rw [show isB a.has t = false by unfold isB knownB; rw [decide_eq_false ht1, Bool.false_and, Bool.false_and]] at HI2
                obtain ⟨y0, y1, y2, y3, y4, y5, y6, y7, y8, y9⟩ := at10 Q.out
                go_wp2_with fail
                refine (HH.out _ ((HA.out.below B.out).1) (by have := HB.out; omega)).mono ?_
                rintro e w11 ⟨rfl, hb11⟩
                have Q' := Lib.hid ((hb11.block _ (row_lt Q.out)).trans Q.out)
                have B' := Lib.hid (below_on B.out hb11)
                clear hb11 Q B y0 y1 y2 y3 y4 y5 y6 y7 y8 y9
                have Q := Q'
                have B := B'
                clear Q' B'
                obtain ⟨y0, y1, y2, y3, y4, y5, y6, y7, y8, y9⟩ := at10 Q.out
                go_wp2_with fail
                refine (HS2.out _ (HA.out.below B.out)).mono ?_
                rintro e w12 ⟨rfl, hb12⟩
                have Q' := Lib.hid ((hb12.block _ (row_lt Q.out)).trans Q.out)
                have B' := Lib.hid (below_on B.out hb12)
                clear hb12 Q B y0 y1 y2 y3 y4 y5 y6 y7 y8 y9
                have Q := Q'
                have B := B'
                clear Q' B'
                obtain ⟨y0, y1, y2, y3, y4, y5, y6, y7, y8, y9⟩ := at10 Q.out
                go_wp2_with fail
                refine (HF2.out _ ((HA.out.below B.out).1)).mono ?_
                rintro e w13 ⟨rfl, hb13⟩
                have Q' := Lib.hid ((hb13.block _ (row_lt Q.out)).trans Q.out)
                have B' := Lib.hid (below_on B.out hb13)
                clear hb13 Q B y0 y1 y2 y3 y4 y5 y6 y7 y8 y9
                have Q := Q'
                have B := B'
                clear Q' B'
                obtain ⟨y0, y1, y2, y3, y4, y5, y6, y7, y8, y9⟩ := at10 Q.out
                go_wp2_with fail
                refine (HM2.out _ (HA.out.below B.out)).mono ?_
                rintro e w14 ⟨rfl, hb14⟩
                have Q' := Lib.hid ((hb14.block _ (row_lt Q.out)).trans Q.out)
                have B' := Lib.hid (below_on B.out hb14)
                clear hb14 Q B y0 y1 y2 y3 y4 y5 y6 y7 y8 y9
                have Q := Q'
                have B := B'
                clear Q' B'
                obtain ⟨y0, y1, y2, y3, y4, y5, y6, y7, y8, y9⟩ := at10 Q.out
                go_wp2_with fail
                refine (HI2.out _).mono ?_
                rintro e w15 ⟨rfl, hb15⟩
                have Q' := Lib.hid ((hb15.block _ (row_lt Q.out)).trans Q.out)
                have B' := Lib.hid (below_on B.out hb15)
                clear hb15 Q B y0 y1 y2 y3 y4 y5 y6 y7 y8 y9
                have Q := Q'
                have B := B'
                clear Q' B'
                go_wp2_with fail
                go_ret
                exact ⟨ret_bool (by simp), B.out⟩
end Go.Proofs.YtohkbcdnlmjcjaaDoor
