/-
  CHOOSE: plains: what the reference looks at of all candidates.
-/
import Derived.Test.YtfkplbkllmnfeaaChS
import Derived.Test.YtfkplbkllmnfeaaChP
namespace Go.Proofs.Ytfkplbkllmnfeaa
open Go.RowKit

theorem info_rr : (Try.prog.info? 48).map (fun i => (i.zero, i.size, i.bytes)) = some (some (.agg rtZA), 7, 56) := by kernel_rfl
def rtL (r : Rt) : List Value := (rtA r).toList
def RtC (r : Rt) (cs : List Value) : Prop := cs = rtL r
abbrev RtsAt (w : World) (v : Value) (rs : List Rt) : Prop := SlAt w 7 RtC v rs
theorem rtL_len (r : Rt) : (rtL r).length = 7 := rfl
theorem rtL_one (r : Rt) : ∀ u ∈ rtL r, u.oneCell' = true := by
  intro u hu
  simp [rtL] at hu
  rcases hu with rfl | rfl | rfl | rfl | rfl | rfl | rfl <;> rfl
theorem RtsAt.below {w w' : World} {v : Value} {rs : List Rt} (h : RtsAt w v rs) (hb : Below w.heap.size w w') : RtsAt w' v rs := SlAt.below h hb fun _ _ h => h
theorem map_step {α β : Type} (f : α → β) {xs : List α} {k : Nat} {c : α} (h : xs[k]? = some c) : (xs.take (k + 1)).map f = (xs.take k).map f ++ [f c] := by
  obtain ⟨h1, h2⟩ := List.getElem?_eq_some_iff.1 h
  rw [List.take_succ_eq_append_getElem h1, h2, List.map_append]; rfl
set_option maxHeartbeats 6400000 in
set_option maxRecDepth 100000 in
theorem law_plains (v : Value) (xs : List Cd) (w : World) (h : CdsAt w v xs) (hn : xs.length ≤ 100000) (hh : ∀ c ∈ xs, hopsN c.a.path ≤ 4611686018427387904) :
    Calls Try.prog 14 #[v] w fun e w' => ∃ v', e = .returned v' ∧ RtsAt w' v' (xs.map rtOf) ∧ Below w.heap.size w w' := by
  obtain ⟨i0, hi, hz0, hz1, hz2⟩ := info_parts info_rr
  obtain ⟨sa, cap, rfl, hlc, hcm, hV⟩ := h
  have HV := Lib.hid hV
  have HH := Lib.hid hh
  unfold maxLen at hcm
  clear hV hh
  go_enter Try.func14, Try.ntmps14
  go_upto_region 2 with (fail)
  obtain ⟨W0, hW0⟩ : ∃ W0, W0 = w.alloc (.cells #[] 48) := ⟨_, rfl⟩
  have O0 : Hid (W0.ownsRow w.heap.size 48 7 (.slice (some ⟨w.heap.size, 0, none⟩) 0 0) 0 []) := Lib.hid (by rw [hW0]; exact own_empty (Nat.le_refl _))
  have B0 : Hid (Below w.heap.size w W0) := Lib.hid (by rw [hW0]; exact (Below.refl _ _).alloc (Nat.le_refl _) _)
  rw [← hW0]
  clear hW0
  go_wp2_with fail
  go_loopw [3, 9] (fun o i wr => ∃ k : Nat, k ≤ xs.length ∧ i = .int .i64 k ∧ Hid (wr.ownsRow w.heap.size 48 7 o k (((xs.take k).map rtOf).flatMap rtL)) ∧ Hid (Below w.heap.size w wr)) (fun _ i _ => xs.length - (intOf i).toNat)
  case atStart => exact ⟨0, by omega, rfl, O0, B0⟩
  case round =>
    clear O0 B0
    obtain ⟨k, hk, rfl, O, B⟩ := hrel
    by_cases hlt : k < xs.length
    · obtain ⟨c, hc⟩ : ∃ s, xs[k]? = some s := ⟨_, List.getElem?_eq_getElem hlt⟩
      obtain ⟨b, off, hsa, hP⟩ := HV.out (by omega)
      subst hsa
      obtain ⟨cs, _, ⟨vp, vc, vo, rfl, _, hA⟩, hcs⟩ := hP k c hc
      have HA := Lib.hid (hA)
      obtain ⟨⟨sp, cp, rfl, _⟩, ⟨sc, cc, rfl, _⟩, ⟨so, co, rfl, _⟩⟩ := hA
      obtain ⟨c0, c1, c2, c3, c4, c5, c6, c7, c8, c9, c10, c11, c12, c13⟩ := cd_cells hcs
      have c0 := (B.out.cell (size_lt c0)).trans c0
      have c1 := (B.out.cell (size_lt c1)).trans c1
      have c2 := (B.out.cell (size_lt c2)).trans c2
      have c3 := (B.out.cell (size_lt c3)).trans c3
      have c4 := (B.out.cell (size_lt c4)).trans c4
      have c5 := (B.out.cell (size_lt c5)).trans c5
      have c6 := (B.out.cell (size_lt c6)).trans c6
      have c7 := (B.out.cell (size_lt c7)).trans c7
      have c8 := (B.out.cell (size_lt c8)).trans c8
      have c9 := (B.out.cell (size_lt c9)).trans c9
      have c10 := (B.out.cell (size_lt c10)).trans c10
      have c11 := (B.out.cell (size_lt c11)).trans c11
      have c12 := (B.out.cell (size_lt c12)).trans c12
      have c13 := (B.out.cell (size_lt c13)).trans c13
      have j0 : (0 : Int) ≤ (k : Int) := by omega
      have j1 : (k : Int) < (xs.length : Int) := by omega
      have RO := Lib.hid (fun W h => ch_plain c (.slice sp c.a.path.length cp) (.slice sc c.a.comms.length cc) (.slice so c.a.others.length co) W h (HH.out c (List.mem_of_getElem? hc)))
      have ST := Lib.hid (map_step rtOf hc)
      have LN : Hid (((xs.take k).map rtOf).length = k) := Lib.hid (by rw [List.length_map, List.length_take]; omega)
      clear hP hcs hc
      go_upto_region 5 with (fail)
      obtain ⟨W1, hW1, q, hb1, _⟩ := takeCd wr (cdA c (.slice sp c.a.path.length cp) (.slice sc c.a.comms.length cc) (.slice so c.a.others.length co))
      rw [← hW1]
      clear hW1 c0 c1 c2 c3 c4 c5 c6 c7 c8 c9 c10 c11 c12 c13
      have B2 := Lib.hid (below_on B.out hb1)
      have HA1 := Lib.hid (HA.out.below B2.out)
      obtain ⟨c0, c1, c2, c3, c4, c5, c6, c7, c8, c9, c10, c11, c12, c13⟩ := cd_row q
      have O2 := Lib.hid (own_below O.out hb1)
      clear q hb1 O B
      go_wp2_with fail
      refine (RO.out _ HA1.out).mono ?_
      rintro e w3 ⟨rfl, hb3⟩
      have O3 := Lib.hid (own_below O2.out hb3)
      have B3 := Lib.hid (below_on B2.out hb3)
      clear hb3 O2 B2 c0 c1 c2 c3 c4 c5 c6 c7 c8 c9 c10 c11 c12 c13 RO
      go_wp2_with (at_builtin; refine wpList_append_own_at _ rfl _ _ 44 rfl w.heap.size 48 i0 _ 7 56 Try.underlying44 hi hz0 hz1 hz2 rfl (by decide) _ k (((xs.take k).map rtOf).flatMap rtL) rfl (O3.out.alloc _) ⟨w3.heap.size, 0, none⟩ 1 1 (rtL (rtOf c)) rfl ?ar1 ?br1 ?cr1 ?dr1 ?er1 ?fr1 ?_)
      case ar1 => rfl
      case br1 => exact new_cells _ _ _
      case cr1 => exact rtL_one _
      case dr1 => unfold maxLen; omega
      case er1 => omega
      case fr1 => have := B3.out.size; simp; omega
      intro v' w5 hown hgrow _ _
      have O5 : Hid (w5.ownsRow w.heap.size 48 7 v' (k + 1) (((xs.take (k + 1)).map rtOf).flatMap rtL)) := Lib.hid (by rw [ST.out, flat_snoc, List.map_take]; exact hown)
      have B5 := Lib.hid ((B3.out.alloc B3.out.size _).grown hgrow (by have := B3.out.size; simp; omega) (own_form_le O3.out))
      clear hown hgrow O3 B3
      go_wp2_with fail
      exact ⟨⟨k + 1, by omega, by go_num, O5, B5⟩, by simp [intOf]; omega⟩
    · obtain rfl : k = xs.length := by omega
      rw [List.take_length] at O
      have O2 : Hid (RtsAt wr _ (xs.map rtOf)) := Lib.hid (own_slat (C := rtL) rtL_len (by rw [List.length_map]; exact O.out))
      go_wp2_with fail
      go_ret
      exact ⟨_, rfl, O2.out, B.out⟩
end Go.Proofs.Ytfkplbkllmnfeaa
