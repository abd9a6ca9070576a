/-
  THE REFERENCE's keep (carrefourref12): those of the least number.
-/
import Derived.Test.YtfkplbkllmnfeaaChE
import Derived.Deep.QuietTactic
import Derived.BigQuiet
namespace Go.Proofs.Ytfkplbkllmnfeaa
open Go.RowKit

def castL (l : List Nat) : List Int := l.map fun (i : Nat) => (i : Int)
theorem castL_len (l : List Nat) : (castL l).length = l.length := by simp [castL]
theorem castL_get {l : List Nat} {k i : Nat} (h : l[k]? = some i) : (castL l)[k]? = some (i : Int) := by simp [castL, h]
def keepB (left : List Nat) (num : List Int) (i : Nat) : Bool := left.all fun k => decide (¬ num.getD k 0 < num.getD i 0)
def keepL (left : List Nat) (num : List Int) : List Nat := left.filter (keepB left num)
theorem filter_step {α : Type} (q : α → Bool) {l : List α} {k : Nat} {x : α} (h : l[k]? = some x) : (l.take (k + 1)).filter q = (l.take k).filter q ++ (if q x then [x] else []) := by
  obtain ⟨h1, h2⟩ := List.getElem?_eq_some_iff.1 h
  rw [List.take_succ_eq_append_getElem h1, List.filter_append, h2]
  congr 1
  cases hb : q x <;> simp [List.filter, hb]
theorem all_step {α : Type} (q : α → Bool) {l : List α} {k : Nat} {x : α} (h : l[k]? = some x) : (l.take (k + 1)).all q = ((l.take k).all q && q x) := by
  obtain ⟨h1, h2⟩ := List.getElem?_eq_some_iff.1 h
  rw [List.take_succ_eq_append_getElem h1, List.all_append, h2]
  simp
theorem keepB_step (num : List Int) (i : Nat) {l : List Nat} {k p : Nat} (h : l[k]? = some p) : keepB (l.take (k + 1)) num i = (keepB (l.take k) num i && decide (¬ num.getD p 0 < num.getD i 0)) := by unfold keepB; rw [all_step _ h]
theorem keepB_nil (num : List Int) (i : Nat) (l : List Nat) : keepB (l.take 0) num i = true := by simp [keepB]
theorem cast_ok {l : List Nat} {n : Nat} (h : ∀ i ∈ l, i < n) (hn : n ≤ 100000) : ∀ x ∈ castL l, I64r x := by
  intro x hx
  obtain ⟨i, hi, rfl⟩ := List.mem_map.1 hx
  have := h i hi
  unfold I64r; omega
theorem own_ints {w : World} {B : Nat} {v : Value} {l : List Nat} {n : Nat} (h : w.ownsRow B 3 1 v l.length ((castL l).flatMap intL)) (hl : ∀ i ∈ l, i < n) (hn : n ≤ 100000) : IntsAt w v (castL l) := by
  have SL := own_slat (C := intL) (xs := castL l) intL_len (by rw [castL_len]; exact h)
  exact SL.imp (fun x cs hx h => ⟨h, cast_ok hl hn x hx⟩)
theorem keepL_sub (left : List Nat) (num : List Int) : ∀ i ∈ keepL left num, i ∈ left := fun _ h => (List.mem_filter.1 h).1
set_option maxHeartbeats 6400000 in
set_option maxRecDepth 100000 in
theorem ref_keep (vl vn : Value) (left : List Nat) (num : List Int) (w : World) (hl : IntsAt w vl (castL left)) (hn : IntsAt w vn num) (hi : ∀ i ∈ left, i < num.length) (h1 : left.length ≤ 100000) (h2 : num.length ≤ 100000) :
    Calls Try.prog 21 #[vl, vn] w fun e w' => ∃ v', e = .returned v' ∧ IntsAt w' v' (castL (keepL left num)) ∧ Below w.heap.size w w' := by
  obtain ⟨i0, hii, hz0, hz1, hz2⟩ := info_parts info_int
  obtain ⟨sa, cap, rfl, hlc, hcm, hV⟩ := hl
  obtain ⟨sn, cn, rfl, hlc', hcm', hU⟩ := hn
  rw [castL_len] at hlc hV ⊢
  have HV := Lib.hid hV
  have HU := Lib.hid hU
  have HI := Lib.hid hi
  unfold maxLen at hcm hcm'
  clear hV hU hi
  go_enter Try.func21, Try.ntmps21
  go_upto_region 2 with (fail)
  have O0 : Hid ((w.alloc (.cells #[] 3)).ownsRow w.heap.size 3 1 (.slice (some ⟨w.heap.size, 0, none⟩) 0 0) 0 []) := Lib.hid (own_empty (Nat.le_refl _))
  have B0 : Hid (Below w.heap.size w (w.alloc (.cells #[] 3))) := Lib.hid ((Below.refl _ _).alloc (Nat.le_refl _) _)
  generalize w.alloc (.cells #[] 3) = W0 at O0 B0 ⊢
  go_wp2_with fail
  go_loopw [5, 14] (fun o i wr => ∃ k : Nat, k ≤ left.length ∧ i = .int .i64 k ∧ Hid (wr.ownsRow w.heap.size 3 1 o ((left.take k).filter (keepB left num)).length ((castL ((left.take k).filter (keepB left num))).flatMap intL)) ∧ Hid (Below w.heap.size w wr)) (fun _ i _ => left.length - (intOf i).toNat)
  case atStart => exact ⟨0, by omega, rfl, O0, B0⟩
  case round =>
    clear O0 B0
    obtain ⟨k, hk, rfl, O, B⟩ := hrel
    by_cases hlt : k < left.length
    · obtain ⟨i, hik⟩ : ∃ i, left[k]? = some i := ⟨_, List.getElem?_eq_getElem hlt⟩
      obtain ⟨b, off, hsa, hP⟩ := HV.out (by omega)
      subst hsa
      have HP := Lib.hid hP
      have hin := HI.out i (List.mem_of_getElem? hik)
      obtain ⟨bn, on, hsn, hQ⟩ := HU.out (by omega)
      subst hsn
      have HQ := Lib.hid hQ
      obtain ⟨cs, _, ⟨rfl, _⟩, hc⟩ := hP k i (castL_get hik)
      have D0 := Lib.hid (hc 0 _ rfl)
      obtain ⟨y, hy⟩ : ∃ y, num[i]? = some y := ⟨_, List.getElem?_eq_getElem hin⟩
      have EY : Hid (num.getD i 0 = y) := Lib.hid (by rw [List.getD_eq_getElem?_getD, hy]; rfl)
      obtain ⟨cs, _, ⟨rfl, _⟩, hc⟩ := hQ i y hy
      have D1 := Lib.hid (hc 0 _ rfl)
      have ST := Lib.hid (filter_step (keepB left num) hik)
      clear hP hQ hc hy hik
      have d0 := (B.out.cell (size_lt D0.out)).trans D0.out
      simp only [Nat.add_zero, Nat.mul_one] at d0
      have j0 : (0 : Int) ≤ (k : Int) := by omega
      have j1 : (k : Int) < (left.length : Int) := by omega
      have j2 : (0 : Int) ≤ (i : Int) := by omega
      have j3 : (i : Int) < (num.length : Int) := by omega
      obtain ⟨wo, hwo⟩ : ∃ wo : World, wo = wr := ⟨_, rfl⟩
      rw [← hwo] at O B d0 ⊢
      clear hwo
      go_wp2_with fail
      go_loopw [8, 20] (fun l q wr => ∃ j : Nat, j ≤ left.length ∧ q = .int .i64 j ∧ l = .bool (keepB (left.take j) num i) ∧ Hid (Below wo.heap.size wo wr)) (fun _ q _ => left.length - (intOf q).toNat)
      case atStart => exact ⟨0, by omega, rfl, by rw [keepB_nil], Lib.hid (Below.refl _ _)⟩
      case round =>
        obtain ⟨j, hj, rfl, rfl, BI⟩ := hrel
        by_cases hjl : j < left.length
        · obtain ⟨p, hpj⟩ : ∃ i, left[j]? = some i := ⟨_, List.getElem?_eq_getElem hjl⟩
          have hpn := HI.out p (List.mem_of_getElem? hpj)
          obtain ⟨cs, _, ⟨rfl, _⟩, hc⟩ := HP.out j p (castL_get hpj)
          have BB := below_on B.out BI.out
          have d2 := (BB.cell (size_lt (hc 0 _ rfl))).trans (hc 0 _ rfl)
          obtain ⟨x, hx⟩ : ∃ x, num[p]? = some x := ⟨_, List.getElem?_eq_getElem hpn⟩
          have EX : Hid (num.getD p 0 = x) := Lib.hid (by rw [List.getD_eq_getElem?_getD, hx]; rfl)
          obtain ⟨cs, _, ⟨rfl, _⟩, hc⟩ := HQ.out p x hx
          have d3 := (BB.cell (size_lt (hc 0 _ rfl))).trans (hc 0 _ rfl)
          have d1 := (BB.cell (size_lt D1.out)).trans D1.out
          have SA := Lib.hid (keepB_step num i hpj)
          simp only [Nat.add_zero, Nat.mul_one] at d1 d2 d3
          have q2 : (0 : Int) ≤ (p : Int) := by omega
          have q3 : (p : Int) < (num.length : Int) := by omega
          have q0 : (0 : Int) ≤ (j : Int) := by omega
          have q1 : (j : Int) < (left.length : Int) := by omega
          clear hc hx hpj BB
          by_cases hxy : x < y
          · have SA2 : Hid (keepB (left.take (j + 1)) num i = false) := Lib.hid (by rw [SA.out, EX.out, EY.out]; simp [hxy])
            clear SA
            go_wp2_with fail
            go_quiet (fail)
            have B2 := Lib.hid (BI.out.trans (show Below wo.heap.size wr (wr.drewN nq) from ⟨rfl, rfl, rfl, Nat.le_refl _, fun _ _ => rfl⟩))
            go_wp2_with fail
            exact ⟨⟨j + 1, by omega, by go_num, by rw [SA2.out], B2⟩, by simp [intOf]; omega⟩
          · have SA2 : Hid (keepB (left.take (j + 1)) num i = keepB (left.take j) num i) := Lib.hid (by rw [SA.out, EX.out, EY.out]; simp [hxy])
            clear SA
            go_wp2_with fail
            go_quiet (fail)
            have B2 := Lib.hid (BI.out.trans (show Below wo.heap.size wr (wr.drewN nq) from ⟨rfl, rfl, rfl, Nat.le_refl _, fun _ _ => rfl⟩))
            go_wp2_with fail
            exact ⟨⟨j + 1, by omega, by go_num, by rw [SA2.out], B2⟩, by simp [intOf]; omega⟩
        · obtain rfl : left.length = j := by omega
          rw [List.take_length]
          have O1 := Lib.hid (own_below O.out BI.out)
          have B1 := Lib.hid (below_on B.out BI.out)
          clear BI O B d0
          cases hkb : keepB left num i
          · have ST2 : Hid ((left.take (k + 1)).filter (keepB left num) = (left.take k).filter (keepB left num)) := Lib.hid (by rw [ST.out, hkb]; simp)
            rw [← ST2.out] at O1
            clear ST ST2 hkb
            go_wp2_with fail
            exact ⟨⟨k + 1, by omega, by go_num, O1, B1⟩, by simp [intOf]; omega⟩
          · have ST2 : Hid ((left.take (k + 1)).filter (keepB left num) = (left.take k).filter (keepB left num) ++ [i]) := Lib.hid (by rw [ST.out, hkb]; rfl)
            have LN : ((left.take k).filter (keepB left num)).length ≤ k := Nat.le_trans (List.length_filter_le ..) (List.length_take_le _ _)
            have LN2 := Lib.hid LN
            clear ST hkb LN
            go_wp2_with (at_builtin; refine wpList_append_own_at _ rfl _ _ 28 rfl w.heap.size 3 i0 _ 1 8 Try.underlying28 hii hz0 hz1 hz2 rfl (by decide) _ ((left.take k).filter (keepB left num)).length ((castL ((left.take k).filter (keepB left num))).flatMap intL) rfl (O1.out.alloc _) ⟨wr.heap.size, 0, none⟩ 1 1 (intL (i : Int)) rfl ?ar1 ?br1 ?cr1 ?dr1 ?er1 ?fr1 ?_)
            case ar1 => rfl
            case br1 => exact new_cells _ _ _
            case cr1 => intro u hu; simp at hu; subst hu; rfl
            case dr1 => have := LN2.out; unfold maxLen; omega
            case er1 => have := LN2.out; omega
            case fr1 => have := B1.out.size; simp; omega
            intro v' w5 hown hgrow _ _
            have O5 : Hid (w5.ownsRow w.heap.size 3 1 v' ((left.take (k + 1)).filter (keepB left num)).length ((castL ((left.take (k + 1)).filter (keepB left num))).flatMap intL)) := Lib.hid (by
              rw [ST2.out, List.length_append, show castL ((left.take k).filter (keepB left num) ++ [i]) = castL ((left.take k).filter (keepB left num)) ++ [(i : Int)] by simp [castL], flat_snoc]
              exact hown)
            have B5 := Lib.hid ((B1.out.alloc B1.out.size _).grown hgrow (by have := B1.out.size; simp; omega) (own_form_le O1.out))
            clear hown hgrow O1 B1 ST2
            go_wp2_with fail
            exact ⟨⟨k + 1, by omega, by go_num, O5, B5⟩, by simp [intOf]; omega⟩
    · obtain rfl : left.length = k := by omega
      rw [List.take_length] at O
      have O2 := Lib.hid (own_ints O.out (fun i hi => HI.out i (keepL_sub left num i hi)) h2)
      clear O
      go_wp2_with fail
      go_ret
      exact ⟨_, rfl, O2.out, B.out⟩
end Go.Proofs.Ytfkplbkllmnfeaa
