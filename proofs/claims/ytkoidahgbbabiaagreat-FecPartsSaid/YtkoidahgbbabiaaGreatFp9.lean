/- Texts of one proof, one behind another. -/
import Derived.Test.YtkoidahgbbabiaaGreatFp8
import Derived.Shelf.GgSortFunc.RowK
import Derived.Lib.SliceRun
import Derived.Shelf.SlGeneric
import Derived.Shelf.SlSortCmp.NoneTotal
import Derived.Ground.SlsfProg
import Derived.Test.YtkoidahgbbabiaaGreatProg
import Derived.Lib.AppendZerosOnto
import Derived.Test.YtkoidahgbbabiaaGreatFp7
import Derived.DeepKeys4
import Derived.Test.YtkoidahgbbabiaaGreatFp1
namespace Go.Proofs.YtkoidahgbbabiaaGreat
open Go.RowKit
theorem blk_setCells {g : Nat} {T : TypeId} : ∀ (vs : List Value) (o : Nat) (w : World) (cur : Array Value), w.heap[g]? = some (.cells cur T (0, 0)) → (w.setCells g o vs).heap[g]? = some (.cells (Sort.setMany cur o vs) T (0, 0))
 | [], _, _, _, h => h
 | v :: r, o, _, _, h => blk_setCells r (o + 1) _ _ (jO h o v)
theorem kept_setCells {F : Nat → Prop} {g : Nat} (hF : F g) : ∀ (vs : List Value) (o : Nat) (w : World), Kept F w (w.setCells g o vs)
 | [], _, _ => Kept.refl _ _
 | v :: r, o, _ => (Kept.setCell ⟨g, o, none⟩ v hF).trans (kept_setCells hF r (o + 1) _)
theorem own_front {w : World} {B n g c k m : Nat} {e : TypeId} {xs : List Value} (h : w.ownsRow B e k (.slice (some ⟨g, 0, none⟩) n c) n xs) (hm : m ≤ n) (vs : List Value) :
  (w.setCells g (m * k) vs).ownsRow B e k (.slice (some ⟨g, 0, none⟩) m c) m (xs.take (m * k)) := by
 obtain ⟨h1, ⟨h2, _⟩ | ⟨g', cap, cur, h2, hB, hg, hn, hm2, hs, hc⟩⟩ := h
 ·cases h2
 ·injection h2 with e1 e2 e3
  injection e1 with e1
  injection e1 with e1
  subst e1; subst e3
  have hmk : m * k ≤ n * k := Nat.mul_le_mul_right _ hm
  have hnk : n * k ≤ c * k := Nat.mul_le_mul_right _ hn
  refine ⟨by rw [List.length_take, h1]; omega, .inr ⟨g, c, _, rfl, hB, blk_setCells vs (m * k) w cur hg, by omega, hm2, by rw [Sort.size_setMany, hs], ?_⟩⟩
  rw [← hc, List.take_take, Nat.min_eq_left hmk]
  apply List.ext_getElem?
  intro i
  by_cases hi : i < m * k
  ·rw [List.getElem?_take_of_lt hi, List.getElem?_take_of_lt hi]
   have hil : i < cur.size := by omega
   have hg2 := Sort.get_setMany vs (m * k) cur i hil
   rw [if_neg (by omega), getElem!_pos (Sort.setMany cur (m * k) vs) i (by rw [Sort.size_setMany]; exact hil), getElem!_pos cur i hil] at hg2
   simp [hil, hg2]
  ·rw [List.getElem?_eq_none (by simp; omega), List.getElem?_eq_none (by simp; omega)]
theorem own_setP {w : World} {B n g c : Nat} {L : List Pf} {i : Nat} (h : w.ownsRow B 53 2 (.slice (some ⟨g, 0, none⟩) n c) n (L.flatMap encP)) (hi : i < L.length) (y : Pf) :
  (w.setCells g (i * 2) (encP y)).ownsRow B 53 2 (.slice (some ⟨g, 0, none⟩) n c) n ((L.set i y).flatMap encP) := by
 have h1 := own_set h rfl (i * 2) (.int .u32 y.1)
 have h2 := own_set h1 rfl (i * 2 + 1) (.int .i64 y.2)
 have hk : ∀ r ∈ L.map encP, r.length = 2 := fun r hr => by
  obtain ⟨p, -, rfl⟩ := List.mem_map.1 hr
  rfl
 have hr : (L.map encP)[i]? = some (encP L[i]) := by rw [List.getElem?_map, List.getElem?_eq_getElem hi]; rfl
 have e1 := rows_set hk hr (j := 0) (by decide) (.int .u32 y.1)
 have hk2 : ∀ r ∈ (L.map encP).set i ((encP L[i]).set 0 (.int .u32 y.1)), r.length = 2 := fun r hr => by
  rcases List.mem_or_eq_of_mem_set hr with h | rfl
  ·exact hk r h
  ·rfl
 have hr2 : ((L.map encP).set i ((encP L[i]).set 0 (.int .u32 y.1)))[i]? = some ((encP L[i]).set 0 (.int .u32 y.1)) := List.getElem?_set_self (by simpa using hi)
 have e2 := rows_set hk2 hr2 (j := 1) (by decide) (.int .i64 y.2)
 rw [List.flatMap_def] at h2
 rw [show i * 2 = i * 2 + 0 from rfl, ← e1] at h2
 rw [show i * 2 + 0 + 1 = i * 2 + 1 from rfl, ← e2, List.set_set] at h2
 rw [List.flatMap_def, List.map_set]
 exact h2
theorem own_two {w : World} {B n g c : Nat} {L : List Pf} {i : Nat} {x : Pf} (h : w.ownsRow B 53 2 (.slice (some ⟨g, 0, none⟩) n c) n (L.flatMap encP)) (hx : L[i]? = some x) :
  w.cell? ⟨g, i * 2, none⟩ = some (.int .u32 x.1) ∧ w.cell? ⟨g, i * 2 + 1, none⟩ = some (.int .i64 x.2) ∧ w.frozen? ⟨g, i * 2, none⟩ = false ∧ w.frozen? ⟨g, i * 2 + 1, none⟩ = false := by
 have h0 := flat_get encP_len L i x hx 0 (by decide)
 have h1 := flat_get encP_len L i x hx 1 (by decide)
 obtain ⟨a1, a2, -⟩ := own_row_cell h rfl h0
 obtain ⟨b1, b2, -⟩ := own_row_cell h rfl h1
 exact ⟨a1, b1, a2, b2⟩
abbrev pfZ : Array Value := #[.int .u32 0, .int .i64 0]
theorem zeroCells_one (z : Array Value) (hz : ∀ v ∈ z, v.oneCell' = true) (h0 : 0 < z.size) (n : Nat) : ∀ v ∈ (Builtin.zeroCells z n).toList, v.oneCell' = true := by
 intro v hv
 unfold Builtin.zeroCells at hv
 simp only [Array.toList_map, List.mem_map] at hv
 obtain ⟨i, _, rfl⟩ := hv
 have hlt : i % z.size < z.size := Nat.mod_lt _ h0
 rw [getElem!_pos z _ hlt]
 exact hz _ (Array.getElem_mem hlt)
theorem run_clear_pf (w : World) (g o n c : Nat) (hn : 0 < n) (ht : w.there g o (n * 2)) :
  ∃ L : List Value, ∀ ty, (Builtin.clear_ #[23] ty #[.slice (some ⟨g, o, none⟩) n c]).run Tryz.prog w = .ok (.tuple #[]) (w.setCells g o L) := by
 have hlen : (Builtin.zeroCells pfZ n).toList.length = n * 2 := by simp [Builtin.zeroCells, pfZ]
 refine ⟨(Builtin.zeroCells pfZ n).toList, fun ty => ?_⟩
 have hst := run_storeCells_cells (P := Tryz.prog) g o (Builtin.zeroCells pfZ n).toList 0 w (fun j hj => by rw [Nat.add_zero]; exact (ht j (by rw [hlen] at hj; exact hj)).1) (fun j hj => by rw [Nat.add_zero]; exact (ht j (by rw [hlen] at hj; exact hj)).2) (zeroCells_one pfZ (by intro v hv; simp at hv; rcases hv with rfl | rfl <;> rfl) (by decide) n)
 simp only [Nat.add_zero] at hst
 obtain ⟨m, rfl⟩ : ∃ m, n = m + 1 := ⟨n - 1, by omega⟩
 simp [Builtin.clear_, run_underlying Tryz.underlying23, Value.cells, hst]
theorem own_there {w : World} {B n g c : Nat} {L : List Pf} (h : w.ownsRow B 53 2 (.slice (some ⟨g, 0, none⟩) n c) n (L.flatMap encP)) (hl : L.length = n) {k : Nat} (hk : k ≤ n) : w.there g (k * 2) ((n - k) * 2) := by
 intro j hj
 have hi : (k * 2 + j) / 2 < L.length := by omega
 obtain ⟨a, b, c, d⟩ := own_two h (List.getElem?_eq_getElem hi)
 rcases (by omega : k * 2 + j = (k * 2 + j) / 2 * 2 ∨ k * 2 + j = (k * 2 + j) / 2 * 2 + 1) with e | e
 ·rw [e]; exact ⟨by rw [a]; rfl, c⟩
 ·rw [e]; exact ⟨by rw [b]; rfl, d⟩
def CompAt (xs L : List Pf) (k r : Nat) : Prop := L.length = xs.length ∧ k + 1 ≤ r ∧ r ≤ xs.length ∧ L.take k = comp (xs.take r) ∧ (comp (xs.take r)).length = k ∧ ∀ i, r ≤ i + 1 → L[i]? = xs[i]?
theorem compAt_start {xs : List Pf} {k : Nat} {x : Pf} (h0 : ∀ (i : Nat) (x y : Pf), i + 1 < k + 1 → xs[i]? = some x → xs[i + 1]? = some y → x ≠ y) (hx : xs[k]? = some x) (hy : xs[k + 1]? = some x) : CompAt xs xs (k + 1) (k + 2) := by
 have hl := (List.getElem?_eq_some_iff.1 hy).1
 have hw := comp_whole (l := xs) (k + 1) h0 (by omega)
 have e : comp (xs.take (k + 2)) = xs.take (k + 1) := by rw [comp_next hx hy, if_pos rfl, hw]
 exact ⟨rfl, by omega, by omega, e.symm, by rw [e, List.length_take]; omega, fun i _ => rfl⟩
theorem compAt_skip {xs L : List Pf} {k r : Nat} {x : Pf} (h : CompAt xs L k (r + 1)) (hx : xs[r]? = some x) (hy : xs[r + 1]? = some x) : CompAt xs L k (r + 2) := by
 obtain ⟨h1, h2, h3, h4, h5, h6⟩ := h
 have hl := (List.getElem?_eq_some_iff.1 hy).1
 have e := comp_next hx hy
 rw [if_pos rfl] at e
 exact ⟨h1, by omega, by omega, by rw [e, h4], by rw [e, h5], fun i hi => h6 i (by omega)⟩
theorem compAt_keep {xs L : List Pf} {k r : Nat} {x y : Pf} (h : CompAt xs L k (r + 1)) (hx : xs[r]? = some x) (hy : xs[r + 1]? = some y) (hne : x ≠ y) : CompAt xs (L.set k y) (k + 1) (r + 2) := by
 obtain ⟨h1, h2, h3, h4, h5, h6⟩ := h
 have hl := (List.getElem?_eq_some_iff.1 hy).1
 have e := comp_next hx hy
 rw [if_neg hne] at e
 refine ⟨by rw [List.length_set, h1], by omega, by omega, ?_, by rw [e, List.length_append, h5]; rfl, fun i hi => ?_⟩
 ·rw [e, ← h4, List.take_add_one, List.getElem?_set_self (by omega), List.take_set, List.set_eq_of_length_le (by rw [List.length_take]; omega)]
  rfl
 ·rw [List.getElem?_set_ne (by omega)]
  exact h6 i (by omega)
def CompPost (B : Nat) (v : Value) (xs : List Pf) (w : World) (e : Ending) (w' : World) : Prop := ∃ v', e = .returned v' ∧ OwnPs w' B v' (comp xs) ∧ Kept (fun b => v.ownBlock = some b) w w'
theorem pair_eq (x y : Pf) : (x.1 == y.1 && x.2 == y.2) = decide (x = y) := by
 obtain ⟨a, b⟩ := x
 obtain ⟨c, d⟩ := y
 by_cases h1 : a = c <;> by_cases h2 : b = d <;> simp [h1, h2]
set_option maxHeartbeats 6400000 in
set_option maxRecDepth 100000 in
theorem ps_Compact (B : Nat) (v : Value) (xs : List Pf) (w : World) (h : OwnPs w B v xs) (hn : xs.length ≤ 4611686018427387904) :
  Calls Tryz.prog 77 #[v] w (CompPost B v xs w) := by
 obtain ⟨ho, hok⟩ := h
 by_cases hlen : xs.length < 2
 ·have H : Hid (CompPost B v xs w (.returned v) w) := jh (by
   refine ⟨v, rfl, ⟨?_, ?_⟩, Kept.refl _ _⟩
   ·have e : comp xs = xs := by
     match xs, hlen with
     | [], _ => rfl
     | [x], _ => rfl
    rw [e]; exact ho
   ·have e : comp xs = xs := by
     match xs, hlen with
     | [], _ => rfl
     | [x], _ => rfl
    rw [e]; exact hok)
  have hl : decide ((xs.length : Int) < 2) = true := by simp; omega
  rcases own_slice ho with ⟨rfl, h0⟩ | ⟨g, c, rfl⟩
  ·obtain rfl := List.length_eq_zero_iff.1 h0
   clear ho hok
   go_enter Tryz.func77, Tryz.ntmps77
   go_wp2_with fail
   go_ret
   exact H.out
  ·clear ho hok
   go_enter Tryz.func77, Tryz.ntmps77
   go_wp2_with fail
   go_ret
   exact H.out
 ·obtain ⟨g, c, rfl⟩ : ∃ g c, v = .slice (some ⟨g, 0, none⟩) xs.length c := by
   rcases own_slice ho with ⟨rfl, h0⟩ | ⟨g, c, rfl⟩
   ·omega
   ·exact ⟨g, c, rfl⟩
  have hcap : xs.length ≤ c ∧ c ≤ 9223372036854775807 := by
   obtain ⟨-, ⟨h2, _⟩ | ⟨g', cap, cur, h2, -, hg, hcn, hm, hs, hc⟩⟩ := ho
   ·cases h2
   ·injection h2 with e1 e2 e3
    subst e3
    unfold maxLen at hm
    exact ⟨hcn, hm⟩
  obtain ⟨hc1, hc2⟩ := hcap
  have hl : decide ((xs.length : Int) < 2) = false := by simp; omega
  have O := jh ho
  have OK := jh hok
  have HL := jh hlen
  clear ho hok hlen
  go_enter Tryz.func77, Tryz.ntmps77
  go_wp2_with fail
  clear hl
  go_loopw [3] (fun k3 wr => ∃ k : Nat, k + 1 ≤ xs.length ∧ k3 = .int .i64 ((k : Int) + 1) ∧ Hid (∀ (i : Nat) (x y : Pf), i + 1 < k + 1 → xs[i]? = some x → xs[i + 1]? = some y → x ≠ y) ∧ Hid (wr.ownsRow B 53 2 (.slice (some ⟨g, 0, none⟩) xs.length c) xs.length (xs.flatMap encP)) ∧ Hid (Below w.heap.size w wr)) (fun k3 _ => xs.length - (intOf k3).toNat)
  case atStart => exact ⟨0, by have := HL.out; omega, rfl, jh (fun i x y hi => by omega), O, jh (Below.refl _ _)⟩
  case round =>
   obtain ⟨k, hk, rfl, N, O1, B1⟩ := hrel
   by_cases hlt : k + 1 < xs.length
   ·obtain ⟨x, hx⟩ : ∃ x, xs[k]? = some x := ⟨_, List.getElem?_eq_getElem (by omega)⟩
    obtain ⟨y, hy⟩ : ∃ y, xs[k + 1]? = some y := ⟨_, List.getElem?_eq_getElem hlt⟩
    obtain ⟨x0, x1, -, -⟩ := own_two O1.out hx
    obtain ⟨y0, y1, -, -⟩ := own_two O1.out hy
    have HX := jh hx
    have HY := jh hy
    have i0 : (0 : Int) ≤ (k : Int) := by omega
    have i1 : (k : Int) < (xs.length : Int) := by omega
    have i2 : (k : Int) + 1 < (xs.length : Int) := by omega
    have j0 : decide ((k : Int) + 1 < (xs.length : Int)) = true := by simpa using i2
    have j1 : (k : Int) + 1 ≤ (c : Int) := by omega
    have j2 : k + 1 ≤ c := by omega
    have j3 : ¬ c = k + 1 := by omega
    clear hx hy
    go_wp2_with fail
    by_cases he : x = y
    ·have EQ : (y.1 == x.1 && y.2 == x.2) = true := by rw [pair_eq]; simp [he]
     have CA : Hid (CompAt xs xs (k + 1) (k + 1 + 1)) := jh (compAt_start N.out HX.out (by rw [he]; exact HY.out))
     clear he
     go_quiet (fail)
     rename_i nq
     obtain ⟨wq, hwq⟩ : ∃ W, W = wr.drewN nq := ⟨_, rfl⟩
     have O2 : Hid (wq.ownsRow B 53 2 (.slice (some ⟨g, 0, none⟩) xs.length c) xs.length (xs.flatMap encP)) := jh (by rw [hwq]; exact O1.out)
     have K2 : Hid (Kept (fun b => b = g) w wq) := jh (by rw [hwq]; exact Kept.of_below B1.out |>.trans ⟨rfl, rfl, rfl, Nat.le_refl _, fun _ _ _ => rfl⟩)
     rw [← hwq]
     clear hwq x0 x1 y0 y1 EQ O1 B1
     go_wp2_with fail
     obtain ⟨n2, hn2⟩ : ∃ n2, xs.length - (k + 1) = n2 := ⟨_, rfl⟩
     rw [hn2]
     have N2 := jh hn2
     clear hn2
     go_loopw [3, 5] (fun k3 q3 wr => ∃ (kk q : Nat) (L : List Pf), k3 = .int .i64 kk ∧ q3 = .int .i64 ((q : Int) + 1) ∧ q + 1 ≤ n2 ∧ Hid (CompAt xs L kk (k + 1 + q + 1)) ∧ Hid (wr.ownsRow B 53 2 (.slice (some ⟨g, 0, none⟩) xs.length c) xs.length (L.flatMap encP)) ∧ Hid (Kept (fun b => b = g) w wr)) (fun _ q3 _ => n2 - (intOf q3).toNat)
     case atStart => exact ⟨k + 1, 0, xs, by go_num, rfl, by have := N2.out; omega, CA, O2, K2⟩
     case round =>
      clear CA O2 K2 N i0 i1 i2 j0 j1 j2 j3 HX HY
      obtain ⟨kk, q, L, rfl, rfl, hq, CA, O2, K2⟩ := hrel
      by_cases hlt2 : q + 1 < n2
      ·obtain ⟨x, hx⟩ : ∃ x, xs[k + 1 + q]? = some x := ⟨_, List.getElem?_eq_getElem (by have := N2.out; omega)⟩
       obtain ⟨y, hy⟩ : ∃ y, xs[k + 1 + q + 1]? = some y := ⟨_, List.getElem?_eq_getElem (by have := N2.out; omega)⟩
       have CL := CA.out.2.2.2.2.2
       obtain ⟨x0, x1, -, -⟩ := own_two O2.out ((CL (k + 1 + q) (by omega)).trans hx)
       obtain ⟨y0, y1, -, -⟩ := own_two O2.out ((CL (k + 1 + q + 1) (by omega)).trans hy)
       rw [show (k + 1 + q) * 2 = (k + 1) * 2 + q * 2 by omega] at x0 x1
       rw [show (k + 1 + q + 1) * 2 = (k + 1) * 2 + (q + 1) * 2 by omega] at y0 y1
       have HX := jh hx
       have HY := jh hy
       have i0 : (0 : Int) ≤ (q : Int) := by omega
       have i1 : (q : Int) < (n2 : Int) := by omega
       have i2 : (q : Int) + 1 < (n2 : Int) := by omega
       have j0 : decide ((q : Int) + 1 < (n2 : Int)) = true := by simpa using i2
       have kl : kk < xs.length := by have := CA.out.2.1; have := CA.out.2.2.1; omega
       have k0 : (0 : Int) ≤ (kk : Int) := by omega
       have k1 : (kk : Int) < (xs.length : Int) := by omega
       have nb : (n2 : Int) ≤ 9223372036854775806 := by have := N2.out; omega
       clear hx hy CL
       go_wp2_with fail
       by_cases he : x = y
       ·have EQ : (!(y.1 == x.1 && y.2 == x.2)) = false := by rw [pair_eq]; simp [he]
        have CA2 := jh (compAt_skip CA.out HX.out (by rw [he]; exact HY.out))
        clear he
        go_quiet (fail)
        rename_i nq
        obtain ⟨wq, hwq⟩ : ∃ W, W = wr.drewN nq := ⟨_, rfl⟩
        have O3 : Hid (wq.ownsRow B 53 2 (.slice (some ⟨g, 0, none⟩) xs.length c) xs.length (L.flatMap encP)) := jh (by rw [hwq]; exact O2.out)
        have K3 : Hid (Kept (fun b => b = g) w wq) := jh (by rw [hwq]; exact K2.out.trans ⟨rfl, rfl, rfl, Nat.le_refl _, fun _ _ _ => rfl⟩)
        rw [← hwq]
        clear hwq x0 x1 y0 y1 EQ O2 K2 CA
        go_wp2_with fail
        exact ⟨⟨kk, q + 1, L, rfl, by go_num, by omega, CA2, O3, K3⟩, by simp [intOf]; omega⟩
       ·have EQ : (!(y.1 == x.1 && y.2 == x.2)) = true := by rw [pair_eq]; simpa using fun h => he h.symm
        have CA2 := jh (compAt_keep CA.out HX.out HY.out he)
        clear he
        go_quiet (fail)
        rename_i nq
        obtain ⟨wq, hwq⟩ : ∃ W, W = wr.drewN nq := ⟨_, rfl⟩
        have O3 : Hid (wq.ownsRow B 53 2 (.slice (some ⟨g, 0, none⟩) xs.length c) xs.length (L.flatMap encP)) := jh (by rw [hwq]; exact O2.out)
        have K3 : Hid (Kept (fun b => b = g) w wq) := jh (by rw [hwq]; exact K2.out.trans ⟨rfl, rfl, rfl, Nat.le_refl _, fun _ _ _ => rfl⟩)
        have y0 : wq.cell? ⟨g, (k + 1) * 2 + (q + 1) * 2, none⟩ = some (.int .u32 y.1) := by rw [hwq]; exact y0
        have y1 : wq.cell? ⟨g, (k + 1) * 2 + (q + 1) * 2 + 1, none⟩ = some (.int .i64 y.2) := by rw [hwq]; exact y1
        rw [← hwq]
        clear hwq EQ O2 K2 x0 x1
        have LL := jh CA.out.1
        have TH := jh (own_there O3.out LL.out (k := kk) (by omega))
        have O4 := jh (own_setP O3.out (i := kk) (by rw [LL.out]; exact kl) y)
        have K4 := jh (K3.out.trans (kept_setCells (F := fun b => b = g) rfl (encP y) (kk * 2) wq))
        clear O3 K3 CA
        go_wp2_with (with_reducible refine jM (X := .store 53 (.tmp 51) (.tmp 50)) ?_ ?_; (· rfl))
        unfold Halt
        refine wpList_store_mid rfl 53 (.tmp 51) (.tmp 50) rfl g (kk * 2) #[.int .u32 y.1, .int .i64 y.2] rfl rfl (fun j hj => TH.out j (by have : j < 2 := hj; omega)) (by kernel_rfl) (all_oneCell_toArray (cs := encP y) (encP_one y)) ?_
        obtain ⟨W6, hW6⟩ : ∃ W6, W6 = wq.setCells g (kk * 2) (encP y) := ⟨_, rfl⟩
        have hW7 : wq.setCells g (kk * 2) (#[Value.int .u32 y.1, Value.int .i64 y.2] : Array Value).toList = W6 := hW6.symm
        rw [hW7]
        rw [← hW6] at O4 K4
        clear hW6 hW7 TH y0 y1 LL
        go_wp2_with fail
        exact ⟨⟨kk + 1, q + 1, L.set kk y, by go_num, by go_num, by omega, CA2, O4, K4⟩, by simp [intOf]; omega⟩
      ·obtain rfl : n2 = q + 1 := by omega
       have e : k + 1 + q + 1 = xs.length := by have := N2.out; omega
       have CL : Hid (CompAt xs L kk xs.length) := jh (by rw [← e]; exact CA.out)
       have kl : kk < xs.length := by have := CL.out.2.1; omega
       have k0 : (0 : Int) ≤ (kk : Int) := by omega
       have k1 : (kk : Int) ≤ (xs.length : Int) := by omega
       have k2 : (kk : Int) ≤ (c : Int) := by omega
       have k3 : kk ≤ c := by omega
       have k4 : ¬ c = kk := by omega
       have j0 : decide ((q : Int) + 1 < ((q + 1 : Nat) : Int)) = false := by simp
       obtain ⟨Z, hcl⟩ := run_clear_pf wr g (kk * 2) (xs.length - kk) (c - kk) (by omega) (own_there O2.out CL.out.1 (by omega))
       have O3 := jh (own_front O2.out (m := kk) (by omega) Z)
       have K3 := jh (K2.out.trans (kept_setCells (F := fun b => b = g) rfl Z (kk * 2) wr))
       have FE : Hid ((L.flatMap encP).take (kk * 2) = (comp xs).flatMap encP ∧ (comp xs).length = kk) := jh (by
        obtain ⟨h1, h2, h3, h4, h5, h6⟩ := CL.out
        rw [List.take_length] at h4 h5
        refine ⟨?_, h5⟩
        rw [← h4, ← List.take_append_drop kk L, List.flatMap_append, List.take_append_of_le_length (by rw [jX encP_len, List.length_take]; omega), List.take_of_length_le (by rw [jX encP_len, List.length_take]; omega)]
        rw [List.take_append_drop])
       clear e CL CA O2 K2 N2
       go_wp2_with (simp only [hcl])
       go_ret
       exact ⟨_, rfl, ⟨by rw [FE.out.2, ← FE.out.1]; exact O3.out, fun p hp => OK.out p (comp_sub hp)⟩, K3.out.imp fun b hb => by rw [hb]; rfl⟩
    ·have EQ : (y.1 == x.1 && y.2 == x.2) = false := by rw [pair_eq]; simpa using fun h => he h.symm
     have N2 : Hid (∀ (i : Nat) (x y : Pf), i + 1 < k + 1 + 1 → xs[i]? = some x → xs[i + 1]? = some y → x ≠ y) := jh (fun i a b hi ha hb => by
      by_cases e : i = k
      ·subst e
       rw [HX.out] at ha
       rw [HY.out] at hb
       obtain rfl := Option.some.inj ha
       obtain rfl := Option.some.inj hb
       exact he
      ·exact N.out i a b (by omega) ha hb)
     clear he
     go_quiet (fail)
     rename_i nq
     obtain ⟨wq, hwq⟩ : ∃ W, W = wr.drewN nq := ⟨_, rfl⟩
     have O2 : Hid (wq.ownsRow B 53 2 (.slice (some ⟨g, 0, none⟩) xs.length c) xs.length (xs.flatMap encP)) := jh (by rw [hwq]; exact O1.out)
     have B2 : Hid (Below w.heap.size w wq) := jh (by rw [hwq]; exact jC B1.out ⟨rfl, rfl, rfl, Nat.le_refl _, fun _ _ => rfl⟩)
     rw [← hwq]
     clear hwq x0 x1 y0 y1 EQ O1 B1
     go_wp2_with fail
     exact ⟨⟨k + 1, by omega, by go_num, N2, O2, B2⟩, by simp [intOf]; omega⟩
   ·have e : k + 1 = xs.length := by omega
    have CW : Hid (comp xs = xs) := jh (by
     have := comp_whole (l := xs) (k + 1) N.out (by omega)
     rw [e, List.take_length] at this
     exact this)
    have j0 : decide ((k : Int) + 1 < (xs.length : Int)) = false := by simp; omega
    clear e
    go_wp2_with fail
    go_ret
    exact ⟨_, rfl, ⟨by rw [CW.out]; exact O1.out, by rw [CW.out]; exact OK.out⟩, Kept.of_below B1.out⟩
end Go.Proofs.YtkoidahgbbabiaaGreat
namespace Go.Proofs
open Go.Shelf
def Tryz.sortP_ren : Go.Shelf.Ren := ⟨fun | 6 => 59 | 15 => 109 | 14 => 108 | 28 => 148 | 29 => 149 | 20 => 140 | 21 => 141 | 22 => 142 | 23 => 143 | 24 => 144 | 25 => 145 | 26 => 146 | 27 => 147 | 46 => 179 | 47 => 180 | 48 => 181 | 49 => 182 | 50 => 183 | 57 => 193 | n => n, fun | 22 => 23 | 24 => 53 | 25 => 134 | 3 => 3 | 39 => 117 | 0 => 0 | 53 => 35 | 55 => 234 | 4 => 4 | 46 => 227 | 45 => 226 | 50 => 177 | 5 => 5 | 9 => 9 | 66 => 256 | 70 => 260 | 76 => 268 | 77 => 269 | n => n, fun | n => n⟩
theorem Tryz.sortP : Go.Proofs.SlLaysF0.n6 Tryz.prog Tryz.sortP_ren := {
 mixed := by kernel_rfl
 f6 := ⟨Tryz.f59.name, by decide, Tryz.func59.trans (congrArg some (by kernel_rfl))⟩
 f14 := ⟨Tryz.f108.name, by decide, Tryz.func108.trans (congrArg some (by kernel_rfl))⟩
 f15 := Tryz.func109.trans (congrArg some (by kernel_rfl))
 f20 := ⟨Tryz.f140.name, by decide, Tryz.func140.trans (congrArg some (by kernel_rfl))⟩
 f21 := ⟨Tryz.f141.name, by decide, Tryz.func141.trans (congrArg some (by kernel_rfl))⟩
 f22 := ⟨Tryz.f142.name, by decide, Tryz.func142.trans (congrArg some (by kernel_rfl))⟩
 f23 := ⟨Tryz.f143.name, by decide, Tryz.func143.trans (congrArg some (by kernel_rfl))⟩
 f24 := ⟨Tryz.f144.name, by decide, Tryz.func144.trans (congrArg some (by kernel_rfl))⟩
 f25 := ⟨Tryz.f145.name, by decide, Tryz.func145.trans (congrArg some (by kernel_rfl))⟩
 f26 := ⟨Tryz.f146.name, by decide, Tryz.func146.trans (congrArg some (by kernel_rfl))⟩
 f27 := ⟨Tryz.f147.name, by decide, Tryz.func147.trans (congrArg some (by kernel_rfl))⟩
 f28 := Tryz.func148.trans (congrArg some (by kernel_rfl))
 f29 := Tryz.func149.trans (congrArg some (by kernel_rfl))
 f46 := ⟨Tryz.f179.name, by decide, Tryz.func179.trans (congrArg some (by kernel_rfl))⟩
 f47 := Tryz.func180.trans (congrArg some (by kernel_rfl))
 f48 := Tryz.func181.trans (congrArg some (by kernel_rfl))
 f49 := ⟨Tryz.f182.name, by decide, Tryz.func182.trans (congrArg some (by kernel_rfl))⟩
 f50 := ⟨Tryz.f183.name, by decide, Tryz.func183.trans (congrArg some (by kernel_rfl))⟩
 f57 := ⟨Tryz.f193.name, by decide, Tryz.func193.trans (congrArg some (by kernel_rfl))⟩
 t0 := Tryz.underlying0
 a0 := Tryz.isAgg0
 z0 := Tryz.sizeOf0
 v0 := Tryz.zeroValue0
 t3 := Tryz.underlying3
 a3 := Tryz.isAgg3
 z3 := Tryz.sizeOf3
 v3 := Tryz.zeroValue3
 t4 := Tryz.underlying4
 a4 := Tryz.isAgg4
 z4 := Tryz.sizeOf4
 v4 := Tryz.zeroValue4
 t5 := Tryz.underlying5
 a5 := Tryz.isAgg5
 z5 := Tryz.sizeOf5
 v5 := Tryz.zeroValue5
 t9 := Tryz.underlying9
 a9 := Tryz.isAgg9
 z9 := Tryz.sizeOf9
 v9 := Tryz.zeroValue9
 t22 := Tryz.underlying23
 a22 := Tryz.isAgg23
 z22 := Tryz.sizeOf23
 v22 := Tryz.zeroValue23
 t25 := Tryz.underlying134
 a25 := Tryz.isAgg134
 z25 := Tryz.sizeOf134
 v25 := Tryz.zeroValue134
 t39 := Tryz.underlying117
 a39 := Tryz.isAgg117
 z39 := Tryz.sizeOf117
 v39 := Tryz.zeroValue117
 t45 := Tryz.underlying226
 a45 := Tryz.isAgg226
 z45 := Tryz.sizeOf226
 v45 := Tryz.zeroValue226
 t46 := Tryz.underlying227
 a46 := Tryz.isAgg227
 z46 := Tryz.sizeOf227
 v46 := Tryz.zeroValue227
 t50 := Tryz.underlying177
 a50 := Tryz.isAgg177
 z50 := Tryz.sizeOf177
 v50 := Tryz.zeroValue177
 t53 := Tryz.underlying35
 a53 := Tryz.isAgg35
 z53 := Tryz.sizeOf35
 v53 := Tryz.zeroValue35
 t55 := Tryz.underlying234
 a55 := Tryz.isAgg234
 z55 := Tryz.sizeOf234
 v55 := Tryz.zeroValue234
 t66 := Tryz.underlying256
 a66 := Tryz.isAgg256
 z66 := Tryz.sizeOf256
 v66 := Tryz.zeroValue256
 t70 := Tryz.underlying260
 a70 := Tryz.isAgg260
 z70 := Tryz.sizeOf260
 v70 := Tryz.zeroValue260
 t76 := Tryz.underlying268
 a76 := Tryz.isAgg268
 z76 := Tryz.sizeOf268
 v76 := Tryz.zeroValue268
 t77 := Tryz.underlying269
 a77 := Tryz.isAgg269
 z77 := Tryz.sizeOf269
 v77 := Tryz.zeroValue269 }
def Tryz.sortR_ren : Go.Shelf.Ren := ⟨fun | 6 => 68 | 15 => 109 | 14 => 118 | 28 => 148 | 29 => 149 | 20 => 155 | 21 => 156 | 22 => 157 | 23 => 158 | 24 => 159 | 25 => 160 | 26 => 161 | 27 => 162 | 46 => 184 | 47 => 180 | 48 => 181 | 49 => 185 | 50 => 186 | 57 => 194 | n => n, fun | 22 => 57 | 24 => 61 | 25 => 142 | 3 => 3 | 39 => 117 | 0 => 0 | 53 => 35 | 55 => 234 | 4 => 4 | 46 => 227 | 45 => 226 | 50 => 177 | 5 => 5 | 9 => 9 | 66 => 256 | 70 => 260 | 76 => 268 | 77 => 269 | n => n, fun | n => n⟩
theorem Tryz.sortR : Go.Proofs.SlLaysF0.n6 Tryz.prog Tryz.sortR_ren := {
 mixed := by kernel_rfl
 f6 := ⟨Tryz.f68.name, by decide, Tryz.func68.trans (congrArg some (by kernel_rfl))⟩
 f14 := ⟨Tryz.f118.name, by decide, Tryz.func118.trans (congrArg some (by kernel_rfl))⟩
 f15 := Tryz.func109.trans (congrArg some (by kernel_rfl))
 f20 := ⟨Tryz.f155.name, by decide, Tryz.func155.trans (congrArg some (by kernel_rfl))⟩
 f21 := ⟨Tryz.f156.name, by decide, Tryz.func156.trans (congrArg some (by kernel_rfl))⟩
 f22 := ⟨Tryz.f157.name, by decide, Tryz.func157.trans (congrArg some (by kernel_rfl))⟩
 f23 := ⟨Tryz.f158.name, by decide, Tryz.func158.trans (congrArg some (by kernel_rfl))⟩
 f24 := ⟨Tryz.f159.name, by decide, Tryz.func159.trans (congrArg some (by kernel_rfl))⟩
 f25 := ⟨Tryz.f160.name, by decide, Tryz.func160.trans (congrArg some (by kernel_rfl))⟩
 f26 := ⟨Tryz.f161.name, by decide, Tryz.func161.trans (congrArg some (by kernel_rfl))⟩
 f27 := ⟨Tryz.f162.name, by decide, Tryz.func162.trans (congrArg some (by kernel_rfl))⟩
 f28 := Tryz.func148.trans (congrArg some (by kernel_rfl))
 f29 := Tryz.func149.trans (congrArg some (by kernel_rfl))
 f46 := ⟨Tryz.f184.name, by decide, Tryz.func184.trans (congrArg some (by kernel_rfl))⟩
 f47 := Tryz.func180.trans (congrArg some (by kernel_rfl))
 f48 := Tryz.func181.trans (congrArg some (by kernel_rfl))
 f49 := ⟨Tryz.f185.name, by decide, Tryz.func185.trans (congrArg some (by kernel_rfl))⟩
 f50 := ⟨Tryz.f186.name, by decide, Tryz.func186.trans (congrArg some (by kernel_rfl))⟩
 f57 := ⟨Tryz.f194.name, by decide, Tryz.func194.trans (congrArg some (by kernel_rfl))⟩
 t0 := Tryz.underlying0
 a0 := Tryz.isAgg0
 z0 := Tryz.sizeOf0
 v0 := Tryz.zeroValue0
 t3 := Tryz.underlying3
 a3 := Tryz.isAgg3
 z3 := Tryz.sizeOf3
 v3 := Tryz.zeroValue3
 t4 := Tryz.underlying4
 a4 := Tryz.isAgg4
 z4 := Tryz.sizeOf4
 v4 := Tryz.zeroValue4
 t5 := Tryz.underlying5
 a5 := Tryz.isAgg5
 z5 := Tryz.sizeOf5
 v5 := Tryz.zeroValue5
 t9 := Tryz.underlying9
 a9 := Tryz.isAgg9
 z9 := Tryz.sizeOf9
 v9 := Tryz.zeroValue9
 t22 := Tryz.underlying57
 a22 := Tryz.isAgg57
 z22 := Tryz.sizeOf57
 v22 := Tryz.zeroValue57
 t25 := Tryz.underlying142
 a25 := Tryz.isAgg142
 z25 := Tryz.sizeOf142
 v25 := Tryz.zeroValue142
 t39 := Tryz.underlying117
 a39 := Tryz.isAgg117
 z39 := Tryz.sizeOf117
 v39 := Tryz.zeroValue117
 t45 := Tryz.underlying226
 a45 := Tryz.isAgg226
 z45 := Tryz.sizeOf226
 v45 := Tryz.zeroValue226
 t46 := Tryz.underlying227
 a46 := Tryz.isAgg227
 z46 := Tryz.sizeOf227
 v46 := Tryz.zeroValue227
 t50 := Tryz.underlying177
 a50 := Tryz.isAgg177
 z50 := Tryz.sizeOf177
 v50 := Tryz.zeroValue177
 t53 := Tryz.underlying35
 a53 := Tryz.isAgg35
 z53 := Tryz.sizeOf35
 v53 := Tryz.zeroValue35
 t55 := Tryz.underlying234
 a55 := Tryz.isAgg234
 z55 := Tryz.sizeOf234
 v55 := Tryz.zeroValue234
 t66 := Tryz.underlying256
 a66 := Tryz.isAgg256
 z66 := Tryz.sizeOf256
 v66 := Tryz.zeroValue256
 t70 := Tryz.underlying260
 a70 := Tryz.isAgg260
 z70 := Tryz.sizeOf260
 v70 := Tryz.zeroValue260
 t76 := Tryz.underlying268
 a76 := Tryz.isAgg268
 z76 := Tryz.sizeOf268
 v76 := Tryz.zeroValue268
 t77 := Tryz.underlying269
 a77 := Tryz.isAgg269
 z77 := Tryz.sizeOf269
 v77 := Tryz.zeroValue269 }
def Tryz.sortK_ren : Go.Shelf.Ren := ⟨fun | 6 => 104 | 15 => 109 | 14 => 139 | 28 => 148 | 29 => 149 | 20 => 171 | 21 => 172 | 22 => 173 | 23 => 174 | 24 => 175 | 25 => 176 | 26 => 177 | 27 => 178 | 46 => 190 | 47 => 180 | 48 => 181 | 49 => 191 | 50 => 192 | 57 => 195 | n => n, fun | 22 => 185 | 24 => 102 | 25 => 188 | 3 => 3 | 39 => 117 | 0 => 0 | 53 => 35 | 55 => 234 | 4 => 4 | 46 => 227 | 45 => 226 | 50 => 177 | 5 => 5 | 9 => 9 | 66 => 256 | 70 => 260 | 76 => 268 | 77 => 269 | n => n, fun | n => n⟩
theorem Tryz.sortK : Go.Proofs.SlLaysF0.n6 Tryz.prog Tryz.sortK_ren := {
 mixed := by kernel_rfl
 f6 := ⟨Tryz.f104.name, by decide, Tryz.func104.trans (congrArg some (by kernel_rfl))⟩
 f14 := ⟨Tryz.f139.name, by decide, Tryz.func139.trans (congrArg some (by kernel_rfl))⟩
 f15 := Tryz.func109.trans (congrArg some (by kernel_rfl))
 f20 := ⟨Tryz.f171.name, by decide, Tryz.func171.trans (congrArg some (by kernel_rfl))⟩
 f21 := ⟨Tryz.f172.name, by decide, Tryz.func172.trans (congrArg some (by kernel_rfl))⟩
 f22 := ⟨Tryz.f173.name, by decide, Tryz.func173.trans (congrArg some (by kernel_rfl))⟩
 f23 := ⟨Tryz.f174.name, by decide, Tryz.func174.trans (congrArg some (by kernel_rfl))⟩
 f24 := ⟨Tryz.f175.name, by decide, Tryz.func175.trans (congrArg some (by kernel_rfl))⟩
 f25 := ⟨Tryz.f176.name, by decide, Tryz.func176.trans (congrArg some (by kernel_rfl))⟩
 f26 := ⟨Tryz.f177.name, by decide, Tryz.func177.trans (congrArg some (by kernel_rfl))⟩
 f27 := ⟨Tryz.f178.name, by decide, Tryz.func178.trans (congrArg some (by kernel_rfl))⟩
 f28 := Tryz.func148.trans (congrArg some (by kernel_rfl))
 f29 := Tryz.func149.trans (congrArg some (by kernel_rfl))
 f46 := ⟨Tryz.f190.name, by decide, Tryz.func190.trans (congrArg some (by kernel_rfl))⟩
 f47 := Tryz.func180.trans (congrArg some (by kernel_rfl))
 f48 := Tryz.func181.trans (congrArg some (by kernel_rfl))
 f49 := ⟨Tryz.f191.name, by decide, Tryz.func191.trans (congrArg some (by kernel_rfl))⟩
 f50 := ⟨Tryz.f192.name, by decide, Tryz.func192.trans (congrArg some (by kernel_rfl))⟩
 f57 := ⟨Tryz.f195.name, by decide, Tryz.func195.trans (congrArg some (by kernel_rfl))⟩
 t0 := Tryz.underlying0
 a0 := Tryz.isAgg0
 z0 := Tryz.sizeOf0
 v0 := Tryz.zeroValue0
 t3 := Tryz.underlying3
 a3 := Tryz.isAgg3
 z3 := Tryz.sizeOf3
 v3 := Tryz.zeroValue3
 t4 := Tryz.underlying4
 a4 := Tryz.isAgg4
 z4 := Tryz.sizeOf4
 v4 := Tryz.zeroValue4
 t5 := Tryz.underlying5
 a5 := Tryz.isAgg5
 z5 := Tryz.sizeOf5
 v5 := Tryz.zeroValue5
 t9 := Tryz.underlying9
 a9 := Tryz.isAgg9
 z9 := Tryz.sizeOf9
 v9 := Tryz.zeroValue9
 t22 := Tryz.underlying185
 a22 := Tryz.isAgg185
 z22 := Tryz.sizeOf185
 v22 := Tryz.zeroValue185
 t25 := Tryz.underlying188
 a25 := Tryz.isAgg188
 z25 := Tryz.sizeOf188
 v25 := Tryz.zeroValue188
 t39 := Tryz.underlying117
 a39 := Tryz.isAgg117
 z39 := Tryz.sizeOf117
 v39 := Tryz.zeroValue117
 t45 := Tryz.underlying226
 a45 := Tryz.isAgg226
 z45 := Tryz.sizeOf226
 v45 := Tryz.zeroValue226
 t46 := Tryz.underlying227
 a46 := Tryz.isAgg227
 z46 := Tryz.sizeOf227
 v46 := Tryz.zeroValue227
 t50 := Tryz.underlying177
 a50 := Tryz.isAgg177
 z50 := Tryz.sizeOf177
 v50 := Tryz.zeroValue177
 t53 := Tryz.underlying35
 a53 := Tryz.isAgg35
 z53 := Tryz.sizeOf35
 v53 := Tryz.zeroValue35
 t55 := Tryz.underlying234
 a55 := Tryz.isAgg234
 z55 := Tryz.sizeOf234
 v55 := Tryz.zeroValue234
 t66 := Tryz.underlying256
 a66 := Tryz.isAgg256
 z66 := Tryz.sizeOf256
 v66 := Tryz.zeroValue256
 t70 := Tryz.underlying260
 a70 := Tryz.isAgg260
 z70 := Tryz.sizeOf260
 v70 := Tryz.zeroValue260
 t76 := Tryz.underlying268
 a76 := Tryz.isAgg268
 z76 := Tryz.sizeOf268
 v76 := Tryz.zeroValue268
 t77 := Tryz.underlying269
 a77 := Tryz.isAgg269
 z77 := Tryz.sizeOf269
 v77 := Tryz.zeroValue269 }
end Go.Proofs
namespace Go.Proofs.YtkoidahgbbabiaaGreat
open Go.RowKit
theorem flatK_enc (xs : List Pf) : Sort.flatK encP 2 xs.toArray = (xs.flatMap encP).toArray := by
 apply Sort.ext_get!
 ·rw [Sort.size_flatK]
  simp [jX encP_len]
 ·intro t ht
  rw [Sort.size_flatK] at ht
  have ht' : t < xs.length * 2 := by simpa using ht
  rw [Sort.get_flatK _ _ _ _ ht]
  have hi : t / 2 < xs.length := by omega
  have hf := flat_get encP_len xs (t / 2) _ (List.getElem?_eq_getElem hi) (t % 2) (by omega)
  rw [show t / 2 * 2 + t % 2 = t by omega] at hf
  have h1 : xs.toArray[t / 2]! = xs[t / 2] := by simp [hi]
  rw [h1]
  have hl : (xs.flatMap encP).length = xs.length * 2 := jX encP_len xs
  have hm : t % 2 < (encP xs[t / 2]).length := by rw [encP_len]; omega
  rw [List.getElem?_eq_getElem hm, List.getElem?_eq_getElem (by rw [hl]; exact ht')] at hf
  have hf := Option.some.inj hf
  rw [getElem!_pos (xs.flatMap encP).toArray t (by simpa [hl] using ht'), getElem!_pos (encP xs[t / 2]) (t % 2) hm]
  simpa using hf.symm
theorem put_heap {w : World} {g : Nat} {cur : Array Value} {T : TypeId} (F : Array Value) (h : w.heap[g]? = some (.cells cur T (0, 0))) : (Sort.putRow id w g 0 F).heap[g]? = some (.cells (Sort.putCells id 0 F cur) T (0, 0)) := by
 unfold Sort.putRow Sort.mapBlock
 simp only [Array.getElem?_modify, if_true, h, Option.map_some, Sort.onCells]
theorem put_take {cur F : Array Value} (h : F.size ≤ cur.size) : (Sort.putCells id 0 F cur).toList.take F.size = F.toList := by
 apply List.ext_getElem?
 intro i
 by_cases hi : i < F.size
 ·rw [List.getElem?_take_of_lt hi]
  unfold Sort.putCells
  rw [Array.getElem?_toList, Array.getElem?_mapIdx, Array.getElem?_eq_getElem (show i < cur.size by omega)]
  simp [hi]
 ·rw [List.getElem?_eq_none (by simp; omega), List.getElem?_eq_none (by simp; omega)]
theorem own_put {w : World} {B g n c k : Nat} {e : TypeId} {xs ys : List Value} (h : w.ownsRow B e k (.slice (some ⟨g, 0, none⟩) n c) n xs) (hy : ys.length = n * k) (m : Nat) (os : Array Obj) :
  (Sort.grow (Sort.putRow id (Sort.ahead w m) g 0 ys.toArray) os).ownsRow B e k (.slice (some ⟨g, 0, none⟩) n c) n ys ∧ Kept (fun b => b = g) w (Sort.grow (Sort.putRow id (Sort.ahead w m) g 0 ys.toArray) os) := by
 obtain ⟨h1, ⟨h2, _⟩ | ⟨g', cap, cur, h2, hB, hg, hn, hm, hs, hc⟩⟩ := h
 ·cases h2
 ·injection h2 with e1 e2 e3
  injection e1 with e1
  injection e1 with e1
  subst e1; subst e3
  have hlt := jE hg
  have hp := put_heap (w := Sort.ahead w m) ys.toArray hg
  have hgrow : ∀ (W : World) (i : Nat), i < W.heap.size → (Sort.grow W os).heap[i]? = W.heap[i]? := fun W i hi => by unfold Sort.grow; exact Array.getElem?_append_left hi
  have hsz : (Sort.putRow id (Sort.ahead w m) g 0 ys.toArray).heap.size = w.heap.size := by rw [Sort.size_putRow]; rfl
  refine ⟨⟨hy, .inr ⟨g, c, _, rfl, hB, (hgrow _ g (by rw [hsz]; exact hlt)).trans hp, hn, hm, ?_, ?_⟩⟩, ?_⟩
  ·unfold Sort.putCells; simp [hs]
  ·have := put_take (cur := cur) (F := ys.toArray) (by rw [hs, List.size_toArray, hy]; exact Nat.mul_le_mul_right _ hn)
   rw [List.size_toArray, hy] at this
   simpa using this
  ·refine ⟨rfl, rfl, rfl, ?_, fun i hi hne => ?_⟩
   ·show w.heap.size ≤ ((Sort.putRow id (Sort.ahead w m) g 0 ys.toArray).heap ++ os).size
    rw [Array.size_append, hsz]; omega
   ·rw [hgrow _ i (by rw [hsz]; exact hi)]
    unfold Sort.putRow Sort.mapBlock
    rw [Array.getElem?_modify, if_neg (fun h => hne h.symm)]
    rfl
theorem ltOf_pcmp (x y : Pf) : Go.Proofs.ltOf pcmp x y = decide (plt x y) := by
 unfold Go.Proofs.ltOf
 by_cases h : plt x y
 ·simp [h, pcmp_lt.2 h]
 ·have := fun k => h (pcmp_lt.1 k)
  have h2 : ¬ pcmp x y < 0 := this
  simp [h, h2]
theorem swo_pcmp : Sort.SWO (Go.Proofs.ltOf pcmp) where
 irrefl x := by rw [ltOf_pcmp]; simpa using plt_irrefl x
 trans x y z h1 h2 := by
  rw [ltOf_pcmp] at *
  simp only [decide_eq_true_eq] at *
  exact plt_trans h1 h2
 ntrans x y z h1 h2 := by
  rw [ltOf_pcmp] at *
  simp only [decide_eq_false_iff_not] at *
  unfold plt at *; omega
theorem cmp_lays (blk off size : Nat) (w : World) : CmpLays Tryz.prog 22 #[] encP 2 pcmp blk off size w := by
 intro m os dk _ x y
 exact (ip_CmpD x.1 x.2 y.1 y.2 _).mono fun e w' ⟨he, hd⟩ => ⟨he, hd.grow⟩
theorem isAgg_pref : ∀ w, (isAgg 53).run Tryz.prog w = .ok true w := Tryz.isAgg53
theorem sizeOf_pref : ∀ w, (Go.sizeOf 53).run Tryz.prog w = .ok 2 w := Tryz.sizeOf53
theorem ps_Sort (B : Nat) (v : Value) (xs : List Pf) (w : World) (h : OwnPs w B v xs) (hn : xs.length < 4611686018427387904) :
  Calls Tryz.prog 59 #[v, .func (.func 22) #[] #[]] w fun e w' => ∃ ys, e = .returned (.tuple #[]) ∧ ys.length = xs.length ∧ (∀ p, p ∈ ys ↔ p ∈ xs) ∧ ys.Pairwise (fun x y => ¬ plt y x) ∧ OwnPs w' B v ys ∧ Kept (fun b => v.ownBlock = some b) w w' := by
 obtain ⟨h1, hok⟩ := h
 rcases own_slice h1 with ⟨rfl, h0⟩ | ⟨g, c, rfl⟩
 ·obtain rfl := List.length_eq_zero_iff.1 h0
  refine (AnyF.slices_SortFunc_none Tryz.sortP none 0 _ w).mono ?_
  rintro e w' ⟨rfl, rfl⟩
  exact ⟨[], rfl, rfl, fun p => Iff.rfl, List.Pairwise.nil, ⟨h1, hok⟩, Kept.refl _ _⟩
 ·have eg : ∀ args w, (callFunc 22 args).run Tryz.prog w = .ok (.enter 22 args) w := enters_of Tryz.func22 (by kernel_rfl) rfl
  have hH : Sort.HoldsK encP 2 w g 0 xs.toArray := by
   unfold Sort.HoldsK
   rw [flatK_enc]
   intro j hj
   obtain ⟨-, ⟨h2, _⟩ | ⟨g', cap, cur, h2, -, hg, hcn, -, hs, hc⟩⟩ := h1
   ·cases h2
   ·injection h2 with e1 e2 e3
    injection e1 with e1
    injection e1 with e1
    subst e1; subst e3
    rw [List.size_toArray] at hj
    rw [jX encP_len] at hj
    have hl : (xs.flatMap encP)[j]? = cur[j]? := by
     rw [← hc, List.getElem?_take_of_lt hj, Array.getElem?_toList]
    rw [Nat.zero_add]
    refine ⟨?_, jN hg j⟩
    rw [jB hg, ← hl, List.getElem?_eq_getElem (by rw [jX encP_len]; exact hj)]
    rw [getElem!_pos _ _ (by simpa [jX encP_len] using hj)]
    simp
  have hblk : g < w.heap.size := by
   obtain ⟨-, ⟨h2, _⟩ | ⟨g', cap, cur, h2, -, hg, -⟩⟩ := h1
   ·cases h2
   ·injection h2 with e1 e2 e3
    injection e1 with e1
    injection e1 with e1
    subst e1
    exact jE hg
  have hcon := AnyQ.slices_SortFunc_total Tryz.sortP 2 isAgg_pref sizeOf_pref encP encP_len encP_one pcmp swo_pcmp 22 #[] g 0 c xs.toArray w eg (cmp_lays g 0 xs.toArray.size w) hH hblk (by simpa using hn) (fun x y hx hy => by
   rw [ltOf_pcmp] at hx hy
   simp only [decide_eq_false_iff_not] at hx hy
   exact plt_total hx hy)
  refine hcon.mono ?_
  rintro e w' ⟨rfl, n, os, rfl⟩
  simp only
  generalize hy : xs.mergeSort (fun x y => !(Go.Proofs.ltOf pcmp) y x) = ys
  have hlen : ys.length = xs.length := by rw [← hy, List.length_mergeSort]
  have hmem : ∀ p, p ∈ ys ↔ p ∈ xs := fun p => by rw [← hy]; exact (List.mergeSort_perm _ _).mem_iff
  have hsort : ys.Pairwise (fun x y => ¬ plt y x) := by
   have := List.pairwise_mergeSort (le := fun x y => !(Go.Proofs.ltOf pcmp) y x) (fun a b c h1 h2 => by
    simp only [ltOf_pcmp, Bool.not_eq_true', decide_eq_false_iff_not] at *
    unfold plt at *; omega) (fun a b => by
    simp only [ltOf_pcmp, Bool.or_eq_true, Bool.not_eq_true', decide_eq_false_iff_not]
    unfold plt; omega) xs
   rw [hy] at this
   exact this.imp fun h => by simpa only [ltOf_pcmp, Bool.not_eq_true', decide_eq_false_iff_not] using h
  have hp := own_put h1 (ys := ys.flatMap encP) (by rw [jX encP_len, hlen]) n os
  unfold Go.Proofs.sortWorldK Sort.putRowK
  rw [flatK_enc]
  refine ⟨ys, trivial, hlen, hmem, hsort, ⟨by rw [hlen]; exact hp.1, fun p hp => hok p ((hmem p).1 hp)⟩, hp.2.imp fun b hb => by rw [hb]; rfl⟩
open Go.RowKit
def setOf (ps : List Pf) : List Pf := comp (ps.mergeSort fun x y => !decide (plt y x))
theorem setOf_srt (ps : List Pf) : Srt (setOf ps) ∧ ∀ p, p ∈ setOf ps ↔ p ∈ ps := by
 have h := List.pairwise_mergeSort (le := fun x y : Pf => !decide (plt y x)) (fun a b c h1 h2 => by
    simp only [Bool.not_eq_true', decide_eq_false_iff_not] at *
    unfold plt at *; omega) (fun a b => by
    simp only [Bool.or_eq_true, Bool.not_eq_true', decide_eq_false_iff_not]
    unfold plt; omega) ps
 have h2 := comp_srt (h.imp fun {a b} k => by simpa only [Bool.not_eq_true', decide_eq_false_iff_not] using k)
 exact ⟨h2.1, fun p => (h2.2 p).trans (List.mergeSort_perm _ _).mem_iff⟩
theorem setOf_is {ps ys : List Pf} (h : Srt ys) (hm : ∀ p, p ∈ ys ↔ p ∈ ps) : setOf ps = ys := srt_ext (setOf_srt ps).1 h fun p => ((setOf_srt ps).2 p).trans (hm p).symm
theorem setOf_len (ps : List Pf) : (setOf ps).length ≤ ps.length := by
 have := comp_len (ps.mergeSort fun x y => !decide (plt y x))
 rw [List.length_mergeSort] at this
 exact this
def rights (ps : List Pf) : Bool := ps.all fun p => rightB p.1 p.2
theorem ownPs_nil (w : World) (B : Nat) : OwnPs w B (.slice none 0 0) [] := ⟨⟨rfl, .inl ⟨rfl, rfl⟩⟩, fun p hp => by simp at hp⟩
theorem box1c (w : World) (v : Value) (T : TypeId) : ∃ W0, W0 = w.alloc (.cells #[v] T) ∧ W0.cell? ⟨w.heap.size, 0, none⟩ = some v ∧ W0.frozen? ⟨w.heap.size, 0, none⟩ = false ∧ Below w.heap.size w W0 ∧ W0.heap.size = w.heap.size + 1 := by
 refine ⟨_, rfl, ?_, ?_, (Below.refl _ _).alloc (Nat.le_refl _) _, by simp⟩
 ·rw [jB (heap_alloc_new w _)]; rfl
 ·exact jN (heap_alloc_new w _) 0
def AllR (ps : List Pf) (k : Nat) : Prop := ∀ (i : Nat) (x : Pf), i < k → ps[i]? = some x → rightB x.1 x.2 = true
theorem allR_step {ps : List Pf} {k : Nat} {x : Pf} (h : AllR ps k) (hx : ps[k]? = some x) (hr : rightB x.1 x.2 = true) : AllR ps (k + 1) := by
 intro i y hi hy
 by_cases e : i = k
 ·subst e; rw [hx] at hy; obtain rfl := Option.some.inj hy; exact hr
 ·exact h i y (by omega) hy
theorem allR_all {ps : List Pf} (h : AllR ps ps.length) : rights ps = true := by
 unfold rights
 rw [List.all_eq_true]
 intro x hx
 obtain ⟨i, hi⟩ := List.mem_iff_getElem?.1 hx
 exact h i x (List.getElem?_eq_some_iff.1 hi).1 hi
theorem own_base {w : World} {B B' k n : Nat} {e : TypeId} {v : Value} {xs : List Value} (h : w.ownsRow B e k v n xs) (hB : B' ≤ B) : w.ownsRow B' e k v n xs := by
 obtain ⟨h1, h2⟩ := h
 refine ⟨h1, h2.imp_right ?_⟩
 rintro ⟨g, cap, cur, h3, h4, h5⟩
 exact ⟨g, cap, cur, h3, by omega, h5⟩
theorem OwnPs.setElder {w : World} {B B' b : Nat} {v : Value} {xs : List Pf} (h : OwnPs w B v xs) (hb : b < B) (hB : B' ≤ B) (u : Value) : OwnPs (w.setCell ⟨b, 0, none⟩ u) B' v xs := by
 obtain ⟨⟨h1, h2⟩, h3⟩ := h
 refine ⟨⟨h1, h2.imp_right ?_⟩, h3⟩
 rintro ⟨g, cap, cur, h4, h5, h6, h7⟩
 exact ⟨g, cap, cur, h4, by omega, (jK b 0 u (by omega)).trans h6, h7⟩
open Go.RowKit
section
variable {P : Program} {w : World}
theorem run_append_noneP (base : Nat) (t ty e : TypeId) (i : TypeInfo) (size c : Nat) (ht : P.underlying t = some (.slice e)) (hi : P.info? e = some i)
  (v : Value) (n : Nat) (xs : List Value) (hown : w.ownsRow base e size v n xs) :
  (Builtin.append_ #[t, t] ty #[v, .slice none 0 c]).run P w = .ok v w := by
 rcases hown.2 with ⟨rfl, rfl⟩ | ⟨g, cap, cur, rfl, _, _, hnc, _⟩
 ·simp [Builtin.append_, run_underlying ht, sizeOf, typeInfo, hi, Builtin.lenOf, Builtin.firstCells]
 ·simp [Builtin.append_, run_underlying ht, sizeOf, typeInfo, hi, Builtin.lenOf, Builtin.firstCells, hnc, storeCells]
theorem wpList_append_noneP {ops : Array Oper} {rest : List Oper} {o : Oper} {a : Act} {Q : Exit → Act → World → Prop} (hgd : o.guard = none) (s x : Operand) (t : TypeId)
  (ho : o.op = .call { callee := .builtin .append, args := #[s, x], argTypes := #[t, t] })
  (base : Nat) (e : TypeId) (i : TypeInfo) (size c : Nat) (ht : P.underlying t = some (.slice e)) (hi : P.info? e = some i)
  (v : Value) (n : Nat) (xs : List Value) (hs : a.eval s = v) (hown : w.ownsRow base e size v n xs) (hx : a.eval x = .slice none 0 c)
  (h : wpList P ops Q rest (a.put o.dst v) w) : wpList P ops Q (o :: rest) a w := by
 refine wpList_plain hgd fun K hK => ?_
 have hr := run_append_noneP (P := P) (w := w) base t o.type e i size c ht hi v n xs hown
 unfold Oper.wp execOp
 simp only [ho, resolve, invoke, builtin, Sem.run_bind, Sem.run_pure, Result.andThen_ok, List.map_toArray, List.map_cons, List.map_nil, hs, hx, hr]
 exact hK _ _ h
theorem wpList_append_run {ops : Array Oper} {rest : List Oper} {o : Oper} {a : Act} {Q : Exit → Act → World → Prop} (hgd : o.guard = none) (s x : Operand) (ts : Array TypeId)
  (ho : o.op = .call { callee := .builtin .append, args := #[s, x], argTypes := ts }) (vs vx v : Value) (w' : World) (hs : a.eval s = vs) (hx : a.eval x = vx) (hr : (Builtin.append_ ts o.type #[vs, vx]).run P w = .ok v w')
  (h : wpList P ops Q rest (a.put o.dst v) w') : wpList P ops Q (o :: rest) a w := by
 refine wpList_plain hgd fun K hK => ?_
 unfold Oper.wp execOp
 simp only [ho, resolve, invoke, builtin, Sem.run_bind, Sem.run_pure, Result.andThen_ok, List.map_toArray, List.map_cons, List.map_nil, hs, hx, hr]
 exact hK _ _ h
end
theorem ps_cells {w : World} {v : Value} {xs : List Pf} (h : PsAt w v xs) : ∃ (sa : Option Addr) (cap : Nat), v = .slice sa xs.length cap ∧ (sa = none → xs = []) ∧ ∀ ad, sa = some ad → ∀ q u, (xs.flatMap encP)[q]? = some u → w.cell? (ad.add q) = some u := by
 obtain ⟨sa, cap, h1, h2, h3, h4⟩ := h
 refine ⟨sa, cap, h1, fun e => ?_, fun ad e q u hq => ?_⟩
 ·by_cases h0 : 0 < xs.length
  ·obtain ⟨b, off, h5, _⟩ := h4 h0
   rw [e] at h5; cases h5
  ·exact List.length_eq_zero_iff.1 (by omega)
 ·have hql := (List.getElem?_eq_some_iff.1 hq).1
  rw [jX encP_len] at hql
  obtain ⟨b, off, h5, h6⟩ := h4 (by omega)
  rw [e] at h5
  injection h5 with h5
  subst h5
  have hi : q / 2 < xs.length := by omega
  have hf := flat_get encP_len xs (q / 2) _ (List.getElem?_eq_getElem hi) (q % 2) (by omega)
  have e : q / 2 * 2 + q % 2 = q := by omega
  rw [e, hq] at hf
  obtain ⟨cs, -, ⟨rfl, -⟩, hc⟩ := h6 (q / 2) _ (List.getElem?_eq_getElem hi)
  have := hc (q % 2) u hf.symm
  rw [Nat.add_assoc, e] at this
  rw [Addr.add_mid]
  exact this
theorem wpList_app {ops : Array Oper} {rest : List Oper} {o : Oper} {a : Act} {Q : Exit → Act → World → Prop} {w : World} (hgd : o.guard = none) (s x : Operand)
  (ho : o.op = .call { callee := .builtin .append, args := #[s, x], argTypes := #[23, 23] })
  (B : Nat) (v u : Value) (xs ys : List Pf) (hs : a.eval s = v) (hx : a.eval x = u) (hB : B ≤ w.heap.size) (hv : OwnPs w B v xs) (hu : PsAt w u ys) (hsz : xs.length + ys.length ≤ 8796093022208)
  (h : ∀ v' w', OwnPs w' B v' (xs ++ ys) → Below B w w' → Kept (fun b => v.ownBlock = some b) w w' → wpList Tryz.prog ops Q rest (a.put o.dst v') w') : wpList Tryz.prog ops Q (o :: rest) a w := by
 obtain ⟨i0, hii, hz0, hz1, hz2⟩ := info_parts info_pref
 have hok := ps_ok hu
 obtain ⟨sa, cap, rfl, h1, h2⟩ := ps_cells hu
 cases sa with
 | none =>
  obtain rfl := h1 rfl
  refine wpList_append_noneP hgd s x 23 ho B 53 i0 2 cap Tryz.underlying23 hii v xs.length _ hs hv.1 hx ?_
  exact h v w (by rw [List.append_nil]; exact hv) (Below.refl _ _) (Kept.refl _ _)
 | some ad =>
  refine wpList_append_own w hgd s x 23 ho B 53 i0 _ 2 16 Tryz.underlying23 hii hz0 hz1 hz2 rfl (by decide) v xs.length _ hs hv.1 ad ys.length cap (ys.flatMap encP) hx (jX encP_len ys) (h2 ad rfl) (flat_one encP_one ys) (by unfold maxLen; omega) (by omega) hB ?_
  intro v' w' ho' hg _
  refine h v' w' ⟨?_, ?_⟩ ?_ ⟨hg.os, hg.tape, hg.output, hg.size, fun k hk hne => hg.block k hk (fun e => hne e.symm)⟩
  ·rw [List.length_append, List.flatMap_append]; exact ho'
  ·intro p hp
   rcases List.mem_append.1 hp with hp | hp
   ·exact hv.2 p hp
   ·exact hok p hp
  ·exact (Below.refl _ _).grown hg hB (fun k hk => jJ hv.1 k hk)
set_option maxHeartbeats 3200000 in
set_option maxRecDepth 100000 in
theorem ps_Grow (n : Nat) (w : World) (hn : n ≤ 8796093022208) : Calls Tryz.prog 133 #[.slice none 0 0, .int .i64 n] w fun e w' => ∃ v', e = .returned v' ∧ OwnPs w' w.heap.size v' [] ∧ Below w.heap.size w w' := by
 obtain ⟨i0, hii, hz0, hz1, hz2⟩ := info_parts info_pref
 by_cases h0 : n = 0
 ·subst h0
  have OE := jh (ownPs_nil w w.heap.size)
  go_enter Tryz.func133, Tryz.ntmps133
  go_wp2_with fail
  go_ret
  exact ⟨_, rfl, OE.out, Below.refl _ _⟩
 ·have hk : 0 < n := by omega
  have HA := Lib.run_append_grow_zeros (P := Tryz.prog) w 23 3 23 53 i0 _ .i64 .i64 Tryz.underlying23 Tryz.underlying3 hii hz0 none 0 0 [] (by
   have := run_firstCells_none (P := Tryz.prog) w.drew i0.size 0 0 0
   simpa using this) n hk (by rw [hz1]; decide) (by omega) (by omega) (by rw [hz2]; omega) (by
    rw [hz2]
    have : Builtin.nextslicecap (0 + n) 0 = 0 + n := by simp [Builtin.nextslicecap, hk]
    rw [this]; omega)
  rw [Nat.zero_add] at HA
  have hc1 := grownCap_ge w n 0 53
  have hc2 := grownCap_le_maxLen w n 0 53 (by unfold maxLen; omega)
  generalize grownCap w n 0 53 = cap at HA hc1 hc2
  have hC : ((([] : List Value).toArray ++ Builtin.zeroCells (Value.agg #[.int .u32 0, .int .i64 0]).cells n) ++ Builtin.zeroCells (Value.agg #[.int .u32 0, .int .i64 0]).cells (cap - n)).size = cap * 2 := by
   rw [Array.size_append, Array.size_append, size_zeroCells, size_zeroCells]
   simp [Value.cells]; omega
  generalize ((([] : List Value).toArray ++ Builtin.zeroCells (Value.agg #[.int .u32 0, .int .i64 0]).cells n) ++ Builtin.zeroCells (Value.agg #[.int .u32 0, .int .i64 0]).cells (cap - n)) = C at HA hC
  have OE : Hid (OwnPs (w.drew.alloc (.cells C 53)) w.heap.size (.slice (some ⟨w.heap.size, 0, none⟩) 0 cap) []) := jh ⟨⟨rfl, .inr ⟨_, cap, C, rfl, Nat.le_refl _, heap_alloc_new w.drew _, by simp, hc2, hC, by simp⟩⟩, fun p hp => by simp at hp⟩
  have HB : Hid (Below w.heap.size w (w.drew.alloc (.cells C 53))) := jh ((Below.refl _ _).drew.alloc (Nat.le_refl _) _)
  have z1 : ¬ ((n : Int) < 0) := by omega
  have z2 : IntKind.i64.wrap (n : Int) = n := IntWalk.i64_in _ (by omega)
  have z3 : ((n : Int) > 0) := by omega
  have z4 : (0 : Int) ≤ (n : Int) := by omega
  have z5 : (n : Int) ≤ (cap : Int) := by omega
  clear hC
  go_enter Tryz.func133, Tryz.ntmps133
  have HA := jh HA
  go_wp2_with (at_builtin; refine wpList_append_run rfl _ _ #[23, 3] rfl (.slice none 0 0) (.int .i64 n) (.slice (some ⟨w.heap.size, 0, none⟩) n cap) (w.drew.alloc (.cells C 53)) rfl rfl HA.out ?_)
  go_ret
  exact ⟨_, rfl, OE.out, HB.out⟩
open Go.RowKit
theorem OwnPs.base {w : World} {B B' : Nat} {v : Value} {xs : List Pf} (h : OwnPs w B v xs) (hB : B' ≤ B) : OwnPs w B' v xs := ⟨own_base h.1 hB, h.2⟩
set_option maxHeartbeats 6400000 in
set_option maxRecDepth 100000 in
theorem ps_Concat (sb : Nat) (v u : Value) (xs ys : List Pf) (w : World) (hs0 : w.cell? ⟨sb, 0, none⟩ = some v) (hs1 : w.cell? ⟨sb, 1, none⟩ = some u) (hv : PsAt w v xs) (hu : PsAt w u ys) (hsz : xs.length + ys.length ≤ 8796093022208) :
  Calls Tryz.prog 93 #[.slice (some ⟨sb, 0, none⟩) 2 2] w fun e w' => ∃ v', e = .returned v' ∧ OwnPs w' w.heap.size v' (xs ++ ys) ∧ Below w.heap.size w w' := by
 have HV := jh hv
 have HU := jh hu
 have GR := jh (ps_Grow (xs.length + ys.length) w hsz)
 obtain ⟨sv, cv, rfl, -⟩ := hv
 obtain ⟨su, cu, rfl, -⟩ := hu
 have z0 : IntKind.i64.wrap ((0 : Int) + (xs.length : Int)) = (xs.length : Int) := by rw [Int.zero_add]; exact IntWalk.i64_in _ (by omega)
 have z1 : IntKind.i64.wrap (xs.length : Int) = (xs.length : Int) := IntWalk.i64_in _ (by omega)
 have z2 : IntKind.i64.wrap ((xs.length : Int) + (ys.length : Int)) = ((xs.length + ys.length : Nat) : Int) := by rw [IntWalk.i64_in _ (by omega)]; omega
 have n1 : ¬ ((xs.length : Int) < 0) := by omega
 have n2 : ¬ (((xs.length + ys.length : Nat) : Int) < 0) := by omega
 go_enter Tryz.func93, Tryz.ntmps93
 go_wp2_with fail
 refine wp_loop_rounds 3 ?_
 rw [rounds_succ]
 go_wp2_with fail
 rw [rounds_succ]
 go_wp2_with fail
 rw [rounds_succ]
 go_wp2_with fail
 refine GR.out.mono ?_
 rintro e w1 ⟨v1, rfl, O1, hb1⟩
 have OG := jh O1
 have s0 := jA hs0 hb1
 have s1 := jA hs1 hb1
 have HV1 := jh (HV.out.below hb1)
 have HU1 := jh (HU.out.below hb1)
 have B1 := jh hb1
 have sl0 : Hid (sb < w.heap.size) := jh (jH hs0)
 clear GR O1 hb1 z0 z1 z2 n1 n2 hs0 hs1 HV
 go_wp2_with fail
 refine wp_loop_rounds 3 ?_
 rw [rounds_succ]
 go_wp2_with (at_builtin; refine wpList_app rfl _ _ rfl w.heap.size v1 (.slice sv xs.length cv) [] xs rfl rfl B1.out.size OG.out HV1.out (by simp; omega) ?_)
 intro v2 w2 ho2 hb2 _
 have O2 : Hid (OwnPs w2 w.heap.size v2 xs) := jh ho2
 have B2 := jh (B1.out.trans hb2)
 have s1 := (hb2.cell (p := ⟨sb, 1, none⟩) sl0.out).trans s1
 have HU2 := jh (HU.out.below B2.out)
 clear ho2 hb2 OG B1 s0 HV1 HU1
 go_wp2_with fail
 rw [rounds_succ]
 go_wp2_with (at_builtin; refine wpList_app rfl _ _ rfl w.heap.size v2 (.slice su ys.length cu) xs ys rfl rfl B2.out.size O2.out HU2.out (by omega) ?_)
 intro v3 w3 ho3 hb3 _
 have O3 := jh ho3
 have B3 := jh (B2.out.trans hb3)
 clear ho3 hb3 O2 B2 s1 HU2
 go_wp2_with fail
 rw [rounds_succ]
 go_wp2_with fail
 go_ret
 exact ⟨_, rfl, O3.out, B3.out⟩
theorem ad_sorted (B : Nat) (v : Value) (xs : List Pf) (w : World) (h : OwnPs w B v xs) (hn : xs.length ≤ 8796093022208) :
  Calls Tryz.prog 92 #[v] w fun e w' => ∃ v', e = .returned v' ∧ OwnPs w' B v' (setOf xs) ∧ Kept (fun b => v.ownBlock = some b) w w' := by
 have ST := jh (ps_Sort B v xs w h (by omega))
 have CP := jh (fun W ys (h : OwnPs W B v ys) hn => ps_Compact B v ys W h hn)
 have SE := jh (fun ys h hm => setOf_is (ps := xs) (ys := ys) h hm)
 clear h
 go_enter Tryz.func92, Tryz.ntmps92
 go_wp2_with fail
 refine ST.out.mono ?_
 rintro e w1 ⟨ys, rfl, hl, hm, hp, ho, hk⟩
 have HK := jh hk
 have CQ := jh (CP.out w1 ys ho (by omega))
 have EQ : Hid (comp ys = setOf xs) := jh (by
  have hc := comp_srt hp
  exact (SE.out _ hc.1 (fun p => (hc.2 p).trans (hm p))).symm)
 clear hl hm hp ho hk ST CP SE
 go_wp2_with fail
 refine CQ.out.mono ?_
 rintro e w2 ⟨v', rfl, ho, hk⟩
 have O2 := jh ho
 have K2 := jh (HK.out.trans hk)
 clear ho hk CQ HK
 go_wp2_with fail
 go_ret
 exact ⟨_, rfl, by rw [← EQ.out]; exact O2.out, K2.out⟩
open Go.RowKit Go.Maps Go.ChangeMaps
structure MV where
 kind : Int
 as_ : Int
 hold : Int
 id : Int
 ks : Option Addr
 kn : Nat
 kc : Nat
 gs : Option Addr
 gn : Nat
 gc : Nat
 a : AV
 ns : Option Addr
 nn : Nat
 nc : Nat
 fc : Int
 fs : Int
 fd : ByteArray
abbrev MV.C (m : MV) : Array Value := #[.int .i64 m.kind, .int .i64 m.as_, .int .i64 m.hold, .int .u32 m.id, .slice m.ks m.kn m.kc, .slice m.gs m.gn m.gc,
 .int .i64 m.a.has, .int .i64 m.a.origin, .slice m.a.ps m.a.pn m.a.pc, .int .u32 m.a.hop, .int .i64 m.a.med, .int .i64 m.a.loc, .int .i64 m.a.aggrAs, .int .u32 m.a.aggrId, .slice m.a.cs m.a.cn m.a.cc, .slice m.a.os m.a.on m.a.oc,
 .slice m.ns m.nn m.nc, .int .i64 m.fc, .int .i64 m.fs, .string m.fd]
abbrev MV.V (m : MV) : Value := .agg m.C
abbrev MV.G (m : MV) : Value := .slice m.gs m.gn m.gc
abbrev MV.N (m : MV) : Value := .slice m.ns m.nn m.nc
abbrev pfV (p : Pf) : Value := .agg #[.int .u32 p.1, .int .i64 p.2]
def KOk (p : Pf) : Prop := (0 ≤ p.1 ∧ p.1 < 4294967296) ∧ I64r p.2
theorem pf_lit (k : Pf) (h : KOk k) : ∃ l, keyOf Tryz.prog 53 (pfV k) = some l := by
 refine ⟨.string (keyBytes [.int .u32 k.1, .int .i64 k.2]), ?_⟩
 obtain ⟨m, hsz⟩ : ∃ m, Tryz.prog.types.size = m + 1 := ⟨Tryz.prog.types.size - 1, by kernel_rfl⟩
 have hkt : Tryz.prog.keyType 53 = true := by kernel_rfl
 have hc : Tryz.prog.cellsOf 53 = 2 := by kernel_rfl
 have h1 : Tryz.prog.cellsOf 3 = 1 := by kernel_rfl
 have h2 : Tryz.prog.cellsOf 36 = 1 := by kernel_rfl
 unfold keyOf
 simp only [Tryz.underlying53]
 rw [if_pos (by simp [hkt, Value.formed, Tryz.underlying53, hc]), hsz]
 unfold Program.keyLits
 simp only [Tryz.underlying53, Value.cells]
 rw [if_pos (by rw [hc]; exact ⟨rfl, by kernel_rfl⟩)]
 have hn : ∀ n : Int, I64r n → Tryz.prog.keyLits (m + 1) 3 [.int .i64 n] = some [.int .i64 n] := fun n hn => by
  unfold I64r at hn
  unfold Program.keyLits; simp [Tryz.underlying3, WalkArith.wf_i64 (show _ by omega)]
 have hu : ∀ n : Int, (0 ≤ n ∧ n < 4294967296) → Tryz.prog.keyLits (m + 1) 36 [.int .u32 n] = some [.int .u32 n] := fun n hn => by
  unfold Program.keyLits; simp [Tryz.underlying36, Lit.wf, IntKind.min, IntKind.max, IntKind.bits, IntKind.signed]; omega
 simp only [h1, h2, List.mapM_cons, List.mapM_nil, List.drop_zero, List.drop_succ_cons, List.take_succ_cons, List.take_zero, hn _ h.2, hu _ h.1]
 rfl
theorem pf_enc : KeyEnc Tryz.prog 53 pfV KOk where
 K := Maps.Keyed.of_law (deep_law_laid (by kernel_rfl) (m := 2) (by decide) (of_decide_eq_true (by kernel_rfl)) (by kernel_rfl) (by kernel_rfl))
 lit := pf_lit
 inj a b h := by
  obtain ⟨a1, a2⟩ := a
  obtain ⟨b1, b2⟩ := b
  simp at h
  obtain ⟨h1, h2⟩ := h
  rw [h1, h2]
abbrev unV (_ : Unit) : Value := .agg #[]
abbrev SeenT (W : World) (b : Nat) (l : List (Pf × Unit)) : Prop := MapT pfV unV KOk W b l
def chkE (ps : List Pf) : Int := if rights ps then 0 else 1
theorem chk_bad {gone nets : List Pf} {j k : Nat} {x : Pf} (hx : (if j = 0 then gone else nets)[k]? = some x) (hr : rightB x.1 x.2 = false) : chkE (gone ++ nets) = 1 := by
 unfold chkE
 have : rights (gone ++ nets) = false := by
  unfold rights
  rw [List.all_eq_false]
  refine ⟨x, ?_, by rw [hr]; decide⟩
  have := List.mem_of_getElem? hx
  rw [List.mem_append]
  split at this
  ·exact .inl this
  ·exact .inr this
 rw [this]; rfl
theorem chk_ok {gone nets : List Pf} (h : AllR gone gone.length) (h2 : AllR nets nets.length) : chkE (gone ++ nets) = 0 := by
 unfold chkE
 have : rights (gone ++ nets) = true := by
  unfold rights
  have a := allR_all h
  have b := allR_all h2
  unfold rights at a b
  rw [List.all_append, a, b]; rfl
 rw [this]; rfl
theorem right_key {p : Pf} (ho : OkP p) (hr : rightB p.1 p.2 = true) : KOk p := by
 have := rightB_range hr
 exact ⟨ho, by unfold I64r; omega⟩
set_option maxHeartbeats 6400000 in
set_option maxRecDepth 100000 in
theorem ad_check (m : MV) (gone nets : List Pf) (w : World) (hg : PsAt w m.G gone) (hn : PsAt w m.N nets) (hz : gone.length + nets.length ≤ 656) :
  Calls Tryz.prog 91 #[m.V] w fun e w' => e = .returned (.int .i64 (chkE (gone ++ nets))) ∧ Below w.heap.size w w' := by
 have HG := jh hg
 have HN := jh hn
 have NB := jh (fun (j k : Nat) (x : Pf) hx hr => chk_bad (gone := gone) (nets := nets) (j := j) (k := k) (x := x) hx hr)
 have NO := jh (chk_ok (gone := gone) (nets := nets))
 generalize hE : chkE (gone ++ nets) = E at NB NO ⊢
 clear hE hg hn
 have hmm := @run_makeMap Tryz.prog
 obtain ⟨sg, cg, hsg, -⟩ := id HG.out
 obtain ⟨sn, cn, hsn, -⟩ := id HN.out
 go_enter Tryz.func91, Tryz.ntmps91
 go_upto_region 1 with (fail)
 obtain ⟨W0, hW0, q0, hb0, -⟩ := box1 w m.C 46
 rw [← hW0]
 clear hW0
 have cg0 : W0.cell? ⟨w.heap.size, 5, none⟩ = some m.G := jB q0 5
 have cn0 : W0.cell? ⟨w.heap.size, 16, none⟩ = some m.N := jB q0 16
 rw [hsg] at cg0
 rw [hsn] at cn0
 clear q0
 go_upto_region 2 with (fail)
 obtain ⟨W1, hW1⟩ : ∃ W1, W1 = W0.alloc (.map #[] 0) := ⟨_, rfl⟩
 have hb1 : Below W0.heap.size W0 W1 := by rw [hW1]; exact (Below.refl _ _).alloc (Nat.le_refl _) _
 have SM : Hid (SeenT W1 W0.heap.size []) := jh (by rw [hW1]; exact MapT.made W0)
 rw [← hW1]
 clear hW1
 have cg0 := jA cg0 hb1
 have cn0 := jA cn0 hb1
 have LM : Hid (w.heap.size ≤ W0.heap.size) := jh hb0.size
 have LM1 : Hid (W0.heap.size < W1.heap.size) := jh SM.out.lt
 have B1 := jh (jC hb0 hb1)
 generalize W0.heap.size = mb at SM LM LM1 ⊢
 clear hb0 hb1 hmm
 go_upto_region 3 with (fail)
 obtain ⟨W2, hW2, q2, hb2, -⟩ := box1 W1 #[.slice sg gone.length cg, .slice sn nets.length cn] 23
 rw [← hW2]
 clear hW2 cg0 cn0
 have s0 : W2.cell? ⟨W1.heap.size, 0, none⟩ = some (.slice sg gone.length cg) := jB q2 0
 have s1 : W2.cell? ⟨W1.heap.size, 1, none⟩ = some (.slice sn nets.length cn) := jB q2 1
 have B2 := jh (jC B1.out hb2)
 have SM2 := jh (SM.out.below hb2)
 have LS : Hid (∀ j : Nat, j < 2 → ∃ sa cap, W2.cell? ⟨W1.heap.size, j, none⟩ = some (.slice sa (if j = 0 then gone else nets).length cap) ∧ PsAt w (.slice sa (if j = 0 then gone else nets).length cap) (if j = 0 then gone else nets)) := jh (by
  intro j hj
  by_cases e : j = 0
  ·subst e
   refine ⟨sg, cg, s0, ?_⟩
   show PsAt w (.slice sg gone.length cg) gone
   rw [← hsg]; exact HG.out
  ·obtain rfl : j = 1 := by omega
   refine ⟨sn, cn, s1, ?_⟩
   show PsAt w (.slice sn nets.length cn) nets
   rw [← hsn]; exact HN.out)
 have NS : Hid (¬ W1.heap.size = mb) := jh (by have := LM1.out; omega)
 have LL : Hid (∀ j : Nat, j < 2 → (if j = 0 then 0 else gone.length) + (if j = 0 then gone else nets).length ≤ 656) := jh (by
  intro j hj
  by_cases e : j = 0
  ·subst e; simp; omega
  ·simp [e]; omega)
 clear q2 hb2 s0 s1 SM B1 HG HN
 generalize W1.heap.size = sb at LS NS ⊢
 have BK : Hid (∀ W, Kept (fun b => b = mb) W2 W → Below w.heap.size w W) := jh fun W k => B2.out.trans (k.below B2.out.size (by rintro g rfl; exact LM.out))
 go_wp2_with fail
 go_loopw [15] (fun k15 wr => ∃ (j : Nat) (l : List (Pf × Unit)), j ≤ 2 ∧ k15 = .int .i64 j ∧ Hid (SeenT wr mb l ∧ l.length ≤ (if j = 0 then 0 else if j = 1 then gone.length else 656) ∧ (∀ i, i < j → AllR (if i = 0 then gone else nets) (if i = 0 then gone else nets).length)) ∧ Hid (Kept (fun b => b = mb) W2 wr)) (fun k15 _ => 2 - (intOf k15).toNat)
 case atStart => exact ⟨0, [], by omega, rfl, jh ⟨SM2.out, by simp, fun i hi => by omega⟩, jh (Kept.refl _ _)⟩
 case round =>
  obtain ⟨j, l0, hj, rfl, I0, K0⟩ := hrel
  by_cases hj2 : j < 2
  ·obtain ⟨sa, cap, sj, hP⟩ := LS.out j hj2
   obtain ⟨ls, hls⟩ : ∃ ls, ls = (if j = 0 then gone else nets) := ⟨_, rfl⟩
   rw [← hls] at sj hP
   have NBj := jh (fun k x => NB.out j k x)
   rw [← hls] at NBj
   have LEN : Hid (l0.length + ls.length ≤ 656) := jh (by
    have h1 := I0.out.2.1
    have h2 := LL.out j hj2
    rw [← hls] at h2
    by_cases e : j = 0
    ·subst e
     rw [if_pos rfl] at h1 h2
     omega
    ·obtain rfl : j = 1 := by omega
     have h1' : l0.length ≤ gone.length := by simpa using h1
     have h2' : gone.length + ls.length ≤ 656 := by simpa using h2
     omega)
   have HLS := jh hls
   clear hls
   have sj := K0.out.cell sj NS.out
   have i0 : (0 : Int) ≤ (j : Int) := by omega
   have i1 : (j : Int) < 2 := by omega
   have lk : ls.length ≤ 656 := by have := LEN.out; omega
   have HPj := jh hP
   have I0s := jh I0.out.1
   clear hP
   obtain ⟨sa', cap', hsv, hlc, hcm, hV⟩ := HPj.out
   injection hsv with e1 e2 e3
   subst e1
   have HV := jh hV
   clear hV e2
   go_wp2_with fail
   clear sj
   go_loopw [21] (fun k21 wq => ∃ (k : Nat) (l : List (Pf × Unit)), k ≤ ls.length ∧ k21 = .int .i64 k ∧ Hid (SeenT wq mb l ∧ l.length ≤ l0.length + k ∧ AllR ls k) ∧ Hid (Kept (fun b => b = mb) W2 wq)) (fun k21 _ => ls.length - (intOf k21).toNat)
   case atStart => exact ⟨0, l0, by omega, rfl, jh ⟨I0s.out, by omega, fun i x hi => by omega⟩, K0⟩
   case round =>
    obtain ⟨k, l, hk, rfl, I, K⟩ := hrel
    by_cases hlt : k < ls.length
    ·obtain ⟨x, hx⟩ : ∃ x, ls[k]? = some x := ⟨_, List.getElem?_eq_getElem hlt⟩
     obtain ⟨b, off, hsa, hQ⟩ := HV.out (by omega)
     subst hsa
     have OX : Hid (OkP x) := jh (by obtain ⟨cs, _, ⟨_, h⟩, _⟩ := hQ k x hx; exact h)
     obtain ⟨x0, x1⟩ := ps_two hQ hx
     have bm : ¬ b = mb := by have := jH x0; have := LM.out; omega
     have x0 := K.out.cell (jA x0 B2.out) bm
     have x1 := K.out.cell (jA x1 B2.out) bm
     have HX := jh hx
     have k0 : (0 : Int) ≤ (k : Int) := by omega
     have k1 : (k : Int) < (ls.length : Int) := by omega
     have CK := jh (fun W => ip_Check x.1 x.2 W OX.out.1 OX.out.2)
     clear hQ hx bm
     go_upto_region 8 with (fail)
     obtain ⟨W3, hW3, q0, q1, hb3⟩ := box2 wr (.int .u32 x.1) (.int .i64 x.2) 53
     rw [← hW3]
     clear hW3 x0 x1
     have K3 := jh (K.out.grow hb3)
     have S3 := jh (I.out.1.below hb3)
     clear hb3
     cases hr : rightB x.1 x.2 with
     | false =>
      have EB := jh (NBj.out k x HX.out hr)
      rw [hr] at CK
      clear hr
      go_wp2_with fail
      refine (CK.out _).mono ?_
      rintro e w4 ⟨rfl, hb4⟩
      have B4 := jh (K3.out.grow hb4)
      clear hb4 q0 q1
      go_wp2_with fail
      go_ret
      exact ⟨jU EB.out.symm, BK.out _ B4.out⟩
     | true =>
      have KX := jh (right_key OX.out hr)
      have RX := jh hr
      rw [hr] at CK
      clear hr
      go_wp2_with fail
      refine (CK.out _).mono ?_
      rintro e w4 ⟨rfl, hb4⟩
      have q0 := jA q0 hb4
      have q1 := jA q1 hb4
      have K4 := jh (K3.out.grow hb4)
      have S4 := jh (S3.out.below hb4)
      have I2 := jh I.out.2
      clear hb4 K3 S3 I
      obtain ⟨o, hrun, hm5⟩ := S4.out.store pf_enc Tryz.underlying128 x KX.out () (by have := I2.out.1; have := LEN.out; unfold maxLen; omega) w4 rfl
      have M5 := jh hm5
      have K5 := jh (K4.out.trans (Kept.setBlock (F := fun b => b = mb) (w := w4) (b := mb) o rfl))
      clear hm5
      go_upto_region 11 with (fail)
      generalize hw5 : setBlock w4 mb o = w5 at M5 K5 ⊢
      clear hw5 q0 q1 hrun S4 K4
      have hlen := M5.out.len Tryz.underlying128 3 w5 rfl
      have ln : ¬ (((putL l x ()).length : Int) > 656) := by
       have h1 := len_put l x ()
       have h2 := I2.out.1
       have h3 := LEN.out
       split at h1 <;> omega
      have ln2 : Hid ((putL l x ()).length ≤ l0.length + (k + 1)) := jh (by
       have h1 := len_put l x ()
       have h2 := I2.out.1
       split at h1 <;> omega)
      have AR := jh (allR_step I2.out.2 HX.out RX.out)
      go_wp2_with fail
      exact ⟨⟨k + 1, _, by omega, by go_num, jh ⟨M5.out, ln2.out, AR.out⟩, K5⟩, by simp [intOf]; omega⟩
    ·obtain rfl : ls.length = k := by omega
     have AL : Hid (∀ i, i < j + 1 → AllR (if i = 0 then gone else nets) (if i = 0 then gone else nets).length) := jh (by
      intro i hi
      by_cases e : i = j
      ·subst e
       rw [← HLS.out]; exact I.out.2.2
      ·exact I0.out.2.2 i (by omega))
     have LB : Hid (l.length ≤ (if j + 1 = 0 then 0 else if j + 1 = 1 then gone.length else 656)) := jh (by
      have h1 := I.out.2.1
      have h2 := LEN.out
      have h3 := I0.out.2.1
      have h4 := HLS.out
      by_cases e : j = 0
      ·subst e
       rw [if_pos rfl] at h3 h4
       rw [if_neg (by omega), if_pos (by omega), ← h4]
       omega
      ·rw [if_neg (by omega), if_neg (by omega)]
       omega)
     have SQ := jh I.out.1
     clear I
     go_wp2_with fail
     exact ⟨⟨j + 1, l, by omega, by go_num, jh ⟨SQ.out, LB.out, AL.out⟩, K⟩, by simp [intOf]; omega⟩
  ·obtain rfl : j = 2 := by omega
   have E0 : Hid (E = 0) := jh (NO.out (I0.out.2.2 0 (by omega)) (I0.out.2.2 1 (by omega)))
   go_wp2_with fail
   go_ret
   exact ⟨jU E0.out.symm, BK.out _ K0.out⟩
end Go.Proofs.YtkoidahgbbabiaaGreat
