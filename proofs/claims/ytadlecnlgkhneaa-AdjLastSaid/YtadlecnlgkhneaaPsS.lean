/-
  SETS OF PREFIXES: slices.SortFunc over prefixes of the call's own.
-/
import Derived.Test.YtadlecnlgkhneaaPsB
import Derived.Test.YtadlecnlgkhneaaSrt
import Derived.Shelf.SlSortCmp.NoneTotal
namespace Go.Proofs.Ytadlecnlgkhneaa
open Go.RowKit

theorem flatK_enc (xs : List Pf) : Sort.flatK encP 2 xs.toArray = (xs.flatMap encP).toArray := by
  apply Sort.ext_get!
  · rw [Sort.size_flatK]
    simp [flat_len encP_len]
  · intro t ht
    rw [Sort.size_flatK] at ht
    have ht' : t < xs.length * 2 := by simpa using ht
    rw [Sort.get_flatK _ _ _ _ ht]
    have hi : t / 2 < xs.length := by omega
    have hf := flat_get encP_len xs (t / 2) _ (List.getElem?_eq_getElem hi) (t % 2) (by omega)
    rw [show t / 2 * 2 + t % 2 = t by omega] at hf
    have h1 : xs.toArray[t / 2]! = xs[t / 2] := by simp [hi]
    rw [h1]
    have hl : (xs.flatMap encP).length = xs.length * 2 := flat_len encP_len xs
    have hm : t % 2 < (encP xs[t / 2]).length := by rw [encP_len]; omega
    rw [List.getElem?_eq_getElem hm, List.getElem?_eq_getElem (by rw [hl]; exact ht')] at hf
    have hf := Option.some.inj hf
    rw [getElem!_pos (xs.flatMap encP).toArray t (by simpa [hl] using ht'), getElem!_pos (encP xs[t / 2]) (t % 2) hm]
    simpa using hf.symm
theorem put_heap {w : World} {g : Nat} {cur : Array Value} {T : TypeId} (F : Array Value) (h : w.heap[g]? = some (.cells cur T (0, 0))) : (Sort.putRow id w g 0 F).heap[g]? = some (.cells (Sort.putCells id 0 F cur) T (0, 0)) := by
  unfold Sort.putRow Sort.mapBlock
  simp only [Array.getElem?_modify, if_true, h, Option.map_some, Sort.onCells]
theorem put_take {cur F : Array Value} (h : F.size ≤ cur.size) : (Sort.putCells id 0 F cur).toList.take F.size = F.toList := by
  apply List.ext_getElem?
  intro i
  by_cases hi : i < F.size
  · rw [List.getElem?_take_of_lt hi]
    unfold Sort.putCells
    rw [Array.getElem?_toList, Array.getElem?_mapIdx, Array.getElem?_eq_getElem (show i < cur.size by omega)]
    simp [hi]
  · rw [List.getElem?_eq_none (by simp; omega), List.getElem?_eq_none (by simp; omega)]
theorem own_put {w : World} {B g n c k : Nat} {e : TypeId} {xs ys : List Value} (h : w.ownsRow B e k (.slice (some ⟨g, 0, none⟩) n c) n xs) (hy : ys.length = n * k) (m : Nat) (os : Array Obj) :
    (Sort.grow (Sort.putRow id (Sort.ahead w m) g 0 ys.toArray) os).ownsRow B e k (.slice (some ⟨g, 0, none⟩) n c) n ys ∧ Kept (fun b => b = g) w (Sort.grow (Sort.putRow id (Sort.ahead w m) g 0 ys.toArray) os) := by
  obtain ⟨h1, ⟨h2, _⟩ | ⟨g', cap, cur, h2, hB, hg, hn, hm, hs, hc⟩⟩ := h
  · cases h2
  · injection h2 with e1 e2 e3
    injection e1 with e1
    injection e1 with e1
    subst e1; subst e3
    have hlt := row_lt hg
    have hp := put_heap (w := Sort.ahead w m) ys.toArray hg
    have hgrow : ∀ (W : World) (i : Nat), i < W.heap.size → (Sort.grow W os).heap[i]? = W.heap[i]? := fun W i hi => by unfold Sort.grow; exact Array.getElem?_append_left hi
    have hsz : (Sort.putRow id (Sort.ahead w m) g 0 ys.toArray).heap.size = w.heap.size := by rw [Sort.size_putRow]; rfl
    refine ⟨⟨hy, .inr ⟨g, c, _, rfl, hB, (hgrow _ g (by rw [hsz]; exact hlt)).trans hp, hn, hm, ?_, ?_⟩⟩, ?_⟩
    · unfold Sort.putCells; simp [hs]
    · have := put_take (cur := cur) (F := ys.toArray) (by rw [hs, List.size_toArray, hy]; exact Nat.mul_le_mul_right _ hn)
      rw [List.size_toArray, hy] at this
      simpa using this
    · refine ⟨rfl, rfl, rfl, ?_, fun i hi hne => ?_⟩
      · show w.heap.size ≤ ((Sort.putRow id (Sort.ahead w m) g 0 ys.toArray).heap ++ os).size
        rw [Array.size_append, hsz]; omega
      · rw [hgrow _ i (by rw [hsz]; exact hi)]
        unfold Sort.putRow Sort.mapBlock
        rw [Array.getElem?_modify, if_neg (fun h => hne h.symm)]
        rfl
theorem ltOf_pcmp (x y : Pf) : Go.Proofs.ltOf pcmp x y = decide (plt x y) := by
  unfold Go.Proofs.ltOf
  by_cases h : plt x y
  · simp [h, pcmp_lt.2 h]
  · have := fun k => h (pcmp_lt.1 k)
    have h2 : ¬ pcmp x y < 0 := this
    simp [h, h2]
theorem swo_pcmp : Sort.SWO (Go.Proofs.ltOf pcmp) where
  irrefl x := by rw [ltOf_pcmp]; simpa using plt_irrefl x
  trans x y z h1 h2 := by
    rw [ltOf_pcmp] at *
    simp only [decide_eq_true_eq] at *
    exact plt_trans h1 h2
  ntrans x y z h1 h2 := by
    rw [ltOf_pcmp] at *
    simp only [decide_eq_false_iff_not] at *
    unfold plt at *; omega
theorem cmp_lays (blk off size : Nat) (w : World) : CmpLays Try.prog 23 #[] encP 2 pcmp blk off size w := by
  intro m os dk _ x y
  exact (ip_CmpD x.1 x.2 y.1 y.2 _).mono fun e w' ⟨he, hd⟩ => ⟨he, hd.grow⟩
theorem isAgg_pref : ∀ w, (isAgg 29).run Try.prog w = .ok true w := Try.isAgg29
theorem sizeOf_pref : ∀ w, (Go.sizeOf 29).run Try.prog w = .ok 2 w := Try.sizeOf29
/-- slices.SortFunc over prefixes of the call's own: in order, nothing lost, nothing new. -/
theorem ps_Sort (B : Nat) (v : Value) (xs : List Pf) (w : World) (h : OwnPs w B v xs) (hn : xs.length < 4611686018427387904) :
    Calls Try.prog 56 #[v, .func (.func 23) #[] #[]] w fun e w' => ∃ ys, e = .returned (.tuple #[]) ∧ ys.length = xs.length ∧ (∀ p, p ∈ ys ↔ p ∈ xs) ∧ ys.Pairwise (fun x y => ¬ plt y x) ∧ OwnPs w' B v ys ∧ Kept (fun b => v.ownBlock = some b) w w' := by
  obtain ⟨h1, hok⟩ := h
  rcases own_slice h1 with ⟨rfl, h0⟩ | ⟨g, c, rfl⟩
  · obtain rfl := List.length_eq_zero_iff.1 h0
    refine (AnyF.slices_SortFunc_none Try.sortP none 0 _ w).mono ?_
    rintro e w' ⟨rfl, rfl⟩
    exact ⟨[], rfl, rfl, fun p => Iff.rfl, List.Pairwise.nil, ⟨h1, hok⟩, Kept.refl _ _⟩
  · have eg : ∀ args w, (callFunc 23 args).run Try.prog w = .ok (.enter 23 args) w := enters_of Try.func23 (by kernel_rfl) rfl
    have hH : Sort.HoldsK encP 2 w g 0 xs.toArray := by
      unfold Sort.HoldsK
      rw [flatK_enc]
      intro j hj
      obtain ⟨-, ⟨h2, _⟩ | ⟨g', cap, cur, h2, -, hg, hcn, -, hs, hc⟩⟩ := h1
      · cases h2
      · injection h2 with e1 e2 e3
        injection e1 with e1
        injection e1 with e1
        subst e1; subst e3
        rw [List.size_toArray] at hj
        rw [flat_len encP_len] at hj
        have hl : (xs.flatMap encP)[j]? = cur[j]? := by
          rw [← hc, List.getElem?_take_of_lt hj, Array.getElem?_toList]
        rw [Nat.zero_add]
        refine ⟨?_, row_free hg j⟩
        rw [row_cell hg, ← hl, List.getElem?_eq_getElem (by rw [flat_len encP_len]; exact hj)]
        rw [getElem!_pos _ _ (by simpa [flat_len encP_len] using hj)]
        simp
    have hblk : g < w.heap.size := by
      obtain ⟨-, ⟨h2, _⟩ | ⟨g', cap, cur, h2, -, hg, -⟩⟩ := h1
      · cases h2
      · injection h2 with e1 e2 e3
        injection e1 with e1
        injection e1 with e1
        subst e1
        exact row_lt hg
    have hcon := AnyQ.slices_SortFunc_total Try.sortP 2 isAgg_pref sizeOf_pref encP encP_len encP_one pcmp swo_pcmp 23 #[] g 0 c xs.toArray w eg (cmp_lays g 0 xs.toArray.size w) hH hblk (by simpa using hn) (fun x y hx hy => by
      rw [ltOf_pcmp] at hx hy
      simp only [decide_eq_false_iff_not] at hx hy
      exact plt_total hx hy)
    refine hcon.mono ?_
    rintro e w' ⟨rfl, n, os, rfl⟩
    simp only
    generalize hy : xs.mergeSort (fun x y => !(Go.Proofs.ltOf pcmp) y x) = ys
    have hlen : ys.length = xs.length := by rw [← hy, List.length_mergeSort]
    have hmem : ∀ p, p ∈ ys ↔ p ∈ xs := fun p => by rw [← hy]; exact (List.mergeSort_perm _ _).mem_iff
    have hsort : ys.Pairwise (fun x y => ¬ plt y x) := by
      have := List.pairwise_mergeSort (le := fun x y => !(Go.Proofs.ltOf pcmp) y x) (fun a b c h1 h2 => by
        simp only [ltOf_pcmp, Bool.not_eq_true', decide_eq_false_iff_not] at *
        unfold plt at *; omega) (fun a b => by
        simp only [ltOf_pcmp, Bool.or_eq_true, Bool.not_eq_true', decide_eq_false_iff_not]
        unfold plt; omega) xs
      rw [hy] at this
      exact this.imp fun h => by simpa only [ltOf_pcmp, Bool.not_eq_true', decide_eq_false_iff_not] using h
    have hp := own_put h1 (ys := ys.flatMap encP) (by rw [flat_len encP_len, hlen]) n os
    unfold Go.Proofs.sortWorldK Sort.putRowK
    rw [flatK_enc]
    refine ⟨ys, trivial, hlen, hmem, hsort, ⟨by rw [hlen]; exact hp.1, fun p hp => hok p ((hmem p).1 hp)⟩, hp.2.imp fun b hb => by rw [hb]; rfl⟩
end Go.Proofs.Ytadlecnlgkhneaa
