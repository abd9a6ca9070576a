/-
  THE REFERENCE's LISTS: one item taken out; Drop.
-/
import Derived.Test.YtaafeekkllomhaaItP
import Derived.Test.YtaafeekkllomhaaRgS
namespace Go.Proofs.Ytaafeekkllomhaa
open Go.RowKit

set_option maxRecDepth 100000 in
/-- a list in memory, cut at a place. -/
theorem its_cut {w : World} {v : Value} {l : List It3} (h : ItsAt w v l) {i : Nat} (hi : i < l.length) : ∃ (g cap X : Nat), v = .slice (some ⟨g, 0, none⟩) l.length cap ∧ g < w.heap.size ∧
    (∀ W, (Instr.sliceAt 46 (.slice (some ⟨g, 0, none⟩) l.length cap) none (some (.int .i64 (i : Int))) none).run Try.prog W = .ok (.slice (some ⟨g, 0, none⟩) i cap) W) ∧
    (∀ W, (Instr.sliceAt 46 (.slice (some ⟨g, 0, none⟩) l.length cap) (some (.int .i64 ((i : Int) + 1))) none none).run Try.prog W = .ok (.slice (some ⟨g, X, none⟩) (l.length - (i + 1)) (cap - (i + 1))) W) ∧
    (∀ j u, (rowsOf (l.take i))[j]? = some u → w.cell? ⟨g, j, none⟩ = some u) ∧ (∀ j u, (rowsOf (l.drop (i + 1)))[j]? = some u → w.cell? ⟨g, X + j, none⟩ = some u) := by
  obtain ⟨h1, ⟨rfl, h2⟩ | ⟨g, cap, cur, rfl, _, hg, hc, hm, hs, ht⟩⟩ := h
  · omega
  have hz : ∀ W, (sizeOf (Try.prog.elem 46)).run Try.prog W = .ok 3 W := fun W => by kernel_rfl
  have hu : Try.prog.underlying 46 = some (.slice (Try.prog.elem 46)) := by kernel_rfl
  have hrow : ∀ j u, (rowsOf l)[j]? = some u → w.cell? ⟨g, j, none⟩ = some u := fun j u hj => by
    rw [row_cell hg]
    have hjl : j < l.length * 3 := by rw [← rowsOf_len]; exact (List.getElem?_eq_some_iff.1 hj).1
    rw [← ht, List.getElem?_take_of_lt (by omega)] at hj
    simpa using hj
  have hsp : rowsOf l = rowsOf (l.take i) ++ (rowsOf [l[i]] ++ rowsOf (l.drop (i + 1))) := by
    rw [← rowsOf_append, ← rowsOf_append]
    congr 1
    rw [List.singleton_append, ← List.drop_eq_getElem_cons hi, List.take_append_drop]
  have hc1 : ∀ j u, (rowsOf (l.take i))[j]? = some u → w.cell? ⟨g, j, none⟩ = some u := fun j u hj => by
    refine hrow j u ?_
    rw [hsp, List.getElem?_append_left (List.getElem?_eq_some_iff.1 hj).1]
    exact hj
  have hc2 : ∀ j u, (rowsOf (l.drop (i + 1)))[j]? = some u → w.cell? ⟨g, (i + 1) * 3 + j, none⟩ = some u := fun j u hj => by
    refine hrow _ u ?_
    have e1 : (rowsOf (l.take i)).length = i * 3 := by rw [rowsOf_len, List.length_take, Nat.min_eq_left (by omega)]
    have e2 : (rowsOf [l[i]]).length = 3 := rowsOf_len _
    rw [hsp, List.getElem?_append_right (by omega), List.getElem?_append_right (by omega), e1, e2]
    rw [show (i + 1) * 3 + j - i * 3 - 3 = j by omega]
    exact hj
  have s1 : ∀ W, (Instr.sliceAt 46 (.slice (some ⟨g, 0, none⟩) l.length cap) none (some (.int .i64 (i : Int))) none).run Try.prog W = .ok (.slice (some ⟨g, 0, none⟩) i cap) W := fun W => by
    rw [run_sliceAt_slice (h := hu), run_slice_h (ht := hu) (h0 := by omega) (h2 := by omega), hz]
    simp [Result.andThen, sliced, Addr.add]
  by_cases he : cap = i + 1
  · refine ⟨g, cap, 0, rfl, row_lt hg, s1, fun W => ?_, hc1, fun j u hj => ?_⟩
    · rw [run_sliceAt_slice (h := hu), run_slice_l (ht := hu) (h0 := by omega) (h1 := by omega), hz]
      simp [Result.andThen, sliced, he]
    · rw [List.drop_eq_nil_of_le (by omega)] at hj
      simp [rowsOf] at hj
  · refine ⟨g, cap, (i + 1) * 3, rfl, row_lt hg, s1, fun W => ?_, hc1, hc2⟩
    rw [run_sliceAt_slice (h := hu), run_slice_l (ht := hu) (h0 := by omega) (h1 := by omega), hz]
    have e : ((i : Int) + 1).toNat = i + 1 := by omega
    simp [Result.andThen, sliced, e, he, Addr.add]
theorem add_off (g X j : Nat) : (⟨g, X, none⟩ : Addr).add j = ⟨g, X + j, none⟩ := by
  unfold Addr.add
  split
  · next h => subst h; rfl
  · rfl
theorem own_block_ge {W : World} {B n : Nat} {v : Value} {xs : List Value} (h : W.ownsRow B 51 3 v n xs) : ∀ j, v.ownBlock = some j → B ≤ j := by
  obtain ⟨_, ⟨rfl, _⟩ | ⟨g, cap, cur, rfl, hg, _⟩⟩ := h
  · intro j hj; cases hj
  · intro j hj
    simp [Value.ownBlock] at hj
    omega
theorem own_join {W : World} {B : Nat} {v : Value} {l m : List It3} {n k : Nat} (h : W.ownsRow B 51 3 v (n + k) (rowsOf l ++ rowsOf m)) (hn : n = l.length) (hk : k = m.length) : OwnIts W B v (l ++ m) := by
  subst hn; subst hk
  unfold OwnIts
  rw [rowsOf_append, List.length_append]
  exact h

def refDrop (l : List It3) (a : Nat) (n : Int) : List It3 × Bool := if findI l a n < 0 then (l, false) else (l.take (findI l a n).toNat ++ l.drop ((findI l a n).toNat + 1), true)
end Go.Proofs.Ytaafeekkllomhaa
