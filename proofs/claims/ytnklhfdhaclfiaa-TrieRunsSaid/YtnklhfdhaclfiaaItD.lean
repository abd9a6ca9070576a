/-
  THE REFERENCE's LISTS: one item taken out; Drop.
-/
import Derived.Test.YtnklhfdhaclfiaaItP
import Derived.Test.YtnklhfdhaclfiaaRgS
namespace Go.Proofs.Ytnklhfdhaclfiaa
open Go.RowKit

/-- a list in memory, cut at a place. -/
theorem its_cut {w : World} {v : Value} {l : List It3} (h : ItsAt w v l) {i : Nat} (hi : i < l.length) : ∃ (g cap X : Nat), v = .slice (some ⟨g, 0, none⟩) l.length cap ∧ g < w.heap.size ∧
    (∀ W, (Instr.sliceAt 49 (.slice (some ⟨g, 0, none⟩) l.length cap) none (some (.int .i64 (i : Int))) none).run Try.prog W = .ok (.slice (some ⟨g, 0, none⟩) i cap) W) ∧
    (∀ W, (Instr.sliceAt 49 (.slice (some ⟨g, 0, none⟩) l.length cap) (some (.int .i64 ((i : Int) + 1))) none none).run Try.prog W = .ok (.slice (some ⟨g, X, none⟩) (l.length - (i + 1)) (cap - (i + 1))) W) ∧
    (∀ j u, (rowsOf (l.take i))[j]? = some u → w.cell? ⟨g, j, none⟩ = some u) ∧ (∀ j u, (rowsOf (l.drop (i + 1)))[j]? = some u → w.cell? ⟨g, X + j, none⟩ = some u) := by
  obtain ⟨h1, ⟨rfl, h2⟩ | ⟨g, cap, cur, rfl, _, hg, hc, hm, hs, ht⟩⟩ := h
  · omega
  have hz : ∀ W, (sizeOf (Try.prog.elem 49)).run Try.prog W = .ok 3 W := fun W => by kernel_rfl
  have hu : Try.prog.underlying 49 = some (.slice (Try.prog.elem 49)) := by kernel_rfl
  have hrow : ∀ j u, (rowsOf l)[j]? = some u → w.cell? ⟨g, j, none⟩ = some u := fun j u hj => by
    rw [row_cell hg]
    have hjl : j < l.length * 3 := by rw [← rowsOf_len]; exact (List.getElem?_eq_some_iff.1 hj).1
    rw [← ht, List.getElem?_take_of_lt (by omega)] at hj
    simpa using hj
  have hsp : rowsOf l = rowsOf (l.take i) ++ (rowsOf [l[i]] ++ rowsOf (l.drop (i + 1))) := by
    rw [← rowsOf_append, ← rowsOf_append]
    congr 1
    rw [List.singleton_append, ← List.drop_eq_getElem_cons hi, List.take_append_drop]
  have hc1 : ∀ j u, (rowsOf (l.take i))[j]? = some u → w.cell? ⟨g, j, none⟩ = some u := fun j u hj => by
    refine hrow j u ?_
    rw [hsp, List.getElem?_append_left (List.getElem?_eq_some_iff.1 hj).1]
    exact hj
  have hc2 : ∀ j u, (rowsOf (l.drop (i + 1)))[j]? = some u → w.cell? ⟨g, (i + 1) * 3 + j, none⟩ = some u := fun j u hj => by
    refine hrow _ u ?_
    have e1 : (rowsOf (l.take i)).length = i * 3 := by rw [rowsOf_len, List.length_take, Nat.min_eq_left (by omega)]
    have e2 : (rowsOf [l[i]]).length = 3 := rowsOf_len _
    rw [hsp, List.getElem?_append_right (by omega), List.getElem?_append_right (by omega), e1, e2]
    rw [show (i + 1) * 3 + j - i * 3 - 3 = j by omega]
    exact hj
  have s1 : ∀ W, (Instr.sliceAt 49 (.slice (some ⟨g, 0, none⟩) l.length cap) none (some (.int .i64 (i : Int))) none).run Try.prog W = .ok (.slice (some ⟨g, 0, none⟩) i cap) W := fun W => by
    rw [run_sliceAt_slice (h := hu), run_slice_h (ht := hu) (h0 := by omega) (h2 := by omega), hz]
    simp [Result.andThen, sliced, Addr.add]
  by_cases he : cap = i + 1
  · refine ⟨g, cap, 0, rfl, row_lt hg, s1, fun W => ?_, hc1, fun j u hj => ?_⟩
    · rw [run_sliceAt_slice (h := hu), run_slice_l (ht := hu) (h0 := by omega) (h1 := by omega), hz]
      simp [Result.andThen, sliced, he]
    · rw [List.drop_eq_nil_of_le (by omega)] at hj
      simp [rowsOf] at hj
  · refine ⟨g, cap, (i + 1) * 3, rfl, row_lt hg, s1, fun W => ?_, hc1, hc2⟩
    rw [run_sliceAt_slice (h := hu), run_slice_l (ht := hu) (h0 := by omega) (h1 := by omega), hz]
    have e : ((i : Int) + 1).toNat = i + 1 := by omega
    simp [Result.andThen, sliced, e, he, Addr.add]
theorem add_off (g X j : Nat) : (⟨g, X, none⟩ : Addr).add j = ⟨g, X + j, none⟩ := by
  unfold Addr.add
  split
  · next h => subst h; rfl
  · rfl
theorem own_block_ge {W : World} {B n : Nat} {v : Value} {xs : List Value} (h : W.ownsRow B 55 3 v n xs) : ∀ j, v.ownBlock = some j → B ≤ j := by
  obtain ⟨_, ⟨rfl, _⟩ | ⟨g, cap, cur, rfl, hg, _⟩⟩ := h
  · intro j hj; cases hj
  · intro j hj
    simp [Value.ownBlock] at hj
    omega
theorem own_join {W : World} {B : Nat} {v : Value} {l m : List It3} {n k : Nat} (h : W.ownsRow B 55 3 v (n + k) (rowsOf l ++ rowsOf m)) (hn : n = l.length) (hk : k = m.length) : OwnIts W B v (l ++ m) := by
  subst hn; subst hk
  unfold OwnIts
  rw [rowsOf_append, List.length_append]
  exact h

def refDrop (l : List It3) (a : Nat) (n : Int) : List It3 × Bool := if findI l a n < 0 then (l, false) else (l.take (findI l a n).toNat ++ l.drop ((findI l a n).toNat + 1), true)
set_option maxHeartbeats 3200000 in
set_option maxRecDepth 100000 in
theorem ref_Drop (v : Value) (l : List It3) (a : Nat) (n : Int) (w : World) (h : ItsAt w v l) (hl : l.length ≤ 100000) :
    Calls Try.prog 27 #[v, .int .u32 a, .int .i64 n] w (RefPost w (refDrop l a n).1 (.bool (refDrop l a n).2)) := by
  obtain ⟨i0, hi, hz0, hz1, hz2⟩ := info_parts info_item
  have FD := Lib.hid (ref_Find v l a n w h)
  have HI := Lib.hid h
  have HR := findF_rng a n l 0
  simp only [Nat.zero_add] at HR
  have E0 := Lib.hid (show refDrop l a n = if findI l a n < 0 then (l, false) else (l.take (findI l a n).toNat ++ l.drop ((findI l a n).toNat + 1), true) from rfl)
  clear h
  have HR2 : findI l a n = -1 ∨ ∃ i : Nat, findI l a n = i ∧ i < l.length := by
    have e : findI l a n = findF a n l 0 := rfl
    rcases HR with h | h
    · by_cases h0 : findI l a n < 0
      · left; omega
      · right
        obtain ⟨i, hi⟩ := Int.eq_ofNat_of_zero_le (show 0 ≤ findI l a n by omega)
        exact ⟨i, hi, by omega⟩
    · left; omega
  clear HR
  generalize findI l a n = f at FD E0 HR2
  rcases HR2 with rfl | ⟨i, rfl, hil⟩
  · have E := Lib.hid (E0.out.trans (if_pos (by decide)))
    obtain ⟨sa, cap, rfl, hc, hm, _⟩ := HI.out.view
    clear E0
    go_enter Try.func27, Try.ntmps27
    go_wp2_with fail
    refine FD.out.mono ?_
    rintro e w1 ⟨rfl, hb⟩
    go_wp2_with fail
    exact bodyPost_ret (v := .tuple #[.slice sa l.length cap, .bool false]) (by simp [results, Try.results27, go_sem]) rfl ⟨_, by rw [E.out], by rw [E.out]; exact HI.out.below hb, hb⟩
  · have E := Lib.hid (E0.out.trans (if_neg (by omega)))
    rw [Int.toNat_natCast] at E
    clear E0
    obtain ⟨g, cap, X, rfl, hg, s1, s2, hc1, hc2⟩ := its_cut HI.out hil
    have C1 := Lib.hid hc1
    have C2 := Lib.hid hc2
    clear hc1 hc2
    have z1 : IntKind.i64.wrap ((i : Int) + 1) = (i : Int) + 1 := IntWalk.i64_in _ (by omega)
    have LT : Hid ((rowsOf (l.take i)).length = i * 3 ∧ (rowsOf (l.drop (i + 1))).length = (l.length - (i + 1)) * 3 ∧ i = (l.take i).length ∧ l.length - (i + 1) = (l.drop (i + 1)).length) := Lib.hid ⟨by rw [rowsOf_len, List.length_take, Nat.min_eq_left (by omega)], by rw [rowsOf_len, List.length_drop], by rw [List.length_take, Nat.min_eq_left (by omega)], by rw [List.length_drop]⟩
    go_enter Try.func27, Try.ntmps27
    clear z1
    go_wp2_with fail
    refine FD.out.mono ?_
    rintro e w1 ⟨rfl, hb⟩
    have CC1 : Hid (∀ W, Below w1.heap.size w1 W → ∀ j u, (rowsOf (l.take i))[j]? = some u → W.cell? ((⟨g, 0, none⟩ : Addr).add j) = some u) := Lib.hid fun W hW j u hj => by
      rw [add_off, Nat.zero_add]
      exact cell_below (cell_below (C1.out j u hj) hb) hW
    have CC2 : Hid (∀ W, Below w1.heap.size w1 W → ∀ j u, (rowsOf (l.drop (i + 1)))[j]? = some u → W.cell? ((⟨g, X, none⟩ : Addr).add j) = some u) := Lib.hid fun W hW j u hj => by
      rw [add_off]
      exact cell_below (cell_below (C2.out j u hj) hb) hW
    have HB := Lib.hid hb
    clear hb C1 C2
    go_wp2_with fail
    have z1 : IntKind.i64.wrap ((i : Int) + 1) = (i : Int) + 1 := IntWalk.i64_in _ (by omega)
    refine wp_region_held_drew (S := fun w' => Below w1.heap.size w1 w') (by kernel_rfl) ?_ (fun hHeld => ?_)
    · exact (Below.refl _ _).drew
    generalize World.drew w1 = wd at hHeld ⊢
    refine rg_yes (i := 1) (v := ?_) (atS at0) (by kernel_rfl) (by kernel_rfl) (by kernel_rfl) (fun _ _ _ h => h) ?_ ?_ hHeld ?_; rotate_left 1; (· rfl); (· intro w' hSw; (try dsimp only at hSw); (try clear hHeld); go_simp; try with_reducible rfl)
    try simp only [Act.put, List.setIfInBounds_toArray, List.set_cons_zero, List.set_cons_succ]
    refine rg_yes (i := 2) (v := ?_) (atS (atS at0)) (by kernel_rfl) (by kernel_rfl) (by kernel_rfl) (fun _ _ _ h => h) ?_ ?_ hHeld ?_; rotate_left 1; (· rfl); (· intro w' hSw; (try dsimp only at hSw); (try clear hHeld); go_simp; try with_reducible rfl)
    try simp only [Act.put, List.setIfInBounds_toArray, List.set_cons_zero, List.set_cons_succ]
    refine rg_yes (i := 3) (v := ?_) (atS (atS (atS at0))) (by kernel_rfl) (by kernel_rfl) (by kernel_rfl) (fun _ _ _ h => h) ?_ ?_ hHeld ?_; rotate_left 1; (· rfl); (· intro w' hSw; (try dsimp only at hSw); (try clear hHeld); go_simp; try with_reducible rfl)
    try simp only [Act.put, List.setIfInBounds_toArray, List.set_cons_zero, List.set_cons_succ]
    refine rg_yes (i := 5) (v := ?_) (atS (atS (atS (atS (atS at0))))) (by kernel_rfl) (by kernel_rfl) (by kernel_rfl) (fun _ _ _ h => h) ?_ ?_ hHeld ?_; rotate_left 1; (· rfl); (· intro w' hSw; (try dsimp only at hSw); (try clear hHeld); go_simp; try with_reducible rfl)
    try simp only [Act.put, List.setIfInBounds_toArray, List.set_cons_zero, List.set_cons_succ]
    refine rg_yes (i := 6) (v := ?_) (atS (atS (atS (atS (atS (atS at0)))))) (by kernel_rfl) (by kernel_rfl) (by kernel_rfl) (fun _ _ _ h => h) ?_ ?_ hHeld ?_; rotate_left 1; (· rfl); (· intro w' hSw; (try dsimp only at hSw); (try clear hHeld); go_simp; try with_reducible rfl)
    try simp only [Act.put, List.setIfInBounds_toArray, List.set_cons_zero, List.set_cons_succ]
    refine rg_yes (i := 7) (v := ?_) (atS (atS (atS (atS (atS (atS (atS at0))))))) (by kernel_rfl) (by kernel_rfl) (by kernel_rfl) (fun _ _ _ h => h) ?_ ?_ hHeld ?_; rotate_left 1; (· rfl); (· intro w' hSw; (try dsimp only at hSw); (try clear hHeld); go_simp; try with_reducible rfl)
    try simp only [Act.put, List.setIfInBounds_toArray, List.set_cons_zero, List.set_cons_succ]
    refine rg_yes (i := 8) (v := ?_) (atS (atS (atS (atS (atS (atS (atS (atS at0)))))))) (by kernel_rfl) (by kernel_rfl) (by kernel_rfl) (fun _ _ _ h => h) ?_ ?_ hHeld ?_; rotate_left 1; (· rfl); (· intro w' hSw; (try dsimp only at hSw); (try clear hHeld); go_simp; try with_reducible rfl)
    try simp only [Act.put, List.setIfInBounds_toArray, List.set_cons_zero, List.set_cons_succ]
    refine rg_call (i := 0) at0 (by kernel_rfl) ?_ (fun K hK => ?_); (· rfl); (try clear hb); have hwd := hHeld.size; go_simp; go_wp2_with fail; refine hK.out _ _ ?_ (fun hHeld => ?_); (· exact hHeld.alloc hHeld.size _); clear hK K
    try simp only [Act.put, List.setIfInBounds_toArray, List.set_cons_zero, List.set_cons_succ]
    refine rg_call (i := 4) (atS (atS (atS (atS at0)))) (by kernel_rfl) ?_ (fun K hK => ?_); (· rfl); (try clear hb); refine wp_append_own _ (.tmp 16) (.tmp 19) 49 rfl w1.heap.size 55 i0 _ 3 24 Try.underlying49 hi hz0 hz1 hz2 rfl (by decide) _ 0 [] rfl (own_none wd _ hwd) ⟨g, 0, none⟩ i cap (rowsOf (l.take i)) rfl LT.out.1 (CC1.out _ hHeld) (rowsOf_one _) (by unfold maxLen; omega) (by omega) hHeld.size ?_; intro v1 wa hown1 hgrow1 _; refine hK.out _ _ ?_ (fun hHeld => ?_); (· exact hHeld.grown hgrow1 hHeld.size (own_ge (own_none wd _ hwd))); clear hK K
    try simp only [Act.put, List.setIfInBounds_toArray, List.set_cons_zero, List.set_cons_succ]
    refine rg_call (i := 9) (atS (atS (atS (atS (atS (atS (atS (atS (atS at0))))))))) (by kernel_rfl) ?_ (fun K hK => ?_); (· rfl); (try clear hb); refine wp_append_own _ (.tmp 20) (.tmp 24) 49 rfl w1.heap.size 55 i0 _ 3 24 Try.underlying49 hi hz0 hz1 hz2 rfl (by decide) _ (0 + i) ([] ++ rowsOf (l.take i)) rfl hown1 ⟨g, X, none⟩ (l.length - (i + 1)) (cap - (i + 1)) (rowsOf (l.drop (i + 1))) rfl LT.out.2.1 (CC2.out _ hHeld) (rowsOf_one _) (by unfold maxLen; omega) (by omega) hHeld.size ?_; intro v2 wb hown2 hgrow2 _; refine hK.out _ _ ?_ (fun hHeld => ?_); (· exact hHeld.grown hgrow2 hHeld.size (own_block_ge hown1)); clear hK K
    try simp only [Act.put, List.setIfInBounds_toArray, List.set_cons_zero, List.set_cons_succ]
    refine rg_yes (i := 10) (v := ?_) (atS (atS (atS (atS (atS (atS (atS (atS (atS (atS at0)))))))))) (by kernel_rfl) (by kernel_rfl) (by kernel_rfl) (fun _ _ _ h => h) ?_ ?_ hHeld ?_; rotate_left 1; (· rfl); (· intro w' hSw; (try dsimp only at hSw); (try clear hHeld); go_simp; try with_reducible rfl)
    try simp only [Act.put, List.setIfInBounds_toArray, List.set_cons_zero, List.set_cons_succ]
    refine rg_yes (i := 11) (v := ?_) (atS (atS (atS (atS (atS (atS (atS (atS (atS (atS (atS at0))))))))))) (by kernel_rfl) (by kernel_rfl) (by kernel_rfl) (fun _ _ _ h => h) ?_ ?_ hHeld ?_; rotate_left 1; (· rfl); (· intro w' hSw; (try dsimp only at hSw); (try clear hHeld); go_simp; try with_reducible rfl)
    try simp only [Act.put, List.setIfInBounds_toArray, List.set_cons_zero, List.set_cons_succ]
    refine wpAnyH_done (by kernel_rfl) ?_ _
    go_wp2_with fail
    have OW : OwnIts wb w1.heap.size v2 (l.take i ++ l.drop (i + 1)) := own_join (by simpa using hown2) LT.out.2.2.1 LT.out.2.2.2
    exact bodyPost_ret (v := .tuple #[v2, .bool true]) (by simp [results, Try.results27, go_sem]) rfl ⟨_, by rw [E.out], by rw [E.out]; exact OW.at_, below_on HB.out hHeld⟩
end Go.Proofs.Ytnklhfdhaclfiaa
