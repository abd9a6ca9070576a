/-
  SETS OF PREFIXES: prefixes in memory; ip's Cmp with the draws and blocks that it leaves.
-/
import Derived.Test.YtadlecnlgkhneaaPsP
import Derived.Test.YtadlecnlgkhneaaOw
import Derived.Sort.Grow
namespace Go.Proofs.Ytadlecnlgkhneaa
open Go.RowKit

def encP (p : Pf) : List Value := [.int .u32 p.1, .int .i64 p.2]
theorem encP_len (p : Pf) : (encP p).length = 2 := rfl
theorem encP_one (p : Pf) : ∀ u ∈ encP p, u.oneCell' = true := by
  intro u hu
  unfold encP at hu
  rcases List.mem_cons.1 hu with rfl | hu
  · rfl
  · rcases List.mem_cons.1 hu with rfl | hu
    · rfl
    · simp at hu
def OkP (p : Pf) : Prop := 0 ≤ p.1 ∧ p.1 < 4294967296
def PfC (p : Pf) (cs : List Value) : Prop := cs = encP p ∧ OkP p
abbrev PsAt (w : World) (v : Value) (xs : List Pf) : Prop := SlAt w 2 PfC v xs
theorem PsAt.below {w w' : World} {v : Value} {xs : List Pf} (h : PsAt w v xs) (hb : Below w.heap.size w w') : PsAt w' v xs := SlAt.below h hb fun _ _ h => h
theorem ps_ok {w : World} {v : Value} {xs : List Pf} (h : PsAt w v xs) : ∀ p ∈ xs, OkP p := by
  intro p hp
  obtain ⟨sa, cap, -, -, -, h4⟩ := h
  obtain ⟨i, hi⟩ := List.mem_iff_getElem?.1 hp
  obtain ⟨b, off, -, h6⟩ := h4 (by have := (List.getElem?_eq_some_iff.1 hi).1; omega)
  obtain ⟨cs, -, ⟨-, h⟩, -⟩ := h6 i p hi
  exact h
/-- one element's two cells. -/
theorem ps_two {w : World} {xs : List Pf} {b off : Nat} (h : ∀ (i : Nat) (x : Pf), xs[i]? = some x → ∃ cs : List Value, cs.length = 2 ∧ PfC x cs ∧ ∀ (j : Nat) (c : Value), cs[j]? = some c → w.cell? ⟨b, off + i * 2 + j, none⟩ = some c)
    {i : Nat} {x : Pf} (hx : xs[i]? = some x) : w.cell? ⟨b, off + i * 2, none⟩ = some (.int .u32 x.1) ∧ w.cell? ⟨b, off + i * 2 + 1, none⟩ = some (.int .i64 x.2) := by
  obtain ⟨cs, -, ⟨rfl, -⟩, hc⟩ := h i x hx
  exact ⟨hc 0 _ rfl, hc 1 _ rfl⟩
theorem ps_len {w : World} {v : Value} {xs : List Pf} (h : PsAt w v xs) : xs.length ≤ maxLen := by
  obtain ⟨sa, cap, -, h2, h3, -⟩ := h
  omega
/-- draws and blocks alone. -/
structure Dr (w w' : World) : Prop where
  below : Below w.heap.size w w'
  drawn : w.drawn ≤ w'.drawn
theorem Dr.refl (w : World) : Dr w w := ⟨Below.refl _ _, Nat.le_refl _⟩
theorem Dr.on {w w1 w2 : World} (h : Dr w w1) (k : Dr w1 w2) : Dr w w2 := ⟨below_on h.below k.below, Nat.le_trans h.drawn k.drawn⟩
theorem Dr.drew (w : World) : Dr w w.drew := ⟨(Below.refl _ _).drew, Nat.le_succ _⟩
theorem Dr.alloc {w w1 : World} (h : Dr w w1) (o : Obj) : Dr w (w1.alloc o) := ⟨h.below.alloc h.below.size o, h.drawn⟩
theorem Dr.grow {w w' : World} (h : Dr w w') : ∃ q os, w' = Sort.grow (w.drewN q) os := by
  obtain ⟨⟨h1, h2, h3, h4, h5⟩, h6⟩ := h
  refine ⟨w'.drawn - w.drawn, w'.heap.extract w.heap.size w'.heap.size, ?_⟩
  have e : w'.heap = w.heap ++ w'.heap.extract w.heap.size w'.heap.size := by
    apply Array.ext_getElem?
    intro i
    by_cases hi : i < w.heap.size
    · rw [h5 i hi, Array.getElem?_append_left hi]
    · rw [Array.getElem?_append_right (by omega), Array.getElem?_extract]
      split
      · congr 1; omega
      · rw [Array.getElem?_eq_none (by omega)]
  cases w'
  cases w
  simp only at h1 h2 h3 h4 h6 e
  subst h1; subst h2; subst h3
  unfold Sort.grow
  rw [World.drewN]
  simp only [World.mk.injEq, true_and, and_true]
  exact ⟨e, by omega⟩
theorem calls_dr {P : Program} {f : FuncId} {args : Array Value} {w : World} {E : Ending → Prop} (h : Calls P f args w fun e w' => E e ∧ w = w') : Calls P f args w fun e w' => E e ∧ Dr w w' := h.mono fun _ _ ⟨a, b⟩ => ⟨a, b ▸ Dr.refl _⟩
set_option maxHeartbeats 400000 in
theorem ip_CmpD (a n b m : Int) (w : World) :
    Calls Try.prog 23 #[.agg #[.int .u32 a, .int .i64 n], .agg #[.int .u32 b, .int .i64 m]] w fun e w' => e = .returned (.int .i64 (prefCmp a n b m)) ∧ Dr w w' := by
  go_enter Try.func23, Try.ntmps23
  go_wp2_with fail
  obtain ⟨W0, hW0, c0, c1, d0, d1, -⟩ := box22 w (.int .u32 a) (.int .i64 n) (.int .u32 b) (.int .i64 m) 29 29
  have hB : Dr w W0 := by rw [hW0]; exact ((Dr.refl _).alloc _).alloc _
  rw [← hW0]; clear hW0
  refine wp_region_held_drew (S := fun w' => Dr W0 w') (by kernel_rfl) ?_ (fun hHeld => ?_)
  · exact Dr.drew _
  refine rg_yes (i := 0) (v := ?_) at0 (by kernel_rfl) (by kernel_rfl) (by kernel_rfl) (fun _ _ _ h => h) ?_ ?_ hHeld ?_; rotate_left 1; (· rfl); (· intro w' hSw; (try dsimp only at hSw); (try clear hHeld); go_simp; try with_reducible rfl)
  try simp only [Act.put, List.setIfInBounds_toArray, List.set_cons_zero, List.set_cons_succ]
  refine rg_yes (i := 1) (v := ?_) (atS at0) (by kernel_rfl) (by kernel_rfl) (by kernel_rfl) (fun _ _ _ h => h) ?_ ?_ hHeld ?_; rotate_left 1; (· rfl); (· intro w' hSw; (try dsimp only at hSw); have c0 := cell_below c0 hSw.below; have c1 := cell_below c1 hSw.below; have d0 := cell_below d0 hSw.below; have d1 := cell_below d1 hSw.below; (try clear hHeld); go_simp; try with_reducible rfl)
  try simp only [Act.put, List.setIfInBounds_toArray, List.set_cons_zero, List.set_cons_succ]
  refine rg_yes (i := 2) (v := ?_) (atS (atS at0)) (by kernel_rfl) (by kernel_rfl) (by kernel_rfl) (fun _ _ _ h => h) ?_ ?_ hHeld ?_; rotate_left 1; (· rfl); (· intro w' hSw; (try dsimp only at hSw); (try clear hHeld); go_simp; try with_reducible rfl)
  try simp only [Act.put, List.setIfInBounds_toArray, List.set_cons_zero, List.set_cons_succ]
  refine rg_yes (i := 3) (v := ?_) (atS (atS (atS at0))) (by kernel_rfl) (by kernel_rfl) (by kernel_rfl) (fun _ _ _ h => h) ?_ ?_ hHeld ?_; rotate_left 1; (· rfl); (· intro w' hSw; (try dsimp only at hSw); have c0 := cell_below c0 hSw.below; have c1 := cell_below c1 hSw.below; have d0 := cell_below d0 hSw.below; have d1 := cell_below d1 hSw.below; (try clear hHeld); go_simp; try with_reducible rfl)
  try simp only [Act.put, List.setIfInBounds_toArray, List.set_cons_zero, List.set_cons_succ]
  refine rg_yes (i := 5) (v := ?_) (atS (atS (atS (atS (atS at0))))) (by kernel_rfl) (by kernel_rfl) (by kernel_rfl) (fun _ _ _ h => h) ?_ ?_ hHeld ?_; rotate_left 1; (· rfl); (· intro w' hSw; (try dsimp only at hSw); (try clear hHeld); go_simp; try with_reducible rfl)
  try simp only [Act.put, List.setIfInBounds_toArray, List.set_cons_zero, List.set_cons_succ]
  refine rg_yes (i := 6) (v := ?_) (atS (atS (atS (atS (atS (atS at0)))))) (by kernel_rfl) (by kernel_rfl) (by kernel_rfl) (fun _ _ _ h => h) ?_ ?_ hHeld ?_; rotate_left 1; (· rfl); (· intro w' hSw; (try dsimp only at hSw); have c0 := cell_below c0 hSw.below; have c1 := cell_below c1 hSw.below; have d0 := cell_below d0 hSw.below; have d1 := cell_below d1 hSw.below; (try clear hHeld); go_simp; try with_reducible rfl)
  try simp only [Act.put, List.setIfInBounds_toArray, List.set_cons_zero, List.set_cons_succ]
  refine rg_yes (i := 7) (v := ?_) (atS (atS (atS (atS (atS (atS (atS at0))))))) (by kernel_rfl) (by kernel_rfl) (by kernel_rfl) (fun _ _ _ h => h) ?_ ?_ hHeld ?_; rotate_left 1; (· rfl); (· intro w' hSw; (try dsimp only at hSw); (try clear hHeld); go_simp; try with_reducible rfl)
  try simp only [Act.put, List.setIfInBounds_toArray, List.set_cons_zero, List.set_cons_succ]
  refine rg_yes (i := 8) (v := ?_) (atS (atS (atS (atS (atS (atS (atS (atS at0)))))))) (by kernel_rfl) (by kernel_rfl) (by kernel_rfl) (fun _ _ _ h => h) ?_ ?_ hHeld ?_; rotate_left 1; (· rfl); (· intro w' hSw; (try dsimp only at hSw); have c0 := cell_below c0 hSw.below; have c1 := cell_below c1 hSw.below; have d0 := cell_below d0 hSw.below; have d1 := cell_below d1 hSw.below; (try clear hHeld); go_simp; try with_reducible rfl)
  try simp only [Act.put, List.setIfInBounds_toArray, List.set_cons_zero, List.set_cons_succ]
  refine rg_call (i := 4) (atS (atS (atS (atS at0)))) (by kernel_rfl) ?_ (fun K hK => ?_); (· rfl); (try clear hb); go_simp; (refine (calls_dr (cmp_CompareAddr a b _)).mono ?_; rintro e w1 ⟨rfl, hb⟩); go_wp2_with fail; refine hK.out _ _ ?_ (fun hHeld => ?_); (· first | exact hHeld.on hb | exact hHeld.alloc _); clear hK K
  try simp only [Act.put, List.setIfInBounds_toArray, List.set_cons_zero, List.set_cons_succ]
  refine rg_call (i := 9) (atS (atS (atS (atS (atS (atS (atS (atS (atS at0))))))))) (by kernel_rfl) ?_ (fun K hK => ?_); (· rfl); (try clear hb); go_simp; (refine (calls_dr (cmp_CompareInt n m _)).mono ?_; rintro e w1 ⟨rfl, hb⟩); go_wp2_with fail; refine hK.out _ _ ?_ (fun hHeld => ?_); (· first | exact hHeld.on hb | exact hHeld.alloc _); clear hK K
  try simp only [Act.put, List.setIfInBounds_toArray, List.set_cons_zero, List.set_cons_succ]
  refine rg_call (i := 10) (atS (atS (atS (atS (atS (atS (atS (atS (atS (atS at0)))))))))) (by kernel_rfl) ?_ (fun K hK => ?_); (· rfl); (try clear hb); go_simp; go_wp2_with fail; refine hK.out _ _ ?_ (fun hHeld => ?_); (· first | exact hHeld.on hb | exact hHeld.alloc _); clear hK K
  try simp only [Act.put, List.setIfInBounds_toArray, List.set_cons_zero, List.set_cons_succ]
  refine rg_call (i := 11) (atS (atS (atS (atS (atS (atS (atS (atS (atS (atS (atS at0))))))))))) (by kernel_rfl) ?_ (fun K hK => ?_); (· rfl); (try clear hb); go_simp; (refine (calls_dr (cmp_OrInt2 _ 2 (cmpI a b) (cmpI n m) _ (by simp) (by simp))).mono ?_; rintro e w1 ⟨rfl, hb⟩); go_wp2_with fail; refine hK.out _ _ ?_ (fun hHeld => ?_); (· first | exact hHeld.on hb | exact hHeld.alloc _); clear hK K
  try simp only [Act.put, List.setIfInBounds_toArray, List.set_cons_zero, List.set_cons_succ]
  refine rg_yes (i := 12) (v := ?_) (atS (atS (atS (atS (atS (atS (atS (atS (atS (atS (atS (atS at0)))))))))))) (by kernel_rfl) (by kernel_rfl) (by kernel_rfl) (fun _ _ _ h => h) ?_ ?_ hHeld ?_; rotate_left 1; (· rfl); (· intro w' hSw; (try dsimp only at hSw); (try clear hHeld); go_simp; try with_reducible rfl)
  try simp only [Act.put, List.setIfInBounds_toArray, List.set_cons_zero, List.set_cons_succ]
  refine wpAnyH_done (by kernel_rfl) ?_ _
  have hB' := hB.on hHeld
  clear hHeld hb
  go_wp2
  go_ret
  exact ⟨ret_int rfl, hB'⟩
theorem ps_Cmp (p q : Pf) (w : World) : Calls Try.prog 23 #[.agg #[.int .u32 p.1, .int .i64 p.2], .agg #[.int .u32 q.1, .int .i64 q.2]] w fun e w' => e = .returned (.int .i64 (pcmp p q)) ∧ Below w.heap.size w w' := ip_Cmp _ _ _ _ _
end Go.Proofs.Ytadlecnlgkhneaa
