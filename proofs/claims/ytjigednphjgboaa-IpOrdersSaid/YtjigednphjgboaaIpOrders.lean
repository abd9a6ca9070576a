/-
  IpOrders: the order of nets: one of any two stands first, unless they are one; who is covered stands behind; for every three nets; no condition.
-/
import Derived.Test.YtjigednphjgboaaIpWalk
import Derived.Test.YtjigednphjgboaaFrame
namespace Go.Proofs.Ytjigednphjgboaa
open Go.RowKit

theorem pc_lt {a n b m : Int} (h : a < b ∨ a = b ∧ n < m) : prefCmp a n b m = -1 := by
  unfold prefCmp orI cmpI
  rcases h with h | ⟨rfl, h⟩
  · rw [if_neg (by rw [if_pos h]; decide), if_pos h]
  · rw [if_neg (Int.lt_irrefl a), if_neg (Int.lt_irrefl a), if_pos rfl, if_pos h]
theorem pc_gt {a n b m : Int} (h : b < a ∨ a = b ∧ m < n) : prefCmp a n b m = 1 := by
  unfold prefCmp orI cmpI
  rcases h with h | ⟨rfl, h⟩
  · rw [if_neg (by rw [if_neg (by omega), if_pos h]; decide), if_neg (by omega), if_pos h]
  · rw [if_neg (Int.lt_irrefl a), if_neg (Int.lt_irrefl a), if_pos rfl, if_neg (by omega), if_pos h]
theorem pc_eq (a n : Int) : prefCmp a n a n = 0 := by
  unfold prefCmp orI cmpI
  rw [if_neg (Int.lt_irrefl a), if_neg (Int.lt_irrefl a), if_pos rfl, if_neg (Int.lt_irrefl n), if_neg (Int.lt_irrefl n)]
theorem pc_cases (a n b m : Int) : (prefCmp a n b m = -1 ∧ (a < b ∨ a = b ∧ n < m)) ∨ (prefCmp a n b m = 0 ∧ a = b ∧ n = m) ∨ (prefCmp a n b m = 1 ∧ (b < a ∨ a = b ∧ m < n)) := by
  rcases Int.lt_trichotomy a b with h | h | h
  · exact .inl ⟨pc_lt (.inl h), .inl h⟩
  · subst h
    rcases Int.lt_trichotomy n m with h | h | h
    · exact .inl ⟨pc_lt (.inr ⟨rfl, h⟩), .inr ⟨rfl, h⟩⟩
    · subst h; exact .inr (.inl ⟨pc_eq a n, rfl, rfl⟩)
    · exact .inr (.inr ⟨pc_gt (.inr ⟨rfl, h⟩), .inr ⟨rfl, h⟩⟩)
  · exact .inr (.inr ⟨pc_gt (.inl h), .inl h⟩)
theorem pc_trans {a n b m c k : Int} (h1 : a < b ∨ a = b ∧ n < m) (h2 : b < c ∨ b = c ∧ m < k) : prefCmp a n c k = -1 := pc_lt (by omega)
theorem pc_no_cover {a n b m : Int} (h : b < a ∨ a = b ∧ m < n) : coversB a n b m = false := by
  cases hr : rightB a n
  · unfold coversB hasB; rw [hr]; simp
  · exact covers_no hr (by omega)
/-- what is known of two nets p and q: how they are held against each other. -/
theorem pc_facts (a n b m : Int) : (prefCmp a n b m = -1 ∧ prefCmp b m a n = 1 ∧ ((a == b) = false ∨ (a == b) = true ∧ (n == m) = false) ∧ (a < b ∨ a = b ∧ n < m)) ∨
    (prefCmp a n b m = 0 ∧ prefCmp b m a n = 0 ∧ (a == b) = true ∧ (n == m) = true) ∨
    (prefCmp a n b m = 1 ∧ prefCmp b m a n = -1 ∧ ((a == b) = false ∨ (a == b) = true ∧ (n == m) = false) ∧ coversB a n b m = false) := by
  rcases pc_cases a n b m with ⟨h1, h2⟩ | ⟨h1, rfl, rfl⟩ | ⟨h1, h2⟩
  · refine .inl ⟨h1, pc_gt (by omega), ?_, h2⟩
    rcases h2 with h2 | ⟨rfl, h2⟩
    · exact .inl (by simp; omega)
    · exact .inr ⟨by simp, by simp; omega⟩
  · exact .inr (.inl ⟨h1, h1, by simp, by simp⟩)
  · refine .inr (.inr ⟨h1, pc_lt (by omega), ?_, pc_no_cover h2⟩)
    rcases h2 with h2 | ⟨rfl, h2⟩
    · exact .inl (by simp; omega)
    · exact .inr ⟨by simp, by simp; omega⟩

set_option maxRecDepth 100000 in
set_option maxHeartbeats 6400000 in
theorem law_IpOrders (a n b m c k : Int) (w : World) (h0 : 0 ≤ a) (h : a < 4294967296) (k0 : 0 ≤ b) (k1 : b < 4294967296) :
    Calls Try.prog 10 #[.agg #[.int .u32 a, .int .i64 n], .agg #[.int .u32 b, .int .i64 m], .agg #[.int .u32 c, .int .i64 k]] w fun e w' => e = .returned (.bool true) ∧ Below w.heap.size w w' := by
  have b1 : prefCmp 0 1 0 2 = -1 := by decide
  have hall : (prefCmp a n b m = -1 ∧ prefCmp b m a n = 1 ∧ (a == b) = false ∧ Hid (prefCmp b m c k < 0 → prefCmp a n c k < 0)) ∨ (prefCmp a n b m = -1 ∧ prefCmp b m a n = 1 ∧ ((a == b) = true ∧ (n == m) = false) ∧ Hid (prefCmp b m c k < 0 → prefCmp a n c k < 0)) ∨
    (prefCmp a n b m = 0 ∧ prefCmp b m a n = 0 ∧ (a == b) = true ∧ (n == m) = true) ∨
    (prefCmp a n b m = 1 ∧ prefCmp b m a n = -1 ∧ (a == b) = false ∧ coversB a n b m = false) ∨ (prefCmp a n b m = 1 ∧ prefCmp b m a n = -1 ∧ ((a == b) = true ∧ (n == m) = false) ∧ coversB a n b m = false) := by
    have ht : (a < b ∨ a = b ∧ n < m) → Hid (prefCmp b m c k < 0 → prefCmp a n c k < 0) := fun hl hv => by
      rcases pc_cases b m c k with ⟨_, h2⟩ | ⟨h1, _⟩ | ⟨h1, _⟩
      · rw [pc_trans hl h2]; decide
      · omega
      · omega
    rcases pc_facts a n b m with ⟨f1, f2, f3 | f3, f4⟩ | f | ⟨f1, f2, f3 | f3, f4⟩
    · exact .inl ⟨f1, f2, f3, ht f4⟩
    · exact .inr (.inl ⟨f1, f2, f3, ht f4⟩)
    · exact .inr (.inr (.inl f))
    · exact .inr (.inr (.inr (.inl ⟨f1, f2, f3, f4⟩)))
    · exact .inr (.inr (.inr (.inr ⟨f1, f2, f3, f4⟩)))
  rcases hall with ⟨f1, f2, f3, f4⟩ | ⟨f1, f2, ⟨f3, f5⟩, f4⟩ | ⟨f1, f2, f3, f5⟩ | ⟨f1, f2, f3, f4⟩ | ⟨f1, f2, ⟨f3, f5⟩, f4⟩
  all_goals
    go_enter Try.func10, Try.ntmps10
    go_wp2_with fail
    obtain ⟨W0, hW0, c0, c1, d0, d1, e0, e1, hB⟩ := box222 w (.int .u32 a) (.int .i64 n) (.int .u32 b) (.int .i64 m) (.int .u32 c) (.int .i64 k) 31 31 31
    rw [← hW0]; clear hW0
    refine (ip_Cmp _ _ _ _ _).mono ?_
    rintro e w1 ⟨rfl, hb⟩
    have c0 := cell_below c0 hb; have c1 := cell_below c1 hb; have d0 := cell_below d0 hb; have d1 := cell_below d1 hb; have e0 := cell_below e0 hb; have e1 := cell_below e1 hb; have hB := below_on hB hb; clear hb
    go_wp2_with fail
    refine wp_region_held_drew (S := fun w' => Below w1.heap.size w1 w') (by kernel_rfl) ?_ (fun hHeld => ?_)
    · exact (Below.refl _ _).drew
    refine rg_yes (i := 0) (v := ?_) at0 (by kernel_rfl) (by kernel_rfl) (by kernel_rfl) (fun _ _ _ h => h) ?_ ?_ hHeld ?_; rotate_left 1; (· rfl); (· intro w' hSw; (try dsimp only at hSw); have c0 := cell_below c0 hSw; have c1 := cell_below c1 hSw; have d0 := cell_below d0 hSw; have d1 := cell_below d1 hSw; (try clear hHeld); go_simp; try with_reducible rfl)
    try simp only [Act.put, List.setIfInBounds_toArray, List.set_cons_zero, List.set_cons_succ]
    refine rg_yes (i := 1) (v := ?_) (atS at0) (by kernel_rfl) (by kernel_rfl) (by kernel_rfl) (fun _ _ _ h => h) ?_ ?_ hHeld ?_; rotate_left 1; (· rfl); (· intro w' hSw; (try dsimp only at hSw); have c0 := cell_below c0 hSw; have c1 := cell_below c1 hSw; have d0 := cell_below d0 hSw; have d1 := cell_below d1 hSw; (try clear hHeld); go_simp; try with_reducible rfl)
    try simp only [Act.put, List.setIfInBounds_toArray, List.set_cons_zero, List.set_cons_succ]
    refine rg_yes (i := 3) (v := ?_) (atS (atS (atS at0))) (by kernel_rfl) (by kernel_rfl) (by kernel_rfl) (fun _ _ _ h => h) ?_ ?_ hHeld ?_; rotate_left 1; (· rfl); (· intro w' hSw; (try dsimp only at hSw); have c0 := cell_below c0 hSw; have c1 := cell_below c1 hSw; have d0 := cell_below d0 hSw; have d1 := cell_below d1 hSw; (try clear hHeld); go_simp; try with_reducible rfl)
    try simp only [Act.put, List.setIfInBounds_toArray, List.set_cons_zero, List.set_cons_succ]
    refine rg_yes (i := 4) (v := ?_) (atS (atS (atS (atS at0)))) (by kernel_rfl) (by kernel_rfl) (by kernel_rfl) (fun _ _ _ h => h) ?_ ?_ hHeld ?_; rotate_left 1; (· rfl); (· intro w' hSw; (try dsimp only at hSw); have c0 := cell_below c0 hSw; have c1 := cell_below c1 hSw; have d0 := cell_below d0 hSw; have d1 := cell_below d1 hSw; (try clear hHeld); go_simp; try with_reducible rfl)
    try simp only [Act.put, List.setIfInBounds_toArray, List.set_cons_zero, List.set_cons_succ]
    refine rg_call (i := 2) (atS (atS at0)) (by kernel_rfl) ?_ (fun K hK => ?_); (· rfl); (try clear hb); go_simp; (refine (ip_Cmp _ _ _ _ _).mono ?_; rintro e w1 ⟨rfl, hb⟩); go_wp2_with fail; refine hK.out _ _ ?_ (fun hHeld => ?_); (· exact hHeld.trans (hb.mono hHeld.size)); clear hK K
    try simp only [Act.put, List.setIfInBounds_toArray, List.set_cons_zero, List.set_cons_succ]
    refine rg_call (i := 5) (atS (atS (atS (atS (atS at0))))) (by kernel_rfl) ?_ (fun K hK => ?_); (· rfl); (try clear hb); go_simp; (refine (ip_Cmp _ _ _ _ _).mono ?_; rintro e w1 ⟨rfl, hb⟩); go_wp2_with fail; refine hK.out _ _ ?_ (fun hHeld => ?_); (· exact hHeld.trans (hb.mono hHeld.size)); clear hK K
    try simp only [Act.put, List.setIfInBounds_toArray, List.set_cons_zero, List.set_cons_succ]
    refine rg_yes (i := 6) (v := ?_) (atS (atS (atS (atS (atS (atS at0)))))) (by kernel_rfl) (by kernel_rfl) (by kernel_rfl) (fun _ _ _ h => h) ?_ ?_ hHeld ?_; rotate_left 1; (· rfl); (· intro w' hSw; (try dsimp only at hSw); (try clear hHeld); go_simp; try with_reducible rfl)
    try simp only [Act.put, List.setIfInBounds_toArray, List.set_cons_zero, List.set_cons_succ]
    refine rg_yes (i := 7) (v := ?_) (atS (atS (atS (atS (atS (atS (atS at0))))))) (by kernel_rfl) (by kernel_rfl) (by kernel_rfl) (fun _ _ _ h => h) ?_ ?_ hHeld ?_; rotate_left 1; (· rfl); (· intro w' hSw; (try dsimp only at hSw); (try clear hHeld); go_simp; try with_reducible rfl)
    try simp only [Act.put, List.setIfInBounds_toArray, List.set_cons_zero, List.set_cons_succ]
    refine rg_yes (i := 8) (v := ?_) (atS (atS (atS (atS (atS (atS (atS (atS at0)))))))) (by kernel_rfl) (by kernel_rfl) (by kernel_rfl) (fun _ _ _ h => h) ?_ ?_ hHeld ?_; rotate_left 1; (· rfl); (· intro w' hSw; (try dsimp only at hSw); (try clear hHeld); go_simp; try with_reducible rfl)
    try simp only [Act.put, List.setIfInBounds_toArray, List.set_cons_zero, List.set_cons_succ]
    first | (refine rg_no (i := 9) (atS (atS (atS (atS (atS (atS (atS (atS (atS at0))))))))) (by kernel_rfl) (by kernel_rfl) (by kernel_rfl) (fun _ _ _ h => h) ?_ hHeld ?_; (· rfl)) | (refine rg_yes (i := 9) (v := ?_) (atS (atS (atS (atS (atS (atS (atS (atS (atS at0))))))))) (by kernel_rfl) (by kernel_rfl) (by kernel_rfl) (fun _ _ _ h => h) ?_ ?_ hHeld ?_; rotate_left 1; (· rfl); (· intro w' hSw; (try dsimp only at hSw); have c0 := cell_below c0 hSw; have c1 := cell_below c1 hSw; have d0 := cell_below d0 hSw; have d1 := cell_below d1 hSw; (try clear hHeld); go_simp; try with_reducible rfl))
    try simp only [Act.put, List.setIfInBounds_toArray, List.set_cons_zero, List.set_cons_succ]
    first | (refine rg_no (i := 10) (atS (atS (atS (atS (atS (atS (atS (atS (atS (atS at0)))))))))) (by kernel_rfl) (by kernel_rfl) (by kernel_rfl) (fun _ _ _ h => h) ?_ hHeld ?_; (· rfl)) | (refine rg_yes (i := 10) (v := ?_) (atS (atS (atS (atS (atS (atS (atS (atS (atS (atS at0)))))))))) (by kernel_rfl) (by kernel_rfl) (by kernel_rfl) (fun _ _ _ h => h) ?_ ?_ hHeld ?_; rotate_left 1; (· rfl); (· intro w' hSw; (try dsimp only at hSw); have c0 := cell_below c0 hSw; have c1 := cell_below c1 hSw; have d0 := cell_below d0 hSw; have d1 := cell_below d1 hSw; (try clear hHeld); go_simp; try with_reducible rfl))
    try simp only [Act.put, List.setIfInBounds_toArray, List.set_cons_zero, List.set_cons_succ]
    first | (refine rg_no (i := 13) (atS (atS (atS (atS (atS (atS (atS (atS (atS (atS (atS (atS (atS at0))))))))))))) (by kernel_rfl) (by kernel_rfl) (by kernel_rfl) (fun _ _ _ h => h) ?_ hHeld ?_; (· rfl)) | (refine rg_yes (i := 13) (v := ?_) (atS (atS (atS (atS (atS (atS (atS (atS (atS (atS (atS (atS (atS at0))))))))))))) (by kernel_rfl) (by kernel_rfl) (by kernel_rfl) (fun _ _ _ h => h) ?_ ?_ hHeld ?_; rotate_left 1; (· rfl); (· intro w' hSw; (try dsimp only at hSw); have c0 := cell_below c0 hSw; have c1 := cell_below c1 hSw; have d0 := cell_below d0 hSw; have d1 := cell_below d1 hSw; (try clear hHeld); go_simp; try with_reducible rfl))
    try simp only [Act.put, List.setIfInBounds_toArray, List.set_cons_zero, List.set_cons_succ]
    first | (refine rg_no (i := 14) (atS (atS (atS (atS (atS (atS (atS (atS (atS (atS (atS (atS (atS (atS at0)))))))))))))) (by kernel_rfl) (by kernel_rfl) (by kernel_rfl) (fun _ _ _ h => h) ?_ hHeld ?_; (· rfl)) | (refine rg_yes (i := 14) (v := ?_) (atS (atS (atS (atS (atS (atS (atS (atS (atS (atS (atS (atS (atS (atS at0)))))))))))))) (by kernel_rfl) (by kernel_rfl) (by kernel_rfl) (fun _ _ _ h => h) ?_ ?_ hHeld ?_; rotate_left 1; (· rfl); (· intro w' hSw; (try dsimp only at hSw); have c0 := cell_below c0 hSw; have c1 := cell_below c1 hSw; have d0 := cell_below d0 hSw; have d1 := cell_below d1 hSw; (try clear hHeld); go_simp; try with_reducible rfl))
    try simp only [Act.put, List.setIfInBounds_toArray, List.set_cons_zero, List.set_cons_succ]
    first | (refine rg_no (i := 15) (atS (atS (atS (atS (atS (atS (atS (atS (atS (atS (atS (atS (atS (atS (atS at0))))))))))))))) (by kernel_rfl) (by kernel_rfl) (by kernel_rfl) (fun _ _ _ h => h) ?_ hHeld ?_; (· rfl)) | (refine rg_yes (i := 15) (v := ?_) (atS (atS (atS (atS (atS (atS (atS (atS (atS (atS (atS (atS (atS (atS (atS at0))))))))))))))) (by kernel_rfl) (by kernel_rfl) (by kernel_rfl) (fun _ _ _ h => h) ?_ ?_ hHeld ?_; rotate_left 1; (· rfl); (· intro w' hSw; (try dsimp only at hSw); (try clear hHeld); go_simp; try with_reducible rfl))
    try simp only [Act.put, List.setIfInBounds_toArray, List.set_cons_zero, List.set_cons_succ]
    first | (refine rg_no (i := 11) (atS (atS (atS (atS (atS (atS (atS (atS (atS (atS (atS at0))))))))))) (by kernel_rfl) (by kernel_rfl) (by kernel_rfl) (fun _ _ _ h => h) ?_ hHeld ?_; (· rfl)) | (refine rg_call (i := 11) (atS (atS (atS (atS (atS (atS (atS (atS (atS (atS (atS at0))))))))))) (by kernel_rfl) ?_ (fun K hK => ?_); (· rfl); (try clear hb); go_simp; (refine (ip_Cmp _ _ _ _ _).mono ?_; rintro e w1 ⟨rfl, hb⟩); go_wp2_with fail; refine hK.out _ _ ?_ (fun hHeld => ?_); (· exact hHeld.trans (hb.mono hHeld.size)); clear hK K)
    try simp only [Act.put, List.setIfInBounds_toArray, List.set_cons_zero, List.set_cons_succ]
    first | (refine rg_no (i := 12) (atS (atS (atS (atS (atS (atS (atS (atS (atS (atS (atS (atS at0)))))))))))) (by kernel_rfl) (by kernel_rfl) (by kernel_rfl) (fun _ _ _ h => h) ?_ hHeld ?_; (· rfl)) | (refine rg_yes (i := 12) (v := ?_) (atS (atS (atS (atS (atS (atS (atS (atS (atS (atS (atS (atS at0)))))))))))) (by kernel_rfl) (by kernel_rfl) (by kernel_rfl) (fun _ _ _ h => h) ?_ ?_ hHeld ?_; rotate_left 1; (· rfl); (· intro w' hSw; (try dsimp only at hSw); (try clear hHeld); go_simp; try with_reducible rfl))
    try simp only [Act.put, List.setIfInBounds_toArray, List.set_cons_zero, List.set_cons_succ]
    first | (refine rg_no (i := 16) (atS (atS (atS (atS (atS (atS (atS (atS (atS (atS (atS (atS (atS (atS (atS (atS at0)))))))))))))))) (by kernel_rfl) (by kernel_rfl) (by kernel_rfl) (fun _ _ _ h => h) ?_ hHeld ?_; (· rfl)) | (refine rg_yes (i := 16) (v := ?_) (atS (atS (atS (atS (atS (atS (atS (atS (atS (atS (atS (atS (atS (atS (atS (atS at0)))))))))))))))) (by kernel_rfl) (by kernel_rfl) (by kernel_rfl) (fun _ _ _ h => h) ?_ ?_ hHeld ?_; rotate_left 1; (· rfl); (· intro w' hSw; (try dsimp only at hSw); (try clear hHeld); go_simp; try with_reducible rfl))
    try simp only [Act.put, List.setIfInBounds_toArray, List.set_cons_zero, List.set_cons_succ]
    refine rg_yes (i := 17) (v := ?_) (atS (atS (atS (atS (atS (atS (atS (atS (atS (atS (atS (atS (atS (atS (atS (atS (atS at0))))))))))))))))) (by kernel_rfl) (by kernel_rfl) (by kernel_rfl) (fun _ _ _ h => h) ?_ ?_ hHeld ?_; rotate_left 1; (· rfl); (· intro w' hSw; (try dsimp only at hSw); (try clear hHeld); go_simp; try with_reducible rfl)
    try simp only [Act.put, List.setIfInBounds_toArray, List.set_cons_zero, List.set_cons_succ]
    refine wpAnyH_done (by kernel_rfl) ?_ _
    have hb := hHeld
    clear hHeld
    have c0 := cell_below c0 hb; have c1 := cell_below c1 hb; have d0 := cell_below d0 hb; have d1 := cell_below d1 hb; have e0 := cell_below e0 hb; have e1 := cell_below e1 hb; have hB := below_on hB hb; clear hb
    go_wp2_with (first | (go_at_call 26; refine (ip_Cmp _ _ _ _ _).mono ?_; rintro e w2 ⟨rfl, hb⟩; have c0 := cell_below c0 hb; have c1 := cell_below c1 hb; have d0 := cell_below d0 hb; have d1 := cell_below d1 hb; have e0 := cell_below e0 hb; have e1 := cell_below e1 hb; have hB := below_on hB hb; clear hb) | (go_at_call 20; refine (ip_Covers _ _ _ _ _ h0 h k0 k1).mono ?_; rintro e w2 ⟨rfl, hb⟩; have c0 := cell_below c0 hb; have c1 := cell_below c1 hb; have d0 := cell_below d0 hb; have d1 := cell_below d1 hb; have e0 := cell_below e0 hb; have e1 := cell_below e1 hb; have hB := below_on hB hb; clear hb))
    all_goals first | (exfalso; have hf := f4.out ‹prefCmp b m c k < 0›; omega) | (go_ret; exact ⟨ret_bool (by first | rfl | decide | simp), hB⟩)

namespace ipOrders
open Go.ChangeShapes Go.WideShapes Go.ChangeAt Go.RowKit
set_option linter.unusedVariables false
set_option maxRecDepth 100000 in
theorem lifted (os : Os) (started : os.Started) (H : Type) (enc : TypeId × Value → H) :
    ReturnsInHanded {} Try.checked os 10 .any (Rows.ipOrdersSpec.pre6 enc Try.prog Try.f10 Rows.ipOrdersRow.domain false) (Rows.ipOrdersSpec.post enc Try.prog Try.f10 false true false false) := by
  refine returnsInHanded_of_change (C := Try.checked) fr_own started (by kernel_rfl) Try.func10
    (ChangeSpec.witness6 (enc := enc) (C := Try.checked) false ⟨#[], #[.agg #[.int .u32 0, .int .i64 0], .agg #[.int .u32 0, .int .i64 0], .agg #[.int .u32 0, .int .i64 0]], []⟩ 8 (by kernel_rfl) (by kernel_rfl) (by kernel_rfl) (by kernel_rfl)) ?_
  intro W base args ds gs before hval0 hW hcnd _
  have hval : ∀ (j : Nat) t v, Try.f10.params[j]? = some t → args[j]? = some v → Value.okWide Try.prog W .any base t v := hval0
  have hW' := hW
  obtain ⟨p, q, hA0, hV, rfl, hfz, hnd⟩ := hW
  have hA : DataW.TrodAll enc Try.prog W 0 (fun _ => true) true Try.f10.params.toList args.toList ds p := hA0
  rw [Try.params10] at hA hval
  obtain ⟨v0, vs0, d0, ds0, p0, q0, hargs, rfl, rfl, h0, r0⟩ := trodAll_cons hA
  obtain ⟨v1, vs1, d1, ds1, p1, q1, rfl, rfl, rfl, h1, r1⟩ := trodAll_cons r0
  obtain ⟨v2, vs2, d2, ds2, p2, q2, rfl, rfl, rfl, h2, r2⟩ := trodAll_cons r1
  obtain ⟨rfl, rfl, rfl⟩ := trodAll_nil r2
  obtain rfl : args = #[v0, v1, v2] := by cases args; simp_all
  obtain ⟨rfl, rfl⟩ := trodVars_none hV
  have lt0 : ∀ x ∈ p0, x.block < W.heap.size := by obtain ⟨m, hm⟩ := h0; exact DataW.trod_lt m _ _ _ hm
  have lt1 : ∀ x ∈ p1, x.block < W.heap.size := by obtain ⟨m, hm⟩ := h1; exact DataW.trod_lt m _ _ _ hm
  have lt2 : ∀ x ∈ p2, x.block < W.heap.size := by obtain ⟨m, hm⟩ := h2; exact DataW.trod_lt m _ _ _ hm
  obtain ⟨a, n, rfl, ha0, ha1, hn0, hn1⟩ := open_pref (hval 0 31 v0 rfl rfl)
  obtain ⟨b, m, rfl, hb0, hb1, hm0, hm1⟩ := open_pref (hval 1 31 v1 rfl rfl)
  obtain ⟨c, k, rfl, hc0, hc1, hk0, hk1⟩ := open_pref (hval 2 31 v2 rfl rfl)
  clear hA0 hval0
  refine (law_IpOrders a n b m c k W ha0 ha1 hb0 hb1).mono fun e W' ⟨he, bel⟩ => ?_
  subst he
  exact ⟨_, rfl, _, _, _, [], _, [], hW', trodAll_mk1 (shut_bool Try.underlying4 _), (trodAll_cons_mk (Below.trod fr_laidOut (by kernel_rfl) (of_decide_eq_true (by kernel_rfl)) h0 bel lt0) (trodAll_cons_mk (Below.trod fr_laidOut (by kernel_rfl) (of_decide_eq_true (by kernel_rfl)) h1 bel lt1) (trodAll_cons_mk (Below.trod fr_laidOut (by kernel_rfl) (of_decide_eq_true (by kernel_rfl)) h2 bel lt2) trodAll_mk0))), rfl, bel.frame _, fun h => by cases h⟩
theorem over : Rows.ipOrdersRow.holds Try.pinned (OpenSpec.ofChange Rows.ipOrdersSpec) :=
  OpenClaim.holds_of_wide 10 Try.f10 rfl rfl rfl rfl rfl rfl rfl ⟨rfl, rfl, rfl, rfl, rfl⟩ rfl rfl rfl rfl rfl (by kernel_rfl) Try.func10 (by kernel_rfl)
    (of_decide_eq_true (by kernel_rfl)) (by unfold Func.isWrapper; first | (rw [if_pos (by decide +kernel)]; kernel_rfl) | (rw [if_neg (by decide +kernel)]; exact ⟨rfl, rfl⟩))
    (fun os started H enc _ => lifted os started H enc)
/-- THE STATEMENT IpOrders. -/
theorem proved : Rows.IpOrdersSaid := over
#print axioms proved
end ipOrders
end Go.Proofs.Ytjigednphjgboaa
