/-
  THE TEXTS OF ADDRESSES AND NETS: Prefix.Text; the reference's digits, Text, Full.
-/
import Derived.Test.YtgmpbppiakjpdaaDoorText
import Derived.Test.YtgmpbppiakjpdaaDoorIpWalk
import Derived.Test.YtgmpbppiakjpdaaDoorRef01
import Derived.LoopTactic
namespace Go.Proofs.YtgmpbppiakjpdaaDoor
open Go.RowKit Go.Shelf

theorem ret_str {l l' : List UInt8} (h : l = l') : Ending.returned (.string ⟨l.toArray⟩) = .returned (.string ⟨l'.toArray⟩) := by rw [h]

/-! ### digits -/
def chD (n : Nat) : UInt8 := UInt8.ofNat (48 + n % 10)
theorem chD_toNat (n : Nat) : ((chD n).toNat : Int) = 48 + (n : Int) % 10 := by
  unfold chD
  have : (UInt8.ofNat (48 + n % 10)).toNat = 48 + n % 10 := by
    simp [UInt8.toNat_ofNat]; omega
  rw [this]; omega
theorem one_str (n : Nat) (w : World) : (convert 42 9 (.slice (some ⟨w.heap.size, 0, none⟩) 1 1)).run Tryd.prog (w.alloc (.cells #[.int .u8 (48 + (n : Int) % 10)] 5)) = .ok (.string ⟨#[chD n]⟩) (w.alloc (.cells #[.int .u8 (48 + (n : Int) % 10)] 5)) :=
  run_convert_bytes_back (P := Tryd.prog) _ 42 9 5 ⟨w.heap.size, 0, none⟩ 1 [chD n] Tryd.underlying42 Tryd.underlying5 Tryd.underlying9 (by
    intro j hj
    have : j = 0 := by simp at hj; omega
    subst this
    simp [Addr.add, chD_toNat])
theorem dec_step (n : Nat) (h : ¬ n < 10) : Lib.decDigits n = Lib.decDigits (n / 10) ++ [chD n] := by rw [Lib.decDigits, dif_neg h]; rfl
theorem dec_one (n : Nat) (h : n < 10) : Lib.decDigits n = [chD n] := by rw [Lib.decDigits_one h]; unfold chD; rw [Nat.mod_eq_of_lt h]
set_option maxHeartbeats 1600000 in
set_option maxRecDepth 100000 in
theorem ref_digits1 (n : Nat) (hn : n < 10) (w : World) : Calls Tryd.prog 17 #[.int .i64 n] w fun e w' => e = .returned (.string ⟨(Lib.decDigits n).toArray⟩) ∧ Below w.heap.size w w' := by
  have E := Lib.hid (dec_one n hn)
  have hcv := one_str n w
  go_enter Tryd.func17, Tryd.ntmps17
  go_wp2_with fail
  go_ret
  exact ⟨ret_str E.out.symm, (Below.refl _ _).alloc (Nat.le_refl _) _⟩
set_option maxHeartbeats 1600000 in
set_option maxRecDepth 100000 in
theorem ref_digitsS (n : Nat) (hn : ¬ n < 10) (hn2 : n < 1000000) (w : World) (IH : ∀ w : World, Calls Tryd.prog 17 #[.int .i64 (n / 10 : Nat)] w fun e w' => e = .returned (.string ⟨(Lib.decDigits (n / 10)).toArray⟩) ∧ Below w.heap.size w w')
    (hlen : (Lib.decDigits (n / 10)).length ≤ 20) : Calls Tryd.prog 17 #[.int .i64 n] w fun e w' => e = .returned (.string ⟨(Lib.decDigits n).toArray⟩) ∧ Below w.heap.size w w' := by
  have E := Lib.hid (dec_step n hn)
  have hcv := one_str n w
  go_enter Tryd.func17, Tryd.ntmps17
  go_wp2_with fail
  have h10 : (n : Int) / 10 = ((n / 10 : Nat) : Int) := by omega
  rw [h10]
  clear h10
  refine (IH _).mono ?_
  rintro e w1 ⟨rfl, hb⟩
  have hB := below_on ((Below.refl _ _).alloc (Nat.le_refl _) _) hb
  clear hb
  have hadd : ∀ W : World, (Op.stringOp .add ⟨(Lib.decDigits (n / 10)).toArray⟩ ⟨#[chD n]⟩).run Tryd.prog W = .ok (.string ⟨(Lib.decDigits n).toArray⟩) W := fun W => by
    rw [E.out]; exact run_string_add_lists (P := Tryd.prog) (w := W) _ [chD n] (by omega) (by simp)
  clear E
  go_wp2_with fail
  go_ret
  exact ⟨rfl, hB⟩
theorem dec_len (n : Nat) (hn : n < 1000000) : (Lib.decDigits n).length ≤ 20 := by
  rw [Lib.decDigits_length]
  exact Lib.nDigits_le20 n (by omega)
theorem ref_digits (n : Nat) (hn : n < 1000) (w : World) : Calls Tryd.prog 17 #[.int .i64 n] w fun e w' => e = .returned (.string ⟨(Lib.decDigits n).toArray⟩) ∧ Below w.heap.size w w' := by
  by_cases h1 : n < 10
  · exact ref_digits1 n h1 w
  · refine ref_digitsS n h1 (by omega) w (fun w => ?_) (dec_len _ (by omega))
    by_cases h2 : n / 10 < 10
    · exact ref_digits1 _ h2 w
    · exact ref_digitsS _ h2 (by omega) w (fun w => ref_digits1 _ (by omega) w) (dec_len _ (by omega))

/-! ### the text of a net -/
theorem textL_len (a : Nat) : (textL a).length ≤ 100 := by
  have h : ∀ k, (Lib.decDigits (octet a k)).length ≤ 20 := fun k => dig_len _ (Nat.mod_lt _ (by decide))
  have h0 := h 0; have h1 := h 1; have h2 := h 2; have h3 := h 3
  unfold textL
  simp
  omega
def fullL (a n : Nat) : List UInt8 := (textL a ++ [47]) ++ Lib.decDigits n
/-- the text of a net; empty, if it is not in its form. -/
def fullT (a n : Int) : List UInt8 := if rightB a n then fullL a.toNat n.toNat else []
theorem fullT_no {a n : Int} (h : rightB a n = false) : fullT a n = [] := by unfold fullT; rw [h]; rfl
theorem fullT_yes {a n : Nat} (h : rightB a n = true) : fullT a n = fullL a n := by unfold fullT; rw [h]; simp
theorem add_slash (a : Nat) (W : World) : (Op.stringOp .add ⟨(textL a).toArray⟩ ⟨#[47]⟩).run Tryd.prog W = .ok (.string ⟨(textL a ++ [47]).toArray⟩) W := run_string_add_lists (P := Tryd.prog) (w := W) _ [47] (by have := textL_len a; omega) (by simp)
theorem add_len (a n : Nat) (hn : n < 1000) (W : World) : (Op.stringOp .add ⟨(textL a ++ [47]).toArray⟩ ⟨(Lib.decDigits n).toArray⟩).run Tryd.prog W = .ok (.string ⟨(fullL a n).toArray⟩) W := run_string_add_lists (P := Tryd.prog) (w := W) _ _ (by have := textL_len a; simp; omega) (by have := dec_len n (by omega); omega)

theorem str_Itoa (n : Nat) (hn : n < 100) (w : World) : Calls Tryd.prog 18 #[.int .i64 n] w fun e w' => e = .returned (.string ⟨(Lib.decDigits n).toArray⟩) ∧ Below w.heap.size w w' := by
  refine (Tryd.strconv_Itoa_small n hn w).mono ?_
  rintro e w' ⟨rfl, rfl⟩
  exact ⟨rfl, Below.refl _ _⟩
set_option maxHeartbeats 1600000 in
set_option maxRecDepth 100000 in
theorem ip_PText (a n : Int) (w : World) (h0 : 0 ≤ a) (h : a < 4294967296) (htab : PowTab w) : Calls Tryd.prog 8 #[.agg #[.int .u32 a, .int .i64 n]] w fun e w' => e = .returned (.string ⟨(fullT a n).toArray⟩) ∧ Below w.heap.size w w' := by
  cases hR : rightB a n
  · have E := Lib.hid (fullT_no hR)
    go_enter Tryd.func8, Tryd.ntmps8
    go_wp2_with fail
    obtain ⟨W0, hW0, c0, c1, hB⟩ := box2 w (.int .u32 a) (.int .i64 n) 25
    rw [← hW0]; clear hW0
    refine (ip_Check a n W0 h0 h).mono ?_
    rintro e w1 ⟨rfl, hb⟩
    have hB := below_on hB hb
    rw [hR]
    go_wp2_with fail
    go_ret
    exact ⟨ret_str (l := []) E.out.symm, hB⟩
  · obtain ⟨n0, n1⟩ := rightB_range hR
    obtain ⟨x, rfl⟩ := Int.eq_ofNat_of_zero_le h0
    obtain ⟨m, rfl⟩ := Int.eq_ofNat_of_zero_le n0
    have hx : x < 4294967296 := by omega
    have hm32 : m ≤ 32 := by omega
    have CK := ip_Check x m (h0 := h0) (h := h)
    clear h0 h n0 n1
    have E := Lib.hid (fullT_yes hR)
    have HT := Lib.hid (Lib.tabBelow_of_tabIs htab)
    clear htab
    go_enter Tryd.func8, Tryd.ntmps8
    go_wp2_with fail
    obtain ⟨W0, hW0, c0, c1, hB⟩ := box2 w (.int .u32 x) (.int .i64 m) 25
    rw [← hW0]; clear hW0
    refine (CK W0).mono ?_
    rintro e w1 ⟨rfl, hb⟩
    have c0 := cell_below c0 hb
    have c1 := cell_below c1 hb
    have hB := below_on hB hb
    clear hb CK
    rw [hR]
    go_wp2_with fail
    have hs := fun W => add_slash x W
    have hl := fun W => add_len x m (by omega) W
    refine wp_region_held_drew (S := fun w' => Below w1.heap.size w1 w') (by kernel_rfl) ?_ (fun hHeld => ?_)
    · exact (Below.refl _ _).drew
    refine rg_yes (i := 0) (v := ?_) at0 (by kernel_rfl) (by kernel_rfl) (by kernel_rfl) (fun _ _ _ h => h) ?_ ?_ hHeld ?_; rotate_left 1; (· rfl); (· intro w' hSw; (try dsimp only at hSw); (try clear hHeld); go_simp; try with_reducible rfl)
    try simp only [Act.put, List.setIfInBounds_toArray, List.set_cons_zero, List.set_cons_succ]
    refine rg_yes (i := 1) (v := ?_) (atS at0) (by kernel_rfl) (by kernel_rfl) (by kernel_rfl) (fun _ _ _ h => h) ?_ ?_ hHeld ?_; rotate_left 1; (· rfl); (· intro w' hSw; (try dsimp only at hSw); have c0 := cell_below c0 hSw; have c1 := cell_below c1 hSw; (try clear hHeld); go_simp; try with_reducible rfl)
    try simp only [Act.put, List.setIfInBounds_toArray, List.set_cons_zero, List.set_cons_succ]
    refine rg_yes (i := 4) (v := ?_) (atS (atS (atS (atS at0)))) (by kernel_rfl) (by kernel_rfl) (by kernel_rfl) (fun _ _ _ h => h) ?_ ?_ hHeld ?_; rotate_left 1; (· rfl); (· intro w' hSw; (try dsimp only at hSw); (try clear hHeld); go_simp; try with_reducible rfl)
    try simp only [Act.put, List.setIfInBounds_toArray, List.set_cons_zero, List.set_cons_succ]
    refine rg_yes (i := 5) (v := ?_) (atS (atS (atS (atS (atS at0))))) (by kernel_rfl) (by kernel_rfl) (by kernel_rfl) (fun _ _ _ h => h) ?_ ?_ hHeld ?_; rotate_left 1; (· rfl); (· intro w' hSw; (try dsimp only at hSw); have c0 := cell_below c0 hSw; have c1 := cell_below c1 hSw; (try clear hHeld); go_simp; try with_reducible rfl)
    try simp only [Act.put, List.setIfInBounds_toArray, List.set_cons_zero, List.set_cons_succ]
    refine rg_call (i := 2) (atS (atS at0)) (by kernel_rfl) ?_ (fun K hK => ?_); (· rfl); (try clear hb); go_simp; (refine (ip_Text x hx _ ((HT.out.on (below_on hB hHeld)).here)).mono ?_; rintro e w1 ⟨rfl, hb⟩); go_wp2_with fail; refine hK.out _ _ ?_ (fun hHeld => ?_); (· exact hHeld.trans (hb.mono hHeld.size)); clear hK K
    try simp only [Act.put, List.setIfInBounds_toArray, List.set_cons_zero, List.set_cons_succ]
    refine rg_yes (i := 3) (v := ?_) (atS (atS (atS at0))) (by kernel_rfl) (by kernel_rfl) (by kernel_rfl) (fun _ _ _ h => h) ?_ ?_ hHeld ?_; rotate_left 1; (· rfl); (· intro w' hSw; (try dsimp only at hSw); (try clear hHeld); go_simp; try with_reducible rfl)
    try simp only [Act.put, List.setIfInBounds_toArray, List.set_cons_zero, List.set_cons_succ]
    refine rg_call (i := 6) (atS (atS (atS (atS (atS (atS at0)))))) (by kernel_rfl) ?_ (fun K hK => ?_); (· rfl); (try clear hb); go_simp; (refine (str_Itoa m (by omega) _).mono ?_; rintro e w1 ⟨rfl, hb⟩); go_wp2_with fail; refine hK.out _ _ ?_ (fun hHeld => ?_); (· exact hHeld.trans (hb.mono hHeld.size)); clear hK K
    try simp only [Act.put, List.setIfInBounds_toArray, List.set_cons_zero, List.set_cons_succ]
    refine rg_yes (i := 7) (v := ?_) (atS (atS (atS (atS (atS (atS (atS at0))))))) (by kernel_rfl) (by kernel_rfl) (by kernel_rfl) (fun _ _ _ h => h) ?_ ?_ hHeld ?_; rotate_left 1; (· rfl); (· intro w' hSw; (try dsimp only at hSw); (try clear hHeld); go_simp; try with_reducible rfl)
    try simp only [Act.put, List.setIfInBounds_toArray, List.set_cons_zero, List.set_cons_succ]
    refine rg_yes (i := 8) (v := ?_) (atS (atS (atS (atS (atS (atS (atS (atS at0)))))))) (by kernel_rfl) (by kernel_rfl) (by kernel_rfl) (fun _ _ _ h => h) ?_ ?_ hHeld ?_; rotate_left 1; (· rfl); (· intro w' hSw; (try dsimp only at hSw); (try clear hHeld); go_simp; try with_reducible rfl)
    try simp only [Act.put, List.setIfInBounds_toArray, List.set_cons_zero, List.set_cons_succ]
    refine wpAnyH_done (by kernel_rfl) ?_ _
    have hB' := below_on hB hHeld
    go_wp2
    go_ret
    exact ⟨ret_str E.out.symm, hB'⟩
end Go.Proofs.YtgmpbppiakjpdaaDoor
