/-
  THE WALKS OF THE REFERENCE FOR PACKAGE ip (carrefourref01): bits of an address, masks, prefixes in their form.
-/
import Derived.Test.YtaafeekkllomhaaRows
import Derived.Test.YtaafeekkllomhaaIpPlain
import Derived.Test.YtaafeekkllomhaaRg
import Derived.LoopTactic
namespace Go.Proofs.Ytaafeekkllomhaa
open Go.RowKit

theorem info_int : (Try.prog.info? 3).map (fun i => (i.zero, i.size, i.bytes)) = some (some (.int .i64 0), 1, 8) := by kernel_rfl

/-- a slice literal of one cell. -/
theorem ownsRow_lit1 (w : World) (x : Value) (e : TypeId) (B : Nat) (hB : B ≤ w.heap.size) : (w.alloc (.cells #[x] e)).ownsRow B e 1 (.slice (some ⟨w.heap.size, 0, none⟩) 1 1) 1 [x] :=
  ⟨rfl, .inr ⟨w.heap.size, 1, #[x], rfl, hB, heap_alloc_new w _, Nat.le_refl _, by decide, rfl, rfl⟩⟩

/-- the last k bits of an address, as values. -/
def bitsL (a : Int) (k : Nat) : List Value := (List.range k).map fun (j : Nat) => .int .i64 (bitI a (32 - (k : Int) + (j : Int)))
theorem bitsL_len (a : Int) (k : Nat) : (bitsL a k).length = k := by simp [bitsL]
theorem bitsL_succ (a : Int) (k : Nat) : [Value.int .i64 (bitI a (31 - (k : Int)))] ++ bitsL a k = bitsL a (k + 1) := by
  unfold bitsL
  rw [List.range_succ_eq_map, List.map_cons, List.map_map]
  simp only [List.singleton_append, List.cons.injEq]
  refine ⟨by congr 2; omega, ?_⟩
  apply List.map_congr_left
  intro j _
  simp only [Function.comp_apply]
  congr 2; omega
theorem bit_mod (a : Int) (k : Nat) (hk : k < 32) : a / 2 ^ k % 2 = bitI a (31 - (k : Int)) := by
  unfold bitI
  rw [if_pos (by omega)]
  have e : (31 - (31 - (k : Int))).toNat = k := by omega
  rw [e]
theorem div_pow_succ (a : Int) (k : Nat) : a / 2 ^ k / 2 = a / 2 ^ (k + 1) := by
  rw [Int.pow_succ, Int.ediv_ediv_of_nonneg (Int.le_of_lt (pow_pos33 k))]

/-- a slice of the call's own: k integers, as a list of values says. -/
def OwnInts (w' : World) (B : Nat) (k : Nat) (L : List Value) (v : Value) : Prop := ∃ g cap, v = .slice (some ⟨g, 0, none⟩) k cap ∧ B ≤ g ∧ w'.ownsRow B 3 1 v k L

theorem own_form {w' : World} {B k : Nat} {L : List Value} {v : Value} (hk : 0 < k) (h : w'.ownsRow B 3 1 v k L) : ∃ g cap, v = .slice (some ⟨g, 0, none⟩) k cap ∧ B ≤ g ∧ w'.ownsRow B 3 1 v k L := by
  have h' := h
  obtain ⟨_, ⟨_, h0⟩ | ⟨g, cap, cur, rfl, hg, _⟩⟩ := h
  · omega
  · exact ⟨g, cap, rfl, hg, h'⟩
theorem bitsL_one (a : Int) (k : Nat) : ∀ u ∈ bitsL a k, u.oneCell' = true := by
  intro u hu
  simp only [bitsL, List.mem_map] at hu
  obtain ⟨j, _, rfl⟩ := hu
  rfl
theorem bitsL_step (a : Int) (k : Nat) {w' : World} {B : Nat} {v : Value} : w'.ownsRow B 3 1 v (1 + k) (Value.int .i64 (bitI a (31 - (k : Int))) :: bitsL a k) = w'.ownsRow B 3 1 v (k + 1) (bitsL a (k + 1)) := by
  rw [← bitsL_succ, Nat.add_comm]; rfl

set_option maxRecDepth 100000 in
set_option maxHeartbeats 400000 in
theorem ref_Bits (a : Int) (w : World) (h0 : 0 ≤ a) (h : a < 4294967296) :
    Calls Try.prog 42 #[.int .u32 a] w fun e w' => (∃ v, e = .returned v ∧ OwnInts w' w.heap.size 32 (bitsL a 32) v) ∧ Below w.heap.size w w' := by
  obtain ⟨i0, hi, hz0, hz1, hz2⟩ := info_parts info_int
  have hdp := div_pow_succ a
  have HD := Lib.hid hdp; clear hdp
  have hbm := bit_mod a
  have HB := Lib.hid hbm; clear hbm
  go_enter Try.func42, Try.ntmps42
  go_wp2
  go_loopw [0, 3, 4] (fun x v i wr => ∃ k : Nat, k ≤ 32 ∧ i = .int .i64 k ∧ x = .int .u32 (a / 2 ^ k) ∧ OwnInts wr w.heap.size k (bitsL a k) v ∧ Below w.heap.size w wr) (fun _ _ i _ => 32 - (intOf i).toNat)
  case atStart =>
    refine ⟨0, by omega, rfl, by simp, ⟨w.heap.size, 0, rfl, Nat.le_refl _, ?_⟩, (Below.refl _ _).alloc (Nat.le_refl _) _⟩
    exact World.ownsRow_made w #[] 0 (Nat.le_refl _) (by decide) rfl
  case round =>
    obtain ⟨k, hk, rfl, rfl, ⟨g, cap, rfl, hg, hown⟩, hbel⟩ := hrel
    have hq0 : 0 ≤ a / 2 ^ k := Int.ediv_nonneg h0 (Int.le_of_lt (pow_pos33 k))
    have hq1 : a / 2 ^ k < 4294967296 := by have := Int.ediv_le_self (2 ^ k) h0; omega
    by_cases hlt : k < 32
    · have hsz : w.heap.size ≤ wr.heap.size := hbel.size
      have hcs : ∀ (j : Nat) u, (bitsL a k)[j]? = some u → (wr.alloc (.cells #[.int .i64 (a / 2 ^ k % 2)] 3)).cell? ((⟨g, 0, none⟩ : Addr).add j) = some u := (hown.alloc _).cells rfl
      go_wp2_with (at_builtin; refine wpList_append_own _ rfl _ _ 66 rfl w.heap.size 3 i0 (.int .i64 0) 1 8 Try.underlying66 hi hz0 hz1 hz2 rfl (by decide) _ 1 [.int .i64 (a / 2 ^ k % 2)] rfl (ownsRow_lit1 wr _ _ _ hsz) ⟨g, 0, none⟩ k cap (bitsL a k) rfl ?c1 ?c2 ?c3 ?c4 ?c5 ?c6 ?_)
      case c1 => simp [bitsL_len]
      case c2 => exact hcs
      case c3 => exact bitsL_one a k
      case c4 => unfold maxLen; omega
      case c5 => omega
      case c6 => simp; omega
      intro v' w1 hown' hgrow hne
      obtain ⟨g', cap', rfl, hg', hown''⟩ := own_form (k := k + 1) (by omega) (L := bitsL a (k + 1)) (by rw [HB.out k hlt, bitsL_step] at hown'; exact hown')
      have hbel' : Below w.heap.size w w1 := (hbel.alloc hsz _).grown hgrow (by simp; omega) (fun j hj => by simp [Value.ownBlock] at hj; omega)
      clear hown hown' hgrow hcs hbel hne
      go_wp2
      go_roundw
      case rel => exact ⟨k + 1, by omega, by go_num, by rw [HD.out], ⟨g', cap', rfl, hg', hown''⟩, hbel'⟩
      case measure => simp [intOf]; omega
    · obtain rfl : k = 32 := by omega
      go_wp2
      go_ret
      exact ⟨⟨_, rfl, ⟨g, cap, rfl, hg, hown⟩⟩, hbel⟩

theorem add_at (g j : Nat) : (⟨g, 0, none⟩ : Addr).add j = ⟨g, j, none⟩ := by
  unfold Addr.add; split <;> simp_all
/-- the 32 bits of an address, in memory of the call's own. -/
def BitsPost (a : Int) (w : World) (e : Ending) (w' : World) : Prop := ∃ g cap, e = .returned (.slice (some ⟨g, 0, none⟩) 32 cap) ∧ (32 ≤ cap ∧ cap ≤ maxLen) ∧ w.heap.size ≤ g ∧ ∀ j : Nat, j < 32 → w'.cell? ⟨g, j, none⟩ = some (.int .i64 (bitI a j))
theorem bitsL_at (a : Int) (j : Nat) (hj : j < 32) : (bitsL a 32)[j]? = some (.int .i64 (bitI a j)) := by
  unfold bitsL
  rw [List.getElem?_map, List.getElem?_range hj]
  simp
theorem ref_Bits' (a : Int) (w : World) (h0 : 0 ≤ a) (h : a < 4294967296) :
    Calls Try.prog 42 #[.int .u32 a] w fun e w' => BitsPost a w e w' ∧ Below w.heap.size w w' :=
  (ref_Bits a w h0 h).mono fun e w' ⟨⟨v, he, g, cap, hv, hg, hown⟩, hb⟩ => ⟨⟨g, cap, by rw [he, hv], by
    obtain ⟨_, ⟨_, h0⟩ | ⟨g', cap', cur, hv', _, _, h1, h2, _⟩⟩ := hown
    · omega
    · rw [hv] at hv'
      simp only [Value.slice.injEq] at hv'
      omega, hg, fun j hj => by
      have := hown.cells (g := g) (by rw [hv]; rfl) j _ (bitsL_at a j hj)
      rw [add_at] at this
      exact this⟩, hb⟩

/-! ### Right: are all bits behind the first n nought? -/
theorem no_right {a : Int} {m k : Nat} (h0 : 0 ≤ a) (hm : m ≤ 32) (hk : k < 32 - m) (h : (bitI a ((m + k : Nat) : Int) != 0) = true) : rightB a m = false := by
  cases hr : rightB a m
  · rfl
  · have := (right_bits a m h0 hm).1 hr (m + k) (by omega) (by omega)
    rw [this] at h; simp at h
theorem yes_right {a : Int} {m : Nat} (h0 : 0 ≤ a) (hm : m ≤ 32) (h : ∀ j : Nat, j < 32 - m → bitI a ((m + j : Nat) : Int) = 0) : rightB a m = true :=
  (right_bits a m h0 hm).2 (fun j hj hj' => by have := h (j - m) (by omega); rwa [show m + (j - m) = j by omega] at this)

set_option maxRecDepth 100000 in
set_option maxHeartbeats 400000 in
theorem ref_Right (a n : Int) (w : World) (h0 : 0 ≤ a) (h : a < 4294967296) :
    Calls Try.prog 19 #[.int .u32 a, .int .i64 n] w fun e w' => e = .returned (.bool (rightB a n)) ∧ Below w.heap.size w w' := by
  by_cases h1 : n < 0
  · have E := Lib.hid (rightB_out (a := a) (.inl h1))
    go_enter Try.func19, Try.ntmps19
    go_wp2
    go_ret
    exact ⟨ret_bool E.out.symm, below_same _⟩
  by_cases h2 : n ≤ 32
  · obtain ⟨m, rfl⟩ := Int.eq_ofNat_of_zero_le (a := n) (by omega)
    go_enter Try.func19, Try.ntmps19
    go_wp2_with (go_at_call 42; refine (ref_Bits' _ _ h0 h).mono ?_; rintro e w1 ⟨⟨g, cap, rfl, hcap, hg, hcs⟩, hb⟩)
    · have h32 : m = 32 := by omega
      subst h32
      have E := Lib.hid (yes_right (m := 32) h0 (by omega) (fun j hj => by omega))
      go_loop [18] (fun t => t = .int .i64 0) (fun _ => 0)
      case atStart => rfl
      case round =>
        subst hrel
        go_wp2
        go_ret
        exact ⟨ret_bool E.out.symm, hb⟩
    · have HC := Lib.hid hcs
      clear hcs
      go_loop [18] (fun t => ∃ k : Nat, k ≤ 32 - m ∧ t = .int .i64 k ∧ Hid (∀ j : Nat, j < k → bitI a ((m + j : Nat) : Int) = 0)) (fun t => 32 - m - (intOf t).toNat)
      case atStart => exact ⟨0, by omega, rfl, fun j hj => by omega⟩
      case round =>
        obtain ⟨k, hk, rfl, hz⟩ := hrel
        by_cases hlt : k < 32 - m
        · have hck := HC.out (m + k) (by omega)
          go_wp2
          · go_ret
            exact ⟨ret_bool (no_right h0 (by omega) hlt ‹_›).symm, hb⟩
          · go_round
            case rel => exact ⟨k + 1, by omega, by go_num, fun j hj => by
              rcases Nat.lt_or_ge j k with h3 | h3
              · exact hz.out j h3
              · obtain rfl : j = k := by omega
                simpa using ‹(bitI a ((m + j : Nat) : Int) != 0) = false›⟩
            case measure => simp [intOf]; omega
        · obtain rfl : k = 32 - m := by omega
          have E := Lib.hid (yes_right (m := m) h0 (by omega) hz.out)
          clear hz
          go_wp2
          go_ret
          exact ⟨ret_bool E.out.symm, hb⟩
  · have E := Lib.hid (rightB_out (a := a) (n := n) (.inr (by omega)))
    go_enter Try.func19, Try.ntmps19
    go_wp2
    go_ret
    exact ⟨ret_bool E.out.symm, below_same _⟩

/-! ### Has, Covers -/
theorem no_has {a x : Int} {m k : Nat} (h0 : 0 ≤ a) (h : a < 4294967296) (k0 : 0 ≤ x) (k1 : x < 4294967296) (hm : m ≤ 32) (hr : rightB a m = true) (hk : k < m) (hne : (bitI a (k : Int) != bitI x (k : Int)) = true) : hasB a m x = false := by
  cases hh : hasB a m x
  · rfl
  · have := (has_bits a x m h0 h k0 k1 hm hr).1 hh k hk
    rw [this] at hne; simp at hne

set_option maxRecDepth 100000 in
set_option maxHeartbeats 800000 in
theorem ref_Has (a n x : Int) (w : World) (h0 : 0 ≤ a) (h : a < 4294967296) (k0 : 0 ≤ x) (k1 : x < 4294967296) :
    Calls Try.prog 20 #[.int .u32 a, .int .i64 n, .int .u32 x] w fun e w' => e = .returned (.bool (hasB a n x)) ∧ Below w.heap.size w w' := by
  cases hR : rightB a n
  · have E : Hid (hasB a n x = false) := by unfold hasB; rw [hR]; rfl
    go_enter Try.func20, Try.ntmps20
    go_wp2_with (go_at_call 19; refine (ref_Right _ _ _ h0 h).mono ?_; rintro e w1 ⟨rfl, hb⟩)
    go_ret
    exact ⟨ret_bool E.out.symm, hb⟩
  · obtain ⟨n0, n1⟩ := rightB_range hR
    obtain ⟨m, rfl⟩ := Int.eq_ofNat_of_zero_le n0
    have hm : m ≤ 32 := by omega
    go_enter Try.func20, Try.ntmps20
    go_wp2_with fail
    refine (ref_Right _ _ _ h0 h).mono ?_
    rintro e w1 ⟨rfl, hb1⟩
    go_wp2_with fail
    refine (ref_Bits' _ _ h0 h).mono ?_
    rintro e w2 ⟨⟨g, cap, rfl, hcap, hg, hcs⟩, hb2⟩
    have HC := Lib.hid hcs
    have HB2 := below_on hb1 hb2
    clear hcs hb1 hb2
    go_wp2_with fail
    refine (ref_Bits' _ _ k0 k1).mono ?_
    rintro e w3 ⟨⟨g', cap', rfl, hcap', hg', hcs'⟩, hb3⟩
    have HC1 : Hid (∀ j : Nat, j < 32 → w3.cell? ⟨g, j, none⟩ = some (.int .i64 (bitI a j))) := fun j hj => cell_below (HC.out j hj) hb3
    have HC2 := Lib.hid hcs'
    have HB := below_on HB2 hb3
    clear hcs' HC HB2 hb3
    go_wp2_with fail
    go_loopw [9] (fun t wr => ∃ k : Nat, k ≤ m ∧ t = .int .i64 k ∧ Hid (∀ j : Nat, j < k → bitI a (j : Int) = bitI x (j : Int)) ∧ Below w3.heap.size w3 wr) (fun t _ => m - (intOf t).toNat)
    case atStart => exact ⟨0, by omega, rfl, fun j hj => by omega, below_same _⟩
    case round =>
      obtain ⟨k, hk, rfl, hz, hbr⟩ := hrel
      by_cases hlt : k < m
      · have c0 := cell_below (HC1.out k (by omega)) hbr
        have c1 := cell_below (HC2.out k (by omega)) hbr
        have hk32 : (k : Int) < 32 := by omega
        go_wp2_with fail
        refine wp_region_held_drew (S := fun w' => Below wr.heap.size wr w') (by kernel_rfl) ?_ (fun hHeld => ?_)
        · exact (Below.refl _ _).drew
        refine rg_yes (i := 0) (v := ?_) at0 (by kernel_rfl) (by kernel_rfl) (by kernel_rfl) (fun _ _ _ h => h) ?_ ?_ hHeld ?_; rotate_left 1; (· rfl); (· intro w' hSw; (try dsimp only at hSw); (try clear hHeld); go_simp; try with_reducible rfl)
        try simp only [Act.put, List.setIfInBounds_toArray, List.set_cons_zero, List.set_cons_succ]
        refine rg_yes (i := 1) (v := ?_) (atS at0) (by kernel_rfl) (by kernel_rfl) (by kernel_rfl) (fun _ _ _ h => h) ?_ ?_ hHeld ?_; rotate_left 1; (· rfl); (· intro w' hSw; (try dsimp only at hSw); (try clear hHeld); go_simp; try with_reducible rfl)
        try simp only [Act.put, List.setIfInBounds_toArray, List.set_cons_zero, List.set_cons_succ]
        refine rg_yes (i := 2) (v := ?_) (atS (atS at0)) (by kernel_rfl) (by kernel_rfl) (by kernel_rfl) (fun _ _ _ h => h) ?_ ?_ hHeld ?_; rotate_left 1; (· rfl); (· intro w' hSw; (try dsimp only at hSw); have c0 := cell_below c0 hSw; have c1 := cell_below c1 hSw; (try clear hHeld); go_simp; try with_reducible rfl)
        try simp only [Act.put, List.setIfInBounds_toArray, List.set_cons_zero, List.set_cons_succ]
        refine rg_yes (i := 3) (v := ?_) (atS (atS (atS at0))) (by kernel_rfl) (by kernel_rfl) (by kernel_rfl) (fun _ _ _ h => h) ?_ ?_ hHeld ?_; rotate_left 1; (· rfl); (· intro w' hSw; (try dsimp only at hSw); have c0 := cell_below c0 hSw; have c1 := cell_below c1 hSw; (try clear hHeld); go_simp; try with_reducible rfl)
        try simp only [Act.put, List.setIfInBounds_toArray, List.set_cons_zero, List.set_cons_succ]
        refine rg_yes (i := 4) (v := ?_) (atS (atS (atS (atS at0)))) (by kernel_rfl) (by kernel_rfl) (by kernel_rfl) (fun _ _ _ h => h) ?_ ?_ hHeld ?_; rotate_left 1; (· rfl); (· intro w' hSw; (try dsimp only at hSw); (try clear hHeld); go_simp; try with_reducible rfl)
        try simp only [Act.put, List.setIfInBounds_toArray, List.set_cons_zero, List.set_cons_succ]
        refine rg_yes (i := 5) (v := ?_) (atS (atS (atS (atS (atS at0))))) (by kernel_rfl) (by kernel_rfl) (by kernel_rfl) (fun _ _ _ h => h) ?_ ?_ hHeld ?_; rotate_left 1; (· rfl); (· intro w' hSw; (try dsimp only at hSw); (try clear hHeld); go_simp; try with_reducible rfl)
        try simp only [Act.put, List.setIfInBounds_toArray, List.set_cons_zero, List.set_cons_succ]
        refine rg_yes (i := 6) (v := ?_) (atS (atS (atS (atS (atS (atS at0)))))) (by kernel_rfl) (by kernel_rfl) (by kernel_rfl) (fun _ _ _ h => h) ?_ ?_ hHeld ?_; rotate_left 1; (· rfl); (· intro w' hSw; (try dsimp only at hSw); have c0 := cell_below c0 hSw; have c1 := cell_below c1 hSw; (try clear hHeld); go_simp; try with_reducible rfl)
        try simp only [Act.put, List.setIfInBounds_toArray, List.set_cons_zero, List.set_cons_succ]
        refine rg_yes (i := 7) (v := ?_) (atS (atS (atS (atS (atS (atS (atS at0))))))) (by kernel_rfl) (by kernel_rfl) (by kernel_rfl) (fun _ _ _ h => h) ?_ ?_ hHeld ?_; rotate_left 1; (· rfl); (· intro w' hSw; (try dsimp only at hSw); have c0 := cell_below c0 hSw; have c1 := cell_below c1 hSw; (try clear hHeld); go_simp; try with_reducible rfl)
        try simp only [Act.put, List.setIfInBounds_toArray, List.set_cons_zero, List.set_cons_succ]
        refine rg_yes (i := 8) (v := ?_) (atS (atS (atS (atS (atS (atS (atS (atS at0)))))))) (by kernel_rfl) (by kernel_rfl) (by kernel_rfl) (fun _ _ _ h => h) ?_ ?_ hHeld ?_; rotate_left 1; (· rfl); (· intro w' hSw; (try dsimp only at hSw); (try clear hHeld); go_simp; try with_reducible rfl)
        try simp only [Act.put, List.setIfInBounds_toArray, List.set_cons_zero, List.set_cons_succ]
        refine wpAnyH_done (by kernel_rfl) ?_ _
        have hbr' := below_on hbr hHeld
        clear hHeld c0 c1
        go_wp2
        · have E := no_has h0 h k0 k1 hm hR hlt ‹_›
          go_ret
          exact ⟨ret_bool E.symm, below_on HB hbr'⟩
        · go_roundw
          case rel => exact ⟨k + 1, by omega, by go_num, fun j hj => by
            rcases Nat.lt_or_ge j k with h3 | h3
            · exact hz.out j h3
            · obtain rfl : j = k := by omega
              simpa using ‹(bitI a (j : Int) != bitI x (j : Int)) = false›, hbr'⟩
          case measure => simp [intOf]; omega
      · obtain rfl : k = m := by omega
        have E := Lib.hid ((has_bits a x k h0 h k0 k1 hm hR).2 hz.out)
        clear hz
        go_wp2
        go_ret
        exact ⟨ret_bool E.out.symm, below_on HB hbr⟩

set_option maxRecDepth 100000 in
set_option maxHeartbeats 400000 in
theorem ref_Covers (a n b m : Int) (w : World) (h0 : 0 ≤ a) (h : a < 4294967296) (k0 : 0 ≤ b) (k : b < 4294967296) :
    Calls Try.prog 43 #[.int .u32 a, .int .i64 n, .int .u32 b, .int .i64 m] w fun e w' => e = .returned (.bool (coversB a n b m)) ∧ Below w.heap.size w w' := by
  cases hR : rightB b m <;> by_cases hnm : n ≤ m
  all_goals
    have hC : Hid (coversB a n b m = (rightB b m && decide (n ≤ m) && hasB a n b)) := rfl
    go_enter Try.func43, Try.ntmps43
    go_wp2_with (first | (go_at_call 19; refine (ref_Right _ _ _ k0 k).mono ?_; rintro e w1 ⟨rfl, hb⟩; have hB := hb; clear hb) | (go_at_call 20; refine (ref_Has _ _ _ _ h0 h k0 k).mono ?_; rintro e w1 ⟨rfl, hb⟩; have hB := below_on hB hb; clear hb))
    go_ret
    exact ⟨ret_bool (by rw [hC.out, hR]; first | (simp [hnm]; done) | (have hn : ¬ n ≤ m := (by omega); simp [hn])), hB⟩

/-! ### Num, Mask -/
end Go.Proofs.Ytaafeekkllomhaa
