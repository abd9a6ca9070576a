/- Texts of one proof, one behind another. -/
import Derived.Laws.BitsAllLaws
import Derived.IntWalk
import Derived.Test.YtadlecnlgkhneaaRu15
import Derived.Test.YtadlecnlgkhneaaRows
import Derived.Test.YtadlecnlgkhneaaRu1
import Derived.LoopTactic
import Derived.Test.YtadlecnlgkhneaaRu12
import Derived.Test.YtadlecnlgkhneaaRu17
import Derived.Deep.Cut
import Derived.Great.BuildSlice
import Derived.Test.YtadlecnlgkhneaaRu13
import Derived.Test.YtadlecnlgkhneaaRu14
/-
  PLAIN LAWS ON BITS OF WHOLE NUMBERS: an int under a mask of its lowest bits; two numbers laid side by side.
-/
namespace Go.Proofs.Ytadlecnlgkhneaa

theorem ofInt64_nat (x : Int) : (BitVec.ofInt 64 x).toNat = (x % 18446744073709551616).toNat := by
  rw [BitVec.toNat_ofInt]; rfl
/-- an int's lowest k bits: what is left by 2^k. -/
theorem and_low_i64 (x : Int) (k : Nat) (hk : k ≤ 62) : bits .and .i64 x ((2 ^ k - 1 : Nat) : Int) = x % ((2 ^ k : Nat) : Int) := by
  have hp : 0 < 2 ^ k := Nat.two_pow_pos k
  have hle : 2 ^ k ≤ 2 ^ 62 := Nat.pow_le_pow_right (by decide) hk
  show IntKind.i64.wrap ((BitVec.ofInt 64 x &&& BitVec.ofInt 64 ((2 ^ k - 1 : Nat) : Int)).toNat : Int) = _
  rw [BitVec.toNat_and, ofInt64_nat, ofInt64_nat]
  have e1 : ((((2 ^ k - 1 : Nat) : Int)) % 18446744073709551616).toNat = 2 ^ k - 1 := by omega
  rw [e1, Nat.and_two_pow_sub_one_eq_mod]
  have hd : ((2 ^ k : Nat) : Int) ∣ 18446744073709551616 := by
    refine ⟨((2 ^ (64 - k) : Nat) : Int), ?_⟩
    rw [← Int.natCast_mul, ← Nat.pow_add, show k + (64 - k) = 64 by omega]
    decide
  have h0 : 0 ≤ x % 18446744073709551616 := Int.emod_nonneg _ (by decide)
  have e2 : (((x % 18446744073709551616).toNat % 2 ^ k : Nat) : Int) = x % ((2 ^ k : Nat) : Int) := by
    rw [Int.natCast_emod, Int.toNat_of_nonneg h0, Int.emod_emod_of_dvd _ hd]
  rw [e2]
  have h1 := Int.emod_nonneg x (show ((2 ^ k : Nat) : Int) ≠ 0 by omega)
  have h2 := Int.emod_lt_of_pos x (show (0 : Int) < ((2 ^ k : Nat) : Int) by omega)
  exact IntWalk.i64_in _ (by omega)
theorem and_15 (x : Int) : bits .and .i64 x 15 = x % 16 := and_low_i64 x 4 (by decide)
theorem and_31 (x : Int) : bits .and .i64 x 31 = x % 32 := and_low_i64 x 5 (by decide)
theorem and_63 (x : Int) : bits .and .i64 x 63 = x % 64 := and_low_i64 x 6 (by decide)
theorem and_255 (x : Int) : bits .and .i64 x 255 = x % 256 := and_low_i64 x 8 (by decide)
theorem and_1023 (x : Int) : bits .and .i64 x 1023 = x % 1024 := and_low_i64 x 10 (by decide)
theorem and_65535 (x : Int) : bits .and .i64 x 65535 = x % 65536 := and_low_i64 x 16 (by decide)
/-- two numbers of 16 bits side by side. -/
theorem or_side (h l : Int) (h0 : 0 ≤ h) (h1 : h < 65536) (l0 : 0 ≤ l) (l1 : l < 65536) : bits .or .i64 (h * 65536) l = h * 65536 + l := by
  obtain ⟨x, rfl⟩ := Int.eq_ofNat_of_zero_le h0
  obtain ⟨y, rfl⟩ := Int.eq_ofNat_of_zero_le l0
  show IntKind.i64.wrap ((BitVec.ofInt 64 ((x : Int) * 65536) ||| BitVec.ofInt 64 (y : Int)).toNat : Int) = _
  rw [BitVec.toNat_or, ofInt64_nat, ofInt64_nat]
  have e1 : (((x : Int) * 65536) % 18446744073709551616).toNat = 2 ^ 16 * x := by omega
  have e2 : (((y : Int)) % 18446744073709551616).toNat = y := by omega
  rw [e1, e2, ← Nat.two_pow_add_eq_or_of_lt (by omega)]
  rw [IntWalk.i64_in _ (by omega)]
  omega
end Go.Proofs.Ytadlecnlgkhneaa

/-
  The laws on adj: which messages are let go.
-/
namespace Go.Proofs.Ytadlecnlgkhneaa
open Go.RowKit

def bigB (m : MV) : Bool := (((decide ((m.gn : Int) > 20) || decide ((m.nn : Int) > 20)) || decide ((m.a.pn : Int) > 6)) || decide ((m.a.cn : Int) > 40)) || decide ((m.a.on : Int) > 5)
theorem big_is {m : MV} {c1 c2 c3 c4 c5 : Bool} (h1 : decide ((m.gn : Int) > 20) = c1) (h2 : decide ((m.nn : Int) > 20) = c2) (h3 : decide ((m.a.pn : Int) > 6) = c3) (h4 : decide ((m.a.cn : Int) > 40) = c4) (h5 : decide ((m.a.on : Int) > 5) = c5) : bigB m = ((((c1 || c2) || c3) || c4) || c5) := by
  unfold bigB
  rw [h1, h2, h3, h4, h5]
set_option maxHeartbeats 1600000 in
set_option maxRecDepth 100000 in
theorem l_big (m : MV) (w : World) : Calls Try.prog 12 #[m.V] w fun e w' => e = .returned (.bool (bigB m)) ∧ Below w.heap.size w w' := by
  have HB := Lib.hid (fun c1 c2 c3 c4 c5 => big_is (m := m) (c1 := c1) (c2 := c2) (c3 := c3) (c4 := c4) (c5 := c5))
  generalize bigB m = z at HB ⊢
  go_enter Try.func12, Try.ntmps12
  go_upto_region 1 with (fail)
  obtain ⟨W0, hW0, q0, hb0, -⟩ := box1 w m.C 43
  rw [← hW0]
  clear hW0
  have k5 : W0.cell? ⟨w.heap.size, 5, none⟩ = some (.slice m.gs m.gn m.gc) := row_cell q0 5
  have k16 : W0.cell? ⟨w.heap.size, 16, none⟩ = some (.slice m.ns m.nn m.nc) := row_cell q0 16
  have k8 : W0.cell? ⟨w.heap.size, 8, none⟩ = some (.slice m.a.ps m.a.pn m.a.pc) := row_cell q0 8
  have k14 : W0.cell? ⟨w.heap.size, 14, none⟩ = some (.slice m.a.cs m.a.cn m.a.cc) := row_cell q0 14
  have k15 : W0.cell? ⟨w.heap.size, 15, none⟩ = some (.slice m.a.os m.a.on m.a.oc) := row_cell q0 15
  have B0 := Lib.hid hb0
  clear q0 hb0
  rcases hc1 : decide ((m.gn : Int) > 20) with _ | _
  · rcases hc2 : decide ((m.nn : Int) > 20) with _ | _
    · rcases hc3 : decide ((m.a.pn : Int) > 6) with _ | _
      · rcases hc4 : decide ((m.a.cn : Int) > 40) with _ | _
        · rcases hc5 : decide ((m.a.on : Int) > 5) with _ | _
          · have Z := Lib.hid (HB.out _ _ _ _ _ hc1 hc2 hc3 hc4 hc5)
            go_wp2_with fail
            go_ret
            exact ⟨ret_bool Z.out.symm, B0.out⟩
          · have Z := Lib.hid (HB.out _ _ _ _ _ hc1 hc2 hc3 hc4 hc5)
            go_wp2_with fail
            go_ret
            exact ⟨ret_bool Z.out.symm, B0.out⟩
        · have Z : Hid (z = true) := Lib.hid (by have := HB.out _ _ _ _ _ hc1 hc2 hc3 hc4 rfl; simpa using this)
          go_wp2_with fail
          go_ret
          exact ⟨ret_bool Z.out.symm, B0.out⟩
      · have Z : Hid (z = true) := Lib.hid (by have := HB.out _ _ _ _ _ hc1 hc2 hc3 rfl rfl; simpa using this)
        go_wp2_with fail
        go_ret
        exact ⟨ret_bool Z.out.symm, B0.out⟩
    · have Z : Hid (z = true) := Lib.hid (by have := HB.out _ _ _ _ _ hc1 hc2 rfl rfl rfl; simpa using this)
      go_wp2_with fail
      go_ret
      exact ⟨ret_bool Z.out.symm, B0.out⟩
  · have Z : Hid (z = true) := Lib.hid (by have := HB.out _ _ _ _ _ hc1 rfl rfl rfl rfl; simpa using this)
    go_wp2_with fail
    go_ret
    exact ⟨ret_bool Z.out.symm, B0.out⟩
end Go.Proofs.Ytadlecnlgkhneaa

/-
  THE REFERENCE FOR PACKAGE ip (carrefourref01): which prefixes are in their form.
-/
namespace Go.Proofs.Ytadlecnlgkhneaa
open Go.RowKit

theorem infoI_int : (Try.prog.info? 3).map (fun i => (i.zero, i.size, i.bytes)) = some (some (.int .i64 0), 1, 8) := by kernel_rfl

/-- a slice literal of one cell. -/
theorem ownsRow_lit1 (w : World) (x : Value) (e : TypeId) (B : Nat) (hB : B ≤ w.heap.size) : (w.alloc (.cells #[x] e)).ownsRow B e 1 (.slice (some ⟨w.heap.size, 0, none⟩) 1 1) 1 [x] :=
  ⟨rfl, .inr ⟨w.heap.size, 1, #[x], rfl, hB, heap_alloc_new w _, Nat.le_refl _, by decide, rfl, rfl⟩⟩

/-- the last k bits of an address, as values. -/
def bitsL (a : Int) (k : Nat) : List Value := (List.range k).map fun (j : Nat) => .int .i64 (bitI a (32 - (k : Int) + (j : Int)))
theorem bitsL_len (a : Int) (k : Nat) : (bitsL a k).length = k := by simp [bitsL]
theorem bitsL_succ (a : Int) (k : Nat) : [Value.int .i64 (bitI a (31 - (k : Int)))] ++ bitsL a k = bitsL a (k + 1) := by
  unfold bitsL
  rw [List.range_succ_eq_map, List.map_cons, List.map_map]
  simp only [List.singleton_append, List.cons.injEq]
  refine ⟨by congr 2; omega, ?_⟩
  apply List.map_congr_left
  intro j _
  simp only [Function.comp_apply]
  congr 2; omega
theorem bit_mod (a : Int) (k : Nat) (hk : k < 32) : a / 2 ^ k % 2 = bitI a (31 - (k : Int)) := by
  unfold bitI
  rw [if_pos (by omega)]
  have e : (31 - (31 - (k : Int))).toNat = k := by omega
  rw [e]
theorem div_pow_succ (a : Int) (k : Nat) : a / 2 ^ k / 2 = a / 2 ^ (k + 1) := by
  rw [Int.pow_succ, Int.ediv_ediv_of_nonneg (Int.le_of_lt (pow_pos33 k))]

/-- a slice of the call's own: k integers, as a list of values says. -/
def OwnInts (w' : World) (B : Nat) (k : Nat) (L : List Value) (v : Value) : Prop := ∃ g cap, v = .slice (some ⟨g, 0, none⟩) k cap ∧ B ≤ g ∧ w'.ownsRow B 3 1 v k L

theorem ownI_form {w' : World} {B k : Nat} {L : List Value} {v : Value} (hk : 0 < k) (h : w'.ownsRow B 3 1 v k L) : ∃ g cap, v = .slice (some ⟨g, 0, none⟩) k cap ∧ B ≤ g ∧ w'.ownsRow B 3 1 v k L := by
  have h' := h
  obtain ⟨_, ⟨_, h0⟩ | ⟨g, cap, cur, rfl, hg, _⟩⟩ := h
  · omega
  · exact ⟨g, cap, rfl, hg, h'⟩
theorem bitsL_one (a : Int) (k : Nat) : ∀ u ∈ bitsL a k, u.oneCell' = true := by
  intro u hu
  simp only [bitsL, List.mem_map] at hu
  obtain ⟨j, _, rfl⟩ := hu
  rfl
theorem bitsL_step (a : Int) (k : Nat) {w' : World} {B : Nat} {v : Value} : w'.ownsRow B 3 1 v (1 + k) (Value.int .i64 (bitI a (31 - (k : Int))) :: bitsL a k) = w'.ownsRow B 3 1 v (k + 1) (bitsL a (k + 1)) := by
  rw [← bitsL_succ, Nat.add_comm]; rfl

set_option maxRecDepth 100000 in
set_option maxHeartbeats 400000 in
theorem ref_Bits (a : Int) (w : World) (h0 : 0 ≤ a) (h : a < 4294967296) :
    Calls Try.prog 51 #[.int .u32 a] w fun e w' => (∃ v, e = .returned v ∧ OwnInts w' w.heap.size 32 (bitsL a 32) v) ∧ Below w.heap.size w w' := by
  obtain ⟨i0, hi, hz0, hz1, hz2⟩ := info_parts infoI_int
  have hdp := div_pow_succ a
  have HD := Lib.hid hdp; clear hdp
  have hbm := bit_mod a
  have HB := Lib.hid hbm; clear hbm
  go_enter Try.func51, Try.ntmps51
  go_wp2
  go_loopw [0, 3, 4] (fun x v i wr => ∃ k : Nat, k ≤ 32 ∧ i = .int .i64 k ∧ x = .int .u32 (a / 2 ^ k) ∧ OwnInts wr w.heap.size k (bitsL a k) v ∧ Below w.heap.size w wr) (fun _ _ i _ => 32 - (intOf i).toNat)
  case atStart =>
    refine ⟨0, by omega, rfl, by simp, ⟨w.heap.size, 0, rfl, Nat.le_refl _, ?_⟩, (Below.refl _ _).alloc (Nat.le_refl _) _⟩
    exact World.ownsRow_made w #[] 0 (Nat.le_refl _) (by decide) rfl
  case round =>
    obtain ⟨k, hk, rfl, rfl, ⟨g, cap, rfl, hg, hown⟩, hbel⟩ := hrel
    have hq0 : 0 ≤ a / 2 ^ k := Int.ediv_nonneg h0 (Int.le_of_lt (pow_pos33 k))
    have hq1 : a / 2 ^ k < 4294967296 := by have := Int.ediv_le_self (2 ^ k) h0; omega
    by_cases hlt : k < 32
    · have hsz : w.heap.size ≤ wr.heap.size := hbel.size
      have hcs : ∀ (j : Nat) u, (bitsL a k)[j]? = some u → (wr.alloc (.cells #[.int .i64 (a / 2 ^ k % 2)] 3)).cell? ((⟨g, 0, none⟩ : Addr).add j) = some u := (hown.alloc _).cells rfl
      go_wp2_with (at_builtin; refine wpList_append_own _ rfl _ _ 32 rfl w.heap.size 3 i0 (.int .i64 0) 1 8 Try.underlying32 hi hz0 hz1 hz2 rfl (by decide) _ 1 [.int .i64 (a / 2 ^ k % 2)] rfl (ownsRow_lit1 wr _ _ _ hsz) ⟨g, 0, none⟩ k cap (bitsL a k) rfl ?c1 ?c2 ?c3 ?c4 ?c5 ?c6 ?_)
      case c1 => simp [bitsL_len]
      case c2 => exact hcs
      case c3 => exact bitsL_one a k
      case c4 => unfold maxLen; omega
      case c5 => omega
      case c6 => simp; omega
      intro v' w1 hown' hgrow hne
      obtain ⟨g', cap', rfl, hg', hown''⟩ := ownI_form (k := k + 1) (by omega) (L := bitsL a (k + 1)) (by rw [HB.out k hlt, bitsL_step] at hown'; exact hown')
      have hbel' : Below w.heap.size w w1 := (hbel.alloc hsz _).grown hgrow (by simp; omega) (fun j hj => by simp [Value.ownBlock] at hj; omega)
      clear hown hown' hgrow hcs hbel hne
      go_wp2
      go_roundw
      case rel => exact ⟨k + 1, by omega, by go_num, by rw [HD.out], ⟨g', cap', rfl, hg', hown''⟩, hbel'⟩
      case measure => simp [intOf]; omega
    · obtain rfl : k = 32 := by omega
      go_wp2
      go_ret
      exact ⟨⟨_, rfl, ⟨g, cap, rfl, hg, hown⟩⟩, hbel⟩

theorem add_at (g j : Nat) : (⟨g, 0, none⟩ : Addr).add j = ⟨g, j, none⟩ := by
  unfold Addr.add; split <;> simp_all
/-- the 32 bits of an address, in memory of the call's own. -/
def BitsPost (a : Int) (w : World) (e : Ending) (w' : World) : Prop := ∃ g cap, e = .returned (.slice (some ⟨g, 0, none⟩) 32 cap) ∧ (32 ≤ cap ∧ cap ≤ maxLen) ∧ w.heap.size ≤ g ∧ ∀ j : Nat, j < 32 → w'.cell? ⟨g, j, none⟩ = some (.int .i64 (bitI a j))
theorem bitsL_at (a : Int) (j : Nat) (hj : j < 32) : (bitsL a 32)[j]? = some (.int .i64 (bitI a j)) := by
  unfold bitsL
  rw [List.getElem?_map, List.getElem?_range hj]
  simp
theorem ref_Bits' (a : Int) (w : World) (h0 : 0 ≤ a) (h : a < 4294967296) :
    Calls Try.prog 51 #[.int .u32 a] w fun e w' => BitsPost a w e w' ∧ Below w.heap.size w w' :=
  (ref_Bits a w h0 h).mono fun e w' ⟨⟨v, he, g, cap, hv, hg, hown⟩, hb⟩ => ⟨⟨g, cap, by rw [he, hv], by
    obtain ⟨_, ⟨_, h0⟩ | ⟨g', cap', cur, hv', _, _, h1, h2, _⟩⟩ := hown
    · omega
    · rw [hv] at hv'
      simp only [Value.slice.injEq] at hv'
      omega, hg, fun j hj => by
      have := hown.cells (g := g) (by rw [hv]; rfl) j _ (bitsL_at a j hj)
      rw [add_at] at this
      exact this⟩, hb⟩

/-! ### Right: are all bits behind the first n nought? -/
theorem no_right {a : Int} {m k : Nat} (h0 : 0 ≤ a) (hm : m ≤ 32) (hk : k < 32 - m) (h : (bitI a ((m + k : Nat) : Int) != 0) = true) : rightB a m = false := by
  cases hr : rightB a m
  · rfl
  · have := (right_bits a m h0 hm).1 hr (m + k) (by omega) (by omega)
    rw [this] at h; simp at h
theorem yes_right {a : Int} {m : Nat} (h0 : 0 ≤ a) (hm : m ≤ 32) (h : ∀ j : Nat, j < 32 - m → bitI a ((m + j : Nat) : Int) = 0) : rightB a m = true :=
  (right_bits a m h0 hm).2 (fun j hj hj' => by have := h (j - m) (by omega); rwa [show m + (j - m) = j by omega] at this)

set_option maxRecDepth 100000 in
set_option maxHeartbeats 400000 in
theorem ref_Right (a n : Int) (w : World) (h0 : 0 ≤ a) (h : a < 4294967296) :
    Calls Try.prog 20 #[.int .u32 a, .int .i64 n] w fun e w' => e = .returned (.bool (rightB a n)) ∧ Below w.heap.size w w' := by
  by_cases h1 : n < 0
  · have E := Lib.hid (rightB_out (a := a) (.inl h1))
    go_enter Try.func20, Try.ntmps20
    go_wp2
    go_ret
    exact ⟨ret_bool E.out.symm, below_same _⟩
  by_cases h2 : n ≤ 32
  · obtain ⟨m, rfl⟩ := Int.eq_ofNat_of_zero_le (a := n) (by omega)
    go_enter Try.func20, Try.ntmps20
    go_wp2_with (go_at_call 51; refine (ref_Bits' _ _ h0 h).mono ?_; rintro e w1 ⟨⟨g, cap, rfl, hcap, hg, hcs⟩, hb⟩)
    · have h32 : m = 32 := by omega
      subst h32
      have E := Lib.hid (yes_right (m := 32) h0 (by omega) (fun j hj => by omega))
      go_loop [18] (fun t => t = .int .i64 0) (fun _ => 0)
      case atStart => rfl
      case round =>
        subst hrel
        go_wp2
        go_ret
        exact ⟨ret_bool E.out.symm, hb⟩
    · have HC := Lib.hid hcs
      clear hcs
      go_loop [18] (fun t => ∃ k : Nat, k ≤ 32 - m ∧ t = .int .i64 k ∧ Hid (∀ j : Nat, j < k → bitI a ((m + j : Nat) : Int) = 0)) (fun t => 32 - m - (intOf t).toNat)
      case atStart => exact ⟨0, by omega, rfl, fun j hj => by omega⟩
      case round =>
        obtain ⟨k, hk, rfl, hz⟩ := hrel
        by_cases hlt : k < 32 - m
        · have hck := HC.out (m + k) (by omega)
          go_wp2
          · go_ret
            exact ⟨ret_bool (no_right h0 (by omega) hlt ‹_›).symm, hb⟩
          · go_round
            case rel => exact ⟨k + 1, by omega, by go_num, fun j hj => by
              rcases Nat.lt_or_ge j k with h3 | h3
              · exact hz.out j h3
              · obtain rfl : j = k := by omega
                simpa using ‹(bitI a ((m + j : Nat) : Int) != 0) = false›⟩
            case measure => simp [intOf]; omega
        · obtain rfl : k = 32 - m := by omega
          have E := Lib.hid (yes_right (m := m) h0 (by omega) hz.out)
          clear hz
          go_wp2
          go_ret
          exact ⟨ret_bool E.out.symm, hb⟩
  · have E := Lib.hid (rightB_out (a := a) (n := n) (.inr (by omega)))
    go_enter Try.func20, Try.ntmps20
    go_wp2
    go_ret
    exact ⟨ret_bool E.out.symm, below_same _⟩

end Go.Proofs.Ytadlecnlgkhneaa

/-
  WHATEVER A PEER SAYS (AdjRuns): what holds on the way: a rib of the law's own, and the law's list.
-/
namespace Go.Proofs.Ytadlecnlgkhneaa
open Go.RowKit

/-- the rib, and the law's list beside it. -/
structure LS (w W : World) (rb : Nat) (peer own most : Int) (R : Rts) (F : Nat → Prop) (v : Value) (xs : List RO) : Prop where
  lr : LR w W rb peer own most R F
  rows : On (fun k => ¬ F k ∧ k < W.heap.size) W (fun W => RwAt W v xs)
section
variable {w W W' : World} {rb : Nat} {peer own most : Int} {R R' : Rts} {F F' : Nat → Prop} {v v' : Value} {xs xs' : List RO}
theorem LS.below (h : LS w W rb peer own most R F v xs) (hb : Below W.heap.size W W') : LS w W' rb peer own most R F v xs :=
  ⟨h.lr.below hb, (h.rows.below hb).wide fun _ hk _ => ⟨hk.1, Nat.lt_of_lt_of_le hk.2 hb.size⟩⟩
theorem LS.at (h : LS w W rb peer own most R F v xs) : RwAt W v xs := h.rows.self
theorem LS.bel (h : LS w W rb peer own most R F v xs) : Below w.heap.size w W := h.lr.bel
/-- the rib has turned. -/
theorem LS.rib (h : LS w W rb peer own most R F v xs) (hk : Kept F W W') (hl : LR w W' rb peer own most R' F') (hF : ∀ k, F' k → F k ∨ W.heap.size ≤ k) : LS w W' rb peer own most R' F' v xs := by
  refine ⟨hl, (h.rows.kept hk fun k _ ho hf => ho.1 hf).wide fun k hk' _ => ⟨fun hf => ?_, Nat.lt_of_lt_of_le hk'.2 hk.size⟩⟩
  rcases hF k hf with h1 | h1
  · exact hk'.1 h1
  · have := hk'.2; omega
/-- another list. -/
theorem LS.list (h : LS w W rb peer own most R F v xs) (ho : On (fun k => ¬ F k ∧ k < W.heap.size) W (fun W => RwAt W v' xs')) : LS w W rb peer own most R F v' xs' := ⟨h.lr, ho⟩
theorem LS.none (h : LS w W rb peer own most R F v xs) : LS w W rb peer own most R F (.slice none 0 0) [] := ⟨h.lr, fun _ _ => SlAt.nil⟩
/-- the rib has been cleared. -/
theorem LS.clr (h : LS w W rb peer own most R F v xs) (hk : Kept F W W') (hr : RibAt W' rb peer own most [] F') (hF : ∀ k, F' k → F k ∨ (W.heap.size ≤ k ∧ k < W'.heap.size)) : LS w W' rb peer own most [] F' v xs := by
  refine h.rib hk ⟨hr, ?_, ?_, h.lr.bel.trans (hk.below h.lr.bel.size h.lr.fw)⟩ fun k hk => (hF k hk).imp_right fun h => h.1
  · intro k hf
    rcases hF k hf with h1 | h1
    · exact h.lr.fw k h1
    · have := h.lr.bel.size; omega
  · intro k hf
    rcases hF k hf with h1 | h1
    · exact Nat.lt_of_lt_of_le (h.lr.flt k h1) hk.size
    · exact h1.2
/-- memory of the law's own, made behind a world: none of it is the rib's. -/
theorem on_fresh {B : Nat} {Q : World → Prop} (hB : ∀ k, F k → k < B) (hf : On (fun k => B ≤ k) W Q) : On (fun k => ¬ F k ∧ k < W.heap.size) W Q :=
  hf.wide fun k hk hl => ⟨fun hF => by have := hB k hF; omega, hl⟩
end
/-- rows of the law's own, new: what they hang on. -/
theorem on_rows {F : Nat → Prop} {W : World} {B : Nat} {v : Value} {ys : List RO} (ho : OwnRw W B v ys) (hB : ∀ q, F q → q < B) (hx : On (fun q => ¬ F q ∧ q < W.heap.size) W (fun W => ∀ x ∈ ys, OkP x.p ∧ AvAt W x.a x.v ∧ AtSz x.a)) : On (fun q => ¬ F q ∧ q < W.heap.size) W (fun W => RwAt W v ys) := by
  have h1 := (own_on ho).wide (G := fun q => ¬ F q ∧ q < W.heap.size) fun q hq hl => ⟨fun hf => by have := hB q hf; have := own_form_le ho q hq; omega, hl⟩
  exact (h1.and hx).imp fun W h => OwnRw.at h.1 h.2
theorem on_mem {G : Nat → Prop} {W : World} {v : Value} {ys zs : List RO} (h : On G W (fun W => RwAt W v ys)) (hs : ∀ x ∈ zs, x ∈ ys) : On G W (fun W => ∀ x ∈ zs, OkP x.p ∧ AvAt W x.a x.v ∧ AtSz x.a) := h.imp fun _ hr x hx => rw_mem hr x (hs x hx)
theorem on_below {F : Nat → Prop} {W W' : World} {Q : World → Prop} (h : On (fun q => ¬ F q ∧ q < W.heap.size) W Q) (hb : Below W.heap.size W W') : On (fun q => ¬ F q ∧ q < W'.heap.size) W' Q := (h.below hb).wide fun _ hq _ => ⟨hq.1, Nat.lt_of_lt_of_le hq.2 hb.size⟩
theorem exec_built {P : Program} {oi : Oper} {ev : Operand → Value} {w : World} (t : TypeId) (parts : Array (Nat × Operand)) (ho : oi.op = .build t parts) (l : List (Nat × Value)) (hl : (parts.map fun (i, x) => (i, ev x)).toList = l) (cells : Array Value) (hc : P.built t l = some cells) : (execOp ev oi).run P w = .ok (.value (.agg cells)) w := by
  have hr := run_build (P := P) w t (parts.map fun (i, x) => (i, ev x)) cells (by rw [hl]; exact hc)
  unfold execOp
  simp only [ho, Sem.run_bind, hr, Sem.run_pure, Result.andThen_ok]
theorem exec_built2 {P : Program} {oi : Oper} {ev : Operand → Value} {w : World} (t : TypeId) (x0 x1 : Operand) (ho : oi.op = .build t #[(0, x0), (1, x1)]) (v0 v1 : Value) (h0 : ev x0 = v0) (h1 : ev x1 = v1) (cells : Array Value) (hc : P.built t [(0, v0), (1, v1)] = some cells) : (execOp ev oi).run P w = .ok (.value (.agg cells)) w :=
  exec_built t _ ho [(0, v0), (1, v1)] (by simp [h0, h1]) cells hc
theorem ro_built (p : Pf) (a : At) (v : AV) : Try.prog.built 66 [(0, .agg #[.int .u32 p.1, .int .i64 p.2]), (1, v.V)] = some (roA ⟨p, a, v⟩) := by kernel_rfl
theorem ro_one_k {W : World} {x : RO} {q : World → Prop} (h : ∀ w2 : World, (∀ (j : Nat) (u : Value), (roL x)[j]? = some u → w2.cell? ((⟨W.heap.size, 0, none⟩ : Addr).add j) = some u) → Below W.heap.size W w2 → q w2) : q (W.alloc (.cells (roA x) 66)) :=
  h _ (new_cells W _ _) ((Below.refl _ _).alloc (Nat.le_refl _) _)
/-- a whole slice of prefixes is appended to one's own, one step of a region. -/
theorem wp_appP {o : Oper} {a : Act} {K : Act → World → Prop} {Q : Exit → Act → World → Prop} {w : World} (s x : Operand)
    (ho : o.op = .call { callee := .builtin .append, args := #[s, x], argTypes := #[25, 25] })
    (B : Nat) (v u : Value) (xs ys zs : List Pf) (hz : zs = xs ++ ys) (hs : a.eval s = v) (hx : a.eval x = u) (hB : B ≤ w.heap.size) (hv : OwnPs w B v xs) (hu : PsAt w u ys) (hsz : xs.length + ys.length ≤ 8796093022208)
    (h : ∀ s' c' w', OwnPs w' B (.slice s' zs.length c') zs → Below B w w' → K (a.put o.dst (.slice s' zs.length c')) w') : o.wp Try.prog a w K Q := by
  subst hz
  obtain ⟨i0, hii, hz0, hz1, hz2⟩ := info_parts info_pref
  have hok := ps_ok hu
  obtain ⟨sa, cap, rfl, h1, h2⟩ := ps_cells hu
  have done : ∀ v' w', OwnPs w' B v' (xs ++ ys) → Below B w w' → K (a.put o.dst v') w' := fun v' w' h1 h2 => by
    obtain ⟨s', c', hv', -⟩ := own_form h1.1
    subst hv'
    exact h s' c' w' h1 h2
  cases sa with
  | none =>
    obtain rfl := h1 rfl
    have hr := run_append_noneP (P := Try.prog) (w := w) B 25 o.type 29 i0 2 cap Try.underlying25 hii v xs.length _ hv.1
    unfold Oper.wp execOp
    simp only [ho, resolve, invoke, builtin, Sem.run_bind, Sem.run_pure, Result.andThen_ok, List.map_toArray, List.map_cons, List.map_nil, hs, hx]
    rw [show (Value.slice none ([] : List Pf).length cap) = .slice none 0 cap from rfl, hr]
    exact done v w (by rw [List.append_nil]; exact hv) (Below.refl _ _)
  | some ad =>
    refine wp_append_own w s x 25 ho B 29 i0 _ 2 16 Try.underlying25 hii hz0 hz1 hz2 rfl (by decide) v xs.length _ hs hv.1 ad ys.length cap (ys.flatMap encP) hx (flat_len encP_len ys) (h2 ad rfl) (flat_one encP_one ys) (by unfold maxLen; omega) (by omega) hB ?_
    intro v' w' ho' hg _
    refine done v' w' ⟨?_, ?_⟩ ((Below.refl _ _).grown hg hB (fun k hk => own_form_le hv.1 k hk))
    · rw [List.length_append, List.flatMap_append]; exact ho'
    · intro p hp
      rcases List.mem_append.1 hp with hp | hp
      · exact hv.2 p hp
      · exact hok p hp
theorem rel_len_room {w : World} {rb : Nat} {peer own most : Int} {R L : Rts} {F : Nat → Prop} (h : RibAt w rb peer own most R F) (hr : Rel R L) : (L.length : Int) ≤ most ∧ most ≤ 256 ∧ 0 ≤ most := by
  obtain ⟨tb, N, E, hI, rfl⟩ := h
  rw [← hr.len]
  refine ⟨by simpa using hI.room, hI.most1, hI.most0⟩
end Go.Proofs.Ytadlecnlgkhneaa

/-
  A LOOP IN A FUNCTION OF MANY SLOTS: what the body writes is one function of the slots' numbers, not a variable each.
-/
namespace Go.Proofs.Ytadlecnlgkhneaa
open Go.RowKit

/-- the slots of a frame, by number. -/
def slotsOf (a : Act) (k : Nat) : Value := a.tmps.getD k undef
/-- where a round ends: the frame is of the form, the relation holds, the measure has fallen. -/
structure Nx (F : (Nat → Value) → Act) (Rel : (Nat → Value) → World → Prop) (mu : (Nat → Value) → Nat) (n : Nat) (a : Act) (w : World) : Prop where
  frame : a = F (slotsOf a)
  rel : Rel (slotsOf a) w
  less : mu (slotsOf a) < n
theorem wp_loop_at {P : Program} {c : Code} {Q : Exit → Act → World → Prop} {a : Act} {w : World} (F : (Nat → Value) → Act) (Rel : (Nat → Value) → World → Prop) (mu : (Nat → Value) → Nat)
    (h0 : a = F (slotsOf a)) (hr : Rel (slotsOf a) w) (round : ∀ (u : Nat → Value) (wr : World), Rel (slotsOf (F u)) wr → c.wp P (Exit.then (Nx F Rel mu (mu (slotsOf (F u)))) Q) (F u) wr) : (Code.loop c).wp P Q a w := by
  refine wp_loop (fun a w => a = F (slotsOf a) ∧ Rel (slotsOf a) w) (fun a _ => mu (slotsOf a)) ⟨h0, hr⟩ ?_
  rintro a' w' ⟨h1, h2⟩
  have h := round (slotsOf a') w' (by rw [← h1]; exact h2)
  rw [← h1] at h
  refine Code.wp_mono ?_ h
  intro e a2 w2 q
  cases e <;> first | exact q | exact ⟨⟨q.frame, q.rel⟩, q.less⟩
end Go.Proofs.Ytadlecnlgkhneaa

/-
  ADJRUNS: a cut in a function of many slots; what the counts come to; where a row stands.
-/
namespace Go.Proofs.Ytadlecnlgkhneaa
open Go.RowKit

theorem wp_cut_at {P : Program} {s : Code} {K : Act → World → Prop} {Q' : Exit → Act → World → Prop} {a : Act} {w : World} (F : (Nat → Value) → Act) (R : (Nat → Value) → World → Prop)
    (rest : ∀ (u : Nat → Value) (wc : World), R u wc → K (F u) wc)
    (first : ∀ K' : Act → World → Prop, (∀ a' w', a' = F (slotsOf a') → R (slotsOf a') w' → K' a' w') → s.wp P (Exit.then K' Q') a w) : s.wp P (Exit.then K Q') a w := by
  refine wp_cut (fun a w => a = F (slotsOf a) ∧ R (slotsOf a) w) ?_ ?_
  · rintro a' w' ⟨h1, h2⟩
    rw [h1]; exact rest _ _ h2
  · intro J K' h1 h2
    exact first K' fun a' w' e r => h2 _ _ (Met.intro (h1 _ _ ⟨e, r⟩))
theorem updl_no {own most : Int} {L R : Rts} {gone nets : List Pf} {a : At} (h : rights (gone ++ nets) = false) : updLaw own most L R gone nets a = (1, [], R, L) := by unfold updLaw; rw [h]; rfl
theorem updl_big {own most : Int} {L R : Rts} {gone nets : List Pf} {a : At} (h : rights (gone ++ nets) = true) (h2 : ((nextLw own L gone nets a).length : Int) > most) : updLaw own most L R gone nets a = (32, [], R, L) := by unfold updLaw; rw [h, if_pos rfl, if_pos h2]
theorem updl_ok {own most : Int} {L R : Rts} {gone nets : List Pf} {a : At} (h : rights (gone ++ nets) = true) (h2 : ¬ ((nextLw own L gone nets a).length : Int) > most) : updLaw own most L R gone nets a = (0, (saidP gone nets).filter (turnB R (netsP own nets a) a), ribN own R gone nets a, nextLw own L gone nets a) := by unfold updLaw; rw [h, if_pos rfl, if_neg h2]
theorem ro_box (W : World) (x : RO) : ∃ w2 : World, w2 = W.alloc (.cells (roA x) 66) ∧ (∀ (j : Nat) (u : Value), (roL x)[j]? = some u → w2.cell? ((⟨W.heap.size, 0, none⟩ : Addr).add j) = some u) ∧ Below W.heap.size W w2 :=
  ⟨_, rfl, new_cells W _ _, (Below.refl _ _).alloc (Nat.le_refl _) _⟩
theorem app_short {n k m : Nat} (h : n ≤ 256 + k) (hm : m ≤ 20) (hk : k ≤ m) : n + 1 ≤ maxLen := by unfold maxLen; omega
theorem app_bytes {n k m : Nat} (h : n ≤ 256 + k) (hm : m ≤ 20) (hk : k ≤ m) : (n + 1) * 144 ≤ 140737488355328 := by omega
/-- a row of its own, for an append: go_simp's own proof of it is too large for the kernel at 421 slots. -/
theorem wp_row1 {o : Oper} {a : Act} {w : World} {K : Act → World → Prop} {Q : Exit → Act → World → Prop} (x : Operand) (ho : o.op = .buildSlice 61 1 #[(0, x)]) (y : RO) (hx : a.eval x = .agg (roA y))
    (h : ∀ w2 : World, (∀ (j : Nat) (u : Value), (roL y)[j]? = some u → w2.cell? ((⟨w.heap.size, 0, none⟩ : Addr).add j) = some u) → Below w.heap.size w w2 → K (a.put o.dst (.slice (some ⟨w.heap.size, 0, none⟩) 1 1)) w2) : o.wp Try.prog a w K Q := by
  obtain ⟨i0, hii, hz0, hz1, hz2⟩ := info_parts info_row
  refine wp_buildSlice 61 66 1 _ ho (roA y) i0 _ Try.underlying61 hii hz0 (by rw [hz1]; decide) (by rw [hz1]; decide) ?_ (h _ (new_cells w _ _) ((Below.refl _ _).alloc (Nat.le_refl _) _))
  rw [hz1]
  simp only [List.map_toArray, List.map_cons, List.map_nil, hx]
  kernel_rfl
theorem kept_grownR {w w' : World} {r : Option Nat} (h : w.grownBy w' r) : Kept (fun b => r = some b) w w' := ⟨h.os, h.tape, h.output, h.size, fun k hk hF => h.block k hk (fun e => hF e.symm)⟩
theorem row_more {F : Nat → Prop} {v1 v3 wd wq wx w' : World} {ys : List RO} {p : Pf} {a : At} {cu : AV} {v0 vn : Value} (hF : ∀ q, F q → q < v1.heap.size)
    (RYA : On (fun q => ¬ F q ∧ q < v1.heap.size) v1 (fun W => ∀ x ∈ ys, OkP x.p ∧ AvAt W x.a x.v ∧ AtSz x.a)) (B13 : Below v1.heap.size v1 v3) (hH : Below v1.heap.size v3 w')
    (FR : Fresh wd.heap.size wq (fun W => AvAt W a cu)) (hX3 : Below v3.heap.size v3 wd) (hb2 : Below wq.heap.size wq wx) (hown : w'.ownsRow v1.heap.size 66 12 vn (ys.length + 1) (ys.flatMap roL ++ roL ⟨p, a, cu⟩))
    (hgrow : wx.grownBy w' v0.ownBlock) (hv0 : ∀ g, v0.ownBlock = some g → g < v3.heap.size) (hok : OkP p) (hz : AtSz a) :
    On (fun q => ¬ F q ∧ q < w'.heap.size) w' (fun W => RwAt W vn (ys ++ [⟨p, a, cu⟩])) := by
  have s3 := hX3.size
  have s1 := B13.size
  have sz := hH.size
  refine on_rows (ownRw_snoc hown) hF ?_
  have h1 := (RYA.below (B13.trans hH)).wide (G := fun q => ¬ F q ∧ q < w'.heap.size) fun q hq _ => ⟨hq.1, by have := hq.2; omega⟩
  have h2 := ((FR.below hb2).kept (kept_grownR hgrow) fun k _ hk hg => by have := hv0 k hg; omega).wide (G := fun q => ¬ F q ∧ q < w'.heap.size) fun q hq hl => ⟨fun hf => by have := hF q hf; omega, hl⟩
  refine (h1.and h2).imp fun W h x hx => ?_
  rcases List.mem_append.1 hx with hx | hx
  · exact h.1 x hx
  · simp at hx; subst hx
    exact ⟨hok, h.2, hz⟩
theorem ro_snoc {ys : List RO} {p : Pf} {a : At} {cu : AV} {Q : Rts} (h : Q = delL (roR ys) p ++ if false then [] else [(p, a)]) : roR (keepRO p ys ++ [⟨p, a, cu⟩]) = Q := by
  rw [h, ← keep_rts]
  unfold roR
  rw [List.map_append]; rfl
theorem sz_avR : (Try.prog.info? 35).map (·.size) = some 10 := by kernel_rfl
theorem range_belowR {w w' : World} {b o : Nat} {cs : List Value} (h : w.rangeAt b o cs) (hb : Below w.heap.size w w') : w'.rangeAt b o cs := fun j v hv => cell_below (h j v hv) hb
theorem pcmp_lessR {p q : Pf} (h : plt p q) : decide (pcmp p q ≥ 0) = false := by
  have := pcmp_lt.2 h
  simp; omega
theorem slat_at {α : Type} {w : World} {q : Nat} {R : α → List Value → Prop} {s : Option Addr} {n c : Nat} {xs : List α} (h : SlAt w q R (.slice s n c) xs) {i : Nat} {x : α} (hx : xs[i]? = some x) : ∃ (g o : Nat) (cs : List Value), s = some ⟨g, o, none⟩ ∧ R x cs ∧ w.rangeAt g (o + i * q) cs := by
  obtain ⟨s', c', e, h1, h2, h3⟩ := h
  injection e with e _ _
  subst e
  have hi := (List.getElem?_eq_some_iff.1 hx).1
  obtain ⟨b, off, rfl, h4⟩ := h3 (by omega)
  obtain ⟨cs, -, hR, hc⟩ := h4 i x hx
  exact ⟨b, off, cs, rfl, hR, fun j v hv => hc j v hv⟩
theorem sz_rtR : (Try.prog.info? 48).map (·.size) = some 13 := by kernel_rfl
theorem re_at {W : World} {lo : Nat} {peer : Int} {R : List (Pf × At)} {s : Option Addr} {c : Nat} {vs : List RE} (h : REs W lo peer R (.slice s vs.length c) vs) {i : Nat} {x : RE} (hx : vs[i]? = some x) : ∃ g o, s = some ⟨g, o, none⟩ ∧ W.rangeAt g (o + i * 13) (rtL peer x) ∧ getL R x.p = some x.a ∧ OkP x.p ∧ AvAt W x.a x.v := by
  obtain ⟨g, o, cs, e, rfl, hr⟩ := slat_at (own_slat (C := rtL peer) (rtL_len peer) h.own) hx
  have hm := List.mem_of_getElem? hx
  exact ⟨g, o, e, hr, (h.has x hm).1, (h.has x hm).2, (h.ent x hm).2.2.self.at⟩
/-! ### counts -/
def gone1 (ys : List RO) (x : RO) : Bool := match getL (roR ys) x.p with | none => true | some b => !sameA b x.a
def cntG (xs ys : List RO) (k : Nat) : Nat := ((xs.take k).filter (gone1 ys)).length
def new1 (xs : List RO) (y : RO) : Bool := (getL (roR xs) y.p).isNone
def cntN (xs ys : List RO) (k : Nat) : Nat := ((ys.take k).filter (new1 xs)).length
theorem cntG_step {xs ys : List RO} {k : Nat} {x : RO} {c : Bool} (hx : xs[k]? = some x) (hc : gone1 ys x = c) : (cntG xs ys (k + 1) : Int) = (cntG xs ys k : Int) + (if c then 1 else 0) := by
  unfold cntG
  rw [take_snoc hx, List.filter_append, List.length_append]
  cases c <;> simp [hc]
theorem cntN_step {xs ys : List RO} {k : Nat} {x : RO} {c : Bool} (hx : ys[k]? = some x) (hc : new1 xs x = c) : (cntN xs ys (k + 1) : Int) = (cntN xs ys k : Int) + (if c then 1 else 0) := by
  unfold cntN
  rw [take_snoc hx, List.filter_append, List.length_append]
  cases c <;> simp [hc]
theorem cntG_le (xs ys : List RO) (k : Nat) : cntG xs ys k ≤ k := by
  unfold cntG
  have := List.length_filter_le (gone1 ys) (xs.take k)
  have : (xs.take k).length ≤ k := List.length_take_le ..
  omega
theorem cntN_le (xs ys : List RO) (k : Nat) : cntN xs ys k ≤ k := by
  unfold cntN
  have := List.length_filter_le (new1 xs) (ys.take k)
  have : (ys.take k).length ≤ k := List.length_take_le ..
  omega
theorem cnt_all (xs ys : List RO) : cntG xs ys xs.length + cntN xs ys ys.length = (goneC (roR xs) (roR ys)).length + (newC (roR xs) (roR ys)).length := by
  unfold cntG cntN goneC newC
  rw [List.take_length, List.take_length]
  unfold roR
  rw [List.filter_map, List.length_map, List.filter_map, List.length_map]
  rfl
/-- where a prefix stands. -/
theorem fnd_cases (xs : List RO) (p : Pf) : (getL (roR xs) p = none ∧ fndI (roR xs) p = -1) ∨ ∃ (k : Nat) (x : RO), xs[k]? = some x ∧ x.p = p ∧ getL (roR xs) p = some x.a ∧ fndI (roR xs) p = k := by
  rcases getL_findI (roR xs) p with ⟨h1, h2⟩ | ⟨k, a, h1, h2, h3⟩
  · exact .inl ⟨h1, by unfold fndI; rw [h2]⟩
  · right
    unfold roR at h2
    rw [List.getElem?_map] at h2
    cases hx : xs[k]? with
    | none => rw [hx] at h2; cases h2
    | some x =>
      rw [hx] at h2
      simp only [Option.map_some, Option.some.injEq, Prod.mk.injEq] at h2
      exact ⟨k, x, hx, h2.1, by rw [h3, h2.2], by unfold fndI; rw [h1]⟩
/-! ### parts of rows -/
theorem ro_range {W : World} {g o : Nat} {x : RO} (h : W.rangeAt g o (roL x)) : W.rangeAt g (o + 2) x.v.C.toList := by
  intro j v hv
  have hj : j < 10 := (List.getElem?_eq_some_iff.1 hv).1
  have := h (j + 2) v (by rw [← hv]; rfl)
  rw [show o + 2 + j = o + (j + 2) by omega]
  exact this
theorem ro_block {W : World} {b : Nat} {x : RO} (h : W.heap[b]? = some (.cells (roA x) 66 (0, 0))) : W.rangeAt b 2 x.v.C.toList := by
  intro j v hv
  have := row_cell h (j + 2)
  rw [show 2 + j = j + 2 by omega, this, ← Array.getElem?_toList]
  exact hv
theorem rt_block {W : World} {b : Nat} {peer : Int} {p : Pf} {v : AV} (h : W.heap[b]? = some (.cells (rtC peer p v) 48 (0, 0))) : W.rangeAt b 3 v.C.toList := by
  intro j u hv
  have := row_cell h (j + 3)
  rw [show 3 + j = j + 3 by omega, this, ← Array.getElem?_toList]
  exact hv
/-! ### what has turned -/
theorem turned_at {L N : Rts} {p : Pf} (h : match getL L p, getL N p with | none, none => False | some b, some c => c ≠ b | _, _ => True) {b c : Option At} (hb : getL L p = b) (hc : getL N p = c) : ¬ (b = none ∧ c = none) ∧ ∀ x y, b = some x → c = some y → sameA x y = false := by
  rw [hb, hc] at h
  refine ⟨?_, ?_⟩
  · rintro ⟨rfl, rfl⟩; exact h
  · rintro x y rfl rfl
    simp only at h
    cases hs : sameA x y with
    | false => rfl
    | true => exact absurd ((sameA_iff x y).1 hs).symm h
end Go.Proofs.Ytadlecnlgkhneaa

/-
  A RIB THAT IS NONE: it has nothing.
-/
namespace Go.Proofs.Ytadlecnlgkhneaa
open Go.RowKit

set_option maxHeartbeats 400000 in
set_option maxRecDepth 100000 in
theorem ad_All_nil (w : World) : Calls Try.prog 18 #[.pointer none] w fun e w' => e = .returned (.slice none 0 0) ∧ Below w.heap.size w w' := by
  go_enter Try.func18, Try.ntmps18
  go_wp2_with fail
  go_ret
  exact ⟨rfl, by first | exact Below.refl _ _ | exact (Below.refl _ _).alloc (Nat.le_refl _) _ | exact ((Below.refl _ _).alloc (Nat.le_refl _) _).alloc (by simp) _⟩
set_option maxHeartbeats 400000 in
set_option maxRecDepth 100000 in
theorem ad_Clear_nil (w : World) : Calls Try.prog 19 #[.pointer none] w fun e w' => e = .returned (.slice none 0 0) ∧ Below w.heap.size w w' := by
  go_enter Try.func19, Try.ntmps19
  go_wp2_with fail
  go_ret
  exact ⟨rfl, by first | exact Below.refl _ _ | exact (Below.refl _ _).alloc (Nat.le_refl _) _ | exact ((Below.refl _ _).alloc (Nat.le_refl _) _).alloc (by simp) _⟩
set_option maxHeartbeats 1600000 in
set_option maxRecDepth 100000 in
theorem ad_Get_nil (p : Pf) (w : World) : Calls Try.prog 14 #[.pointer none, .agg #[.int .u32 p.1, .int .i64 p.2]] w fun e w' => e = .returned (.tuple #[.agg (rtC 0 (0, 0) av0), .bool false]) ∧ Below w.heap.size w w' := by
  go_enter Try.func14, Try.ntmps14
  go_upto_region 1 with (fail)
  obtain ⟨W0, hW0, c0, c1, rz, hB⟩ := box_pr w p.1 p.2
  rw [← hW0]; clear hW0 c0 c1
  have RZ := Lib.hid rz
  have HB := Lib.hid hB
  clear rz hB
  go_wp2_with ((with_reducible refine halt_at (X := .store 48 (.tmp 4) (.tmp 10)) ?_ ?_); (· rfl))
  unfold Halt
  refine st_row rfl 48 (.tmp 4) (.tmp 10) rfl (w.heap.size + 1) rfl 48 (rtC 0 (0, 0) av0) (rtC 0 (0, 0) av0) rfl RZ.out (by kernel_rfl) rfl (rt_one _ _ _) ?_
  go_wp2_with fail
  refine bodyPost_ret (results_GetR _ _ (w.heap.size + 1) (rtC 0 (0, 0) av0) rfl false ?_ ?_ (setRow_heap _ _ _ _ _ _ RZ.out)) rfl ⟨rfl, below_setRow HB.out (Nat.le_succ _) _⟩ <;> rfl
end Go.Proofs.Ytadlecnlgkhneaa
