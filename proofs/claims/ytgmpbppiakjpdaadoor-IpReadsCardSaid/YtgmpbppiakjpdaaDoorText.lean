/-
  THE TEXT OF AN ADDRESS: four numbers with dots between.
-/
import Derived.Test.YtgmpbppiakjpdaaDoorShelf
import Derived.Test.YtgmpbppiakjpdaaDoorRgS
import Derived.Test.YtgmpbppiakjpdaaDoorFrame
import Derived.Lib.AppendIntMem
import Derived.Lib.ItoaLen
import Derived.Lib.Slices
import Derived.Laws.IdiomStrings
import Derived.Laws.BitsAllLaws
import Derived.OwnWalk
import Derived.BigCall
import Derived.LoopN
namespace Go.Proofs.YtgmpbppiakjpdaaDoor
open Go.RowKit Go.Shelf
theorem infoByte : (Tryd.prog.info? 5).map (fun i => (i.zero, i.size, i.bytes)) = some (some (.int .u8 0), 1, 1) := by kernel_rfl
abbrev PowTab (w : World) : Prop := Lib.TabIs Tryd.prog w "internal/strconv.uint64pow10" .u64 Lib.pow10Tab
set_option maxRecDepth 100000 in
theorem str_AppendUint (B n u : Nat) (hu : u < 18446744073709551616) (sv : Value) (xs : List Value) (w : World) (hown : w.ownsRow B 5 1 sv n xs) (hBw : B ≤ w.heap.size) (hlim : n + 20 ≤ 140737488355328) (htab : PowTab w) :
    Calls Tryd.prog 15 #[sv, .int .u64 u, .int .i64 10] w fun e w' => ∃ v', e = .returned v' ∧ w'.ownsRow B 5 1 v' (n + (Lib.decDigits u).length) (xs ++ Lib.byteCells (Lib.decDigits u)) ∧ Below B w w' := by
  go_enter Tryd.func15, Tryd.ntmps15
  go_wp2_with fail
  refine (Tryd.internal_strconv_AppendUint_10 B n u hu sv xs w hown hBw hlim htab).mono ?_
  rintro e w1 ⟨v1, rfl, hown1, hnx1, -⟩
  go_wp2
  go_ret
  exact ⟨v1, rfl, hown1, hnx1⟩
def octet (a k : Nat) : Nat := a / 2 ^ (8 * k) % 256
def textL (a : Nat) : List UInt8 := Lib.decDigits (octet a 3) ++ 46 :: (Lib.decDigits (octet a 2) ++ 46 :: (Lib.decDigits (octet a 1) ++ 46 :: Lib.decDigits (octet a 0)))
theorem dig_len (u : Nat) (h : u < 256) : (Lib.decDigits u).length ≤ 20 := by
  rw [Lib.decDigits_length]
  by_cases h10 : u < 10
  · rw [Lib.nDigits_small h10]; omega
  · rw [Lib.nDigits_big h10]
    by_cases h100 : u / 10 < 10
    · rw [Lib.nDigits_small h100]; omega
    · rw [Lib.nDigits_big h100, Lib.nDigits_small (show u / 10 / 10 < 10 by omega)]; omega
theorem and255 (x : Nat) (hx : x < 4294967296) : bits .and .u32 (x : Int) 255 = ((x % 256 : Nat) : Int) := by
  have h := u32_and_nat x 255 hx (by decide)
  rw [show (255 : Int) = ((255 : Nat) : Int) from rfl, h]
  congr 1
  exact Nat.and_two_pow_sub_one_eq_mod x 8
set_option maxHeartbeats 6400000 in
set_option maxRecDepth 100000 in
theorem ip_Text (a : Nat) (ha : a < 4294967296) (w : World) (htab : PowTab w) : Calls Tryd.prog 6 #[.int .u32 a] w fun e w' => e = .returned (.string ⟨(textL a).toArray⟩) ∧ Below w.heap.size w w' := by
  obtain ⟨i0, hi, hz0, hz1, hz2⟩ := info_parts infoByte
  have HT := Lib.hid (Lib.tabBelow_of_tabIs htab)
  clear htab
  have e3 : bits .and .u32 ((a : Int) / 16777216) 255 = ((octet a 3 : Nat) : Int) := by
    exact and255 (a / 16777216) (by omega)
  have e2 : bits .and .u32 ((a : Int) / 65536) 255 = ((octet a 2 : Nat) : Int) := by
    exact and255 (a / 65536) (by omega)
  have e1 : bits .and .u32 ((a : Int) / 256) 255 = ((octet a 1 : Nat) : Int) := by
    exact and255 (a / 256) (by omega)
  have e0 : bits .and .u32 (a : Int) 255 = ((octet a 0 : Nat) : Int) := by
    have := and255 a ha; rw [this]; unfold octet; simp
  have o3 : octet a 3 < 256 := Nat.mod_lt _ (by decide)
  have o2 : octet a 2 < 256 := Nat.mod_lt _ (by decide)
  have o1 : octet a 1 < 256 := Nat.mod_lt _ (by decide)
  have o0 : octet a 0 < 256 := Nat.mod_lt _ (by decide)
  go_enter Tryd.func6, Tryd.ntmps6
  go_wp2_with fail
  refine wp_loop_rounds 5 ?_
  rw [rounds_succ]
  go_wp2_with fail
  have own3 : w.ownsRow w.heap.size 5 1 (.slice none 0 0) 0 [] := World.ownsRow_nil _ _ _ _
  have nx3 : Below w.heap.size w w := Below.refl _ _
  have l3 := dig_len _ o3
  have l2 := dig_len _ o2
  have l1 := dig_len _ o1
  have l0 := dig_len _ o0
  obtain ⟨x3, hx3⟩ : ∃ x3, x3 = w := ⟨_, rfl⟩
  obtain ⟨v3, hv3⟩ : ∃ v3 : Value, v3 = .slice none 0 0 := ⟨_, rfl⟩
  refine (str_AppendUint w.heap.size 0 (octet a 3) (by omega) (.slice none 0 0) [] w own3 (Nat.le_refl _) (by omega) (HT.out.here)).mono ?_
  rintro e y3 ⟨u3, rfl, hown, hb⟩
  have NY3 := Lib.hid hb
  rw [Nat.zero_add, List.nil_append] at hown
  have OY3 := Lib.hid hown
  clear hown hb own3 nx3 hx3 hv3 x3 v3
  go_wp2_with fail
  rw [rounds_succ]
  have hown1 := OY3.out
  have hnx1 := NY3.out
  go_wp2_with (at_builtin; refine wpList_append_own _ rfl _ _ 42 rfl w.heap.size 5 i0 (.int .u8 0) 1 1 Tryd.underlying42 hi hz0 hz1 hz2 rfl (by decide) _ _ _ rfl (hown1.alloc _) ⟨y3.heap.size, 0, none⟩ 1 1 [Value.int .u8 46] rfl rfl (by intro j u' hj; match j, hj with | 0, hj => simp at hj; subst hj; simp [Addr.add]) (by intro u' hu'; simp at hu'; subst hu'; rfl) (by unfold maxLen; omega) (by omega) (by have := hnx1.size; simp; omega) ?_)
  intro t2 z2 hown2 hgrow _
  have NZ2 := Lib.hid ((hnx1.alloc (by have := hnx1.size; omega) _).grown hgrow (by have := hnx1.size; simp; omega) (fun k hk => (hown1.lt k hk).1) : Below w.heap.size w z2)
  have OZ2 := Lib.hid hown2
  clear hown1 hnx1 hown2 hgrow OY3 NY3
  go_wp2_with fail
  refine (str_AppendUint w.heap.size _ (octet a 2) (by omega) t2 _ z2 OZ2.out (by have := NZ2.out.size; omega) (by omega) ((HT.out.on NZ2.out).here)).mono ?_
  rintro e y2 ⟨u2, rfl, hown, hb⟩
  have NY2 := Lib.hid (NZ2.out.trans hb)
  have OY2 := Lib.hid hown
  clear hown hb OZ2 NZ2
  go_wp2_with fail
  rw [rounds_succ]
  have hown1 := OY2.out
  have hnx1 := NY2.out
  go_wp2_with (at_builtin; refine wpList_append_own _ rfl _ _ 42 rfl w.heap.size 5 i0 (.int .u8 0) 1 1 Tryd.underlying42 hi hz0 hz1 hz2 rfl (by decide) _ _ _ rfl (hown1.alloc _) ⟨y2.heap.size, 0, none⟩ 1 1 [Value.int .u8 46] rfl rfl (by intro j u' hj; match j, hj with | 0, hj => simp at hj; subst hj; simp [Addr.add]) (by intro u' hu'; simp at hu'; subst hu'; rfl) (by unfold maxLen; omega) (by omega) (by have := hnx1.size; simp; omega) ?_)
  intro t1 z1 hown2 hgrow _
  have NZ1 := Lib.hid ((hnx1.alloc (by have := hnx1.size; omega) _).grown hgrow (by have := hnx1.size; simp; omega) (fun k hk => (hown1.lt k hk).1) : Below w.heap.size w z1)
  have OZ1 := Lib.hid hown2
  clear hown1 hnx1 hown2 hgrow OY2 NY2
  go_wp2_with fail
  refine (str_AppendUint w.heap.size _ (octet a 1) (by omega) t1 _ z1 OZ1.out (by have := NZ1.out.size; omega) (by omega) ((HT.out.on NZ1.out).here)).mono ?_
  rintro e y1 ⟨u1, rfl, hown, hb⟩
  have NY1 := Lib.hid (NZ1.out.trans hb)
  have OY1 := Lib.hid hown
  clear hown hb OZ1 NZ1
  go_wp2_with fail
  rw [rounds_succ]
  have hown1 := OY1.out
  have hnx1 := NY1.out
  go_wp2_with (at_builtin; refine wpList_append_own _ rfl _ _ 42 rfl w.heap.size 5 i0 (.int .u8 0) 1 1 Tryd.underlying42 hi hz0 hz1 hz2 rfl (by decide) _ _ _ rfl (hown1.alloc _) ⟨y1.heap.size, 0, none⟩ 1 1 [Value.int .u8 46] rfl rfl (by intro j u' hj; match j, hj with | 0, hj => simp at hj; subst hj; simp [Addr.add]) (by intro u' hu'; simp at hu'; subst hu'; rfl) (by unfold maxLen; omega) (by omega) (by have := hnx1.size; simp; omega) ?_)
  intro t0 z0 hown2 hgrow _
  have NZ0 := Lib.hid ((hnx1.alloc (by have := hnx1.size; omega) _).grown hgrow (by have := hnx1.size; simp; omega) (fun k hk => (hown1.lt k hk).1) : Below w.heap.size w z0)
  have OZ0 := Lib.hid hown2
  clear hown1 hnx1 hown2 hgrow OY1 NY1
  go_wp2_with fail
  refine (str_AppendUint w.heap.size _ (octet a 0) (by omega) t0 _ z0 OZ0.out (by have := NZ0.out.size; omega) (by omega) ((HT.out.on NZ0.out).here)).mono ?_
  rintro e y0 ⟨u0, rfl, hown, hb⟩
  have NY0 := Lib.hid (NZ0.out.trans hb)
  have OY0 := Lib.hid hown
  clear hown hb OZ0 NZ0
  go_wp2_with fail
  rw [rounds_succ]
  obtain ⟨l, hl⟩ : ∃ l, l = textL a := ⟨_, rfl⟩
  have hown3 := OY0.out
  have eL : ∀ p q r t : List UInt8, (Lib.byteCells p ++ Value.int .u8 46 :: (Lib.byteCells q ++ Value.int .u8 46 :: (Lib.byteCells r ++ [Value.int .u8 46]))) ++ Lib.byteCells t = Lib.byteCells (p ++ 46 :: (q ++ 46 :: (r ++ 46 :: t))) := fun p q r t => by simp [Lib.byteCells]
  have eN : (Lib.decDigits (octet a 3)).length + 1 + (Lib.decDigits (octet a 2)).length + 1 + (Lib.decDigits (octet a 1)).length + 1 + (Lib.decDigits (octet a 0)).length = l.length := by rw [hl]; unfold textL; simp; omega
  rw [eN, eL] at hown3
  rw [show Lib.decDigits (octet a 3) ++ 46 :: (Lib.decDigits (octet a 2) ++ 46 :: (Lib.decDigits (octet a 1) ++ 46 :: Lib.decDigits (octet a 0))) = l from hl.symm] at hown3
  have hpos : 0 < l.length := by rw [← eN]; omega
  have HL := Lib.hid hl
  clear hl eL eN l0 l1 l2 l3 e0 e1 e2 e3 OY0
  rcases hown3.2 with ⟨-, h0⟩ | ⟨g, cap, cur, rfl, -, -, -, -, -, -⟩
  · omega
  · have hcv := run_convert_bytes_back (P := Tryd.prog) y0 42 9 5 ⟨g, 0, none⟩ cap l Tryd.underlying42 Tryd.underlying5 Tryd.underlying9 (fun j hj => hown3.cells (g := g) rfl j _ (by simp [Lib.byteCells, hj]))
    clear hown3
    go_wp2
    go_ret
    have hl := HL.out
    subst hl
    exact ⟨rfl, NY0.out⟩
end Go.Proofs.YtgmpbppiakjpdaaDoor
