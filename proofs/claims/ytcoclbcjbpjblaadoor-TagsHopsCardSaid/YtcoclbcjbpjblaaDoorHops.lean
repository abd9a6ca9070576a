/-
  TagsHops, the walks: a tag's next hop and address; which tag a next hop is of.
-/
import Derived.Test.YtcoclbcjbpjblaaDoorTagHead
import Derived.Test.YtcoclbcjbpjblaaDoorMac
import Derived.Test.YtcoclbcjbpjblaaDoorText
import Derived.Test.YtcoclbcjbpjblaaDoorBits
import Derived.Laws.Tables
namespace Go.Proofs.YtcoclbcjbpjblaaDoor
open Go.RowKit
section
variable {P : Program} {ops : Array Oper} {rest : List Oper} {o : Oper} {a : Act} {w : World} {Q : Exit → Act → World → Prop}
theorem st_row (hgd : o.guard = none) (ty : TypeId) (x y : Operand) (ho : o.op = .store ty x y)
    (g : Nat) (hx : a.eval x = .pointer (some ⟨g, 0, none⟩)) (t : TypeId) (old cs : Array Value) (hy : a.eval y = .agg cs) (hg : w.heap[g]? = some (.cells old t (0, 0))) (hi : (P.info? ty).map (·.size) = some cs.size) (hs : old.size = cs.size) (h1 : cs.all (·.oneCell') = true)
    (h : wpList P ops Q rest (a.put o.dst undef) (w.setRow g cs)) : wpList P ops Q (o :: rest) a w :=
  wpList_plain hgd fun _ hK => by
    unfold Oper.wp execOp
    simp only [ho, hx, hy, Instr.storeAt, Instr.sureAddr, Sem.run_bind, Sem.run_pure, Result.andThen_ok, run_storeVar_row w g t ty old cs hg hi hs h1]
    exact hK _ _ h
end
theorem below_setRow {B : Nat} {w W : World} (h : Below B w W) {g : Nat} (hg : B ≤ g) (cs : Array Value) : Below B w (W.setRow g cs) :=
  h.trans ⟨rfl, rfl, rfl, by simp [World.setRow], fun k hk => setRow_other W g k cs (by omega)⟩
theorem tags_Hop (t : Int) (low : Nat) (hl : bits .and .i64 t 255 = (low : Int)) (h : low < 256) (w : World) : Calls Tryd.prog 5 #[.int .i64 t] w fun e w' => e = .returned (.int .u32 (2886729729 + (low : Int))) ∧ w = w' := by
  have e1 : IntKind.u32.wrap (low : Int) = (low : Int) := IntWalk.u32_in _ (by omega)
  have e2 : IntKind.u32.wrap (2886729729 + (low : Int)) = 2886729729 + (low : Int) := IntWalk.u32_in _ (by omega)
  go_enter Tryd.func5, Tryd.ntmps5
  go_wp2
  go_ret
  exact ⟨rfl, rfl⟩
theorem mac_one (low : Int) : (#[.int .u8 2, .int .u8 0, .int .u8 0, .int .u8 0, .int .u8 0, .int .u8 low] : Array Value).all (·.oneCell') = true := by simp [Value.oneCell']
theorem results_Mac (tmps : Array Value) (W : World) (b : Nat) (c : Array Value) (hc : c.size = 6) (h2 : tmps.getD 2 undef = .pointer (some ⟨b, 0, none⟩)) (hb : W.heap[b]? = some (.cells c 27 (0, 0))) :
    (results Tryd.f6 tmps).run Tryd.prog W = .ok (.agg c) W := by
  have hl := run_loadVar_row (P := Tryd.prog) W b 27 27 c (0, 0) _ hb Tryd.underlying27 rfl (by rw [hc]; kernel_rfl)
  unfold results
  rw [Tryd.results6]
  simp [h2, hl, asAddr, -Array.getD_eq_getD_getElem?]
set_option maxRecDepth 100000 in
theorem tags_Mac (t : Int) (low : Nat) (hl : bits .and .i64 t 255 = (low : Int)) (h : low < 256) (w : World) : Calls Tryd.prog 6 #[.int .i64 t] w fun e w' => e = .returned (.agg #[.int .u8 2, .int .u8 0, .int .u8 0, .int .u8 0, .int .u8 0, .int .u8 low]) ∧ Below w.heap.size w w' := by
  have e1 : IntKind.u64.wrap (low : Int) = (low : Int) := IntWalk.u64_in _ (by omega)
  have e2 : IntKind.u64.wrap (2199023255552 + (low : Int)) = 2199023255552 + (low : Int) := IntWalk.u64_in _ (by omega)
  go_enter Tryd.func6, Tryd.ntmps6
  go_wp2_with fail
  refine (head_Of' (2199023255552 + (low : Int)) _ (by omega) (by omega)).mono ?_
  rintro e w1 ⟨rfl, hb⟩
  have b0 : byteI (2199023255552 + (low : Int)) 0 = 2 := by unfold byteI; omega
  have b1 : byteI (2199023255552 + (low : Int)) 1 = 0 := by unfold byteI; omega
  have b2 : byteI (2199023255552 + (low : Int)) 2 = 0 := by unfold byteI; omega
  have b3 : byteI (2199023255552 + (low : Int)) 3 = 0 := by unfold byteI; omega
  have b4 : byteI (2199023255552 + (low : Int)) 4 = 0 := by unfold byteI; omega
  have b5 : byteI (2199023255552 + (low : Int)) 5 = (low : Int) := by unfold byteI; omega
  rw [b0, b1, b2, b3, b4, b5]
  have hB : Below w.heap.size w w1 := ((Below.refl _ _).alloc (Nat.le_refl _) _).trans (hb.mono (by simp))
  have hrow := (hb.block w.heap.size (by simp)).trans (heap_alloc_new w _)
  have HR := Lib.hid hrow
  have HB := Lib.hid hB
  clear hb hrow hB b0 b1 b2 b3 b4 b5
  go_wp2_with (refine st_row rfl 27 _ _ rfl w.heap.size rfl 27 _ #[.int .u8 2, .int .u8 0, .int .u8 0, .int .u8 0, .int .u8 0, .int .u8 low] rfl HR.out (by kernel_rfl) rfl (mac_one _) ?_)
  refine bodyPost_ret (results_Mac _ _ w.heap.size #[.int .u8 2, .int .u8 0, .int .u8 0, .int .u8 0, .int .u8 0, .int .u8 low] rfl ?_ (setRow_heap _ _ _ _ _ _ HR.out)) rfl ⟨rfl, below_setRow HB.out (Nat.le_refl _) _⟩
  rfl
theorem tags_Tag_no (a : Int) (h : a < 2886729729 ∨ 2886729984 < a) (h0 : 0 ≤ a) (h1 : a < 4294967296) (w : World) : Calls Tryd.prog 8 #[.int .u32 a] w fun e w' => e = .returned (.tuple #[.int .i64 0, .bool false]) ∧ w = w' := by
  by_cases h2 : a < 2886729729
  · go_enter Tryd.func8, Tryd.ntmps8
    go_wp2
    go_ret2
    exact ⟨rfl, rfl⟩
  · have e2 : IntKind.u32.wrap (a - 2886729729) = a - 2886729729 := IntWalk.u32_in _ (by omega)
    have h3 : 255 < a - 2886729729 := by omega
    go_enter Tryd.func8, Tryd.ntmps8
    go_wp2
    go_ret2
    exact ⟨rfl, rfl⟩
theorem tags_Tag_yes (a : Int) (h0 : 2886729729 ≤ a) (h1 : a ≤ 2886729984) (w : World) : Calls Tryd.prog 8 #[.int .u32 a] w fun e w' => e = .returned (.tuple #[.int .i64 (a - 2886729729), .bool true]) ∧ w = w' := by
  have e2 : IntKind.u32.wrap (a - 2886729729) = a - 2886729729 := IntWalk.u32_in _ (by omega)
  have e3 : IntKind.i64.wrap (a - 2886729729) = a - 2886729729 := IntWalk.i64_in _ (by omega)
  have h2 : ¬ a < 2886729729 := by omega
  have h3 : ¬ 255 < a - 2886729729 := by omega
  go_enter Tryd.func8, Tryd.ntmps8
  go_wp2
  go_ret2
  exact ⟨rfl, rfl⟩
theorem first_text : textL 2886729729 = [49, 55, 50, 46, 49, 54, 46, 48, 46, 49] := by decide +kernel
end Go.Proofs.YtcoclbcjbpjblaaDoor
