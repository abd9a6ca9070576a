/-
  HeadOrders, the walk: the order of headers is by the first field that differs.
-/
import Derived.Test.YtbodkbaafaamlaaDoorCmp
import Derived.Deep.WholeRow
import Derived.BigQuiet
namespace Go.Proofs.YtbodkbaafaamlaaDoor
open Go.RowKit

theorem wpList_load_any {P : Program} {ops : Array Oper} {rest : List Oper} {o : Oper} {a : Act} {w : World} {Q : Exit → Act → World → Prop} (hgd : Region.wanted o (yielded ops a.tmps) = true) (ty : TypeId) (x : Operand) (ho : o.op = .load ty x)
    (g : Nat) (hx : a.eval x = .pointer (some ⟨g, 0, none⟩)) (t : TypeId) (cs : Array Value) (fr : Nat × Nat) (d : TypeDesc) (hg : w.heap[g]? = some (.cells cs t fr))
    (hu : P.underlying ty = some d) (hd : (match d with | .struct _ | .array _ _ => true | _ => false) = true) (hi : (P.info? ty).map (·.size) = some cs.size)
    (h : wpList P ops Q rest (a.put o.dst (.agg cs)) w) : wpList P ops Q (o :: rest) a w := by
  unfold wpList
  rw [if_pos hgd]
  exact .inl (wp_load_row ty x ho g hx t cs fr d hg hu hd hi h)
theorem wpList_store_new {P : Program} {ops : Array Oper} {rest : List Oper} {o : Oper} {a : Act} {w : World} {Q : Exit → Act → World → Prop} (hgd : o.guard = none) (ty : TypeId) (x y : Operand) (ho : o.op = .store ty x y)
    (hx : a.eval x = .pointer (some ⟨w.heap.size, 0, none⟩)) (c c' : Array Value) (hy : a.eval y = .agg c') (hi : (P.info? ty).map (·.size) = some c'.size) (hs : c.size = c'.size) (h1 : c'.all (·.oneCell') = true)
    (h : wpList P ops Q rest (a.put o.dst undef) (w.alloc (.cells c' ty))) : wpList P ops Q (o :: rest) a (w.alloc (.cells c ty)) :=
  wpList_plain hgd fun _ hK => by
    unfold Oper.wp execOp
    simp only [ho, hx, hy, Instr.storeAt, Instr.sureAddr, Sem.run_bind, Sem.run_pure, Result.andThen_ok, run_storeVar_new w ty c c' hi hs h1]
    exact hK _ _ h
def NBox (W : World) (b : Nat) (h : Hdr) : Prop := W.heap[b]? = some (.cells (numC h) 39 (0, 0))
theorem NBox.lt {W : World} {b : Nat} {h : Hdr} (hb : NBox W b h) : b < W.heap.size := by
  rcases Nat.lt_or_ge b W.heap.size with h' | h'
  · exact h'
  · unfold NBox at hb; rw [Array.getElem?_eq_none h'] at hb; cases hb
theorem NBox.below {W W' : World} {b : Nat} {h : Hdr} (hx : NBox W b h) (hb : Below W.heap.size W W') : NBox W' b h := (hb.block b hx.lt).trans hx
theorem NBox.cell {W : World} {b : Nat} {h : Hdr} (hb : NBox W b h) (k : Nat) (hk : k < 9) : W.cell? ⟨b, k, none⟩ = some (.int .u64 (getI h k)) := by
  unfold NBox at hb
  rcases (by omega : k = 0 ∨ k = 1 ∨ k = 2 ∨ k = 3 ∨ k = 4 ∨ k = 5 ∨ k = 6 ∨ k = 7 ∨ k = 8) with rfl | rfl | rfl | rfl | rfl | rfl | rfl | rfl | rfl <;> simp [World.cell?, hb]
theorem boxN (w : World) (h : Hdr) : ∃ W0, W0 = w.alloc (.cells (numC h) 39) ∧ NBox W0 w.heap.size h ∧ Below w.heap.size w W0 :=
  ⟨_, rfl, heap_alloc_new w _, (Below.refl _ _).alloc (Nat.le_refl _) _⟩
theorem below_drewN' {B : Nat} {a w : World} (h : Below B a w) (n : Nat) : Below B a (w.drewN n) := h.trans ⟨rfl, rfl, rfl, Nat.le_refl _, fun _ _ => rfl⟩
theorem onDrewN {w W : World} {x y : Hdr} {a b c d n : Nat} (h : Below w.heap.size w W ∧ Wid W ∧ HBox W a x ∧ HBox W b y ∧ NBox W c x ∧ NBox W d y) :
    Below w.heap.size w (W.drewN n) ∧ Wid (W.drewN n) ∧ HBox (W.drewN n) a x ∧ HBox (W.drewN n) b y ∧ NBox (W.drewN n) c x ∧ NBox (W.drewN n) d y := by
  have hb : Below W.heap.size W (W.drewN n) := below_drewN' (Below.refl _ _) n
  exact ⟨below_on h.1 hb, h.2.1.below hb, h.2.2.1.below hb, h.2.2.2.1.below hb, h.2.2.2.2.1.below hb, h.2.2.2.2.2.below hb⟩
def hP (p : Int) : Hdr := ⟨p, 0, 0, 0, 0, 0, 0, 0, 0, 0, 0, 0, 0, 0, 0, 0, 0, 0, 0⟩
theorem hP_ok (p : Int) (h : I64 p) : (hP p).Ok := by constructor <;> simp [hP, I64, U32, Byte]; exact h
set_option maxRecDepth 100000 in
set_option maxHeartbeats 6400000 in
theorem law_HeadOrders (x y : Hdr) (w : World) (hT : Wid w) (ox : x.Ok) (oy : y.Ok) :
    Calls Tryd.prog 6 #[hdrV x, hdrV y] w fun e w' => e = .returned (.bool true) ∧ Below w.heap.size w w' := by
  have HT := Lib.hid hT
  clear hT
  have OX := Lib.hid ox
  have OY := Lib.hid oy
  clear ox oy
  have z1 : cmpH (hP 1) (hP 2) = -1 := by decide
  go_enter Tryd.func6, Tryd.ntmps6
  go_wp2_with fail
  obtain ⟨W0, hW0, hx, hB⟩ := boxH w x
  rw [← hW0]
  have hs : W0.heap.size = w.heap.size + 1 := by rw [hW0]; simp
  obtain ⟨W1, hW1, hy, hB1⟩ := boxH W0 y
  rw [← hW1]
  rw [hs] at hy
  have hx1 := hx.below hB1
  have hBB := below_on hB hB1
  have hT1 := HT.out.below hBB
  have hs1 : W1.heap.size = w.heap.size + 2 := by rw [hW1]; simp [hs]
  clear hW0 hW1 hs hx hB hB1
  refine (head_Cmp (hP 1) (hP 2) _ hT1 (hP_ok 1 (by simp [I64])) (hP_ok 2 (by simp [I64]))).mono ?_
  rintro e w2 ⟨rfl, hb⟩
  rw [z1]
  clear z1 hs1
  have hT := hT1.below hb
  have hx := hx1.below hb
  have hy := hy.below hb
  have hB := below_on hBB hb
  clear hb hT1 hx1 hBB
  have HT := Lib.hid hT
  have HX := Lib.hid hx
  have HY := Lib.hid hy
  clear hT hx hy
  go_wp2_with (refine wpList_load_any (by rfl) 33 _ rfl _ rfl 33 _ (0, 0) _ HX.out Tryd.underlying33 rfl (by kernel_rfl) ?_)
  refine (law_numbers x _ OX.out).mono ?_
  rintro e w3 ⟨rfl, hb⟩
  have hT := HT.out.below hb
  have hx := HX.out.below hb
  have hy := HY.out.below hb
  replace hB := below_on hB hb
  clear hb HT HX HY
  have HT := Lib.hid hT
  have HX := Lib.hid hx
  have HY := Lib.hid hy
  clear hT hx hy
  have HYa := Lib.hid (HY.out.below ((Below.refl _ _).alloc (Nat.le_refl _) (.cells (numC x) 39)))
  go_wp2_with (first | (refine wpList_store_new rfl 39 _ _ rfl rfl zeroC (numC x) rfl (by kernel_rfl) rfl rfl ?_) | (refine wpList_load_any (by rfl) 33 _ rfl _ rfl 33 _ (0, 0) _ HYa.out Tryd.underlying33 rfl (by kernel_rfl) ?_))
  obtain ⟨W5, hW5, na, hb⟩ := boxN w3 x
  rw [← hW5]
  clear hW5 HYa
  have hT := HT.out.below hb
  have hx := HX.out.below hb
  have hy := HY.out.below hb
  replace hB := below_on hB hb
  clear hb HT HX HY
  refine (law_numbers y _ OY.out).mono ?_
  rintro e w6 ⟨rfl, hb⟩
  replace hT := hT.below hb
  replace hx := hx.below hb
  replace hy := hy.below hb
  replace hB := below_on hB hb
  replace na := na.below hb
  clear hb
  go_wp2_with (refine wpList_store_new rfl 39 _ _ rfl rfl zeroC (numC y) rfl (by kernel_rfl) rfl rfl ?_)
  obtain ⟨W7, hW7, nb, hb⟩ := boxN w6 y
  rw [← hW7]
  clear hW7
  replace hT := hT.below hb
  replace hx := hx.below hb
  replace hy := hy.below hb
  replace hB := below_on hB hb
  replace na := na.below hb
  clear hb
  generalize w3.heap.size = A5 at na ⊢
  generalize w6.heap.size = A6 at nb ⊢
  have C0 := Lib.hid (⟨hB, hT, hx, hy, na, nb⟩ : Below w.heap.size w W7 ∧ Wid W7 ∧ HBox W7 w.heap.size x ∧ HBox W7 (w.heap.size + 1) y ∧ NBox W7 A5 x ∧ NBox W7 A6 y)
  clear hT hx hy na nb hB
  go_wp2_with fail
  go_loopw [7, 17] (fun m t wr => ∃ k n : Nat, ∃ v : Int, k + n = 9 ∧ t = .int .i64 k ∧ m = .int .i64 v ∧ ((v = 0 ∧ cmpH x y = cmpRest x y n) ∨ (v ≠ 0 ∧ cmpH x y = v)) ∧ (Below w.heap.size w wr ∧ Wid wr ∧ HBox wr w.heap.size x ∧ HBox wr (w.heap.size + 1) y ∧ NBox wr A5 x ∧ NBox wr A6 y)) (fun _ t _ => 9 - (intOf t).toNat)
  case atStart => exact ⟨0, 9, 0, rfl, rfl, rfl, .inl ⟨rfl, rfl⟩, C0.out⟩
  case round =>
    obtain ⟨k, n, v, hk, rfl, rfl, hc, hC⟩ := hrel
    have C := Lib.hid hC
    have HC := Lib.hid hc
    clear hC hc C0
    rcases n with _ | n
    · obtain rfl : k = 9 := by omega
      have hz : v = cmpH x y := by
        have := HC.out
        rcases this with h | h
        · rw [h.2, h.1]; rfl
        · exact h.2.symm
      have hr := cmpRest_range x y 9
      have hg := cmpH_neg x y
      have hr : cmpH x y = -1 ∨ cmpH x y = 0 ∨ cmpH x y = 1 := hr
      have hw : IntKind.i64.wrap (-v) = -v := IntWalk.i64_in _ (by omega)
      have he : (v == v) = true := by simp
      have HG : Hid (cmpH x y = v ∧ cmpH y x = -v) := ⟨hz.symm, by rw [hg, hz]⟩
      clear hz hr hg HC
      obtain ⟨hB, hT, hx, hy, _⟩ := C.out
      have HX := Lib.hid hx
      have HY := Lib.hid hy
      have HT := Lib.hid hT
      clear hx hy hT C
      go_wp2_with (first | (refine wpList_load_any (by rfl) 33 _ rfl w.heap.size rfl 33 _ (0, 0) _ HX.out Tryd.underlying33 rfl (by kernel_rfl) ?_) | (refine wpList_load_any (by rfl) 33 _ rfl (w.heap.size + 1) rfl 33 _ (0, 0) _ HY.out Tryd.underlying33 rfl (by kernel_rfl) ?_) | (go_at_call 15; refine (head_Cmp _ _ _ HT.out (by first | exact OX.out | exact OY.out) (by first | exact OX.out | exact OY.out)).mono ?_; rintro e w4 ⟨rfl, hb⟩; have hT := HT.out.below hb; have hx := HX.out.below hb; have hy := HY.out.below hb; replace hB := below_on hB hb; clear hb HT HX HY; have HT := Lib.hid hT; have HX := Lib.hid hx; have HY := Lib.hid hy; clear hT hx hy; first | rw [HG.out.1] | rw [HG.out.2]))
      go_ret
      exact ⟨ret_bool (by simp), hB⟩
    · have hk9 : ((k : Int) < 9) := by omega
      have e8 : (8 : Int) - n = k := by omega
      have ca := C.out.2.2.2.2.1.cell k (by omega)
      have cb := C.out.2.2.2.2.2.cell k (by omega)
      have hw : IntKind.i64.wrap ((k : Int) + 1) = ((k + 1 : Nat) : Int) := by rw [IntWalk.i64_in _ (by omega)]; omega
      by_cases hv : v = 0
      · subst hv
        have HE : Hid (cmpH x y = if cmpU (getI x k) (getI y k) ≠ 0 then cmpU (getI x k) (getI y k) else cmpRest x y n) := by
          have := HC.out; simp only [cmpRest, e8] at this; rcases this with h | h
          · exact h.2
          · exact absurd rfl h.1
        clear HC
        generalize getI x k = gx at *
        generalize getI y k = gy at *
        rcases Int.lt_trichotomy gx gy with h | h | h
        · have d1 : decide (gx < gy) = true := decide_eq_true h
          have E : Hid (cmpH x y = -1) := by have := HE.out; rw [show cmpU gx gy = -1 by unfold cmpU; rw [if_pos h]] at this; refine Lib.hid ?_; simpa using this
          clear HE
          go_wp2_with (go_quiet (fail))
          refine ⟨⟨k + 1, n, -1, by omega, by simp, rfl, .inr ⟨by decide, E.out⟩, onDrewN C.out⟩, by simp [intOf]; omega⟩
        · have d1 : decide (gx < gy) = false := decide_eq_false (by omega)
          have d2 : decide (gy < gx) = false := decide_eq_false (by omega)
          have d3 : decide (gx > gy) = false := decide_eq_false (by omega)
          have E : Hid (cmpH x y = cmpRest x y n) := by have := HE.out; rw [show cmpU gx gy = 0 by unfold cmpU; rw [if_neg (by omega), if_neg (by omega)]] at this; refine Lib.hid ?_; simpa using this
          clear HE
          go_wp2_with (go_quiet (fail))
          refine ⟨⟨k + 1, n, 0, by omega, by simp, rfl, .inl ⟨rfl, E.out⟩, onDrewN C.out⟩, by simp [intOf]; omega⟩
        · have d1 : decide (gx < gy) = false := decide_eq_false (by omega)
          have d2 : decide (gy < gx) = true := decide_eq_true h
          have d3 : decide (gx > gy) = true := decide_eq_true h
          have E : Hid (cmpH x y = 1) := by have := HE.out; rw [show cmpU gx gy = 1 by unfold cmpU; rw [if_neg (by omega), if_pos h]] at this; refine Lib.hid ?_; simpa using this
          clear HE
          go_wp2_with (go_quiet (fail))
          refine ⟨⟨k + 1, n, 1, by omega, by simp, rfl, .inr ⟨by decide, E.out⟩, onDrewN C.out⟩, by simp [intOf]; omega⟩
      · have E : Hid (cmpH x y = v) := by
          have := HC.out
          rcases this with h | h
          · exact absurd h.1 hv
          · exact h.2
        have hv0 : (v == 0) = false := by simp [hv]
        clear HC ca cb
        go_wp2_with (go_quiet (fail))
        refine ⟨⟨k + 1, n, v, by omega, by simp, rfl, .inr ⟨hv, E.out⟩, onDrewN C.out⟩, by simp [intOf]; omega⟩
end Go.Proofs.YtbodkbaafaamlaaDoor
