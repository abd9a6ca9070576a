/- Texts of one proof, one behind another. -/
import Derived.WalkKit
import Derived.WalkSpells
import Derived.WalkLawsBesides
import Derived.OrdersHeld
import Derived.Deep.RegionHeld
import Derived.Lib.Hide
import Derived.Outline
import Derived.Deep.DeepFit
import Derived.KernelRfl
import Derived.Test.YtohkbcdnlmjcjaaDoorRows
import Derived.ProofKit
import Derived.OpenShut
import Derived.Deep.Heap
import Derived.Laws.Tables
import Derived.Laws.CopyOwn
import Derived.Laws.Rows
import Derived.Deep.WholeRow
import Derived.Deep.Slices
import Derived.LoopTactic
import Derived.OwnWalk
import Derived.Deep.DeepCutAuto
import Derived.LoopN
/-
  SMALL LAWS FOR A STATEMENT THAT DRAWS ITS ORDER AND HOLDS CALLS THAT MAKE MEMORY: its operations are taken one by one; 'S' holds of the world throughout. And what is known of memory that was there before.
-/
namespace Go.Proofs.YtohkbcdnlmjcjaaDoor
open Go.RowKit

set_option maxRecDepth 100000 in
theorem ret_int {k : IntKind} {a b : Int} (h : a = b) : Ending.returned (.int k a) = .returned (.int k b) := by rw [h]
set_option maxRecDepth 100000 in
theorem ret_bool {a b : Bool} (h : a = b) : Ending.returned (.bool a) = .returned (.bool b) := by rw [h]

/-! ### An operation by its place -/
set_option maxRecDepth 100000 in
theorem at0 {α : Type} {x : α} {l : List α} : (List.toArray (x :: l))[0]? = some x := by simp
set_option maxRecDepth 100000 in
theorem atS {α : Type} {x y : α} {l : List α} {n : Nat} (h : (List.toArray l)[n]? = some x) : (List.toArray (y :: l))[n + 1]? = some x := by simpa using h

section
variable {P : Program} {ops : Array Oper} {Q : Exit → Act → World → Prop} {md : Region.Mode} {S : World → Prop}
set_option maxRecDepth 100000 in
/-- an operation whose guard is false is passed by. -/
theorem rg_no {i : Nat} {oi : Oper} {fuel : Nat} {listed : Array Bool} {a : Act} {w : World} (hi : ops[i]? = some oi)
    (hs : Region.noSelect ops = true) (hf : Region.free md ops listed i = true) (hr : (Region.ready md ops listed).contains i = true)
    (hQ : ∀ c a w, Q (.panic c) (a.put oi.dst undef) w → Q (.panic c) a w) (hw : Region.wanted oi (yielded ops a.tmps) = false) (hS : S w)
    (h : wpAnyH P md ops Q S fuel (listed.setIfInBounds i true) (a.put oi.dst undef) w) : wpAnyH P md ops Q S (fuel + 1) listed a w :=
  wpAnyH_take hi hs hf hr hQ (.inr ⟨hw, rfl⟩) hS h
set_option maxRecDepth 100000 in
/-- an operation that only computes, or reads what S says of memory. -/
theorem rg_yes {i : Nat} {oi : Oper} {v : Value} {fuel : Nat} {listed : Array Bool} {a : Act} {w : World} (hi : ops[i]? = some oi)
    (hs : Region.noSelect ops = true) (hf : Region.free md ops listed i = true) (hr : (Region.ready md ops listed).contains i = true)
    (hQ : ∀ c a w, Q (.panic c) (a.put oi.dst v) w → Q (.panic c) a w) (hw : Region.wanted oi (yielded ops a.tmps) = true) (hy : ∀ w, S w → (execOp a.eval oi).run P w = .ok (.value v) w) (hS : S w)
    (h : wpAnyH P md ops Q S fuel (listed.setIfInBounds i true) (a.put oi.dst v) w) : wpAnyH P md ops Q S (fuel + 1) listed a w :=
  wpAnyH_take hi hs hf hr hQ (.inl ⟨hw, hy⟩) hS h
set_option maxRecDepth 100000 in
/-- an operation that comes up alone and is carried out here: a call, a store. -/
theorem rg_call {i : Nat} {oi : Oper} {fuel : Nat} {listed : Array Bool} {a : Act} {w : World} (hi : ops[i]? = some oi)
    (hr : Region.ready md ops listed = [i]) (hw : Region.wanted oi (yielded ops a.tmps) = true)
    (h : ∀ K' : Act → World → Prop, Shut (∀ a w, S w → (S w → wpAnyH P md ops Q S fuel (listed.setIfInBounds i true) a w) → K' a w) → Oper.wp P oi a w K' Q) : wpAnyH P md ops Q S (fuel + 1) listed a w :=
  wpAnyH_ready (rs := [i]) hr (by simp) (AllReadyH.cons hi (fun K hK => by rw [if_pos hw]; exact h K hK) AllReadyH.nil)
end

/-! ### What was there stays -/
set_option maxRecDepth 100000 in
theorem cell_below {W W' : World} {a : Addr} {v : Value} (h : W.cell? a = some v) (hb : Below W.heap.size W W') : W'.cell? a = some v :=
  (hb.cell (World.block_lt_of_cell? W a h)).trans h
set_option maxRecDepth 100000 in
theorem below_step {B : Nat} {w W W' : World} (h : Below B w W) (hB : B ≤ w.heap.size) (hb : Below W.heap.size W W') : Below B w W' :=
  h.trans (hb.mono (Nat.le_trans hB h.size))
set_option maxRecDepth 100000 in
theorem below_on {w W W' : World} (h : Below w.heap.size w W) (hb : Below W.heap.size W W') : Below w.heap.size w W' := below_step h (Nat.le_refl _) hb
set_option maxRecDepth 100000 in
theorem below_same (w : World) : Below w.heap.size w w := Below.refl _ _
set_option maxRecDepth 100000 in
theorem size_lt {W : World} {b o : Nat} {v : Value} (h : W.cell? ⟨b, o, none⟩ = some v) : b < W.heap.size := World.block_lt_of_cell? W _ h
set_option maxRecDepth 100000 in
/-- a value of two cells that is boxed at the call's beginning. -/
theorem box2 (w : World) (v0 v1 : Value) (T : TypeId) : ∃ W0, W0 = w.alloc (.cells #[v0, v1] T) ∧ W0.cell? ⟨w.heap.size, 0, none⟩ = some v0 ∧ W0.cell? ⟨w.heap.size, 1, none⟩ = some v1 ∧ Below w.heap.size w W0 := by
  refine ⟨_, rfl, ?_, ?_, (Below.refl _ _).alloc (Nat.le_refl _) _⟩ <;> simp
set_option maxRecDepth 100000 in
/-- two values of two cells that are boxed at the call's beginning. -/
theorem box22 (w : World) (v0 v1 u0 u1 : Value) (T U : TypeId) : ∃ W0, W0 = (w.alloc (.cells #[v0, v1] T)).alloc (.cells #[u0, u1] U) ∧ W0.cell? ⟨w.heap.size, 0, none⟩ = some v0 ∧ W0.cell? ⟨w.heap.size, 1, none⟩ = some v1 ∧
    W0.cell? ⟨w.heap.size + 1, 0, none⟩ = some u0 ∧ W0.cell? ⟨w.heap.size + 1, 1, none⟩ = some u1 ∧ Below w.heap.size w W0 := by
  refine ⟨_, rfl, ?_, ?_, ?_, ?_, ((Below.refl _ _).alloc (Nat.le_refl _) _).alloc (by simp) _⟩ <;> simp
set_option maxRecDepth 100000 in
theorem box222 (w : World) (v0 v1 u0 u1 x0 x1 : Value) (T U V : TypeId) : ∃ W0, W0 = ((w.alloc (.cells #[v0, v1] T)).alloc (.cells #[u0, u1] U)).alloc (.cells #[x0, x1] V) ∧ W0.cell? ⟨w.heap.size, 0, none⟩ = some v0 ∧ W0.cell? ⟨w.heap.size, 1, none⟩ = some v1 ∧
    W0.cell? ⟨w.heap.size + 1, 0, none⟩ = some u0 ∧ W0.cell? ⟨w.heap.size + 1, 1, none⟩ = some u1 ∧ W0.cell? ⟨w.heap.size + 2, 0, none⟩ = some x0 ∧ W0.cell? ⟨w.heap.size + 2, 1, none⟩ = some x1 ∧ Below w.heap.size w W0 := by
  obtain ⟨W1, hW1, c0, c1, d0, d1, hB⟩ := box22 w v0 v1 u0 u1 T U
  have hz : W1.heap.size = w.heap.size + 2 := by rw [hW1]; simp
  obtain ⟨W2, hW2, e0, e1, hB2⟩ := box2 W1 x0 x1 V
  rw [hz] at e0 e1
  exact ⟨W2, by rw [hW2, hW1], cell_below c0 hB2, cell_below c1 hB2, cell_below d0 hB2, cell_below d1 hB2, e0, e1, below_on hB hB2⟩
set_option maxRecDepth 100000 in
/-- a contract that leaves the world alone, as one that only makes memory. -/
theorem calls_below {P : Program} {f : FuncId} {args : Array Value} {w : World} {E : Ending → Prop} (h : Calls P f args w fun e w' => E e ∧ w = w') : Calls P f args w fun e w' => E e ∧ Below w.heap.size w w' :=
  h.mono fun _ _ ⟨a, b⟩ => ⟨a, b ▸ below_same _⟩
end Go.Proofs.YtohkbcdnlmjcjaaDoor

/-
  FOR THE STATEMENTS' LAST STEP: what the arguments are, by their types.
-/
namespace Go.Proofs.YtohkbcdnlmjcjaaDoor
open Go.RowKit Go.ChangeShapes Go.WideShapes Go.ChangeAt

set_option maxRecDepth 100000 in
theorem fr_own : ownKnob Tryd.prog.godebug = none := by kernel_rfl
set_option maxRecDepth 100000 in
theorem fr_laidOut : laidOutB Tryd.prog = true := by kernel_rfl

section
variable {w : World} {r : Reach} {b : Nat}
set_option maxRecDepth 100000 in
theorem cell_int {t : TypeId} {k : IntKind} {v : Value} (ht : Tryd.prog.underlying t = some (.int k)) (h : Cell.okWide Tryd.prog w r b t v) : ∃ n, v = .int k n ∧ k.has n := by
  simp only [Cell.okWide, ht] at h
  cases v <;> simp_all [Cell.ok]
set_option maxRecDepth 100000 in
theorem has_u32 {n : Int} (h : IntKind.u32.has n) : 0 ≤ n ∧ n < 4294967296 := by
  simp [IntKind.has, IntKind.min, IntKind.max, IntKind.bits, IntKind.signed] at h; omega
set_option maxRecDepth 100000 in
theorem has_i64 {n : Int} (h : IntKind.i64.has n) : -9223372036854775808 ≤ n ∧ n ≤ 9223372036854775807 := by
  simp [IntKind.has, IntKind.min, IntKind.max, IntKind.bits, IntKind.signed] at h; omega
set_option maxRecDepth 100000 in
theorem open_i64 {v : Value} (h : Value.okWide Tryd.prog w r b 3 v) : ∃ n, v = .int .i64 n ∧ -9223372036854775808 ≤ n ∧ n ≤ 9223372036854775807 := by
  simp only [Value.okWide, Tryd.underlying3] at h
  obtain ⟨n, rfl, hn⟩ := cell_int Tryd.underlying3 h
  exact ⟨n, rfl, has_i64 hn⟩
set_option maxRecDepth 100000 in
theorem open_u32 {v : Value} (h : Value.okWide Tryd.prog w r b 24 v) : ∃ n, v = .int .u32 n ∧ 0 ≤ n ∧ n < 4294967296 := by
  simp only [Value.okWide, Tryd.underlying24] at h
  obtain ⟨n, rfl, hn⟩ := cell_int Tryd.underlying24 h
  exact ⟨n, rfl, has_u32 hn⟩
end
end Go.Proofs.YtohkbcdnlmjcjaaDoor

/-
  A BLOCK KNOWN WHOLE: its cells; what a store turns.
-/
namespace Go.Proofs.YtohkbcdnlmjcjaaDoor
open Go.RowKit

section
variable {W W' : World}
set_option maxRecDepth 100000 in
theorem row_lt {b : Nat} {o : Obj} (h : W.heap[b]? = some o) : b < W.heap.size := (Array.getElem?_eq_some_iff.1 h).1
set_option maxRecDepth 100000 in
theorem row_cell {b : Nat} {cs : Array Value} {t : TypeId} (h : W.heap[b]? = some (.cells cs t (0, 0))) (i : Nat) : W.cell? ⟨b, i, none⟩ = cs[i]? := by simp [World.cell?, h]
set_option maxRecDepth 100000 in
theorem row_free {b : Nat} {cs : Array Value} {t : TypeId} (h : W.heap[b]? = some (.cells cs t (0, 0))) (i : Nat) : W.frozen? ⟨b, i, none⟩ = false := by simp [World.frozen?, h]
set_option maxRecDepth 100000 in
theorem set_same {b : Nat} {cs : Array Value} {t : TypeId} (h : W.heap[b]? = some (.cells cs t (0, 0))) (i : Nat) (v : Value) : (W.setCell ⟨b, i, none⟩ v).heap[b]? = some (.cells (cs.setIfInBounds i v) t (0, 0)) := by
  rw [setCell_eq_setRow W b i _ _ _ _ h]
  exact setRow_heap W b _ _ _ _ h
set_option maxRecDepth 100000 in
theorem set_other {b : Nat} (g i : Nat) (v : Value) (hne : b ≠ g) : (W.setCell ⟨g, i, none⟩ v).heap[b]? = W.heap[b]? := Deep.blk_setCell_other W ⟨g, i, none⟩ v b hne
end
/-! ### whole values loaded and stored; where a walk stops -/
set_option maxRecDepth 100000 in
theorem exec_ld {P : Program} {oi : Oper} {ev : Operand → Value} {w : World} (ty : TypeId) (x : Operand) (ho : oi.op = .load ty x)
    (g : Nat) (hx : ev x = .pointer (some ⟨g, 0, none⟩)) (t : TypeId) (cs : Array Value) (fr : Nat × Nat) (d : TypeDesc) (hg : w.heap[g]? = some (.cells cs t fr))
    (hu : P.underlying ty = some d) (hd : (match d with | .struct _ | .array _ _ => true | _ => false) = true) (hi : (P.info? ty).map (·.size) = some cs.size) :
    (execOp ev oi).run P w = .ok (.value (.agg cs)) w := by
  unfold execOp
  simp only [ho, hx, Instr.loadAt, Instr.sureAddr, Sem.run_bind, Sem.run_pure, Result.andThen_ok, run_loadVar_row w g t ty cs fr d hg hu hd hi]
section
variable {P : Program} {ops : Array Oper} {rest : List Oper} {o : Oper} {a : Act} {w : World} {Q : Exit → Act → World → Prop}
set_option maxRecDepth 100000 in
theorem ld_at (hgd : Region.wanted o (yielded ops a.tmps) = true) (ty : TypeId) (x : Operand) (ho : o.op = .load ty x)
    (g : Nat) (hx : a.eval x = .pointer (some ⟨g, 0, none⟩)) (t : TypeId) (cs : Array Value) (fr : Nat × Nat) (d : TypeDesc) (hg : w.heap[g]? = some (.cells cs t fr))
    (hu : P.underlying ty = some d) (hd : (match d with | .struct _ | .array _ _ => true | _ => false) = true) (hi : (P.info? ty).map (·.size) = some cs.size)
    (h : wpList P ops Q rest (a.put o.dst (.agg cs)) w) : wpList P ops Q (o :: rest) a w := by
  unfold wpList
  rw [if_pos hgd]
  exact .inl (wp_load_row ty x ho g hx t cs fr d hg hu hd hi h)
set_option maxRecDepth 100000 in
theorem st_row (hgd : o.guard = none) (ty : TypeId) (x y : Operand) (ho : o.op = .store ty x y)
    (g : Nat) (hx : a.eval x = .pointer (some ⟨g, 0, none⟩)) (t : TypeId) (old cs : Array Value) (hy : a.eval y = .agg cs) (hg : w.heap[g]? = some (.cells old t (0, 0))) (hi : (P.info? ty).map (·.size) = some cs.size) (hs : old.size = cs.size) (h1 : cs.all (·.oneCell') = true)
    (h : wpList P ops Q rest (a.put o.dst undef) (w.setRow g cs)) : wpList P ops Q (o :: rest) a w :=
  wpList_plain hgd fun _ hK => by
    unfold Oper.wp execOp
    simp only [ho, hx, hy, Instr.storeAt, Instr.sureAddr, Sem.run_bind, Sem.run_pure, Result.andThen_ok, run_storeVar_row w g t ty old cs hg hi hs h1]
    exact hK _ _ h
set_option maxRecDepth 100000 in
theorem st_fresh (hgd : o.guard = none) (ty : TypeId) (x y : Operand) (ho : o.op = .store ty x y)
    (hx : a.eval x = .pointer (some ⟨w.heap.size, 0, none⟩)) (c c' : Array Value) (hy : a.eval y = .agg c') (hi : (P.info? ty).map (·.size) = some c'.size) (hs : c.size = c'.size) (h1 : c'.all (·.oneCell') = true)
    (h : wpList P ops Q rest (a.put o.dst undef) (w.alloc (.cells c' ty))) : wpList P ops Q (o :: rest) a (w.alloc (.cells c ty)) :=
  wpList_plain hgd fun _ hK => by
    unfold Oper.wp execOp
    simp only [ho, hx, hy, Instr.storeAt, Instr.sureAddr, Sem.run_bind, Sem.run_pure, Result.andThen_ok, run_storeVar_new w ty c c' hi hs h1]
    exact hK _ _ h
/-- the walk stops where it comes to this operation. -/
def Halt (p : Prop) : Prop := p
set_option maxRecDepth 100000 in
theorem halt_at {X : Op} (_ho : o.op = X) (h : Halt (wpList P ops Q (o :: rest) a w)) : wpList P ops Q (o :: rest) a w := h
end
set_option maxRecDepth 100000 in
theorem block_other {W : World} {b : Nat} {o : Obj} (hb : W.heap[b]? = some o) (g i : Nat) (v : Value) (hne : b ≠ g) : (W.setCell ⟨g, i, none⟩ v).heap[b]? = some o := by
  rw [Deep.blk_setCell_other W ⟨g, i, none⟩ v b hne]; exact hb
end Go.Proofs.YtohkbcdnlmjcjaaDoor

/-
  SLICES OF WHATEVER: what a slice holds, element by element: 'k' cells each, 'R' says what an element's cells are; slices that a caller hands in, opened.
-/
namespace Go.Proofs.YtohkbcdnlmjcjaaDoor
open Go.RowKit Go.ChangeShapes Go.WideShapes

def SlAt {α : Type} (w : World) (k : Nat) (R : α → List Value → Prop) (v : Value) (xs : List α) : Prop :=
  ∃ (sa : Option Addr) (cap : Nat), v = .slice sa xs.length cap ∧ xs.length ≤ cap ∧ cap ≤ maxLen ∧ (0 < xs.length → ∃ b off : Nat, sa = some ⟨b, off, none⟩ ∧
    ∀ (i : Nat) (x : α), xs[i]? = some x → ∃ cs : List Value, cs.length = k ∧ R x cs ∧ ∀ (j : Nat) (c : Value), cs[j]? = some c → w.cell? ⟨b, off + i * k + j, none⟩ = some c)
set_option maxRecDepth 100000 in
theorem SlAt.below {α : Type} {w w' : World} {k : Nat} {R R' : α → List Value → Prop} {v : Value} {xs : List α} (h : SlAt w k R v xs) (hb : Below w.heap.size w w') (hR : ∀ x cs, R x cs → R' x cs) : SlAt w' k R' v xs := by
  obtain ⟨sa, cap, h1, h2, h3, h4⟩ := h
  refine ⟨sa, cap, h1, h2, h3, fun h0 => ?_⟩
  obtain ⟨b, off, h5, h6⟩ := h4 h0
  refine ⟨b, off, h5, fun i x hx => ?_⟩
  obtain ⟨cs, c1, c2, c3⟩ := h6 i x hx
  exact ⟨cs, c1, hR _ _ c2, fun j c hc => cell_below (c3 j c hc) hb⟩
set_option maxRecDepth 100000 in
theorem SlAt.nil {α : Type} {w : World} {k : Nat} {R : α → List Value → Prop} : SlAt w k R (.slice none 0 0) ([] : List α) := ⟨none, 0, rfl, Nat.le_refl _, by simp [maxLen], fun h => absurd h (by simp)⟩
set_option maxRecDepth 100000 in
theorem SlAt.imp {α : Type} {w : World} {k : Nat} {R R' : α → List Value → Prop} {v : Value} {xs : List α} (h : SlAt w k R v xs) (hR : ∀ x cs, x ∈ xs → R x cs → R' x cs) : SlAt w k R' v xs := by
  obtain ⟨sa, cap, h1, h2, h3, h4⟩ := h
  refine ⟨sa, cap, h1, h2, h3, fun h0 => ?_⟩
  obtain ⟨b, off, h5, h6⟩ := h4 h0
  refine ⟨b, off, h5, fun i x hx => ?_⟩
  obtain ⟨cs, c1, c2, c3⟩ := h6 i x hx
  exact ⟨cs, c1, hR _ _ (List.mem_of_getElem? hx) c2, c3⟩

section
variable {H : Type} {enc : TypeId × Value → H} {w : World} {base : Nat} {spare : Nat → Bool} {held : Bool}
set_option maxRecDepth 100000 in
theorem open_sl {α : Type} {t e : TypeId} {k f : Nat} {R : α → List Value → Prop} {cs : List Value} {x : DataW H × List MemPlace} (ht : Tryd.prog.underlying t = some (.slice e)) (hk : Tryd.prog.cellsOf e = k) (hk0 : 0 < k)
    (hR : ∀ f cs y, DataW.trod enc Tryd.prog w base spare held f e cs = some y → ∃ a : α, R a cs) (h : DataW.trod enc Tryd.prog w base spare held f t cs = some x) : ∃ v xs, cs = [v] ∧ SlAt w k R v xs := by
  rcases Deep.open_slice ht h with ⟨h1, _⟩ | ⟨a, len, cap, m, n, D, Pl, h1, _, hlc, hcap, hm, _, hx⟩
  · exact ⟨_, [], h1, SlAt.nil⟩
  · rw [hk] at hx
    have hlm : len ≤ m := by rw [hm]; split <;> omega
    have hone : ∀ i : Fin len, ∃ z : α × List Value, z.2.length = k ∧ R z.1 z.2 ∧ ∀ j c, z.2[j]? = some c → w.cell? (a.add (i.val * k + j)) = some c := by
      intro i
      obtain ⟨cs', hcs, ht⟩ := hx i.val (by omega)
      obtain ⟨y, hy⟩ := hR _ _ _ ht
      obtain ⟨_, hl, hat⟩ := World.cells?_some hcs
      refine ⟨(y, cs'), hl, hy, fun j c hc => ?_⟩
      have hj : j < k := by rw [← hl]; exact (List.getElem?_eq_some_iff.1 hc).1
      have := hat j hj
      rw [Deep.add_add] at this
      rw [this]; exact hc
    have hch := Classical.axiomOfChoice hone
    obtain ⟨g, hg⟩ := hch
    refine ⟨_, List.ofFn fun i => (g i).1, h1, some a, cap, by simp, by simp; omega, hcap, fun h0 => ?_⟩
    have h0' : 0 < len := by simpa using h0
    have hsp : a.spot = none := by
      obtain ⟨e1, _, e3⟩ := hg ⟨0, h0'⟩
      have hlt : 0 < (g ⟨0, h0'⟩).2.length := by rw [e1]; exact hk0
      have hc := e3 0 _ (List.getElem?_eq_getElem hlt)
      have e : a.add (0 * k + 0) = a := by unfold Addr.add; simp
      simp only at hc
      rw [e] at hc
      unfold World.cell? at hc
      cases hq : a.spot with
      | none => rfl
      | some q => rw [hq] at hc; simp at hc; split at hc <;> simp at hc
    have had : ∀ k, a.add k = ⟨a.block, a.off + k, none⟩ := fun k => by
      unfold Addr.add
      split
      · rename_i hk; subst hk; cases a; simp at hsp; simp [hsp]
      · rfl
    refine ⟨a.block, a.off, by cases a; simp at hsp; simp [hsp], fun i s hi => ?_⟩
    have hil : i < len := by
      have := (List.getElem?_eq_some_iff.1 hi).1
      simpa using this
    rw [List.getElem?_ofFn] at hi
    simp [hil] at hi
    subst hi
    obtain ⟨e1, e2, e3⟩ := hg ⟨i, hil⟩
    refine ⟨_, e1, e2, fun j c hc => ?_⟩
    have := e3 j c hc
    rw [had, ← Nat.add_assoc] at this
    exact this
def I64r (n : Int) : Prop := -9223372036854775808 ≤ n ∧ n ≤ 9223372036854775807
def IntC (n : Int) (cs : List Value) : Prop := cs = [.int .i64 n] ∧ I64r n
set_option maxRecDepth 100000 in
theorem sl_i64 {f : Nat} {c : List Value} {y : DataW H × List MemPlace} (h : DataW.trod enc Tryd.prog w base spare held f 3 c = some y) : ∃ n : Int, IntC n c := by
  obtain ⟨n, h1, _, h2⟩ := DataW.trod_int Tryd.underlying3 h
  refine ⟨n, h1, ?_⟩
  simp [Lit.wf, IntKind.min, IntKind.max, IntKind.bits, IntKind.signed] at h2
  unfold I64r; omega
end
/-- integers in memory. -/
abbrev IntsAt (w : World) (v : Value) (xs : List Int) : Prop := SlAt w 1 IntC v xs
set_option maxRecDepth 100000 in
theorem IntsAt.below {w w' : World} {v : Value} {xs : List Int} (h : IntsAt w v xs) (hb : Below w.heap.size w w') : IntsAt w' v xs := SlAt.below h hb fun _ _ h => h
end Go.Proofs.YtohkbcdnlmjcjaaDoor

/-
  ATTRIBUTES: what they hold, in memory; attributes that a caller hands in, opened.
-/
namespace Go.Proofs.YtohkbcdnlmjcjaaDoor
open Go.RowKit Go.ChangeShapes Go.WideShapes

abbrev Sg := Bool × List Int
abbrev Oth := Int × List Nat
structure At where
  has : Int
  origin : Int
  path : List Sg
  hop : Nat
  med : Int
  loc : Int
  aggrAs : Int
  aggrId : Nat
  comms : List Int
  others : List Oth
def ByteC (n : Nat) (cs : List Value) : Prop := cs = [.int .u8 n] ∧ n < 256
abbrev BytesAt (w : World) (v : Value) (xs : List Nat) : Prop := SlAt w 1 ByteC v xs
def SegC (w : World) (s : Sg) (cs : List Value) : Prop := ∃ u, cs = [.bool s.1, u] ∧ IntsAt w u s.2
def OthC (w : World) (o : Oth) (cs : List Value) : Prop := ∃ u, cs = [.int .i64 o.1, u] ∧ I64r o.1 ∧ BytesAt w u o.2
abbrev PathAt (w : World) (v : Value) (p : List Sg) : Prop := SlAt w 2 (SegC w) v p
abbrev OthersAt (w : World) (v : Value) (os : List Oth) : Prop := SlAt w 2 (OthC w) v os
set_option maxRecDepth 100000 in
theorem BytesAt.below {w w' : World} {v : Value} {xs : List Nat} (h : BytesAt w v xs) (hb : Below w.heap.size w w') : BytesAt w' v xs := SlAt.below h hb fun _ _ h => h
set_option maxRecDepth 100000 in
theorem SegC.below {w w' : World} {s : Sg} {cs : List Value} (h : SegC w s cs) (hb : Below w.heap.size w w') : SegC w' s cs := by
  obtain ⟨u, h1, h2⟩ := h; exact ⟨u, h1, h2.below hb⟩
set_option maxRecDepth 100000 in
theorem OthC.below {w w' : World} {s : Oth} {cs : List Value} (h : OthC w s cs) (hb : Below w.heap.size w w') : OthC w' s cs := by
  obtain ⟨u, h1, h2, h3⟩ := h; exact ⟨u, h1, h2, h3.below hb⟩
set_option maxRecDepth 100000 in
theorem PathAt.below {w w' : World} {v : Value} {p : List Sg} (h : PathAt w v p) (hb : Below w.heap.size w w') : PathAt w' v p := SlAt.below h hb fun _ _ h => h.below hb
set_option maxRecDepth 100000 in
theorem OthersAt.below {w w' : World} {v : Value} {p : List Oth} (h : OthersAt w v p) (hb : Below w.heap.size w w') : OthersAt w' v p := SlAt.below h hb fun _ _ h => h.below hb
/-- the values of attributes: three of them are slices. -/
def atV (a : At) (vp vc vo : Value) : List Value := [.int .i64 a.has, .int .i64 a.origin, vp, .int .u32 a.hop, .int .i64 a.med, .int .i64 a.loc, .int .i64 a.aggrAs, .int .u32 a.aggrId, vc, vo]
def At.Rng (a : At) : Prop := I64r a.has ∧ I64r a.origin ∧ a.hop < 4294967296 ∧ I64r a.med ∧ I64r a.loc ∧ I64r a.aggrAs ∧ a.aggrId < 4294967296
def AtL (w : World) (a : At) (vp vc vo : Value) : Prop := PathAt w vp a.path ∧ IntsAt w vc a.comms ∧ OthersAt w vo a.others
set_option maxRecDepth 100000 in
theorem AtL.below {w w' : World} {a : At} {vp vc vo : Value} (h : AtL w a vp vc vo) (hb : Below w.heap.size w w') : AtL w' a vp vc vo := ⟨h.1.below hb, h.2.1.below hb, h.2.2.below hb⟩
def AtC (w : World) (a : At) (cs : List Value) : Prop := ∃ vp vc vo, cs = atV a vp vc vo ∧ a.Rng ∧ AtL w a vp vc vo
set_option maxRecDepth 100000 in
theorem AtC.below {w w' : World} {a : At} {cs : List Value} (h : AtC w a cs) (hb : Below w.heap.size w w') : AtC w' a cs := by
  obtain ⟨vp, vc, vo, h1, h2, h3⟩ := h; exact ⟨vp, vc, vo, h1, h2, h3.below hb⟩
section
variable {H : Type} {enc : TypeId × Value → H} {w : World} {base : Nat} {spare : Nat → Bool} {held : Bool}
set_option maxRecDepth 100000 in
theorem sl_u32 {f : Nat} {c : List Value} {y : DataW H × List MemPlace} (h : DataW.trod enc Tryd.prog w base spare held f 24 c = some y) : ∃ n : Nat, c = [.int .u32 n] ∧ n < 4294967296 := by
  obtain ⟨n, h1, _, h2⟩ := DataW.trod_int Tryd.underlying24 h
  simp [Lit.wf, IntKind.min, IntKind.max, IntKind.bits, IntKind.signed] at h2
  obtain ⟨m, rfl⟩ := Int.eq_ofNat_of_zero_le (show 0 ≤ n by omega)
  exact ⟨m, h1, by omega⟩
set_option maxRecDepth 100000 in
theorem sl_u8 {f : Nat} {c : List Value} {y : DataW H × List MemPlace} (h : DataW.trod enc Tryd.prog w base spare held f 5 c = some y) : ∃ n : Nat, ByteC n c := by
  obtain ⟨n, h1, _, h2⟩ := DataW.trod_int Tryd.underlying5 h
  simp [Lit.wf, IntKind.min, IntKind.max, IntKind.bits, IntKind.signed] at h2
  obtain ⟨m, rfl⟩ := Int.eq_ofNat_of_zero_le (show 0 ≤ n by omega)
  exact ⟨m, h1, by omega⟩
set_option maxRecDepth 100000 in
theorem sl_ints {f : Nat} {c : List Value} {y : DataW H × List MemPlace} (h : DataW.trod enc Tryd.prog w base spare held f 25 c = some y) : ∃ v xs, c = [v] ∧ IntsAt w v xs :=
  open_sl Tryd.underlying25 (by kernel_rfl) (by decide) (fun _ _ _ h => sl_i64 h) h
set_option maxRecDepth 100000 in
theorem sl_bytes {f : Nat} {c : List Value} {y : DataW H × List MemPlace} (h : DataW.trod enc Tryd.prog w base spare held f 38 c = some y) : ∃ v xs, c = [v] ∧ BytesAt w v xs :=
  open_sl Tryd.underlying38 (by kernel_rfl) (by decide) (fun _ _ _ h => sl_u8 h) h
set_option maxRecDepth 100000 in
theorem sl_seg {f : Nat} {cs : List Value} {x : DataW H × List MemPlace} (h : DataW.trod enc Tryd.prog w base spare held f 32 cs = some x) : ∃ s : Sg, SegC w s cs := by
  obtain ⟨xs, n, _, _, hl, hxl, hf⟩ := DataW.trod_struct Tryd.underlying32 h
  have hc2 : Tryd.prog.cellsOf 32 = 2 := by kernel_rfl
  have hcb : Tryd.prog.cellsOf 4 = 1 := by kernel_rfl
  have hci : Tryd.prog.cellsOf 25 = 1 := by kernel_rfl
  rw [hc2] at hl
  match cs, hl with
  | [c0, c1], _ =>
    match xs, hxl with
    | [x0, x1], _ =>
      have e0 := hf 0 _ rfl
      have e1 := hf 1 _ rfl
      simp [hcb, hci] at e0 e1
      obtain ⟨s, hs, _⟩ := DataW.trod_bool Tryd.underlying4 e0
      obtain ⟨v, l, hv, hi⟩ := sl_ints e1
      simp at hs hv
      subst hs; subst hv
      exact ⟨(s, l), c1, rfl, hi⟩
set_option maxRecDepth 100000 in
theorem sl_other {f : Nat} {cs : List Value} {x : DataW H × List MemPlace} (h : DataW.trod enc Tryd.prog w base spare held f 61 cs = some x) : ∃ s : Oth, OthC w s cs := by
  obtain ⟨xs, n, _, _, hl, hxl, hf⟩ := DataW.trod_struct Tryd.underlying61 h
  have hc2 : Tryd.prog.cellsOf 61 = 2 := by kernel_rfl
  have hcb : Tryd.prog.cellsOf 3 = 1 := by kernel_rfl
  have hci : Tryd.prog.cellsOf 38 = 1 := by kernel_rfl
  rw [hc2] at hl
  match cs, hl with
  | [c0, c1], _ =>
    match xs, hxl with
    | [x0, x1], _ =>
      have e0 := hf 0 _ rfl
      have e1 := hf 1 _ rfl
      simp [hcb, hci] at e0 e1
      obtain ⟨s, hs, ir⟩ := sl_i64 e0
      obtain ⟨v, l, hv, hi⟩ := sl_bytes e1
      simp at hs hv
      subst hs; subst hv
      exact ⟨(s, l), c1, rfl, ir, hi⟩
set_option maxRecDepth 100000 in
theorem sl_attrs {f : Nat} {cs : List Value} {x : DataW H × List MemPlace} (h : DataW.trod enc Tryd.prog w base spare held f 28 cs = some x) : ∃ a : At, AtC w a cs := by
  obtain ⟨xs, n, _, _, hl, hxl, hf⟩ := DataW.trod_struct Tryd.underlying28 h
  have hc : Tryd.prog.cellsOf 28 = 10 := by kernel_rfl
  have hc0 : Tryd.prog.cellsOf 3 = 1 := by kernel_rfl
  have hc1 : Tryd.prog.cellsOf 22 = 1 := by kernel_rfl
  have hc2 : Tryd.prog.cellsOf 24 = 1 := by kernel_rfl
  have hc3 : Tryd.prog.cellsOf 25 = 1 := by kernel_rfl
  have hc4 : Tryd.prog.cellsOf 26 = 1 := by kernel_rfl
  rw [hc] at hl
  match cs, hl with
  | [c0, c1, c2, c3, c4, c5, c6, c7, c8, c9], _ =>
    match xs, hxl with
    | [x0, x1, x2, x3, x4, x5, x6, x7, x8, x9], _ =>
      have e0 := hf 0 _ rfl
      have e1 := hf 1 _ rfl
      have e2 := hf 2 _ rfl
      have e3 := hf 3 _ rfl
      have e4 := hf 4 _ rfl
      have e5 := hf 5 _ rfl
      have e6 := hf 6 _ rfl
      have e7 := hf 7 _ rfl
      have e8 := hf 8 _ rfl
      have e9 := hf 9 _ rfl
      simp [hc0, hc1, hc2, hc3, hc4] at e0 e1 e2 e3 e4 e5 e6 e7 e8 e9
      obtain ⟨has, q0, i0⟩ := sl_i64 e0
      obtain ⟨origin, q1, i1⟩ := sl_i64 e1
      obtain ⟨vp, path, q2, i2⟩ := open_sl (k := 2) (R := SegC w) Tryd.underlying22 (by kernel_rfl) (by decide) (fun _ _ _ h => sl_seg h) e2
      obtain ⟨hop, q3, i3⟩ := sl_u32 e3
      obtain ⟨med, q4, i4⟩ := sl_i64 e4
      obtain ⟨loc, q5, i5⟩ := sl_i64 e5
      obtain ⟨aggrAs, q6, i6⟩ := sl_i64 e6
      obtain ⟨aggrId, q7, i7⟩ := sl_u32 e7
      obtain ⟨vc, comms, q8, i8⟩ := sl_ints e8
      obtain ⟨vo, others, q9, i9⟩ := open_sl (k := 2) (R := OthC w) Tryd.underlying26 (by kernel_rfl) (by decide) (fun _ _ _ h => sl_other h) e9
      simp at q0 q1 q2 q3 q4 q5 q6 q7 q8 q9
      subst q0; subst q1; subst q2; subst q3; subst q4; subst q5; subst q6; subst q7; subst q8; subst q9
      exact ⟨⟨has, origin, path, hop, med, loc, aggrAs, aggrId, comms, others⟩, c2, c8, c9, rfl, ⟨i0, i1, i3, i4, i5, i6, i7⟩, i2, i8, i9⟩
end
end Go.Proofs.YtohkbcdnlmjcjaaDoor

/-
  ATTRIBUTES: Hops, First, Is: how long the path is, where it begins, what is there.
-/
namespace Go.Proofs.YtohkbcdnlmjcjaaDoor
open Go.RowKit

def hopsN : List Sg → Nat
  | [] => 0
  | s :: p => (if s.1 then 1 else s.2.length) + hopsN p
set_option maxRecDepth 100000 in
theorem hopsN_append (p q : List Sg) : hopsN (p ++ q) = hopsN p + hopsN q := by
  induction p with
  | nil => simp [hopsN]
  | cons s p ih => simp only [List.cons_append, hopsN, ih]; omega
set_option maxRecDepth 100000 in
theorem hopsN_step {p : List Sg} {k : Nat} {s : Sg} (hs : p[k]? = some s) : hopsN (p.take (k + 1)) = hopsN (p.take k) + (if s.1 then 1 else s.2.length) := by
  obtain ⟨h1, h2⟩ := List.getElem?_eq_some_iff.1 hs
  rw [List.take_succ_eq_append_getElem h1, hopsN_append, h2]
  simp [hopsN]
set_option maxRecDepth 100000 in
theorem hopsN_le (p : List Sg) (k : Nat) : hopsN (p.take k) ≤ hopsN p := by
  conv => rhs; rw [← List.take_append_drop k p]
  rw [hopsN_append]; omega
def firstN : List Sg → Int
  | [] => 0
  | s :: _ => if s.1 then 0 else s.2.headD 0
set_option maxRecDepth 100000 in
/-- attributes are boxed at the call's beginning. -/
theorem boxA (w : World) (c0 c1 c2 c3 c4 c5 c6 c7 c8 c9 : Value) : ∃ W0, W0 = w.alloc (.cells #[c0, c1, c2, c3, c4, c5, c6, c7, c8, c9] 28) ∧ W0.heap[w.heap.size]? = some (.cells #[c0, c1, c2, c3, c4, c5, c6, c7, c8, c9] 28 (0, 0)) ∧ Below w.heap.size w W0 ∧ W0.heap.size = w.heap.size + 1 :=
  ⟨_, rfl, heap_alloc_new w _, (Below.refl _ _).alloc (Nat.le_refl _) _, by simp⟩

set_option maxHeartbeats 1600000 in
set_option maxRecDepth 100000 in
theorem at_Hops (c0 c1 vp c3 c4 c5 c6 c7 c8 c9 : Value) (p : List Sg) (w : World) (hP : PathAt w vp p) (hh : hopsN p ≤ 4611686018427387904) :
    Calls Tryd.prog 9 #[.agg #[c0, c1, vp, c3, c4, c5, c6, c7, c8, c9]] w fun e w' => e = .returned (.int .i64 (hopsN p)) ∧ Below w.heap.size w w' := by
  obtain ⟨sa, cap, rfl, hlc, hcm, hV⟩ := hP
  have HV := Lib.hid hV
  have HH := Lib.hid hh
  unfold maxLen at hcm
  clear hV hh
  go_enter Tryd.func9, Tryd.ntmps9
  go_upto_region 2 with (fail)
  obtain ⟨W0, hW0, q, hb0, _⟩ := boxA w c0 c1 (.slice sa p.length cap) c3 c4 c5 c6 c7 c8 c9
  rw [← hW0]
  clear hW0
  have y2 : W0.cell? ⟨w.heap.size, 2, none⟩ = some (.slice sa p.length cap) := row_cell q 2
  clear q
  go_wp2_with fail
  go_loopw [3, 9] (fun n i wr => ∃ k : Nat, k ≤ p.length ∧ i = .int .i64 k ∧ n = .int .i64 (hopsN (p.take k)) ∧ Below w.heap.size w wr) (fun _ i _ => p.length - (intOf i).toNat)
  case atStart => exact ⟨0, by omega, rfl, rfl, hb0⟩
  case round =>
    obtain ⟨k, hk, rfl, rfl, hb⟩ := hrel
    by_cases hlt : k < p.length
    · obtain ⟨s, hs⟩ : ∃ s, p[k]? = some s := ⟨_, List.getElem?_eq_getElem hlt⟩
      obtain ⟨b, off, hsa, hP⟩ := HV.out (by omega)
      subst hsa
      obtain ⟨cs, _, ⟨u, rfl, sb, cb, rfl, hl1, hl2, _⟩, hc⟩ := hP k s hs
      have d0 := (hb.cell (size_lt (hc 0 _ rfl))).trans (hc 0 _ rfl)
      have d1 := (hb.cell (size_lt (hc 1 _ rfl))).trans (hc 1 _ rfl)
      simp only [Nat.add_zero] at d0
      have ST := Lib.hid (hopsN_step hs)
      have h1 := hopsN_le p k
      have h2 := hopsN_le p (k + 1)
      rw [ST.out] at h2
      have h3 := HH.out
      unfold maxLen at hl2
      obtain ⟨set, ss⟩ := s
      simp only at d0 d1 ST h2 hl1 hl2
      have hB : Hid (∀ o, Below w.heap.size w (wr.alloc o)) := Lib.hid fun o => hb.alloc hb.size o
      clear hP hc hs
      cases set
      · simp only [Bool.false_eq_true, if_false] at ST h2
        have e1 : (hopsN (List.take k p) : Int) + (ss.length : Int) ≤ 4611686018427387904 := by omega
        go_wp2_with fail
        exact ⟨⟨k + 1, by omega, by go_num, by rw [ST.out]; go_num, hB.out _⟩, by simp [intOf]; omega⟩
      · simp only [if_true] at ST h2
        have e1 : (hopsN (List.take k p) : Int) + 1 ≤ 4611686018427387904 := by omega
        go_wp2_with fail
        exact ⟨⟨k + 1, by omega, by go_num, by rw [ST.out]; go_num, hB.out _⟩, by simp [intOf]; omega⟩
    · obtain rfl : k = p.length := by omega
      go_wp2_with fail
      go_ret
      exact ⟨ret_int (by rw [List.take_length]), hb⟩
end Go.Proofs.YtohkbcdnlmjcjaaDoor

/-
  ATTRIBUTES: First, Is.
-/
namespace Go.Proofs.YtohkbcdnlmjcjaaDoor
open Go.RowKit

def knownB (t : Int) : Bool := decide (1 ≤ t) && decide (t ≤ 8)
/-- is the bit t of a number 1? -/
def bitB (has : Int) (t : Nat) : Bool := bits .and .i64 (has / 2 ^ t) 1 == 1
def isB (has t : Int) : Bool := knownB t && bitB has t.toNat
set_option maxRecDepth 100000 in
theorem at_isKnown (t : Int) (w : World) : Calls Tryd.prog 27 #[.int .i64 t] w fun e w' => e = .returned (.bool (knownB t)) ∧ w = w' := by
  cases h1 : decide (1 ≤ t)
  · have K : Hid (knownB t = false) := Lib.hid (by unfold knownB; rw [h1]; rfl)
    go_enter Tryd.func27, Tryd.ntmps27
    go_wp2
    go_ret
    exact ⟨ret_bool K.out.symm, rfl⟩
  · have K : Hid (knownB t = decide (t ≤ 8)) := Lib.hid (by unfold knownB; rw [h1]; rfl)
    go_enter Tryd.func27, Tryd.ntmps27
    go_wp2
    go_ret
    exact ⟨ret_bool K.out.symm, rfl⟩
set_option maxHeartbeats 1600000 in
set_option maxRecDepth 100000 in
theorem at_Is (has : Int) (c1 c2 c3 c4 c5 c6 c7 c8 c9 : Value) (t : Int) (w : World) :
    Calls Tryd.prog 13 #[.agg #[.int .i64 has, c1, c2, c3, c4, c5, c6, c7, c8, c9], .int .i64 t] w fun e w' => e = .returned (.bool (isB has t)) ∧ Below w.heap.size w w' := by
  cases hk : knownB t
  · have K := Lib.hid (at_isKnown t)
    rw [hk] at K
    have E : Hid (isB has t = false) := Lib.hid (by unfold isB; rw [hk]; rfl)
    clear hk
    go_enter Tryd.func13, Tryd.ntmps13
    go_wp2_with fail
    obtain ⟨W0, hW0, q, hb0, _⟩ := boxA w (.int .i64 has) c1 c2 c3 c4 c5 c6 c7 c8 c9
    rw [← hW0]
    clear hW0
    refine (K.out _).mono ?_
    rintro e w1 ⟨rfl, rfl⟩
    go_wp2_with fail
    go_ret
    exact ⟨ret_bool E.out.symm, hb0⟩
  · have K := Lib.hid (at_isKnown t)
    rw [hk] at K
    have k1 : 1 ≤ t ∧ t ≤ 8 := by unfold knownB at hk; simpa using hk
    obtain ⟨n, rfl⟩ := Int.eq_ofNat_of_zero_le (show 0 ≤ t by omega)
    have k2 : n < 64 := by omega
    have E : Hid (isB has n = bitB has n) := Lib.hid (by unfold isB; rw [hk]; rfl)
    clear hk
    go_enter Tryd.func13, Tryd.ntmps13
    go_wp2_with fail
    obtain ⟨W0, hW0, q, hb0, _⟩ := boxA w (.int .i64 has) c1 c2 c3 c4 c5 c6 c7 c8 c9
    rw [← hW0]
    clear hW0
    have y0 : W0.cell? ⟨w.heap.size, 0, none⟩ = some (.int .i64 has) := row_cell q 0
    clear q
    refine (K.out _).mono ?_
    rintro e w1 ⟨rfl, rfl⟩
    go_wp2_with fail
    go_ret
    exact ⟨ret_bool E.out.symm, hb0⟩
set_option maxHeartbeats 1600000 in
set_option maxRecDepth 100000 in
theorem at_First (c0 c1 vp c3 c4 c5 c6 c7 c8 c9 : Value) (p : List Sg) (w : World) (hP : PathAt w vp p) :
    Calls Tryd.prog 11 #[.agg #[c0, c1, vp, c3, c4, c5, c6, c7, c8, c9]] w fun e w' => e = .returned (.int .i64 (firstN p)) ∧ Below w.heap.size w w' := by
  obtain ⟨sa, cap, rfl, hlc, hcm, hV⟩ := hP
  have HV := Lib.hid hV
  unfold maxLen at hcm
  clear hV
  cases p with
  | nil =>
    go_enter Tryd.func11, Tryd.ntmps11
    go_upto_region 1 with (fail)
    obtain ⟨W0, hW0, q, hb0, _⟩ := boxA w c0 c1 (.slice sa 0 cap) c3 c4 c5 c6 c7 c8 c9
    try simp only [List.length_nil]
    rw [← hW0]
    clear hW0
    have y2 : W0.cell? ⟨w.heap.size, 2, none⟩ = some (.slice sa 0 cap) := row_cell q 2
    clear q
    go_wp2_with fail
    go_ret
    exact ⟨rfl, hb0⟩
  | cons s p =>
    obtain ⟨b, off, hsa, hP⟩ := HV.out (by simp)
    subst hsa
    obtain ⟨cs, _, ⟨u, rfl, sb, cb, rfl, hl1, hl2, hL⟩, hc⟩ := hP 0 s rfl
    have d0 := hc 0 _ rfl
    have d1 := hc 1 _ rfl
    simp only [Nat.add_zero, Nat.zero_mul] at d0 d1
    obtain ⟨set, ss⟩ := s
    simp only at d0 d1 hl1 hl2 hL
    have HL := Lib.hid hL
    unfold maxLen at hl2
    clear hP hc hL HV
    simp only [List.length_cons] at hlc ⊢
    have n0 : ((p.length : Int) + 1 == 0) = false := by rw [beq_eq_false_iff_ne]; omega
    have n1 : (0 : Int) < (p.length : Int) + 1 := by omega
    cases set
    · cases ss with
      | nil =>
        simp only [List.length_nil] at d1
        go_enter Tryd.func11, Tryd.ntmps11
        go_upto_region 1 with (fail)
        obtain ⟨W0, hW0, q, hb0, _⟩ := boxA w c0 c1 (.slice (some ⟨b, off, none⟩) (p.length + 1) cap) c3 c4 c5 c6 c7 c8 c9
        rw [← hW0]
        clear hW0
        have y2 : W0.cell? ⟨w.heap.size, 2, none⟩ = some (.slice (some ⟨b, off, none⟩) (p.length + 1) cap) := row_cell q 2
        have d0 := cell_below d0 hb0
        have d1 := cell_below d1 hb0
        clear q
        go_wp2_with fail
        go_ret
        exact ⟨rfl, hb0⟩
      | cons x ss =>
        obtain ⟨b', off', hsb, hP⟩ := HL.out (by simp)
        subst hsb
        obtain ⟨cs, _, ⟨rfl, _⟩, hc⟩ := hP 0 x rfl
        have d2 := hc 0 _ rfl
        simp only [Nat.add_zero, Nat.zero_mul] at d2
        simp only [List.length_cons] at d1
        clear HL hP hc
        have n2 : ((ss.length : Int) + 1 == 0) = false := by rw [beq_eq_false_iff_ne]; omega
        have n3 : (0 : Int) < (ss.length : Int) + 1 := by omega
        go_enter Tryd.func11, Tryd.ntmps11
        go_upto_region 1 with (fail)
        obtain ⟨W0, hW0, q, hb0, _⟩ := boxA w c0 c1 (.slice (some ⟨b, off, none⟩) (p.length + 1) cap) c3 c4 c5 c6 c7 c8 c9
        rw [← hW0]
        clear hW0
        have y2 : W0.cell? ⟨w.heap.size, 2, none⟩ = some (.slice (some ⟨b, off, none⟩) (p.length + 1) cap) := row_cell q 2
        have d0 := cell_below d0 hb0
        have d1 := cell_below d1 hb0
        have d2 := cell_below d2 hb0
        clear q
        go_wp2_with fail
        go_ret
        exact ⟨rfl, hb0⟩
    · go_enter Tryd.func11, Tryd.ntmps11
      go_upto_region 1 with (fail)
      obtain ⟨W0, hW0, q, hb0, _⟩ := boxA w c0 c1 (.slice (some ⟨b, off, none⟩) (p.length + 1) cap) c3 c4 c5 c6 c7 c8 c9
      rw [← hW0]
      clear hW0
      have y2 : W0.cell? ⟨w.heap.size, 2, none⟩ = some (.slice (some ⟨b, off, none⟩) (p.length + 1) cap) := row_cell q 2
      have d0 := cell_below d0 hb0
      clear q
      go_wp2_with fail
      go_ret
      exact ⟨rfl, hb0⟩
end Go.Proofs.YtohkbcdnlmjcjaaDoor
