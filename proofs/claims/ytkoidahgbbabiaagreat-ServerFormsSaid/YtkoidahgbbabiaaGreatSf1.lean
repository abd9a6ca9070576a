/- Texts of one proof, one behind another. -/
import Derived.WalkKit
import Derived.WalkSpells
import Derived.WalkLawsBesides
import Derived.OrdersHeld
import Derived.Deep.RegionHeld
import Derived.Lib.Hide
import Derived.Outline
import Derived.Deep.DeepFit
import Derived.KernelRfl
import Derived.Test.YtkoidahgbbabiaaGreatRows
import Derived.ProofKit
import Derived.OpenShut
import Derived.Deep.Heap
import Derived.Laws.Tables
import Derived.Laws.CopyOwn
import Derived.Laws.Rows
import Derived.Deep.WholeRow
import Derived.Deep.Slices
import Derived.OwnWalk
import Derived.Maps.AppendAt
import Derived.Deep.MidRow
import Derived.Lib.SlBuf
import Derived.Maps.Range
import Derived.DeepKeys4
import Derived.LoopTactic
import Derived.Deep.DeepCutAuto
import Derived.LoopN
import Derived.Lib.SliceRun
import Derived.SizedLaws
/-
  SMALL LAWS FOR A STATEMENT THAT DRAWS ITS ORDER AND HOLDS CALLS THAT MAKE MEMORY: its operations are taken one by one; 'S' holds of the world throughout. And what is known of memory that was there before.
-/
namespace Go.Proofs.YtkoidahgbbabiaaGreat
open Go.RowKit

theorem zp1 (a : Act) (v : Value) (d : Option Tmp) : a.put d v = (match d with | some d => { tmps := a.tmps.setIfInBounds d v, defers := a.defers } | none => a) := by cases d <;> rfl
theorem zp3 {α : Type} (l : List α) (i : Nat) (a : α) : l.toArray.setIfInBounds i a = (l.set i a).toArray := List.setIfInBounds_toArray ..
theorem zp4 {α : Type} {a b : α} {l : List α} : (a :: l).set 0 b = b :: l := List.set_cons_zero
theorem zp5 {α : Type} {a b : α} {l : List α} {n : Nat} : (a :: l).set (n + 1) b = a :: l.set n b := List.set_cons_succ
theorem ret_int {k : IntKind} {a b : Int} (h : a = b) : Ending.returned (.int k a) = .returned (.int k b) := by rw [h]
theorem ret_bool {a b : Bool} (h : a = b) : Ending.returned (.bool a) = .returned (.bool b) := by rw [h]
theorem at0 {α : Type} {x : α} {l : List α} : (List.toArray (x :: l))[0]? = some x := by simp
theorem atS {α : Type} {x y : α} {l : List α} {n : Nat} (h : (List.toArray l)[n]? = some x) : (List.toArray (y :: l))[n + 1]? = some x := by simpa using h
section
variable {P : Program} {ops : Array Oper} {Q : Exit → Act → World → Prop} {md : Region.Mode} {S : World → Prop}
theorem rg_no {i : Nat} {oi : Oper} {fuel : Nat} {listed : Array Bool} {a : Act} {w : World} (hi : ops[i]? = some oi)
    (hs : Region.noSelect ops = true) (hf : Region.free md ops listed i = true) (hr : (Region.ready md ops listed).contains i = true)
    (hQ : ∀ c a w, Q (.panic c) (a.put oi.dst undef) w → Q (.panic c) a w) (hw : Region.wanted oi (yielded ops a.tmps) = false) (hS : S w)
    (h : wpAnyH P md ops Q S fuel (listed.setIfInBounds i true) (a.put oi.dst undef) w) : wpAnyH P md ops Q S (fuel + 1) listed a w :=
  wpAnyH_take hi hs hf hr hQ (.inr ⟨hw, rfl⟩) hS h
theorem rg_yes {i : Nat} {oi : Oper} {v : Value} {fuel : Nat} {listed : Array Bool} {a : Act} {w : World} (hi : ops[i]? = some oi)
    (hs : Region.noSelect ops = true) (hf : Region.free md ops listed i = true) (hr : (Region.ready md ops listed).contains i = true)
    (hQ : ∀ c a w, Q (.panic c) (a.put oi.dst v) w → Q (.panic c) a w) (hw : Region.wanted oi (yielded ops a.tmps) = true) (hy : ∀ w, S w → (execOp a.eval oi).run P w = .ok (.value v) w) (hS : S w)
    (h : wpAnyH P md ops Q S fuel (listed.setIfInBounds i true) (a.put oi.dst v) w) : wpAnyH P md ops Q S (fuel + 1) listed a w :=
  wpAnyH_take hi hs hf hr hQ (.inl ⟨hw, hy⟩) hS h
theorem rg_call {i : Nat} {oi : Oper} {fuel : Nat} {listed : Array Bool} {a : Act} {w : World} (hi : ops[i]? = some oi)
    (hr : Region.ready md ops listed = [i]) (hw : Region.wanted oi (yielded ops a.tmps) = true)
    (h : ∀ K' : Act → World → Prop, Shut (∀ a w, S w → (S w → wpAnyH P md ops Q S fuel (listed.setIfInBounds i true) a w) → K' a w) → Oper.wp P oi a w K' Q) : wpAnyH P md ops Q S (fuel + 1) listed a w :=
  wpAnyH_ready (rs := [i]) hr (by simp) (AllReadyH.cons hi (fun K hK => by rw [if_pos hw]; exact h K hK) AllReadyH.nil)
end
theorem cell_below {W W' : World} {a : Addr} {v : Value} (h : W.cell? a = some v) (hb : Below W.heap.size W W') : W'.cell? a = some v :=
  (hb.cell (World.block_lt_of_cell? W a h)).trans h
theorem below_step {B : Nat} {w W W' : World} (h : Below B w W) (hB : B ≤ w.heap.size) (hb : Below W.heap.size W W') : Below B w W' :=
  h.trans (hb.mono (Nat.le_trans hB h.size))
theorem below_on {w W W' : World} (h : Below w.heap.size w W) (hb : Below W.heap.size W W') : Below w.heap.size w W' := below_step h (Nat.le_refl _) hb
theorem below_same (w : World) : Below w.heap.size w w := Below.refl _ _
theorem size_lt {W : World} {b o : Nat} {v : Value} (h : W.cell? ⟨b, o, none⟩ = some v) : b < W.heap.size := World.block_lt_of_cell? W _ h
theorem box2 (w : World) (v0 v1 : Value) (T : TypeId) : ∃ W0, W0 = w.alloc (.cells #[v0, v1] T) ∧ W0.cell? ⟨w.heap.size, 0, none⟩ = some v0 ∧ W0.cell? ⟨w.heap.size, 1, none⟩ = some v1 ∧ Below w.heap.size w W0 := by
  refine ⟨_, rfl, ?_, ?_, (Below.refl _ _).alloc (Nat.le_refl _) _⟩ <;> simp
theorem box22 (w : World) (v0 v1 u0 u1 : Value) (T U : TypeId) : ∃ W0, W0 = (w.alloc (.cells #[v0, v1] T)).alloc (.cells #[u0, u1] U) ∧ W0.cell? ⟨w.heap.size, 0, none⟩ = some v0 ∧ W0.cell? ⟨w.heap.size, 1, none⟩ = some v1 ∧
    W0.cell? ⟨w.heap.size + 1, 0, none⟩ = some u0 ∧ W0.cell? ⟨w.heap.size + 1, 1, none⟩ = some u1 ∧ Below w.heap.size w W0 := by
  refine ⟨_, rfl, ?_, ?_, ?_, ?_, ((Below.refl _ _).alloc (Nat.le_refl _) _).alloc (by simp) _⟩ <;> simp
theorem calls_below {P : Program} {f : FuncId} {args : Array Value} {w : World} {E : Ending → Prop} (h : Calls P f args w fun e w' => E e ∧ w = w') : Calls P f args w fun e w' => E e ∧ Below w.heap.size w w' :=
  h.mono fun _ _ ⟨a, b⟩ => ⟨a, b ▸ below_same _⟩
end Go.Proofs.YtkoidahgbbabiaaGreat
/-
  FOR THE STATEMENTS' LAST STEP: what the arguments are, by their types.
-/
namespace Go.Proofs.YtkoidahgbbabiaaGreat
open Go.RowKit Go.ChangeShapes Go.WideShapes Go.ChangeAt
theorem fr_own : ownKnob Tryz.prog.godebug = none := by kernel_rfl
theorem fr_laidOut : laidOutB Tryz.prog = true := by kernel_rfl
section
variable {w : World} {r : Reach} {b : Nat}
set_option maxRecDepth 100000 in
theorem cell_int {t : TypeId} {k : IntKind} {v : Value} (ht : Tryz.prog.underlying t = some (.int k)) (h : Cell.okWide Tryz.prog w r b t v) : ∃ n, v = .int k n ∧ k.has n := by
  simp only [Cell.okWide, ht] at h
  cases v <;> simp_all [Cell.ok]
theorem has_i64 {n : Int} (h : IntKind.i64.has n) : -9223372036854775808 ≤ n ∧ n ≤ 9223372036854775807 := by
  simp [IntKind.has, IntKind.min, IntKind.max, IntKind.bits, IntKind.signed] at h; omega
set_option maxRecDepth 100000 in
theorem open_i64 {v : Value} (h : Value.okWide Tryz.prog w r b 3 v) : ∃ n, v = .int .i64 n ∧ -9223372036854775808 ≤ n ∧ n ≤ 9223372036854775807 := by
  simp only [Value.okWide, Tryz.underlying3] at h
  obtain ⟨n, rfl, hn⟩ := cell_int Tryz.underlying3 h
  exact ⟨n, rfl, has_i64 hn⟩
end
end Go.Proofs.YtkoidahgbbabiaaGreat
/-
  A BLOCK KNOWN WHOLE: its cells; what a store turns.
-/
namespace Go.Proofs.YtkoidahgbbabiaaGreat
open Go.RowKit
section
variable {W W' : World}
theorem row_lt {b : Nat} {o : Obj} (h : W.heap[b]? = some o) : b < W.heap.size := (Array.getElem?_eq_some_iff.1 h).1
theorem row_cell {b : Nat} {cs : Array Value} {t : TypeId} (h : W.heap[b]? = some (.cells cs t (0, 0))) (i : Nat) : W.cell? ⟨b, i, none⟩ = cs[i]? := by simp [World.cell?, h]
theorem row_free {b : Nat} {cs : Array Value} {t : TypeId} (h : W.heap[b]? = some (.cells cs t (0, 0))) (i : Nat) : W.frozen? ⟨b, i, none⟩ = false := by simp [World.frozen?, h]
theorem set_same {b : Nat} {cs : Array Value} {t : TypeId} (h : W.heap[b]? = some (.cells cs t (0, 0))) (i : Nat) (v : Value) : (W.setCell ⟨b, i, none⟩ v).heap[b]? = some (.cells (cs.setIfInBounds i v) t (0, 0)) := by
  rw [setCell_eq_setRow W b i _ _ _ _ h]
  exact setRow_heap W b _ _ _ _ h
theorem set_other {b : Nat} (g i : Nat) (v : Value) (hne : b ≠ g) : (W.setCell ⟨g, i, none⟩ v).heap[b]? = W.heap[b]? := Deep.blk_setCell_other W ⟨g, i, none⟩ v b hne
end
theorem exec_ld {P : Program} {oi : Oper} {ev : Operand → Value} {w : World} (ty : TypeId) (x : Operand) (ho : oi.op = .load ty x)
    (g : Nat) (hx : ev x = .pointer (some ⟨g, 0, none⟩)) (t : TypeId) (cs : Array Value) (fr : Nat × Nat) (d : TypeDesc) (hg : w.heap[g]? = some (.cells cs t fr))
    (hu : P.underlying ty = some d) (hd : (match d with | .struct _ | .array _ _ => true | _ => false) = true) (hi : (P.info? ty).map (·.size) = some cs.size) :
    (execOp ev oi).run P w = .ok (.value (.agg cs)) w := by
  unfold execOp
  simp only [ho, hx, Instr.loadAt, Instr.sureAddr, Sem.run_bind, Sem.run_pure, Result.andThen_ok, run_loadVar_row w g t ty cs fr d hg hu hd hi]
section
variable {P : Program} {ops : Array Oper} {rest : List Oper} {o : Oper} {a : Act} {w : World} {Q : Exit → Act → World → Prop}
theorem ld_at (hgd : Region.wanted o (yielded ops a.tmps) = true) (ty : TypeId) (x : Operand) (ho : o.op = .load ty x)
    (g : Nat) (hx : a.eval x = .pointer (some ⟨g, 0, none⟩)) (t : TypeId) (cs : Array Value) (fr : Nat × Nat) (d : TypeDesc) (hg : w.heap[g]? = some (.cells cs t fr))
    (hu : P.underlying ty = some d) (hd : (match d with | .struct _ | .array _ _ => true | _ => false) = true) (hi : (P.info? ty).map (·.size) = some cs.size)
    (h : wpList P ops Q rest (a.put o.dst (.agg cs)) w) : wpList P ops Q (o :: rest) a w := by
  unfold wpList
  rw [if_pos hgd]
  exact .inl (wp_load_row ty x ho g hx t cs fr d hg hu hd hi h)
theorem st_row (hgd : o.guard = none) (ty : TypeId) (x y : Operand) (ho : o.op = .store ty x y)
    (g : Nat) (hx : a.eval x = .pointer (some ⟨g, 0, none⟩)) (t : TypeId) (old cs : Array Value) (hy : a.eval y = .agg cs) (hg : w.heap[g]? = some (.cells old t (0, 0))) (hi : (P.info? ty).map (·.size) = some cs.size) (hs : old.size = cs.size) (h1 : cs.all (·.oneCell') = true)
    (h : wpList P ops Q rest (a.put o.dst undef) (w.setRow g cs)) : wpList P ops Q (o :: rest) a w :=
  wpList_plain hgd fun _ hK => by
    unfold Oper.wp execOp
    simp only [ho, hx, hy, Instr.storeAt, Instr.sureAddr, Sem.run_bind, Sem.run_pure, Result.andThen_ok, run_storeVar_row w g t ty old cs hg hi hs h1]
    exact hK _ _ h
theorem st_fresh (hgd : o.guard = none) (ty : TypeId) (x y : Operand) (ho : o.op = .store ty x y)
    (hx : a.eval x = .pointer (some ⟨w.heap.size, 0, none⟩)) (c c' : Array Value) (hy : a.eval y = .agg c') (hi : (P.info? ty).map (·.size) = some c'.size) (hs : c.size = c'.size) (h1 : c'.all (·.oneCell') = true)
    (h : wpList P ops Q rest (a.put o.dst undef) (w.alloc (.cells c' ty))) : wpList P ops Q (o :: rest) a (w.alloc (.cells c ty)) :=
  wpList_plain hgd fun _ hK => by
    unfold Oper.wp execOp
    simp only [ho, hx, hy, Instr.storeAt, Instr.sureAddr, Sem.run_bind, Sem.run_pure, Result.andThen_ok, run_storeVar_new w ty c c' hi hs h1]
    exact hK _ _ h
def Halt (p : Prop) : Prop := p
theorem halt_at {X : Op} (_ho : o.op = X) (h : Halt (wpList P ops Q (o :: rest) a w)) : wpList P ops Q (o :: rest) a w := h
end
end Go.Proofs.YtkoidahgbbabiaaGreat
/-
  SLICES OF WHATEVER: what a slice holds, element by element: 'k' cells each, 'R' says what an element's cells are; slices that a caller hands in, opened.
-/
namespace Go.Proofs.YtkoidahgbbabiaaGreat
open Go.RowKit Go.ChangeShapes Go.WideShapes
def SlAt {α : Type} (w : World) (k : Nat) (R : α → List Value → Prop) (v : Value) (xs : List α) : Prop :=
  ∃ (sa : Option Addr) (cap : Nat), v = .slice sa xs.length cap ∧ xs.length ≤ cap ∧ cap ≤ maxLen ∧ (0 < xs.length → ∃ b off : Nat, sa = some ⟨b, off, none⟩ ∧
    ∀ (i : Nat) (x : α), xs[i]? = some x → ∃ cs : List Value, cs.length = k ∧ R x cs ∧ ∀ (j : Nat) (c : Value), cs[j]? = some c → w.cell? ⟨b, off + i * k + j, none⟩ = some c)
theorem SlAt.below {α : Type} {w w' : World} {k : Nat} {R R' : α → List Value → Prop} {v : Value} {xs : List α} (h : SlAt w k R v xs) (hb : Below w.heap.size w w') (hR : ∀ x cs, R x cs → R' x cs) : SlAt w' k R' v xs := by
  obtain ⟨sa, cap, h1, h2, h3, h4⟩ := h
  refine ⟨sa, cap, h1, h2, h3, fun h0 => ?_⟩
  obtain ⟨b, off, h5, h6⟩ := h4 h0
  refine ⟨b, off, h5, fun i x hx => ?_⟩
  obtain ⟨cs, c1, c2, c3⟩ := h6 i x hx
  exact ⟨cs, c1, hR _ _ c2, fun j c hc => cell_below (c3 j c hc) hb⟩
theorem SlAt.nil {α : Type} {w : World} {k : Nat} {R : α → List Value → Prop} : SlAt w k R (.slice none 0 0) ([] : List α) := ⟨none, 0, rfl, Nat.le_refl _, by simp [maxLen], fun h => absurd h (by simp)⟩
theorem SlAt.imp {α : Type} {w : World} {k : Nat} {R R' : α → List Value → Prop} {v : Value} {xs : List α} (h : SlAt w k R v xs) (hR : ∀ x cs, x ∈ xs → R x cs → R' x cs) : SlAt w k R' v xs := by
  obtain ⟨sa, cap, h1, h2, h3, h4⟩ := h
  refine ⟨sa, cap, h1, h2, h3, fun h0 => ?_⟩
  obtain ⟨b, off, h5, h6⟩ := h4 h0
  refine ⟨b, off, h5, fun i x hx => ?_⟩
  obtain ⟨cs, c1, c2, c3⟩ := h6 i x hx
  exact ⟨cs, c1, hR _ _ (List.mem_of_getElem? hx) c2, c3⟩
section
variable {H : Type} {enc : TypeId × Value → H} {w : World} {base : Nat} {spare : Nat → Bool} {held : Bool}
theorem open_sl {α : Type} {t e : TypeId} {k f : Nat} {R : α → List Value → Prop} {cs : List Value} {x : DataW H × List MemPlace} (ht : Tryz.prog.underlying t = some (.slice e)) (hk : Tryz.prog.cellsOf e = k) (hk0 : 0 < k)
    (hR : ∀ f cs y, DataW.trod enc Tryz.prog w base spare held f e cs = some y → ∃ a : α, R a cs) (h : DataW.trod enc Tryz.prog w base spare held f t cs = some x) : ∃ v xs, cs = [v] ∧ SlAt w k R v xs := by
  rcases Deep.open_slice ht h with ⟨h1, _⟩ | ⟨a, len, cap, m, n, D, Pl, h1, _, hlc, hcap, hm, _, hx⟩
  · exact ⟨_, [], h1, SlAt.nil⟩
  · rw [hk] at hx
    have hlm : len ≤ m := by rw [hm]; split <;> omega
    have hone : ∀ i : Fin len, ∃ z : α × List Value, z.2.length = k ∧ R z.1 z.2 ∧ ∀ j c, z.2[j]? = some c → w.cell? (a.add (i.val * k + j)) = some c := by
      intro i
      obtain ⟨cs', hcs, ht⟩ := hx i.val (by omega)
      obtain ⟨y, hy⟩ := hR _ _ _ ht
      obtain ⟨_, hl, hat⟩ := World.cells?_some hcs
      refine ⟨(y, cs'), hl, hy, fun j c hc => ?_⟩
      have hj : j < k := by rw [← hl]; exact (List.getElem?_eq_some_iff.1 hc).1
      have := hat j hj
      rw [Deep.add_add] at this
      rw [this]; exact hc
    have hch := Classical.axiomOfChoice hone
    obtain ⟨g, hg⟩ := hch
    refine ⟨_, List.ofFn fun i => (g i).1, h1, some a, cap, by simp, by simp; omega, hcap, fun h0 => ?_⟩
    have h0' : 0 < len := by simpa using h0
    have hsp : a.spot = none := by
      obtain ⟨e1, _, e3⟩ := hg ⟨0, h0'⟩
      have hlt : 0 < (g ⟨0, h0'⟩).2.length := by rw [e1]; exact hk0
      have hc := e3 0 _ (List.getElem?_eq_getElem hlt)
      have e : a.add (0 * k + 0) = a := by unfold Addr.add; simp
      simp only at hc
      rw [e] at hc
      unfold World.cell? at hc
      cases hq : a.spot with
      | none => rfl
      | some q => rw [hq] at hc; simp at hc; split at hc <;> simp at hc
    have had : ∀ k, a.add k = ⟨a.block, a.off + k, none⟩ := fun k => by
      unfold Addr.add
      split
      · rename_i hk; subst hk; cases a; simp at hsp; simp [hsp]
      · rfl
    refine ⟨a.block, a.off, by cases a; simp at hsp; simp [hsp], fun i s hi => ?_⟩
    have hil : i < len := by
      have := (List.getElem?_eq_some_iff.1 hi).1
      simpa using this
    rw [List.getElem?_ofFn] at hi
    simp [hil] at hi
    subst hi
    obtain ⟨e1, e2, e3⟩ := hg ⟨i, hil⟩
    refine ⟨_, e1, e2, fun j c hc => ?_⟩
    have := e3 j c hc
    rw [had, ← Nat.add_assoc] at this
    exact this
def I64r (n : Int) : Prop := -9223372036854775808 ≤ n ∧ n ≤ 9223372036854775807
def IntC (n : Int) (cs : List Value) : Prop := cs = [.int .i64 n] ∧ I64r n
theorem sl_i64 {f : Nat} {c : List Value} {y : DataW H × List MemPlace} (h : DataW.trod enc Tryz.prog w base spare held f 3 c = some y) : ∃ n : Int, IntC n c := by
  obtain ⟨n, h1, _, h2⟩ := DataW.trod_int Tryz.underlying3 h
  refine ⟨n, h1, ?_⟩
  simp [Lit.wf, IntKind.min, IntKind.max, IntKind.bits, IntKind.signed] at h2
  unfold I64r; omega
end
abbrev IntsAt (w : World) (v : Value) (xs : List Int) : Prop := SlAt w 1 IntC v xs
theorem IntsAt.below {w w' : World} {v : Value} {xs : List Int} (h : IntsAt w v xs) (hb : Below w.heap.size w w') : IntsAt w' v xs := SlAt.below h hb fun _ _ h => h
end Go.Proofs.YtkoidahgbbabiaaGreat
/-
  SLICES OF THE CALL'S OWN, element by element: made by append; made at once and filled.
-/
namespace Go.Proofs.YtkoidahgbbabiaaGreat
open Go.RowKit
section
variable {α : Type} {k : Nat} {C : α → List Value}
theorem flat_len (hC : ∀ x, (C x).length = k) (xs : List α) : (xs.flatMap C).length = xs.length * k := by
  induction xs with
  | nil => simp
  | cons x xs ih => rw [List.flatMap_cons, List.length_append, ih, hC, List.length_cons, Nat.succ_mul]; omega
theorem flat_get (hC : ∀ x, (C x).length = k) : ∀ (xs : List α) (i : Nat) (x : α), xs[i]? = some x → ∀ j, j < k → (xs.flatMap C)[i * k + j]? = (C x)[j]?
  | [], i, x, h, _, _ => by simp at h
  | y :: xs, 0, x, h, j, hj => by
    simp at h; subst h
    rw [List.flatMap_cons, Nat.zero_mul, Nat.zero_add, List.getElem?_append_left (by rw [hC]; exact hj)]
  | y :: xs, i + 1, x, h, j, hj => by
    have ih := flat_get hC xs i x (by simpa using h) j hj
    rw [List.flatMap_cons, List.getElem?_append_right (by rw [hC, Nat.succ_mul]; omega), hC, ← ih]
    congr 1
    rw [Nat.succ_mul]; omega
theorem own_slat {w : World} {B : Nat} {e : TypeId} {v : Value} {xs : List α} (hC : ∀ x, (C x).length = k) (h : w.ownsRow B e k v xs.length (xs.flatMap C)) : SlAt w k (fun x cs => cs = C x) v xs := by
  obtain ⟨_, ⟨rfl, h0⟩ | ⟨g, cap, cur, rfl, _, hg, hn, hm, _, hcur⟩⟩ := h
  · obtain rfl := List.length_eq_zero_iff.1 h0
    exact SlAt.nil
  · refine ⟨some ⟨g, 0, none⟩, cap, rfl, hn, hm, fun _ => ⟨g, 0, rfl, fun i x hx => ⟨C x, hC x, rfl, fun j c hc => ?_⟩⟩⟩
    have hj : j < k := by rw [← hC x]; exact (List.getElem?_eq_some_iff.1 hc).1
    have hi : i < xs.length := (List.getElem?_eq_some_iff.1 hx).1
    have hf := flat_get hC xs i x hx j hj
    rw [← hcur, hc, List.getElem?_take_of_lt (by
      have : (i + 1) * k ≤ xs.length * k := Nat.mul_le_mul_right _ hi
      rw [Nat.succ_mul] at this; omega)] at hf
    rw [row_cell hg, Nat.zero_add]
    simpa using hf
theorem own_below {w w' : World} {B : Nat} {e : TypeId} {n : Nat} {v : Value} {xs : List Value} (h : w.ownsRow B e k v n xs) (hb : Below w.heap.size w w') : w'.ownsRow B e k v n xs := by
  obtain ⟨h1, h2⟩ := h
  refine ⟨h1, h2.imp_right ?_⟩
  rintro ⟨g, cap, cur, h3, h4, h5, h6⟩
  exact ⟨g, cap, cur, h3, h4, (hb.block g (row_lt h5)).trans h5, h6⟩
theorem own_form_le {w : World} {B : Nat} {e : TypeId} {n : Nat} {v : Value} {xs : List Value} (h : w.ownsRow B e k v n xs) : ∀ g, v.ownBlock = some g → B ≤ g := by
  obtain ⟨_, ⟨rfl, _⟩ | ⟨g, cap, cur, rfl, hB, _⟩⟩ := h
  · intro g hg; cases hg
  · intro g' hg; cases hg; exact hB
theorem flat_snoc (xs : List α) (x : α) : (xs ++ [x]).flatMap C = xs.flatMap C ++ C x := by simp
theorem flat_one (h : ∀ x, ∀ u ∈ C x, u.oneCell' = true) (xs : List α) : ∀ u ∈ xs.flatMap C, u.oneCell' = true := by
  intro u hu
  obtain ⟨x, _, hx⟩ := List.mem_flatMap.1 hu
  exact h x u hx
def Filled (w : World) (b k : Nat) (C : α → List Value) (xs : List α) : Prop := ∀ (i : Nat) (x : α), xs[i]? = some x → w.rangeAt b (i * k) (C x)
theorem there_below {w w' : World} {b o n : Nat} (h : w.there b o n) (hb : Below w.heap.size w w') : w'.there b o n := by
  intro j hj
  obtain ⟨h1, h2⟩ := h j hj
  obtain ⟨v, hv⟩ := Option.isSome_iff_exists.1 h1
  have hlt := size_lt hv
  exact ⟨by rw [cell_below hv hb]; rfl, (hb.frozen (p := ⟨b, o + j, none⟩) hlt).trans h2⟩
theorem Filled.below {w w' : World} {b : Nat} {xs : List α} (h : Filled w b k C xs) (hb : Below w.heap.size w w') : Filled w' b k C xs := fun i x hx j v hv => cell_below (h i x hx j v hv) hb
theorem Filled.set {w : World} {b n : Nat} {xs : List α} (hC : ∀ x, (C x).length = k) (h : Filled w b k C xs) (ht : w.there b 0 (n * k)) (hn : xs.length < n) (x : α) :
    Filled (w.setCells b (xs.length * k) (C x)) b k C (xs ++ [x]) ∧ (w.setCells b (xs.length * k) (C x)).there b 0 (n * k) := by
  refine ⟨fun i y hy => ?_, World.there_setCells ht _ _ _⟩
  by_cases hi : i < xs.length
  · rw [List.getElem?_append_left hi] at hy
    refine World.rangeAt_setCells_apart (h i y hy) _ _ _ (.inr (.inl ?_))
    rw [hC]
    have : (i + 1) * k ≤ xs.length * k := Nat.mul_le_mul_right _ hi
    rw [Nat.succ_mul] at this; exact this
  · rw [List.getElem?_append_right (by omega)] at hy
    have e : i = xs.length := by
      have := (List.getElem?_eq_some_iff.1 hy).1
      simp at this; omega
    subst e
    simp at hy; subst hy
    refine World.rangeAt_setCells_same _ _ _ _ (fun j hj => ?_)
    rw [hC] at hj
    have := ht (xs.length * k + j) (by
      have : (xs.length + 1) * k ≤ n * k := Nat.mul_le_mul_right _ hn
      rw [Nat.succ_mul] at this; omega)
    rw [Nat.zero_add] at this
    exact this
theorem Filled.slat {w : World} {b n : Nat} {xs : List α} (hC : ∀ x, (C x).length = k) (h : Filled w b k C xs) (hn : xs.length = n) (hm : n ≤ maxLen) : SlAt w k (fun x cs => cs = C x) (.slice (some ⟨b, 0, none⟩) n n) xs := by
  subst hn
  refine ⟨_, _, rfl, Nat.le_refl _, hm, fun _ => ⟨b, 0, rfl, fun i x hx => ⟨C x, hC x, rfl, fun j c hc => ?_⟩⟩⟩
  rw [Nat.zero_add]
  exact h i x hx j c hc
theorem Filled.nil {w : World} {b : Nat} : Filled w b k C ([] : List α) := fun i x hx => by simp at hx
theorem there_own {w : World} {B : Nat} {e : TypeId} {g n : Nat} {xs : List Value} (h : w.ownsRow B e k (.slice (some ⟨g, 0, none⟩) n n) n xs) : w.there g 0 (n * k) := by
  obtain ⟨_, ⟨h1, _⟩ | ⟨g', cap, cur, h1, _, hg, _, _, hsz, _⟩⟩ := h
  · cases h1
  · injection h1 with e1 e2 e3
    injection e1 with e1
    injection e1 with e1
    subst e1; subst e3
    intro j hj
    have hlt : j < cur.size := by rw [hsz]; exact hj
    rw [Nat.zero_add]
    exact ⟨by rw [row_cell hg, Array.getElem?_eq_getElem hlt]; rfl, row_free hg j⟩
end
theorem new_cells (W : World) (C : Array Value) (T : TypeId) : ∀ (j : Nat) (u : Value), C.toList[j]? = some u → (W.alloc (.cells C T)).cell? ((⟨W.heap.size, 0, none⟩ : Addr).add j) = some u := by
  intro j u hu
  have hr := heap_alloc_new W (.cells C T)
  have : (⟨W.heap.size, 0, none⟩ : Addr).add j = ⟨W.heap.size, j, none⟩ := by
    unfold Addr.add; split
    · next h => rw [h]
    · simp
  rw [this, row_cell hr]
  simpa using hu
theorem own_empty {w : World} {B : Nat} {e : TypeId} {k : Nat} (hB : B ≤ w.heap.size) : (w.alloc (.cells #[] e)).ownsRow B e k (.slice (some ⟨w.heap.size, 0, none⟩) 0 0) 0 [] :=
  ⟨by simp, .inr ⟨w.heap.size, 0, #[], rfl, hB, heap_alloc_new w _, Nat.le_refl _, by simp [maxLen], by simp, by simp⟩⟩
end Go.Proofs.YtkoidahgbbabiaaGreat
/-
  MAPS AS LISTS OF PAIRS: a map's block in memory holds, one by one, the pairs of a list; look-up, store, delete, length, range.
-/
namespace Go.Proofs.YtkoidahgbbabiaaGreat
open Go.RowKit Go.Maps Go.ChangeMaps Go.MapKept
section
variable {κ υ : Type} [DecidableEq κ]
structure KeyEnc (P : Program) (kt : TypeId) (ek : κ → Value) (ok : κ → Prop) : Prop where
  K : Keyed P kt
  lit : ∀ a, ok a → ∃ l, keyOf P kt (ek a) = some l
  inj : ∀ a b, ek a = ek b → a = b
def MapT (ek : κ → Value) (ev : υ → Value) (ok : κ → Prop) (W : World) (b : Nat) (l : List (κ × υ)) : Prop :=
  ∃ es clock, W.heap[b]? = some (.map es clock) ∧ Stamped es clock ∧ es.size ≤ maxLen ∧ es.toList.map (fun e => (e.key, e.val)) = l.map (fun p => (ek p.1, ev p.2)) ∧ ∀ p ∈ l, ok p.1
def getL (l : List (κ × υ)) (a : κ) : Option υ := (l.find? fun p => p.1 = a).map (·.2)
def putL (l : List (κ × υ)) (a : κ) (v : υ) : List (κ × υ) := if (getL l a).isSome then l.map (fun p => if p.1 = a then (a, v) else p) else l ++ [(a, v)]
def delL (l : List (κ × υ)) (a : κ) : List (κ × υ) := l.filter fun p => !decide (p.1 = a)
def KeysApart (l : List (κ × υ)) : Prop := l.Pairwise fun p q => p.1 ≠ q.1
theorem getL_none {l : List (κ × υ)} {a : κ} : getL l a = none ↔ ∀ p ∈ l, p.1 ≠ a := by
  unfold getL
  simp [List.find?_eq_none]
theorem getL_mem {l : List (κ × υ)} {a : κ} {v : υ} (h : getL l a = some v) : (a, v) ∈ l := by
  unfold getL at h
  simp only [Option.map_eq_some_iff] at h
  obtain ⟨p, hp, rfl⟩ := h
  have h1 := List.find?_some hp
  have h2 := List.mem_of_find?_eq_some hp
  simp at h1
  rw [← h1]; exact h2
theorem getL_of_mem {l : List (κ × υ)} {a : κ} {v : υ} (hd : KeysApart l) (h : (a, v) ∈ l) : getL l a = some v := by
  induction l with
  | nil => cases h
  | cons p r ih =>
    unfold KeysApart at hd
    obtain ⟨h1, h2⟩ := List.pairwise_cons.1 hd
    by_cases hp : p.1 = a
    · rcases List.mem_cons.1 h with e | h
      · unfold getL; rw [List.find?_cons_of_pos (by simpa using hp), ← e]; rfl
      · exact absurd hp (h1 _ h)
    · rcases List.mem_cons.1 h with e | h
      · rw [← e] at hp; exact absurd rfl hp
      · have := ih h2 h
        unfold getL at this ⊢
        rw [List.find?_cons_of_neg (by simpa using hp)]; exact this
theorem getL_iff {l : List (κ × υ)} {a : κ} {v : υ} (hd : KeysApart l) : getL l a = some v ↔ (a, v) ∈ l := ⟨getL_mem, getL_of_mem hd⟩
theorem getL_append (l m : List (κ × υ)) (a : κ) : getL (l ++ m) a = (getL l a).or (getL m a) := by
  unfold getL; rw [List.find?_append]; cases l.find? _ <;> rfl
theorem getL_map_put (l : List (κ × υ)) (a b : κ) (v : υ) : getL (l.map fun p => if p.1 = a then (a, v) else p) b = if b = a then (getL l a).map (fun _ => v) else getL l b := by
  induction l with
  | nil => simp [getL]
  | cons p r ih =>
    unfold getL at ih ⊢
    simp only [List.map_cons, List.find?_cons]
    by_cases hp : p.1 = a
    · by_cases hb : b = a
      · subst hb; simp [hp]
      · have hb' : ¬ a = b := fun e => hb e.symm
        have : ¬ p.1 = b := by rw [hp]; exact hb'
        simp only [hp, if_true, hb', if_false, hb] at ih ⊢
        simpa [hb'] using ih
    · by_cases hb : b = a
      · subst hb; simp only [hp, if_false, decide_false, if_true] at ih ⊢; exact ih
      · by_cases hpb : p.1 = b
        · subst hpb; simp [hp]
        · simp only [hp, if_false, hpb, decide_false, hb] at ih ⊢; exact ih
theorem getL_put (l : List (κ × υ)) (a b : κ) (v : υ) : getL (putL l a v) b = if b = a then some v else getL l b := by
  unfold putL
  split
  · rename_i h
    rw [getL_map_put]
    split
    · cases hg : getL l a with
      | none => rw [hg] at h; cases h
      | some x => rfl
    · rfl
  · rename_i h
    rw [getL_append]
    have hn : getL l a = none := by cases hg : getL l a with
      | none => rfl
      | some x => rw [hg] at h; exact absurd rfl h
    by_cases hb : b = a
    · subst hb; rw [hn, if_pos rfl]; simp [getL]
    · rw [if_neg hb]
      have : getL [(a, v)] b = none := by rw [getL_none]; intro p hp; simp at hp; subst hp; exact fun e => hb e.symm
      rw [this]; cases getL l b <;> rfl
theorem getL_del (l : List (κ × υ)) (a b : κ) : getL (delL l a) b = if b = a then none else getL l b := by
  split
  · rename_i h; subst h
    rw [getL_none]; intro p hp
    have := (List.mem_filter.1 hp).2
    simpa using this
  · rename_i h
    unfold getL delL
    rw [List.find?_filter]
    congr 1
    have : (fun p : κ × υ => decide ((!decide (p.1 = a)) = true ∧ decide (p.1 = b) = true)) = fun p => decide (p.1 = b) := by
      funext p
      by_cases hp : p.1 = b
      · subst hp; simp [h]
      · simp [hp]
    rw [this]
theorem apart_del {l : List (κ × υ)} (hd : KeysApart l) (a : κ) : KeysApart (delL l a) := hd.filter _
theorem mem_put {l : List (κ × υ)} {a : κ} {v : υ} {p : κ × υ} (h : p ∈ putL l a v) : (p ∈ l ∧ p.1 ≠ a) ∨ p = (a, v) := by
  unfold putL at h
  split at h
  · obtain ⟨q, hq, rfl⟩ := List.mem_map.1 h
    by_cases hp : q.1 = a
    · right; simp [hp]
    · left; simp only [hp, if_false]; exact ⟨hq, hp⟩
  · rename_i hn
    rcases List.mem_append.1 h with h | h
    · left
      refine ⟨h, ?_⟩
      have hg : getL l a = none := by cases hg : getL l a with
        | none => rfl
        | some x => rw [hg] at hn; exact absurd rfl hn
      exact getL_none.1 hg p h
    · right; simpa using h
theorem mem_del {l : List (κ × υ)} {a : κ} {p : κ × υ} : p ∈ delL l a ↔ p ∈ l ∧ p.1 ≠ a := by
  unfold delL; simp
theorem len_put (l : List (κ × υ)) (a : κ) (v : υ) : (putL l a v).length = if (getL l a).isSome then l.length else l.length + 1 := by
  unfold putL; split <;> simp
theorem len_del {l : List (κ × υ)} (hd : KeysApart l) (a : κ) : (delL l a).length = if (getL l a).isSome then l.length - 1 else l.length := by
  induction l with
  | nil => simp [delL, getL]
  | cons p r ih =>
    unfold KeysApart at hd
    obtain ⟨h1, h2⟩ := List.pairwise_cons.1 hd
    have ih := ih h2
    by_cases hp : p.1 = a
    · have e : getL (p :: r) a = some p.2 := by unfold getL; rw [List.find?_cons_of_pos (by simpa using hp)]; rfl
      have n : getL r a = none := getL_none.2 fun q hq e => h1 q hq (hp.trans e.symm)
      rw [n] at ih
      rw [e]
      unfold delL at ih ⊢
      rw [List.filter_cons_of_neg (by simpa using hp)]
      simpa using ih
    · have e : getL (p :: r) a = getL r a := by unfold getL; rw [List.find?_cons_of_neg (by simpa using hp)]
      rw [e]
      unfold delL at ih ⊢
      rw [List.filter_cons_of_pos (by simpa using hp)]
      cases hg : (getL r a).isSome
      · rw [hg] at ih; simp at ih ⊢; exact ih
      · rw [hg] at ih
        have : 0 < r.length := by
          cases r with
          | nil => simp [getL] at hg
          | cons _ _ => simp
        simp at ih ⊢; omega
variable {P : Program} {kt et t : TypeId} {ek : κ → Value} {ev : υ → Value} {ok : κ → Prop} {W W' : World} {b : Nat} {l : List (κ × υ)}
omit [DecidableEq κ] in
theorem MapT.lt (h : MapT ek ev ok W b l) : b < W.heap.size := by
  obtain ⟨es, c, hb, _⟩ := h
  exact (Array.getElem?_eq_some_iff.1 hb).1
omit [DecidableEq κ] in
theorem MapT.of_block (h : MapT ek ev ok W b l) (hb : W'.heap[b]? = W.heap[b]?) : MapT ek ev ok W' b l := by
  obtain ⟨es, c, h1, r⟩ := h
  exact ⟨es, c, hb.trans h1, r⟩
omit [DecidableEq κ] in
theorem MapT.below (h : MapT ek ev ok W b l) (hb : Below W.heap.size W W') : MapT ek ev ok W' b l := h.of_block (hb.block b h.lt)
omit [DecidableEq κ] in
theorem MapT.drew (h : MapT ek ev ok W b l) : MapT ek ev ok W.drew b l := h
omit [DecidableEq κ] in
theorem MapT.made (W : World) : MapT ek ev ok (W.alloc (.map #[] 0)) W.heap.size ([] : List (κ × υ)) :=
  ⟨#[], 0, heap_alloc_new W _, stamped_empty 0, by simp, rfl, by simp⟩
omit [DecidableEq κ] in
theorem MapT.short (h : MapT ek ev ok W b l) : l.length ≤ maxLen := by
  obtain ⟨es, c, _, _, hs, hl, _⟩ := h
  have := congrArg List.length hl
  simp at this; omega
omit [DecidableEq κ] in
theorem entry_of {es : Array MapEntry} (hl : es.toList.map (fun e => (e.key, e.val)) = l.map (fun p => (ek p.1, ev p.2))) {e : MapEntry} (he : e ∈ es.toList) : ∃ p ∈ l, e.key = ek p.1 ∧ e.val = ev p.2 := by
  have : (e.key, e.val) ∈ l.map (fun p => (ek p.1, ev p.2)) := by rw [← hl]; exact List.mem_map.2 ⟨e, he, rfl⟩
  obtain ⟨p, hp, he⟩ := List.mem_map.1 this
  simp at he
  exact ⟨p, hp, he.1.symm, he.2.symm⟩
omit [DecidableEq κ] in
theorem entry_to {es : Array MapEntry} (hl : es.toList.map (fun e => (e.key, e.val)) = l.map (fun p => (ek p.1, ev p.2))) {p : κ × υ} (hp : p ∈ l) : ∃ e ∈ es.toList, e.key = ek p.1 ∧ e.val = ev p.2 := by
  have : (ek p.1, ev p.2) ∈ es.toList.map (fun e => (e.key, e.val)) := by rw [hl]; exact List.mem_map.2 ⟨p, hp, rfl⟩
  obtain ⟨e, he, hq⟩ := List.mem_map.1 this
  simp at hq
  exact ⟨e, he, hq.1, hq.2⟩
omit [DecidableEq κ] in
theorem MapT.apart (h : MapT ek ev ok W b l) : KeysApart l := by
  obtain ⟨es, c, _, hst, _, hl, _⟩ := h
  have h3 := ((stamped_iff es c).1 hst).2.2
  have h4 : (es.toList.map (fun e => (e.key, e.val))).Pairwise fun x y => x.1 ≠ y.1 := by rw [List.pairwise_map]; exact h3
  rw [hl, List.pairwise_map] at h4
  exact h4.imp fun {p q} h e => h (by rw [e])
omit [DecidableEq κ] in
theorem keys_ok (E : KeyEnc P kt ek ok) {es : Array MapEntry} (hl : es.toList.map (fun e => (e.key, e.val)) = l.map (fun p => (ek p.1, ev p.2))) (hok : ∀ p ∈ l, ok p.1) : ∀ e ∈ es.toList, ∃ x, keyOf P kt e.key = some x := by
  intro e he
  obtain ⟨p, hp, h1, _⟩ := entry_of hl he
  rw [h1]; exact E.lit _ (hok p hp)
theorem find_at (E : KeyEnc P kt ek ok) {es : Array MapEntry} (hl : es.toList.map (fun e => (e.key, e.val)) = l.map (fun p => (ek p.1, ev p.2))) (hok : ∀ p ∈ l, ok p.1) (hd : KeysApart l) (a : κ) (ha : ok a) (w : World) :
    (getL l a = none ∧ (Instr.findKey kt (ek a) es.toList).run P w = .ok none w ∧ ∀ e ∈ es.toList, e.key ≠ ek a) ∨
    ∃ v j e, getL l a = some v ∧ (Instr.findKey kt (ek a) es.toList).run P w = .ok (some (j, e.val)) w ∧ es.toList[j]? = some e ∧ e.key = ek a ∧ e.val = ev v ∧ l[j]? = some (a, v) := by
  obtain ⟨x, hx⟩ := E.lit a ha
  rcases E.K.find w hx es.toList (keys_ok E hl hok) with ⟨h1, h2⟩ | ⟨j, e, h1, h2, h3⟩
  · refine .inl ⟨getL_none.2 fun p hp hpa => ?_, h1, h2⟩
    obtain ⟨e, he, e1, _⟩ := entry_to hl hp
    exact h2 e he (by rw [e1, hpa])
  · have hj : (es.toList.map (fun e => (e.key, e.val)))[j]? = some (e.key, e.val) := by rw [List.getElem?_map, h2]; rfl
    rw [hl, List.getElem?_map] at hj
    cases hlj : l[j]? with
    | none => rw [hlj] at hj; cases hj
    | some p =>
      rw [hlj] at hj
      simp at hj
      have ea : p.1 = a := E.inj _ _ (hj.1.trans h3)
      refine .inr ⟨p.2, j, e, ?_, h1, h2, h3, hj.2.symm, by rw [← ea]; exact hlj⟩
      rw [getL_iff hd, ← ea]
      exact List.mem_of_getElem? hlj
theorem MapT.look (E : KeyEnc P kt ek ok) (h : MapT ek ev ok W b l) (ht : P.underlying t = some (.map kt et)) (a : κ) (ha : ok a) {z : Value} (hz : ∀ w, (zeroValue et).run P w = .ok z w) (w : World) (hw : w.heap[b]? = W.heap[b]?) (c : Bool) :
    (Instr.lookup t (.map (some b)) (ek a) c).run P w = .ok (if c then .tuple #[((getL l a).map ev).getD z, .bool (getL l a).isSome] else ((getL l a).map ev).getD z) w := by
  have hd := h.apart
  obtain ⟨es, ck, hb, hst, _, hl, hok⟩ := h
  rw [← hw] at hb
  obtain ⟨x, hx⟩ := E.lit a ha
  rcases find_at E hl hok hd a ha w with ⟨h1, h2, _⟩ | ⟨v, j, e, h1, h2, _, _, h5, _⟩
  · rw [h1]
    unfold Instr.lookup
    simp [run_underlying ht, MapKept.run_getObj_map hb, E.K.check w _ hx, h2, hz, Result.andThen]
  · rw [h1]
    unfold Instr.lookup
    simp [run_underlying ht, MapKept.run_getObj_map hb, E.K.check w _ hx, h2, Result.andThen, h5]
theorem setBlock_below {B : Nat} {o : Obj} (hb : B ≤ b) : Below B W (setBlock W b o) :=
  ⟨rfl, rfl, rfl, by simp [setBlock], fun k hk => by simp [setBlock]; rw [Array.getElem?_setIfInBounds_ne (by omega)]⟩
structure Kept (F : Nat → Prop) (w w' : World) : Prop where
  os : w'.os = w.os
  tape : w'.tape = w.tape
  output : w'.output = w.output
  size : w.heap.size ≤ w'.heap.size
  block : ∀ k, k < w.heap.size → ¬ F k → w'.heap[k]? = w.heap[k]?
theorem Kept.refl (F : Nat → Prop) (w : World) : Kept F w w := ⟨rfl, rfl, rfl, Nat.le_refl _, fun _ _ _ => rfl⟩
theorem Kept.trans {F : Nat → Prop} {a b c : World} (h : Kept F a b) (k : Kept F b c) : Kept F a c :=
  ⟨k.os.trans h.os, k.tape.trans h.tape, k.output.trans h.output, Nat.le_trans h.size k.size, fun i hi hf => (k.block i (Nat.lt_of_lt_of_le hi h.size) hf).trans (h.block i hi hf)⟩
theorem Kept.of_below {F : Nat → Prop} {w w' : World} (h : Below w.heap.size w w') : Kept F w w' := ⟨h.os, h.tape, h.output, h.size, fun k hk _ => h.block k hk⟩
theorem Kept.below {F : Nat → Prop} {w w' : World} {B : Nat} (h : Kept F w w') (hB : B ≤ w.heap.size) (hF : ∀ k, F k → B ≤ k) : Below B w w' :=
  ⟨h.os, h.tape, h.output, h.size, fun k hk => h.block k (by omega) (fun hf => by have := hF k hf; omega)⟩
theorem Kept.imp {F G : Nat → Prop} {w w' : World} (h : Kept F w w') (hFG : ∀ k, F k → G k) : Kept G w w' := ⟨h.os, h.tape, h.output, h.size, fun k hk hg => h.block k hk (fun hf => hg (hFG k hf))⟩
theorem Kept.setBlock {F : Nat → Prop} {w : World} {b : Nat} (o : Obj) (hF : F b) : Kept F w (ChangeMaps.setBlock w b o) :=
  ⟨rfl, rfl, rfl, by simp [ChangeMaps.setBlock], fun k hk hf => by
    have : b ≠ k := fun e => hf (e ▸ hF)
    simp [ChangeMaps.setBlock, this]⟩
theorem Kept.setCell {F : Nat → Prop} {w : World} (p : Addr) (v : Value) (hF : F p.block) : Kept F w (w.setCell p v) :=
  ⟨rfl, rfl, rfl, by simp [World.setCell], fun k hk hf => Below.heap_setCell _ _ _ _ (fun e => hf (by rw [e]; exact hF))⟩
theorem Kept.drew {F : Nat → Prop} {w w' : World} (h : Kept F w w') : Kept F w w'.drew := ⟨h.os, h.tape, h.output, h.size, h.block⟩
omit [DecidableEq κ] in
theorem MapT.kept {F : Nat → Prop} (h : MapT ek ev ok W b l) (hk : Kept F W W') (hb : ¬ F b) : MapT ek ev ok W' b l := h.of_block (hk.block b h.lt hb)
theorem Kept.cell {F : Nat → Prop} {w w' : World} {a : Addr} {v : Value} (hk : Kept F w w') (h : w.cell? a = some v) (hF : ¬ F a.block) : w'.cell? a = some v := by
  rw [World.cell?_of_block (hk.block a.block (World.block_lt_of_cell? w a h) hF)]; exact h
theorem MapT.store (E : KeyEnc P kt ek ok) (h : MapT ek ev ok W b l) (ht : P.underlying t = some (.map kt et)) (a : κ) (ha : ok a) (v : υ) (hroom : l.length < maxLen) (w : World) (hw : w.heap[b]? = W.heap[b]?) :
    ∃ o, (Instr.mapUpdate t (.map (some b)) (ek a) (ev v)).run P w = .ok () (setBlock w b o) ∧ MapT ek ev ok (setBlock w b o) b (putL l a v) := by
  have hd := h.apart
  obtain ⟨es, ck, hb, hst, hsz, hl, hok⟩ := h
  rw [← hw] at hb
  obtain ⟨x, hx⟩ := E.lit a ha
  have hlen := congrArg List.length hl
  simp at hlen
  have hpok : ∀ p ∈ putL l a v, ok p.1 := by
    intro p hp
    rcases mem_put hp with ⟨hp, _⟩ | rfl
    · exact hok p hp
    · exact ha
  rcases find_at E hl hok hd a ha w with ⟨h1, h2, h3⟩ | ⟨v0, j, e, h1, h2, h3, h4, h5, h6⟩
  · refine ⟨.map (es.push ⟨ek a, ev v, ck⟩) (ck + 1), ?_, ⟨_, _, heap_setBlock_same hb _, stamped_push hst h3, by simp; omega, ?_, hpok⟩⟩
    · unfold Instr.mapUpdate
      simp [run_underlying ht, MapKept.run_getObj_map hb, E.K.check w _ hx, h2, MapKept.run_setObj_map _ hb, Result.andThen, setBlock]
    · unfold putL; rw [h1]; simp [hl]
  · have hj : es[j]? = some e := by simpa using h3
    refine ⟨.map (es.modify j fun e' => { e' with key := ek a, val := ev v }) ck, ?_, ⟨_, _, heap_setBlock_same hb _, stamped_modify hst _ _ (fun _ _ => rfl) (fun e' _ he' => by rw [hj] at he'; cases he'; exact h4.symm), by simp; omega, ?_, hpok⟩⟩
    · unfold Instr.mapUpdate
      simp [run_underlying ht, MapKept.run_getObj_map hb, E.K.check w _ hx, h2, hj, h4, E.K.stays w hx, MapKept.run_setObj_map _ hb, Result.andThen, setBlock]
    · rw [Array.toList_modify, modify_eq_set _ _ _ _ h3, List.map_set, hl]
      unfold putL
      rw [h1, if_pos (by rfl : (some v0).isSome = true), List.map_map]
      apply List.ext_getElem?
      intro i
      rw [List.getElem?_set, List.getElem?_map, List.getElem?_map]
      by_cases hij : j = i
      · subst hij
        have hjl : j < l.length := (List.getElem?_eq_some_iff.1 h6).1
        rw [if_pos rfl, h6]
        simp [hjl]
      · rw [if_neg hij]
        cases hi : l[i]? with
        | none => simp
        | some p =>
          have : p.1 ≠ a := by
            intro e1
            have hpw := List.pairwise_iff_getElem.1 hd
            obtain ⟨hjl, hje⟩ := List.getElem?_eq_some_iff.1 h6
            obtain ⟨hil, hie⟩ := List.getElem?_eq_some_iff.1 hi
            rcases Nat.lt_or_gt_of_ne hij with hlt | hgt
            · exact hpw j i hjl hil hlt (by rw [hje, hie, e1])
            · exact hpw i j hil hjl hgt (by rw [hje, hie, e1])
          simp [this]
theorem MapT.drop (E : KeyEnc P kt ek ok) (h : MapT ek ev ok W b l) (ht : P.underlying t = some (.map kt et)) (a : κ) (ha : ok a) (w : World) (hw : w.heap[b]? = W.heap[b]?) :
    ∃ o, (∀ ty, (Builtin.delete_ #[t, kt] ty #[.map (some b), ek a]).run P w = .ok (.tuple #[]) (setBlock w b o)) ∧ MapT ek ev ok (setBlock w b o) b (delL l a) := by
  have hd := h.apart
  obtain ⟨es, ck, hb, hst, hsz, hl, hok⟩ := h
  rw [← hw] at hb
  obtain ⟨x, hx⟩ := E.lit a ha
  have hpok : ∀ p ∈ delL l a, ok p.1 := fun p hp => hok p (mem_del.1 hp).1
  rcases find_at E hl hok hd a ha w with ⟨h1, h2, h3⟩ | ⟨v0, j, e, h1, h2, h3, h4, h5, h6⟩
  · refine ⟨.map es ck, ?_, ⟨_, _, heap_setBlock_same hb _, hst, hsz, ?_, hpok⟩⟩
    · intro ty; simp [Builtin.delete_, run_underlying ht, MapKept.run_getObj_map hb, E.K.check w _ hx, h2, MapKept.run_setObj_map _ hb, Result.andThen, setBlock]
    · have : delL l a = l := by
        unfold delL
        rw [List.filter_eq_self]
        intro p hp
        simpa using getL_none.1 h1 p hp
      rw [this]; exact hl
  · have hjl : j < es.toList.length := (List.getElem?_eq_some_iff.1 h3).1
    have hjs : j < es.size := by simpa using hjl
    have hsub : (es.eraseIdxIfInBounds j).toList = es.toList.eraseIdx j := by
      unfold Array.eraseIdxIfInBounds
      rw [dif_pos hjs]
      simp
    refine ⟨.map (es.eraseIdxIfInBounds j) ck, ?_, ⟨_, _, heap_setBlock_same hb _, stamped_erase hst j, Nat.le_trans (MapFrom.size_erase es j) hsz, ?_, hpok⟩⟩
    · intro ty; simp [Builtin.delete_, run_underlying ht, MapKept.run_getObj_map hb, E.K.check w _ hx, h2, MapKept.run_setObj_map _ hb, Result.andThen, setBlock]
    · rw [hsub, map_eraseIdx, hl, ← map_eraseIdx]
      congr 1
      unfold delL
      exact (filter_eq_eraseIdx (fun p : κ × υ => decide (p.1 = a)) l j (a, v0) h6 (by simp) (hd.imp fun {p q} hne ⟨e1, e2⟩ => hne ((of_decide_eq_true e1).trans (of_decide_eq_true e2).symm))).symm
omit [DecidableEq κ] in
theorem MapT.len (h : MapT ek ev ok W b l) (ht : P.underlying t = some (.map kt et)) (ty : TypeId) (w : World) (hw : w.heap[b]? = W.heap[b]?) :
    (Builtin.len_ #[t] ty #[.map (some b)]).run P w = .ok (.int .i64 l.length) w := by
  obtain ⟨es, ck, hb, hst, hsz, hl, hok⟩ := h
  rw [← hw] at hb
  have hlen := congrArg List.length hl
  simp at hlen
  have : goInt (es.size : Int) = .int .i64 (l.length : Int) := by rw [hlen]; rfl
  simp [Builtin.len_, run_underlying ht, MapKept.run_getObj_map hb, ← this]
end
end Go.Proofs.YtkoidahgbbabiaaGreat
/-
  What is known of memory by the blocks that it lies in; the rows of slices, cell by cell.
-/
namespace Go.Proofs.YtkoidahgbbabiaaGreat
open Go.RowKit
def On (F : Nat → Prop) (w : World) (Q : World → Prop) : Prop := ∀ W : World, (∀ k, F k → k < w.heap.size → W.heap[k]? = w.heap[k]?) → Q W
theorem On.self {F : Nat → Prop} {w : World} {Q : World → Prop} (h : On F w Q) : Q w := h w fun _ _ _ => rfl
theorem On.wide {F G : Nat → Prop} {w : World} {Q : World → Prop} (h : On F w Q) (hFG : ∀ k, F k → k < w.heap.size → G k) : On G w Q := fun W hW => h W fun k hk hl => hW k (hFG k hk hl) hl
theorem On.imp {F : Nat → Prop} {w : World} {Q R : World → Prop} (h : On F w Q) (hQ : ∀ W, Q W → R W) : On F w R := fun W hW => hQ W (h W hW)
theorem On.and {F : Nat → Prop} {w : World} {Q R : World → Prop} (h : On F w Q) (k : On F w R) : On F w fun W => Q W ∧ R W := fun W hW => ⟨h W hW, k W hW⟩
theorem On.kept {F G : Nat → Prop} {w w' : World} {Q : World → Prop} (h : On F w Q) (hk : Kept G w w') (hne : ∀ k, k < w.heap.size → F k → ¬ G k) : On F w' Q := fun W hW =>
  h W fun k hF hl => (hW k hF (Nat.lt_of_lt_of_le hl hk.size)).trans (hk.block k hl (hne k hl hF))
theorem On.below {F : Nat → Prop} {w w' : World} {Q : World → Prop} (h : On F w Q) (hb : Below w.heap.size w w') : On F w' Q := h.kept (G := fun _ => False) (Kept.of_below hb) (fun _ _ _ h => h)
theorem own_on {w : World} {B k n : Nat} {e : TypeId} {v : Value} {xs : List Value} (h : w.ownsRow B e k v n xs) : On (fun b => v.ownBlock = some b) w fun W => W.ownsRow B e k v n xs := by
  intro W hW
  obtain ⟨h1, h2⟩ := h
  refine ⟨h1, h2.imp_right ?_⟩
  rintro ⟨g, cap, cur, rfl, h4, h5, h6⟩
  exact ⟨g, cap, cur, rfl, h4, (hW g rfl (row_lt h5)).trans h5, h6⟩
abbrev Fresh (lo : Nat) (w : World) (Q : World → Prop) : Prop := On (fun k => lo ≤ k) w Q
theorem own_fresh {w : World} {B k n : Nat} {e : TypeId} {v : Value} {xs : List Value} (h : w.ownsRow B e k v n xs) : Fresh B w fun W => W.ownsRow B e k v n xs := (own_on h).wide fun b hb _ => own_form_le h b hb
section
variable {α : Type} {k : Nat}
theorem rows_len {rows : List (List Value)} (h : ∀ r ∈ rows, r.length = k) : rows.flatten.length = rows.length * k := by
  induction rows with
  | nil => simp
  | cons x xs ih => rw [List.flatten_cons, List.length_append, ih (fun r hr => h r (List.mem_cons_of_mem _ hr)), h x (List.mem_cons_self ..), List.length_cons, Nat.succ_mul]; omega
theorem rows_get : ∀ {rows : List (List Value)}, (∀ r ∈ rows, r.length = k) → ∀ (i : Nat) (r : List Value), rows[i]? = some r → ∀ j, j < k → rows.flatten[i * k + j]? = r[j]?
  | [], _, i, x, h, _, _ => by simp at h
  | y :: xs, hk, 0, x, h, j, hj => by
    simp at h; subst h
    rw [List.flatten_cons, Nat.zero_mul, Nat.zero_add, List.getElem?_append_left (by rw [hk y (List.mem_cons_self ..)]; exact hj)]
  | y :: xs, hk, i + 1, x, h, j, hj => by
    have ih := rows_get (rows := xs) (fun r hr => hk r (List.mem_cons_of_mem _ hr)) i x (by simpa using h) j hj
    have hy := hk y (List.mem_cons_self ..)
    rw [List.flatten_cons, List.getElem?_append_right (by rw [hy, Nat.succ_mul]; omega), hy, ← ih]
    congr 1
    rw [Nat.succ_mul]; omega
theorem rows_set {rows : List (List Value)} (h : ∀ r ∈ rows, r.length = k) {i : Nat} {r : List Value} (hr : rows[i]? = some r) {j : Nat} (hj : j < k) (u : Value) : (rows.set i (r.set j u)).flatten = rows.flatten.set (i * k + j) u := by
  induction rows generalizing i with
  | nil => simp at hr
  | cons x xs ih =>
    cases i with
    | zero =>
      simp at hr; subst hr
      have hx := h x (List.mem_cons_self ..)
      rw [List.set_cons_zero, List.flatten_cons, List.flatten_cons, Nat.zero_mul, Nat.zero_add, List.set_append_left _ _ (by omega)]
    | succ i =>
      have hx := h x (List.mem_cons_self ..)
      rw [List.set_cons_succ, List.flatten_cons, List.flatten_cons, ih (fun r hr => h r (List.mem_cons_of_mem _ hr)) (by simpa using hr), List.set_append_right _ _ (by rw [hx, Nat.succ_mul]; omega)]
      congr 2
      rw [hx, Nat.succ_mul]; omega
theorem slat_rows {w : World} {R : α → List Value → Prop} {v : Value} {xs : List α} (h : SlAt w k R v xs) : ∃ (sa : Option Addr) (cap : Nat) (rows : List (List Value)), v = .slice sa xs.length cap ∧ xs.length ≤ cap ∧ cap ≤ maxLen ∧ rows.length = xs.length ∧ (∀ r ∈ rows, r.length = k) ∧
    (∀ (i : Nat) (x : α), xs[i]? = some x → ∃ cs, rows[i]? = some cs ∧ R x cs) ∧ (0 < xs.length → ∃ b off, sa = some ⟨b, off, none⟩ ∧ ∀ q u, rows.flatten[q]? = some u → w.cell? ⟨b, off + q, none⟩ = some u) := by
  obtain ⟨sa, cap, h1, h2, h3, h4⟩ := h
  by_cases h0 : 0 < xs.length
  · obtain ⟨b, off, h5, h6⟩ := h4 h0
    have hone : ∀ i : Fin xs.length, ∃ cs : List Value, cs.length = k ∧ R xs[i] cs ∧ ∀ (j : Nat) (c : Value), cs[j]? = some c → w.cell? ⟨b, off + i * k + j, none⟩ = some c := fun i => h6 i.val _ (List.getElem?_eq_getElem i.isLt)
    obtain ⟨g, hg⟩ := Classical.axiomOfChoice hone
    have hk : ∀ r ∈ List.ofFn g, r.length = k := fun r hr => by
      obtain ⟨i, rfl⟩ := List.mem_ofFn.1 hr
      exact (hg i).1
    refine ⟨sa, cap, List.ofFn g, h1, h2, h3, by simp, hk, fun i x hx => ?_, fun _ => ⟨b, off, h5, fun q u hq => ?_⟩⟩
    · obtain ⟨hi, rfl⟩ := List.getElem?_eq_some_iff.1 hx
      exact ⟨g ⟨i, hi⟩, by rw [List.getElem?_ofFn]; simp [hi], (hg ⟨i, hi⟩).2.1⟩
    · by_cases hk0 : 0 < k
      · have hql := (List.getElem?_eq_some_iff.1 hq).1
        rw [rows_len hk, List.length_ofFn] at hql
        have hi : q / k < xs.length := Nat.div_lt_of_lt_mul (by rw [Nat.mul_comm]; exact hql)
        have hj := Nat.mod_lt q hk0
        have e : q = q / k * k + q % k := by rw [Nat.mul_comm]; exact (Nat.div_add_mod q k).symm
        have hget : (List.ofFn g)[q / k]? = some (g ⟨q / k, hi⟩) := by rw [List.getElem?_ofFn]; simp [hi]
        have := rows_get hk (q / k) _ hget (q % k) hj
        rw [← e, hq] at this
        have := (hg ⟨q / k, hi⟩).2.2 (q % k) u this.symm
        simp only at this
        rw [Nat.add_assoc, ← e] at this
        exact this
      · have hql := (List.getElem?_eq_some_iff.1 hq).1
        rw [rows_len hk] at hql
        have : k = 0 := by omega
        subst this
        simp at hql
  · have : xs = [] := List.length_eq_zero_iff.1 (by omega)
    subst this
    exact ⟨sa, cap, [], h1, h2, h3, rfl, fun r hr => by simp at hr, fun i x hx => by simp at hx, fun h => absurd h h0⟩
theorem own_rows {w : World} {B : Nat} {e : TypeId} {v : Value} {xs : List α} {rows : List (List Value)} {R : α → List Value → Prop} (h : w.ownsRow B e k v xs.length rows.flatten) (hk : ∀ r ∈ rows, r.length = k)
    (hR : ∀ (i : Nat) (x : α), xs[i]? = some x → ∃ cs, rows[i]? = some cs ∧ R x cs) : SlAt w k R v xs := by
  obtain ⟨_, ⟨rfl, h0⟩ | ⟨g, cap, cur, rfl, _, hg, hn, hm, _, hcur⟩⟩ := h
  · obtain rfl := List.length_eq_zero_iff.1 h0
    exact SlAt.nil
  · refine ⟨some ⟨g, 0, none⟩, cap, rfl, hn, hm, fun _ => ⟨g, 0, rfl, fun i x hx => ?_⟩⟩
    obtain ⟨cs, hcs, hr⟩ := hR i x hx
    have hl := hk cs (List.mem_of_getElem? hcs)
    refine ⟨cs, hl, hr, fun j c hc => ?_⟩
    have hj : j < k := by rw [← hl]; exact (List.getElem?_eq_some_iff.1 hc).1
    have hi : i < xs.length := (List.getElem?_eq_some_iff.1 hx).1
    have hf := rows_get hk i cs hcs j hj
    rw [← hcur, hc, List.getElem?_take_of_lt (by
      have : (i + 1) * k ≤ xs.length * k := Nat.mul_le_mul_right _ hi
      rw [Nat.succ_mul] at this; omega)] at hf
    rw [row_cell hg, Nat.zero_add]
    simpa using hf
theorem own_set {w : World} {B n : Nat} {e : TypeId} {v : Value} {xs : List Value} {g c : Nat} (h : w.ownsRow B e k v n xs) (hv : v = .slice (some ⟨g, 0, none⟩) n c) (j : Nat) (u : Value) :
    (w.setCell ⟨g, j, none⟩ u).ownsRow B e k v n (xs.set j u) := by
  obtain ⟨h1, ⟨rfl, _⟩ | ⟨g', cap, cur, rfl, hB, hg, hn, hm, hsz, hcur⟩⟩ := h
  · cases hv
  · injection hv with hv _ _
    injection hv with hv
    injection hv with hv
    subst hv
    refine ⟨by simp [h1], .inr ⟨_, cap, cur.setIfInBounds j u, rfl, hB, set_same hg j u, hn, hm, by simp [hsz], ?_⟩⟩
    rw [← hcur, Array.toList_setIfInBounds, List.take_set]
theorem own_row_cell {w : World} {B n : Nat} {e : TypeId} {v : Value} {xs : List Value} {g c : Nat} (h : w.ownsRow B e k v n xs) (hv : v = .slice (some ⟨g, 0, none⟩) n c) {j : Nat} {u : Value} (hj : xs[j]? = some u) :
    w.cell? ⟨g, j, none⟩ = some u ∧ w.frozen? ⟨g, j, none⟩ = false ∧ B ≤ g ∧ g < w.heap.size := by
  obtain ⟨h1, ⟨rfl, _⟩ | ⟨g', cap, cur, rfl, hB, hg, hn, hm, hsz, hcur⟩⟩ := h
  · cases hv
  · injection hv with hv _ _
    injection hv with hv
    injection hv with hv
    subst hv
    refine ⟨?_, row_free hg j, hB, row_lt hg⟩
    have hl := (List.getElem?_eq_some_iff.1 hj).1
    rw [h1] at hl
    rw [← hcur, List.getElem?_take_of_lt hl] at hj
    rw [row_cell hg]
    simpa using hj
theorem own_slice {w : World} {B n : Nat} {e : TypeId} {v : Value} {xs : List Value} (h : w.ownsRow B e k v n xs) : (v = .slice none 0 0 ∧ n = 0) ∨ ∃ g c, v = .slice (some ⟨g, 0, none⟩) n c := by
  obtain ⟨_, h | ⟨g, cap, cur, rfl, _⟩⟩ := h
  · exact .inl h
  · exact .inr ⟨g, cap, rfl⟩
end
end Go.Proofs.YtkoidahgbbabiaaGreat
/-
  ATTRIBUTES: what they hold, in memory; attributes that a caller hands in, opened.
-/
namespace Go.Proofs.YtkoidahgbbabiaaGreat
open Go.RowKit Go.ChangeShapes Go.WideShapes
abbrev Sg := Bool × List Int
abbrev Oth := Int × List Nat
structure At where
  has : Int
  origin : Int
  path : List Sg
  hop : Nat
  med : Int
  loc : Int
  aggrAs : Int
  aggrId : Nat
  comms : List Int
  others : List Oth
def ByteC (n : Nat) (cs : List Value) : Prop := cs = [.int .u8 n] ∧ n < 256
abbrev BytesAt (w : World) (v : Value) (xs : List Nat) : Prop := SlAt w 1 ByteC v xs
def SegC (w : World) (s : Sg) (cs : List Value) : Prop := ∃ u, cs = [.bool s.1, u] ∧ IntsAt w u s.2
def OthC (w : World) (o : Oth) (cs : List Value) : Prop := ∃ u, cs = [.int .i64 o.1, u] ∧ I64r o.1 ∧ BytesAt w u o.2
abbrev PathAt (w : World) (v : Value) (p : List Sg) : Prop := SlAt w 2 (SegC w) v p
abbrev OthersAt (w : World) (v : Value) (os : List Oth) : Prop := SlAt w 2 (OthC w) v os
theorem BytesAt.below {w w' : World} {v : Value} {xs : List Nat} (h : BytesAt w v xs) (hb : Below w.heap.size w w') : BytesAt w' v xs := SlAt.below h hb fun _ _ h => h
theorem SegC.below {w w' : World} {s : Sg} {cs : List Value} (h : SegC w s cs) (hb : Below w.heap.size w w') : SegC w' s cs := by
  obtain ⟨u, h1, h2⟩ := h; exact ⟨u, h1, h2.below hb⟩
theorem OthC.below {w w' : World} {s : Oth} {cs : List Value} (h : OthC w s cs) (hb : Below w.heap.size w w') : OthC w' s cs := by
  obtain ⟨u, h1, h2, h3⟩ := h; exact ⟨u, h1, h2, h3.below hb⟩
theorem PathAt.below {w w' : World} {v : Value} {p : List Sg} (h : PathAt w v p) (hb : Below w.heap.size w w') : PathAt w' v p := SlAt.below h hb fun _ _ h => h.below hb
theorem OthersAt.below {w w' : World} {v : Value} {p : List Oth} (h : OthersAt w v p) (hb : Below w.heap.size w w') : OthersAt w' v p := SlAt.below h hb fun _ _ h => h.below hb
def atV (a : At) (vp vc vo : Value) : List Value := [.int .i64 a.has, .int .i64 a.origin, vp, .int .u32 a.hop, .int .i64 a.med, .int .i64 a.loc, .int .i64 a.aggrAs, .int .u32 a.aggrId, vc, vo]
def At.Rng (a : At) : Prop := I64r a.has ∧ I64r a.origin ∧ a.hop < 4294967296 ∧ I64r a.med ∧ I64r a.loc ∧ I64r a.aggrAs ∧ a.aggrId < 4294967296
def AtL (w : World) (a : At) (vp vc vo : Value) : Prop := PathAt w vp a.path ∧ IntsAt w vc a.comms ∧ OthersAt w vo a.others
theorem AtL.below {w w' : World} {a : At} {vp vc vo : Value} (h : AtL w a vp vc vo) (hb : Below w.heap.size w w') : AtL w' a vp vc vo := ⟨h.1.below hb, h.2.1.below hb, h.2.2.below hb⟩
def AtC (w : World) (a : At) (cs : List Value) : Prop := ∃ vp vc vo, cs = atV a vp vc vo ∧ a.Rng ∧ AtL w a vp vc vo
theorem AtC.below {w w' : World} {a : At} {cs : List Value} (h : AtC w a cs) (hb : Below w.heap.size w w') : AtC w' a cs := by
  obtain ⟨vp, vc, vo, h1, h2, h3⟩ := h; exact ⟨vp, vc, vo, h1, h2, h3.below hb⟩
section
variable {H : Type} {enc : TypeId × Value → H} {w : World} {base : Nat} {spare : Nat → Bool} {held : Bool}
theorem sl_u32 {f : Nat} {c : List Value} {y : DataW H × List MemPlace} (h : DataW.trod enc Tryz.prog w base spare held f 36 c = some y) : ∃ n : Nat, c = [.int .u32 n] ∧ n < 4294967296 := by
  obtain ⟨n, h1, _, h2⟩ := DataW.trod_int Tryz.underlying36 h
  simp [Lit.wf, IntKind.min, IntKind.max, IntKind.bits, IntKind.signed] at h2
  obtain ⟨m, rfl⟩ := Int.eq_ofNat_of_zero_le (show 0 ≤ n by omega)
  exact ⟨m, h1, by omega⟩
theorem sl_u8 {f : Nat} {c : List Value} {y : DataW H × List MemPlace} (h : DataW.trod enc Tryz.prog w base spare held f 5 c = some y) : ∃ n : Nat, ByteC n c := by
  obtain ⟨n, h1, _, h2⟩ := DataW.trod_int Tryz.underlying5 h
  simp [Lit.wf, IntKind.min, IntKind.max, IntKind.bits, IntKind.signed] at h2
  obtain ⟨m, rfl⟩ := Int.eq_ofNat_of_zero_le (show 0 ≤ n by omega)
  exact ⟨m, h1, by omega⟩
end
end Go.Proofs.YtkoidahgbbabiaaGreat
/-
  HOW LARGE what a caller hands in may be: slices of whatever and attributes, opened, each with the reach of its slices.
-/
namespace Go.Proofs.YtkoidahgbbabiaaGreat
open Go.RowKit Go.ChangeShapes Go.WideShapes
def Sz {H : Type} (P : Program) (t : TypeId) (d : DataW H) : Prop := ∀ n ∈ d.weights P t, n ≤ 140737488351232
theorem sz_of {H : Type} {P : Program} {ts : List TypeId} {ds : List (DataW H)} (h : (DataW.weightsEach P ts ds).all (· ≤ reachBytes) = true) {j : Nat} {t : TypeId} {d : DataW H} (ht : ts[j]? = some t) (hd : ds[j]? = some d) : Sz P t d := by
  intro n hn
  have := List.all_eq_true.1 h n (DataW.weights_mem_each ht hd n hn)
  exact of_decide_eq_true this
theorem mem_weightsAll {H : Type} {P : Program} {e : TypeId} : ∀ {ds : List (DataW H)} {d : DataW H}, d ∈ ds → ∀ n ∈ d.weights P e, n ∈ DataW.weightsAll P e ds
  | x :: ds, d, h, n, hn => by
    simp only [DataW.weightsAll, List.mem_append]
    rcases List.mem_cons.1 h with rfl | h
    · exact .inl hn
    · exact .inr (mem_weightsAll h n hn)
  | [], _, h, _, _ => by simp at h
theorem sz_field {H : Type} {P : Program} {t : TypeId} {fs : Array Field} (hu : P.underlying t = some (.struct fs)) {parts : List (DataW H)} (h : Sz P t (.agg parts)) {j : Nat} {u : TypeId} {d : DataW H} (hf : (fs.toList.map (·.type))[j]? = some u) (hd : parts[j]? = some d) : Sz P u d := by
  intro n hn
  refine h n ?_
  simp only [DataW.weights, hu]
  exact DataW.weights_mem_each hf hd n hn
section
variable {H : Type} {enc : TypeId × Value → H} {w : World} {base : Nat} {spare : Nat → Bool} {held : Bool}
theorem open_sl_sz {α : Type} {t e : TypeId} {k f bs : Nat} {R : α → List Value → Prop} {S : α → Prop} {cs : List Value} {x : DataW H × List MemPlace} (ht : Tryz.prog.underlying t = some (.slice e)) (hk : Tryz.prog.cellsOf e = k) (hb : Tryz.prog.bytesOf e = bs) (hk0 : 0 < k)
    (hR : ∀ f cs y, DataW.trod enc Tryz.prog w base spare held f e cs = some y → Sz Tryz.prog e y.1 → ∃ a : α, R a cs ∧ S a) (h : DataW.trod enc Tryz.prog w base spare held f t cs = some x) (hz : Sz Tryz.prog t x.1) :
    ∃ v xs, cs = [v] ∧ SlAt w k R v xs ∧ xs.length * bs ≤ 140737488351232 ∧ ∀ x ∈ xs, S x := by
  rcases Deep.open_slice ht h with ⟨h1, _⟩ | ⟨a, len, cap, m, n, D, Pl, h1, _, hlc, hcap, hm, he, hx⟩
  · exact ⟨_, [], h1, SlAt.nil, by simp, fun x hx => by simp at hx⟩
  · rw [hk] at hx
    have hlm : len ≤ m := by rw [hm]; split <;> omega
    have hz1 : ∀ i, i < len → Sz Tryz.prog e (D i) := by
      intro i hi q hq
      refine hz q ?_
      rw [he]
      simp only [DataW.weights, ht, List.mem_cons, List.mem_append]
      exact .inr (.inl (mem_weightsAll (List.mem_map.2 ⟨i, List.mem_range.2 hi, rfl⟩) q hq))
    have hz0 : len * bs ≤ 140737488351232 := by
      have := hz (((List.range len).map D).length * bs + ((List.range (m - len)).map fun j => D (len + j)).length * bs) (by
        rw [he]
        simp only [DataW.weights, ht, hb, List.mem_cons, ← Nat.add_mul]
        exact .inl trivial)
      simp at this
      omega
    have hone : ∀ i : Fin len, ∃ z : α × List Value, S z.1 ∧ z.2.length = k ∧ R z.1 z.2 ∧ ∀ j c, z.2[j]? = some c → w.cell? (a.add (i.val * k + j)) = some c := by
      intro i
      obtain ⟨cs', hcs, ht⟩ := hx i.val (by omega)
      obtain ⟨y, hy, hS⟩ := hR _ _ _ ht (hz1 i.val i.isLt)
      obtain ⟨_, hl, hat⟩ := World.cells?_some hcs
      refine ⟨(y, cs'), hS, hl, hy, fun j c hc => ?_⟩
      have hj : j < k := by rw [← hl]; exact (List.getElem?_eq_some_iff.1 hc).1
      have := hat j hj
      rw [Deep.add_add] at this
      rw [this]; exact hc
    have hch := Classical.axiomOfChoice hone
    obtain ⟨g, hg⟩ := hch
    refine ⟨_, List.ofFn fun i => (g i).1, h1, ⟨some a, cap, by simp, by simp; omega, hcap, fun h0 => ?_⟩, by simpa using hz0, fun x hx => ?_⟩
    · have h0' : 0 < len := by simpa using h0
      have hsp : a.spot = none := by
        obtain ⟨_, e1, _, e3⟩ := hg ⟨0, h0'⟩
        have hlt : 0 < (g ⟨0, h0'⟩).2.length := by rw [e1]; exact hk0
        have hc := e3 0 _ (List.getElem?_eq_getElem hlt)
        have e : a.add (0 * k + 0) = a := by unfold Addr.add; simp
        simp only at hc
        rw [e] at hc
        unfold World.cell? at hc
        cases hq : a.spot with
        | none => rfl
        | some q => rw [hq] at hc; simp at hc; split at hc <;> simp at hc
      have had : ∀ k, a.add k = ⟨a.block, a.off + k, none⟩ := fun k => by
        unfold Addr.add
        split
        · rename_i hk; subst hk; cases a; simp at hsp; simp [hsp]
        · rfl
      refine ⟨a.block, a.off, by cases a; simp at hsp; simp [hsp], fun i s hi => ?_⟩
      have hil : i < len := by
        have := (List.getElem?_eq_some_iff.1 hi).1
        simpa using this
      rw [List.getElem?_ofFn] at hi
      simp [hil] at hi
      subst hi
      obtain ⟨_, e1, e2, e3⟩ := hg ⟨i, hil⟩
      refine ⟨_, e1, e2, fun j c hc => ?_⟩
      have := e3 j c hc
      rw [had, ← Nat.add_assoc] at this
      exact this
    · obtain ⟨i, rfl⟩ := (List.mem_ofFn).1 hx
      exact (hg i).1
theorem sl_ints_sz {f : Nat} {c : List Value} {y : DataW H × List MemPlace} (h : DataW.trod enc Tryz.prog w base spare held f 39 c = some y) (hz : Sz Tryz.prog 39 y.1) : ∃ v xs, c = [v] ∧ IntsAt w v xs ∧ xs.length * 8 ≤ 140737488351232 := by
  obtain ⟨v, xs, h1, h2, h3, _⟩ := open_sl_sz (k := 1) (bs := 8) (R := IntC) (S := fun _ => True) Tryz.underlying39 (by kernel_rfl) (by kernel_rfl) (by decide) (fun _ _ _ h _ => by obtain ⟨n, hn⟩ := sl_i64 h; exact ⟨n, hn, trivial⟩) h hz
  exact ⟨v, xs, h1, h2, h3⟩
theorem sl_bytes_sz {f : Nat} {c : List Value} {y : DataW H × List MemPlace} (h : DataW.trod enc Tryz.prog w base spare held f 157 c = some y) (hz : Sz Tryz.prog 157 y.1) : ∃ v xs, c = [v] ∧ BytesAt w v xs ∧ xs.length * 1 ≤ 140737488351232 := by
  obtain ⟨v, xs, h1, h2, h3, _⟩ := open_sl_sz (k := 1) (bs := 1) (R := ByteC) (S := fun _ => True) Tryz.underlying157 (by kernel_rfl) (by kernel_rfl) (by decide) (fun _ _ _ h _ => by obtain ⟨n, hn⟩ := sl_u8 h; exact ⟨n, hn, trivial⟩) h hz
  exact ⟨v, xs, h1, h2, h3⟩
def SgSz (s : Sg) : Prop := s.2.length * 8 ≤ 140737488351232
def OthSz (o : Oth) : Prop := o.2.length ≤ 140737488351232
structure AtSz (a : At) : Prop where
  path : a.path.length * 32 ≤ 140737488351232
  segs : ∀ s ∈ a.path, SgSz s
  comms : a.comms.length * 8 ≤ 140737488351232
  others : a.others.length * 32 ≤ 140737488351232
  vals : ∀ o ∈ a.others, OthSz o
set_option maxRecDepth 100000 in
theorem sl_seg_sz {f : Nat} {cs : List Value} {x : DataW H × List MemPlace} (h : DataW.trod enc Tryz.prog w base spare held f 121 cs = some x) (hz : Sz Tryz.prog 121 x.1) : ∃ s : Sg, SegC w s cs ∧ SgSz s := by
  obtain ⟨xs, n, _, hxe, hl, hxl, hf⟩ := DataW.trod_struct Tryz.underlying121 h
  rw [hxe] at hz
  have hc2 : Tryz.prog.cellsOf 121 = 2 := by kernel_rfl
  have hcb : Tryz.prog.cellsOf 4 = 1 := by kernel_rfl
  have hci : Tryz.prog.cellsOf 39 = 1 := by kernel_rfl
  rw [hc2] at hl
  match cs, hl with
  | [c0, c1], _ =>
    match xs, hxl with
    | [x0, x1], _ =>
      have e0 := hf 0 _ rfl
      have e1 := hf 1 _ rfl
      simp [hcb, hci] at e0 e1
      obtain ⟨s, hs, _⟩ := DataW.trod_bool Tryz.underlying4 e0
      obtain ⟨v, l, hv, hi, hzl⟩ := sl_ints_sz e1 (sz_field Tryz.underlying121 hz (j := 1) rfl rfl)
      simp at hs hv
      subst hs; subst hv
      exact ⟨(s, l), ⟨c1, rfl, hi⟩, hzl⟩
set_option maxRecDepth 100000 in
theorem sl_other_sz {f : Nat} {cs : List Value} {x : DataW H × List MemPlace} (h : DataW.trod enc Tryz.prog w base spare held f 159 cs = some x) (hz : Sz Tryz.prog 159 x.1) : ∃ s : Oth, OthC w s cs ∧ OthSz s := by
  obtain ⟨xs, n, _, hxe, hl, hxl, hf⟩ := DataW.trod_struct Tryz.underlying159 h
  rw [hxe] at hz
  have hc2 : Tryz.prog.cellsOf 159 = 2 := by kernel_rfl
  have hcb : Tryz.prog.cellsOf 3 = 1 := by kernel_rfl
  have hci : Tryz.prog.cellsOf 157 = 1 := by kernel_rfl
  rw [hc2] at hl
  match cs, hl with
  | [c0, c1], _ =>
    match xs, hxl with
    | [x0, x1], _ =>
      have e0 := hf 0 _ rfl
      have e1 := hf 1 _ rfl
      simp [hcb, hci] at e0 e1
      obtain ⟨s, hs, ir⟩ := sl_i64 e0
      obtain ⟨v, l, hv, hi, hzl⟩ := sl_bytes_sz e1 (sz_field Tryz.underlying159 hz (j := 1) rfl rfl)
      simp at hs hv
      subst hs; subst hv
      exact ⟨(s, l), ⟨c1, rfl, ir, hi⟩, by unfold OthSz; simpa using hzl⟩
set_option maxRecDepth 100000 in
theorem sl_attrs_sz {f : Nat} {cs : List Value} {x : DataW H × List MemPlace} (h : DataW.trod enc Tryz.prog w base spare held f 42 cs = some x) (hz : Sz Tryz.prog 42 x.1) : ∃ a : At, AtC w a cs ∧ AtSz a := by
  obtain ⟨xs, n, _, hxe, hl, hxl, hf⟩ := DataW.trod_struct Tryz.underlying42 h
  rw [hxe] at hz
  have hc : Tryz.prog.cellsOf 42 = 10 := by kernel_rfl
  have hc0 : Tryz.prog.cellsOf 3 = 1 := by kernel_rfl
  have hc1 : Tryz.prog.cellsOf 38 = 1 := by kernel_rfl
  have hc2 : Tryz.prog.cellsOf 36 = 1 := by kernel_rfl
  have hc3 : Tryz.prog.cellsOf 39 = 1 := by kernel_rfl
  have hc4 : Tryz.prog.cellsOf 40 = 1 := by kernel_rfl
  rw [hc] at hl
  match cs, hl with
  | [c0, c1, c2, c3, c4, c5, c6, c7, c8, c9], _ =>
    match xs, hxl with
    | [x0, x1, x2, x3, x4, x5, x6, x7, x8, x9], _ =>
      have e0 := hf 0 _ rfl
      have e1 := hf 1 _ rfl
      have e2 := hf 2 _ rfl
      have e3 := hf 3 _ rfl
      have e4 := hf 4 _ rfl
      have e5 := hf 5 _ rfl
      have e6 := hf 6 _ rfl
      have e7 := hf 7 _ rfl
      have e8 := hf 8 _ rfl
      have e9 := hf 9 _ rfl
      simp [hc0, hc1, hc2, hc3, hc4] at e0 e1 e2 e3 e4 e5 e6 e7 e8 e9
      obtain ⟨has, q0, i0⟩ := sl_i64 e0
      obtain ⟨origin, q1, i1⟩ := sl_i64 e1
      obtain ⟨vp, path, q2, i2, z2, s2⟩ := open_sl_sz (k := 2) (bs := 32) (R := SegC w) (S := SgSz) Tryz.underlying38 (by kernel_rfl) (by kernel_rfl) (by decide) (fun _ _ _ h hz => sl_seg_sz h hz) e2 (sz_field Tryz.underlying42 hz (j := 2) rfl rfl)
      obtain ⟨hop, q3, i3⟩ := sl_u32 e3
      obtain ⟨med, q4, i4⟩ := sl_i64 e4
      obtain ⟨loc, q5, i5⟩ := sl_i64 e5
      obtain ⟨aggrAs, q6, i6⟩ := sl_i64 e6
      obtain ⟨aggrId, q7, i7⟩ := sl_u32 e7
      obtain ⟨vc, comms, q8, i8, z8⟩ := sl_ints_sz e8 (sz_field Tryz.underlying42 hz (j := 8) rfl rfl)
      obtain ⟨vo, others, q9, i9, z9, s9⟩ := open_sl_sz (k := 2) (bs := 32) (R := OthC w) (S := OthSz) Tryz.underlying40 (by kernel_rfl) (by kernel_rfl) (by decide) (fun _ _ _ h hz => sl_other_sz h hz) e9 (sz_field Tryz.underlying42 hz (j := 9) rfl rfl)
      simp at q0 q1 q2 q3 q4 q5 q6 q7 q8 q9
      subst q0; subst q1; subst q2; subst q3; subst q4; subst q5; subst q6; subst q7; subst q8; subst q9
      exact ⟨⟨has, origin, path, hop, med, loc, aggrAs, aggrId, comms, others⟩, ⟨c2, c8, c9, rfl, ⟨i0, i1, i3, i4, i5, i6, i7⟩, i2, i8, i9⟩, ⟨z2, s2, z8, z9, s9⟩⟩
set_option maxRecDepth 100000 in
theorem open_at_sz {v : Value} {d : DataW H} {p : List MemPlace} {r : Reach} {b0 : Nat} (hv : Value.okWide Tryz.prog w r b0 42 v) (h : DataW.Trod enc Tryz.prog w base spare held 42 v d p) (hz : Sz Tryz.prog 42 d) :
    ∃ (a : At) (vp vc vo : Value), v = .agg (atV a vp vc vo).toArray ∧ a.Rng ∧ AtL w a vp vc vo ∧ AtSz a := by
  obtain ⟨fuel, h⟩ := h
  obtain ⟨cs, rfl, hcs⟩ := okWide_struct Tryz.underlying42 hv
  obtain ⟨a, ⟨vp, vc, vo, hc, hr, hA⟩, hs⟩ := sl_attrs_sz h hz
  refine ⟨a, vp, vc, vo, ?_, hr, hA, hs⟩
  rw [← hc]
  rfl
end
end Go.Proofs.YtkoidahgbbabiaaGreat
