/- Texts of one proof, one behind another. -/
import Derived.Test.YtkoidahgbbabiaaGreatFt1
import Derived.Deep.Heap
import Derived.Test.YtkoidahgbbabiaaGreatFt4
import Derived.Test.YtkoidahgbbabiaaGreatFt5
import Derived.Deep.MidRow
import Derived.StillTailTactics
import Derived.Test.YtkoidahgbbabiaaGreatRows
import Derived.RegionTactic
import Derived.ChangeAlike
import Derived.LoopTactic
import Derived.Deep.QuietTactic
import Derived.BigQuiet
import Derived.LoopN
import Derived.Deep.CutBlock
import Derived.Deep.DeepCutAuto
namespace Go.Proofs.YtkoidahgbbabiaaGreat
open Go.RowKit
structure AV where
 has : Int
 origin : Int
 ps : Option Addr
 pn : Nat
 pc : Nat
 hop : Nat
 med : Int
 loc : Int
 aggrAs : Int
 aggrId : Nat
 cs : Option Addr
 cn : Nat
 cc : Nat
 os : Option Addr
 on : Nat
 oc : Nat
abbrev AV.C (v : AV) : Array Value := #[.int .i64 v.has, .int .i64 v.origin, .slice v.ps v.pn v.pc, .int .u32 v.hop, .int .i64 v.med, .int .i64 v.loc, .int .i64 v.aggrAs, .int .u32 v.aggrId, .slice v.cs v.cn v.cc, .slice v.os v.on v.oc]
abbrev AV.V (v : AV) : Value := .agg #[.int .i64 v.has, .int .i64 v.origin, .slice v.ps v.pn v.pc, .int .u32 v.hop, .int .i64 v.med, .int .i64 v.loc, .int .i64 v.aggrAs, .int .u32 v.aggrId, .slice v.cs v.cn v.cc, .slice v.os v.on v.oc]
def av0 : AV := ⟨0, 0, none, 0, 0, 0, 0, 0, 0, 0, none, 0, 0, none, 0, 0⟩
abbrev nodeR (k0 k1 h : Value) (v : AV) : Array Value := #[k0, k1, h, .int .i64 v.has, .int .i64 v.origin, .slice v.ps v.pn v.pc, .int .u32 v.hop, .int .i64 v.med, .int .i64 v.loc, .int .i64 v.aggrAs, .int .u32 v.aggrId, .slice v.cs v.cn v.cc, .slice v.os v.on v.oc]
def setAV (W : World) (b : Nat) (v : AV) : World :=
 (((((((((W.setCell ⟨b, 3, none⟩ (.int .i64 v.has)).setCell ⟨b, 4, none⟩ (.int .i64 v.origin)).setCell ⟨b, 5, none⟩ (.slice v.ps v.pn v.pc)).setCell ⟨b, 6, none⟩ (.int .u32 v.hop)).setCell ⟨b, 7, none⟩ (.int .i64 v.med)).setCell ⟨b, 8, none⟩ (.int .i64 v.loc)).setCell ⟨b, 9, none⟩ (.int .i64 v.aggrAs)).setCell ⟨b, 10, none⟩ (.int .u32 v.aggrId)).setCell ⟨b, 11, none⟩ (.slice v.cs v.cn v.cc)).setCell ⟨b, 12, none⟩ (.slice v.os v.on v.oc)
theorem AV.one (v : AV) : (v.C.all (·.oneCell')) = true := by simp [AV.C, Value.oneCell']
theorem setAV_eq (W : World) (b : Nat) (v : AV) : W.setCells b 3 v.C.toList = setAV W b v := rfl
theorem setAV_row {W : World} {b : Nat} {k0 k1 h : Value} {u : AV} {tN : TypeId} (hb : W.heap[b]? = some (.cells (nodeR k0 k1 h u) tN (0, 0))) (v : AV) : (setAV W b v).heap[b]? = some (.cells (nodeR k0 k1 h v) tN (0, 0)) := by
 unfold setAV
 rw [jO (jO (jO (jO (jO (jO (jO (jO (jO (jO hb _ _) _ _) _ _) _ _) _ _) _ _) _ _) _ _) _ _) _ _]
 simp only [List.setIfInBounds_toArray, List.set_cons_succ, List.set_cons_zero]
theorem setAV_other {W : World} {b g : Nat} (h : g ≠ b) (v : AV) : (setAV W b v).heap[g]? = W.heap[g]? := by
 unfold setAV
 rw [jK _ _ _ h, jK _ _ _ h, jK _ _ _ h, jK _ _ _ h, jK _ _ _ h, jK _ _ _ h, jK _ _ _ h, jK _ _ _ h, jK _ _ _ h, jK _ _ _ h]
theorem node_flag {W : World} {b : Nat} {k0 k1 h : Value} {u : AV} {tN : TypeId} (hb : W.heap[b]? = some (.cells (nodeR k0 k1 h u) tN (0, 0))) (h' : Value) : (W.setCell ⟨b, 2, none⟩ h').drew.heap[b]? = some (.cells (nodeR k0 k1 h' u) tN (0, 0)) := by
 show (W.setCell ⟨b, 2, none⟩ h').heap[b]? = _
 rw [jO hb]
 simp only [List.setIfInBounds_toArray, List.set_cons_succ, List.set_cons_zero]
theorem exec_ldm {P : Program} {oi : Oper} {ev : Operand → Value} {w : World} (ty : TypeId) (x : Operand) (ho : oi.op = .load ty x) (b o : Nat) (hx : ev x = .pointer (some ⟨b, o, none⟩)) (cs : List Value) (d : TypeDesc) (hc : w.rangeAt b o cs)
  (hu : P.underlying ty = some d) (hd : d.isRow = true) (hi : (P.info? ty).map (·.size) = some cs.length) : (execOp ev oi).run P w = .ok (.value (.agg cs.toArray)) w := by
 unfold execOp
 simp only [ho, hx, Instr.loadAt, Instr.sureAddr, Sem.run_bind, Sem.run_pure, Result.andThen_ok, run_loadVar_mid w b o ty cs d hc hu hd hi]
theorem still_ld {P : Program} {ops : Array Oper} {w : World} {Q : Act → Prop} {a : Act} {o : Oper} {rest : List Oper} (hgd : Region.wanted o (yielded ops a.tmps) = true) {v : Value} (he : (execOp a.eval o).run P w = .ok (.value v) w) (h : wpStill P ops w Q rest (a.put o.dst v)) : wpStill P ops w Q (o :: rest) a := by
 unfold wpStill
 rw [if_pos hgd]
 unfold Oper.still
 rw [he, Oper.stillUpon_value]
 exact h
theorem ldm_at {P : Program} {ops : Array Oper} {rest : List Oper} {o : Oper} {a : Act} {w : World} {Q : Exit → Act → World → Prop} (hgd : Region.wanted o (yielded ops a.tmps) = true) (ty : TypeId) (x : Operand) (ho : o.op = .load ty x)
  (b off : Nat) (hx : a.eval x = .pointer (some ⟨b, off, none⟩)) (cs : List Value) (d : TypeDesc) (hc : w.rangeAt b off cs) (hu : P.underlying ty = some d) (hd : d.isRow = true) (hi : (P.info? ty).map (·.size) = some cs.length)
  (h : wpList P ops Q rest (a.put o.dst (.agg cs.toArray)) w) : wpList P ops Q (o :: rest) a w := by
 unfold wpList
 rw [if_pos hgd]
 exact .inl (wp_load_mid ty x ho b off hx cs d hc hu hd hi h)
theorem node_there {W : World} {b : Nat} {k0 k1 h : Value} {u : AV} {tN : TypeId} (hb : W.heap[b]? = some (.cells (nodeR k0 k1 h u) tN (0, 0))) : W.there b 3 10 := fun j hj => by
 refine ⟨?_, jN hb _⟩
 rw [jB hb, Array.getElem?_eq_getElem (by simp; omega)]
 rfl
theorem node_range {W : World} {b : Nat} {k0 k1 h : Value} {u : AV} {tN : TypeId} (hb : W.heap[b]? = some (.cells (nodeR k0 k1 h u) tN (0, 0))) : W.rangeAt b 3 u.C.toList := fun j v hv => by
 rw [jB hb]
 have hj : j < 10 := by have := (List.getElem?_eq_some_iff.1 hv).1; simpa using this
 match j, hj with
 | 0, _ => simpa using hv
 | 1, _ => simpa using hv
 | 2, _ => simpa using hv
 | 3, _ => simpa using hv
 | 4, _ => simpa using hv
 | 5, _ => simpa using hv
 | 6, _ => simpa using hv
 | 7, _ => simpa using hv
 | 8, _ => simpa using hv
 | 9, _ => simpa using hv
open Go.RowKit
abbrev ptrN (o : Option Nat) : Value := .pointer (o.map fun b => ⟨b, 0, none⟩)
abbrev nodeC (z : AV) (N : Nat → Option Nat) (S : List (Nat × AV)) (k : Nat) : Array Value := nodeR (ptrN (N (2 * k))) (ptrN (N (2 * k + 1))) (.bool (getL S k).isSome) ((getL S k).getD z)
abbrev trieC (N : Nat → Option Nat) (S : List (Nat × AV)) (most : Int) : Array Value := #[ptrN (N 1), .int .i64 most, .int .i64 S.length]
structure TrieAt (tT tN : TypeId) (z : AV) (W : World) (tb : Nat) (N : Nat → Option Nat) (S : List (Nat × AV)) (most : Int) : Prop where
 row : W.heap[tb]? = some (.cells (trieC N S most) tT (0, 0))
 node : ∀ k b, N k = some b → W.heap[b]? = some (.cells (nodeC z N S k) tN (0, 0))
 inj : ∀ k k' b, N k = some b → N k' = some b → k = k'
 top : ∀ k, N k ≠ some tb
 up : ∀ k, 2 ≤ k → (N k).isSome → (N (k / 2)).isSome
 pos : N 0 = none
 dom : ∀ p ∈ S, (N p.1).isSome
 deep : ∀ k, 2 ^ 33 ≤ k → N k = none
 ap : KeysApart S
def TOwn (tb : Nat) (N : Nat → Option Nat) (b : Nat) : Prop := b = tb ∨ ∃ k, N k = some b
section
variable {tT tN : TypeId} {z : AV} {W W' : World} {tb : Nat} {N : Nat → Option Nat} {S : List (Nat × AV)} {most : Int}
theorem TrieAt.lt (h : TrieAt tT tN z W tb N S most) : tb < W.heap.size := jE h.row
theorem TrieAt.nlt (h : TrieAt tT tN z W tb N S most) {k b : Nat} (hb : N k = some b) : b < W.heap.size := jE (h.node k b hb)
theorem TrieAt.own_lt (h : TrieAt tT tN z W tb N S most) {b : Nat} (hb : TOwn tb N b) : b < W.heap.size := by
 rcases hb with rfl | ⟨k, hb⟩
 ·exact h.lt
 ·exact h.nlt hb
theorem TrieAt.of_blocks (h : TrieAt tT tN z W tb N S most) (hb : ∀ b, TOwn tb N b → W'.heap[b]? = W.heap[b]?) : TrieAt tT tN z W' tb N S most :=
 ⟨(hb tb (.inl rfl)).trans h.row, fun k b hk => (hb b (.inr ⟨k, hk⟩)).trans (h.node k b hk), h.inj, h.top, h.up, h.pos, h.dom, h.deep, h.ap⟩
theorem TrieAt.below (h : TrieAt tT tN z W tb N S most) (hb : Below W.heap.size W W') : TrieAt tT tN z W' tb N S most := h.of_blocks fun _ ho => hb.block _ (h.own_lt ho)
theorem TrieAt.kept {F : Nat → Prop} (h : TrieAt tT tN z W tb N S most) (hk : Kept F W W') (hF : ∀ b, TOwn tb N b → ¬ F b) : TrieAt tT tN z W' tb N S most := h.of_blocks fun b ho => hk.block b (h.own_lt ho) (hF b ho)
theorem ptrN_some (b : Nat) : ptrN (some b) = .pointer (some ⟨b, 0, none⟩) := rfl
theorem TrieAt.cells (h : TrieAt tT tN z W tb N S most) : W.cell? ⟨tb, 0, none⟩ = some (ptrN (N 1)) ∧ W.cell? ⟨tb, 1, none⟩ = some (.int .i64 most) ∧ W.cell? ⟨tb, 2, none⟩ = some (.int .i64 S.length) :=
 ⟨jB h.row 0, jB h.row 1, jB h.row 2⟩
theorem TrieAt.ncells (h : TrieAt tT tN z W tb N S most) {k b : Nat} (hb : N k = some b) : W.cell? ⟨b, 0, none⟩ = some (ptrN (N (2 * k))) ∧ W.cell? ⟨b, 1, none⟩ = some (ptrN (N (2 * k + 1))) ∧ W.cell? ⟨b, 2, none⟩ = some (.bool (getL S k).isSome) :=
 ⟨jB (h.node k b hb) 0, jB (h.node k b hb) 1, jB (h.node k b hb) 2⟩
theorem TrieAt.dom' (h : TrieAt tT tN z W tb N S most) {k : Nat} (hk : (getL S k).isSome = true) : ∃ b, N k = some b := by
 obtain ⟨v, hv⟩ := Option.isSome_iff_exists.1 hk
 exact Option.isSome_iff_exists.1 (h.dom _ (getL_mem hv))
theorem TrieAt.none_of (h : TrieAt tT tN z W tb N S most) {k : Nat} (hk : N k = none) : getL S k = none := by
 cases hg : getL S k with
 | none => rfl
 | some v => obtain ⟨b, hb⟩ := h.dom' (k := k) (by rw [hg]; rfl); rw [hk] at hb; cases hb
theorem TrieAt.up_none (h : TrieAt tT tN z W tb N S most) {k : Nat} (hk : N k = none) (h1 : 1 ≤ k) : N (2 * k) = none ∧ N (2 * k + 1) = none := by
 constructor
 ·cases hg : N (2 * k) with
  | none => rfl
  | some v =>
   have := h.up (2 * k) (by omega) (by rw [hg]; rfl)
   rw [show 2 * k / 2 = k by omega, hk] at this; cases this
 ·cases hg : N (2 * k + 1) with
  | none => rfl
  | some v =>
   have := h.up (2 * k + 1) (by omega) (by rw [hg]; rfl)
   rw [show (2 * k + 1) / 2 = k by omega, hk] at this; cases this
def SlotAt (tb : Nat) (N : Nat → Option Nat) (κ : Nat) (ad : Addr) : Prop := (κ = 1 ∧ ad = ⟨tb, 0, none⟩) ∨ (2 ≤ κ ∧ ∃ b, N (κ / 2) = some b ∧ ad = ⟨b, κ % 2, none⟩)
theorem SlotAt.cell {κ : Nat} {ad : Addr} (h : TrieAt tT tN z W tb N S most) (hs : SlotAt tb N κ ad) : W.cell? ad = some (ptrN (N κ)) ∧ W.frozen? ad = false := by
 rcases hs with ⟨rfl, rfl⟩ | ⟨h2, b, hb, rfl⟩
 ·exact ⟨h.cells.1, jN h.row 0⟩
 ·refine ⟨?_, jN (h.node _ _ hb) _⟩
  obtain ⟨c0, c1, _⟩ := h.ncells hb
  rcases Nat.mod_two_eq_zero_or_one κ with e | e
  ·rw [e, c0, show 2 * (κ / 2) = κ by omega]
  ·rw [e, c1, show 2 * (κ / 2) + 1 = κ by omega]
def updN (N : Nat → Option Nat) (κ : Nat) (o : Option Nat) : Nat → Option Nat := fun k => if k = κ then o else N k
theorem updN_same (N : Nat → Option Nat) (κ : Nat) (o : Option Nat) : updN N κ o κ = o := if_pos rfl
theorem updN_ne (N : Nat → Option Nat) {κ k : Nat} (o : Option Nat) (h : k ≠ κ) : updN N κ o k = N k := if_neg h
theorem TrieAt.hang {W1 : World} {κ : Nat} {ad : Addr} {o : Option Nat} (h : TrieAt tT tN z W tb N S most) (hB : Below W.heap.size W W1) (hs : SlotAt tb N κ ad) (h1 : 1 ≤ κ) (hd : κ < 2 ^ 33)
  (hold : N κ = none ∨ o = none) (hk0 : getL S κ = none) (hl : N (2 * κ) = none) (hr : N (2 * κ + 1) = none) (hnew : ∀ nb, o = some nb → W.heap.size ≤ nb ∧ W1.heap[nb]? = some (.cells (nodeR (.pointer none) (.pointer none) (.bool false) z) tN (0, 0))) :
  TrieAt tT tN z (W1.setCell ad (ptrN o)) tb (updN N κ o) S most := by
 have g := h.below hB
 have hne : ∀ nb, o = some nb → nb ≠ tb ∧ ∀ k, N k ≠ some nb := fun nb e => ⟨by have := (hnew nb e).1; have := h.lt; omega, fun k hk => by have := (hnew nb e).1; have := h.nlt hk; omega⟩
 have hub : ∀ k b, updN N κ o k = some b → (k = κ ∧ o = some b) ∨ (k ≠ κ ∧ N k = some b) := by
  intro k b hk
  by_cases e : k = κ
  ·subst e; rw [updN_same] at hk; exact .inl ⟨rfl, hk⟩
  ·rw [updN_ne _ _ e] at hk; exact .inr ⟨e, hk⟩
 -- how a node's row turns
 have hrow : ∀ k b, k ≠ κ → N k = some b → (W1.setCell ad (ptrN o)).heap[b]? = some (.cells (nodeC z (updN N κ o) S k) tN (0, 0)) := by
  intro k b hk hb
  by_cases e : κ / 2 = k ∧ 2 ≤ κ
  ·obtain ⟨e, e2⟩ := e
   rcases hs with ⟨rfl, _⟩ | ⟨_, b', hb', rfl⟩
   ·omega
   rw [e] at hb'
   obtain rfl : b' = b := by rw [hb] at hb'; exact (Option.some.inj hb').symm
   rw [jO (g.node k b' hb)]
   congr 2
   rcases Nat.mod_two_eq_zero_or_one κ with m | m
   ·obtain rfl : κ = 2 * k := by omega
    rw [m]
    simp [nodeC, updN_same, updN_ne]
   ·obtain rfl : κ = 2 * k + 1 := by omega
    rw [m]
    simp [nodeC, updN_same, updN_ne]
  ·have hbo : b ≠ ad.block := by
    rcases hs with ⟨rfl, rfl⟩ | ⟨h2, b', hb', rfl⟩
    ·intro e'
     simp only at e'
     subst e'
     exact h.top k hb
    ·intro e'
     simp only at e'
     subst e'
     exact e ⟨(h.inj _ _ _ hb' hb), h2⟩
   have hcell : (W1.setCell ad (ptrN o)).heap[b]? = W1.heap[b]? := Deep.blk_setCell_other W1 ad (ptrN o) b hbo
   rw [hcell, g.node k b hb]
   have e2 : 2 * k ≠ κ := fun x => by
    by_cases k0 : k = 0
    ·subst k0; omega
    ·exact e ⟨by omega, by omega⟩
   have e3 : 2 * k + 1 ≠ κ := fun x => by
    by_cases k0 : k = 0
    ·subst k0; rw [h.pos] at hb; cases hb
    ·exact e ⟨by omega, by omega⟩
   simp only [nodeC, updN_ne _ _ e2, updN_ne _ _ e3]
 refine ⟨?_, ?_, ?_, ?_, ?_, ?_, ?_, ?_, h.ap⟩
 ·rcases hs with ⟨rfl, rfl⟩ | ⟨h2, b', hb', rfl⟩
  ·rw [jO g.row]
   simp [trieC, updN_same]
  ·rw [jK _ _ _ (fun e => h.top _ (e ▸ hb')), g.row]
   simp only [trieC, updN_ne N o (show 1 ≠ κ by omega)]
 ·intro k b hk
  rcases hub k b hk with ⟨rfl, ho⟩ | ⟨e, hb⟩
  ·have hbo : b ≠ ad.block := by
    rcases hs with ⟨_, rfl⟩ | ⟨_, b', hb', rfl⟩
    ·exact (hne b ho).1
    ·intro e'
     simp only at e'
     subst e'
     exact (hne b ho).2 _ hb'
   have hcell : (W1.setCell ad (ptrN o)).heap[b]? = W1.heap[b]? := Deep.blk_setCell_other W1 ad (ptrN o) b hbo
   rw [hcell, (hnew b ho).2]
   simp only [nodeC, updN_ne N o (show 2 * k ≠ k by omega), updN_ne N o (show 2 * k + 1 ≠ k by omega), hl, hr, hk0]
   rfl
  ·exact hrow k b e hb
 ·intro k k' b hk hk'
  rcases hub k b hk with ⟨rfl, ho⟩ | ⟨e, hb⟩ <;> rcases hub k' b hk' with ⟨rfl, ho'⟩ | ⟨e', hb'⟩
  ·rfl
  ·exact absurd hb' ((hne b ho).2 _)
  ·exact absurd hb ((hne b ho').2 _)
  ·exact h.inj _ _ _ hb hb'
 ·intro k hk
  rcases hub k tb hk with ⟨rfl, ho⟩ | ⟨e, hb⟩
  ·exact (hne tb ho).1 rfl
  ·exact h.top k hb
 ·intro k h2 hk
  by_cases e : k / 2 = κ
  ·have e2 : k ≠ κ := by omega
   rw [updN_ne _ _ e2] at hk
   have : k = 2 * κ ∨ k = 2 * κ + 1 := by omega
   rcases this with rfl | rfl
   ·rw [hl] at hk; cases hk
   ·rw [hr] at hk; cases hk
  ·rw [updN_ne _ _ e]
   by_cases e2 : k = κ
   ·subst e2
    rcases hs with ⟨rfl, _⟩ | ⟨_, b', hb', _⟩
    ·omega
    ·rw [hb']; rfl
   ·rw [updN_ne _ _ e2] at hk
    exact h.up k h2 hk
 ·rw [updN_ne _ _ (by omega)]; exact h.pos
 ·intro p hp
  have e : p.1 ≠ κ := by
   intro e
   have := getL_none.1 hk0 p hp
   exact this e
  rw [updN_ne _ _ e]
  exact h.dom p hp
 ·intro k hk
  rw [updN_ne _ _ (by omega)]
  exact h.deep k hk
theorem TrieAt.turn {κ b : Nat} {S' : List (Nat × AV)} (h : TrieAt tT tN z W tb N S most) (hb : N κ = some b) (hrow : W'.heap[tb]? = some (.cells (trieC N S' most) tT (0, 0))) (hnode : W'.heap[b]? = some (.cells (nodeC z N S' κ) tN (0, 0)))
  (hoth : ∀ g, g ≠ tb → g ≠ b → W'.heap[g]? = W.heap[g]?) (hg : ∀ k, k ≠ κ → getL S' k = getL S k) (hap : KeysApart S') : TrieAt tT tN z W' tb N S' most := by
 refine ⟨hrow, ?_, h.inj, h.top, h.up, h.pos, ?_, h.deep, hap⟩
 ·intro k c hk
  by_cases e : k = κ
  ·subst e
   rw [hb] at hk
   obtain rfl := Option.some.inj hk
   exact hnode
  ·rw [hoth c (fun x => h.top k (x ▸ hk)) (fun x => e (h.inj _ _ _ hk (x ▸ hb))), h.node k c hk]
   simp only [nodeC, hg k e]
 ·intro p hp
  by_cases e : p.1 = κ
  ·rw [e, hb]; rfl
  ·have : getL S p.1 = some p.2 := by rw [← hg p.1 e]; exact getL_of_mem hap hp
   exact h.dom _ (getL_mem this)
theorem getL_snoc (S : List (Nat × AV)) (κ k : Nat) (v : AV) : getL (delL S κ ++ [(κ, v)]) k = if k = κ then some v else getL S k := by
 rw [getL_append, getL_del]
 by_cases e : k = κ
 ·subst e; simp [getL]
 ·rw [if_neg e, if_neg e]
  simp [getL, Ne.symm e]
theorem apart_snoc {S : List (Nat × AV)} (h : KeysApart S) (κ : Nat) (v : AV) : KeysApart (delL S κ ++ [(κ, v)]) := by
 unfold KeysApart
 rw [List.pairwise_append]
 refine ⟨apart_del h κ, by simp, ?_⟩
 intro p hp q hq
 simp at hq
 subst hq
 exact (mem_del.1 hp).2
theorem len_snoc {S : List (Nat × AV)} (h : KeysApart S) (κ : Nat) (v : AV) : (delL S κ ++ [(κ, v)]).length = if (getL S κ).isSome then S.length else S.length + 1 := by
 rw [List.length_append, len_del h]
 cases hg : getL S κ with
 | none => simp
 | some x =>
  have : 0 < S.length := List.length_pos_of_mem (getL_mem hg)
  simp; omega
theorem TrieAt.putNew {κ b : Nat} (h : TrieAt tT tN z W tb N S most) (hb : N κ = some b) (hno : getL S κ = none) (v : AV) :
  TrieAt tT tN z (setAV ((W.setCell ⟨b, 2, none⟩ (.bool true)).setCell ⟨tb, 2, none⟩ (.int .i64 ((S.length : Int) + 1))) b v) tb N (delL S κ ++ [(κ, v)]) most := by
 have hne : b ≠ tb := fun e => h.top κ (e ▸ hb)
 refine h.turn hb ?_ ?_ ?_ ?_ (apart_snoc h.ap κ v)
 ·rw [setAV_other (Ne.symm hne), jO ((jK _ _ _ (Ne.symm hne)).trans h.row)]
  congr 2
  have e := len_snoc h.ap κ v
  rw [hno] at e
  simp only [trieC, e]
  rfl
 ·have r1 := jO (h.node κ b hb) 2 (.bool true)
  have r2 : ((W.setCell ⟨b, 2, none⟩ (.bool true)).setCell ⟨tb, 2, none⟩ (.int .i64 ((S.length : Int) + 1))).heap[b]? = _ := (jK _ _ _ hne).trans r1
  rw [setAV_row r2]
  simp [nodeC, getL_snoc]
 ·intro g h1 h2
  rw [setAV_other h2, jK _ _ _ h1, jK _ _ _ h2]
 ·intro k hk
  rw [getL_snoc, if_neg hk]
theorem TrieAt.putOld {κ b : Nat} (h : TrieAt tT tN z W tb N S most) (hb : N κ = some b) (hy : (getL S κ).isSome = true) (v : AV) :
  TrieAt tT tN z (setAV W b v) tb N (delL S κ ++ [(κ, v)]) most := by
 have hne : b ≠ tb := fun e => h.top κ (e ▸ hb)
 refine h.turn hb ?_ ?_ ?_ ?_ (apart_snoc h.ap κ v)
 ·rw [setAV_other (Ne.symm hne), h.row, trieC, trieC, len_snoc h.ap, hy]
  rfl
 ·rw [setAV_row (h.node κ b hb)]
  simp [nodeC, getL_snoc, hy]
 ·intro g h1 h2
  rw [setAV_other h2]
 ·intro k hk
  rw [getL_snoc, if_neg hk]
theorem TrieAt.dropAt {κ b : Nat} (h : TrieAt tT tN z W tb N S most) (hb : N κ = some b) (hy : (getL S κ).isSome = true) (hrow : W'.heap[b]? = some (.cells (nodeR (ptrN (N (2 * κ))) (ptrN (N (2 * κ + 1))) (.bool false) z) tN (0, 0))) (hoth : ∀ g, g < W.heap.size → g ≠ b → W'.heap[g]? = W.heap[g]?) :
  TrieAt tT tN z (W'.setCell ⟨tb, 2, none⟩ (.int .i64 ((S.length : Int) - 1))) tb N (delL S κ) most := by
 have hne : b ≠ tb := fun e => h.top κ (e ▸ hb)
 refine ⟨?_, ?_, h.inj, h.top, h.up, h.pos, ?_, h.deep, apart_del h.ap κ⟩
 ·rw [jO ((hoth _ h.lt (Ne.symm hne)).trans h.row)]
  congr 2
  have hp : 0 < S.length := by
   obtain ⟨v, hv⟩ := Option.isSome_iff_exists.1 hy
   exact List.length_pos_of_mem (getL_mem hv)
  have e := len_del h.ap κ
  rw [hy] at e
  simp only [if_true] at e
  simp only [trieC, e]
  simp
  omega
 ·intro k c hk
  have hct : c ≠ tb := fun x => h.top k (x ▸ hk)
  rw [jK _ _ _ hct]
  by_cases e : k = κ
  ·subst e
   rw [hb] at hk
   obtain rfl := Option.some.inj hk
   rw [hrow]
   simp [nodeC, getL_del]
  ·rw [hoth c (h.nlt hk) (fun x => e (h.inj _ _ _ hk (x ▸ hb))), h.node k c hk]
   simp only [nodeC, getL_del, if_neg e]
 ·intro p hp
  exact h.dom _ (mem_del.1 hp).1
end
open Go.RowKit (wrap64)
def sizeI (n : Int) : Int := 2 ^ lowN n
theorem sizeI_pos (n : Int) : 0 < sizeI n := pow_pos33 _
theorem size_succ (n : Int) (h0 : 0 ≤ n) (h : n < 32) : sizeI n = 2 * sizeI (n + 1) := by
 unfold sizeI
 have e : lowN n = lowN (n + 1) + 1 := by rw [lowN_of n h0 (by omega), lowN_of (n + 1) (by omega) (by omega)]; omega
 rw [e, Int.pow_succ]; omega
theorem size_top (n : Int) (h0 : 0 ≤ n) (h : n < 32) : (2 : Int) ^ (31 - n).toNat = sizeI (n + 1) := by
 unfold sizeI
 rw [lowN_of (n + 1) (by omega) (by omega), show (31 - n).toNat = (32 - (n + 1)).toNat by omega]
theorem or_low (a b : Int) (k : Nat) (h0 : 0 ≤ a) (h : a < 4294967296) (hb0 : 0 ≤ b) (hb : b < 2 ^ k) (hk : k ≤ 32) (hm : a % 2 ^ k = 0) : bits .or .u32 a b = a + b := by
 have hp := pow_le33 k hk
 rw [u32_or a b h0 h hb0 (by omega)]
 obtain ⟨x, rfl⟩ := Int.eq_ofNat_of_zero_le h0
 obtain ⟨y, rfl⟩ := Int.eq_ofNat_of_zero_le hb0
 rw [Int.toNat_natCast, Int.toNat_natCast]
 have hy : y < 2 ^ k := by
  have e : ((2 : Int) ^ k) = ((2 ^ k : Nat) : Int) := by simp
  rw [e] at hb; omega
 have hx : x % 2 ^ k = 0 := by
  have e : ((x : Int) % 2 ^ k) = ((x % 2 ^ k : Nat) : Int) := by simp
  rw [e] at hm; omega
 have hd : x = 2 ^ k * (x / 2 ^ k) := by have := Nat.div_add_mod x (2 ^ k); omega
 have := Nat.two_pow_add_eq_or_of_lt hy (x / 2 ^ k)
 rw [← hd] at this
 omega
theorem or_half (a n : Int) (h0 : 0 ≤ a) (h : a < 4294967296) (hr : rightB a n = true) (hn : n < 32) : bits .or .u32 a (2 ^ (31 - n).toNat % 4294967296) = a + sizeI (n + 1) := by
 obtain ⟨h1, h2, h3⟩ := (rightB_iff a n).1 hr
 have hs := size_succ n h2 hn
 have hp := sizeI_pos (n + 1)
 have hle : sizeI n ≤ 4294967296 := pow_le33 _ (lowN_le n)
 rw [size_top n h2 hn, Int.emod_eq_of_lt (by omega) (by omega)]
 exact or_low a _ (lowN n) h0 h (by omega) (by show sizeI (n + 1) < sizeI n; omega) (lowN_le n) h1
def halfI (a n t : Int) : Int := if t = 0 then a else a + sizeI (n + 1)
theorem halfI_0 (a n : Int) : halfI a n 0 = a := rfl
theorem halfI_1 (a n t : Int) (h : t ≠ 0) : halfI a n t = a + sizeI (n + 1) := if_neg h
open Go.RowKit
set_option maxHeartbeats 400000 in
theorem ip_Bit (a n : Int) (w : World) (ha0 : 0 ≤ a) (ha : a < 4294967296) :
  Calls Tryz.prog 137 #[.int .u32 a, .int .i64 n] w fun e w' => e = .returned (.int .i64 (bitI a n)) ∧ w = w' := by
 by_cases h1 : n < 0
 ·have e : bitI a n = 0 := by unfold bitI; rw [if_neg (by omega)]
  have E := jh e; clear e
  go_enter Tryz.func137, Tryz.ntmps137
  go_wp2
  go_ret
  exact ⟨jU E.out.symm, rfl⟩
 ·by_cases h2 : n < 32
  ·have e := bit_walk a n ha0 ha (by omega) h2
   have E := jh e; clear e
   go_enter Tryz.func137, Tryz.ntmps137
   go_wp2
   go_ret
   exact ⟨jU E.out, rfl⟩
  ·have e : bitI a n = 0 := by unfold bitI; rw [if_neg (by omega)]
   have E := jh e; clear e
   go_enter Tryz.func137, Tryz.ntmps137
   go_wp2
   go_ret
   exact ⟨jU E.out.symm, rfl⟩
set_option maxHeartbeats 400000 in
theorem ip_within (n : Int) (w : World) :
  Calls Tryz.prog 114 #[.int .i64 n] w fun e w' => e = .returned (.int .i64 (cl n)) ∧ w = w' := by
 go_enter Tryz.func114, Tryz.ntmps114
 go_wp2
 all_goals
  go_ret
  exact ⟨jU (by unfold cl; omega), rfl⟩
set_option maxHeartbeats 400000 in
theorem ip_Mask (n : Int) (w : World) :
  Calls Tryz.prog 113 #[.int .i64 n] w fun e w' => e = .returned (.int .u32 (maskI n)) ∧ w = w' := by
 have h1 := cl_lo n
 have h2 := cl_hi n
 go_enter Tryz.func113, Tryz.ntmps113
 go_wp2_with (go_at_call 114; refine (ip_within _ _).mono ?_; rintro e w' ⟨rfl, rfl⟩)
 go_ret
 exact ⟨jU (mask_walk n), rfl⟩
set_option maxHeartbeats 400000 in
theorem ip_Of (a n : Int) (w : World) (h0 : 0 ≤ a) (h : a < 4294967296) :
  Calls Tryz.prog 62 #[.int .u32 a, .int .i64 n] w fun e w' => e = .returned (.agg #[.int .u32 (keepI a n), .int .i64 (cl n)]) ∧ Below w.heap.size w w' := by
 have E := jh (and_mask a n h0 h)
 go_enter Tryz.func62, Tryz.ntmps62
 go_wp2_with (first
  | (go_at_call 114; refine (ip_within _ _).mono ?_; rintro e w' ⟨rfl, rfl⟩)
  | (go_at_call 113; refine (ip_Mask _ _).mono ?_; rintro e w' ⟨rfl, rfl⟩))
 rw [E.out]
 exact bodyPost_ret (v := .agg #[.int .u32 (keepI a n), .int .i64 (cl n)]) (by simp [results, Tryz.results62, go_sem]) rfl ⟨rfl, (Below.refl _ _).alloc (Nat.le_refl _) _⟩
theorem undPrefix : Tryz.prog.underlying 53 = some (.struct (Tryz.prog.fieldsOf 53)) := by kernel_rfl
theorem stoPrefix : Tryz.prog.stoodInHeld 53 = false := by kernel_rfl
set_option maxRecDepth 100000 in
theorem run_eql_pref (a b c d : Int) (w : World) : (binOp .eql 53 (.agg #[.int .u32 a, .int .i64 b]) (.agg #[.int .u32 c, .int .i64 d])).run Tryz.prog w = .ok (.bool (a == c && b == d)) w := by
 rw [run_eql_struct, run_equalIn_struct w 9999 53 _ _ undPrefix stoPrefix, Program.fieldsOf, Tryz.underlying53]
 simp only [Op.eqFields]
 by_cases h1 : a = c <;> by_cases h2 : b = d <;> simp [go_sem, h1, h2]
set_option maxRecDepth 100000 in
theorem run_neq_pref (a b c d : Int) (w : World) : (binOp .neq 53 (.agg #[.int .u32 a, .int .i64 b]) (.agg #[.int .u32 c, .int .i64 d])).run Tryz.prog w = .ok (.bool (!(a == c && b == d))) w := by
 rw [run_neq_struct, run_equalIn_struct w 9999 53 _ _ undPrefix stoPrefix, Program.fieldsOf, Tryz.underlying53]
 simp only [Op.eqFields]
 by_cases h1 : a = c <;> by_cases h2 : b = d <;> simp [go_sem, h1, h2]
attribute [go_sem ↓] run_eql_pref run_neq_pref
attribute [go_sem] errI_zero
set_option maxHeartbeats 400000 in
theorem ip_Check (a n : Int) (w : World) (h0 : 0 ≤ a) (h : a < 4294967296) :
  Calls Tryz.prog 21 #[.agg #[.int .u32 a, .int .i64 n]] w fun e w' => e = .returned (.int .i64 (errI (rightB a n))) ∧ Below w.heap.size w w' := by
 go_enter Tryz.func21, Tryz.ntmps21
 go_wp2_with fail
 obtain ⟨W0, hW0, c0, c1, hB⟩ := box2 w (.int .u32 a) (.int .i64 n) 53
 rw [← hW0]; clear hW0
 refine wp_region_held_drew (S := fun w' => Below W0.heap.size W0 w') (by kernel_rfl) ?_ (fun hHeld => ?_)
 ·exact (Below.refl _ _).drew
 refine qy 0 ?_ ?_ ?_ hHeld ?_; rotate_left 1; (· rfl); (· intro w' hSw; (try dsimp only at hSw); have c0 := jA c0 hSw; have c1 := jA c1 hSw; (try clear hHeld); go_simp; try with_reducible rfl)
 try simp only [jz]
 refine qy 1 ?_ ?_ ?_ hHeld ?_; rotate_left 1; (· rfl); (· intro w' hSw; (try dsimp only at hSw); (try clear hHeld); go_simp; try with_reducible rfl)
 try simp only [jz]
 refine qy 2 ?_ ?_ ?_ hHeld ?_; rotate_left 1; (· rfl); (· intro w' hSw; (try dsimp only at hSw); have c0 := jA c0 hSw; have c1 := jA c1 hSw; (try clear hHeld); go_simp; try with_reducible rfl)
 try simp only [jz]
 refine qy 3 ?_ ?_ ?_ hHeld ?_; rotate_left 1; (· rfl); (· intro w' hSw; (try dsimp only at hSw); (try clear hHeld); go_simp; try with_reducible rfl)
 try simp only [jz]
 refine qy 4 ?_ ?_ ?_ hHeld ?_; rotate_left 1; (· rfl); (· intro w' hSw; (try dsimp only at hSw); have c0 := jA c0 hSw; have c1 := jA c1 hSw; (try clear hHeld); go_simp; try with_reducible rfl)
 try simp only [jz]
 refine jr 5 ?_ fun K hK => ?_; (· rfl); (try clear hb); go_simp; (refine (ip_Of a n _ h0 h).mono ?_; rintro e w1 ⟨rfl, hb⟩); go_wp2_with fail; refine hK.out _ _ ?_ (fun hHeld => ?_); (· exact hHeld.trans (hb.mono hHeld.size)); clear hK K
 try simp only [jz]
 refine qy 6 ?_ ?_ ?_ hHeld ?_; rotate_left 1; (· rfl); (· intro w' hSw; (try dsimp only at hSw); (try clear hHeld); go_simp; try with_reducible rfl)
 try simp only [jz]
 refine wpAnyH_done (by kernel_rfl) ?_ _
 have hB' := jC hB hHeld
 clear hHeld hb
 go_wp2
 ·have hr := rightB_no ‹_ ∨ _›
  go_ret
  exact ⟨jU (by rw [hr]; rfl), hB'⟩
 ·have hr := rightB_yes ‹_ = false ∧ _ = false›
  go_ret
  exact ⟨jU (by rw [hr]; rfl), hB'⟩
theorem frozen_below {W W' : World} {a : Addr} (hz : a.block < W.heap.size) (h : W.frozen? a = false) (hb : Below W.heap.size W W') : W'.frozen? a = false := (hb.frozen hz).trans h
def cmpI (a b : Int) : Int := if a < b then -1 else if b < a then 1 else 0
set_option maxHeartbeats 400000 in
theorem cmp_CompareAddr (a b : Int) (w : World) :
  Calls Tryz.prog 64 #[.int .u32 a, .int .u32 b] w fun e w' => e = .returned (.int .i64 (cmpI a b)) ∧ w = w' := by
 go_enter Tryz.func64, Tryz.ntmps64
 go_wp2
 all_goals
  go_ret
  exact ⟨jU (by unfold cmpI; repeat (first | rw [if_pos (by omega)] | rw [if_neg (by omega)])), rfl⟩
set_option maxHeartbeats 400000 in
theorem cmp_CompareInt (a b : Int) (w : World) :
  Calls Tryz.prog 65 #[.int .i64 a, .int .i64 b] w fun e w' => e = .returned (.int .i64 (cmpI a b)) ∧ w = w' := by
 go_enter Tryz.func65, Tryz.ntmps65
 go_wp2
 all_goals
  go_ret
  exact ⟨jU (by unfold cmpI; repeat (first | rw [if_pos (by omega)] | rw [if_neg (by omega)])), rfl⟩
def orI (x y : Int) : Int := if x = 0 then y else x
theorem orI_ne {x y : Int} (h : (x != 0) = true) : orI x y = x := by unfold orI; rw [if_neg (by simpa using h)]
set_option maxHeartbeats 400000 in
theorem cmp_OrInt2 (g c : Nat) (x y : Int) (w : World) (hx : w.cell? ⟨g, 0, none⟩ = some (.int .i64 x)) (hy : w.cell? ⟨g, 1, none⟩ = some (.int .i64 y)) :
  Calls Tryz.prog 63 #[.slice (some ⟨g, 0, none⟩) 2 c] w fun e w' => e = .returned (.int .i64 (orI x y)) ∧ w = w' := by
 go_enter Tryz.func63, Tryz.ntmps63
 go_wp2
 go_loop [8] (fun t => ∃ k : Nat, k ≤ 2 ∧ t = .int .i64 k ∧ (1 ≤ k → x = 0) ∧ (2 ≤ k → y = 0)) (fun t => 2 - (intOf t).toNat)
 case atStart => exact ⟨0, by omega, rfl, by omega, by omega⟩
 case round =>
  obtain ⟨k, hk, rfl, h1, h2⟩ := hrel
  rcases (by omega : k = 0 ∨ k = 1 ∨ k = 2) with rfl | rfl | rfl
  ·clear h1 h2
   go_wp2
   ·go_ret
    exact ⟨jU (orI_ne ‹_›).symm, rfl⟩
   ·exact ⟨⟨1, by omega, rfl, fun _ => by simpa using ‹(x != 0) = false›, by omega⟩, by simp [intOf]⟩
  ·clear h2
   have e := h1 (by omega)
   subst e
   clear h1
   go_wp2
   ·go_ret
    exact ⟨jU rfl, rfl⟩
   ·exact ⟨⟨2, by omega, rfl, fun _ => trivial, fun _ => by simpa using ‹(y != 0) = false›⟩, by simp [intOf]⟩
  ·obtain rfl := h1 (by omega)
   obtain rfl := h2 (by omega)
   clear h1 h2
   go_wp2
   go_ret
   exact ⟨rfl, rfl⟩
def prefCmp (a n b m : Int) : Int := orI (cmpI a b) (cmpI n m)
set_option maxHeartbeats 400000 in
theorem ip_Cmp (a n b m : Int) (w : World) :
  Calls Tryz.prog 22 #[.agg #[.int .u32 a, .int .i64 n], .agg #[.int .u32 b, .int .i64 m]] w fun e w' => e = .returned (.int .i64 (prefCmp a n b m)) ∧ Below w.heap.size w w' := by
 go_enter Tryz.func22, Tryz.ntmps22
 go_wp2_with fail
 obtain ⟨W0, hW0, c0, c1, d0, d1, hB⟩ := box22 w (.int .u32 a) (.int .i64 n) (.int .u32 b) (.int .i64 m) 53 53
 rw [← hW0]; clear hW0
 refine wp_region_held_drew (S := fun w' => Below W0.heap.size W0 w') (by kernel_rfl) ?_ (fun hHeld => ?_)
 ·exact (Below.refl _ _).drew
 refine qy 0 ?_ ?_ ?_ hHeld ?_; rotate_left 1; (· rfl); (· intro w' hSw; (try dsimp only at hSw); (try clear hHeld); go_simp; try with_reducible rfl)
 try simp only [jz]
 refine qy 1 ?_ ?_ ?_ hHeld ?_; rotate_left 1; (· rfl); (· intro w' hSw; (try dsimp only at hSw); have c0 := jA c0 hSw; have c1 := jA c1 hSw; have d0 := jA d0 hSw; have d1 := jA d1 hSw; (try clear hHeld); go_simp; try with_reducible rfl)
 try simp only [jz]
 refine qy 2 ?_ ?_ ?_ hHeld ?_; rotate_left 1; (· rfl); (· intro w' hSw; (try dsimp only at hSw); (try clear hHeld); go_simp; try with_reducible rfl)
 try simp only [jz]
 refine qy 3 ?_ ?_ ?_ hHeld ?_; rotate_left 1; (· rfl); (· intro w' hSw; (try dsimp only at hSw); have c0 := jA c0 hSw; have c1 := jA c1 hSw; have d0 := jA d0 hSw; have d1 := jA d1 hSw; (try clear hHeld); go_simp; try with_reducible rfl)
 try simp only [jz]
 refine qy 5 ?_ ?_ ?_ hHeld ?_; rotate_left 1; (· rfl); (· intro w' hSw; (try dsimp only at hSw); (try clear hHeld); go_simp; try with_reducible rfl)
 try simp only [jz]
 refine qy 6 ?_ ?_ ?_ hHeld ?_; rotate_left 1; (· rfl); (· intro w' hSw; (try dsimp only at hSw); have c0 := jA c0 hSw; have c1 := jA c1 hSw; have d0 := jA d0 hSw; have d1 := jA d1 hSw; (try clear hHeld); go_simp; try with_reducible rfl)
 try simp only [jz]
 refine qy 7 ?_ ?_ ?_ hHeld ?_; rotate_left 1; (· rfl); (· intro w' hSw; (try dsimp only at hSw); (try clear hHeld); go_simp; try with_reducible rfl)
 try simp only [jz]
 refine qy 8 ?_ ?_ ?_ hHeld ?_; rotate_left 1; (· rfl); (· intro w' hSw; (try dsimp only at hSw); have c0 := jA c0 hSw; have c1 := jA c1 hSw; have d0 := jA d0 hSw; have d1 := jA d1 hSw; (try clear hHeld); go_simp; try with_reducible rfl)
 try simp only [jz]
 refine jr 4 ?_ fun K hK => ?_; (· rfl); (try clear hb); go_simp; (refine (calls_below (cmp_CompareAddr a b _)).mono ?_; rintro e w1 ⟨rfl, hb⟩); go_wp2_with fail; refine hK.out _ _ ?_ (fun hHeld => ?_); (· first | exact hHeld.trans (hb.mono hHeld.size) | exact hHeld.alloc hHeld.size _); clear hK K
 try simp only [jz]
 refine jr 9 ?_ fun K hK => ?_; (· rfl); (try clear hb); go_simp; (refine (calls_below (cmp_CompareInt n m _)).mono ?_; rintro e w1 ⟨rfl, hb⟩); go_wp2_with fail; refine hK.out _ _ ?_ (fun hHeld => ?_); (· first | exact hHeld.trans (hb.mono hHeld.size) | exact hHeld.alloc hHeld.size _); clear hK K
 try simp only [jz]
 refine jr 10 ?_ fun K hK => ?_; (· rfl); (try clear hb); go_simp; go_wp2_with fail; refine hK.out _ _ ?_ (fun hHeld => ?_); (· first | exact hHeld.trans (hb.mono hHeld.size) | exact hHeld.alloc hHeld.size _); clear hK K
 try simp only [jz]
 refine jr 11 ?_ fun K hK => ?_; (· rfl); (try clear hb); go_simp; (refine (calls_below (cmp_OrInt2 _ 2 (cmpI a b) (cmpI n m) _ (by simp) (by simp))).mono ?_; rintro e w1 ⟨rfl, hb⟩); go_wp2_with fail; refine hK.out _ _ ?_ (fun hHeld => ?_); (· first | exact hHeld.trans (hb.mono hHeld.size) | exact hHeld.alloc hHeld.size _); clear hK K
 try simp only [jz]
 refine qy 12 ?_ ?_ ?_ hHeld ?_; rotate_left 1; (· rfl); (· intro w' hSw; (try dsimp only at hSw); (try clear hHeld); go_simp; try with_reducible rfl)
 try simp only [jz]
 refine wpAnyH_done (by kernel_rfl) ?_ _
 have hB' := jC hB hHeld
 clear hHeld hb
 go_wp2
 go_ret
 exact ⟨jU rfl, hB'⟩
set_option maxHeartbeats 400000 in
theorem ip_Half_bad (a n t : Int) (w : World) (h0 : 0 ≤ a) (h : a < 4294967296) (hbad : rightB a n = false ∨ (n == 32) = true) :
  Calls Tryz.prog 189 #[.agg #[.int .u32 a, .int .i64 n], .int .i64 t] w fun e w' => e = .returned (.tuple #[.agg #[.int .u32 0, .int .i64 0], .int .i64 1]) ∧ Below w.heap.size w w' := by
 cases hR : rightB a n
 all_goals
  try (have h32 : (n == 32) = true := by simpa [hR] using hbad)
  clear hbad
  go_enter Tryz.func189, Tryz.ntmps189
  go_wp2_with fail
  obtain ⟨W0, hW0, c0, c1, r0, r1, hB⟩ := box22 w (.int .u32 a) (.int .i64 n) (.int .u32 0) (.int .i64 0) 53 53
  have f0 : W0.frozen? ⟨w.heap.size + 1, 0, none⟩ = false := by rw [hW0]; simp
  have f1 : W0.frozen? ⟨w.heap.size + 1, 1, none⟩ = false := by rw [hW0]; simp
  rw [← hW0]; clear hW0
  go_wp2_with (go_at_call 21; refine (ip_Check _ _ _ h0 h).mono ?_; rintro e w1 ⟨rfl, hb⟩; have c0 := jA c0 hb; have c1 := jA c1 hb; have f0 := frozen_below (jH r0) f0 hb; have f1 := frozen_below (jH r1) f1 hb; have r0 := jA r0 hb; have r1 := jA r1 hb; have hB := jC hB hb; clear hb)
  refine bodyPost_ret (v := .tuple #[.agg #[.int .u32 0, .int .i64 0], .int .i64 1]) (by simp [results, Tryz.results189, go_sem, r0, r1]) rfl ⟨rfl, ?_⟩
  exact (hB.setCell (by simp) _).setCell (by simp) _
set_option maxHeartbeats 400000 in
theorem ip_Half_zero (a n : Int) (w : World) (h0 : 0 ≤ a) (h : a < 4294967296) (hR : rightB a n = true) (hn : (n == 32) = false) (hn0 : 0 ≤ n) (hn1 : n ≤ 32) :
  Calls Tryz.prog 189 #[.agg #[.int .u32 a, .int .i64 n], .int .i64 0] w fun e w' => e = .returned (.tuple #[.agg #[.int .u32 a, .int .i64 (n + 1)], .int .i64 0]) ∧ Below w.heap.size w w' := by
 go_enter Tryz.func189, Tryz.ntmps189
 go_wp2_with fail
 obtain ⟨W0, hW0, c0, c1, r0, r1, hB⟩ := box22 w (.int .u32 a) (.int .i64 n) (.int .u32 0) (.int .i64 0) 53 53
 have f0 : W0.frozen? ⟨w.heap.size + 1, 0, none⟩ = false := by rw [hW0]; simp
 have f1 : W0.frozen? ⟨w.heap.size + 1, 1, none⟩ = false := by rw [hW0]; simp
 rw [← hW0]; clear hW0
 go_wp2_with (go_at_call 21; refine (ip_Check _ _ _ h0 h).mono ?_; rintro e w1 ⟨rfl, hb⟩; have c0 := jA c0 hb; have c1 := jA c1 hb; have f0 := frozen_below (jH r0) f0 hb; have f1 := frozen_below (jH r1) f1 hb; have hz := jH (jA r0 hb); have r0 := jA r0 hb; have r1 := jA r1 hb; have hB := jC hB hb; clear hb)
 refine bodyPost_ret (v := .tuple #[.agg #[.int .u32 a, .int .i64 (n + 1)], .int .i64 0]) (by simp [results, Tryz.results189, go_sem, r0, r1, hz]) rfl ⟨rfl, ?_⟩
 exact ((hB.setCell (by simp) _).setCell (by simp) _).alloc (by simp; omega) _
set_option maxHeartbeats 400000 in
theorem ip_Half_one (a n t : Int) (w : World) (h0 : 0 ≤ a) (h : a < 4294967296) (hR : rightB a n = true) (hn : (n == 32) = false) (hn0 : 0 ≤ n) (hn1 : n ≤ 31) (ht : (t != 0) = true) :
  Calls Tryz.prog 189 #[.agg #[.int .u32 a, .int .i64 n], .int .i64 t] w fun e w' => e = .returned (.tuple #[.agg #[.int .u32 (bits .or .u32 a (2 ^ (31 - n).toNat % 4294967296)), .int .i64 (n + 1)], .int .i64 0]) ∧ Below w.heap.size w w' := by
 go_enter Tryz.func189, Tryz.ntmps189
 go_wp2_with fail
 obtain ⟨W0, hW0, c0, c1, r0, r1, hB⟩ := box22 w (.int .u32 a) (.int .i64 n) (.int .u32 0) (.int .i64 0) 53 53
 have f0 : W0.frozen? ⟨w.heap.size + 1, 0, none⟩ = false := by rw [hW0]; simp
 have f1 : W0.frozen? ⟨w.heap.size + 1, 1, none⟩ = false := by rw [hW0]; simp
 rw [← hW0]; clear hW0
 go_wp2_with (go_at_call 21; refine (ip_Check _ _ _ h0 h).mono ?_; rintro e w1 ⟨rfl, hb⟩; have c0 := jA c0 hb; have c1 := jA c1 hb; have f0 := frozen_below (jH r0) f0 hb; have f1 := frozen_below (jH r1) f1 hb; have hz := jH (jA r0 hb); have r0 := jA r0 hb; have r1 := jA r1 hb; have hB := jC hB hb; clear hb)
 obtain ⟨W2, hW2, e0, e1, hb2⟩ := box2 w1 (.int .u32 a) (.int .i64 (n + 1)) 53
 have g0 : W2.frozen? ⟨w1.heap.size, 0, none⟩ = false := by rw [hW2]; simp
 rw [← hW2]; clear hW2
 have c1 := jA c1 hb2
 have f0 := frozen_below (jH r0) f0 hb2
 have f1 := frozen_below (jH r1) f1 hb2
 have r0 := jA r0 hb2
 have r1 := jA r1 hb2
 have hB := jC hB hb2
 have hne : ¬ w.heap.size + 1 = w1.heap.size := by omega
 have hne' : ¬ w1.heap.size = w.heap.size + 1 := by omega
 clear hb2
 go_region
 go_wp2
 refine bodyPost_ret (v := .tuple #[.agg #[.int .u32 (bits .or .u32 a (2 ^ (31 - n).toNat % 4294967296)), .int .i64 (n + 1)], .int .i64 0]) (by simp [results, Tryz.results189, go_sem, r0, r1]) rfl ⟨rfl, ?_⟩
 exact (((hB.setCell (by simp; omega) _).setCell (by simp) _).setCell (by simp) _).drew
theorem ip_Half (a n t : Int) (w : World) (h0 : 0 ≤ a) (h : a < 4294967296) (hR : rightB a n = true) (hn : n < 32) :
  Calls Tryz.prog 189 #[.agg #[.int .u32 a, .int .i64 n], .int .i64 t] w fun e w' => e = .returned (.tuple #[.agg #[.int .u32 (halfI a n t), .int .i64 (n + 1)], .int .i64 0]) ∧ Below w.heap.size w w' := by
 have hr := rightB_range hR
 have hn' : (n == 32) = false := by simp; omega
 by_cases ht : t = 0
 ·subst ht
  exact ip_Half_zero a n w h0 h hR hn' hr.1 hr.2
 ·rw [halfI_1 a n t ht, ← or_half a n h0 h hR hn]
  exact ip_Half_one a n t w h0 h hR hn' hr.1 (by omega) (by simpa using ht)
open Go.RowKit
abbrev TrI := TrieAt 213 221 av0
theorem jS {B : Nat} {a w : World} (h : Below B a w) (n : Nat) : Below B a (w.drewN n) := h.trans ⟨rfl, rfl, rfl, Nat.le_refl _, fun _ _ => rfl⟩
theorem trI_made (w : World) (most : Int) : TrI (w.alloc (.cells #[.pointer none, .int .i64 most, .int .i64 0] 213)) w.heap.size (fun _ => none) [] most :=
 ⟨heap_alloc_new w _, fun _ _ h => (by cases h), fun _ _ _ h => (by cases h), fun _ h => (by cases h), fun _ _ h => (by cases h), rfl, fun _ h => absurd h (by simp), fun _ _ => rfl, by simp [KeysApart]⟩
set_option maxHeartbeats 400000 in
theorem trI_New (n : Int) (w : World) : Calls Tryz.prog 90 #[.int .i64 n] w fun e w' => e = .returned (.pointer (some ⟨w.heap.size, 0, none⟩)) ∧ TrI w' w.heap.size (fun _ => none) [] (min (max n 0) 4096) ∧ Below w.heap.size w w' := by
 have E : Hid (∀ m, m = min (max n 0) 4096 → TrI (w.alloc (.cells #[.pointer none, .int .i64 m, .int .i64 0] 213)) w.heap.size (fun _ => none) [] (min (max n 0) 4096)) := jh fun m hm => by rw [← hm]; exact trI_made w m
 go_enter Tryz.func90, Tryz.ntmps90
 go_wp2_with fail
 all_goals
  go_ret
  exact ⟨rfl, E.out _ (by omega), (Below.refl _ _).alloc (Nat.le_refl _) _⟩
set_option maxHeartbeats 400000 in
theorem trI_Len {tb : Nat} {N : Nat → Option Nat} {S : List (Nat × AV)} {most : Int} {w : World} (h : TrI w tb N S most) : Calls Tryz.prog 96 #[.pointer (some ⟨tb, 0, none⟩)] w fun e w' => e = .returned (.int .i64 S.length) ∧ w = w' := by
 obtain ⟨c0, c1, c2⟩ := h.cells
 clear h
 go_enter Tryz.func96, Tryz.ntmps96
 go_wp2_with fail
 go_ret
 exact ⟨rfl, rfl⟩
set_option maxHeartbeats 400000 in
theorem trI_find_no (p : Addr) (a n : Int) (w : World) (h0 : 0 ≤ a) (h : a < 4294967296) (hR : rightB a n = false) : Calls Tryz.prog 136 #[.pointer (some p), .agg #[.int .u32 a, .int .i64 n]] w fun e w' => e = .returned (.pointer none) ∧ Below w.heap.size w w' := by
 go_enter Tryz.func136, Tryz.ntmps136
 go_wp2_with fail
 obtain ⟨W0, hW0, c0, c1, hB⟩ := box2 w (.int .u32 a) (.int .i64 n) 53
 rw [← hW0]; clear hW0
 refine (ip_Check a n W0 h0 h).mono ?_
 rintro e w1 ⟨rfl, hb⟩
 have hB := jC hB hb
 rw [hR]
 go_wp2_with fail
 go_ret
 exact ⟨rfl, hB⟩
theorem bit_q (a i : Nat) (ha : a < 4294967296) (hi : i < 32) (w : World) : Calls Tryz.prog 137 #[.int .u32 a, .int .i64 i] w fun e w' => e = .returned (.int .i64 (a / 2 ^ (31 - i) % 2 : Nat)) ∧ w' = w := by
 refine (ip_Bit a i w (by omega) (by omega)).mono ?_
 rintro e w' ⟨rfl, rfl⟩
 rw [bit_key a i hi]
 exact ⟨rfl, rfl⟩
set_option maxHeartbeats 1600000 in
set_option maxRecDepth 100000 in
theorem trI_find {tb : Nat} {N : Nat → Option Nat} {S : List (Nat × AV)} {most : Int} (a n : Nat) (w : World) (h : TrI w tb N S most) (ha : a < 4294967296) (hR : rightB a n = true) :
  Calls Tryz.prog 136 #[.pointer (some ⟨tb, 0, none⟩), .agg #[.int .u32 a, .int .i64 n]] w fun e w' => e = .returned (ptrN (N (keyN a n))) ∧ Below w.heap.size w w' := by
 have hn : n ≤ 32 := by have := (rightB_range hR).2; omega
 have CK := ip_Check a n (h0 := by omega) (h := by omega)
 have H := jh h
 have K0 := jh (keyN_0 a ha)
 clear h
 go_enter Tryz.func136, Tryz.ntmps136
 go_wp2_with fail
 obtain ⟨W0, hW0, c0, c1, hB⟩ := box2 w (.int .u32 a) (.int .i64 n) 53
 rw [← hW0]; clear hW0
 refine (CK W0).mono ?_
 rintro e w1 ⟨rfl, hb⟩
 have c0 := jA c0 hb
 have c1 := jA c1 hb
 have hB := jC hB hb
 have H1 := jh (H.out.below hB)
 have t0 := H1.out.cells.1
 clear hb CK
 rw [hR]
 go_wp2_with fail
 clear t0
 go_loopw [5, 6] (fun x i wr => ∃ k : Nat, k ≤ n ∧ i = .int .i64 k ∧ x = ptrN (N (keyN a k)) ∧ Below w1.heap.size w1 wr) (fun _ i _ => n - (intOf i).toNat)
 case atStart => exact ⟨0, by omega, rfl, by rw [K0.out], Below.refl _ _⟩
 case round =>
  obtain ⟨k, hk, rfl, rfl, hbr⟩ := hrel
  have c0 := jA c0 hbr
  have c1 := jA c1 hbr
  have hBr := jC hB hbr
  have Hr := jh (H1.out.below hbr)
  by_cases hlt : k < n
  ·cases hx : N (keyN a k) with
   | none =>
    have E : Hid (N (keyN a n) = none) := jh (by
     have aux : ∀ d, k + d ≤ n → N (keyN a (k + d)) = none := by
      intro d
      induction d with
      | zero => intro _; exact hx
      | succ d ih =>
       intro hd
       have h1 := ih (by omega)
       rw [show k + (d + 1) = (k + d) + 1 by omega, keyN_succ a (k + d) (by omega)]
       obtain ⟨u1, u2⟩ := Hr.out.up_none h1 (keyN_pos a _)
       rcases Nat.mod_two_eq_zero_or_one (a / 2 ^ (31 - (k + d))) with m | m
       ·rw [m]; exact u1
       ·rw [m]; exact u2
     have := aux (n - k) (by omega)
     rwa [show k + (n - k) = n by omega] at this)
    clear hx
    go_wp2_with fail
    go_ret
    exact ⟨by rw [E.out]; rfl, hBr⟩
   | some b =>
    obtain ⟨d0, d1, _⟩ := Hr.out.ncells hx
    have hbit := Nat.mod_two_eq_zero_or_one (a / 2 ^ (31 - k))
    have KS := keyN_succ a k (by omega)
    have BQ := fun W => bit_q a k ha (by omega) W
    clear hx
    rw [ptrN_some]
    rcases hbit with m | m
    ·rw [m] at KS BQ
     have KS := jh KS
     have BQ := jh BQ
     clear m
     go_wp2_with fail
     go_quiet ((go_at_call 137; exact Calls.quiet_of_same (BQ.out _)))
     go_wp2_with fail
     exact ⟨⟨k + 1, by omega, by go_num, by rw [KS.out]; rfl, jS hbr _⟩, by simp [intOf]; omega⟩
    ·rw [m] at KS BQ
     have KS := jh KS
     have BQ := jh BQ
     clear m
     go_wp2_with fail
     go_quiet ((go_at_call 137; exact Calls.quiet_of_same (BQ.out _)))
     go_wp2_with fail
     exact ⟨⟨k + 1, by omega, by go_num, by rw [KS.out], jS hbr _⟩, by simp [intOf]; omega⟩
  ·obtain rfl : k = n := by omega
   go_wp2_with fail
   go_ret
   exact ⟨rfl, hBr⟩
open Go.RowKit
def TExt (N N' : Nat → Option Nat) (B : Nat) : Prop := (∀ k b, N k = some b → N' k = some b) ∧ ∀ k b, N' k = some b → N k = some b ∨ B ≤ b
theorem TExt.refl (N : Nat → Option Nat) (B : Nat) : TExt N N B := ⟨fun _ _ h => h, fun _ _ h => .inl h⟩
theorem TExt.upd {N N' : Nat → Option Nat} {B κ nb : Nat} (h : TExt N N' B) (hn : N' κ = none) (hB : B ≤ nb) : TExt N (updN N' κ (some nb)) B := by
 refine ⟨fun k b hk => ?_, fun k b hk => ?_⟩
 ·have h1 := h.1 k b hk
  rw [updN_ne _ _ (fun e => by rw [e, hn] at h1; cases h1)]
  exact h1
 ·by_cases e : k = κ
  ·subst e
   rw [updN_same] at hk
   cases hk
   exact .inr hB
  ·rw [updN_ne _ _ e] at hk
   exact h.2 k b hk
theorem Kept.put {F : Nat → Prop} {w w1 : World} (h : Kept F w w1) (p : Addr) (v : Value) (hF : F p.block ∨ w.heap.size ≤ p.block) : Kept F w (w1.setCell p v) := by
 refine ⟨h.os, h.tape, h.output, by simpa [World.setCell] using h.size, fun k hk hf => ?_⟩
 rw [Deep.blk_setCell_other w1 p v k (fun e => by
  subst e
  rcases hF with hF | hF
  ·exact hf hF
  ·omega)]
 exact h.block k hk hf
theorem Kept.grow {F : Nat → Prop} {w w1 w2 : World} (h : Kept F w w1) (hb : Below w1.heap.size w1 w2) : Kept F w w2 := h.trans (Kept.of_below hb)
theorem slot_own {tb : Nat} {N N' : Nat → Option Nat} {B κ : Nat} {ad : Addr} (hs : SlotAt tb N' κ ad) (hx : TExt N N' B) : TOwn tb N ad.block ∨ B ≤ ad.block := by
 rcases hs with ⟨_, rfl⟩ | ⟨_, b, hb, rfl⟩
 ·exact .inl (.inl rfl)
 ·rcases hx.2 _ _ hb with h | h
  ·exact .inl (.inr ⟨_, h⟩)
  ·exact .inr h
def ReachPost (tb : Nat) (N : Nat → Option Nat) (S : List (Nat × AV)) (most : Int) (w : World) (κ : Nat) (e : Ending) (w' : World) : Prop :=
 ∃ N' b, e = .returned (.pointer (some ⟨b, 0, none⟩)) ∧ N' κ = some b ∧ TrI w' tb N' S most ∧ TExt N N' w.heap.size ∧ Kept (TOwn tb N) w w'
theorem hang_node {tb : Nat} {N : Nat → Option Nat} {S : List (Nat × AV)} {most : Int} {W : World} (h : TrI W tb N S most) {κ : Nat} {ad : Addr} (hs : SlotAt tb N κ ad) (hn : N κ = none) (h1 : 1 ≤ κ) (hd : κ < 2 ^ 33) :
  TrI ((W.alloc (.cells #[.pointer none, .pointer none, .bool false, .int .i64 0, .int .i64 0, .slice none 0 0, .int .u32 0, .int .i64 0, .int .i64 0, .int .i64 0, .int .u32 0, .slice none 0 0, .slice none 0 0] 221)).setCell ad (.pointer (some ⟨W.heap.size, 0, none⟩))) tb (updN N κ (some W.heap.size)) S most :=
 h.hang (o := some W.heap.size) ((Below.refl _ _).alloc (Nat.le_refl _) _) hs h1 hd (.inl hn) (h.none_of hn) (h.up_none hn h1).1 (h.up_none hn h1).2 (fun nb e => by
  cases e; exact ⟨Nat.le_refl _, heap_alloc_new W _⟩)
theorem slot_next {tb : Nat} {N : Nat → Option Nat} {a k b d : Nat} (hk : k < 32) (hb : N (keyN a k) = some b) (hd : a / 2 ^ (31 - k) % 2 = d) : SlotAt tb N (keyN a (k + 1)) ⟨b, d, none⟩ :=
 .inr ⟨keyN_two a k, b, by rw [keyN_half a k hk]; exact hb, by rw [keyN_mod a k hk, hd]⟩
set_option maxHeartbeats 3200000 in
set_option maxRecDepth 100000 in
theorem trI_reach {tb : Nat} {N : Nat → Option Nat} {S : List (Nat × AV)} {most : Int} (a n : Nat) (w : World) (h : TrI w tb N S most) (ha : a < 4294967296) (hn : n ≤ 32) :
  Calls Tryz.prog 138 #[.pointer (some ⟨tb, 0, none⟩), .agg #[.int .u32 a, .int .i64 n]] w (ReachPost tb N S most w (keyN a n)) := by
 have H := jh h
 have K0 := jh (keyN_0 a ha)
 clear h
 go_enter Tryz.func138, Tryz.ntmps138
 go_wp2_with fail
 obtain ⟨W0, hW0, c0, c1, hB⟩ := box2 w (.int .u32 a) (.int .i64 n) 53
 rw [← hW0]; clear hW0
 have H1 := jh (H.out.below hB)
 have nf : Hid (¬ TOwn tb N w.heap.size) := jh fun ho => by have := H.out.own_lt ho; omega
 go_loopw [5, 6] (fun x i wr => ∃ (k : Nat) (N' : Nat → Option Nat) (ad : Addr), k ≤ n ∧ i = .int .i64 k ∧ x = .pointer (some ad) ∧ Hid (SlotAt tb N' (keyN a k) ad ∧ TrI wr tb N' S most ∧ TExt N N' W0.heap.size ∧ Kept (TOwn tb N) W0 wr)) (fun _ i _ => n - (intOf i).toNat)
 case atStart => exact ⟨0, N, ⟨tb, 0, none⟩, by omega, rfl, rfl, jh ⟨.inl ⟨K0.out, rfl⟩, H1.out, TExt.refl _ _, Kept.refl _ _⟩⟩
 case round =>
  obtain ⟨k, N', ad, hk, rfl, rfl, C⟩ := hrel
  have c0 := C.out.2.2.2.cell c0 nf.out
  have c1 := C.out.2.2.2.cell c1 nf.out
  obtain ⟨ac, af⟩ := C.out.1.cell C.out.2.1
  have BQ := jh (fun W (h32 : k < 32) => bit_q a k ha h32 W)
  cases hx : N' (keyN a k) with
  | none =>
   rw [hx] at ac
   have ac : wr.cell? ad = some (.pointer none) := ac
   have hal : Below wr.heap.size wr (wr.alloc (.cells #[.pointer none, .pointer none, .bool false, .int .i64 0, .int .i64 0, .slice none 0 0, .int .u32 0, .int .i64 0, .int .i64 0, .int .i64 0, .int .u32 0, .slice none 0 0, .slice none 0 0] 221)) := (Below.refl _ _).alloc (Nat.le_refl _) _
   have ac' := jA ac hal
   have af' := frozen_below (World.block_lt_of_cell? wr ad ac) af hal
   go_upto_region 6 with (fail)
   obtain ⟨W2, hW2⟩ : ∃ W2, W2 = (wr.alloc (.cells #[.pointer none, .pointer none, .bool false, .int .i64 0, .int .i64 0, .slice none 0 0, .int .u32 0, .int .i64 0, .int .i64 0, .int .i64 0, .int .u32 0, .slice none 0 0, .slice none 0 0] 221)).setCell ad (.pointer (some ⟨wr.heap.size, 0, none⟩)) := ⟨_, rfl⟩
   have T2 : TrI W2 tb (updN N' (keyN a k) (some wr.heap.size)) S most := by rw [hW2]; exact hang_node C.out.2.1 C.out.1 hx (keyN_pos _ _) (keyN_deep a k ha (by omega))
   have K2 : Kept (TOwn tb N) W0 W2 := by
    rw [hW2]
    exact (C.out.2.2.2.grow ((Below.refl _ _).alloc (Nat.le_refl _) _)).put _ _ (slot_own C.out.1 C.out.2.2.1)
   have X2 : TExt N (updN N' (keyN a k) (some wr.heap.size)) W0.heap.size := C.out.2.2.1.upd hx C.out.2.2.2.size
   have S2 : SlotAt tb (updN N' (keyN a k) (some wr.heap.size)) (keyN a k) ad := by
    rcases C.out.1 with ⟨e, rfl⟩ | ⟨e, b', hb', rfl⟩
    ·exact .inl ⟨e, rfl⟩
    ·exact .inr ⟨e, b', by rw [updN_ne _ _ (by omega)]; exact hb', rfl⟩
   have ac2 := (S2.cell T2).1
   rw [updN_same] at ac2
   have hb2 := updN_same N' (keyN a k) (some wr.heap.size)
   have C2 := jh (And.intro T2 (And.intro X2 K2))
   rw [← hW2]
   generalize updN N' (keyN a k) (some wr.heap.size) = Nv at C2 hb2
   clear hW2 T2 K2 X2 S2 ac af ac' af' hal c0 c1
   have c0 := C2.out.2.2.cell ‹W0.cell? ⟨w.heap.size, 0, none⟩ = _› nf.out
   have c1 := C2.out.2.2.cell ‹W0.cell? ⟨w.heap.size, 1, none⟩ = _› nf.out
   generalize wr.heap.size = b at ac2 hb2 ⊢
   rw [ptrN_some] at ac2
   by_cases hlt : k < n
   ·have z1 : ((k : Int) == (n : Int)) = false := by rw [beq_eq_false_iff_ne]; omega
    obtain ⟨d0, d1, _⟩ := C2.out.1.ncells hb2
    have HB2 := jh hb2
    clear hb2
    rcases Nat.mod_two_eq_zero_or_one (a / 2 ^ (31 - k)) with m | m
    ·have BQ' := jh (fun W => BQ.out W (by omega))
     rw [m] at BQ'
     have M := jh m
     clear m
     go_wp2_with fail
     go_quiet ((go_at_call 137; exact Calls.quiet_of_same (BQ'.out _)))
     go_wp2_with fail
     exact ⟨⟨k + 1, Nv, ⟨b, 0, none⟩, by omega, by go_num, rfl, jh ⟨slot_next (by omega) HB2.out M.out, C2.out.1.below (jS (Below.refl _ _) _), C2.out.2.1, C2.out.2.2.grow (jS (Below.refl _ _) _)⟩⟩, by simp [intOf]; omega⟩
    ·have BQ' := jh (fun W => BQ.out W (by omega))
     rw [m] at BQ'
     have M := jh m
     clear m
     go_wp2_with fail
     go_quiet ((go_at_call 137; exact Calls.quiet_of_same (BQ'.out _)))
     go_wp2_with fail
     exact ⟨⟨k + 1, Nv, ⟨b, 1, none⟩, by omega, by go_num, rfl, jh ⟨slot_next (by omega) HB2.out M.out, C2.out.1.below (jS (Below.refl _ _) _), C2.out.2.1, C2.out.2.2.grow (jS (Below.refl _ _) _)⟩⟩, by simp [intOf]; omega⟩
   ·obtain rfl : k = n := by omega
    have HB2 := jh hb2
    clear hb2
    go_wp2_with fail
    go_ret
    exact ⟨Nv, b, rfl, HB2.out, C2.out.1, ⟨C2.out.2.1.1, fun k' b' hk' => (C2.out.2.1.2 k' b' hk').imp_right (fun h => by have := hB.size; omega)⟩, (Kept.of_below hB).trans C2.out.2.2⟩
  | some b =>
   rw [hx] at ac
   have C2 := jh (And.intro C.out.2.1 (And.intro C.out.2.2.1 C.out.2.2.2))
   have hb2 := hx
   have ac2 := ac
   clear hx ac
   obtain ⟨W2, hW2⟩ : ∃ W2, W2 = wr := ⟨_, rfl⟩
   obtain ⟨Nv, hNv⟩ : ∃ Nv, Nv = N' := ⟨_, rfl⟩
   subst hW2 hNv
   rw [ptrN_some] at ac2
   by_cases hlt : k < n
   ·have z1 : ((k : Int) == (n : Int)) = false := by rw [beq_eq_false_iff_ne]; omega
    obtain ⟨d0, d1, _⟩ := C2.out.1.ncells hb2
    have HB2 := jh hb2
    clear hb2
    rcases Nat.mod_two_eq_zero_or_one (a / 2 ^ (31 - k)) with m | m
    ·have BQ' := jh (fun W => BQ.out W (by omega))
     rw [m] at BQ'
     have M := jh m
     clear m
     go_wp2_with fail
     go_quiet ((go_at_call 137; exact Calls.quiet_of_same (BQ'.out _)))
     go_wp2_with fail
     exact ⟨⟨k + 1, Nv, ⟨b, 0, none⟩, by omega, by go_num, rfl, jh ⟨slot_next (by omega) HB2.out M.out, C2.out.1.below (jS (Below.refl _ _) _), C2.out.2.1, C2.out.2.2.grow (jS (Below.refl _ _) _)⟩⟩, by simp [intOf]; omega⟩
    ·have BQ' := jh (fun W => BQ.out W (by omega))
     rw [m] at BQ'
     have M := jh m
     clear m
     go_wp2_with fail
     go_quiet ((go_at_call 137; exact Calls.quiet_of_same (BQ'.out _)))
     go_wp2_with fail
     exact ⟨⟨k + 1, Nv, ⟨b, 1, none⟩, by omega, by go_num, rfl, jh ⟨slot_next (by omega) HB2.out M.out, C2.out.1.below (jS (Below.refl _ _) _), C2.out.2.1, C2.out.2.2.grow (jS (Below.refl _ _) _)⟩⟩, by simp [intOf]; omega⟩
   ·obtain rfl : k = n := by omega
    have HB2 := jh hb2
    clear hb2
    go_wp2_with fail
    go_ret
    exact ⟨Nv, b, rfl, HB2.out, C2.out.1, ⟨C2.out.2.1.1, fun k' b' hk' => (C2.out.2.1.2 k' b' hk').imp_right (fun h => by have := hB.size; omega)⟩, (Kept.of_below hB).trans C2.out.2.2⟩
end Go.Proofs.YtkoidahgbbabiaaGreat
