/-
  A POOL OF TAGS IN MEMORY: its two maps as lists of pairs; keys and what is held as values.
-/
import Derived.Test.YtcoclbcjbpjblaaDoorMapR
import Derived.Test.YtcoclbcjbpjblaaDoorFrame
import Derived.StillTailTactics
import Derived.LoopTactic
import Derived.LoopN
namespace Go.Proofs.YtcoclbcjbpjblaaDoor
open Go.RowKit

abbrev Ky := Int × Int × Int
abbrev kyC (k : Ky) : Array Value := #[.int .i64 k.1, .int .i64 k.2.1, .int .i64 k.2.2]
abbrev kyV (k : Ky) : Value := .agg (kyC k)
abbrev Sl := Ky × Int
abbrev slC (s : Sl) : Array Value := #[.int .i64 s.1.1, .int .i64 s.1.2.1, .int .i64 s.1.2.2, .int .i64 s.2]
abbrev slV (s : Sl) : Value := .agg (slC s)
def I64 (n : Int) : Prop := -9223372036854775808 ≤ n ∧ n ≤ 9223372036854775807
abbrev nV (n : Int) : Value := .int .i64 n
def KyOk (k : Ky) : Prop := I64 k.1 ∧ I64 k.2.1 ∧ I64 k.2.2
theorem wf_of {n : Int} (h : I64 n) : (Lit.int .i64 n).wf = true := by
  unfold I64 at h; exact WalkArith.wf_i64 (by omega)
theorem int_enc : KeyEnc Tryd.prog 3 nV I64 where
  K := Maps.int_keyed Tryd.underlying3
  lit a ha := ⟨_, Maps.keyOf_int_mk Tryd.underlying3 (wf_of ha)⟩
  inj a b h := by injection h
theorem key_lit (k : Ky) (h : KyOk k) : ∃ l, keyOf Tryd.prog 41 (kyV k) = some l := by
  refine ⟨.string (keyBytes [.int .i64 k.1, .int .i64 k.2.1, .int .i64 k.2.2]), ?_⟩
  obtain ⟨m, hsz⟩ : ∃ m, Tryd.prog.types.size = m + 1 := ⟨Tryd.prog.types.size - 1, by kernel_rfl⟩
  have hkt : Tryd.prog.keyType 41 = true := by kernel_rfl
  have hc : Tryd.prog.cellsOf 41 = 3 := by kernel_rfl
  have h1 : Tryd.prog.cellsOf 3 = 1 := by kernel_rfl
  unfold keyOf
  simp only [Tryd.underlying41]
  rw [if_pos (by simp [hkt, Value.formed, Tryd.underlying41, hc]), hsz]
  unfold Program.keyLits
  simp only [Tryd.underlying41, Value.cells]
  rw [if_pos (by rw [hc]; exact ⟨rfl, by kernel_rfl⟩)]
  have hn : ∀ n : Int, I64 n → Tryd.prog.keyLits (m + 1) 3 [.int .i64 n] = some [.int .i64 n] := fun n hn => by
    unfold Program.keyLits; simp [Tryd.underlying3, wf_of hn]
  simp only [h1, List.mapM_cons, List.mapM_nil, List.drop_zero, List.drop_succ_cons, List.take_succ_cons, List.take_zero, hn _ h.1, hn _ h.2.1, hn _ h.2.2]
  rfl
theorem key_enc : KeyEnc Tryd.prog 41 kyV KyOk where
  K := Maps.Keyed.of_law (deep_law_laid (by kernel_rfl) (m := 3) (by decide) (of_decide_eq_true (by kernel_rfl)) (by kernel_rfl) (by kernel_rfl))
  lit := key_lit
  inj a b h := by
    obtain ⟨a1, a2, a3⟩ := a
    obtain ⟨b1, b2, b3⟩ := b
    simp at h
    obtain ⟨h1, h2, h3⟩ := h
    rw [h1, h2, h3]
theorem zero_int (w : World) : (zeroValue 3).run Tryd.prog w = .ok (nV 0) w := by kernel_rfl
theorem zero_held (w : World) : (zeroValue 53).run Tryd.prog w = .ok (slV ((0, 0, 0), 0)) w := by kernel_rfl
@[go_sem ↓] theorem field_uses (x y z u : Int) (w : World) : (Instr.field 53 (.agg #[.int .i64 x, .int .i64 y, .int .i64 z, .int .i64 u]) 1).run Tryd.prog w = .ok (.int .i64 u) w := by kernel_rfl
structure Pl where
  most : Int
  tg : List (Ky × Int)
  hd : List (Int × Sl)
structure PoolAt (W : World) (g a b : Nat) (p : Pl) : Prop where
  row : W.heap[g]? = some (.cells #[.int .i64 p.most, .map (some a), .map (some b)] 51 (0, 0))
  tg : MapT kyV nV KyOk W a p.tg
  hd : MapT nV slV I64 W b p.hd
  ne : a ≠ b
theorem PoolAt.lt {W : World} {g a b : Nat} {p : Pl} (h : PoolAt W g a b p) : g < W.heap.size := (Array.getElem?_eq_some_iff.1 h.row).1
theorem PoolAt.cell {W : World} {g a b : Nat} {p : Pl} (h : PoolAt W g a b p) : W.cell? ⟨g, 0, none⟩ = some (.int .i64 p.most) ∧ W.cell? ⟨g, 1, none⟩ = some (.map (some a)) ∧ W.cell? ⟨g, 2, none⟩ = some (.map (some b)) := by
  refine ⟨?_, ?_, ?_⟩ <;> simp [World.cell?, h.row]
theorem PoolAt.nea {W : World} {g a b : Nat} {p : Pl} (h : PoolAt W g a b p) : g ≠ a := by
  rintro rfl; obtain ⟨es, c, h1, _⟩ := h.tg; rw [h.row] at h1; cases h1
theorem PoolAt.neb {W : World} {g a b : Nat} {p : Pl} (h : PoolAt W g a b p) : g ≠ b := by
  rintro rfl; obtain ⟨es, c, h1, _⟩ := h.hd; rw [h.row] at h1; cases h1
theorem PoolAt.below {W W' : World} {g a b : Nat} {p : Pl} (h : PoolAt W g a b p) (hb : Below W.heap.size W W') : PoolAt W' g a b p :=
  ⟨(hb.block g h.lt).trans h.row, h.tg.below hb, h.hd.below hb, h.ne⟩
theorem PoolAt.kept {W W' : World} {g a b : Nat} {p : Pl} {F : Nat → Prop} (h : PoolAt W g a b p) (hk : Kept F W W') (hg : ¬ F g) (ha : ¬ F a) (hb : ¬ F b) : PoolAt W' g a b p :=
  ⟨(hk.block g h.lt hg).trans h.row, h.tg.kept hk ha, h.hd.kept hk hb, h.ne⟩
/-- what a call on a pool may turn. -/
def Of2 (a b : Nat) (k : Nat) : Prop := k = a ∨ k = b
/-- a region that draws its order and writes once, at its end: in the text's order. -/
theorem region_tail {P : Program} {id : Nat} {Q : Exit → Act → World → Prop} {a : Act} {w : World} {l : List Oper} (n : Nat) (hm : P.follows .mixedOrders = true) (hB : Region.lexTailB .any l.toArray n = true)
    (h : wpStill P l.toArray w.drew (fun a' => wpList P l.toArray Q (l.drop n) a' w.drew) (l.take n) a) : (Code.region id l.toArray true).wp P Q a w := wp_region_still_tail n hm hB h
theorem pool_hd {W W1 : World} {g a b : Nat} {p : Pl} {o : Obj} {l : List (Int × Sl)} (h : PoolAt W g a b p) (hB : Below W.heap.size W W1) (hm : MapT nV slV I64 (ChangeMaps.setBlock W1 b o) b l) : PoolAt (ChangeMaps.setBlock W1 b o) g a b { p with hd := l } ∧ Kept (Of2 a b) W (ChangeMaps.setBlock W1 b o) := by
  have hk : Kept (fun k => k = b) W1 (ChangeMaps.setBlock W1 b o) := Kept.setBlock o rfl
  have h1 := h.below hB
  exact ⟨⟨(hk.block g h1.lt h1.neb).trans h1.row, h1.tg.kept hk h1.ne, hm, h.ne⟩, (Kept.of_below hB).trans (hk.imp fun _ e => .inr e)⟩
theorem pool_tg {W W1 : World} {g a b : Nat} {p : Pl} {o : Obj} {l : List (Ky × Int)} (h : PoolAt W g a b p) (hB : Below W.heap.size W W1) (hm : MapT kyV nV KyOk (ChangeMaps.setBlock W1 a o) a l) : PoolAt (ChangeMaps.setBlock W1 a o) g a b { p with tg := l } ∧ Kept (Of2 a b) W (ChangeMaps.setBlock W1 a o) := by
  have hk : Kept (fun k => k = a) W1 (ChangeMaps.setBlock W1 a o) := Kept.setBlock o rfl
  have h1 := h.below hB
  exact ⟨⟨(hk.block g h1.lt h1.nea).trans h1.row, hm, h1.hd.kept hk (fun e => h1.ne e.symm), h.ne⟩, (Kept.of_below hB).trans (hk.imp fun _ e => .inl e)⟩
/-- a key in a box. -/
theorem boxK (w : World) (k : Ky) : ∃ W0, W0 = w.alloc (.cells (kyC k) 41) ∧ (W0.cell? ⟨w.heap.size, 0, none⟩ = some (.int .i64 k.1) ∧ W0.cell? ⟨w.heap.size, 1, none⟩ = some (.int .i64 k.2.1) ∧ W0.cell? ⟨w.heap.size, 2, none⟩ = some (.int .i64 k.2.2)) ∧ Below w.heap.size w W0 := by
  refine ⟨_, rfl, ⟨?_, ?_, ?_⟩, (Below.refl _ _).alloc (Nat.le_refl _) _⟩ <;> simp
end Go.Proofs.YtcoclbcjbpjblaaDoor
