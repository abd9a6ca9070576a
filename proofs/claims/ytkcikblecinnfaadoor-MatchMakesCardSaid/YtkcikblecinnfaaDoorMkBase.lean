/-
  MatchMakes, walks: what is held in memory.
-/
import Derived.Test.YtkcikblecinnfaaDoorMakesLaws
namespace Go.Proofs.YtkcikblecinnfaaDoor
open Go.RowKit

theorem run_neq_mt0 (w : World) : (binOp .neq 25 (mtV mt0) (.agg mtZ)).run Tryd.prog w = .ok (.bool false) w := by kernel_rfl
attribute [go_sem ↓] run_neq_mt0
theorem atN {α : Type} {l : List α} {n : Nat} {x : α} (h : l[n]? = some x) : (List.toArray l)[n]? = some x := by simpa using h
section
variable {P : Program} {ops : Array Oper} {Q : Exit → Act → World → Prop} {md : Region.Mode} {S : World → Prop}
theorem three {a b c : Bool} (h : (a && (b && c)) = true) : a = true ∧ b = true ∧ c = true := by simpa using h
/-- an operation whose guard is false is passed by (one look for all). -/
theorem rgn {i : Nat} {oi : Oper} {fuel : Nat} {listed : Array Bool} {a : Act} {w : World} (hi : ops[i]? = some oi)
    (hk : (Region.noSelect ops && (Region.free md ops listed i && (Region.ready md ops listed).contains i)) = true)
    (hQ : ∀ c a w, Q (.panic c) (a.put oi.dst undef) w → Q (.panic c) a w) (hw : Region.wanted oi (yielded ops a.tmps) = false) (hS : S w)
    (h : wpAnyH P md ops Q S fuel (listed.setIfInBounds i true) (a.put oi.dst undef) w) : wpAnyH P md ops Q S (fuel + 1) listed a w :=
  rg_no hi (three hk).1 (three hk).2.1 (three hk).2.2 hQ hw hS h
/-- an operation that only computes, or reads what S says of memory (one look for all). -/
theorem rgy {i : Nat} {oi : Oper} {v : Value} {fuel : Nat} {listed : Array Bool} {a : Act} {w : World} (hi : ops[i]? = some oi)
    (hk : (Region.noSelect ops && (Region.free md ops listed i && (Region.ready md ops listed).contains i)) = true)
    (hQ : ∀ c a w, Q (.panic c) (a.put oi.dst v) w → Q (.panic c) a w) (hw : Region.wanted oi (yielded ops a.tmps) = true) (hy : ∀ w, S w → (execOp a.eval oi).run P w = .ok (.value v) w) (hS : S w)
    (h : wpAnyH P md ops Q S fuel (listed.setIfInBounds i true) (a.put oi.dst v) w) : wpAnyH P md ops Q S (fuel + 1) listed a w :=
  rg_yes hi (three hk).1 (three hk).2.1 (three hk).2.2 hQ hw hy hS h
end
/-- a net and a header that were handed in, in memory. -/
def Mem (w : World) (a : Nat) (n : Int) (h : Hdr) (W : World) : Prop := Below w.heap.size w W ∧ Wid W ∧ W.cell? ⟨w.heap.size, 0, none⟩ = some (.int .u32 a) ∧ W.cell? ⟨w.heap.size, 1, none⟩ = some (.int .i64 n) ∧ HBox W (w.heap.size + 1) h
theorem Mem.below {w : World} {a : Nat} {n : Int} {h : Hdr} {W W' : World} (m : Mem w a n h W) (hb : Below W.heap.size W W') : Mem w a n h W' :=
  ⟨below_on m.1 hb, m.2.1.below hb, cell_below m.2.2.1 hb, cell_below m.2.2.2.1 hb, m.2.2.2.2.below hb⟩
theorem mem_first (w : World) (a : Nat) (n : Int) (h : Hdr) (hT : Wid w) : ∃ W, W = (w.alloc (.cells #[.int .u32 a, .int .i64 n] 42)).alloc (.cells (hdrC h) 31) ∧ Mem w a n h W := by
  obtain ⟨W0, hW0, c0, c1, hB⟩ := box2 w (.int .u32 a) (.int .i64 n) 42
  have hs : W0.heap.size = w.heap.size + 1 := by rw [hW0]; simp
  obtain ⟨W1, hW1, hx, hb⟩ := boxH W0 h
  rw [hs] at hx
  exact ⟨W1, by rw [hW1, hW0], below_on hB hb, hT.below (below_on hB hb), cell_below c0 hb, cell_below c1 hb, hx⟩
end Go.Proofs.YtkcikblecinnfaaDoor
