/-
  A STATEMENT THAT DRAWS ITS ORDER, WHERE TWO OPERATIONS THAT TOUCH MEMORY MAY COME UP; whole values stored.
-/
import Derived.Test.YtadlecnlgkhneaaRg
import Derived.Laws.Tables
namespace Go.Proofs.Ytadlecnlgkhneaa
open Go.RowKit
section
variable {P : Program} {ops : Array Oper} {Q : Exit → Act → World → Prop} {md : Region.Mode} {S : World → Prop}
/-- two operations come up: each is carried out. -/
theorem rg_call2 {i j : Nat} {oi oj : Oper} {fuel : Nat} {listed : Array Bool} {a : Act} {w : World} (hi : ops[i]? = some oi) (hj : ops[j]? = some oj)
    (hr : Region.ready md ops listed = [i, j]) (hw : Region.wanted oi (yielded ops a.tmps) = true) (hv : Region.wanted oj (yielded ops a.tmps) = true)
    (h : ∀ K' : Act → World → Prop, Shut (∀ a w, S w → (S w → wpAnyH P md ops Q S fuel (listed.setIfInBounds i true) a w) → K' a w) → Oper.wp P oi a w K' Q)
    (h2 : ∀ K' : Act → World → Prop, Shut (∀ a w, S w → (S w → wpAnyH P md ops Q S fuel (listed.setIfInBounds j true) a w) → K' a w) → Oper.wp P oj a w K' Q) : wpAnyH P md ops Q S (fuel + 1) listed a w :=
  wpAnyH_ready (rs := [i, j]) hr (by simp) (AllReadyH.cons hi (fun K hK => by rw [if_pos hw]; exact h K hK) (AllReadyH.cons hj (fun K hK => by rw [if_pos hv]; exact h2 K hK) AllReadyH.nil))
end
/-- a whole value is stored where one lay. -/
theorem wp_store_rowat {P : Program} {o : Oper} {a : Act} {w : World} {K : Act → World → Prop} {Q : Exit → Act → World → Prop} (ty : TypeId) (x y : Operand) (ho : o.op = .store ty x y)
    (g : Nat) (hx : a.eval x = .pointer (some ⟨g, 0, none⟩)) (t : TypeId) (old cs : Array Value) (hy : a.eval y = .agg cs) (hg : w.heap[g]? = some (.cells old t (0, 0))) (hi : (P.info? ty).map (·.size) = some cs.size) (hs : old.size = cs.size) (h1 : cs.all (·.oneCell') = true)
    (h : K (a.put o.dst undef) (w.setRow g cs)) : o.wp P a w K Q := by
  unfold Oper.wp execOp
  simp only [ho, hx, hy, Instr.storeAt, Instr.sureAddr, Sem.run_bind, Sem.run_pure, Result.andThen_ok, run_storeVar_row w g t ty old cs hg hi hs h1]
  exact h
end Go.Proofs.Ytadlecnlgkhneaa
