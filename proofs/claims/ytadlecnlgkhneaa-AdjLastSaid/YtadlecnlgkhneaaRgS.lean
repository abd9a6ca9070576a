/-
  Steps of a region that draws its order, with one look for all conditions.
-/
import Derived.Test.YtadlecnlgkhneaaRg
namespace Go.Proofs.Ytadlecnlgkhneaa
open Go.RowKit
theorem atN {α : Type} {l : List α} {n : Nat} {x : α} (h : l[n]? = some x) : (List.toArray l)[n]? = some x := by simpa using h
section
variable {P : Program} {ops : Array Oper} {Q : Exit → Act → World → Prop} {md : Region.Mode} {S : World → Prop}
theorem three {a b c : Bool} (h : (a && (b && c)) = true) : a = true ∧ b = true ∧ c = true := by simpa using h
/-- an operation whose guard is false is passed by (one look for all). -/
theorem rgn {i : Nat} {oi : Oper} {fuel : Nat} {listed : Array Bool} {a : Act} {w : World} (hi : ops[i]? = some oi)
    (hk : (Region.noSelect ops && (Region.free md ops listed i && (Region.ready md ops listed).contains i)) = true)
    (hQ : ∀ c a w, Q (.panic c) (a.put oi.dst undef) w → Q (.panic c) a w) (hw : Region.wanted oi (yielded ops a.tmps) = false) (hS : S w)
    (h : wpAnyH P md ops Q S fuel (listed.setIfInBounds i true) (a.put oi.dst undef) w) : wpAnyH P md ops Q S (fuel + 1) listed a w :=
  rg_no hi (three hk).1 (three hk).2.1 (three hk).2.2 hQ hw hS h
/-- an operation that only computes, or reads what S says of memory (one look for all). -/
theorem rgy {i : Nat} {oi : Oper} {v : Value} {fuel : Nat} {listed : Array Bool} {a : Act} {w : World} (hi : ops[i]? = some oi)
    (hk : (Region.noSelect ops && (Region.free md ops listed i && (Region.ready md ops listed).contains i)) = true)
    (hQ : ∀ c a w, Q (.panic c) (a.put oi.dst v) w → Q (.panic c) a w) (hw : Region.wanted oi (yielded ops a.tmps) = true) (hy : ∀ w, S w → (execOp a.eval oi).run P w = .ok (.value v) w) (hS : S w)
    (h : wpAnyH P md ops Q S fuel (listed.setIfInBounds i true) (a.put oi.dst v) w) : wpAnyH P md ops Q S (fuel + 1) listed a w :=
  rg_yes hi (three hk).1 (three hk).2.1 (three hk).2.2 hQ hw hy hS h
end
end Go.Proofs.Ytadlecnlgkhneaa
