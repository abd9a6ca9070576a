/-
  No cell of these rows narrows 'for every input' (looked for: loops, veiled, ifaces, maps, wideKeys, modest, calm, conditions, laid).
  DERIVED. THE GIVEN ROWS OF THIS SEAT. 4 by the template 'for every input the law returns true; each argument reads behind the call as it read before'; 0 by the template 'total and deterministic' (their statements: YtadlecnlgkhneaaTotals.lean).
  GIVEN WITH THE SEED: the statements are not yours to turn. If you find one false, say at which input.
  Laid BY PROGRAM, IN A SANDBOX (cutbox-rows.mjs): the forced cells as the released guide's own fill.sh prints them over the translation 1de16e450b6da609… (all of the seat's roots in one cut). By AI agents, Wed Nov 11 2026. No macro, syntax, notation, axiom, sorry.
-/
import Derived.Test.YtadlecnlgkhneaaChecked
import GoSem.Claim
import GoSem.ClaimJoined
import GoSem.ClaimMapViews
import Derived.JoinedTies
import Derived.KernelRfl
namespace Go.Proofs.Ytadlecnlgkhneaa
/- THE CELL 'sum', in the pinned program and in every row, IS THE sha256 OF THE DUMP (.gsa) THAT YtadlecnlgkhneaaProg.lean LOADS. Nothing in Lean hashes anything: it is a label: what it is worth is what the hold of that sum in a sandbox is worth. -/
noncomputable def Try.pinned : Pinned := { name := "ytadlecnlgkhneaa", sum := "1de16e450b6da6091e2f04a602515082defeed08528af5a94023f50a9e6e7258", checked := Try.checked }
namespace Rows
def none {H : Type} : Left H := { results := [], args := [] }

/-- 'carrefourlaw11.AdjRoom': WHATEVER THE INPUT: true; the input reads as it did. -/
def adjRoomSpec : ChangeSpec := { name := "adjRoom", fn := fun _ => fun
  | [d] => { results := [.lit (.bool true)], args := [d] }
  | _ => none }
def adjRoomRow : OpenClaim := { program := "ytadlecnlgkhneaa", sum := "1de16e450b6da6091e2f04a602515082defeed08528af5a94023f50a9e6e7258", func := "carrefour/carrefourlaw11.AdjRoom", spec := "adjRoom", unfollowed := true, recurses := true, plainKeys := false, apart := false }
def AdjRoomSaid : Prop := adjRoomRow.holds Try.pinned (OpenSpec.ofChange adjRoomSpec)

/-- ITS FALSE NEIGHBOUR: 'it returns false'. Refute it at one input. -/
def adjRoomWrong : ChangeSpec := { name := "adjRoom", fn := fun _ => fun
  | [d] => { results := [.lit (.bool false)], args := [d] }
  | _ => none }
def AdjRoomWrongFalsely : Prop := adjRoomRow.holds Try.pinned (OpenSpec.ofChange adjRoomWrong)

/-- 'carrefourlaw11.AdjLast': WHATEVER THE INPUT: true; the input reads as it did. -/
def adjLastSpec : ChangeSpec := { name := "adjLast", fn := fun _ => fun
  | [d1, d2, d3, d4] => { results := [.lit (.bool true)], args := [d1, d2, d3, d4] }
  | _ => none }
def adjLastRow : OpenClaim := { program := "ytadlecnlgkhneaa", sum := "1de16e450b6da6091e2f04a602515082defeed08528af5a94023f50a9e6e7258", func := "carrefour/carrefourlaw11.AdjLast", spec := "adjLast", unfollowed := true, recurses := true, plainKeys := false, apart := false }
def AdjLastSaid : Prop := adjLastRow.holds Try.pinned (OpenSpec.ofChange adjLastSpec)

/-- ITS FALSE NEIGHBOUR: 'it returns false'. Refute it at one input. -/
def adjLastWrong : ChangeSpec := { name := "adjLast", fn := fun _ => fun
  | [d1, d2, d3, d4] => { results := [.lit (.bool false)], args := [d1, d2, d3, d4] }
  | _ => none }
def AdjLastWrongFalsely : Prop := adjLastRow.holds Try.pinned (OpenSpec.ofChange adjLastWrong)

/-- 'carrefourlaw11.AdjOwn': WHATEVER THE INPUT: true; the input reads as it did. -/
def adjOwnSpec : ChangeSpec := { name := "adjOwn", fn := fun _ => fun
  | [d1, d2] => { results := [.lit (.bool true)], args := [d1, d2] }
  | _ => none }
def adjOwnRow : OpenClaim := { program := "ytadlecnlgkhneaa", sum := "1de16e450b6da6091e2f04a602515082defeed08528af5a94023f50a9e6e7258", func := "carrefour/carrefourlaw11.AdjOwn", spec := "adjOwn", unfollowed := true, recurses := true, plainKeys := false, apart := false }
def AdjOwnSaid : Prop := adjOwnRow.holds Try.pinned (OpenSpec.ofChange adjOwnSpec)

/-- ITS FALSE NEIGHBOUR: 'it returns false'. Refute it at one input. -/
def adjOwnWrong : ChangeSpec := { name := "adjOwn", fn := fun _ => fun
  | [d1, d2] => { results := [.lit (.bool false)], args := [d1, d2] }
  | _ => none }
def AdjOwnWrongFalsely : Prop := adjOwnRow.holds Try.pinned (OpenSpec.ofChange adjOwnWrong)

/-- 'carrefourlaw11.AdjRuns': WHATEVER THE INPUT: true; the input reads as it did. -/
def adjRunsSpec : ChangeSpec := { name := "adjRuns", fn := fun _ => fun
  | [d1, d2, d3, d4] => { results := [.lit (.bool true)], args := [d1, d2, d3, d4] }
  | _ => none }
def adjRunsRow : OpenClaim := { program := "ytadlecnlgkhneaa", sum := "1de16e450b6da6091e2f04a602515082defeed08528af5a94023f50a9e6e7258", func := "carrefour/carrefourlaw11.AdjRuns", spec := "adjRuns", unfollowed := true, recurses := true, plainKeys := false, apart := false }
def AdjRunsSaid : Prop := adjRunsRow.holds Try.pinned (OpenSpec.ofChange adjRunsSpec)

/-- ITS FALSE NEIGHBOUR: 'it returns false'. Refute it at one input. -/
def adjRunsWrong : ChangeSpec := { name := "adjRuns", fn := fun _ => fun
  | [d1, d2, d3, d4] => { results := [.lit (.bool false)], args := [d1, d2, d3, d4] }
  | _ => none }
def AdjRunsWrongFalsely : Prop := adjRunsRow.holds Try.pinned (OpenSpec.ofChange adjRunsWrong)

/- THE SECOND FORM. 'bulk': how many values and letters a reading holds, each counted each time it is reached (what is shared counts as often as it is met; a slice's spare places count too). A statement '..UptoSaid' is the law's where the arguments, and the package variables that the reading takes, are together of bulk at most 1048576: NARROWER than '..Said'. Prove '..Said' where nothing that the law and all that it calls make is longer than what came in: it says more and counts as full. Else prove '..UptoSaid'. A law counts once. -/
mutual
def uptoBulk {H : Type} : DataW H → Nat
  | .lit (.string bytes) => bytes.length + 1
  | .lit _ => 1
  | .nil => 1
  | .ptr d => uptoBulk d + 1
  | .slice elems spare => uptoBulkAll elems + uptoBulkAll spare + 1
  | .agg parts => uptoBulkAll parts + 1
  | .iface _ d => uptoBulk d + 1
  | .map entries => uptoBulkEntries entries + 1
  | .held _ => 1
def uptoBulkAll {H : Type} : List (DataW H) → Nat
  | [] => 0
  | d :: r => uptoBulk d + uptoBulkAll r
def uptoBulkEntries {H : Type} : List (Lit × DataW H) → Nat
  | [] => 0
  | x :: r => uptoBulkEntry x + uptoBulkEntries r
def uptoBulkEntry {H : Type} : Lit × DataW H → Nat
  | (.string bytes, d) => bytes.length + uptoBulk d + 1
  | (_, d) => uptoBulk d + 1
 end
def uptoSmall : (H : Type) → List (DataW H) → Bool := fun _ ds => decide (uptoBulkAll ds ≤ 1048576)
def OpenSpec.upto (s : _root_.Go.ChangeSpec) : _root_.Go.OpenSpec := { _root_.Go.OpenSpec.ofChange s with cond := some uptoSmall }

/-- 'carrefourlaw11.AdjRoom', WHERE WHAT IT READS IS OF BULK AT MOST 1048576: true; the input reads as it did. -/
def adjRoomUptoRow : OpenClaim := { program := "ytadlecnlgkhneaa", sum := "1de16e450b6da6091e2f04a602515082defeed08528af5a94023f50a9e6e7258", func := "carrefour/carrefourlaw11.AdjRoom", spec := "adjRoom", unfollowed := true, recurses := true, plainKeys := false, apart := false, narrowed := true }
def AdjRoomUptoSaid : Prop := adjRoomUptoRow.holds Try.pinned (OpenSpec.upto adjRoomSpec)

/-- 'carrefourlaw11.AdjLast', WHERE WHAT IT READS IS OF BULK AT MOST 1048576: true; the input reads as it did. -/
def adjLastUptoRow : OpenClaim := { program := "ytadlecnlgkhneaa", sum := "1de16e450b6da6091e2f04a602515082defeed08528af5a94023f50a9e6e7258", func := "carrefour/carrefourlaw11.AdjLast", spec := "adjLast", unfollowed := true, recurses := true, plainKeys := false, apart := false, narrowed := true }
def AdjLastUptoSaid : Prop := adjLastUptoRow.holds Try.pinned (OpenSpec.upto adjLastSpec)

/-- 'carrefourlaw11.AdjOwn', WHERE WHAT IT READS IS OF BULK AT MOST 1048576: true; the input reads as it did. -/
def adjOwnUptoRow : OpenClaim := { program := "ytadlecnlgkhneaa", sum := "1de16e450b6da6091e2f04a602515082defeed08528af5a94023f50a9e6e7258", func := "carrefour/carrefourlaw11.AdjOwn", spec := "adjOwn", unfollowed := true, recurses := true, plainKeys := false, apart := false, narrowed := true }
def AdjOwnUptoSaid : Prop := adjOwnUptoRow.holds Try.pinned (OpenSpec.upto adjOwnSpec)

/-- 'carrefourlaw11.AdjRuns', WHERE WHAT IT READS IS OF BULK AT MOST 1048576: true; the input reads as it did. -/
def adjRunsUptoRow : OpenClaim := { program := "ytadlecnlgkhneaa", sum := "1de16e450b6da6091e2f04a602515082defeed08528af5a94023f50a9e6e7258", func := "carrefour/carrefourlaw11.AdjRuns", spec := "adjRuns", unfollowed := true, recurses := true, plainKeys := false, apart := false, narrowed := true }
def AdjRunsUptoSaid : Prop := adjRunsUptoRow.holds Try.pinned (OpenSpec.upto adjRunsSpec)

end Rows
end Go.Proofs.Ytadlecnlgkhneaa
