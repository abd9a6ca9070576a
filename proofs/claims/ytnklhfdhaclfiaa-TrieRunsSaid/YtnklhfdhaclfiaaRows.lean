/-
  No cell of these rows narrows 'for every input' (looked for: loops, veiled, ifaces, maps, wideKeys, modest, calm, conditions, laid).
  DERIVED. THE GIVEN ROWS OF THIS SEAT. 5 by the template 'for every input the law returns true; each argument reads behind the call as it read before'; 0 by the template 'total and deterministic' (their statements: YtnklhfdhaclfiaaTotals.lean).
  GIVEN WITH THE SEED: the statements are not yours to turn. If you find one false, say at which input.
  Laid BY PROGRAM, IN A SANDBOX (cutbox-rows.mjs): the forced cells as the released guide's own fill.sh prints them over the translation 51b5cf907a9f6ba4… (all of the seat's roots in one cut). By AI agents, Wed Nov 11 2026. No macro, syntax, notation, axiom, sorry.
-/
import Derived.Test.YtnklhfdhaclfiaaChecked
import GoSem.Claim
import GoSem.ClaimJoined
import GoSem.ClaimMapViews
import Derived.JoinedTies
import Derived.KernelRfl
namespace Go.Proofs.Ytnklhfdhaclfiaa
/- THE CELL 'sum', in the pinned program and in every row, IS THE sha256 OF THE DUMP (.gsa) THAT YtnklhfdhaclfiaaProg.lean LOADS. Nothing in Lean hashes anything: it is a label: what it is worth is what the hold of that sum in a sandbox is worth. -/
noncomputable def Try.pinned : Pinned := { name := "ytnklhfdhaclfiaa", sum := "51b5cf907a9f6ba4f635486544058543d21afb63a3a0843e890ade559b7f8ee1", checked := Try.checked }
namespace Rows
def none {H : Type} : Left H := { results := [], args := [] }

/-- 'carrefourlaw02.TrieStops': WHATEVER THE INPUT: true; the input reads as it did. -/
def trieStopsSpec : ChangeSpec := { name := "trieStops", fn := fun _ => fun
  | [d1, d2] => { results := [.lit (.bool true)], args := [d1, d2] }
  | _ => none }
def trieStopsRow : OpenClaim := { program := "ytnklhfdhaclfiaa", sum := "51b5cf907a9f6ba4f635486544058543d21afb63a3a0843e890ade559b7f8ee1", func := "carrefour/carrefourlaw02.TrieStops", spec := "trieStops", unfollowed := true, recurses := true, apart := false }
def TrieStopsSaid : Prop := trieStopsRow.holds Try.pinned (OpenSpec.ofChange trieStopsSpec)

/-- ITS FALSE NEIGHBOUR: 'it returns false'. Refute it at one input. -/
def trieStopsWrong : ChangeSpec := { name := "trieStops", fn := fun _ => fun
  | [d1, d2] => { results := [.lit (.bool false)], args := [d1, d2] }
  | _ => none }
def TrieStopsWrongFalsely : Prop := trieStopsRow.holds Try.pinned (OpenSpec.ofChange trieStopsWrong)

/-- 'carrefourlaw02.TrieBelow': WHATEVER THE INPUT: true; the input reads as it did. -/
def trieBelowSpec : ChangeSpec := { name := "trieBelow", fn := fun _ => fun
  | [d1, d2, d3] => { results := [.lit (.bool true)], args := [d1, d2, d3] }
  | _ => none }
def trieBelowRow : OpenClaim := { program := "ytnklhfdhaclfiaa", sum := "51b5cf907a9f6ba4f635486544058543d21afb63a3a0843e890ade559b7f8ee1", func := "carrefour/carrefourlaw02.TrieBelow", spec := "trieBelow", unfollowed := true, recurses := true, apart := false }
def TrieBelowSaid : Prop := trieBelowRow.holds Try.pinned (OpenSpec.ofChange trieBelowSpec)

/-- ITS FALSE NEIGHBOUR: 'it returns false'. Refute it at one input. -/
def trieBelowWrong : ChangeSpec := { name := "trieBelow", fn := fun _ => fun
  | [d1, d2, d3] => { results := [.lit (.bool false)], args := [d1, d2, d3] }
  | _ => none }
def TrieBelowWrongFalsely : Prop := trieBelowRow.holds Try.pinned (OpenSpec.ofChange trieBelowWrong)

/-- 'carrefourlaw02.TrieOrder': WHATEVER THE INPUT: true; the input reads as it did. -/
def trieOrderSpec : ChangeSpec := { name := "trieOrder", fn := fun _ => fun
  | [d1, d2] => { results := [.lit (.bool true)], args := [d1, d2] }
  | _ => none }
def trieOrderRow : OpenClaim := { program := "ytnklhfdhaclfiaa", sum := "51b5cf907a9f6ba4f635486544058543d21afb63a3a0843e890ade559b7f8ee1", func := "carrefour/carrefourlaw02.TrieOrder", spec := "trieOrder", unfollowed := true, recurses := true, apart := false }
def TrieOrderSaid : Prop := trieOrderRow.holds Try.pinned (OpenSpec.ofChange trieOrderSpec)

/-- ITS FALSE NEIGHBOUR: 'it returns false'. Refute it at one input. -/
def trieOrderWrong : ChangeSpec := { name := "trieOrder", fn := fun _ => fun
  | [d1, d2] => { results := [.lit (.bool false)], args := [d1, d2] }
  | _ => none }
def TrieOrderWrongFalsely : Prop := trieOrderRow.holds Try.pinned (OpenSpec.ofChange trieOrderWrong)

/-- 'carrefourlaw02.TrieRuns': WHATEVER THE INPUT: true; the input reads as it did. -/
def trieRunsSpec : ChangeSpec := { name := "trieRuns", fn := fun _ => fun
  | [d1, d2] => { results := [.lit (.bool true)], args := [d1, d2] }
  | _ => none }
def trieRunsRow : OpenClaim := { program := "ytnklhfdhaclfiaa", sum := "51b5cf907a9f6ba4f635486544058543d21afb63a3a0843e890ade559b7f8ee1", func := "carrefour/carrefourlaw02.TrieRuns", spec := "trieRuns", unfollowed := true, recurses := true, apart := false }
def TrieRunsSaid : Prop := trieRunsRow.holds Try.pinned (OpenSpec.ofChange trieRunsSpec)

/-- ITS FALSE NEIGHBOUR: 'it returns false'. Refute it at one input. -/
def trieRunsWrong : ChangeSpec := { name := "trieRuns", fn := fun _ => fun
  | [d1, d2] => { results := [.lit (.bool false)], args := [d1, d2] }
  | _ => none }
def TrieRunsWrongFalsely : Prop := trieRunsRow.holds Try.pinned (OpenSpec.ofChange trieRunsWrong)

/-- 'carrefourlaw02.TrieRoom': WHATEVER THE INPUT: true; the input reads as it did. -/
def trieRoomSpec : ChangeSpec := { name := "trieRoom", fn := fun _ => fun
  | [d] => { results := [.lit (.bool true)], args := [d] }
  | _ => none }
def trieRoomRow : OpenClaim := { program := "ytnklhfdhaclfiaa", sum := "51b5cf907a9f6ba4f635486544058543d21afb63a3a0843e890ade559b7f8ee1", func := "carrefour/carrefourlaw02.TrieRoom", spec := "trieRoom", unfollowed := true, recurses := true, apart := false }
def TrieRoomSaid : Prop := trieRoomRow.holds Try.pinned (OpenSpec.ofChange trieRoomSpec)

/-- ITS FALSE NEIGHBOUR: 'it returns false'. Refute it at one input. -/
def trieRoomWrong : ChangeSpec := { name := "trieRoom", fn := fun _ => fun
  | [d] => { results := [.lit (.bool false)], args := [d] }
  | _ => none }
def TrieRoomWrongFalsely : Prop := trieRoomRow.holds Try.pinned (OpenSpec.ofChange trieRoomWrong)

/- THE SECOND FORM. 'bulk': how many values and letters a reading holds, each counted each time it is reached (what is shared counts as often as it is met; a slice's spare places count too). A statement '..UptoSaid' is the law's where the arguments, and the package variables that the reading takes, are together of bulk at most 1048576: NARROWER than '..Said'. Prove '..Said' where nothing that the law and all that it calls make is longer than what came in: it says more and counts as full. Else prove '..UptoSaid'. A law counts once. -/
mutual
def uptoBulk {H : Type} : DataW H → Nat
  | .lit (.string bytes) => bytes.length + 1
  | .lit _ => 1
  | .nil => 1
  | .ptr d => uptoBulk d + 1
  | .slice elems spare => uptoBulkAll elems + uptoBulkAll spare + 1
  | .agg parts => uptoBulkAll parts + 1
  | .iface _ d => uptoBulk d + 1
  | .map entries => uptoBulkEntries entries + 1
  | .held _ => 1
def uptoBulkAll {H : Type} : List (DataW H) → Nat
  | [] => 0
  | d :: r => uptoBulk d + uptoBulkAll r
def uptoBulkEntries {H : Type} : List (Lit × DataW H) → Nat
  | [] => 0
  | x :: r => uptoBulkEntry x + uptoBulkEntries r
def uptoBulkEntry {H : Type} : Lit × DataW H → Nat
  | (.string bytes, d) => bytes.length + uptoBulk d + 1
  | (_, d) => uptoBulk d + 1
 end
def uptoSmall : (H : Type) → List (DataW H) → Bool := fun _ ds => decide (uptoBulkAll ds ≤ 1048576)
def OpenSpec.upto (s : _root_.Go.ChangeSpec) : _root_.Go.OpenSpec := { _root_.Go.OpenSpec.ofChange s with cond := some uptoSmall }

/-- 'carrefourlaw02.TrieStops', WHERE WHAT IT READS IS OF BULK AT MOST 1048576: true; the input reads as it did. -/
def trieStopsUptoRow : OpenClaim := { program := "ytnklhfdhaclfiaa", sum := "51b5cf907a9f6ba4f635486544058543d21afb63a3a0843e890ade559b7f8ee1", func := "carrefour/carrefourlaw02.TrieStops", spec := "trieStops", unfollowed := true, recurses := true, apart := false, narrowed := true }
def TrieStopsUptoSaid : Prop := trieStopsUptoRow.holds Try.pinned (OpenSpec.upto trieStopsSpec)

/-- 'carrefourlaw02.TrieBelow', WHERE WHAT IT READS IS OF BULK AT MOST 1048576: true; the input reads as it did. -/
def trieBelowUptoRow : OpenClaim := { program := "ytnklhfdhaclfiaa", sum := "51b5cf907a9f6ba4f635486544058543d21afb63a3a0843e890ade559b7f8ee1", func := "carrefour/carrefourlaw02.TrieBelow", spec := "trieBelow", unfollowed := true, recurses := true, apart := false, narrowed := true }
def TrieBelowUptoSaid : Prop := trieBelowUptoRow.holds Try.pinned (OpenSpec.upto trieBelowSpec)

/-- 'carrefourlaw02.TrieOrder', WHERE WHAT IT READS IS OF BULK AT MOST 1048576: true; the input reads as it did. -/
def trieOrderUptoRow : OpenClaim := { program := "ytnklhfdhaclfiaa", sum := "51b5cf907a9f6ba4f635486544058543d21afb63a3a0843e890ade559b7f8ee1", func := "carrefour/carrefourlaw02.TrieOrder", spec := "trieOrder", unfollowed := true, recurses := true, apart := false, narrowed := true }
def TrieOrderUptoSaid : Prop := trieOrderUptoRow.holds Try.pinned (OpenSpec.upto trieOrderSpec)

/-- 'carrefourlaw02.TrieRuns', WHERE WHAT IT READS IS OF BULK AT MOST 1048576: true; the input reads as it did. -/
def trieRunsUptoRow : OpenClaim := { program := "ytnklhfdhaclfiaa", sum := "51b5cf907a9f6ba4f635486544058543d21afb63a3a0843e890ade559b7f8ee1", func := "carrefour/carrefourlaw02.TrieRuns", spec := "trieRuns", unfollowed := true, recurses := true, apart := false, narrowed := true }
def TrieRunsUptoSaid : Prop := trieRunsUptoRow.holds Try.pinned (OpenSpec.upto trieRunsSpec)

/-- 'carrefourlaw02.TrieRoom', WHERE WHAT IT READS IS OF BULK AT MOST 1048576: true; the input reads as it did. -/
def trieRoomUptoRow : OpenClaim := { program := "ytnklhfdhaclfiaa", sum := "51b5cf907a9f6ba4f635486544058543d21afb63a3a0843e890ade559b7f8ee1", func := "carrefour/carrefourlaw02.TrieRoom", spec := "trieRoom", unfollowed := true, recurses := true, apart := false, narrowed := true }
def TrieRoomUptoSaid : Prop := trieRoomUptoRow.holds Try.pinned (OpenSpec.upto trieRoomSpec)

end Rows
end Go.Proofs.Ytnklhfdhaclfiaa
