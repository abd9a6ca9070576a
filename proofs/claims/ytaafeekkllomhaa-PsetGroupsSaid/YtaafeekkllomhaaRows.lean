/-
  No cell of these rows narrows 'for every input' (looked for: loops, veiled, ifaces, maps, wideKeys, modest, calm, conditions, laid).
  DERIVED. THE GIVEN ROWS OF THIS SEAT. 6 by the template 'for every input the law returns true; each argument reads behind the call as it read before'; 0 by the template 'total and deterministic' (their statements: YtaafeekkllomhaaTotals.lean).
  GIVEN WITH THE SEED: the statements are not yours to turn. If you find one false, say at which input.
  Laid BY PROGRAM, IN A SANDBOX (cutbox-rows.mjs): the forced cells as the released guide's own fill.sh prints them over the translation 470b3a23e1a8470a… (all of the seat's roots in one cut). By AI agents, Wed Nov 11 2026. No macro, syntax, notation, axiom, sorry.
-/
import Derived.Test.YtaafeekkllomhaaChecked
import GoSem.Claim
import GoSem.ClaimJoined
import GoSem.ClaimMapViews
import Derived.JoinedTies
import Derived.KernelRfl
namespace Go.Proofs.Ytaafeekkllomhaa
/- THE CELL 'sum', in the pinned program and in every row, IS THE sha256 OF THE DUMP (.gsa) THAT YtaafeekkllomhaaProg.lean LOADS. Nothing in Lean hashes anything: it is a label: what it is worth is what the hold of that sum in a sandbox is worth. -/
noncomputable def Try.pinned : Pinned := { name := "ytaafeekkllomhaa", sum := "470b3a23e1a8470ab2e4f047daa36dca90799e23da08260c11e974d6703e4728", checked := Try.checked }
namespace Rows
def none {H : Type} : Left H := { results := [], args := [] }

/-- 'carrefourlaw03.PsetGroups': WHATEVER THE INPUT: true; the input reads as it did. -/
def psetGroupsSpec : ChangeSpec := { name := "psetGroups", fn := fun _ => fun
  | [d1, d2] => { results := [.lit (.bool true)], args := [d1, d2] }
  | _ => none }
def psetGroupsRow : OpenClaim := { program := "ytaafeekkllomhaa", sum := "470b3a23e1a8470ab2e4f047daa36dca90799e23da08260c11e974d6703e4728", func := "carrefour/carrefourlaw03.PsetGroups", spec := "psetGroups", unfollowed := true, recurses := true, apart := false }
def PsetGroupsSaid : Prop := psetGroupsRow.holds Try.pinned (OpenSpec.ofChange psetGroupsSpec)

/-- ITS FALSE NEIGHBOUR: 'it returns false'. Refute it at one input. -/
def psetGroupsWrong : ChangeSpec := { name := "psetGroups", fn := fun _ => fun
  | [d1, d2] => { results := [.lit (.bool false)], args := [d1, d2] }
  | _ => none }
def PsetGroupsWrongFalsely : Prop := psetGroupsRow.holds Try.pinned (OpenSpec.ofChange psetGroupsWrong)

/-- 'carrefourlaw03.PsetOrders': WHATEVER THE INPUT: true; the input reads as it did. -/
def psetOrdersSpec : ChangeSpec := { name := "psetOrders", fn := fun _ => fun
  | [d1, d2, d3] => { results := [.lit (.bool true)], args := [d1, d2, d3] }
  | _ => none }
def psetOrdersRow : OpenClaim := { program := "ytaafeekkllomhaa", sum := "470b3a23e1a8470ab2e4f047daa36dca90799e23da08260c11e974d6703e4728", func := "carrefour/carrefourlaw03.PsetOrders", spec := "psetOrders", unfollowed := true, recurses := true, apart := false }
def PsetOrdersSaid : Prop := psetOrdersRow.holds Try.pinned (OpenSpec.ofChange psetOrdersSpec)

/-- ITS FALSE NEIGHBOUR: 'it returns false'. Refute it at one input. -/
def psetOrdersWrong : ChangeSpec := { name := "psetOrders", fn := fun _ => fun
  | [d1, d2, d3] => { results := [.lit (.bool false)], args := [d1, d2, d3] }
  | _ => none }
def PsetOrdersWrongFalsely : Prop := psetOrdersRow.holds Try.pinned (OpenSpec.ofChange psetOrdersWrong)

/-- 'carrefourlaw03.PsetMakes': WHATEVER THE INPUT: true; the input reads as it did. -/
def psetMakesSpec : ChangeSpec := { name := "psetMakes", fn := fun _ => fun
  | [d1, d2, d3] => { results := [.lit (.bool true)], args := [d1, d2, d3] }
  | _ => none }
def psetMakesRow : OpenClaim := { program := "ytaafeekkllomhaa", sum := "470b3a23e1a8470ab2e4f047daa36dca90799e23da08260c11e974d6703e4728", func := "carrefour/carrefourlaw03.PsetMakes", spec := "psetMakes", unfollowed := true, recurses := true, apart := false }
def PsetMakesSaid : Prop := psetMakesRow.holds Try.pinned (OpenSpec.ofChange psetMakesSpec)

/-- ITS FALSE NEIGHBOUR: 'it returns false'. Refute it at one input. -/
def psetMakesWrong : ChangeSpec := { name := "psetMakes", fn := fun _ => fun
  | [d1, d2, d3] => { results := [.lit (.bool false)], args := [d1, d2, d3] }
  | _ => none }
def PsetMakesWrongFalsely : Prop := psetMakesRow.holds Try.pinned (OpenSpec.ofChange psetMakesWrong)

/-- 'carrefourlaw03.PsetCovers': WHATEVER THE INPUT: true; the input reads as it did. -/
def psetCoversSpec : ChangeSpec := { name := "psetCovers", fn := fun _ => fun
  | [d1, d2, d3] => { results := [.lit (.bool true)], args := [d1, d2, d3] }
  | _ => none }
def psetCoversRow : OpenClaim := { program := "ytaafeekkllomhaa", sum := "470b3a23e1a8470ab2e4f047daa36dca90799e23da08260c11e974d6703e4728", func := "carrefour/carrefourlaw03.PsetCovers", spec := "psetCovers", unfollowed := true, recurses := true, apart := false }
def PsetCoversSaid : Prop := psetCoversRow.holds Try.pinned (OpenSpec.ofChange psetCoversSpec)

/-- ITS FALSE NEIGHBOUR: 'it returns false'. Refute it at one input. -/
def psetCoversWrong : ChangeSpec := { name := "psetCovers", fn := fun _ => fun
  | [d1, d2, d3] => { results := [.lit (.bool false)], args := [d1, d2, d3] }
  | _ => none }
def PsetCoversWrongFalsely : Prop := psetCoversRow.holds Try.pinned (OpenSpec.ofChange psetCoversWrong)

/-- 'carrefourlaw03.PsetFull': WHATEVER THE INPUT: true; the input reads as it did. -/
def psetFullSpec : ChangeSpec := { name := "psetFull", fn := fun _ => fun
  | [d1, d2] => { results := [.lit (.bool true)], args := [d1, d2] }
  | _ => none }
def psetFullRow : OpenClaim := { program := "ytaafeekkllomhaa", sum := "470b3a23e1a8470ab2e4f047daa36dca90799e23da08260c11e974d6703e4728", func := "carrefour/carrefourlaw03.PsetFull", spec := "psetFull", unfollowed := true, recurses := true, apart := false }
def PsetFullSaid : Prop := psetFullRow.holds Try.pinned (OpenSpec.ofChange psetFullSpec)

/-- ITS FALSE NEIGHBOUR: 'it returns false'. Refute it at one input. -/
def psetFullWrong : ChangeSpec := { name := "psetFull", fn := fun _ => fun
  | [d1, d2] => { results := [.lit (.bool false)], args := [d1, d2] }
  | _ => none }
def PsetFullWrongFalsely : Prop := psetFullRow.holds Try.pinned (OpenSpec.ofChange psetFullWrong)

/-- 'carrefourlaw03.PsetMerges': WHATEVER THE INPUT: true; the input reads as it did. -/
def psetMergesSpec : ChangeSpec := { name := "psetMerges", fn := fun _ => fun
  | [d1, d2] => { results := [.lit (.bool true)], args := [d1, d2] }
  | _ => none }
def psetMergesRow : OpenClaim := { program := "ytaafeekkllomhaa", sum := "470b3a23e1a8470ab2e4f047daa36dca90799e23da08260c11e974d6703e4728", func := "carrefour/carrefourlaw03.PsetMerges", spec := "psetMerges", unfollowed := true, recurses := true, apart := false }
def PsetMergesSaid : Prop := psetMergesRow.holds Try.pinned (OpenSpec.ofChange psetMergesSpec)

/-- ITS FALSE NEIGHBOUR: 'it returns false'. Refute it at one input. -/
def psetMergesWrong : ChangeSpec := { name := "psetMerges", fn := fun _ => fun
  | [d1, d2] => { results := [.lit (.bool false)], args := [d1, d2] }
  | _ => none }
def PsetMergesWrongFalsely : Prop := psetMergesRow.holds Try.pinned (OpenSpec.ofChange psetMergesWrong)

/- THE SECOND FORM. 'bulk': how many values and letters a reading holds, each counted each time it is reached (what is shared counts as often as it is met; a slice's spare places count too). A statement '..UptoSaid' is the law's where the arguments, and the package variables that the reading takes, are together of bulk at most 1048576: NARROWER than '..Said'. Prove '..Said' where nothing that the law and all that it calls make is longer than what came in: it says more and counts as full. Else prove '..UptoSaid'. A law counts once. -/
mutual
def uptoBulk {H : Type} : DataW H → Nat
  | .lit (.string bytes) => bytes.length + 1
  | .lit _ => 1
  | .nil => 1
  | .ptr d => uptoBulk d + 1
  | .slice elems spare => uptoBulkAll elems + uptoBulkAll spare + 1
  | .agg parts => uptoBulkAll parts + 1
  | .iface _ d => uptoBulk d + 1
  | .map entries => uptoBulkEntries entries + 1
  | .held _ => 1
def uptoBulkAll {H : Type} : List (DataW H) → Nat
  | [] => 0
  | d :: r => uptoBulk d + uptoBulkAll r
def uptoBulkEntries {H : Type} : List (Lit × DataW H) → Nat
  | [] => 0
  | x :: r => uptoBulkEntry x + uptoBulkEntries r
def uptoBulkEntry {H : Type} : Lit × DataW H → Nat
  | (.string bytes, d) => bytes.length + uptoBulk d + 1
  | (_, d) => uptoBulk d + 1
 end
def uptoSmall : (H : Type) → List (DataW H) → Bool := fun _ ds => decide (uptoBulkAll ds ≤ 1048576)
def OpenSpec.upto (s : _root_.Go.ChangeSpec) : _root_.Go.OpenSpec := { _root_.Go.OpenSpec.ofChange s with cond := some uptoSmall }

/-- 'carrefourlaw03.PsetGroups', WHERE WHAT IT READS IS OF BULK AT MOST 1048576: true; the input reads as it did. -/
def psetGroupsUptoRow : OpenClaim := { program := "ytaafeekkllomhaa", sum := "470b3a23e1a8470ab2e4f047daa36dca90799e23da08260c11e974d6703e4728", func := "carrefour/carrefourlaw03.PsetGroups", spec := "psetGroups", unfollowed := true, recurses := true, apart := false, narrowed := true }
def PsetGroupsUptoSaid : Prop := psetGroupsUptoRow.holds Try.pinned (OpenSpec.upto psetGroupsSpec)

/-- 'carrefourlaw03.PsetOrders', WHERE WHAT IT READS IS OF BULK AT MOST 1048576: true; the input reads as it did. -/
def psetOrdersUptoRow : OpenClaim := { program := "ytaafeekkllomhaa", sum := "470b3a23e1a8470ab2e4f047daa36dca90799e23da08260c11e974d6703e4728", func := "carrefour/carrefourlaw03.PsetOrders", spec := "psetOrders", unfollowed := true, recurses := true, apart := false, narrowed := true }
def PsetOrdersUptoSaid : Prop := psetOrdersUptoRow.holds Try.pinned (OpenSpec.upto psetOrdersSpec)

/-- 'carrefourlaw03.PsetMakes', WHERE WHAT IT READS IS OF BULK AT MOST 1048576: true; the input reads as it did. -/
def psetMakesUptoRow : OpenClaim := { program := "ytaafeekkllomhaa", sum := "470b3a23e1a8470ab2e4f047daa36dca90799e23da08260c11e974d6703e4728", func := "carrefour/carrefourlaw03.PsetMakes", spec := "psetMakes", unfollowed := true, recurses := true, apart := false, narrowed := true }
def PsetMakesUptoSaid : Prop := psetMakesUptoRow.holds Try.pinned (OpenSpec.upto psetMakesSpec)

/-- 'carrefourlaw03.PsetCovers', WHERE WHAT IT READS IS OF BULK AT MOST 1048576: true; the input reads as it did. -/
def psetCoversUptoRow : OpenClaim := { program := "ytaafeekkllomhaa", sum := "470b3a23e1a8470ab2e4f047daa36dca90799e23da08260c11e974d6703e4728", func := "carrefour/carrefourlaw03.PsetCovers", spec := "psetCovers", unfollowed := true, recurses := true, apart := false, narrowed := true }
def PsetCoversUptoSaid : Prop := psetCoversUptoRow.holds Try.pinned (OpenSpec.upto psetCoversSpec)

/-- 'carrefourlaw03.PsetFull', WHERE WHAT IT READS IS OF BULK AT MOST 1048576: true; the input reads as it did. -/
def psetFullUptoRow : OpenClaim := { program := "ytaafeekkllomhaa", sum := "470b3a23e1a8470ab2e4f047daa36dca90799e23da08260c11e974d6703e4728", func := "carrefour/carrefourlaw03.PsetFull", spec := "psetFull", unfollowed := true, recurses := true, apart := false, narrowed := true }
def PsetFullUptoSaid : Prop := psetFullUptoRow.holds Try.pinned (OpenSpec.upto psetFullSpec)

/-- 'carrefourlaw03.PsetMerges', WHERE WHAT IT READS IS OF BULK AT MOST 1048576: true; the input reads as it did. -/
def psetMergesUptoRow : OpenClaim := { program := "ytaafeekkllomhaa", sum := "470b3a23e1a8470ab2e4f047daa36dca90799e23da08260c11e974d6703e4728", func := "carrefour/carrefourlaw03.PsetMerges", spec := "psetMerges", unfollowed := true, recurses := true, apart := false, narrowed := true }
def PsetMergesUptoSaid : Prop := psetMergesUptoRow.holds Try.pinned (OpenSpec.upto psetMergesSpec)

end Rows
end Go.Proofs.Ytaafeekkllomhaa
