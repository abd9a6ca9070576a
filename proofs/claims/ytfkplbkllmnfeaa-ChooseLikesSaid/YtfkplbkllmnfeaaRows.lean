/-
  No cell of these rows narrows 'for every input' (looked for: loops, veiled, ifaces, maps, wideKeys, modest, calm, conditions, laid).
  DERIVED. THE GIVEN ROWS OF THIS SEAT. 5 by the template 'for every input the law returns true; each argument reads behind the call as it read before'; 0 by the template 'total and deterministic' (their statements: YtfkplbkllmnfeaaTotals.lean).
  GIVEN WITH THE SEED: the statements are not yours to turn. If you find one false, say at which input.
  Laid BY PROGRAM, IN A SANDBOX (cutbox-rows.mjs): the forced cells as the released guide's own fill.sh prints them over the translation 286279145c5d94d1… (all of the seat's roots in one cut). By AI agents, Wed Nov 11 2026. No macro, syntax, notation, axiom, sorry.
-/
import Derived.Test.YtfkplbkllmnfeaaChecked
import GoSem.Claim
import GoSem.ClaimJoined
import GoSem.ClaimMapViews
import Derived.JoinedTies
import Derived.KernelRfl
namespace Go.Proofs.Ytfkplbkllmnfeaa
/- THE CELL 'sum', in the pinned program and in every row, IS THE sha256 OF THE DUMP (.gsa) THAT YtfkplbkllmnfeaaProg.lean LOADS. Nothing in Lean hashes anything: it is a label: what it is worth is what the hold of that sum in a sandbox is worth. -/
noncomputable def Try.pinned : Pinned := { name := "ytfkplbkllmnfeaa", sum := "286279145c5d94d1d12f09a618ed299f0cefaa7058dd573ab5274af92005f090", checked := Try.checked }
namespace Rows
def none {H : Type} : Left H := { results := [], args := [] }

/-- 'carrefourlaw12.ChooseMeds': WHATEVER THE INPUT: true; the input reads as it did. -/
def chooseMedsSpec : ChangeSpec := { name := "chooseMeds", fn := fun _ => fun
  | [d1, d2, d3] => { results := [.lit (.bool true)], args := [d1, d2, d3] }
  | _ => none }
def chooseMedsRow : OpenClaim := { program := "ytfkplbkllmnfeaa", sum := "286279145c5d94d1d12f09a618ed299f0cefaa7058dd573ab5274af92005f090", func := "carrefour/carrefourlaw12.ChooseMeds", spec := "chooseMeds", unfollowed := true, recurses := true, apart := false }
def ChooseMedsSaid : Prop := chooseMedsRow.holds Try.pinned (OpenSpec.ofChange chooseMedsSpec)

/-- ITS FALSE NEIGHBOUR: 'it returns false'. Refute it at one input. -/
def chooseMedsWrong : ChangeSpec := { name := "chooseMeds", fn := fun _ => fun
  | [d1, d2, d3] => { results := [.lit (.bool false)], args := [d1, d2, d3] }
  | _ => none }
def ChooseMedsWrongFalsely : Prop := chooseMedsRow.holds Try.pinned (OpenSpec.ofChange chooseMedsWrong)

/-- 'carrefourlaw12.ChooseBest': WHATEVER THE INPUT: true; the input reads as it did. -/
def chooseBestSpec : ChangeSpec := { name := "chooseBest", fn := fun _ => fun
  | [d] => { results := [.lit (.bool true)], args := [d] }
  | _ => none }
def chooseBestRow : OpenClaim := { program := "ytfkplbkllmnfeaa", sum := "286279145c5d94d1d12f09a618ed299f0cefaa7058dd573ab5274af92005f090", func := "carrefour/carrefourlaw12.ChooseBest", spec := "chooseBest", unfollowed := true, recurses := true, apart := false }
def ChooseBestSaid : Prop := chooseBestRow.holds Try.pinned (OpenSpec.ofChange chooseBestSpec)

/-- ITS FALSE NEIGHBOUR: 'it returns false'. Refute it at one input. -/
def chooseBestWrong : ChangeSpec := { name := "chooseBest", fn := fun _ => fun
  | [d] => { results := [.lit (.bool false)], args := [d] }
  | _ => none }
def ChooseBestWrongFalsely : Prop := chooseBestRow.holds Try.pinned (OpenSpec.ofChange chooseBestWrong)

/-- 'carrefourlaw12.ChooseTurns': WHATEVER THE INPUT: true; the input reads as it did. -/
def chooseTurnsSpec : ChangeSpec := { name := "chooseTurns", fn := fun _ => fun
  | [d1, d2] => { results := [.lit (.bool true)], args := [d1, d2] }
  | _ => none }
def chooseTurnsRow : OpenClaim := { program := "ytfkplbkllmnfeaa", sum := "286279145c5d94d1d12f09a618ed299f0cefaa7058dd573ab5274af92005f090", func := "carrefour/carrefourlaw12.ChooseTurns", spec := "chooseTurns", unfollowed := true, recurses := true, apart := false }
def ChooseTurnsSaid : Prop := chooseTurnsRow.holds Try.pinned (OpenSpec.ofChange chooseTurnsSpec)

/-- ITS FALSE NEIGHBOUR: 'it returns false'. Refute it at one input. -/
def chooseTurnsWrong : ChangeSpec := { name := "chooseTurns", fn := fun _ => fun
  | [d1, d2] => { results := [.lit (.bool false)], args := [d1, d2] }
  | _ => none }
def ChooseTurnsWrongFalsely : Prop := chooseTurnsRow.holds Try.pinned (OpenSpec.ofChange chooseTurnsWrong)

/-- 'carrefourlaw12.ChooseLikes': WHATEVER THE INPUT: true; the input reads as it did. -/
def chooseLikesSpec : ChangeSpec := { name := "chooseLikes", fn := fun _ => fun
  | [d1, d2] => { results := [.lit (.bool true)], args := [d1, d2] }
  | _ => none }
def chooseLikesRow : OpenClaim := { program := "ytfkplbkllmnfeaa", sum := "286279145c5d94d1d12f09a618ed299f0cefaa7058dd573ab5274af92005f090", func := "carrefour/carrefourlaw12.ChooseLikes", spec := "chooseLikes", unfollowed := true, recurses := true, apart := false }
def ChooseLikesSaid : Prop := chooseLikesRow.holds Try.pinned (OpenSpec.ofChange chooseLikesSpec)

/-- ITS FALSE NEIGHBOUR: 'it returns false'. Refute it at one input. -/
def chooseLikesWrong : ChangeSpec := { name := "chooseLikes", fn := fun _ => fun
  | [d1, d2] => { results := [.lit (.bool false)], args := [d1, d2] }
  | _ => none }
def ChooseLikesWrongFalsely : Prop := chooseLikesRow.holds Try.pinned (OpenSpec.ofChange chooseLikesWrong)

/-- 'carrefourlaw12.ChooseOrders': WHATEVER THE INPUT: true; the input reads as it did. -/
def chooseOrdersSpec : ChangeSpec := { name := "chooseOrders", fn := fun _ => fun
  | [d] => { results := [.lit (.bool true)], args := [d] }
  | _ => none }
def chooseOrdersRow : OpenClaim := { program := "ytfkplbkllmnfeaa", sum := "286279145c5d94d1d12f09a618ed299f0cefaa7058dd573ab5274af92005f090", func := "carrefour/carrefourlaw12.ChooseOrders", spec := "chooseOrders", unfollowed := true, recurses := true, apart := false }
def ChooseOrdersSaid : Prop := chooseOrdersRow.holds Try.pinned (OpenSpec.ofChange chooseOrdersSpec)

/-- ITS FALSE NEIGHBOUR: 'it returns false'. Refute it at one input. -/
def chooseOrdersWrong : ChangeSpec := { name := "chooseOrders", fn := fun _ => fun
  | [d] => { results := [.lit (.bool false)], args := [d] }
  | _ => none }
def ChooseOrdersWrongFalsely : Prop := chooseOrdersRow.holds Try.pinned (OpenSpec.ofChange chooseOrdersWrong)

/- THE SECOND FORM. 'bulk': how many values and letters a reading holds, each counted each time it is reached (what is shared counts as often as it is met; a slice's spare places count too). A statement '..UptoSaid' is the law's where the arguments, and the package variables that the reading takes, are together of bulk at most 1048576: NARROWER than '..Said'. Prove '..Said' where nothing that the law and all that it calls make is longer than what came in: it says more and counts as full. Else prove '..UptoSaid'. A law counts once. -/
mutual
def uptoBulk {H : Type} : DataW H → Nat
  | .lit (.string bytes) => bytes.length + 1
  | .lit _ => 1
  | .nil => 1
  | .ptr d => uptoBulk d + 1
  | .slice elems spare => uptoBulkAll elems + uptoBulkAll spare + 1
  | .agg parts => uptoBulkAll parts + 1
  | .iface _ d => uptoBulk d + 1
  | .map entries => uptoBulkEntries entries + 1
  | .held _ => 1
def uptoBulkAll {H : Type} : List (DataW H) → Nat
  | [] => 0
  | d :: r => uptoBulk d + uptoBulkAll r
def uptoBulkEntries {H : Type} : List (Lit × DataW H) → Nat
  | [] => 0
  | x :: r => uptoBulkEntry x + uptoBulkEntries r
def uptoBulkEntry {H : Type} : Lit × DataW H → Nat
  | (.string bytes, d) => bytes.length + uptoBulk d + 1
  | (_, d) => uptoBulk d + 1
 end
def uptoSmall : (H : Type) → List (DataW H) → Bool := fun _ ds => decide (uptoBulkAll ds ≤ 1048576)
def OpenSpec.upto (s : _root_.Go.ChangeSpec) : _root_.Go.OpenSpec := { _root_.Go.OpenSpec.ofChange s with cond := some uptoSmall }

/-- 'carrefourlaw12.ChooseMeds', WHERE WHAT IT READS IS OF BULK AT MOST 1048576: true; the input reads as it did. -/
def chooseMedsUptoRow : OpenClaim := { program := "ytfkplbkllmnfeaa", sum := "286279145c5d94d1d12f09a618ed299f0cefaa7058dd573ab5274af92005f090", func := "carrefour/carrefourlaw12.ChooseMeds", spec := "chooseMeds", unfollowed := true, recurses := true, apart := false, narrowed := true }
def ChooseMedsUptoSaid : Prop := chooseMedsUptoRow.holds Try.pinned (OpenSpec.upto chooseMedsSpec)

/-- 'carrefourlaw12.ChooseBest', WHERE WHAT IT READS IS OF BULK AT MOST 1048576: true; the input reads as it did. -/
def chooseBestUptoRow : OpenClaim := { program := "ytfkplbkllmnfeaa", sum := "286279145c5d94d1d12f09a618ed299f0cefaa7058dd573ab5274af92005f090", func := "carrefour/carrefourlaw12.ChooseBest", spec := "chooseBest", unfollowed := true, recurses := true, apart := false, narrowed := true }
def ChooseBestUptoSaid : Prop := chooseBestUptoRow.holds Try.pinned (OpenSpec.upto chooseBestSpec)

/-- 'carrefourlaw12.ChooseTurns', WHERE WHAT IT READS IS OF BULK AT MOST 1048576: true; the input reads as it did. -/
def chooseTurnsUptoRow : OpenClaim := { program := "ytfkplbkllmnfeaa", sum := "286279145c5d94d1d12f09a618ed299f0cefaa7058dd573ab5274af92005f090", func := "carrefour/carrefourlaw12.ChooseTurns", spec := "chooseTurns", unfollowed := true, recurses := true, apart := false, narrowed := true }
def ChooseTurnsUptoSaid : Prop := chooseTurnsUptoRow.holds Try.pinned (OpenSpec.upto chooseTurnsSpec)

/-- 'carrefourlaw12.ChooseLikes', WHERE WHAT IT READS IS OF BULK AT MOST 1048576: true; the input reads as it did. -/
def chooseLikesUptoRow : OpenClaim := { program := "ytfkplbkllmnfeaa", sum := "286279145c5d94d1d12f09a618ed299f0cefaa7058dd573ab5274af92005f090", func := "carrefour/carrefourlaw12.ChooseLikes", spec := "chooseLikes", unfollowed := true, recurses := true, apart := false, narrowed := true }
def ChooseLikesUptoSaid : Prop := chooseLikesUptoRow.holds Try.pinned (OpenSpec.upto chooseLikesSpec)

/-- 'carrefourlaw12.ChooseOrders', WHERE WHAT IT READS IS OF BULK AT MOST 1048576: true; the input reads as it did. -/
def chooseOrdersUptoRow : OpenClaim := { program := "ytfkplbkllmnfeaa", sum := "286279145c5d94d1d12f09a618ed299f0cefaa7058dd573ab5274af92005f090", func := "carrefour/carrefourlaw12.ChooseOrders", spec := "chooseOrders", unfollowed := true, recurses := true, apart := false, narrowed := true }
def ChooseOrdersUptoSaid : Prop := chooseOrdersUptoRow.holds Try.pinned (OpenSpec.upto chooseOrdersSpec)

end Rows
end Go.Proofs.Ytfkplbkllmnfeaa
