/-
  NARROWER THAN 'FOR EVERY INPUT', by the rows' own cells (each row's printed sentence says how): AttrAsks: laid · AttrWrites: laid · AttrOrder: laid · AttrForm: laid.
  DERIVED. THE GIVEN ROWS OF THIS SEAT. 4 by the template 'for every input the law returns true; each argument reads behind the call as it read before'; 0 by the template 'total and deterministic' (their statements: YtohkbcdnlmjcjaaDoorTotals.lean).
  GIVEN WITH THE SEED: the statements are not yours to turn. If you find one false, say at which input.
  Laid BY PROGRAM, IN A SANDBOX (cutbox-rows.mjs): the forced cells as the released guide's own fill.sh prints them over the translation 322bf5e381064ded… (all of the seat's roots in one cut). By AI agents, Wed Nov 11 2026. No macro, syntax, notation, axiom, sorry.
-/
import Derived.Test.YtohkbcdnlmjcjaaDoorChecked
import GoSem.Claim
import GoSem.ClaimJoined
import GoSem.ClaimMapViews
import Derived.JoinedTies
import Derived.KernelRfl
namespace Go.Proofs.YtohkbcdnlmjcjaaDoor
/- THE CELL 'sum', in the pinned program and in every row, IS THE sha256 OF THE DUMP (.gsa) THAT YtohkbcdnlmjcjaaDoorProg.lean LOADS. Nothing in Lean hashes anything: it is a label: what it is worth is what the hold of that sum in a sandbox is worth. -/
noncomputable def Tryd.pinned : Pinned := { name := "ytohkbcdnlmjcjaadoor", sum := "322bf5e381064ded4e8b82b3ca3323539a209e03377e01abdfa1197cbded6263", checked := Tryd.checked }
namespace Rows
def none {H : Type} : Left H := { results := [], args := [] }

/- WHAT THE LISTED PACKAGE-LEVEL VARIABLES READ AS WHEN THE CALL BEGINS. Each datum BY PROGRAM (the guide's laid-datum.mjs) off the statement by which the dump's own 'gosem.cut.vars' lays the variable. In a bare row this is a premise. The card (YtohkbcdnlmjcjaaDoorCards.lean) ties it to the program's text. -/
def laid_carrefour_attr_flags {H : Type} : DataW H := .agg [.lit (.int .i64 0), .lit (.int .i64 64), .lit (.int .i64 64), .lit (.int .i64 64), .lit (.int .i64 128), .lit (.int .i64 64), .lit (.int .i64 64), .lit (.int .i64 192), .lit (.int .i64 192)]
def laid_carrefour_attr_sizes {H : Type} : DataW H := .agg [.lit (.int .i64 0), .lit (.int .i64 1), .lit (.int .i64 (-1)), .lit (.int .i64 4), .lit (.int .i64 4), .lit (.int .i64 4), .lit (.int .i64 0), .lit (.int .i64 6), .lit (.int .i64 (-1))]

/-- 'carrefourlaw06.AttrAsks': WHATEVER THE INPUT: true; the input reads as it did. -/
def attrAsksSpec : ChangeSpec := { name := "attrAsks", fn := fun _ => fun
  | [d1, d2, d3] => { results := [.lit (.bool true)], args := [d1, d2, d3] }
  | _ => none }
def attrAsksRow : OpenClaim := { program := "ytohkbcdnlmjcjaadoor", sum := "322bf5e381064ded4e8b82b3ca3323539a209e03377e01abdfa1197cbded6263", func := "carrefour/carrefourlaw06.AttrAsks", spec := "attrAsks", unfollowed := true, recurses := true, named := ["carrefour/attr.flags", "carrefour/attr.sizes"], apart := false, laid := [("carrefour/attr.flags", laid_carrefour_attr_flags), ("carrefour/attr.sizes", laid_carrefour_attr_sizes)] }
def AttrAsksSaid : Prop := attrAsksRow.holds Tryd.pinned (OpenSpec.ofChange attrAsksSpec)

/-- ITS FALSE NEIGHBOUR: 'it returns false'. Refute it at one input. -/
def attrAsksWrong : ChangeSpec := { name := "attrAsks", fn := fun _ => fun
  | [d1, d2, d3] => { results := [.lit (.bool false)], args := [d1, d2, d3] }
  | _ => none }
def AttrAsksWrongFalsely : Prop := attrAsksRow.holds Tryd.pinned (OpenSpec.ofChange attrAsksWrong)

/-- 'carrefourlaw06.AttrWrites': WHATEVER THE INPUT: true; the input reads as it did. -/
def attrWritesSpec : ChangeSpec := { name := "attrWrites", fn := fun _ => fun
  | [d] => { results := [.lit (.bool true)], args := [d] }
  | _ => none }
def attrWritesRow : OpenClaim := { program := "ytohkbcdnlmjcjaadoor", sum := "322bf5e381064ded4e8b82b3ca3323539a209e03377e01abdfa1197cbded6263", func := "carrefour/carrefourlaw06.AttrWrites", spec := "attrWrites", unfollowed := true, recurses := true, named := ["carrefour/attr.flags", "carrefour/attr.sizes"], apart := false, laid := [("carrefour/attr.flags", laid_carrefour_attr_flags), ("carrefour/attr.sizes", laid_carrefour_attr_sizes)] }
def AttrWritesSaid : Prop := attrWritesRow.holds Tryd.pinned (OpenSpec.ofChange attrWritesSpec)

/-- ITS FALSE NEIGHBOUR: 'it returns false'. Refute it at one input. -/
def attrWritesWrong : ChangeSpec := { name := "attrWrites", fn := fun _ => fun
  | [d] => { results := [.lit (.bool false)], args := [d] }
  | _ => none }
def AttrWritesWrongFalsely : Prop := attrWritesRow.holds Tryd.pinned (OpenSpec.ofChange attrWritesWrong)

/-- 'carrefourlaw06.AttrOrder': WHATEVER THE INPUT: true; the input reads as it did. -/
def attrOrderSpec : ChangeSpec := { name := "attrOrder", fn := fun _ => fun
  | [d1, d2] => { results := [.lit (.bool true)], args := [d1, d2] }
  | _ => none }
def attrOrderRow : OpenClaim := { program := "ytohkbcdnlmjcjaadoor", sum := "322bf5e381064ded4e8b82b3ca3323539a209e03377e01abdfa1197cbded6263", func := "carrefour/carrefourlaw06.AttrOrder", spec := "attrOrder", unfollowed := true, recurses := true, named := ["carrefour/attr.flags", "carrefour/attr.sizes"], apart := false, laid := [("carrefour/attr.flags", laid_carrefour_attr_flags), ("carrefour/attr.sizes", laid_carrefour_attr_sizes)] }
def AttrOrderSaid : Prop := attrOrderRow.holds Tryd.pinned (OpenSpec.ofChange attrOrderSpec)

/-- ITS FALSE NEIGHBOUR: 'it returns false'. Refute it at one input. -/
def attrOrderWrong : ChangeSpec := { name := "attrOrder", fn := fun _ => fun
  | [d1, d2] => { results := [.lit (.bool false)], args := [d1, d2] }
  | _ => none }
def AttrOrderWrongFalsely : Prop := attrOrderRow.holds Tryd.pinned (OpenSpec.ofChange attrOrderWrong)

/-- 'carrefourlaw06.AttrForm': WHATEVER THE INPUT: true; the input reads as it did. -/
def attrFormSpec : ChangeSpec := { name := "attrForm", fn := fun _ => fun
  | [d] => { results := [.lit (.bool true)], args := [d] }
  | _ => none }
def attrFormRow : OpenClaim := { program := "ytohkbcdnlmjcjaadoor", sum := "322bf5e381064ded4e8b82b3ca3323539a209e03377e01abdfa1197cbded6263", func := "carrefour/carrefourlaw06.AttrForm", spec := "attrForm", unfollowed := true, recurses := true, named := ["carrefour/attr.flags", "carrefour/attr.sizes"], apart := false, laid := [("carrefour/attr.flags", laid_carrefour_attr_flags), ("carrefour/attr.sizes", laid_carrefour_attr_sizes)] }
def AttrFormSaid : Prop := attrFormRow.holds Tryd.pinned (OpenSpec.ofChange attrFormSpec)

/-- ITS FALSE NEIGHBOUR: 'it returns false'. Refute it at one input. -/
def attrFormWrong : ChangeSpec := { name := "attrForm", fn := fun _ => fun
  | [d] => { results := [.lit (.bool false)], args := [d] }
  | _ => none }
def AttrFormWrongFalsely : Prop := attrFormRow.holds Tryd.pinned (OpenSpec.ofChange attrFormWrong)

/- THE SECOND FORM. 'bulk': how many values and letters a reading holds, each counted each time it is reached (what is shared counts as often as it is met; a slice's spare places count too). A statement '..UptoSaid' is the law's where the arguments, and the package variables that the reading takes, are together of bulk at most 1048576: NARROWER than '..Said'. Prove '..Said' where nothing that the law and all that it calls make is longer than what came in: it says more and counts as full. Else prove '..UptoSaid'. A law counts once. -/
mutual
def uptoBulk {H : Type} : DataW H → Nat
  | .lit (.string bytes) => bytes.length + 1
  | .lit _ => 1
  | .nil => 1
  | .ptr d => uptoBulk d + 1
  | .slice elems spare => uptoBulkAll elems + uptoBulkAll spare + 1
  | .agg parts => uptoBulkAll parts + 1
  | .iface _ d => uptoBulk d + 1
  | .map entries => uptoBulkEntries entries + 1
  | .held _ => 1
def uptoBulkAll {H : Type} : List (DataW H) → Nat
  | [] => 0
  | d :: r => uptoBulk d + uptoBulkAll r
def uptoBulkEntries {H : Type} : List (Lit × DataW H) → Nat
  | [] => 0
  | x :: r => uptoBulkEntry x + uptoBulkEntries r
def uptoBulkEntry {H : Type} : Lit × DataW H → Nat
  | (.string bytes, d) => bytes.length + uptoBulk d + 1
  | (_, d) => uptoBulk d + 1
 end
def uptoSmall : (H : Type) → List (DataW H) → Bool := fun _ ds => decide (uptoBulkAll ds ≤ 1048576)
def OpenSpec.upto (s : _root_.Go.ChangeSpec) : _root_.Go.OpenSpec := { _root_.Go.OpenSpec.ofChange s with cond := some uptoSmall }

/-- 'carrefourlaw06.AttrAsks', WHERE WHAT IT READS IS OF BULK AT MOST 1048576: true; the input reads as it did. -/
def attrAsksUptoRow : OpenClaim := { program := "ytohkbcdnlmjcjaadoor", sum := "322bf5e381064ded4e8b82b3ca3323539a209e03377e01abdfa1197cbded6263", func := "carrefour/carrefourlaw06.AttrAsks", spec := "attrAsks", unfollowed := true, recurses := true, named := ["carrefour/attr.flags", "carrefour/attr.sizes"], apart := false, laid := [("carrefour/attr.flags", laid_carrefour_attr_flags), ("carrefour/attr.sizes", laid_carrefour_attr_sizes)], narrowed := true }
def AttrAsksUptoSaid : Prop := attrAsksUptoRow.holds Tryd.pinned (OpenSpec.upto attrAsksSpec)

/-- 'carrefourlaw06.AttrWrites', WHERE WHAT IT READS IS OF BULK AT MOST 1048576: true; the input reads as it did. -/
def attrWritesUptoRow : OpenClaim := { program := "ytohkbcdnlmjcjaadoor", sum := "322bf5e381064ded4e8b82b3ca3323539a209e03377e01abdfa1197cbded6263", func := "carrefour/carrefourlaw06.AttrWrites", spec := "attrWrites", unfollowed := true, recurses := true, named := ["carrefour/attr.flags", "carrefour/attr.sizes"], apart := false, laid := [("carrefour/attr.flags", laid_carrefour_attr_flags), ("carrefour/attr.sizes", laid_carrefour_attr_sizes)], narrowed := true }
def AttrWritesUptoSaid : Prop := attrWritesUptoRow.holds Tryd.pinned (OpenSpec.upto attrWritesSpec)

/-- 'carrefourlaw06.AttrOrder', WHERE WHAT IT READS IS OF BULK AT MOST 1048576: true; the input reads as it did. -/
def attrOrderUptoRow : OpenClaim := { program := "ytohkbcdnlmjcjaadoor", sum := "322bf5e381064ded4e8b82b3ca3323539a209e03377e01abdfa1197cbded6263", func := "carrefour/carrefourlaw06.AttrOrder", spec := "attrOrder", unfollowed := true, recurses := true, named := ["carrefour/attr.flags", "carrefour/attr.sizes"], apart := false, laid := [("carrefour/attr.flags", laid_carrefour_attr_flags), ("carrefour/attr.sizes", laid_carrefour_attr_sizes)], narrowed := true }
def AttrOrderUptoSaid : Prop := attrOrderUptoRow.holds Tryd.pinned (OpenSpec.upto attrOrderSpec)

/-- 'carrefourlaw06.AttrForm', WHERE WHAT IT READS IS OF BULK AT MOST 1048576: true; the input reads as it did. -/
def attrFormUptoRow : OpenClaim := { program := "ytohkbcdnlmjcjaadoor", sum := "322bf5e381064ded4e8b82b3ca3323539a209e03377e01abdfa1197cbded6263", func := "carrefour/carrefourlaw06.AttrForm", spec := "attrForm", unfollowed := true, recurses := true, named := ["carrefour/attr.flags", "carrefour/attr.sizes"], apart := false, laid := [("carrefour/attr.flags", laid_carrefour_attr_flags), ("carrefour/attr.sizes", laid_carrefour_attr_sizes)], narrowed := true }
def AttrFormUptoSaid : Prop := attrFormUptoRow.holds Tryd.pinned (OpenSpec.upto attrFormSpec)

end Rows
end Go.Proofs.YtohkbcdnlmjcjaaDoor
