/-
  NARROWER THAN 'FOR EVERY INPUT', by the rows' own cells (each row's printed sentence says how): HeadWidths: laid · HeadTwice: laid · HeadGets: laid · HeadOrders: laid · HeadWiths: laid · TagsHops: laid.
  DERIVED. THE GIVEN ROWS OF THIS SEAT. 6 by the template 'for every input the law returns true; each argument reads behind the call as it read before'; 0 by the template 'total and deterministic' (their statements: YtbodkbaafaamlaaDoorTotals.lean).
  GIVEN WITH THE SEED: the statements are not yours to turn. If you find one false, say at which input.
  Laid BY PROGRAM, IN A SANDBOX (cutbox-rows.mjs): the forced cells as the released guide's own fill.sh prints them over the translation 289c8dd1b3b35d91… (all of the seat's roots in one cut). By AI agents, Wed Nov 11 2026. No macro, syntax, notation, axiom, sorry.
-/
import Derived.Test.YtbodkbaafaamlaaDoorChecked
import GoSem.Claim
import GoSem.ClaimJoined
import GoSem.ClaimMapViews
import Derived.JoinedTies
import Derived.KernelRfl
namespace Go.Proofs.YtbodkbaafaamlaaDoor
/- THE CELL 'sum', in the pinned program and in every row, IS THE sha256 OF THE DUMP (.gsa) THAT YtbodkbaafaamlaaDoorProg.lean LOADS. Nothing in Lean hashes anything: it is a label: what it is worth is what the hold of that sum in a sandbox is worth. -/
noncomputable def Tryd.pinned : Pinned := { name := "ytbodkbaafaamlaadoor", sum := "289c8dd1b3b35d914472d9e62b112a75f78252a8fecdc5256dab34fd698b77de", checked := Tryd.checked }
namespace Rows
def none {H : Type} : Left H := { results := [], args := [] }

/- WHAT THE LISTED PACKAGE-LEVEL VARIABLES READ AS WHEN THE CALL BEGINS. Each datum BY PROGRAM (the guide's laid-datum.mjs) off the statement by which the dump's own 'gosem.cut.vars' lays the variable. In a bare row this is a premise. The card (YtbodkbaafaamlaaDoorCards.lean) ties it to the program's text. -/
def laid_carrefour_head_widths {H : Type} : DataW H := .agg [.lit (.int .i64 8), .lit (.int .i64 48), .lit (.int .i64 48), .lit (.int .i64 16), .lit (.int .i64 32), .lit (.int .i64 32), .lit (.int .i64 8), .lit (.int .i64 16), .lit (.int .i64 16)]
def laid_math_bits_deBruijn32tab {H : Type} : DataW H := .agg [.lit (.int .u8 0), .lit (.int .u8 1), .lit (.int .u8 28), .lit (.int .u8 2), .lit (.int .u8 29), .lit (.int .u8 14), .lit (.int .u8 24), .lit (.int .u8 3), .lit (.int .u8 30), .lit (.int .u8 22), .lit (.int .u8 20), .lit (.int .u8 15), .lit (.int .u8 25), .lit (.int .u8 17), .lit (.int .u8 4), .lit (.int .u8 8), .lit (.int .u8 31), .lit (.int .u8 27), .lit (.int .u8 13), .lit (.int .u8 23), .lit (.int .u8 21), .lit (.int .u8 19), .lit (.int .u8 16), .lit (.int .u8 7), .lit (.int .u8 26), .lit (.int .u8 12), .lit (.int .u8 18), .lit (.int .u8 6), .lit (.int .u8 11), .lit (.int .u8 5), .lit (.int .u8 10), .lit (.int .u8 9)]
def laid_math_bits_deBruijn64tab {H : Type} : DataW H := .agg [.lit (.int .u8 0), .lit (.int .u8 1), .lit (.int .u8 56), .lit (.int .u8 2), .lit (.int .u8 57), .lit (.int .u8 49), .lit (.int .u8 28), .lit (.int .u8 3), .lit (.int .u8 61), .lit (.int .u8 58), .lit (.int .u8 42), .lit (.int .u8 50), .lit (.int .u8 38), .lit (.int .u8 29), .lit (.int .u8 17), .lit (.int .u8 4), .lit (.int .u8 62), .lit (.int .u8 47), .lit (.int .u8 59), .lit (.int .u8 36), .lit (.int .u8 45), .lit (.int .u8 43), .lit (.int .u8 51), .lit (.int .u8 22), .lit (.int .u8 53), .lit (.int .u8 39), .lit (.int .u8 33), .lit (.int .u8 30), .lit (.int .u8 24), .lit (.int .u8 18), .lit (.int .u8 12), .lit (.int .u8 5), .lit (.int .u8 63), .lit (.int .u8 55), .lit (.int .u8 48), .lit (.int .u8 27), .lit (.int .u8 60), .lit (.int .u8 41), .lit (.int .u8 37), .lit (.int .u8 16), .lit (.int .u8 46), .lit (.int .u8 35), .lit (.int .u8 44), .lit (.int .u8 21), .lit (.int .u8 52), .lit (.int .u8 32), .lit (.int .u8 23), .lit (.int .u8 11), .lit (.int .u8 54), .lit (.int .u8 26), .lit (.int .u8 40), .lit (.int .u8 15), .lit (.int .u8 34), .lit (.int .u8 20), .lit (.int .u8 31), .lit (.int .u8 10), .lit (.int .u8 25), .lit (.int .u8 14), .lit (.int .u8 19), .lit (.int .u8 9), .lit (.int .u8 13), .lit (.int .u8 8), .lit (.int .u8 7), .lit (.int .u8 6)]
def laid_internal_strconv_uint64pow10 {H : Type} : DataW H := .agg [.lit (.int .u64 1), .lit (.int .u64 10), .lit (.int .u64 100), .lit (.int .u64 1000), .lit (.int .u64 10000), .lit (.int .u64 100000), .lit (.int .u64 1000000), .lit (.int .u64 10000000), .lit (.int .u64 100000000), .lit (.int .u64 1000000000), .lit (.int .u64 10000000000), .lit (.int .u64 100000000000), .lit (.int .u64 1000000000000), .lit (.int .u64 10000000000000), .lit (.int .u64 100000000000000), .lit (.int .u64 1000000000000000), .lit (.int .u64 10000000000000000), .lit (.int .u64 100000000000000000), .lit (.int .u64 1000000000000000000), .lit (.int .u64 10000000000000000000)]

/-- 'carrefourlaw04.HeadWidths': WHATEVER THE INPUT: true; the input reads as it did. -/
def headWidthsSpec : ChangeSpec := { name := "headWidths", fn := fun _ => fun
  | [d] => { results := [.lit (.bool true)], args := [d] }
  | _ => none }
def headWidthsRow : OpenClaim := { program := "ytbodkbaafaamlaadoor", sum := "289c8dd1b3b35d914472d9e62b112a75f78252a8fecdc5256dab34fd698b77de", func := "carrefour/carrefourlaw04.HeadWidths", spec := "headWidths", named := ["carrefour/head.widths"], plainKeys := false, apart := false, laid := [("carrefour/head.widths", laid_carrefour_head_widths)] }
def HeadWidthsSaid : Prop := headWidthsRow.holds Tryd.pinned (OpenSpec.ofChange headWidthsSpec)

/-- ITS FALSE NEIGHBOUR: 'it returns false'. Refute it at one input. -/
def headWidthsWrong : ChangeSpec := { name := "headWidths", fn := fun _ => fun
  | [d] => { results := [.lit (.bool false)], args := [d] }
  | _ => none }
def HeadWidthsWrongFalsely : Prop := headWidthsRow.holds Tryd.pinned (OpenSpec.ofChange headWidthsWrong)

/-- 'carrefourlaw04.HeadTwice': WHATEVER THE INPUT: true; the input reads as it did. -/
def headTwiceSpec : ChangeSpec := { name := "headTwice", fn := fun _ => fun
  | [d1, d2, d3, d4, d5] => { results := [.lit (.bool true)], args := [d1, d2, d3, d4, d5] }
  | _ => none }
def headTwiceRow : OpenClaim := { program := "ytbodkbaafaamlaadoor", sum := "289c8dd1b3b35d914472d9e62b112a75f78252a8fecdc5256dab34fd698b77de", func := "carrefour/carrefourlaw04.HeadTwice", spec := "headTwice", named := ["carrefour/head.widths"], plainKeys := false, apart := false, laid := [("carrefour/head.widths", laid_carrefour_head_widths)] }
def HeadTwiceSaid : Prop := headTwiceRow.holds Tryd.pinned (OpenSpec.ofChange headTwiceSpec)

/-- ITS FALSE NEIGHBOUR: 'it returns false'. Refute it at one input. -/
def headTwiceWrong : ChangeSpec := { name := "headTwice", fn := fun _ => fun
  | [d1, d2, d3, d4, d5] => { results := [.lit (.bool false)], args := [d1, d2, d3, d4, d5] }
  | _ => none }
def HeadTwiceWrongFalsely : Prop := headTwiceRow.holds Tryd.pinned (OpenSpec.ofChange headTwiceWrong)

/-- 'carrefourlaw04.HeadGets': WHATEVER THE INPUT: true; the input reads as it did. -/
def headGetsSpec : ChangeSpec := { name := "headGets", fn := fun _ => fun
  | [d1, d2] => { results := [.lit (.bool true)], args := [d1, d2] }
  | _ => none }
def headGetsRow : OpenClaim := { program := "ytbodkbaafaamlaadoor", sum := "289c8dd1b3b35d914472d9e62b112a75f78252a8fecdc5256dab34fd698b77de", func := "carrefour/carrefourlaw04.HeadGets", spec := "headGets", named := ["carrefour/head.widths"], plainKeys := false, apart := false, laid := [("carrefour/head.widths", laid_carrefour_head_widths)] }
def HeadGetsSaid : Prop := headGetsRow.holds Tryd.pinned (OpenSpec.ofChange headGetsSpec)

/-- ITS FALSE NEIGHBOUR: 'it returns false'. Refute it at one input. -/
def headGetsWrong : ChangeSpec := { name := "headGets", fn := fun _ => fun
  | [d1, d2] => { results := [.lit (.bool false)], args := [d1, d2] }
  | _ => none }
def HeadGetsWrongFalsely : Prop := headGetsRow.holds Tryd.pinned (OpenSpec.ofChange headGetsWrong)

/-- 'carrefourlaw04.HeadOrders': WHATEVER THE INPUT: true; the input reads as it did. -/
def headOrdersSpec : ChangeSpec := { name := "headOrders", fn := fun _ => fun
  | [d1, d2] => { results := [.lit (.bool true)], args := [d1, d2] }
  | _ => none }
def headOrdersRow : OpenClaim := { program := "ytbodkbaafaamlaadoor", sum := "289c8dd1b3b35d914472d9e62b112a75f78252a8fecdc5256dab34fd698b77de", func := "carrefour/carrefourlaw04.HeadOrders", spec := "headOrders", named := ["carrefour/head.widths"], plainKeys := false, apart := false, laid := [("carrefour/head.widths", laid_carrefour_head_widths)] }
def HeadOrdersSaid : Prop := headOrdersRow.holds Tryd.pinned (OpenSpec.ofChange headOrdersSpec)

/-- ITS FALSE NEIGHBOUR: 'it returns false'. Refute it at one input. -/
def headOrdersWrong : ChangeSpec := { name := "headOrders", fn := fun _ => fun
  | [d1, d2] => { results := [.lit (.bool false)], args := [d1, d2] }
  | _ => none }
def HeadOrdersWrongFalsely : Prop := headOrdersRow.holds Tryd.pinned (OpenSpec.ofChange headOrdersWrong)

/-- 'carrefourlaw04.HeadWiths': WHATEVER THE INPUT: true; the input reads as it did. -/
def headWithsSpec : ChangeSpec := { name := "headWiths", fn := fun _ => fun
  | [d1, d2, d3] => { results := [.lit (.bool true)], args := [d1, d2, d3] }
  | _ => none }
def headWithsRow : OpenClaim := { program := "ytbodkbaafaamlaadoor", sum := "289c8dd1b3b35d914472d9e62b112a75f78252a8fecdc5256dab34fd698b77de", func := "carrefour/carrefourlaw04.HeadWiths", spec := "headWiths", named := ["carrefour/head.widths"], plainKeys := false, apart := false, laid := [("carrefour/head.widths", laid_carrefour_head_widths)] }
def HeadWithsSaid : Prop := headWithsRow.holds Tryd.pinned (OpenSpec.ofChange headWithsSpec)

/-- ITS FALSE NEIGHBOUR: 'it returns false'. Refute it at one input. -/
def headWithsWrong : ChangeSpec := { name := "headWiths", fn := fun _ => fun
  | [d1, d2, d3] => { results := [.lit (.bool false)], args := [d1, d2, d3] }
  | _ => none }
def HeadWithsWrongFalsely : Prop := headWithsRow.holds Tryd.pinned (OpenSpec.ofChange headWithsWrong)

/-- 'carrefourlaw22.TagsHops': WHATEVER THE INPUT: true; the input reads as it did. -/
def tagsHopsSpec : ChangeSpec := { name := "tagsHops", fn := fun _ => fun
  | [d1, d2] => { results := [.lit (.bool true)], args := [d1, d2] }
  | _ => none }
def tagsHopsRow : OpenClaim := { program := "ytbodkbaafaamlaadoor", sum := "289c8dd1b3b35d914472d9e62b112a75f78252a8fecdc5256dab34fd698b77de", func := "carrefour/carrefourlaw22.TagsHops", spec := "tagsHops", named := ["internal/strconv.uint64pow10", "math/bits.deBruijn32tab", "math/bits.deBruijn64tab"], plainKeys := false, apart := false, laid := [("math/bits.deBruijn32tab", laid_math_bits_deBruijn32tab), ("math/bits.deBruijn64tab", laid_math_bits_deBruijn64tab), ("internal/strconv.uint64pow10", laid_internal_strconv_uint64pow10)] }
def TagsHopsSaid : Prop := tagsHopsRow.holds Tryd.pinned (OpenSpec.ofChange tagsHopsSpec)

/-- ITS FALSE NEIGHBOUR: 'it returns false'. Refute it at one input. -/
def tagsHopsWrong : ChangeSpec := { name := "tagsHops", fn := fun _ => fun
  | [d1, d2] => { results := [.lit (.bool false)], args := [d1, d2] }
  | _ => none }
def TagsHopsWrongFalsely : Prop := tagsHopsRow.holds Tryd.pinned (OpenSpec.ofChange tagsHopsWrong)

/- THE SECOND FORM. 'bulk': how many values and letters a reading holds, each counted each time it is reached (what is shared counts as often as it is met; a slice's spare places count too). A statement '..UptoSaid' is the law's where the arguments, and the package variables that the reading takes, are together of bulk at most 1048576: NARROWER than '..Said'. Prove '..Said' where nothing that the law and all that it calls make is longer than what came in: it says more and counts as full. Else prove '..UptoSaid'. A law counts once. -/
mutual
def uptoBulk {H : Type} : DataW H → Nat
  | .lit (.string bytes) => bytes.length + 1
  | .lit _ => 1
  | .nil => 1
  | .ptr d => uptoBulk d + 1
  | .slice elems spare => uptoBulkAll elems + uptoBulkAll spare + 1
  | .agg parts => uptoBulkAll parts + 1
  | .iface _ d => uptoBulk d + 1
  | .map entries => uptoBulkEntries entries + 1
  | .held _ => 1
def uptoBulkAll {H : Type} : List (DataW H) → Nat
  | [] => 0
  | d :: r => uptoBulk d + uptoBulkAll r
def uptoBulkEntries {H : Type} : List (Lit × DataW H) → Nat
  | [] => 0
  | x :: r => uptoBulkEntry x + uptoBulkEntries r
def uptoBulkEntry {H : Type} : Lit × DataW H → Nat
  | (.string bytes, d) => bytes.length + uptoBulk d + 1
  | (_, d) => uptoBulk d + 1
 end
def uptoSmall : (H : Type) → List (DataW H) → Bool := fun _ ds => decide (uptoBulkAll ds ≤ 1048576)
def OpenSpec.upto (s : _root_.Go.ChangeSpec) : _root_.Go.OpenSpec := { _root_.Go.OpenSpec.ofChange s with cond := some uptoSmall }

/-- 'carrefourlaw04.HeadWidths', WHERE WHAT IT READS IS OF BULK AT MOST 1048576: true; the input reads as it did. -/
def headWidthsUptoRow : OpenClaim := { program := "ytbodkbaafaamlaadoor", sum := "289c8dd1b3b35d914472d9e62b112a75f78252a8fecdc5256dab34fd698b77de", func := "carrefour/carrefourlaw04.HeadWidths", spec := "headWidths", named := ["carrefour/head.widths"], plainKeys := false, apart := false, laid := [("carrefour/head.widths", laid_carrefour_head_widths)], narrowed := true }
def HeadWidthsUptoSaid : Prop := headWidthsUptoRow.holds Tryd.pinned (OpenSpec.upto headWidthsSpec)

/-- 'carrefourlaw04.HeadTwice', WHERE WHAT IT READS IS OF BULK AT MOST 1048576: true; the input reads as it did. -/
def headTwiceUptoRow : OpenClaim := { program := "ytbodkbaafaamlaadoor", sum := "289c8dd1b3b35d914472d9e62b112a75f78252a8fecdc5256dab34fd698b77de", func := "carrefour/carrefourlaw04.HeadTwice", spec := "headTwice", named := ["carrefour/head.widths"], plainKeys := false, apart := false, laid := [("carrefour/head.widths", laid_carrefour_head_widths)], narrowed := true }
def HeadTwiceUptoSaid : Prop := headTwiceUptoRow.holds Tryd.pinned (OpenSpec.upto headTwiceSpec)

/-- 'carrefourlaw04.HeadGets', WHERE WHAT IT READS IS OF BULK AT MOST 1048576: true; the input reads as it did. -/
def headGetsUptoRow : OpenClaim := { program := "ytbodkbaafaamlaadoor", sum := "289c8dd1b3b35d914472d9e62b112a75f78252a8fecdc5256dab34fd698b77de", func := "carrefour/carrefourlaw04.HeadGets", spec := "headGets", named := ["carrefour/head.widths"], plainKeys := false, apart := false, laid := [("carrefour/head.widths", laid_carrefour_head_widths)], narrowed := true }
def HeadGetsUptoSaid : Prop := headGetsUptoRow.holds Tryd.pinned (OpenSpec.upto headGetsSpec)

/-- 'carrefourlaw04.HeadOrders', WHERE WHAT IT READS IS OF BULK AT MOST 1048576: true; the input reads as it did. -/
def headOrdersUptoRow : OpenClaim := { program := "ytbodkbaafaamlaadoor", sum := "289c8dd1b3b35d914472d9e62b112a75f78252a8fecdc5256dab34fd698b77de", func := "carrefour/carrefourlaw04.HeadOrders", spec := "headOrders", named := ["carrefour/head.widths"], plainKeys := false, apart := false, laid := [("carrefour/head.widths", laid_carrefour_head_widths)], narrowed := true }
def HeadOrdersUptoSaid : Prop := headOrdersUptoRow.holds Tryd.pinned (OpenSpec.upto headOrdersSpec)

/-- 'carrefourlaw04.HeadWiths', WHERE WHAT IT READS IS OF BULK AT MOST 1048576: true; the input reads as it did. -/
def headWithsUptoRow : OpenClaim := { program := "ytbodkbaafaamlaadoor", sum := "289c8dd1b3b35d914472d9e62b112a75f78252a8fecdc5256dab34fd698b77de", func := "carrefour/carrefourlaw04.HeadWiths", spec := "headWiths", named := ["carrefour/head.widths"], plainKeys := false, apart := false, laid := [("carrefour/head.widths", laid_carrefour_head_widths)], narrowed := true }
def HeadWithsUptoSaid : Prop := headWithsUptoRow.holds Tryd.pinned (OpenSpec.upto headWithsSpec)

/-- 'carrefourlaw22.TagsHops', WHERE WHAT IT READS IS OF BULK AT MOST 1048576: true; the input reads as it did. -/
def tagsHopsUptoRow : OpenClaim := { program := "ytbodkbaafaamlaadoor", sum := "289c8dd1b3b35d914472d9e62b112a75f78252a8fecdc5256dab34fd698b77de", func := "carrefour/carrefourlaw22.TagsHops", spec := "tagsHops", named := ["internal/strconv.uint64pow10", "math/bits.deBruijn32tab", "math/bits.deBruijn64tab"], plainKeys := false, apart := false, laid := [("math/bits.deBruijn32tab", laid_math_bits_deBruijn32tab), ("math/bits.deBruijn64tab", laid_math_bits_deBruijn64tab), ("internal/strconv.uint64pow10", laid_internal_strconv_uint64pow10)], narrowed := true }
def TagsHopsUptoSaid : Prop := tagsHopsUptoRow.holds Tryd.pinned (OpenSpec.upto tagsHopsSpec)

end Rows
end Go.Proofs.YtbodkbaafaamlaaDoor
