/-
  No cell of these rows narrows 'for every input' (looked for: loops, veiled, ifaces, maps, wideKeys, modest, calm, conditions, laid).
  DERIVED. THE GIVEN ROWS OF THIS SEAT. 10 by the template 'for every input the law returns true; each argument reads behind the call as it read before'; 0 by the template 'total and deterministic' (their statements: YtkoidahgbbabiaaGreatTotals.lean).
  GIVEN WITH THE SEED: the statements are not yours to turn. If you find one false, say at which input.
  Laid BY PROGRAM, IN A SANDBOX (cutbox-rows.mjs): the forced cells as the released guide's own fill.sh prints them over the translation ec55cb32a4c5ec18… (all of the seat's roots in one cut). By AI agents, Wed Nov 11 2026. No macro, syntax, notation, axiom, sorry.
-/
import Derived.Test.YtkoidahgbbabiaaGreatChecked
import GoSem.Claim
import GoSem.ClaimJoined
import GoSem.ClaimMapViews
import Derived.JoinedTies
import Derived.KernelRfl
namespace Go.Proofs.YtkoidahgbbabiaaGreat
/- THE CELL 'sum', in the pinned program and in every row, IS THE sha256 OF THE DUMP (.gsa) THAT YtkoidahgbbabiaaGreatProg.lean LOADS. Nothing in Lean hashes anything: it is a label: what it is worth is what the hold of that sum in a sandbox is worth. -/
noncomputable def Tryz.pinned : Pinned := { name := "ytkoidahgbbabiaagreat", sum := "ec55cb32a4c5ec1866d26495f10c26c686eb7c2d3966a8964133c00ed4fcf74e", checked := Tryz.checked }
namespace Rows
def none {H : Type} : Left H := { results := [], args := [] }

/-- 'carrefourlaw14.ServerMarks': WHATEVER THE INPUT: true; the input reads as it did. -/
def serverMarksSpec : ChangeSpec := { name := "serverMarks", fn := fun _ => fun
  | [d1, d2, d3, d4] => { results := [.lit (.bool true)], args := [d1, d2, d3, d4] }
  | _ => none }
def serverMarksRow : OpenClaim := { program := "ytkoidahgbbabiaagreat", sum := "ec55cb32a4c5ec1866d26495f10c26c686eb7c2d3966a8964133c00ed4fcf74e", func := "carrefour/carrefourlaw14.ServerMarks", spec := "serverMarks", unfollowed := true, recurses := true, plainKeys := false, apart := false }
def ServerMarksSaid : Prop := serverMarksRow.holds Tryz.pinned (OpenSpec.ofChange serverMarksSpec)

/-- ITS FALSE NEIGHBOUR: 'it returns false'. Refute it at one input. -/
def serverMarksWrong : ChangeSpec := { name := "serverMarks", fn := fun _ => fun
  | [d1, d2, d3, d4] => { results := [.lit (.bool false)], args := [d1, d2, d3, d4] }
  | _ => none }
def ServerMarksWrongFalsely : Prop := serverMarksRow.holds Tryz.pinned (OpenSpec.ofChange serverMarksWrong)

/-- 'carrefourlaw14.ServerLeaves': WHATEVER THE INPUT: true; the input reads as it did. -/
def serverLeavesSpec : ChangeSpec := { name := "serverLeaves", fn := fun _ => fun
  | [d1, d2, d3] => { results := [.lit (.bool true)], args := [d1, d2, d3] }
  | _ => none }
def serverLeavesRow : OpenClaim := { program := "ytkoidahgbbabiaagreat", sum := "ec55cb32a4c5ec1866d26495f10c26c686eb7c2d3966a8964133c00ed4fcf74e", func := "carrefour/carrefourlaw14.ServerLeaves", spec := "serverLeaves", unfollowed := true, recurses := true, plainKeys := false, apart := false }
def ServerLeavesSaid : Prop := serverLeavesRow.holds Tryz.pinned (OpenSpec.ofChange serverLeavesSpec)

/-- ITS FALSE NEIGHBOUR: 'it returns false'. Refute it at one input. -/
def serverLeavesWrong : ChangeSpec := { name := "serverLeaves", fn := fun _ => fun
  | [d1, d2, d3] => { results := [.lit (.bool false)], args := [d1, d2, d3] }
  | _ => none }
def ServerLeavesWrongFalsely : Prop := serverLeavesRow.holds Tryz.pinned (OpenSpec.ofChange serverLeavesWrong)

/-- 'carrefourlaw14.ServerTells': WHATEVER THE INPUT: true; the input reads as it did. -/
def serverTellsSpec : ChangeSpec := { name := "serverTells", fn := fun _ => fun
  | [d1, d2] => { results := [.lit (.bool true)], args := [d1, d2] }
  | _ => none }
def serverTellsRow : OpenClaim := { program := "ytkoidahgbbabiaagreat", sum := "ec55cb32a4c5ec1866d26495f10c26c686eb7c2d3966a8964133c00ed4fcf74e", func := "carrefour/carrefourlaw14.ServerTells", spec := "serverTells", unfollowed := true, recurses := true, plainKeys := false, apart := false }
def ServerTellsSaid : Prop := serverTellsRow.holds Tryz.pinned (OpenSpec.ofChange serverTellsSpec)

/-- ITS FALSE NEIGHBOUR: 'it returns false'. Refute it at one input. -/
def serverTellsWrong : ChangeSpec := { name := "serverTells", fn := fun _ => fun
  | [d1, d2] => { results := [.lit (.bool false)], args := [d1, d2] }
  | _ => none }
def ServerTellsWrongFalsely : Prop := serverTellsRow.holds Tryz.pinned (OpenSpec.ofChange serverTellsWrong)

/-- 'carrefourlaw14.ServerOffers': WHATEVER THE INPUT: true; the input reads as it did. -/
def serverOffersSpec : ChangeSpec := { name := "serverOffers", fn := fun _ => fun
  | [d1, d2, d3, d4] => { results := [.lit (.bool true)], args := [d1, d2, d3, d4] }
  | _ => none }
def serverOffersRow : OpenClaim := { program := "ytkoidahgbbabiaagreat", sum := "ec55cb32a4c5ec1866d26495f10c26c686eb7c2d3966a8964133c00ed4fcf74e", func := "carrefour/carrefourlaw14.ServerOffers", spec := "serverOffers", unfollowed := true, recurses := true, plainKeys := false, apart := false }
def ServerOffersSaid : Prop := serverOffersRow.holds Tryz.pinned (OpenSpec.ofChange serverOffersSpec)

/-- ITS FALSE NEIGHBOUR: 'it returns false'. Refute it at one input. -/
def serverOffersWrong : ChangeSpec := { name := "serverOffers", fn := fun _ => fun
  | [d1, d2, d3, d4] => { results := [.lit (.bool false)], args := [d1, d2, d3, d4] }
  | _ => none }
def ServerOffersWrongFalsely : Prop := serverOffersRow.holds Tryz.pinned (OpenSpec.ofChange serverOffersWrong)

/-- 'carrefourlaw14.ServerForms': WHATEVER THE INPUT: true; the input reads as it did. -/
def serverFormsSpec : ChangeSpec := { name := "serverForms", fn := fun _ => fun
  | [d1, d2, d3, d4] => { results := [.lit (.bool true)], args := [d1, d2, d3, d4] }
  | _ => none }
def serverFormsRow : OpenClaim := { program := "ytkoidahgbbabiaagreat", sum := "ec55cb32a4c5ec1866d26495f10c26c686eb7c2d3966a8964133c00ed4fcf74e", func := "carrefour/carrefourlaw14.ServerForms", spec := "serverForms", unfollowed := true, recurses := true, plainKeys := false, apart := false }
def ServerFormsSaid : Prop := serverFormsRow.holds Tryz.pinned (OpenSpec.ofChange serverFormsSpec)

/-- ITS FALSE NEIGHBOUR: 'it returns false'. Refute it at one input. -/
def serverFormsWrong : ChangeSpec := { name := "serverForms", fn := fun _ => fun
  | [d1, d2, d3, d4] => { results := [.lit (.bool false)], args := [d1, d2, d3, d4] }
  | _ => none }
def ServerFormsWrongFalsely : Prop := serverFormsRow.holds Tryz.pinned (OpenSpec.ofChange serverFormsWrong)

/-- 'carrefourlaw14.ServerRuns': WHATEVER THE INPUT: true; the input reads as it did. -/
def serverRunsSpec : ChangeSpec := { name := "serverRuns", fn := fun _ => fun
  | [d1, d2, d3] => { results := [.lit (.bool true)], args := [d1, d2, d3] }
  | _ => none }
def serverRunsRow : OpenClaim := { program := "ytkoidahgbbabiaagreat", sum := "ec55cb32a4c5ec1866d26495f10c26c686eb7c2d3966a8964133c00ed4fcf74e", func := "carrefour/carrefourlaw14.ServerRuns", spec := "serverRuns", unfollowed := true, recurses := true, plainKeys := false, apart := false }
def ServerRunsSaid : Prop := serverRunsRow.holds Tryz.pinned (OpenSpec.ofChange serverRunsSpec)

/-- ITS FALSE NEIGHBOUR: 'it returns false'. Refute it at one input. -/
def serverRunsWrong : ChangeSpec := { name := "serverRuns", fn := fun _ => fun
  | [d1, d2, d3] => { results := [.lit (.bool false)], args := [d1, d2, d3] }
  | _ => none }
def ServerRunsWrongFalsely : Prop := serverRunsRow.holds Tryz.pinned (OpenSpec.ofChange serverRunsWrong)

/-- 'carrefourlaw21.FecOrders': WHATEVER THE INPUT: true; the input reads as it did. -/
def fecOrdersSpec : ChangeSpec := { name := "fecOrders", fn := fun _ => fun
  | [d1, d2] => { results := [.lit (.bool true)], args := [d1, d2] }
  | _ => none }
def fecOrdersRow : OpenClaim := { program := "ytkoidahgbbabiaagreat", sum := "ec55cb32a4c5ec1866d26495f10c26c686eb7c2d3966a8964133c00ed4fcf74e", func := "carrefour/carrefourlaw21.FecOrders", spec := "fecOrders", unfollowed := true, recurses := true, plainKeys := false, apart := false }
def FecOrdersSaid : Prop := fecOrdersRow.holds Tryz.pinned (OpenSpec.ofChange fecOrdersSpec)

/-- ITS FALSE NEIGHBOUR: 'it returns false'. Refute it at one input. -/
def fecOrdersWrong : ChangeSpec := { name := "fecOrders", fn := fun _ => fun
  | [d1, d2] => { results := [.lit (.bool false)], args := [d1, d2] }
  | _ => none }
def FecOrdersWrongFalsely : Prop := fecOrdersRow.holds Tryz.pinned (OpenSpec.ofChange fecOrdersWrong)

/-- 'carrefourlaw21.FecParts': WHATEVER THE INPUT: true; the input reads as it did. -/
def fecPartsSpec : ChangeSpec := { name := "fecParts", fn := fun _ => fun
  | [d1, d2, d3] => { results := [.lit (.bool true)], args := [d1, d2, d3] }
  | _ => none }
def fecPartsRow : OpenClaim := { program := "ytkoidahgbbabiaagreat", sum := "ec55cb32a4c5ec1866d26495f10c26c686eb7c2d3966a8964133c00ed4fcf74e", func := "carrefour/carrefourlaw21.FecParts", spec := "fecParts", unfollowed := true, recurses := true, plainKeys := false, apart := false }
def FecPartsSaid : Prop := fecPartsRow.holds Tryz.pinned (OpenSpec.ofChange fecPartsSpec)

/-- ITS FALSE NEIGHBOUR: 'it returns false'. Refute it at one input. -/
def fecPartsWrong : ChangeSpec := { name := "fecParts", fn := fun _ => fun
  | [d1, d2, d3] => { results := [.lit (.bool false)], args := [d1, d2, d3] }
  | _ => none }
def FecPartsWrongFalsely : Prop := fecPartsRow.holds Tryz.pinned (OpenSpec.ofChange fecPartsWrong)

/-- 'carrefourlaw21.FecKeys': WHATEVER THE INPUT: true; the input reads as it did. -/
def fecKeysSpec : ChangeSpec := { name := "fecKeys", fn := fun _ => fun
  | [d1, d2, d3, d4] => { results := [.lit (.bool true)], args := [d1, d2, d3, d4] }
  | _ => none }
def fecKeysRow : OpenClaim := { program := "ytkoidahgbbabiaagreat", sum := "ec55cb32a4c5ec1866d26495f10c26c686eb7c2d3966a8964133c00ed4fcf74e", func := "carrefour/carrefourlaw21.FecKeys", spec := "fecKeys", unfollowed := true, recurses := true, plainKeys := false, apart := false }
def FecKeysSaid : Prop := fecKeysRow.holds Tryz.pinned (OpenSpec.ofChange fecKeysSpec)

/-- ITS FALSE NEIGHBOUR: 'it returns false'. Refute it at one input. -/
def fecKeysWrong : ChangeSpec := { name := "fecKeys", fn := fun _ => fun
  | [d1, d2, d3, d4] => { results := [.lit (.bool false)], args := [d1, d2, d3, d4] }
  | _ => none }
def FecKeysWrongFalsely : Prop := fecKeysRow.holds Tryz.pinned (OpenSpec.ofChange fecKeysWrong)

/-- 'carrefourlaw21.FecTurns': WHATEVER THE INPUT: true; the input reads as it did. -/
def fecTurnsSpec : ChangeSpec := { name := "fecTurns", fn := fun _ => fun
  | [d1, d2, d3, d4] => { results := [.lit (.bool true)], args := [d1, d2, d3, d4] }
  | _ => none }
def fecTurnsRow : OpenClaim := { program := "ytkoidahgbbabiaagreat", sum := "ec55cb32a4c5ec1866d26495f10c26c686eb7c2d3966a8964133c00ed4fcf74e", func := "carrefour/carrefourlaw21.FecTurns", spec := "fecTurns", unfollowed := true, recurses := true, plainKeys := false, apart := false }
def FecTurnsSaid : Prop := fecTurnsRow.holds Tryz.pinned (OpenSpec.ofChange fecTurnsSpec)

/-- ITS FALSE NEIGHBOUR: 'it returns false'. Refute it at one input. -/
def fecTurnsWrong : ChangeSpec := { name := "fecTurns", fn := fun _ => fun
  | [d1, d2, d3, d4] => { results := [.lit (.bool false)], args := [d1, d2, d3, d4] }
  | _ => none }
def FecTurnsWrongFalsely : Prop := fecTurnsRow.holds Tryz.pinned (OpenSpec.ofChange fecTurnsWrong)

/- THE SECOND FORM. 'bulk': how many values and letters a reading holds, each counted each time it is reached (what is shared counts as often as it is met; a slice's spare places count too). A statement '..UptoSaid' is the law's where the arguments, and the package variables that the reading takes, are together of bulk at most 1048576: NARROWER than '..Said'. Prove '..Said' where nothing that the law and all that it calls make is longer than what came in: it says more and counts as full. Else prove '..UptoSaid'. A law counts once. -/
mutual
def uptoBulk {H : Type} : DataW H → Nat
  | .lit (.string bytes) => bytes.length + 1
  | .lit _ => 1
  | .nil => 1
  | .ptr d => uptoBulk d + 1
  | .slice elems spare => uptoBulkAll elems + uptoBulkAll spare + 1
  | .agg parts => uptoBulkAll parts + 1
  | .iface _ d => uptoBulk d + 1
  | .map entries => uptoBulkEntries entries + 1
  | .held _ => 1
def uptoBulkAll {H : Type} : List (DataW H) → Nat
  | [] => 0
  | d :: r => uptoBulk d + uptoBulkAll r
def uptoBulkEntries {H : Type} : List (Lit × DataW H) → Nat
  | [] => 0
  | x :: r => uptoBulkEntry x + uptoBulkEntries r
def uptoBulkEntry {H : Type} : Lit × DataW H → Nat
  | (.string bytes, d) => bytes.length + uptoBulk d + 1
  | (_, d) => uptoBulk d + 1
 end
def uptoSmall : (H : Type) → List (DataW H) → Bool := fun _ ds => decide (uptoBulkAll ds ≤ 1048576)
def OpenSpec.upto (s : _root_.Go.ChangeSpec) : _root_.Go.OpenSpec := { _root_.Go.OpenSpec.ofChange s with cond := some uptoSmall }

/-- 'carrefourlaw14.ServerMarks', WHERE WHAT IT READS IS OF BULK AT MOST 1048576: true; the input reads as it did. -/
def serverMarksUptoRow : OpenClaim := { program := "ytkoidahgbbabiaagreat", sum := "ec55cb32a4c5ec1866d26495f10c26c686eb7c2d3966a8964133c00ed4fcf74e", func := "carrefour/carrefourlaw14.ServerMarks", spec := "serverMarks", unfollowed := true, recurses := true, plainKeys := false, apart := false, narrowed := true }
def ServerMarksUptoSaid : Prop := serverMarksUptoRow.holds Tryz.pinned (OpenSpec.upto serverMarksSpec)

/-- 'carrefourlaw14.ServerLeaves', WHERE WHAT IT READS IS OF BULK AT MOST 1048576: true; the input reads as it did. -/
def serverLeavesUptoRow : OpenClaim := { program := "ytkoidahgbbabiaagreat", sum := "ec55cb32a4c5ec1866d26495f10c26c686eb7c2d3966a8964133c00ed4fcf74e", func := "carrefour/carrefourlaw14.ServerLeaves", spec := "serverLeaves", unfollowed := true, recurses := true, plainKeys := false, apart := false, narrowed := true }
def ServerLeavesUptoSaid : Prop := serverLeavesUptoRow.holds Tryz.pinned (OpenSpec.upto serverLeavesSpec)

/-- 'carrefourlaw14.ServerTells', WHERE WHAT IT READS IS OF BULK AT MOST 1048576: true; the input reads as it did. -/
def serverTellsUptoRow : OpenClaim := { program := "ytkoidahgbbabiaagreat", sum := "ec55cb32a4c5ec1866d26495f10c26c686eb7c2d3966a8964133c00ed4fcf74e", func := "carrefour/carrefourlaw14.ServerTells", spec := "serverTells", unfollowed := true, recurses := true, plainKeys := false, apart := false, narrowed := true }
def ServerTellsUptoSaid : Prop := serverTellsUptoRow.holds Tryz.pinned (OpenSpec.upto serverTellsSpec)

/-- 'carrefourlaw14.ServerOffers', WHERE WHAT IT READS IS OF BULK AT MOST 1048576: true; the input reads as it did. -/
def serverOffersUptoRow : OpenClaim := { program := "ytkoidahgbbabiaagreat", sum := "ec55cb32a4c5ec1866d26495f10c26c686eb7c2d3966a8964133c00ed4fcf74e", func := "carrefour/carrefourlaw14.ServerOffers", spec := "serverOffers", unfollowed := true, recurses := true, plainKeys := false, apart := false, narrowed := true }
def ServerOffersUptoSaid : Prop := serverOffersUptoRow.holds Tryz.pinned (OpenSpec.upto serverOffersSpec)

/-- 'carrefourlaw14.ServerForms', WHERE WHAT IT READS IS OF BULK AT MOST 1048576: true; the input reads as it did. -/
def serverFormsUptoRow : OpenClaim := { program := "ytkoidahgbbabiaagreat", sum := "ec55cb32a4c5ec1866d26495f10c26c686eb7c2d3966a8964133c00ed4fcf74e", func := "carrefour/carrefourlaw14.ServerForms", spec := "serverForms", unfollowed := true, recurses := true, plainKeys := false, apart := false, narrowed := true }
def ServerFormsUptoSaid : Prop := serverFormsUptoRow.holds Tryz.pinned (OpenSpec.upto serverFormsSpec)

/-- 'carrefourlaw14.ServerRuns', WHERE WHAT IT READS IS OF BULK AT MOST 1048576: true; the input reads as it did. -/
def serverRunsUptoRow : OpenClaim := { program := "ytkoidahgbbabiaagreat", sum := "ec55cb32a4c5ec1866d26495f10c26c686eb7c2d3966a8964133c00ed4fcf74e", func := "carrefour/carrefourlaw14.ServerRuns", spec := "serverRuns", unfollowed := true, recurses := true, plainKeys := false, apart := false, narrowed := true }
def ServerRunsUptoSaid : Prop := serverRunsUptoRow.holds Tryz.pinned (OpenSpec.upto serverRunsSpec)

/-- 'carrefourlaw21.FecOrders', WHERE WHAT IT READS IS OF BULK AT MOST 1048576: true; the input reads as it did. -/
def fecOrdersUptoRow : OpenClaim := { program := "ytkoidahgbbabiaagreat", sum := "ec55cb32a4c5ec1866d26495f10c26c686eb7c2d3966a8964133c00ed4fcf74e", func := "carrefour/carrefourlaw21.FecOrders", spec := "fecOrders", unfollowed := true, recurses := true, plainKeys := false, apart := false, narrowed := true }
def FecOrdersUptoSaid : Prop := fecOrdersUptoRow.holds Tryz.pinned (OpenSpec.upto fecOrdersSpec)

/-- 'carrefourlaw21.FecParts', WHERE WHAT IT READS IS OF BULK AT MOST 1048576: true; the input reads as it did. -/
def fecPartsUptoRow : OpenClaim := { program := "ytkoidahgbbabiaagreat", sum := "ec55cb32a4c5ec1866d26495f10c26c686eb7c2d3966a8964133c00ed4fcf74e", func := "carrefour/carrefourlaw21.FecParts", spec := "fecParts", unfollowed := true, recurses := true, plainKeys := false, apart := false, narrowed := true }
def FecPartsUptoSaid : Prop := fecPartsUptoRow.holds Tryz.pinned (OpenSpec.upto fecPartsSpec)

/-- 'carrefourlaw21.FecKeys', WHERE WHAT IT READS IS OF BULK AT MOST 1048576: true; the input reads as it did. -/
def fecKeysUptoRow : OpenClaim := { program := "ytkoidahgbbabiaagreat", sum := "ec55cb32a4c5ec1866d26495f10c26c686eb7c2d3966a8964133c00ed4fcf74e", func := "carrefour/carrefourlaw21.FecKeys", spec := "fecKeys", unfollowed := true, recurses := true, plainKeys := false, apart := false, narrowed := true }
def FecKeysUptoSaid : Prop := fecKeysUptoRow.holds Tryz.pinned (OpenSpec.upto fecKeysSpec)

/-- 'carrefourlaw21.FecTurns', WHERE WHAT IT READS IS OF BULK AT MOST 1048576: true; the input reads as it did. -/
def fecTurnsUptoRow : OpenClaim := { program := "ytkoidahgbbabiaagreat", sum := "ec55cb32a4c5ec1866d26495f10c26c686eb7c2d3966a8964133c00ed4fcf74e", func := "carrefour/carrefourlaw21.FecTurns", spec := "fecTurns", unfollowed := true, recurses := true, plainKeys := false, apart := false, narrowed := true }
def FecTurnsUptoSaid : Prop := fecTurnsUptoRow.holds Tryz.pinned (OpenSpec.upto fecTurnsSpec)

end Rows
end Go.Proofs.YtkoidahgbbabiaaGreat
