/-
  DERIVED. GIVEN WITH THE SEED: THE CARDS: each row of YtgmpbppiakjpdaaDoorRows.lean that lists a variable, with what it lists TIED to the program's text (the seventh form; the later family's looks); each row that meets fmt, with fmt's text TOLD by the authors' own Lean function (tested against real Go, not proved from fmt's source: count such statements apart). THE CARD IS WHAT COUNTS. Prove the row's statement (the work); the ties are given (YtgmpbppiakjpdaaDoorTie.lean); close each card by the builder's one call (the guide's Derived/Test/ToyasCard.lean, 'card_holds'). Laid BY PROGRAM, IN A SANDBOX (cutbox-door.mjs). By AI agents, Wed Nov 11 2026. No macro, syntax, notation, axiom, sorry.
-/
import Derived.Test.YtgmpbppiakjpdaaDoorRows
import GoSem.ClaimSeven
namespace Go.Proofs.YtgmpbppiakjpdaaDoor
namespace Rows

/-- THE TIED CARD OF 'carrefourlaw01.IpTexts'. -/
def ipTextsCard : Claim7 := { stood := { row := ipTextsRow, standIns := [], harness := (true, "d44bc0ba38cd1ec52d1724cbbba4c121213cf81f7eb03b8f99553c9c170e4bd2"), looks := false }, kinds := [], alts := [], laidByText := true, laidKinds := [.data, .data, .data], laidTests := true, laidLooks := .later }
def IpTextsCardSaid : Prop := Claim7.holds Tryd.pinned (.plain (OpenSpec.ofChange ipTextsSpec)) ipTextsCard

/-- THE TIED CARD OF 'carrefourlaw01.IpReads'. -/
def ipReadsCard : Claim7 := { stood := { row := ipReadsRow, standIns := [], harness := (true, "d44bc0ba38cd1ec52d1724cbbba4c121213cf81f7eb03b8f99553c9c170e4bd2"), looks := false }, kinds := [], alts := [], laidByText := true, laidKinds := [.data, .data, .data], laidTests := true, laidLooks := .later }
def IpReadsCardSaid : Prop := Claim7.holds Tryd.pinned (.plain (OpenSpec.ofChange ipReadsSpec)) ipReadsCard

/-- THE SECOND FORM's CARD OF 'carrefourlaw01.IpTexts'. -/
def ipTextsUptoCard : Claim7 := { stood := { row := ipTextsUptoRow, standIns := [], harness := (true, "d44bc0ba38cd1ec52d1724cbbba4c121213cf81f7eb03b8f99553c9c170e4bd2"), looks := false }, kinds := [], alts := [], laidByText := true, laidKinds := [.data, .data, .data], laidTests := true, laidLooks := .later }
def IpTextsUptoCardSaid : Prop := Claim7.holds Tryd.pinned (.plain (OpenSpec.upto ipTextsSpec)) ipTextsUptoCard

/-- THE SECOND FORM's CARD OF 'carrefourlaw01.IpReads'. -/
def ipReadsUptoCard : Claim7 := { stood := { row := ipReadsUptoRow, standIns := [], harness := (true, "d44bc0ba38cd1ec52d1724cbbba4c121213cf81f7eb03b8f99553c9c170e4bd2"), looks := false }, kinds := [], alts := [], laidByText := true, laidKinds := [.data, .data, .data], laidTests := true, laidLooks := .later }
def IpReadsUptoCardSaid : Prop := Claim7.holds Tryd.pinned (.plain (OpenSpec.upto ipReadsSpec)) ipReadsUptoCard
end Rows
end Go.Proofs.YtgmpbppiakjpdaaDoor
