/-
  DERIVED. GIVEN WITH THE SEED: THE CARDS: each row of YtcoclbcjbpjblaaDoorRows.lean that lists a variable, with what it lists TIED to the program's text (the seventh form; the later family's looks); each row that meets fmt, with fmt's text TOLD by the authors' own Lean function (tested against real Go, not proved from fmt's source: count such statements apart). THE CARD IS WHAT COUNTS. Prove the row's statement (the work); the ties are given (YtcoclbcjbpjblaaDoorTie.lean); close each card by the builder's one call (the guide's Derived/Test/ToyasCard.lean, 'card_holds'). Laid BY PROGRAM, IN A SANDBOX (cutbox-door.mjs). By AI agents, Wed Nov 11 2026. No macro, syntax, notation, axiom, sorry.
-/
import Derived.Test.YtcoclbcjbpjblaaDoorRows
import GoSem.ClaimSeven
namespace Go.Proofs.YtcoclbcjbpjblaaDoor
namespace Rows

/-- THE TIED CARD OF 'carrefourlaw22.TagsHops'. -/
def tagsHopsCard : Claim7 := { stood := { row := tagsHopsRow, standIns := [], harness := (true, "bbc4e738c8ebfa3557e135213f8362830b2c67da63240c4d51ce09d9b0410f73"), looks := false }, kinds := [], alts := [], laidByText := true, laidKinds := [.data, .data, .data], laidTests := true, laidLooks := .later }
def TagsHopsCardSaid : Prop := Claim7.holds Tryd.pinned (.plain (OpenSpec.ofChange tagsHopsSpec)) tagsHopsCard

/-- THE SECOND FORM's CARD OF 'carrefourlaw22.TagsHops'. -/
def tagsHopsUptoCard : Claim7 := { stood := { row := tagsHopsUptoRow, standIns := [], harness := (true, "bbc4e738c8ebfa3557e135213f8362830b2c67da63240c4d51ce09d9b0410f73"), looks := false }, kinds := [], alts := [], laidByText := true, laidKinds := [.data, .data, .data], laidTests := true, laidLooks := .later }
def TagsHopsUptoCardSaid : Prop := Claim7.holds Tryd.pinned (.plain (OpenSpec.upto tagsHopsSpec)) tagsHopsUptoCard
end Rows
end Go.Proofs.YtcoclbcjbpjblaaDoor
