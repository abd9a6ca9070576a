/-
  DERIVED. GIVEN WITH THE SEED: THE CARDS: each row of YtbodkbaafaamlaaDoorRows.lean that lists a variable, with what it lists TIED to the program's text (the seventh form; the later family's looks); each row that meets fmt, with fmt's text TOLD by the authors' own Lean function (tested against real Go, not proved from fmt's source: count such statements apart). THE CARD IS WHAT COUNTS. Prove the row's statement (the work); the ties are given (YtbodkbaafaamlaaDoorTie.lean); close each card by the builder's one call (the guide's Derived/Test/ToyasCard.lean, 'card_holds'). Laid BY PROGRAM, IN A SANDBOX (cutbox-door.mjs). By AI agents, Wed Nov 11 2026. No macro, syntax, notation, axiom, sorry.
-/
import Derived.Test.YtbodkbaafaamlaaDoorRows
import GoSem.ClaimSeven
namespace Go.Proofs.YtbodkbaafaamlaaDoor
namespace Rows

/-- THE TIED CARD OF 'carrefourlaw04.HeadWidths'. -/
def headWidthsCard : Claim7 := { stood := { row := headWidthsRow, standIns := [], harness := (true, "8e8160d9b9fa4a3499444b27375e2619ac418f39e58db6c90748b4be859b3efc"), looks := false }, kinds := [], alts := [], laidByText := true, laidKinds := [.data], laidTests := true, laidLooks := .later }
def HeadWidthsCardSaid : Prop := Claim7.holds Tryd.pinned (.plain (OpenSpec.ofChange headWidthsSpec)) headWidthsCard

/-- THE TIED CARD OF 'carrefourlaw04.HeadTwice'. -/
def headTwiceCard : Claim7 := { stood := { row := headTwiceRow, standIns := [], harness := (true, "8e8160d9b9fa4a3499444b27375e2619ac418f39e58db6c90748b4be859b3efc"), looks := false }, kinds := [], alts := [], laidByText := true, laidKinds := [.data], laidTests := true, laidLooks := .later }
def HeadTwiceCardSaid : Prop := Claim7.holds Tryd.pinned (.plain (OpenSpec.ofChange headTwiceSpec)) headTwiceCard

/-- THE TIED CARD OF 'carrefourlaw04.HeadGets'. -/
def headGetsCard : Claim7 := { stood := { row := headGetsRow, standIns := [], harness := (true, "8e8160d9b9fa4a3499444b27375e2619ac418f39e58db6c90748b4be859b3efc"), looks := false }, kinds := [], alts := [], laidByText := true, laidKinds := [.data], laidTests := true, laidLooks := .later }
def HeadGetsCardSaid : Prop := Claim7.holds Tryd.pinned (.plain (OpenSpec.ofChange headGetsSpec)) headGetsCard

/-- THE TIED CARD OF 'carrefourlaw04.HeadOrders'. -/
def headOrdersCard : Claim7 := { stood := { row := headOrdersRow, standIns := [], harness := (true, "8e8160d9b9fa4a3499444b27375e2619ac418f39e58db6c90748b4be859b3efc"), looks := false }, kinds := [], alts := [], laidByText := true, laidKinds := [.data], laidTests := true, laidLooks := .later }
def HeadOrdersCardSaid : Prop := Claim7.holds Tryd.pinned (.plain (OpenSpec.ofChange headOrdersSpec)) headOrdersCard

/-- THE TIED CARD OF 'carrefourlaw04.HeadWiths'. -/
def headWithsCard : Claim7 := { stood := { row := headWithsRow, standIns := [], harness := (true, "8e8160d9b9fa4a3499444b27375e2619ac418f39e58db6c90748b4be859b3efc"), looks := false }, kinds := [], alts := [], laidByText := true, laidKinds := [.data], laidTests := true, laidLooks := .later }
def HeadWithsCardSaid : Prop := Claim7.holds Tryd.pinned (.plain (OpenSpec.ofChange headWithsSpec)) headWithsCard

/-- THE TIED CARD OF 'carrefourlaw22.TagsHops'. -/
def tagsHopsCard : Claim7 := { stood := { row := tagsHopsRow, standIns := [], harness := (true, "8e8160d9b9fa4a3499444b27375e2619ac418f39e58db6c90748b4be859b3efc"), looks := false }, kinds := [], alts := [], laidByText := true, laidKinds := [.data, .data, .data], laidTests := true, laidLooks := .later }
def TagsHopsCardSaid : Prop := Claim7.holds Tryd.pinned (.plain (OpenSpec.ofChange tagsHopsSpec)) tagsHopsCard

/-- THE SECOND FORM's CARD OF 'carrefourlaw04.HeadWidths'. -/
def headWidthsUptoCard : Claim7 := { stood := { row := headWidthsUptoRow, standIns := [], harness := (true, "8e8160d9b9fa4a3499444b27375e2619ac418f39e58db6c90748b4be859b3efc"), looks := false }, kinds := [], alts := [], laidByText := true, laidKinds := [.data], laidTests := true, laidLooks := .later }
def HeadWidthsUptoCardSaid : Prop := Claim7.holds Tryd.pinned (.plain (OpenSpec.upto headWidthsSpec)) headWidthsUptoCard

/-- THE SECOND FORM's CARD OF 'carrefourlaw04.HeadTwice'. -/
def headTwiceUptoCard : Claim7 := { stood := { row := headTwiceUptoRow, standIns := [], harness := (true, "8e8160d9b9fa4a3499444b27375e2619ac418f39e58db6c90748b4be859b3efc"), looks := false }, kinds := [], alts := [], laidByText := true, laidKinds := [.data], laidTests := true, laidLooks := .later }
def HeadTwiceUptoCardSaid : Prop := Claim7.holds Tryd.pinned (.plain (OpenSpec.upto headTwiceSpec)) headTwiceUptoCard

/-- THE SECOND FORM's CARD OF 'carrefourlaw04.HeadGets'. -/
def headGetsUptoCard : Claim7 := { stood := { row := headGetsUptoRow, standIns := [], harness := (true, "8e8160d9b9fa4a3499444b27375e2619ac418f39e58db6c90748b4be859b3efc"), looks := false }, kinds := [], alts := [], laidByText := true, laidKinds := [.data], laidTests := true, laidLooks := .later }
def HeadGetsUptoCardSaid : Prop := Claim7.holds Tryd.pinned (.plain (OpenSpec.upto headGetsSpec)) headGetsUptoCard

/-- THE SECOND FORM's CARD OF 'carrefourlaw04.HeadOrders'. -/
def headOrdersUptoCard : Claim7 := { stood := { row := headOrdersUptoRow, standIns := [], harness := (true, "8e8160d9b9fa4a3499444b27375e2619ac418f39e58db6c90748b4be859b3efc"), looks := false }, kinds := [], alts := [], laidByText := true, laidKinds := [.data], laidTests := true, laidLooks := .later }
def HeadOrdersUptoCardSaid : Prop := Claim7.holds Tryd.pinned (.plain (OpenSpec.upto headOrdersSpec)) headOrdersUptoCard

/-- THE SECOND FORM's CARD OF 'carrefourlaw04.HeadWiths'. -/
def headWithsUptoCard : Claim7 := { stood := { row := headWithsUptoRow, standIns := [], harness := (true, "8e8160d9b9fa4a3499444b27375e2619ac418f39e58db6c90748b4be859b3efc"), looks := false }, kinds := [], alts := [], laidByText := true, laidKinds := [.data], laidTests := true, laidLooks := .later }
def HeadWithsUptoCardSaid : Prop := Claim7.holds Tryd.pinned (.plain (OpenSpec.upto headWithsSpec)) headWithsUptoCard

/-- THE SECOND FORM's CARD OF 'carrefourlaw22.TagsHops'. -/
def tagsHopsUptoCard : Claim7 := { stood := { row := tagsHopsUptoRow, standIns := [], harness := (true, "8e8160d9b9fa4a3499444b27375e2619ac418f39e58db6c90748b4be859b3efc"), looks := false }, kinds := [], alts := [], laidByText := true, laidKinds := [.data, .data, .data], laidTests := true, laidLooks := .later }
def TagsHopsUptoCardSaid : Prop := Claim7.holds Tryd.pinned (.plain (OpenSpec.upto tagsHopsSpec)) tagsHopsUptoCard
end Rows
end Go.Proofs.YtbodkbaafaamlaaDoor
