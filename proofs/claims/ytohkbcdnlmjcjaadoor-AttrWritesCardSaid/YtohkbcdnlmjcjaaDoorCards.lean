/-
  DERIVED. GIVEN WITH THE SEED: THE CARDS: each row of YtohkbcdnlmjcjaaDoorRows.lean that lists a variable, with what it lists TIED to the program's text (the seventh form; the later family's looks); each row that meets fmt, with fmt's text TOLD by the authors' own Lean function (tested against real Go, not proved from fmt's source: count such statements apart). THE CARD IS WHAT COUNTS. Prove the row's statement (the work); the ties are given (YtohkbcdnlmjcjaaDoorTie.lean); close each card by the builder's one call (the guide's Derived/Test/ToyasCard.lean, 'card_holds'). Laid BY PROGRAM, IN A SANDBOX (cutbox-door.mjs). By AI agents, Wed Nov 11 2026. No macro, syntax, notation, axiom, sorry.
-/
import Derived.Test.YtohkbcdnlmjcjaaDoorRows
import GoSem.ClaimSeven
namespace Go.Proofs.YtohkbcdnlmjcjaaDoor
namespace Rows

/-- THE TIED CARD OF 'carrefourlaw06.AttrAsks'. -/
def attrAsksCard : Claim7 := { stood := { row := attrAsksRow, standIns := [], harness := (true, "6b91670ccd8cca89c07c3532bc8bb919a6428045c2eadfa519b2a0db040ebdee"), looks := false }, kinds := [], alts := [], laidByText := true, laidKinds := [.data, .data], laidTests := true, laidLooks := .later }
def AttrAsksCardSaid : Prop := Claim7.holds Tryd.pinned (.plain (OpenSpec.ofChange attrAsksSpec)) attrAsksCard

/-- THE TIED CARD OF 'carrefourlaw06.AttrWrites'. -/
def attrWritesCard : Claim7 := { stood := { row := attrWritesRow, standIns := [], harness := (true, "6b91670ccd8cca89c07c3532bc8bb919a6428045c2eadfa519b2a0db040ebdee"), looks := false }, kinds := [], alts := [], laidByText := true, laidKinds := [.data, .data], laidTests := true, laidLooks := .later }
def AttrWritesCardSaid : Prop := Claim7.holds Tryd.pinned (.plain (OpenSpec.ofChange attrWritesSpec)) attrWritesCard

/-- THE TIED CARD OF 'carrefourlaw06.AttrOrder'. -/
def attrOrderCard : Claim7 := { stood := { row := attrOrderRow, standIns := [], harness := (true, "6b91670ccd8cca89c07c3532bc8bb919a6428045c2eadfa519b2a0db040ebdee"), looks := false }, kinds := [], alts := [], laidByText := true, laidKinds := [.data, .data], laidTests := true, laidLooks := .later }
def AttrOrderCardSaid : Prop := Claim7.holds Tryd.pinned (.plain (OpenSpec.ofChange attrOrderSpec)) attrOrderCard

/-- THE TIED CARD OF 'carrefourlaw06.AttrForm'. -/
def attrFormCard : Claim7 := { stood := { row := attrFormRow, standIns := [], harness := (true, "6b91670ccd8cca89c07c3532bc8bb919a6428045c2eadfa519b2a0db040ebdee"), looks := false }, kinds := [], alts := [], laidByText := true, laidKinds := [.data, .data], laidTests := true, laidLooks := .later }
def AttrFormCardSaid : Prop := Claim7.holds Tryd.pinned (.plain (OpenSpec.ofChange attrFormSpec)) attrFormCard

/-- THE SECOND FORM's CARD OF 'carrefourlaw06.AttrAsks'. -/
def attrAsksUptoCard : Claim7 := { stood := { row := attrAsksUptoRow, standIns := [], harness := (true, "6b91670ccd8cca89c07c3532bc8bb919a6428045c2eadfa519b2a0db040ebdee"), looks := false }, kinds := [], alts := [], laidByText := true, laidKinds := [.data, .data], laidTests := true, laidLooks := .later }
def AttrAsksUptoCardSaid : Prop := Claim7.holds Tryd.pinned (.plain (OpenSpec.upto attrAsksSpec)) attrAsksUptoCard

/-- THE SECOND FORM's CARD OF 'carrefourlaw06.AttrWrites'. -/
def attrWritesUptoCard : Claim7 := { stood := { row := attrWritesUptoRow, standIns := [], harness := (true, "6b91670ccd8cca89c07c3532bc8bb919a6428045c2eadfa519b2a0db040ebdee"), looks := false }, kinds := [], alts := [], laidByText := true, laidKinds := [.data, .data], laidTests := true, laidLooks := .later }
def AttrWritesUptoCardSaid : Prop := Claim7.holds Tryd.pinned (.plain (OpenSpec.upto attrWritesSpec)) attrWritesUptoCard

/-- THE SECOND FORM's CARD OF 'carrefourlaw06.AttrOrder'. -/
def attrOrderUptoCard : Claim7 := { stood := { row := attrOrderUptoRow, standIns := [], harness := (true, "6b91670ccd8cca89c07c3532bc8bb919a6428045c2eadfa519b2a0db040ebdee"), looks := false }, kinds := [], alts := [], laidByText := true, laidKinds := [.data, .data], laidTests := true, laidLooks := .later }
def AttrOrderUptoCardSaid : Prop := Claim7.holds Tryd.pinned (.plain (OpenSpec.upto attrOrderSpec)) attrOrderUptoCard

/-- THE SECOND FORM's CARD OF 'carrefourlaw06.AttrForm'. -/
def attrFormUptoCard : Claim7 := { stood := { row := attrFormUptoRow, standIns := [], harness := (true, "6b91670ccd8cca89c07c3532bc8bb919a6428045c2eadfa519b2a0db040ebdee"), looks := false }, kinds := [], alts := [], laidByText := true, laidKinds := [.data, .data], laidTests := true, laidLooks := .later }
def AttrFormUptoCardSaid : Prop := Claim7.holds Tryd.pinned (.plain (OpenSpec.upto attrFormSpec)) attrFormUptoCard
end Rows
end Go.Proofs.YtohkbcdnlmjcjaaDoor
