/-
  DERIVED. GIVEN WITH THE SEED: THE CARDS: each row of YtkcikblecinnfaaDoorRows.lean that lists a variable, with what it lists TIED to the program's text (the seventh form; the later family's looks); each row that meets fmt, with fmt's text TOLD by the authors' own Lean function (tested against real Go, not proved from fmt's source: count such statements apart). THE CARD IS WHAT COUNTS. Prove the row's statement (the work); the ties are given (YtkcikblecinnfaaDoorTie.lean); close each card by the builder's one call (the guide's Derived/Test/ToyasCard.lean, 'card_holds'). Laid BY PROGRAM, IN A SANDBOX (cutbox-door.mjs). By AI agents, Wed Nov 11 2026. No macro, syntax, notation, axiom, sorry.
-/
import Derived.Test.YtkcikblecinnfaaDoorRows
import GoSem.ClaimSeven
namespace Go.Proofs.YtkcikblecinnfaaDoor
namespace Rows

/-- THE TIED CARD OF 'carrefourlaw15.MatchHits'. -/
def matchHitsCard : Claim7 := { stood := { row := matchHitsRow, standIns := [], harness := (true, "a8e4d42a82ad37f84f4a967824ef12374ffebfdec62ed9994786d203be0d1308"), looks := false }, kinds := [], alts := [], laidByText := true, laidKinds := [.data], laidTests := true, laidLooks := .later }
def MatchHitsCardSaid : Prop := Claim7.holds Tryd.pinned (.plain (OpenSpec.ofChange matchHitsSpec)) matchHitsCard

/-- THE TIED CARD OF 'carrefourlaw15.MatchMakes'. -/
def matchMakesCard : Claim7 := { stood := { row := matchMakesRow, standIns := [], harness := (true, "a8e4d42a82ad37f84f4a967824ef12374ffebfdec62ed9994786d203be0d1308"), looks := false }, kinds := [], alts := [], laidByText := true, laidKinds := [.data], laidTests := true, laidLooks := .later }
def MatchMakesCardSaid : Prop := Claim7.holds Tryd.pinned (.plain (OpenSpec.ofChange matchMakesSpec)) matchMakesCard

/-- THE TIED CARD OF 'carrefourlaw15.MatchNets'. -/
def matchNetsCard : Claim7 := { stood := { row := matchNetsRow, standIns := [], harness := (true, "a8e4d42a82ad37f84f4a967824ef12374ffebfdec62ed9994786d203be0d1308"), looks := false }, kinds := [], alts := [], laidByText := true, laidKinds := [.data], laidTests := true, laidLooks := .later }
def MatchNetsCardSaid : Prop := Claim7.holds Tryd.pinned (.plain (OpenSpec.ofChange matchNetsSpec)) matchNetsCard

/-- THE TIED CARD OF 'carrefourlaw15.MatchAnds'. -/
def matchAndsCard : Claim7 := { stood := { row := matchAndsRow, standIns := [], harness := (true, "a8e4d42a82ad37f84f4a967824ef12374ffebfdec62ed9994786d203be0d1308"), looks := false }, kinds := [], alts := [], laidByText := true, laidKinds := [.data], laidTests := true, laidLooks := .later }
def MatchAndsCardSaid : Prop := Claim7.holds Tryd.pinned (.plain (OpenSpec.ofChange matchAndsSpec)) matchAndsCard

/-- THE SECOND FORM's CARD OF 'carrefourlaw15.MatchHits'. -/
def matchHitsUptoCard : Claim7 := { stood := { row := matchHitsUptoRow, standIns := [], harness := (true, "a8e4d42a82ad37f84f4a967824ef12374ffebfdec62ed9994786d203be0d1308"), looks := false }, kinds := [], alts := [], laidByText := true, laidKinds := [.data], laidTests := true, laidLooks := .later }
def MatchHitsUptoCardSaid : Prop := Claim7.holds Tryd.pinned (.plain (OpenSpec.upto matchHitsSpec)) matchHitsUptoCard

/-- THE SECOND FORM's CARD OF 'carrefourlaw15.MatchMakes'. -/
def matchMakesUptoCard : Claim7 := { stood := { row := matchMakesUptoRow, standIns := [], harness := (true, "a8e4d42a82ad37f84f4a967824ef12374ffebfdec62ed9994786d203be0d1308"), looks := false }, kinds := [], alts := [], laidByText := true, laidKinds := [.data], laidTests := true, laidLooks := .later }
def MatchMakesUptoCardSaid : Prop := Claim7.holds Tryd.pinned (.plain (OpenSpec.upto matchMakesSpec)) matchMakesUptoCard

/-- THE SECOND FORM's CARD OF 'carrefourlaw15.MatchNets'. -/
def matchNetsUptoCard : Claim7 := { stood := { row := matchNetsUptoRow, standIns := [], harness := (true, "a8e4d42a82ad37f84f4a967824ef12374ffebfdec62ed9994786d203be0d1308"), looks := false }, kinds := [], alts := [], laidByText := true, laidKinds := [.data], laidTests := true, laidLooks := .later }
def MatchNetsUptoCardSaid : Prop := Claim7.holds Tryd.pinned (.plain (OpenSpec.upto matchNetsSpec)) matchNetsUptoCard

/-- THE SECOND FORM's CARD OF 'carrefourlaw15.MatchAnds'. -/
def matchAndsUptoCard : Claim7 := { stood := { row := matchAndsUptoRow, standIns := [], harness := (true, "a8e4d42a82ad37f84f4a967824ef12374ffebfdec62ed9994786d203be0d1308"), looks := false }, kinds := [], alts := [], laidByText := true, laidKinds := [.data], laidTests := true, laidLooks := .later }
def MatchAndsUptoCardSaid : Prop := Claim7.holds Tryd.pinned (.plain (OpenSpec.upto matchAndsSpec)) matchAndsUptoCard
end Rows
end Go.Proofs.YtkcikblecinnfaaDoor
