/-
  DERIVED. GIVEN WITH THE SEED: THE CARDS: each row of YtclmichaaiohjaaGreatDoorRows.lean that lists a variable, with what it lists TIED to the program's text (the seventh form; the later family's looks); each row that meets fmt, with fmt's text TOLD by the authors' own Lean function (tested against real Go, not proved from fmt's source: count such statements apart). THE CARD IS WHAT COUNTS. Prove the row's statement (the work); the ties are given (YtclmichaaiohjaaGreatDoorTie.lean); close each card by the builder's one call (the guide's Derived/Test/ToyasCard.lean, 'card_holds'). Laid BY PROGRAM, IN A SANDBOX (cutbox-door.mjs). By AI agents, Wed Nov 11 2026. No macro, syntax, notation, axiom, sorry.
-/
import Derived.Test.YtclmichaaiohjaaGreatDoorRows
import GoSem.ClaimSeven
namespace Go.Proofs.YtclmichaaiohjaaGreatDoor
namespace Rows

/-- THE TIED CARD OF 'sidesticktop.TopOffers'. -/
def topOffersCard : Claim7 := { stood := { row := topOffersRow, standIns := [], harness := (true, "5b7171130d1b8b79e546cf094d78f34e281fdbd17378f635901a93026d40db4d"), looks := true }, kinds := [], alts := [], laidByText := true, laidKinds := [.data, .data], laidTests := true, laidLooks := .later }
def TopOffersCardSaid : Prop := Claim7.holds Tryz.pinned (.plain (OpenSpec.ofChange topOffersSpec)) topOffersCard

/-- THE TIED CARD OF 'sidesticktop.TopInvalid'. -/
def topInvalidCard : Claim7 := { stood := { row := topInvalidRow, standIns := [], harness := (true, "5b7171130d1b8b79e546cf094d78f34e281fdbd17378f635901a93026d40db4d"), looks := true }, kinds := [], alts := [], laidByText := true, laidKinds := [.data, .data], laidTests := true, laidLooks := .later }
def TopInvalidCardSaid : Prop := Claim7.holds Tryz.pinned (.plain (OpenSpec.ofChange topInvalidSpec)) topInvalidCard

/-- THE TIED CARD OF 'sidesticktop.TopRejects'. -/
def topRejectsCard : Claim7 := { stood := { row := topRejectsRow, standIns := [], harness := (true, "5b7171130d1b8b79e546cf094d78f34e281fdbd17378f635901a93026d40db4d"), looks := true }, kinds := [], alts := [], laidByText := true, laidKinds := [.data, .data], laidTests := true, laidLooks := .later }
def TopRejectsCardSaid : Prop := Claim7.holds Tryz.pinned (.plain (OpenSpec.ofChange topRejectsSpec)) topRejectsCard

/-- THE TIED CARD OF 'sidesticktop.TopReplays'. -/
def topReplaysCard : Claim7 := { stood := { row := topReplaysRow, standIns := [], harness := (true, "5b7171130d1b8b79e546cf094d78f34e281fdbd17378f635901a93026d40db4d"), looks := true }, kinds := [], alts := [], laidByText := true, laidKinds := [.data, .data], laidTests := true, laidLooks := .later }
def TopReplaysCardSaid : Prop := Claim7.holds Tryz.pinned (.plain (OpenSpec.ofChange topReplaysSpec)) topReplaysCard

/-- THE TIED CARD OF 'sidesticktop.TopLabels'. -/
def topLabelsCard : Claim7 := { stood := { row := topLabelsRow, standIns := [], harness := (true, "5b7171130d1b8b79e546cf094d78f34e281fdbd17378f635901a93026d40db4d"), looks := true }, kinds := [], alts := [], laidByText := true, laidKinds := [.data, .data], laidTests := true, laidLooks := .later }
def TopLabelsCardSaid : Prop := Claim7.holds Tryz.pinned (.plain (OpenSpec.ofChange topLabelsSpec)) topLabelsCard

/-- THE SECOND FORM's CARD OF 'sidesticktop.TopOffers'. -/
def topOffersUptoCard : Claim7 := { stood := { row := topOffersUptoRow, standIns := [], harness := (true, "5b7171130d1b8b79e546cf094d78f34e281fdbd17378f635901a93026d40db4d"), looks := true }, kinds := [], alts := [], laidByText := true, laidKinds := [.data, .data], laidTests := true, laidLooks := .later }
def TopOffersUptoCardSaid : Prop := Claim7.holds Tryz.pinned (.plain (OpenSpec.upto topOffersSpec)) topOffersUptoCard

/-- THE SECOND FORM's CARD OF 'sidesticktop.TopInvalid'. -/
def topInvalidUptoCard : Claim7 := { stood := { row := topInvalidUptoRow, standIns := [], harness := (true, "5b7171130d1b8b79e546cf094d78f34e281fdbd17378f635901a93026d40db4d"), looks := true }, kinds := [], alts := [], laidByText := true, laidKinds := [.data, .data], laidTests := true, laidLooks := .later }
def TopInvalidUptoCardSaid : Prop := Claim7.holds Tryz.pinned (.plain (OpenSpec.upto topInvalidSpec)) topInvalidUptoCard

/-- THE SECOND FORM's CARD OF 'sidesticktop.TopRejects'. -/
def topRejectsUptoCard : Claim7 := { stood := { row := topRejectsUptoRow, standIns := [], harness := (true, "5b7171130d1b8b79e546cf094d78f34e281fdbd17378f635901a93026d40db4d"), looks := true }, kinds := [], alts := [], laidByText := true, laidKinds := [.data, .data], laidTests := true, laidLooks := .later }
def TopRejectsUptoCardSaid : Prop := Claim7.holds Tryz.pinned (.plain (OpenSpec.upto topRejectsSpec)) topRejectsUptoCard

/-- THE SECOND FORM's CARD OF 'sidesticktop.TopReplays'. -/
def topReplaysUptoCard : Claim7 := { stood := { row := topReplaysUptoRow, standIns := [], harness := (true, "5b7171130d1b8b79e546cf094d78f34e281fdbd17378f635901a93026d40db4d"), looks := true }, kinds := [], alts := [], laidByText := true, laidKinds := [.data, .data], laidTests := true, laidLooks := .later }
def TopReplaysUptoCardSaid : Prop := Claim7.holds Tryz.pinned (.plain (OpenSpec.upto topReplaysSpec)) topReplaysUptoCard

/-- THE SECOND FORM's CARD OF 'sidesticktop.TopLabels'. -/
def topLabelsUptoCard : Claim7 := { stood := { row := topLabelsUptoRow, standIns := [], harness := (true, "5b7171130d1b8b79e546cf094d78f34e281fdbd17378f635901a93026d40db4d"), looks := true }, kinds := [], alts := [], laidByText := true, laidKinds := [.data, .data], laidTests := true, laidLooks := .later }
def TopLabelsUptoCardSaid : Prop := Claim7.holds Tryz.pinned (.plain (OpenSpec.upto topLabelsSpec)) topLabelsUptoCard
end Rows
end Go.Proofs.YtclmichaaiohjaaGreatDoor
