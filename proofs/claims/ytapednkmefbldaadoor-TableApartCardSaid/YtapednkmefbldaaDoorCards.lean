/-
  DERIVED. GIVEN WITH THE SEED: THE CARDS: each row of YtapednkmefbldaaDoorRows.lean that lists a variable, with what it lists TIED to the program's text (the seventh form; the later family's looks); each row that meets fmt, with fmt's text TOLD by the authors' own Lean function (tested against real Go, not proved from fmt's source: count such statements apart). THE CARD IS WHAT COUNTS. Prove the row's statement (the work); the ties are given (YtapednkmefbldaaDoorTie.lean); close each card by the builder's one call (the guide's Derived/Test/ToyasCard.lean, 'card_holds'). Laid BY PROGRAM, IN A SANDBOX (cutbox-door.mjs). By AI agents, Wed Nov 11 2026. No macro, syntax, notation, axiom, sorry.
-/
import Derived.Test.YtapednkmefbldaaDoorRows
import GoSem.ClaimSeven
namespace Go.Proofs.YtapednkmefbldaaDoor
namespace Rows

/-- THE TIED CARD OF 'sidesticklaw09.SealTags'. -/
def sealTagsCard : Claim7 := { stood := { row := sealTagsRow, standIns := [], harness := (true, "7926b2e7e29ac4dfcb0be43f20dc8692567f1598065135518886491b4641201e"), looks := false }, kinds := [], alts := [], laidByText := true, laidKinds := [.data], laidTests := true, laidLooks := .later }
def SealTagsCardSaid : Prop := Claim7.holds Tryd.pinned (.plain (OpenSpec.ofChange sealTagsSpec)) sealTagsCard

/-- THE TIED CARD OF 'sidesticklaw09.SealApart'. -/
def sealApartCard : Claim7 := { stood := { row := sealApartRow, standIns := [], harness := (true, "7926b2e7e29ac4dfcb0be43f20dc8692567f1598065135518886491b4641201e"), looks := false }, kinds := [], alts := [], laidByText := true, laidKinds := [.data], laidTests := true, laidLooks := .later }
def SealApartCardSaid : Prop := Claim7.holds Tryd.pinned (.plain (OpenSpec.ofChange sealApartSpec)) sealApartCard

/-- THE TIED CARD OF 'sidesticklaw15.DoorCounts'. -/
def doorCountsCard : Claim7 := { stood := { row := doorCountsRow, standIns := [], harness := (true, "7926b2e7e29ac4dfcb0be43f20dc8692567f1598065135518886491b4641201e"), looks := false }, kinds := [], alts := [], laidByText := true, laidKinds := [.data], laidTests := true, laidLooks := .later }
def DoorCountsCardSaid : Prop := Claim7.holds Tryd.pinned (.plain (OpenSpec.ofChange doorCountsSpec)) doorCountsCard

/-- THE TIED CARD OF 'sidesticklaw15.DoorRoles'. -/
def doorRolesCard : Claim7 := { stood := { row := doorRolesRow, standIns := [], harness := (true, "7926b2e7e29ac4dfcb0be43f20dc8692567f1598065135518886491b4641201e"), looks := false }, kinds := [], alts := [], laidByText := true, laidKinds := [.data], laidTests := true, laidLooks := .later }
def DoorRolesCardSaid : Prop := Claim7.holds Tryd.pinned (.plain (OpenSpec.ofChange doorRolesSpec)) doorRolesCard

/-- THE TIED CARD OF 'sidesticklaw16.TableFull'. -/
def tableFullCard : Claim7 := { stood := { row := tableFullRow, standIns := [], harness := (true, "7926b2e7e29ac4dfcb0be43f20dc8692567f1598065135518886491b4641201e"), looks := false }, kinds := [], alts := [], laidByText := true, laidKinds := [.data], laidTests := true, laidLooks := .later }
def TableFullCardSaid : Prop := Claim7.holds Tryd.pinned (.plain (OpenSpec.ofChange tableFullSpec)) tableFullCard

/-- THE TIED CARD OF 'sidesticklaw16.TableApart'. -/
def tableApartCard : Claim7 := { stood := { row := tableApartRow, standIns := [], harness := (true, "7926b2e7e29ac4dfcb0be43f20dc8692567f1598065135518886491b4641201e"), looks := false }, kinds := [], alts := [], laidByText := true, laidKinds := [.data], laidTests := true, laidLooks := .later }
def TableApartCardSaid : Prop := Claim7.holds Tryd.pinned (.plain (OpenSpec.ofChange tableApartSpec)) tableApartCard

/-- THE TIED CARD OF 'sidesticklaw16.TableRefuses'. -/
def tableRefusesCard : Claim7 := { stood := { row := tableRefusesRow, standIns := [], harness := (true, "7926b2e7e29ac4dfcb0be43f20dc8692567f1598065135518886491b4641201e"), looks := false }, kinds := [], alts := [], laidByText := true, laidKinds := [.data], laidTests := true, laidLooks := .later }
def TableRefusesCardSaid : Prop := Claim7.holds Tryd.pinned (.plain (OpenSpec.ofChange tableRefusesSpec)) tableRefusesCard

/-- THE SECOND FORM's CARD OF 'sidesticklaw09.SealTags'. -/
def sealTagsUptoCard : Claim7 := { stood := { row := sealTagsUptoRow, standIns := [], harness := (true, "7926b2e7e29ac4dfcb0be43f20dc8692567f1598065135518886491b4641201e"), looks := false }, kinds := [], alts := [], laidByText := true, laidKinds := [.data], laidTests := true, laidLooks := .later }
def SealTagsUptoCardSaid : Prop := Claim7.holds Tryd.pinned (.plain (OpenSpec.upto sealTagsSpec)) sealTagsUptoCard

/-- THE SECOND FORM's CARD OF 'sidesticklaw09.SealApart'. -/
def sealApartUptoCard : Claim7 := { stood := { row := sealApartUptoRow, standIns := [], harness := (true, "7926b2e7e29ac4dfcb0be43f20dc8692567f1598065135518886491b4641201e"), looks := false }, kinds := [], alts := [], laidByText := true, laidKinds := [.data], laidTests := true, laidLooks := .later }
def SealApartUptoCardSaid : Prop := Claim7.holds Tryd.pinned (.plain (OpenSpec.upto sealApartSpec)) sealApartUptoCard

/-- THE SECOND FORM's CARD OF 'sidesticklaw15.DoorCounts'. -/
def doorCountsUptoCard : Claim7 := { stood := { row := doorCountsUptoRow, standIns := [], harness := (true, "7926b2e7e29ac4dfcb0be43f20dc8692567f1598065135518886491b4641201e"), looks := false }, kinds := [], alts := [], laidByText := true, laidKinds := [.data], laidTests := true, laidLooks := .later }
def DoorCountsUptoCardSaid : Prop := Claim7.holds Tryd.pinned (.plain (OpenSpec.upto doorCountsSpec)) doorCountsUptoCard

/-- THE SECOND FORM's CARD OF 'sidesticklaw15.DoorRoles'. -/
def doorRolesUptoCard : Claim7 := { stood := { row := doorRolesUptoRow, standIns := [], harness := (true, "7926b2e7e29ac4dfcb0be43f20dc8692567f1598065135518886491b4641201e"), looks := false }, kinds := [], alts := [], laidByText := true, laidKinds := [.data], laidTests := true, laidLooks := .later }
def DoorRolesUptoCardSaid : Prop := Claim7.holds Tryd.pinned (.plain (OpenSpec.upto doorRolesSpec)) doorRolesUptoCard

/-- THE SECOND FORM's CARD OF 'sidesticklaw16.TableFull'. -/
def tableFullUptoCard : Claim7 := { stood := { row := tableFullUptoRow, standIns := [], harness := (true, "7926b2e7e29ac4dfcb0be43f20dc8692567f1598065135518886491b4641201e"), looks := false }, kinds := [], alts := [], laidByText := true, laidKinds := [.data], laidTests := true, laidLooks := .later }
def TableFullUptoCardSaid : Prop := Claim7.holds Tryd.pinned (.plain (OpenSpec.upto tableFullSpec)) tableFullUptoCard

/-- THE SECOND FORM's CARD OF 'sidesticklaw16.TableApart'. -/
def tableApartUptoCard : Claim7 := { stood := { row := tableApartUptoRow, standIns := [], harness := (true, "7926b2e7e29ac4dfcb0be43f20dc8692567f1598065135518886491b4641201e"), looks := false }, kinds := [], alts := [], laidByText := true, laidKinds := [.data], laidTests := true, laidLooks := .later }
def TableApartUptoCardSaid : Prop := Claim7.holds Tryd.pinned (.plain (OpenSpec.upto tableApartSpec)) tableApartUptoCard

/-- THE SECOND FORM's CARD OF 'sidesticklaw16.TableRefuses'. -/
def tableRefusesUptoCard : Claim7 := { stood := { row := tableRefusesUptoRow, standIns := [], harness := (true, "7926b2e7e29ac4dfcb0be43f20dc8692567f1598065135518886491b4641201e"), looks := false }, kinds := [], alts := [], laidByText := true, laidKinds := [.data], laidTests := true, laidLooks := .later }
def TableRefusesUptoCardSaid : Prop := Claim7.holds Tryd.pinned (.plain (OpenSpec.upto tableRefusesSpec)) tableRefusesUptoCard
end Rows
end Go.Proofs.YtapednkmefbldaaDoor
