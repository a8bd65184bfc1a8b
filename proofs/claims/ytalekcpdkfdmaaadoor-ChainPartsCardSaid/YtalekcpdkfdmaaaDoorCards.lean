/-
  DERIVED. GIVEN WITH THE SEED: THE CARDS: each row of YtalekcpdkfdmaaaDoorRows.lean that lists a variable, with what it lists TIED to the program's text (the seventh form; the later family's looks); each row that meets fmt, with fmt's text TOLD by the authors' own Lean function (tested against real Go, not proved from fmt's source: count such statements apart). THE CARD IS WHAT COUNTS. Prove the row's statement (the work); the ties are given (YtalekcpdkfdmaaaDoorTie.lean); close each card by the builder's one call (the guide's Derived/Test/ToyasCard.lean, 'card_holds'). Laid BY PROGRAM, IN A SANDBOX (cutbox-door.mjs). By AI agents, Wed Nov 11 2026. No macro, syntax, notation, axiom, sorry.
-/
import Derived.Test.YtalekcpdkfdmaaaDoorRows
import GoSem.ClaimSeven
namespace Go.Proofs.YtalekcpdkfdmaaaDoor
namespace Rows

/-- THE TIED CARD OF 'sidesticklaw04.ShaAll'. -/
def shaAllCard : Claim7 := { stood := { row := shaAllRow, standIns := [], harness := (true, "4ce3ea334f9bd86b56b7f7787c121d61bbba80876d407c3d6d9568abe595bc18"), looks := false }, kinds := [], alts := [], laidByText := true, laidKinds := [.data], laidTests := true, laidLooks := .later }
def ShaAllCardSaid : Prop := Claim7.holds Tryd.pinned (.plain (OpenSpec.ofChange shaAllSpec)) shaAllCard

/-- THE TIED CARD OF 'sidesticklaw04.ShaPads'. -/
def shaPadsCard : Claim7 := { stood := { row := shaPadsRow, standIns := [], harness := (true, "4ce3ea334f9bd86b56b7f7787c121d61bbba80876d407c3d6d9568abe595bc18"), looks := false }, kinds := [], alts := [], laidByText := true, laidKinds := [.data], laidTests := true, laidLooks := .later }
def ShaPadsCardSaid : Prop := Claim7.holds Tryd.pinned (.plain (OpenSpec.ofChange shaPadsSpec)) shaPadsCard

/-- THE TIED CARD OF 'sidesticklaw04.ShaBlocks'. -/
def shaBlocksCard : Claim7 := { stood := { row := shaBlocksRow, standIns := [], harness := (true, "4ce3ea334f9bd86b56b7f7787c121d61bbba80876d407c3d6d9568abe595bc18"), looks := false }, kinds := [], alts := [], laidByText := true, laidKinds := [.data], laidTests := true, laidLooks := .later }
def ShaBlocksCardSaid : Prop := Claim7.holds Tryd.pinned (.plain (OpenSpec.ofChange shaBlocksSpec)) shaBlocksCard

/-- THE TIED CARD OF 'sidesticklaw05.MacMade'. -/
def macMadeCard : Claim7 := { stood := { row := macMadeRow, standIns := [], harness := (true, "4ce3ea334f9bd86b56b7f7787c121d61bbba80876d407c3d6d9568abe595bc18"), looks := false }, kinds := [], alts := [], laidByText := true, laidKinds := [.data], laidTests := true, laidLooks := .later }
def MacMadeCardSaid : Prop := Claim7.holds Tryd.pinned (.plain (OpenSpec.ofChange macMadeSpec)) macMadeCard

/-- THE TIED CARD OF 'sidesticklaw05.MacAll'. -/
def macAllCard : Claim7 := { stood := { row := macAllRow, standIns := [], harness := (true, "4ce3ea334f9bd86b56b7f7787c121d61bbba80876d407c3d6d9568abe595bc18"), looks := false }, kinds := [], alts := [], laidByText := true, laidKinds := [.data], laidTests := true, laidLooks := .later }
def MacAllCardSaid : Prop := Claim7.holds Tryd.pinned (.plain (OpenSpec.ofChange macAllSpec)) macAllCard

/-- THE TIED CARD OF 'sidesticklaw05.MacKeys'. -/
def macKeysCard : Claim7 := { stood := { row := macKeysRow, standIns := [], harness := (true, "4ce3ea334f9bd86b56b7f7787c121d61bbba80876d407c3d6d9568abe595bc18"), looks := false }, kinds := [], alts := [], laidByText := true, laidKinds := [.data], laidTests := true, laidLooks := .later }
def MacKeysCardSaid : Prop := Claim7.holds Tryd.pinned (.plain (OpenSpec.ofChange macKeysSpec)) macKeysCard

/-- THE TIED CARD OF 'sidesticklaw05.MacTags'. -/
def macTagsCard : Claim7 := { stood := { row := macTagsRow, standIns := [], harness := (true, "4ce3ea334f9bd86b56b7f7787c121d61bbba80876d407c3d6d9568abe595bc18"), looks := false }, kinds := [], alts := [], laidByText := true, laidKinds := [.data], laidTests := true, laidLooks := .later }
def MacTagsCardSaid : Prop := Claim7.holds Tryd.pinned (.plain (OpenSpec.ofChange macTagsSpec)) macTagsCard

/-- THE TIED CARD OF 'sidesticklaw23.ChainParts'. -/
def chainPartsCard : Claim7 := { stood := { row := chainPartsRow, standIns := [], harness := (true, "4ce3ea334f9bd86b56b7f7787c121d61bbba80876d407c3d6d9568abe595bc18"), looks := false }, kinds := [], alts := [], laidByText := true, laidKinds := [.data], laidTests := true, laidLooks := .later }
def ChainPartsCardSaid : Prop := Claim7.holds Tryd.pinned (.plain (OpenSpec.ofChange chainPartsSpec)) chainPartsCard

/-- THE TIED CARD OF 'sidesticklaw23.ChainBytes'. -/
def chainBytesCard : Claim7 := { stood := { row := chainBytesRow, standIns := [], harness := (true, "4ce3ea334f9bd86b56b7f7787c121d61bbba80876d407c3d6d9568abe595bc18"), looks := false }, kinds := [], alts := [], laidByText := true, laidKinds := [.data], laidTests := true, laidLooks := .later }
def ChainBytesCardSaid : Prop := Claim7.holds Tryd.pinned (.plain (OpenSpec.ofChange chainBytesSpec)) chainBytesCard

/-- THE TIED CARD OF 'sidesticklaw23.ChainSums'. -/
def chainSumsCard : Claim7 := { stood := { row := chainSumsRow, standIns := [], harness := (true, "4ce3ea334f9bd86b56b7f7787c121d61bbba80876d407c3d6d9568abe595bc18"), looks := false }, kinds := [], alts := [], laidByText := true, laidKinds := [.data], laidTests := true, laidLooks := .later }
def ChainSumsCardSaid : Prop := Claim7.holds Tryd.pinned (.plain (OpenSpec.ofChange chainSumsSpec)) chainSumsCard

/-- THE SECOND FORM's CARD OF 'sidesticklaw04.ShaAll'. -/
def shaAllUptoCard : Claim7 := { stood := { row := shaAllUptoRow, standIns := [], harness := (true, "4ce3ea334f9bd86b56b7f7787c121d61bbba80876d407c3d6d9568abe595bc18"), looks := false }, kinds := [], alts := [], laidByText := true, laidKinds := [.data], laidTests := true, laidLooks := .later }
def ShaAllUptoCardSaid : Prop := Claim7.holds Tryd.pinned (.plain (OpenSpec.upto shaAllSpec)) shaAllUptoCard

/-- THE SECOND FORM's CARD OF 'sidesticklaw04.ShaPads'. -/
def shaPadsUptoCard : Claim7 := { stood := { row := shaPadsUptoRow, standIns := [], harness := (true, "4ce3ea334f9bd86b56b7f7787c121d61bbba80876d407c3d6d9568abe595bc18"), looks := false }, kinds := [], alts := [], laidByText := true, laidKinds := [.data], laidTests := true, laidLooks := .later }
def ShaPadsUptoCardSaid : Prop := Claim7.holds Tryd.pinned (.plain (OpenSpec.upto shaPadsSpec)) shaPadsUptoCard

/-- THE SECOND FORM's CARD OF 'sidesticklaw04.ShaBlocks'. -/
def shaBlocksUptoCard : Claim7 := { stood := { row := shaBlocksUptoRow, standIns := [], harness := (true, "4ce3ea334f9bd86b56b7f7787c121d61bbba80876d407c3d6d9568abe595bc18"), looks := false }, kinds := [], alts := [], laidByText := true, laidKinds := [.data], laidTests := true, laidLooks := .later }
def ShaBlocksUptoCardSaid : Prop := Claim7.holds Tryd.pinned (.plain (OpenSpec.upto shaBlocksSpec)) shaBlocksUptoCard

/-- THE SECOND FORM's CARD OF 'sidesticklaw05.MacMade'. -/
def macMadeUptoCard : Claim7 := { stood := { row := macMadeUptoRow, standIns := [], harness := (true, "4ce3ea334f9bd86b56b7f7787c121d61bbba80876d407c3d6d9568abe595bc18"), looks := false }, kinds := [], alts := [], laidByText := true, laidKinds := [.data], laidTests := true, laidLooks := .later }
def MacMadeUptoCardSaid : Prop := Claim7.holds Tryd.pinned (.plain (OpenSpec.upto macMadeSpec)) macMadeUptoCard

/-- THE SECOND FORM's CARD OF 'sidesticklaw05.MacAll'. -/
def macAllUptoCard : Claim7 := { stood := { row := macAllUptoRow, standIns := [], harness := (true, "4ce3ea334f9bd86b56b7f7787c121d61bbba80876d407c3d6d9568abe595bc18"), looks := false }, kinds := [], alts := [], laidByText := true, laidKinds := [.data], laidTests := true, laidLooks := .later }
def MacAllUptoCardSaid : Prop := Claim7.holds Tryd.pinned (.plain (OpenSpec.upto macAllSpec)) macAllUptoCard

/-- THE SECOND FORM's CARD OF 'sidesticklaw05.MacKeys'. -/
def macKeysUptoCard : Claim7 := { stood := { row := macKeysUptoRow, standIns := [], harness := (true, "4ce3ea334f9bd86b56b7f7787c121d61bbba80876d407c3d6d9568abe595bc18"), looks := false }, kinds := [], alts := [], laidByText := true, laidKinds := [.data], laidTests := true, laidLooks := .later }
def MacKeysUptoCardSaid : Prop := Claim7.holds Tryd.pinned (.plain (OpenSpec.upto macKeysSpec)) macKeysUptoCard

/-- THE SECOND FORM's CARD OF 'sidesticklaw05.MacTags'. -/
def macTagsUptoCard : Claim7 := { stood := { row := macTagsUptoRow, standIns := [], harness := (true, "4ce3ea334f9bd86b56b7f7787c121d61bbba80876d407c3d6d9568abe595bc18"), looks := false }, kinds := [], alts := [], laidByText := true, laidKinds := [.data], laidTests := true, laidLooks := .later }
def MacTagsUptoCardSaid : Prop := Claim7.holds Tryd.pinned (.plain (OpenSpec.upto macTagsSpec)) macTagsUptoCard

/-- THE SECOND FORM's CARD OF 'sidesticklaw23.ChainParts'. -/
def chainPartsUptoCard : Claim7 := { stood := { row := chainPartsUptoRow, standIns := [], harness := (true, "4ce3ea334f9bd86b56b7f7787c121d61bbba80876d407c3d6d9568abe595bc18"), looks := false }, kinds := [], alts := [], laidByText := true, laidKinds := [.data], laidTests := true, laidLooks := .later }
def ChainPartsUptoCardSaid : Prop := Claim7.holds Tryd.pinned (.plain (OpenSpec.upto chainPartsSpec)) chainPartsUptoCard

/-- THE SECOND FORM's CARD OF 'sidesticklaw23.ChainBytes'. -/
def chainBytesUptoCard : Claim7 := { stood := { row := chainBytesUptoRow, standIns := [], harness := (true, "4ce3ea334f9bd86b56b7f7787c121d61bbba80876d407c3d6d9568abe595bc18"), looks := false }, kinds := [], alts := [], laidByText := true, laidKinds := [.data], laidTests := true, laidLooks := .later }
def ChainBytesUptoCardSaid : Prop := Claim7.holds Tryd.pinned (.plain (OpenSpec.upto chainBytesSpec)) chainBytesUptoCard

/-- THE SECOND FORM's CARD OF 'sidesticklaw23.ChainSums'. -/
def chainSumsUptoCard : Claim7 := { stood := { row := chainSumsUptoRow, standIns := [], harness := (true, "4ce3ea334f9bd86b56b7f7787c121d61bbba80876d407c3d6d9568abe595bc18"), looks := false }, kinds := [], alts := [], laidByText := true, laidKinds := [.data], laidTests := true, laidLooks := .later }
def ChainSumsUptoCardSaid : Prop := Claim7.holds Tryd.pinned (.plain (OpenSpec.upto chainSumsSpec)) chainSumsUptoCard
end Rows
end Go.Proofs.YtalekcpdkfdmaaaDoor
