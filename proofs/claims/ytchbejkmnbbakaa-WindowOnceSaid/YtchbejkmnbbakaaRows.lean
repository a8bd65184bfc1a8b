/-
  No cell of these rows narrows 'for every input' (looked for: loops, veiled, ifaces, maps, wideKeys, modest, calm, conditions, laid).
  DERIVED. THE GIVEN ROWS OF THIS SEAT. 12 by the template 'for every input the law returns true; each argument reads behind the call as it read before'; 0 by the template 'total and deterministic' (their statements: YtchbejkmnbbakaaTotals.lean).
  GIVEN WITH THE SEED: the statements are not yours to turn. If you find one false, say at which input.
  Laid BY PROGRAM, IN A SANDBOX (cutbox-rows.mjs): the forced cells as the released guide's own fill.sh prints them over the translation b80aea7db5712216… (all of the seat's roots in one cut). By AI agents, Wed Nov 11 2026. No macro, syntax, notation, axiom, sorry.
-/
import Derived.Test.YtchbejkmnbbakaaChecked
import GoSem.Claim
import GoSem.ClaimJoined
import GoSem.ClaimMapViews
import Derived.JoinedTies
import Derived.KernelRfl
namespace Go.Proofs.Ytchbejkmnbbakaa
/- THE CELL 'sum', in the pinned program and in every row, IS THE sha256 OF THE DUMP (.gsa) THAT YtchbejkmnbbakaaProg.lean LOADS. Nothing in Lean hashes anything: it is a label: what it is worth is what the hold of that sum in a sandbox is worth. -/
noncomputable def Try.pinned : Pinned := { name := "ytchbejkmnbbakaa", sum := "b80aea7db571221628aa11c4e3872ec4f3f1065351a8c3d01d617422ce511adb", checked := Try.checked }
namespace Rows
def none {H : Type} : Left H := { results := [], args := [] }

/-- 'sidesticklaw13.RuleOrders': WHATEVER THE INPUT: true; the input reads as it did. -/
def ruleOrdersSpec : ChangeSpec := { name := "ruleOrders", fn := fun _ => fun
  | [d1, d2] => { results := [.lit (.bool true)], args := [d1, d2] }
  | _ => none }
def ruleOrdersRow : OpenClaim := { program := "ytchbejkmnbbakaa", sum := "b80aea7db571221628aa11c4e3872ec4f3f1065351a8c3d01d617422ce511adb", func := "sidestick/sidesticklaw13.RuleOrders", spec := "ruleOrders", unfollowed := true, recurses := true, apart := false }
def RuleOrdersSaid : Prop := ruleOrdersRow.holds Try.pinned (OpenSpec.ofChange ruleOrdersSpec)

/-- ITS FALSE NEIGHBOUR: 'it returns false'. Refute it at one input. -/
def ruleOrdersWrong : ChangeSpec := { name := "ruleOrders", fn := fun _ => fun
  | [d1, d2] => { results := [.lit (.bool false)], args := [d1, d2] }
  | _ => none }
def RuleOrdersWrongFalsely : Prop := ruleOrdersRow.holds Try.pinned (OpenSpec.ofChange ruleOrdersWrong)

/-- 'sidesticklaw10.WindowOnce': WHATEVER THE INPUT: true; the input reads as it did. -/
def windowOnceSpec : ChangeSpec := { name := "windowOnce", fn := fun _ => fun
  | [d1, d2] => { results := [.lit (.bool true)], args := [d1, d2] }
  | _ => none }
def windowOnceRow : OpenClaim := { program := "ytchbejkmnbbakaa", sum := "b80aea7db571221628aa11c4e3872ec4f3f1065351a8c3d01d617422ce511adb", func := "sidestick/sidesticklaw10.WindowOnce", spec := "windowOnce", apart := false }
def WindowOnceSaid : Prop := windowOnceRow.holds Try.pinned (OpenSpec.ofChange windowOnceSpec)

/-- ITS FALSE NEIGHBOUR: 'it returns false'. Refute it at one input. -/
def windowOnceWrong : ChangeSpec := { name := "windowOnce", fn := fun _ => fun
  | [d1, d2] => { results := [.lit (.bool false)], args := [d1, d2] }
  | _ => none }
def WindowOnceWrongFalsely : Prop := windowOnceRow.holds Try.pinned (OpenSpec.ofChange windowOnceWrong)

/-- 'sidesticklaw10.WindowMoved': WHATEVER THE INPUT: true; the input reads as it did. -/
def windowMovedSpec : ChangeSpec := { name := "windowMoved", fn := fun _ => fun
  | [d1, d2] => { results := [.lit (.bool true)], args := [d1, d2] }
  | _ => none }
def windowMovedRow : OpenClaim := { program := "ytchbejkmnbbakaa", sum := "b80aea7db571221628aa11c4e3872ec4f3f1065351a8c3d01d617422ce511adb", func := "sidestick/sidesticklaw10.WindowMoved", spec := "windowMoved", apart := false }
def WindowMovedSaid : Prop := windowMovedRow.holds Try.pinned (OpenSpec.ofChange windowMovedSpec)

/-- ITS FALSE NEIGHBOUR: 'it returns false'. Refute it at one input. -/
def windowMovedWrong : ChangeSpec := { name := "windowMoved", fn := fun _ => fun
  | [d1, d2] => { results := [.lit (.bool false)], args := [d1, d2] }
  | _ => none }
def WindowMovedWrongFalsely : Prop := windowMovedRow.holds Try.pinned (OpenSpec.ofChange windowMovedWrong)

/-- 'sidesticklaw02.PackOrders': WHATEVER THE INPUT: true; the input reads as it did. -/
def packOrdersSpec : ChangeSpec := { name := "packOrders", fn := fun _ => fun
  | [d1, d2] => { results := [.lit (.bool true)], args := [d1, d2] }
  | _ => none }
def packOrdersRow : OpenClaim := { program := "ytchbejkmnbbakaa", sum := "b80aea7db571221628aa11c4e3872ec4f3f1065351a8c3d01d617422ce511adb", func := "sidestick/sidesticklaw02.PackOrders", spec := "packOrders", apart := false }
def PackOrdersSaid : Prop := packOrdersRow.holds Try.pinned (OpenSpec.ofChange packOrdersSpec)

/-- ITS FALSE NEIGHBOUR: 'it returns false'. Refute it at one input. -/
def packOrdersWrong : ChangeSpec := { name := "packOrders", fn := fun _ => fun
  | [d1, d2] => { results := [.lit (.bool false)], args := [d1, d2] }
  | _ => none }
def PackOrdersWrongFalsely : Prop := packOrdersRow.holds Try.pinned (OpenSpec.ofChange packOrdersWrong)

/-- 'sidesticklaw02.PackSigns': WHATEVER THE INPUT: true; the input reads as it did. -/
def packSignsSpec : ChangeSpec := { name := "packSigns", fn := fun _ => fun
  | [d] => { results := [.lit (.bool true)], args := [d] }
  | _ => none }
def packSignsRow : OpenClaim := { program := "ytchbejkmnbbakaa", sum := "b80aea7db571221628aa11c4e3872ec4f3f1065351a8c3d01d617422ce511adb", func := "sidestick/sidesticklaw02.PackSigns", spec := "packSigns", apart := false }
def PackSignsSaid : Prop := packSignsRow.holds Try.pinned (OpenSpec.ofChange packSignsSpec)

/-- ITS FALSE NEIGHBOUR: 'it returns false'. Refute it at one input. -/
def packSignsWrong : ChangeSpec := { name := "packSigns", fn := fun _ => fun
  | [d] => { results := [.lit (.bool false)], args := [d] }
  | _ => none }
def PackSignsWrongFalsely : Prop := packSignsRow.holds Try.pinned (OpenSpec.ofChange packSignsWrong)

/-- 'sidesticklaw01.NumComes': WHATEVER THE INPUT: true; the input reads as it did. -/
def numComesSpec : ChangeSpec := { name := "numComes", fn := fun _ => fun
  | [d1, d2, d3] => { results := [.lit (.bool true)], args := [d1, d2, d3] }
  | _ => none }
def numComesRow : OpenClaim := { program := "ytchbejkmnbbakaa", sum := "b80aea7db571221628aa11c4e3872ec4f3f1065351a8c3d01d617422ce511adb", func := "sidestick/sidesticklaw01.NumComes", spec := "numComes", apart := false }
def NumComesSaid : Prop := numComesRow.holds Try.pinned (OpenSpec.ofChange numComesSpec)

/-- ITS FALSE NEIGHBOUR: 'it returns false'. Refute it at one input. -/
def numComesWrong : ChangeSpec := { name := "numComes", fn := fun _ => fun
  | [d1, d2, d3] => { results := [.lit (.bool false)], args := [d1, d2, d3] }
  | _ => none }
def NumComesWrongFalsely : Prop := numComesRow.holds Try.pinned (OpenSpec.ofChange numComesWrong)

/-- 'sidesticklaw01.NumSets': WHATEVER THE INPUT: true; the input reads as it did. -/
def numSetsSpec : ChangeSpec := { name := "numSets", fn := fun _ => fun
  | [d1, d2] => { results := [.lit (.bool true)], args := [d1, d2] }
  | _ => none }
def numSetsRow : OpenClaim := { program := "ytchbejkmnbbakaa", sum := "b80aea7db571221628aa11c4e3872ec4f3f1065351a8c3d01d617422ce511adb", func := "sidestick/sidesticklaw01.NumSets", spec := "numSets", apart := false }
def NumSetsSaid : Prop := numSetsRow.holds Try.pinned (OpenSpec.ofChange numSetsSpec)

/-- ITS FALSE NEIGHBOUR: 'it returns false'. Refute it at one input. -/
def numSetsWrong : ChangeSpec := { name := "numSets", fn := fun _ => fun
  | [d1, d2] => { results := [.lit (.bool false)], args := [d1, d2] }
  | _ => none }
def NumSetsWrongFalsely : Prop := numSetsRow.holds Try.pinned (OpenSpec.ofChange numSetsWrong)

/-- 'sidesticklaw02.PackBack': WHATEVER THE INPUT: true; the input reads as it did. -/
def packBackSpec : ChangeSpec := { name := "packBack", fn := fun _ => fun
  | [d1, d2] => { results := [.lit (.bool true)], args := [d1, d2] }
  | _ => none }
def packBackRow : OpenClaim := { program := "ytchbejkmnbbakaa", sum := "b80aea7db571221628aa11c4e3872ec4f3f1065351a8c3d01d617422ce511adb", func := "sidestick/sidesticklaw02.PackBack", spec := "packBack", apart := false }
def PackBackSaid : Prop := packBackRow.holds Try.pinned (OpenSpec.ofChange packBackSpec)

/-- ITS FALSE NEIGHBOUR: 'it returns false'. Refute it at one input. -/
def packBackWrong : ChangeSpec := { name := "packBack", fn := fun _ => fun
  | [d1, d2] => { results := [.lit (.bool false)], args := [d1, d2] }
  | _ => none }
def PackBackWrongFalsely : Prop := packBackRow.holds Try.pinned (OpenSpec.ofChange packBackWrong)

/-- 'sidesticklaw02.PackParts': WHATEVER THE INPUT: true; the input reads as it did. -/
def packPartsSpec : ChangeSpec := { name := "packParts", fn := fun _ => fun
  | [d1, d2, d3] => { results := [.lit (.bool true)], args := [d1, d2, d3] }
  | _ => none }
def packPartsRow : OpenClaim := { program := "ytchbejkmnbbakaa", sum := "b80aea7db571221628aa11c4e3872ec4f3f1065351a8c3d01d617422ce511adb", func := "sidestick/sidesticklaw02.PackParts", spec := "packParts", apart := false }
def PackPartsSaid : Prop := packPartsRow.holds Try.pinned (OpenSpec.ofChange packPartsSpec)

/-- ITS FALSE NEIGHBOUR: 'it returns false'. Refute it at one input. -/
def packPartsWrong : ChangeSpec := { name := "packParts", fn := fun _ => fun
  | [d1, d2, d3] => { results := [.lit (.bool false)], args := [d1, d2, d3] }
  | _ => none }
def PackPartsWrongFalsely : Prop := packPartsRow.holds Try.pinned (OpenSpec.ofChange packPartsWrong)

/-- 'sidesticklaw13.RuleParts': WHATEVER THE INPUT: true; the input reads as it did. -/
def rulePartsSpec : ChangeSpec := { name := "ruleParts", fn := fun _ => fun
  | [d1, d2, d3] => { results := [.lit (.bool true)], args := [d1, d2, d3] }
  | _ => none }
def rulePartsRow : OpenClaim := { program := "ytchbejkmnbbakaa", sum := "b80aea7db571221628aa11c4e3872ec4f3f1065351a8c3d01d617422ce511adb", func := "sidestick/sidesticklaw13.RuleParts", spec := "ruleParts", unfollowed := true, recurses := true, apart := false }
def RulePartsSaid : Prop := rulePartsRow.holds Try.pinned (OpenSpec.ofChange rulePartsSpec)

/-- ITS FALSE NEIGHBOUR: 'it returns false'. Refute it at one input. -/
def rulePartsWrong : ChangeSpec := { name := "ruleParts", fn := fun _ => fun
  | [d1, d2, d3] => { results := [.lit (.bool false)], args := [d1, d2, d3] }
  | _ => none }
def RulePartsWrongFalsely : Prop := rulePartsRow.holds Try.pinned (OpenSpec.ofChange rulePartsWrong)

/-- 'sidesticklaw13.RuleNone': WHATEVER THE INPUT: true; the input reads as it did. -/
def ruleNoneSpec : ChangeSpec := { name := "ruleNone", fn := fun _ => fun
  | [d1, d2, d3] => { results := [.lit (.bool true)], args := [d1, d2, d3] }
  | _ => none }
def ruleNoneRow : OpenClaim := { program := "ytchbejkmnbbakaa", sum := "b80aea7db571221628aa11c4e3872ec4f3f1065351a8c3d01d617422ce511adb", func := "sidestick/sidesticklaw13.RuleNone", spec := "ruleNone", unfollowed := true, recurses := true, apart := false }
def RuleNoneSaid : Prop := ruleNoneRow.holds Try.pinned (OpenSpec.ofChange ruleNoneSpec)

/-- ITS FALSE NEIGHBOUR: 'it returns false'. Refute it at one input. -/
def ruleNoneWrong : ChangeSpec := { name := "ruleNone", fn := fun _ => fun
  | [d1, d2, d3] => { results := [.lit (.bool false)], args := [d1, d2, d3] }
  | _ => none }
def RuleNoneWrongFalsely : Prop := ruleNoneRow.holds Try.pinned (OpenSpec.ofChange ruleNoneWrong)

/-- 'sidesticklaw02.PackInts': WHATEVER THE INPUT: true; the input reads as it did. -/
def packIntsSpec : ChangeSpec := { name := "packInts", fn := fun _ => fun
  | [d1, d2] => { results := [.lit (.bool true)], args := [d1, d2] }
  | _ => none }
def packIntsRow : OpenClaim := { program := "ytchbejkmnbbakaa", sum := "b80aea7db571221628aa11c4e3872ec4f3f1065351a8c3d01d617422ce511adb", func := "sidestick/sidesticklaw02.PackInts", spec := "packInts", apart := false }
def PackIntsSaid : Prop := packIntsRow.holds Try.pinned (OpenSpec.ofChange packIntsSpec)

/-- ITS FALSE NEIGHBOUR: 'it returns false'. Refute it at one input. -/
def packIntsWrong : ChangeSpec := { name := "packInts", fn := fun _ => fun
  | [d1, d2] => { results := [.lit (.bool false)], args := [d1, d2] }
  | _ => none }
def PackIntsWrongFalsely : Prop := packIntsRow.holds Try.pinned (OpenSpec.ofChange packIntsWrong)

/- THE SECOND FORM. 'bulk': how many values and letters a reading holds, each counted each time it is reached (what is shared counts as often as it is met; a slice's spare places count too). A statement '..UptoSaid' is the law's where the arguments, and the package variables that the reading takes, are together of bulk at most 1048576: NARROWER than '..Said'. Prove '..Said' where nothing that the law and all that it calls make is longer than what came in: it says more and counts as full. Else prove '..UptoSaid'. A law counts once. -/
mutual
def uptoBulk {H : Type} : DataW H → Nat
  | .lit (.string bytes) => bytes.length + 1
  | .lit _ => 1
  | .nil => 1
  | .ptr d => uptoBulk d + 1
  | .slice elems spare => uptoBulkAll elems + uptoBulkAll spare + 1
  | .agg parts => uptoBulkAll parts + 1
  | .iface _ d => uptoBulk d + 1
  | .map entries => uptoBulkEntries entries + 1
  | .held _ => 1
def uptoBulkAll {H : Type} : List (DataW H) → Nat
  | [] => 0
  | d :: r => uptoBulk d + uptoBulkAll r
def uptoBulkEntries {H : Type} : List (Lit × DataW H) → Nat
  | [] => 0
  | x :: r => uptoBulkEntry x + uptoBulkEntries r
def uptoBulkEntry {H : Type} : Lit × DataW H → Nat
  | (.string bytes, d) => bytes.length + uptoBulk d + 1
  | (_, d) => uptoBulk d + 1
 end
def uptoSmall : (H : Type) → List (DataW H) → Bool := fun _ ds => decide (uptoBulkAll ds ≤ 1048576)
def OpenSpec.upto (s : _root_.Go.ChangeSpec) : _root_.Go.OpenSpec := { _root_.Go.OpenSpec.ofChange s with cond := some uptoSmall }

/-- 'sidesticklaw13.RuleOrders', WHERE WHAT IT READS IS OF BULK AT MOST 1048576: true; the input reads as it did. -/
def ruleOrdersUptoRow : OpenClaim := { program := "ytchbejkmnbbakaa", sum := "b80aea7db571221628aa11c4e3872ec4f3f1065351a8c3d01d617422ce511adb", func := "sidestick/sidesticklaw13.RuleOrders", spec := "ruleOrders", unfollowed := true, recurses := true, apart := false, narrowed := true }
def RuleOrdersUptoSaid : Prop := ruleOrdersUptoRow.holds Try.pinned (OpenSpec.upto ruleOrdersSpec)

/-- 'sidesticklaw10.WindowOnce', WHERE WHAT IT READS IS OF BULK AT MOST 1048576: true; the input reads as it did. -/
def windowOnceUptoRow : OpenClaim := { program := "ytchbejkmnbbakaa", sum := "b80aea7db571221628aa11c4e3872ec4f3f1065351a8c3d01d617422ce511adb", func := "sidestick/sidesticklaw10.WindowOnce", spec := "windowOnce", apart := false, narrowed := true }
def WindowOnceUptoSaid : Prop := windowOnceUptoRow.holds Try.pinned (OpenSpec.upto windowOnceSpec)

/-- 'sidesticklaw10.WindowMoved', WHERE WHAT IT READS IS OF BULK AT MOST 1048576: true; the input reads as it did. -/
def windowMovedUptoRow : OpenClaim := { program := "ytchbejkmnbbakaa", sum := "b80aea7db571221628aa11c4e3872ec4f3f1065351a8c3d01d617422ce511adb", func := "sidestick/sidesticklaw10.WindowMoved", spec := "windowMoved", apart := false, narrowed := true }
def WindowMovedUptoSaid : Prop := windowMovedUptoRow.holds Try.pinned (OpenSpec.upto windowMovedSpec)

/-- 'sidesticklaw02.PackOrders', WHERE WHAT IT READS IS OF BULK AT MOST 1048576: true; the input reads as it did. -/
def packOrdersUptoRow : OpenClaim := { program := "ytchbejkmnbbakaa", sum := "b80aea7db571221628aa11c4e3872ec4f3f1065351a8c3d01d617422ce511adb", func := "sidestick/sidesticklaw02.PackOrders", spec := "packOrders", apart := false, narrowed := true }
def PackOrdersUptoSaid : Prop := packOrdersUptoRow.holds Try.pinned (OpenSpec.upto packOrdersSpec)

/-- 'sidesticklaw02.PackSigns', WHERE WHAT IT READS IS OF BULK AT MOST 1048576: true; the input reads as it did. -/
def packSignsUptoRow : OpenClaim := { program := "ytchbejkmnbbakaa", sum := "b80aea7db571221628aa11c4e3872ec4f3f1065351a8c3d01d617422ce511adb", func := "sidestick/sidesticklaw02.PackSigns", spec := "packSigns", apart := false, narrowed := true }
def PackSignsUptoSaid : Prop := packSignsUptoRow.holds Try.pinned (OpenSpec.upto packSignsSpec)

/-- 'sidesticklaw01.NumComes', WHERE WHAT IT READS IS OF BULK AT MOST 1048576: true; the input reads as it did. -/
def numComesUptoRow : OpenClaim := { program := "ytchbejkmnbbakaa", sum := "b80aea7db571221628aa11c4e3872ec4f3f1065351a8c3d01d617422ce511adb", func := "sidestick/sidesticklaw01.NumComes", spec := "numComes", apart := false, narrowed := true }
def NumComesUptoSaid : Prop := numComesUptoRow.holds Try.pinned (OpenSpec.upto numComesSpec)

/-- 'sidesticklaw01.NumSets', WHERE WHAT IT READS IS OF BULK AT MOST 1048576: true; the input reads as it did. -/
def numSetsUptoRow : OpenClaim := { program := "ytchbejkmnbbakaa", sum := "b80aea7db571221628aa11c4e3872ec4f3f1065351a8c3d01d617422ce511adb", func := "sidestick/sidesticklaw01.NumSets", spec := "numSets", apart := false, narrowed := true }
def NumSetsUptoSaid : Prop := numSetsUptoRow.holds Try.pinned (OpenSpec.upto numSetsSpec)

/-- 'sidesticklaw02.PackBack', WHERE WHAT IT READS IS OF BULK AT MOST 1048576: true; the input reads as it did. -/
def packBackUptoRow : OpenClaim := { program := "ytchbejkmnbbakaa", sum := "b80aea7db571221628aa11c4e3872ec4f3f1065351a8c3d01d617422ce511adb", func := "sidestick/sidesticklaw02.PackBack", spec := "packBack", apart := false, narrowed := true }
def PackBackUptoSaid : Prop := packBackUptoRow.holds Try.pinned (OpenSpec.upto packBackSpec)

/-- 'sidesticklaw02.PackParts', WHERE WHAT IT READS IS OF BULK AT MOST 1048576: true; the input reads as it did. -/
def packPartsUptoRow : OpenClaim := { program := "ytchbejkmnbbakaa", sum := "b80aea7db571221628aa11c4e3872ec4f3f1065351a8c3d01d617422ce511adb", func := "sidestick/sidesticklaw02.PackParts", spec := "packParts", apart := false, narrowed := true }
def PackPartsUptoSaid : Prop := packPartsUptoRow.holds Try.pinned (OpenSpec.upto packPartsSpec)

/-- 'sidesticklaw13.RuleParts', WHERE WHAT IT READS IS OF BULK AT MOST 1048576: true; the input reads as it did. -/
def rulePartsUptoRow : OpenClaim := { program := "ytchbejkmnbbakaa", sum := "b80aea7db571221628aa11c4e3872ec4f3f1065351a8c3d01d617422ce511adb", func := "sidestick/sidesticklaw13.RuleParts", spec := "ruleParts", unfollowed := true, recurses := true, apart := false, narrowed := true }
def RulePartsUptoSaid : Prop := rulePartsUptoRow.holds Try.pinned (OpenSpec.upto rulePartsSpec)

/-- 'sidesticklaw13.RuleNone', WHERE WHAT IT READS IS OF BULK AT MOST 1048576: true; the input reads as it did. -/
def ruleNoneUptoRow : OpenClaim := { program := "ytchbejkmnbbakaa", sum := "b80aea7db571221628aa11c4e3872ec4f3f1065351a8c3d01d617422ce511adb", func := "sidestick/sidesticklaw13.RuleNone", spec := "ruleNone", unfollowed := true, recurses := true, apart := false, narrowed := true }
def RuleNoneUptoSaid : Prop := ruleNoneUptoRow.holds Try.pinned (OpenSpec.upto ruleNoneSpec)

/-- 'sidesticklaw02.PackInts', WHERE WHAT IT READS IS OF BULK AT MOST 1048576: true; the input reads as it did. -/
def packIntsUptoRow : OpenClaim := { program := "ytchbejkmnbbakaa", sum := "b80aea7db571221628aa11c4e3872ec4f3f1065351a8c3d01d617422ce511adb", func := "sidestick/sidesticklaw02.PackInts", spec := "packInts", apart := false, narrowed := true }
def PackIntsUptoSaid : Prop := packIntsUptoRow.holds Try.pinned (OpenSpec.upto packIntsSpec)

end Rows
end Go.Proofs.Ytchbejkmnbbakaa
