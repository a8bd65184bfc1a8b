/-
  No cell of these rows narrows 'for every input' (looked for: loops, veiled, ifaces, maps, wideKeys, modest, calm, conditions, laid).
  DERIVED. THE GIVEN ROWS OF THIS SEAT. 6 by the template 'for every input the law returns true; each argument reads behind the call as it read before'; 0 by the template 'total and deterministic' (their statements: YtakahkpogooepaaTotals.lean).
  GIVEN WITH THE SEED: the statements are not yours to turn. If you find one false, say at which input.
  Laid BY PROGRAM, IN A SANDBOX (cutbox-rows.mjs): the forced cells as the released guide's own fill.sh prints them over the translation 67f5791b151ce1cd… (all of the seat's roots in one cut). By AI agents, Wed Nov 11 2026. No macro, syntax, notation, axiom, sorry.
-/
import Derived.Test.YtakahkpogooepaaChecked
import GoSem.Claim
import GoSem.ClaimJoined
import GoSem.ClaimMapViews
import Derived.JoinedTies
import Derived.KernelRfl
namespace Go.Proofs.Ytakahkpogooepaa
/- THE CELL 'sum', in the pinned program and in every row, IS THE sha256 OF THE DUMP (.gsa) THAT YtakahkpogooepaaProg.lean LOADS. Nothing in Lean hashes anything: it is a label: what it is worth is what the hold of that sum in a sandbox is worth. -/
noncomputable def Try.pinned : Pinned := { name := "ytakahkpogooepaa", sum := "67f5791b151ce1cda63c6e92b4515cba4e3672e71518ca636e1dfacb8e813029", checked := Try.checked }
namespace Rows
def none {H : Type} : Left H := { results := [], args := [] }

/-- 'sidesticklaw08.MsgFields': WHATEVER THE INPUT: true; the input reads as it did. -/
def msgFieldsSpec : ChangeSpec := { name := "msgFields", fn := fun _ => fun
  | [d1, d2] => { results := [.lit (.bool true)], args := [d1, d2] }
  | _ => none }
def msgFieldsRow : OpenClaim := { program := "ytakahkpogooepaa", sum := "67f5791b151ce1cda63c6e92b4515cba4e3672e71518ca636e1dfacb8e813029", func := "sidestick/sidesticklaw08.MsgFields", spec := "msgFields", unfollowed := true, recurses := true, apart := false }
def MsgFieldsSaid : Prop := msgFieldsRow.holds Try.pinned (OpenSpec.ofChange msgFieldsSpec)

/-- ITS FALSE NEIGHBOUR: 'it returns false'. Refute it at one input. -/
def msgFieldsWrong : ChangeSpec := { name := "msgFields", fn := fun _ => fun
  | [d1, d2] => { results := [.lit (.bool false)], args := [d1, d2] }
  | _ => none }
def MsgFieldsWrongFalsely : Prop := msgFieldsRow.holds Try.pinned (OpenSpec.ofChange msgFieldsWrong)

/-- 'sidesticklaw08.MsgSizes': WHATEVER THE INPUT: true; the input reads as it did. -/
def msgSizesSpec : ChangeSpec := { name := "msgSizes", fn := fun _ => fun
  | [d1, d2] => { results := [.lit (.bool true)], args := [d1, d2] }
  | _ => none }
def msgSizesRow : OpenClaim := { program := "ytakahkpogooepaa", sum := "67f5791b151ce1cda63c6e92b4515cba4e3672e71518ca636e1dfacb8e813029", func := "sidestick/sidesticklaw08.MsgSizes", spec := "msgSizes", unfollowed := true, recurses := true, apart := false }
def MsgSizesSaid : Prop := msgSizesRow.holds Try.pinned (OpenSpec.ofChange msgSizesSpec)

/-- ITS FALSE NEIGHBOUR: 'it returns false'. Refute it at one input. -/
def msgSizesWrong : ChangeSpec := { name := "msgSizes", fn := fun _ => fun
  | [d1, d2] => { results := [.lit (.bool false)], args := [d1, d2] }
  | _ => none }
def MsgSizesWrongFalsely : Prop := msgSizesRow.holds Try.pinned (OpenSpec.ofChange msgSizesWrong)

/-- 'sidesticklaw08.MsgBack': WHATEVER THE INPUT: true; the input reads as it did. -/
def msgBackSpec : ChangeSpec := { name := "msgBack", fn := fun _ => fun
  | [d1, d2, d3] => { results := [.lit (.bool true)], args := [d1, d2, d3] }
  | _ => none }
def msgBackRow : OpenClaim := { program := "ytakahkpogooepaa", sum := "67f5791b151ce1cda63c6e92b4515cba4e3672e71518ca636e1dfacb8e813029", func := "sidestick/sidesticklaw08.MsgBack", spec := "msgBack", unfollowed := true, recurses := true, apart := false }
def MsgBackSaid : Prop := msgBackRow.holds Try.pinned (OpenSpec.ofChange msgBackSpec)

/-- ITS FALSE NEIGHBOUR: 'it returns false'. Refute it at one input. -/
def msgBackWrong : ChangeSpec := { name := "msgBack", fn := fun _ => fun
  | [d1, d2, d3] => { results := [.lit (.bool false)], args := [d1, d2, d3] }
  | _ => none }
def MsgBackWrongFalsely : Prop := msgBackRow.holds Try.pinned (OpenSpec.ofChange msgBackWrong)

/-- 'sidesticklaw08.MsgAll': WHATEVER THE INPUT: true; the input reads as it did. -/
def msgAllSpec : ChangeSpec := { name := "msgAll", fn := fun _ => fun
  | [d1, d2, d3] => { results := [.lit (.bool true)], args := [d1, d2, d3] }
  | _ => none }
def msgAllRow : OpenClaim := { program := "ytakahkpogooepaa", sum := "67f5791b151ce1cda63c6e92b4515cba4e3672e71518ca636e1dfacb8e813029", func := "sidestick/sidesticklaw08.MsgAll", spec := "msgAll", unfollowed := true, recurses := true, apart := false }
def MsgAllSaid : Prop := msgAllRow.holds Try.pinned (OpenSpec.ofChange msgAllSpec)

/-- ITS FALSE NEIGHBOUR: 'it returns false'. Refute it at one input. -/
def msgAllWrong : ChangeSpec := { name := "msgAll", fn := fun _ => fun
  | [d1, d2, d3] => { results := [.lit (.bool false)], args := [d1, d2, d3] }
  | _ => none }
def MsgAllWrongFalsely : Prop := msgAllRow.holds Try.pinned (OpenSpec.ofChange msgAllWrong)

/-- 'sidesticklaw08.MsgReplies': WHATEVER THE INPUT: true; the input reads as it did. -/
def msgRepliesSpec : ChangeSpec := { name := "msgReplies", fn := fun _ => fun
  | [d1, d2, d3] => { results := [.lit (.bool true)], args := [d1, d2, d3] }
  | _ => none }
def msgRepliesRow : OpenClaim := { program := "ytakahkpogooepaa", sum := "67f5791b151ce1cda63c6e92b4515cba4e3672e71518ca636e1dfacb8e813029", func := "sidestick/sidesticklaw08.MsgReplies", spec := "msgReplies", unfollowed := true, recurses := true, apart := false }
def MsgRepliesSaid : Prop := msgRepliesRow.holds Try.pinned (OpenSpec.ofChange msgRepliesSpec)

/-- ITS FALSE NEIGHBOUR: 'it returns false'. Refute it at one input. -/
def msgRepliesWrong : ChangeSpec := { name := "msgReplies", fn := fun _ => fun
  | [d1, d2, d3] => { results := [.lit (.bool false)], args := [d1, d2, d3] }
  | _ => none }
def MsgRepliesWrongFalsely : Prop := msgRepliesRow.holds Try.pinned (OpenSpec.ofChange msgRepliesWrong)

/-- 'sidesticklaw08.MsgCuts': WHATEVER THE INPUT: true; the input reads as it did. -/
def msgCutsSpec : ChangeSpec := { name := "msgCuts", fn := fun _ => fun
  | [d1, d2, d3] => { results := [.lit (.bool true)], args := [d1, d2, d3] }
  | _ => none }
def msgCutsRow : OpenClaim := { program := "ytakahkpogooepaa", sum := "67f5791b151ce1cda63c6e92b4515cba4e3672e71518ca636e1dfacb8e813029", func := "sidestick/sidesticklaw08.MsgCuts", spec := "msgCuts", unfollowed := true, recurses := true, apart := false }
def MsgCutsSaid : Prop := msgCutsRow.holds Try.pinned (OpenSpec.ofChange msgCutsSpec)

/-- ITS FALSE NEIGHBOUR: 'it returns false'. Refute it at one input. -/
def msgCutsWrong : ChangeSpec := { name := "msgCuts", fn := fun _ => fun
  | [d1, d2, d3] => { results := [.lit (.bool false)], args := [d1, d2, d3] }
  | _ => none }
def MsgCutsWrongFalsely : Prop := msgCutsRow.holds Try.pinned (OpenSpec.ofChange msgCutsWrong)

/- THE SECOND FORM. 'bulk': how many values and letters a reading holds, each counted each time it is reached (what is shared counts as often as it is met; a slice's spare places count too). A statement '..UptoSaid' is the law's where the arguments, and the package variables that the reading takes, are together of bulk at most 1048576: NARROWER than '..Said'. Prove '..Said' where nothing that the law and all that it calls make is longer than what came in: it says more and counts as full. Else prove '..UptoSaid'. A law counts once. -/
mutual
def uptoBulk {H : Type} : DataW H → Nat
  | .lit (.string bytes) => bytes.length + 1
  | .lit _ => 1
  | .nil => 1
  | .ptr d => uptoBulk d + 1
  | .slice elems spare => uptoBulkAll elems + uptoBulkAll spare + 1
  | .agg parts => uptoBulkAll parts + 1
  | .iface _ d => uptoBulk d + 1
  | .map entries => uptoBulkEntries entries + 1
  | .held _ => 1
def uptoBulkAll {H : Type} : List (DataW H) → Nat
  | [] => 0
  | d :: r => uptoBulk d + uptoBulkAll r
def uptoBulkEntries {H : Type} : List (Lit × DataW H) → Nat
  | [] => 0
  | x :: r => uptoBulkEntry x + uptoBulkEntries r
def uptoBulkEntry {H : Type} : Lit × DataW H → Nat
  | (.string bytes, d) => bytes.length + uptoBulk d + 1
  | (_, d) => uptoBulk d + 1
 end
def uptoSmall : (H : Type) → List (DataW H) → Bool := fun _ ds => decide (uptoBulkAll ds ≤ 1048576)
def OpenSpec.upto (s : _root_.Go.ChangeSpec) : _root_.Go.OpenSpec := { _root_.Go.OpenSpec.ofChange s with cond := some uptoSmall }

/-- 'sidesticklaw08.MsgFields', WHERE WHAT IT READS IS OF BULK AT MOST 1048576: true; the input reads as it did. -/
def msgFieldsUptoRow : OpenClaim := { program := "ytakahkpogooepaa", sum := "67f5791b151ce1cda63c6e92b4515cba4e3672e71518ca636e1dfacb8e813029", func := "sidestick/sidesticklaw08.MsgFields", spec := "msgFields", unfollowed := true, recurses := true, apart := false, narrowed := true }
def MsgFieldsUptoSaid : Prop := msgFieldsUptoRow.holds Try.pinned (OpenSpec.upto msgFieldsSpec)

/-- 'sidesticklaw08.MsgSizes', WHERE WHAT IT READS IS OF BULK AT MOST 1048576: true; the input reads as it did. -/
def msgSizesUptoRow : OpenClaim := { program := "ytakahkpogooepaa", sum := "67f5791b151ce1cda63c6e92b4515cba4e3672e71518ca636e1dfacb8e813029", func := "sidestick/sidesticklaw08.MsgSizes", spec := "msgSizes", unfollowed := true, recurses := true, apart := false, narrowed := true }
def MsgSizesUptoSaid : Prop := msgSizesUptoRow.holds Try.pinned (OpenSpec.upto msgSizesSpec)

/-- 'sidesticklaw08.MsgBack', WHERE WHAT IT READS IS OF BULK AT MOST 1048576: true; the input reads as it did. -/
def msgBackUptoRow : OpenClaim := { program := "ytakahkpogooepaa", sum := "67f5791b151ce1cda63c6e92b4515cba4e3672e71518ca636e1dfacb8e813029", func := "sidestick/sidesticklaw08.MsgBack", spec := "msgBack", unfollowed := true, recurses := true, apart := false, narrowed := true }
def MsgBackUptoSaid : Prop := msgBackUptoRow.holds Try.pinned (OpenSpec.upto msgBackSpec)

/-- 'sidesticklaw08.MsgAll', WHERE WHAT IT READS IS OF BULK AT MOST 1048576: true; the input reads as it did. -/
def msgAllUptoRow : OpenClaim := { program := "ytakahkpogooepaa", sum := "67f5791b151ce1cda63c6e92b4515cba4e3672e71518ca636e1dfacb8e813029", func := "sidestick/sidesticklaw08.MsgAll", spec := "msgAll", unfollowed := true, recurses := true, apart := false, narrowed := true }
def MsgAllUptoSaid : Prop := msgAllUptoRow.holds Try.pinned (OpenSpec.upto msgAllSpec)

/-- 'sidesticklaw08.MsgReplies', WHERE WHAT IT READS IS OF BULK AT MOST 1048576: true; the input reads as it did. -/
def msgRepliesUptoRow : OpenClaim := { program := "ytakahkpogooepaa", sum := "67f5791b151ce1cda63c6e92b4515cba4e3672e71518ca636e1dfacb8e813029", func := "sidestick/sidesticklaw08.MsgReplies", spec := "msgReplies", unfollowed := true, recurses := true, apart := false, narrowed := true }
def MsgRepliesUptoSaid : Prop := msgRepliesUptoRow.holds Try.pinned (OpenSpec.upto msgRepliesSpec)

/-- 'sidesticklaw08.MsgCuts', WHERE WHAT IT READS IS OF BULK AT MOST 1048576: true; the input reads as it did. -/
def msgCutsUptoRow : OpenClaim := { program := "ytakahkpogooepaa", sum := "67f5791b151ce1cda63c6e92b4515cba4e3672e71518ca636e1dfacb8e813029", func := "sidestick/sidesticklaw08.MsgCuts", spec := "msgCuts", unfollowed := true, recurses := true, apart := false, narrowed := true }
def MsgCutsUptoSaid : Prop := msgCutsUptoRow.holds Try.pinned (OpenSpec.upto msgCutsSpec)

end Rows
end Go.Proofs.Ytakahkpogooepaa
