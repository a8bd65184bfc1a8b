/-
  No cell of these rows narrows 'for every input' (looked for: loops, veiled, ifaces, maps, wideKeys, modest, calm, conditions, laid).
  DERIVED. THE GIVEN ROWS OF THIS SEAT. 4 by the template 'for every input the law returns true; each argument reads behind the call as it read before'; 0 by the template 'total and deterministic' (their statements: YtcgaodencjcgnaaTotals.lean).
  GIVEN WITH THE SEED: the statements are not yours to turn. If you find one false, say at which input.
  Laid BY PROGRAM, IN A SANDBOX (cutbox-rows.mjs): the forced cells as the released guide's own fill.sh prints them over the translation a2b2f898ba83740c… (all of the seat's roots in one cut). By AI agents, Wed Nov 11 2026. No macro, syntax, notation, axiom, sorry.
-/
import Derived.Test.YtcgaodencjcgnaaChecked
import GoSem.Claim
import GoSem.ClaimJoined
import GoSem.ClaimMapViews
import Derived.JoinedTies
import Derived.KernelRfl
namespace Go.Proofs.Ytcgaodencjcgnaa
/- THE CELL 'sum', in the pinned program and in every row, IS THE sha256 OF THE DUMP (.gsa) THAT YtcgaodencjcgnaaProg.lean LOADS. Nothing in Lean hashes anything: it is a label: what it is worth is what the hold of that sum in a sandbox is worth. -/
noncomputable def Try.pinned : Pinned := { name := "ytcgaodencjcgnaa", sum := "a2b2f898ba83740ccb18093a4d4e60d3dee52789d06bdb94a6597e89f7705296", checked := Try.checked }
namespace Rows
def none {H : Type} : Left H := { results := [], args := [] }

/-- 'sidesticklaw01.NumBounds': WHATEVER THE INPUT: true; the input reads as it did. -/
def numBoundsSpec : ChangeSpec := { name := "numBounds", fn := fun _ => fun
  | [d1, d2, d3] => { results := [.lit (.bool true)], args := [d1, d2, d3] }
  | _ => none }
def numBoundsRow : OpenClaim := { program := "ytcgaodencjcgnaa", sum := "a2b2f898ba83740ccb18093a4d4e60d3dee52789d06bdb94a6597e89f7705296", func := "sidestick/sidesticklaw01.NumBounds", spec := "numBounds", apart := false }
def NumBoundsSaid : Prop := numBoundsRow.holds Try.pinned (OpenSpec.ofChange numBoundsSpec)

/-- ITS FALSE NEIGHBOUR: 'it returns false'. Refute it at one input. -/
def numBoundsWrong : ChangeSpec := { name := "numBounds", fn := fun _ => fun
  | [d1, d2, d3] => { results := [.lit (.bool false)], args := [d1, d2, d3] }
  | _ => none }
def NumBoundsWrongFalsely : Prop := numBoundsRow.holds Try.pinned (OpenSpec.ofChange numBoundsWrong)

/-- 'sidesticklaw01.NumMirrors': WHATEVER THE INPUT: true; the input reads as it did. -/
def numMirrorsSpec : ChangeSpec := { name := "numMirrors", fn := fun _ => fun
  | [d1, d2, d3] => { results := [.lit (.bool true)], args := [d1, d2, d3] }
  | _ => none }
def numMirrorsRow : OpenClaim := { program := "ytcgaodencjcgnaa", sum := "a2b2f898ba83740ccb18093a4d4e60d3dee52789d06bdb94a6597e89f7705296", func := "sidestick/sidesticklaw01.NumMirrors", spec := "numMirrors", apart := false }
def NumMirrorsSaid : Prop := numMirrorsRow.holds Try.pinned (OpenSpec.ofChange numMirrorsSpec)

/-- ITS FALSE NEIGHBOUR: 'it returns false'. Refute it at one input. -/
def numMirrorsWrong : ChangeSpec := { name := "numMirrors", fn := fun _ => fun
  | [d1, d2, d3] => { results := [.lit (.bool false)], args := [d1, d2, d3] }
  | _ => none }
def NumMirrorsWrongFalsely : Prop := numMirrorsRow.holds Try.pinned (OpenSpec.ofChange numMirrorsWrong)

/-- 'sidesticklaw21.LimitAxes': WHATEVER THE INPUT: true; the input reads as it did. -/
def limitAxesSpec : ChangeSpec := { name := "limitAxes", fn := fun _ => fun
  | [d1, d2, d3] => { results := [.lit (.bool true)], args := [d1, d2, d3] }
  | _ => none }
def limitAxesRow : OpenClaim := { program := "ytcgaodencjcgnaa", sum := "a2b2f898ba83740ccb18093a4d4e60d3dee52789d06bdb94a6597e89f7705296", func := "sidestick/sidesticklaw21.LimitAxes", spec := "limitAxes", apart := false }
def LimitAxesSaid : Prop := limitAxesRow.holds Try.pinned (OpenSpec.ofChange limitAxesSpec)

/-- ITS FALSE NEIGHBOUR: 'it returns false'. Refute it at one input. -/
def limitAxesWrong : ChangeSpec := { name := "limitAxes", fn := fun _ => fun
  | [d1, d2, d3] => { results := [.lit (.bool false)], args := [d1, d2, d3] }
  | _ => none }
def LimitAxesWrongFalsely : Prop := limitAxesRow.holds Try.pinned (OpenSpec.ofChange limitAxesWrong)

/-- 'sidesticklaw21.LimitHolds': WHATEVER THE INPUT: true; the input reads as it did. -/
def limitHoldsSpec : ChangeSpec := { name := "limitHolds", fn := fun _ => fun
  | [d1, d2] => { results := [.lit (.bool true)], args := [d1, d2] }
  | _ => none }
def limitHoldsRow : OpenClaim := { program := "ytcgaodencjcgnaa", sum := "a2b2f898ba83740ccb18093a4d4e60d3dee52789d06bdb94a6597e89f7705296", func := "sidestick/sidesticklaw21.LimitHolds", spec := "limitHolds", apart := false }
def LimitHoldsSaid : Prop := limitHoldsRow.holds Try.pinned (OpenSpec.ofChange limitHoldsSpec)

/-- ITS FALSE NEIGHBOUR: 'it returns false'. Refute it at one input. -/
def limitHoldsWrong : ChangeSpec := { name := "limitHolds", fn := fun _ => fun
  | [d1, d2] => { results := [.lit (.bool false)], args := [d1, d2] }
  | _ => none }
def LimitHoldsWrongFalsely : Prop := limitHoldsRow.holds Try.pinned (OpenSpec.ofChange limitHoldsWrong)

/- THE SECOND FORM. 'bulk': how many values and letters a reading holds, each counted each time it is reached (what is shared counts as often as it is met; a slice's spare places count too). A statement '..UptoSaid' is the law's where the arguments, and the package variables that the reading takes, are together of bulk at most 1048576: NARROWER than '..Said'. Prove '..Said' where nothing that the law and all that it calls make is longer than what came in: it says more and counts as full. Else prove '..UptoSaid'. A law counts once. -/
mutual
def uptoBulk {H : Type} : DataW H → Nat
  | .lit (.string bytes) => bytes.length + 1
  | .lit _ => 1
  | .nil => 1
  | .ptr d => uptoBulk d + 1
  | .slice elems spare => uptoBulkAll elems + uptoBulkAll spare + 1
  | .agg parts => uptoBulkAll parts + 1
  | .iface _ d => uptoBulk d + 1
  | .map entries => uptoBulkEntries entries + 1
  | .held _ => 1
def uptoBulkAll {H : Type} : List (DataW H) → Nat
  | [] => 0
  | d :: r => uptoBulk d + uptoBulkAll r
def uptoBulkEntries {H : Type} : List (Lit × DataW H) → Nat
  | [] => 0
  | x :: r => uptoBulkEntry x + uptoBulkEntries r
def uptoBulkEntry {H : Type} : Lit × DataW H → Nat
  | (.string bytes, d) => bytes.length + uptoBulk d + 1
  | (_, d) => uptoBulk d + 1
 end
def uptoSmall : (H : Type) → List (DataW H) → Bool := fun _ ds => decide (uptoBulkAll ds ≤ 1048576)
def OpenSpec.upto (s : _root_.Go.ChangeSpec) : _root_.Go.OpenSpec := { _root_.Go.OpenSpec.ofChange s with cond := some uptoSmall }

/-- 'sidesticklaw01.NumBounds', WHERE WHAT IT READS IS OF BULK AT MOST 1048576: true; the input reads as it did. -/
def numBoundsUptoRow : OpenClaim := { program := "ytcgaodencjcgnaa", sum := "a2b2f898ba83740ccb18093a4d4e60d3dee52789d06bdb94a6597e89f7705296", func := "sidestick/sidesticklaw01.NumBounds", spec := "numBounds", apart := false, narrowed := true }
def NumBoundsUptoSaid : Prop := numBoundsUptoRow.holds Try.pinned (OpenSpec.upto numBoundsSpec)

/-- 'sidesticklaw01.NumMirrors', WHERE WHAT IT READS IS OF BULK AT MOST 1048576: true; the input reads as it did. -/
def numMirrorsUptoRow : OpenClaim := { program := "ytcgaodencjcgnaa", sum := "a2b2f898ba83740ccb18093a4d4e60d3dee52789d06bdb94a6597e89f7705296", func := "sidestick/sidesticklaw01.NumMirrors", spec := "numMirrors", apart := false, narrowed := true }
def NumMirrorsUptoSaid : Prop := numMirrorsUptoRow.holds Try.pinned (OpenSpec.upto numMirrorsSpec)

/-- 'sidesticklaw21.LimitAxes', WHERE WHAT IT READS IS OF BULK AT MOST 1048576: true; the input reads as it did. -/
def limitAxesUptoRow : OpenClaim := { program := "ytcgaodencjcgnaa", sum := "a2b2f898ba83740ccb18093a4d4e60d3dee52789d06bdb94a6597e89f7705296", func := "sidestick/sidesticklaw21.LimitAxes", spec := "limitAxes", apart := false, narrowed := true }
def LimitAxesUptoSaid : Prop := limitAxesUptoRow.holds Try.pinned (OpenSpec.upto limitAxesSpec)

/-- 'sidesticklaw21.LimitHolds', WHERE WHAT IT READS IS OF BULK AT MOST 1048576: true; the input reads as it did. -/
def limitHoldsUptoRow : OpenClaim := { program := "ytcgaodencjcgnaa", sum := "a2b2f898ba83740ccb18093a4d4e60d3dee52789d06bdb94a6597e89f7705296", func := "sidestick/sidesticklaw21.LimitHolds", spec := "limitHolds", apart := false, narrowed := true }
def LimitHoldsUptoSaid : Prop := limitHoldsUptoRow.holds Try.pinned (OpenSpec.upto limitHoldsSpec)

end Rows
end Go.Proofs.Ytcgaodencjcgnaa
