/-
  NARROWER THAN 'FOR EVERY INPUT', by the rows' own cells (each row's printed sentence says how): SealTags: laid · SealApart: laid · DoorCounts: laid · DoorRoles: laid · TableFull: laid · TableApart: laid · TableRefuses: laid.
  DERIVED. THE GIVEN ROWS OF THIS SEAT. 7 by the template 'for every input the law returns true; each argument reads behind the call as it read before'; 0 by the template 'total and deterministic' (their statements: YtapednkmefbldaaDoorTotals.lean).
  GIVEN WITH THE SEED: the statements are not yours to turn. If you find one false, say at which input.
  Laid BY PROGRAM, IN A SANDBOX (cutbox-rows.mjs): the forced cells as the released guide's own fill.sh prints them over the translation 3d0171926dc26d52… (all of the seat's roots in one cut). By AI agents, Wed Nov 11 2026. No macro, syntax, notation, axiom, sorry.
-/
import Derived.Test.YtapednkmefbldaaDoorChecked
import GoSem.Claim
import GoSem.ClaimJoined
import GoSem.ClaimMapViews
import Derived.JoinedTies
import Derived.KernelRfl
namespace Go.Proofs.YtapednkmefbldaaDoor
/- THE CELL 'sum', in the pinned program and in every row, IS THE sha256 OF THE DUMP (.gsa) THAT YtapednkmefbldaaDoorProg.lean LOADS. Nothing in Lean hashes anything: it is a label: what it is worth is what the hold of that sum in a sandbox is worth. -/
noncomputable def Tryd.pinned : Pinned := { name := "ytapednkmefbldaadoor", sum := "3d0171926dc26d5225bc5631a05dc885ebf6421b6c02a6aaabbcf9a9d82418df", checked := Tryd.checked }
namespace Rows
def none {H : Type} : Left H := { results := [], args := [] }

/- WHAT THE LISTED PACKAGE-LEVEL VARIABLES READ AS WHEN THE CALL BEGINS. Each datum BY PROGRAM (the guide's laid-datum.mjs) off the statement by which the dump's own 'gosem.cut.vars' lays the variable. In a bare row this is a premise. The card (YtapednkmefbldaaDoorCards.lean) ties it to the program's text. -/
def laid_sidestick_sha_roots {H : Type} : DataW H := .agg [.lit (.int .u32 1116352408), .lit (.int .u32 1899447441), .lit (.int .u32 3049323471), .lit (.int .u32 3921009573), .lit (.int .u32 961987163), .lit (.int .u32 1508970993), .lit (.int .u32 2453635748), .lit (.int .u32 2870763221), .lit (.int .u32 3624381080), .lit (.int .u32 310598401), .lit (.int .u32 607225278), .lit (.int .u32 1426881987), .lit (.int .u32 1925078388), .lit (.int .u32 2162078206), .lit (.int .u32 2614888103), .lit (.int .u32 3248222580), .lit (.int .u32 3835390401), .lit (.int .u32 4022224774), .lit (.int .u32 264347078), .lit (.int .u32 604807628), .lit (.int .u32 770255983), .lit (.int .u32 1249150122), .lit (.int .u32 1555081692), .lit (.int .u32 1996064986), .lit (.int .u32 2554220882), .lit (.int .u32 2821834349), .lit (.int .u32 2952996808), .lit (.int .u32 3210313671), .lit (.int .u32 3336571891), .lit (.int .u32 3584528711), .lit (.int .u32 113926993), .lit (.int .u32 338241895), .lit (.int .u32 666307205), .lit (.int .u32 773529912), .lit (.int .u32 1294757372), .lit (.int .u32 1396182291), .lit (.int .u32 1695183700), .lit (.int .u32 1986661051), .lit (.int .u32 2177026350), .lit (.int .u32 2456956037), .lit (.int .u32 2730485921), .lit (.int .u32 2820302411), .lit (.int .u32 3259730800), .lit (.int .u32 3345764771), .lit (.int .u32 3516065817), .lit (.int .u32 3600352804), .lit (.int .u32 4094571909), .lit (.int .u32 275423344), .lit (.int .u32 430227734), .lit (.int .u32 506948616), .lit (.int .u32 659060556), .lit (.int .u32 883997877), .lit (.int .u32 958139571), .lit (.int .u32 1322822218), .lit (.int .u32 1537002063), .lit (.int .u32 1747873779), .lit (.int .u32 1955562222), .lit (.int .u32 2024104815), .lit (.int .u32 2227730452), .lit (.int .u32 2361852424), .lit (.int .u32 2428436474), .lit (.int .u32 2756734187), .lit (.int .u32 3204031479), .lit (.int .u32 3329325298)]

/-- 'sidesticklaw09.SealTags': WHATEVER THE INPUT: true; the input reads as it did. -/
def sealTagsSpec : ChangeSpec := { name := "sealTags", fn := fun _ => fun
  | [d1, d2, d3] => { results := [.lit (.bool true)], args := [d1, d2, d3] }
  | _ => none }
def sealTagsRow : OpenClaim := { program := "ytapednkmefbldaadoor", sum := "3d0171926dc26d5225bc5631a05dc885ebf6421b6c02a6aaabbcf9a9d82418df", func := "sidestick/sidesticklaw09.SealTags", spec := "sealTags", named := ["sidestick/sha.roots"], apart := false, laid := [("sidestick/sha.roots", laid_sidestick_sha_roots)] }
def SealTagsSaid : Prop := sealTagsRow.holds Tryd.pinned (OpenSpec.ofChange sealTagsSpec)

/-- ITS FALSE NEIGHBOUR: 'it returns false'. Refute it at one input. -/
def sealTagsWrong : ChangeSpec := { name := "sealTags", fn := fun _ => fun
  | [d1, d2, d3] => { results := [.lit (.bool false)], args := [d1, d2, d3] }
  | _ => none }
def SealTagsWrongFalsely : Prop := sealTagsRow.holds Tryd.pinned (OpenSpec.ofChange sealTagsWrong)

/-- 'sidesticklaw09.SealApart': WHATEVER THE INPUT: true; the input reads as it did. -/
def sealApartSpec : ChangeSpec := { name := "sealApart", fn := fun _ => fun
  | [d1, d2, d3] => { results := [.lit (.bool true)], args := [d1, d2, d3] }
  | _ => none }
def sealApartRow : OpenClaim := { program := "ytapednkmefbldaadoor", sum := "3d0171926dc26d5225bc5631a05dc885ebf6421b6c02a6aaabbcf9a9d82418df", func := "sidestick/sidesticklaw09.SealApart", spec := "sealApart", named := ["sidestick/sha.roots"], apart := false, laid := [("sidestick/sha.roots", laid_sidestick_sha_roots)] }
def SealApartSaid : Prop := sealApartRow.holds Tryd.pinned (OpenSpec.ofChange sealApartSpec)

/-- ITS FALSE NEIGHBOUR: 'it returns false'. Refute it at one input. -/
def sealApartWrong : ChangeSpec := { name := "sealApart", fn := fun _ => fun
  | [d1, d2, d3] => { results := [.lit (.bool false)], args := [d1, d2, d3] }
  | _ => none }
def SealApartWrongFalsely : Prop := sealApartRow.holds Tryd.pinned (OpenSpec.ofChange sealApartWrong)

/-- 'sidesticklaw15.DoorCounts': WHATEVER THE INPUT: true; the input reads as it did. -/
def doorCountsSpec : ChangeSpec := { name := "doorCounts", fn := fun _ => fun
  | [d1, d2, d3] => { results := [.lit (.bool true)], args := [d1, d2, d3] }
  | _ => none }
def doorCountsRow : OpenClaim := { program := "ytapednkmefbldaadoor", sum := "3d0171926dc26d5225bc5631a05dc885ebf6421b6c02a6aaabbcf9a9d82418df", func := "sidestick/sidesticklaw15.DoorCounts", spec := "doorCounts", named := ["sidestick/sha.roots"], apart := false, laid := [("sidestick/sha.roots", laid_sidestick_sha_roots)] }
def DoorCountsSaid : Prop := doorCountsRow.holds Tryd.pinned (OpenSpec.ofChange doorCountsSpec)

/-- ITS FALSE NEIGHBOUR: 'it returns false'. Refute it at one input. -/
def doorCountsWrong : ChangeSpec := { name := "doorCounts", fn := fun _ => fun
  | [d1, d2, d3] => { results := [.lit (.bool false)], args := [d1, d2, d3] }
  | _ => none }
def DoorCountsWrongFalsely : Prop := doorCountsRow.holds Tryd.pinned (OpenSpec.ofChange doorCountsWrong)

/-- 'sidesticklaw15.DoorRoles': WHATEVER THE INPUT: true; the input reads as it did. -/
def doorRolesSpec : ChangeSpec := { name := "doorRoles", fn := fun _ => fun
  | [d1, d2, d3] => { results := [.lit (.bool true)], args := [d1, d2, d3] }
  | _ => none }
def doorRolesRow : OpenClaim := { program := "ytapednkmefbldaadoor", sum := "3d0171926dc26d5225bc5631a05dc885ebf6421b6c02a6aaabbcf9a9d82418df", func := "sidestick/sidesticklaw15.DoorRoles", spec := "doorRoles", named := ["sidestick/sha.roots"], apart := false, laid := [("sidestick/sha.roots", laid_sidestick_sha_roots)] }
def DoorRolesSaid : Prop := doorRolesRow.holds Tryd.pinned (OpenSpec.ofChange doorRolesSpec)

/-- ITS FALSE NEIGHBOUR: 'it returns false'. Refute it at one input. -/
def doorRolesWrong : ChangeSpec := { name := "doorRoles", fn := fun _ => fun
  | [d1, d2, d3] => { results := [.lit (.bool false)], args := [d1, d2, d3] }
  | _ => none }
def DoorRolesWrongFalsely : Prop := doorRolesRow.holds Tryd.pinned (OpenSpec.ofChange doorRolesWrong)

/-- 'sidesticklaw16.TableFull': WHATEVER THE INPUT: true; the input reads as it did. -/
def tableFullSpec : ChangeSpec := { name := "tableFull", fn := fun _ => fun
  | [d1, d2, d3] => { results := [.lit (.bool true)], args := [d1, d2, d3] }
  | _ => none }
def tableFullRow : OpenClaim := { program := "ytapednkmefbldaadoor", sum := "3d0171926dc26d5225bc5631a05dc885ebf6421b6c02a6aaabbcf9a9d82418df", func := "sidestick/sidesticklaw16.TableFull", spec := "tableFull", unfollowed := true, recurses := true, named := ["sidestick/sha.roots"], apart := false, laid := [("sidestick/sha.roots", laid_sidestick_sha_roots)] }
def TableFullSaid : Prop := tableFullRow.holds Tryd.pinned (OpenSpec.ofChange tableFullSpec)

/-- ITS FALSE NEIGHBOUR: 'it returns false'. Refute it at one input. -/
def tableFullWrong : ChangeSpec := { name := "tableFull", fn := fun _ => fun
  | [d1, d2, d3] => { results := [.lit (.bool false)], args := [d1, d2, d3] }
  | _ => none }
def TableFullWrongFalsely : Prop := tableFullRow.holds Tryd.pinned (OpenSpec.ofChange tableFullWrong)

/-- 'sidesticklaw16.TableApart': WHATEVER THE INPUT: true; the input reads as it did. -/
def tableApartSpec : ChangeSpec := { name := "tableApart", fn := fun _ => fun
  | [d1, d2, d3] => { results := [.lit (.bool true)], args := [d1, d2, d3] }
  | _ => none }
def tableApartRow : OpenClaim := { program := "ytapednkmefbldaadoor", sum := "3d0171926dc26d5225bc5631a05dc885ebf6421b6c02a6aaabbcf9a9d82418df", func := "sidestick/sidesticklaw16.TableApart", spec := "tableApart", unfollowed := true, recurses := true, named := ["sidestick/sha.roots"], apart := false, laid := [("sidestick/sha.roots", laid_sidestick_sha_roots)] }
def TableApartSaid : Prop := tableApartRow.holds Tryd.pinned (OpenSpec.ofChange tableApartSpec)

/-- ITS FALSE NEIGHBOUR: 'it returns false'. Refute it at one input. -/
def tableApartWrong : ChangeSpec := { name := "tableApart", fn := fun _ => fun
  | [d1, d2, d3] => { results := [.lit (.bool false)], args := [d1, d2, d3] }
  | _ => none }
def TableApartWrongFalsely : Prop := tableApartRow.holds Tryd.pinned (OpenSpec.ofChange tableApartWrong)

/-- 'sidesticklaw16.TableRefuses': WHATEVER THE INPUT: true; the input reads as it did. -/
def tableRefusesSpec : ChangeSpec := { name := "tableRefuses", fn := fun _ => fun
  | [d1, d2, d3] => { results := [.lit (.bool true)], args := [d1, d2, d3] }
  | _ => none }
def tableRefusesRow : OpenClaim := { program := "ytapednkmefbldaadoor", sum := "3d0171926dc26d5225bc5631a05dc885ebf6421b6c02a6aaabbcf9a9d82418df", func := "sidestick/sidesticklaw16.TableRefuses", spec := "tableRefuses", unfollowed := true, recurses := true, named := ["sidestick/sha.roots"], apart := false, laid := [("sidestick/sha.roots", laid_sidestick_sha_roots)] }
def TableRefusesSaid : Prop := tableRefusesRow.holds Tryd.pinned (OpenSpec.ofChange tableRefusesSpec)

/-- ITS FALSE NEIGHBOUR: 'it returns false'. Refute it at one input. -/
def tableRefusesWrong : ChangeSpec := { name := "tableRefuses", fn := fun _ => fun
  | [d1, d2, d3] => { results := [.lit (.bool false)], args := [d1, d2, d3] }
  | _ => none }
def TableRefusesWrongFalsely : Prop := tableRefusesRow.holds Tryd.pinned (OpenSpec.ofChange tableRefusesWrong)

/- THE SECOND FORM. 'bulk': how many values and letters a reading holds, each counted each time it is reached (what is shared counts as often as it is met; a slice's spare places count too). A statement '..UptoSaid' is the law's where the arguments, and the package variables that the reading takes, are together of bulk at most 1048576: NARROWER than '..Said'. Prove '..Said' where nothing that the law and all that it calls make is longer than what came in: it says more and counts as full. Else prove '..UptoSaid'. A law counts once. -/
mutual
def uptoBulk {H : Type} : DataW H → Nat
  | .lit (.string bytes) => bytes.length + 1
  | .lit _ => 1
  | .nil => 1
  | .ptr d => uptoBulk d + 1
  | .slice elems spare => uptoBulkAll elems + uptoBulkAll spare + 1
  | .agg parts => uptoBulkAll parts + 1
  | .iface _ d => uptoBulk d + 1
  | .map entries => uptoBulkEntries entries + 1
  | .held _ => 1
def uptoBulkAll {H : Type} : List (DataW H) → Nat
  | [] => 0
  | d :: r => uptoBulk d + uptoBulkAll r
def uptoBulkEntries {H : Type} : List (Lit × DataW H) → Nat
  | [] => 0
  | x :: r => uptoBulkEntry x + uptoBulkEntries r
def uptoBulkEntry {H : Type} : Lit × DataW H → Nat
  | (.string bytes, d) => bytes.length + uptoBulk d + 1
  | (_, d) => uptoBulk d + 1
 end
def uptoSmall : (H : Type) → List (DataW H) → Bool := fun _ ds => decide (uptoBulkAll ds ≤ 1048576)
def OpenSpec.upto (s : _root_.Go.ChangeSpec) : _root_.Go.OpenSpec := { _root_.Go.OpenSpec.ofChange s with cond := some uptoSmall }

/-- 'sidesticklaw09.SealTags', WHERE WHAT IT READS IS OF BULK AT MOST 1048576: true; the input reads as it did. -/
def sealTagsUptoRow : OpenClaim := { program := "ytapednkmefbldaadoor", sum := "3d0171926dc26d5225bc5631a05dc885ebf6421b6c02a6aaabbcf9a9d82418df", func := "sidestick/sidesticklaw09.SealTags", spec := "sealTags", named := ["sidestick/sha.roots"], apart := false, laid := [("sidestick/sha.roots", laid_sidestick_sha_roots)], narrowed := true }
def SealTagsUptoSaid : Prop := sealTagsUptoRow.holds Tryd.pinned (OpenSpec.upto sealTagsSpec)

/-- 'sidesticklaw09.SealApart', WHERE WHAT IT READS IS OF BULK AT MOST 1048576: true; the input reads as it did. -/
def sealApartUptoRow : OpenClaim := { program := "ytapednkmefbldaadoor", sum := "3d0171926dc26d5225bc5631a05dc885ebf6421b6c02a6aaabbcf9a9d82418df", func := "sidestick/sidesticklaw09.SealApart", spec := "sealApart", named := ["sidestick/sha.roots"], apart := false, laid := [("sidestick/sha.roots", laid_sidestick_sha_roots)], narrowed := true }
def SealApartUptoSaid : Prop := sealApartUptoRow.holds Tryd.pinned (OpenSpec.upto sealApartSpec)

/-- 'sidesticklaw15.DoorCounts', WHERE WHAT IT READS IS OF BULK AT MOST 1048576: true; the input reads as it did. -/
def doorCountsUptoRow : OpenClaim := { program := "ytapednkmefbldaadoor", sum := "3d0171926dc26d5225bc5631a05dc885ebf6421b6c02a6aaabbcf9a9d82418df", func := "sidestick/sidesticklaw15.DoorCounts", spec := "doorCounts", named := ["sidestick/sha.roots"], apart := false, laid := [("sidestick/sha.roots", laid_sidestick_sha_roots)], narrowed := true }
def DoorCountsUptoSaid : Prop := doorCountsUptoRow.holds Tryd.pinned (OpenSpec.upto doorCountsSpec)

/-- 'sidesticklaw15.DoorRoles', WHERE WHAT IT READS IS OF BULK AT MOST 1048576: true; the input reads as it did. -/
def doorRolesUptoRow : OpenClaim := { program := "ytapednkmefbldaadoor", sum := "3d0171926dc26d5225bc5631a05dc885ebf6421b6c02a6aaabbcf9a9d82418df", func := "sidestick/sidesticklaw15.DoorRoles", spec := "doorRoles", named := ["sidestick/sha.roots"], apart := false, laid := [("sidestick/sha.roots", laid_sidestick_sha_roots)], narrowed := true }
def DoorRolesUptoSaid : Prop := doorRolesUptoRow.holds Tryd.pinned (OpenSpec.upto doorRolesSpec)

/-- 'sidesticklaw16.TableFull', WHERE WHAT IT READS IS OF BULK AT MOST 1048576: true; the input reads as it did. -/
def tableFullUptoRow : OpenClaim := { program := "ytapednkmefbldaadoor", sum := "3d0171926dc26d5225bc5631a05dc885ebf6421b6c02a6aaabbcf9a9d82418df", func := "sidestick/sidesticklaw16.TableFull", spec := "tableFull", unfollowed := true, recurses := true, named := ["sidestick/sha.roots"], apart := false, laid := [("sidestick/sha.roots", laid_sidestick_sha_roots)], narrowed := true }
def TableFullUptoSaid : Prop := tableFullUptoRow.holds Tryd.pinned (OpenSpec.upto tableFullSpec)

/-- 'sidesticklaw16.TableApart', WHERE WHAT IT READS IS OF BULK AT MOST 1048576: true; the input reads as it did. -/
def tableApartUptoRow : OpenClaim := { program := "ytapednkmefbldaadoor", sum := "3d0171926dc26d5225bc5631a05dc885ebf6421b6c02a6aaabbcf9a9d82418df", func := "sidestick/sidesticklaw16.TableApart", spec := "tableApart", unfollowed := true, recurses := true, named := ["sidestick/sha.roots"], apart := false, laid := [("sidestick/sha.roots", laid_sidestick_sha_roots)], narrowed := true }
def TableApartUptoSaid : Prop := tableApartUptoRow.holds Tryd.pinned (OpenSpec.upto tableApartSpec)

/-- 'sidesticklaw16.TableRefuses', WHERE WHAT IT READS IS OF BULK AT MOST 1048576: true; the input reads as it did. -/
def tableRefusesUptoRow : OpenClaim := { program := "ytapednkmefbldaadoor", sum := "3d0171926dc26d5225bc5631a05dc885ebf6421b6c02a6aaabbcf9a9d82418df", func := "sidestick/sidesticklaw16.TableRefuses", spec := "tableRefuses", unfollowed := true, recurses := true, named := ["sidestick/sha.roots"], apart := false, laid := [("sidestick/sha.roots", laid_sidestick_sha_roots)], narrowed := true }
def TableRefusesUptoSaid : Prop := tableRefusesUptoRow.holds Tryd.pinned (OpenSpec.upto tableRefusesSpec)

end Rows
end Go.Proofs.YtapednkmefbldaaDoor
