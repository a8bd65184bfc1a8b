/-
  NARROWER THAN 'FOR EVERY INPUT', by the rows' own cells (each row's printed sentence says how): ShaAll: laid · ShaPads: laid · ShaBlocks: laid · MacMade: laid · MacAll: laid · MacKeys: laid · MacTags: laid · ChainParts: laid · ChainBytes: laid · ChainSums: laid.
  DERIVED. THE GIVEN ROWS OF THIS SEAT. 10 by the template 'for every input the law returns true; each argument reads behind the call as it read before'; 0 by the template 'total and deterministic' (their statements: YtalekcpdkfdmaaaDoorTotals.lean).
  GIVEN WITH THE SEED: the statements are not yours to turn. If you find one false, say at which input.
  Laid BY PROGRAM, IN A SANDBOX (cutbox-rows.mjs): the forced cells as the released guide's own fill.sh prints them over the translation fefd16a713679214… (all of the seat's roots in one cut). By AI agents, Wed Nov 11 2026. No macro, syntax, notation, axiom, sorry.
-/
import Derived.Test.YtalekcpdkfdmaaaDoorChecked
import GoSem.Claim
import GoSem.ClaimJoined
import GoSem.ClaimMapViews
import Derived.JoinedTies
import Derived.KernelRfl
namespace Go.Proofs.YtalekcpdkfdmaaaDoor
/- THE CELL 'sum', in the pinned program and in every row, IS THE sha256 OF THE DUMP (.gsa) THAT YtalekcpdkfdmaaaDoorProg.lean LOADS. Nothing in Lean hashes anything: it is a label: what it is worth is what the hold of that sum in a sandbox is worth. -/
noncomputable def Tryd.pinned : Pinned := { name := "ytalekcpdkfdmaaadoor", sum := "fefd16a71367921488882ddc6b481c4c791e50342c7eae397c7c4c08b53c19dc", checked := Tryd.checked }
namespace Rows
def none {H : Type} : Left H := { results := [], args := [] }

/- WHAT THE LISTED PACKAGE-LEVEL VARIABLES READ AS WHEN THE CALL BEGINS. Each datum BY PROGRAM (the guide's laid-datum.mjs) off the statement by which the dump's own 'gosem.cut.vars' lays the variable. In a bare row this is a premise. The card (YtalekcpdkfdmaaaDoorCards.lean) ties it to the program's text. -/
def laid_sidestick_sha_roots {H : Type} : DataW H := .agg [.lit (.int .u32 1116352408), .lit (.int .u32 1899447441), .lit (.int .u32 3049323471), .lit (.int .u32 3921009573), .lit (.int .u32 961987163), .lit (.int .u32 1508970993), .lit (.int .u32 2453635748), .lit (.int .u32 2870763221), .lit (.int .u32 3624381080), .lit (.int .u32 310598401), .lit (.int .u32 607225278), .lit (.int .u32 1426881987), .lit (.int .u32 1925078388), .lit (.int .u32 2162078206), .lit (.int .u32 2614888103), .lit (.int .u32 3248222580), .lit (.int .u32 3835390401), .lit (.int .u32 4022224774), .lit (.int .u32 264347078), .lit (.int .u32 604807628), .lit (.int .u32 770255983), .lit (.int .u32 1249150122), .lit (.int .u32 1555081692), .lit (.int .u32 1996064986), .lit (.int .u32 2554220882), .lit (.int .u32 2821834349), .lit (.int .u32 2952996808), .lit (.int .u32 3210313671), .lit (.int .u32 3336571891), .lit (.int .u32 3584528711), .lit (.int .u32 113926993), .lit (.int .u32 338241895), .lit (.int .u32 666307205), .lit (.int .u32 773529912), .lit (.int .u32 1294757372), .lit (.int .u32 1396182291), .lit (.int .u32 1695183700), .lit (.int .u32 1986661051), .lit (.int .u32 2177026350), .lit (.int .u32 2456956037), .lit (.int .u32 2730485921), .lit (.int .u32 2820302411), .lit (.int .u32 3259730800), .lit (.int .u32 3345764771), .lit (.int .u32 3516065817), .lit (.int .u32 3600352804), .lit (.int .u32 4094571909), .lit (.int .u32 275423344), .lit (.int .u32 430227734), .lit (.int .u32 506948616), .lit (.int .u32 659060556), .lit (.int .u32 883997877), .lit (.int .u32 958139571), .lit (.int .u32 1322822218), .lit (.int .u32 1537002063), .lit (.int .u32 1747873779), .lit (.int .u32 1955562222), .lit (.int .u32 2024104815), .lit (.int .u32 2227730452), .lit (.int .u32 2361852424), .lit (.int .u32 2428436474), .lit (.int .u32 2756734187), .lit (.int .u32 3204031479), .lit (.int .u32 3329325298)]

/-- 'sidesticklaw04.ShaAll': WHATEVER THE INPUT: true; the input reads as it did. -/
def shaAllSpec : ChangeSpec := { name := "shaAll", fn := fun _ => fun
  | [d1, d2, d3] => { results := [.lit (.bool true)], args := [d1, d2, d3] }
  | _ => none }
def shaAllRow : OpenClaim := { program := "ytalekcpdkfdmaaadoor", sum := "fefd16a71367921488882ddc6b481c4c791e50342c7eae397c7c4c08b53c19dc", func := "sidestick/sidesticklaw04.ShaAll", spec := "shaAll", named := ["sidestick/sha.roots"], apart := false, laid := [("sidestick/sha.roots", laid_sidestick_sha_roots)] }
def ShaAllSaid : Prop := shaAllRow.holds Tryd.pinned (OpenSpec.ofChange shaAllSpec)

/-- ITS FALSE NEIGHBOUR: 'it returns false'. Refute it at one input. -/
def shaAllWrong : ChangeSpec := { name := "shaAll", fn := fun _ => fun
  | [d1, d2, d3] => { results := [.lit (.bool false)], args := [d1, d2, d3] }
  | _ => none }
def ShaAllWrongFalsely : Prop := shaAllRow.holds Tryd.pinned (OpenSpec.ofChange shaAllWrong)

/-- 'sidesticklaw04.ShaPads': WHATEVER THE INPUT: true; the input reads as it did. -/
def shaPadsSpec : ChangeSpec := { name := "shaPads", fn := fun _ => fun
  | [d1, d2] => { results := [.lit (.bool true)], args := [d1, d2] }
  | _ => none }
def shaPadsRow : OpenClaim := { program := "ytalekcpdkfdmaaadoor", sum := "fefd16a71367921488882ddc6b481c4c791e50342c7eae397c7c4c08b53c19dc", func := "sidestick/sidesticklaw04.ShaPads", spec := "shaPads", named := ["sidestick/sha.roots"], apart := false, laid := [("sidestick/sha.roots", laid_sidestick_sha_roots)] }
def ShaPadsSaid : Prop := shaPadsRow.holds Tryd.pinned (OpenSpec.ofChange shaPadsSpec)

/-- ITS FALSE NEIGHBOUR: 'it returns false'. Refute it at one input. -/
def shaPadsWrong : ChangeSpec := { name := "shaPads", fn := fun _ => fun
  | [d1, d2] => { results := [.lit (.bool false)], args := [d1, d2] }
  | _ => none }
def ShaPadsWrongFalsely : Prop := shaPadsRow.holds Tryd.pinned (OpenSpec.ofChange shaPadsWrong)

/-- 'sidesticklaw04.ShaBlocks': WHATEVER THE INPUT: true; the input reads as it did. -/
def shaBlocksSpec : ChangeSpec := { name := "shaBlocks", fn := fun _ => fun
  | [d] => { results := [.lit (.bool true)], args := [d] }
  | _ => none }
def shaBlocksRow : OpenClaim := { program := "ytalekcpdkfdmaaadoor", sum := "fefd16a71367921488882ddc6b481c4c791e50342c7eae397c7c4c08b53c19dc", func := "sidestick/sidesticklaw04.ShaBlocks", spec := "shaBlocks", named := ["sidestick/sha.roots"], apart := false, laid := [("sidestick/sha.roots", laid_sidestick_sha_roots)] }
def ShaBlocksSaid : Prop := shaBlocksRow.holds Tryd.pinned (OpenSpec.ofChange shaBlocksSpec)

/-- ITS FALSE NEIGHBOUR: 'it returns false'. Refute it at one input. -/
def shaBlocksWrong : ChangeSpec := { name := "shaBlocks", fn := fun _ => fun
  | [d] => { results := [.lit (.bool false)], args := [d] }
  | _ => none }
def ShaBlocksWrongFalsely : Prop := shaBlocksRow.holds Tryd.pinned (OpenSpec.ofChange shaBlocksWrong)

/-- 'sidesticklaw05.MacMade': WHATEVER THE INPUT: true; the input reads as it did. -/
def macMadeSpec : ChangeSpec := { name := "macMade", fn := fun _ => fun
  | [d1, d2] => { results := [.lit (.bool true)], args := [d1, d2] }
  | _ => none }
def macMadeRow : OpenClaim := { program := "ytalekcpdkfdmaaadoor", sum := "fefd16a71367921488882ddc6b481c4c791e50342c7eae397c7c4c08b53c19dc", func := "sidestick/sidesticklaw05.MacMade", spec := "macMade", named := ["sidestick/sha.roots"], apart := false, laid := [("sidestick/sha.roots", laid_sidestick_sha_roots)] }
def MacMadeSaid : Prop := macMadeRow.holds Tryd.pinned (OpenSpec.ofChange macMadeSpec)

/-- ITS FALSE NEIGHBOUR: 'it returns false'. Refute it at one input. -/
def macMadeWrong : ChangeSpec := { name := "macMade", fn := fun _ => fun
  | [d1, d2] => { results := [.lit (.bool false)], args := [d1, d2] }
  | _ => none }
def MacMadeWrongFalsely : Prop := macMadeRow.holds Tryd.pinned (OpenSpec.ofChange macMadeWrong)

/-- 'sidesticklaw05.MacAll': WHATEVER THE INPUT: true; the input reads as it did. -/
def macAllSpec : ChangeSpec := { name := "macAll", fn := fun _ => fun
  | [d1, d2] => { results := [.lit (.bool true)], args := [d1, d2] }
  | _ => none }
def macAllRow : OpenClaim := { program := "ytalekcpdkfdmaaadoor", sum := "fefd16a71367921488882ddc6b481c4c791e50342c7eae397c7c4c08b53c19dc", func := "sidestick/sidesticklaw05.MacAll", spec := "macAll", named := ["sidestick/sha.roots"], apart := false, laid := [("sidestick/sha.roots", laid_sidestick_sha_roots)] }
def MacAllSaid : Prop := macAllRow.holds Tryd.pinned (OpenSpec.ofChange macAllSpec)

/-- ITS FALSE NEIGHBOUR: 'it returns false'. Refute it at one input. -/
def macAllWrong : ChangeSpec := { name := "macAll", fn := fun _ => fun
  | [d1, d2] => { results := [.lit (.bool false)], args := [d1, d2] }
  | _ => none }
def MacAllWrongFalsely : Prop := macAllRow.holds Tryd.pinned (OpenSpec.ofChange macAllWrong)

/-- 'sidesticklaw05.MacKeys': WHATEVER THE INPUT: true; the input reads as it did. -/
def macKeysSpec : ChangeSpec := { name := "macKeys", fn := fun _ => fun
  | [d1, d2, d3] => { results := [.lit (.bool true)], args := [d1, d2, d3] }
  | _ => none }
def macKeysRow : OpenClaim := { program := "ytalekcpdkfdmaaadoor", sum := "fefd16a71367921488882ddc6b481c4c791e50342c7eae397c7c4c08b53c19dc", func := "sidestick/sidesticklaw05.MacKeys", spec := "macKeys", named := ["sidestick/sha.roots"], apart := false, laid := [("sidestick/sha.roots", laid_sidestick_sha_roots)] }
def MacKeysSaid : Prop := macKeysRow.holds Tryd.pinned (OpenSpec.ofChange macKeysSpec)

/-- ITS FALSE NEIGHBOUR: 'it returns false'. Refute it at one input. -/
def macKeysWrong : ChangeSpec := { name := "macKeys", fn := fun _ => fun
  | [d1, d2, d3] => { results := [.lit (.bool false)], args := [d1, d2, d3] }
  | _ => none }
def MacKeysWrongFalsely : Prop := macKeysRow.holds Tryd.pinned (OpenSpec.ofChange macKeysWrong)

/-- 'sidesticklaw05.MacTags': WHATEVER THE INPUT: true; the input reads as it did. -/
def macTagsSpec : ChangeSpec := { name := "macTags", fn := fun _ => fun
  | [d1, d2, d3] => { results := [.lit (.bool true)], args := [d1, d2, d3] }
  | _ => none }
def macTagsRow : OpenClaim := { program := "ytalekcpdkfdmaaadoor", sum := "fefd16a71367921488882ddc6b481c4c791e50342c7eae397c7c4c08b53c19dc", func := "sidestick/sidesticklaw05.MacTags", spec := "macTags", named := ["sidestick/sha.roots"], apart := false, laid := [("sidestick/sha.roots", laid_sidestick_sha_roots)] }
def MacTagsSaid : Prop := macTagsRow.holds Tryd.pinned (OpenSpec.ofChange macTagsSpec)

/-- ITS FALSE NEIGHBOUR: 'it returns false'. Refute it at one input. -/
def macTagsWrong : ChangeSpec := { name := "macTags", fn := fun _ => fun
  | [d1, d2, d3] => { results := [.lit (.bool false)], args := [d1, d2, d3] }
  | _ => none }
def MacTagsWrongFalsely : Prop := macTagsRow.holds Tryd.pinned (OpenSpec.ofChange macTagsWrong)

/-- 'sidesticklaw23.ChainParts': WHATEVER THE INPUT: true; the input reads as it did. -/
def chainPartsSpec : ChangeSpec := { name := "chainParts", fn := fun _ => fun
  | [d1, d2] => { results := [.lit (.bool true)], args := [d1, d2] }
  | _ => none }
def chainPartsRow : OpenClaim := { program := "ytalekcpdkfdmaaadoor", sum := "fefd16a71367921488882ddc6b481c4c791e50342c7eae397c7c4c08b53c19dc", func := "sidestick/sidesticklaw23.ChainParts", spec := "chainParts", named := ["sidestick/sha.roots"], apart := false, laid := [("sidestick/sha.roots", laid_sidestick_sha_roots)] }
def ChainPartsSaid : Prop := chainPartsRow.holds Tryd.pinned (OpenSpec.ofChange chainPartsSpec)

/-- ITS FALSE NEIGHBOUR: 'it returns false'. Refute it at one input. -/
def chainPartsWrong : ChangeSpec := { name := "chainParts", fn := fun _ => fun
  | [d1, d2] => { results := [.lit (.bool false)], args := [d1, d2] }
  | _ => none }
def ChainPartsWrongFalsely : Prop := chainPartsRow.holds Tryd.pinned (OpenSpec.ofChange chainPartsWrong)

/-- 'sidesticklaw23.ChainBytes': WHATEVER THE INPUT: true; the input reads as it did. -/
def chainBytesSpec : ChangeSpec := { name := "chainBytes", fn := fun _ => fun
  | [d1, d2, d3] => { results := [.lit (.bool true)], args := [d1, d2, d3] }
  | _ => none }
def chainBytesRow : OpenClaim := { program := "ytalekcpdkfdmaaadoor", sum := "fefd16a71367921488882ddc6b481c4c791e50342c7eae397c7c4c08b53c19dc", func := "sidestick/sidesticklaw23.ChainBytes", spec := "chainBytes", named := ["sidestick/sha.roots"], apart := false, laid := [("sidestick/sha.roots", laid_sidestick_sha_roots)] }
def ChainBytesSaid : Prop := chainBytesRow.holds Tryd.pinned (OpenSpec.ofChange chainBytesSpec)

/-- ITS FALSE NEIGHBOUR: 'it returns false'. Refute it at one input. -/
def chainBytesWrong : ChangeSpec := { name := "chainBytes", fn := fun _ => fun
  | [d1, d2, d3] => { results := [.lit (.bool false)], args := [d1, d2, d3] }
  | _ => none }
def ChainBytesWrongFalsely : Prop := chainBytesRow.holds Tryd.pinned (OpenSpec.ofChange chainBytesWrong)

/-- 'sidesticklaw23.ChainSums': WHATEVER THE INPUT: true; the input reads as it did. -/
def chainSumsSpec : ChangeSpec := { name := "chainSums", fn := fun _ => fun
  | [d1, d2, d3] => { results := [.lit (.bool true)], args := [d1, d2, d3] }
  | _ => none }
def chainSumsRow : OpenClaim := { program := "ytalekcpdkfdmaaadoor", sum := "fefd16a71367921488882ddc6b481c4c791e50342c7eae397c7c4c08b53c19dc", func := "sidestick/sidesticklaw23.ChainSums", spec := "chainSums", named := ["sidestick/sha.roots"], apart := false, laid := [("sidestick/sha.roots", laid_sidestick_sha_roots)] }
def ChainSumsSaid : Prop := chainSumsRow.holds Tryd.pinned (OpenSpec.ofChange chainSumsSpec)

/-- ITS FALSE NEIGHBOUR: 'it returns false'. Refute it at one input. -/
def chainSumsWrong : ChangeSpec := { name := "chainSums", fn := fun _ => fun
  | [d1, d2, d3] => { results := [.lit (.bool false)], args := [d1, d2, d3] }
  | _ => none }
def ChainSumsWrongFalsely : Prop := chainSumsRow.holds Tryd.pinned (OpenSpec.ofChange chainSumsWrong)

/- THE SECOND FORM. 'bulk': how many values and letters a reading holds, each counted each time it is reached (what is shared counts as often as it is met; a slice's spare places count too). A statement '..UptoSaid' is the law's where the arguments, and the package variables that the reading takes, are together of bulk at most 1048576: NARROWER than '..Said'. Prove '..Said' where nothing that the law and all that it calls make is longer than what came in: it says more and counts as full. Else prove '..UptoSaid'. A law counts once. -/
mutual
def uptoBulk {H : Type} : DataW H → Nat
  | .lit (.string bytes) => bytes.length + 1
  | .lit _ => 1
  | .nil => 1
  | .ptr d => uptoBulk d + 1
  | .slice elems spare => uptoBulkAll elems + uptoBulkAll spare + 1
  | .agg parts => uptoBulkAll parts + 1
  | .iface _ d => uptoBulk d + 1
  | .map entries => uptoBulkEntries entries + 1
  | .held _ => 1
def uptoBulkAll {H : Type} : List (DataW H) → Nat
  | [] => 0
  | d :: r => uptoBulk d + uptoBulkAll r
def uptoBulkEntries {H : Type} : List (Lit × DataW H) → Nat
  | [] => 0
  | x :: r => uptoBulkEntry x + uptoBulkEntries r
def uptoBulkEntry {H : Type} : Lit × DataW H → Nat
  | (.string bytes, d) => bytes.length + uptoBulk d + 1
  | (_, d) => uptoBulk d + 1
 end
def uptoSmall : (H : Type) → List (DataW H) → Bool := fun _ ds => decide (uptoBulkAll ds ≤ 1048576)
def OpenSpec.upto (s : _root_.Go.ChangeSpec) : _root_.Go.OpenSpec := { _root_.Go.OpenSpec.ofChange s with cond := some uptoSmall }

/-- 'sidesticklaw04.ShaAll', WHERE WHAT IT READS IS OF BULK AT MOST 1048576: true; the input reads as it did. -/
def shaAllUptoRow : OpenClaim := { program := "ytalekcpdkfdmaaadoor", sum := "fefd16a71367921488882ddc6b481c4c791e50342c7eae397c7c4c08b53c19dc", func := "sidestick/sidesticklaw04.ShaAll", spec := "shaAll", named := ["sidestick/sha.roots"], apart := false, laid := [("sidestick/sha.roots", laid_sidestick_sha_roots)], narrowed := true }
def ShaAllUptoSaid : Prop := shaAllUptoRow.holds Tryd.pinned (OpenSpec.upto shaAllSpec)

/-- 'sidesticklaw04.ShaPads', WHERE WHAT IT READS IS OF BULK AT MOST 1048576: true; the input reads as it did. -/
def shaPadsUptoRow : OpenClaim := { program := "ytalekcpdkfdmaaadoor", sum := "fefd16a71367921488882ddc6b481c4c791e50342c7eae397c7c4c08b53c19dc", func := "sidestick/sidesticklaw04.ShaPads", spec := "shaPads", named := ["sidestick/sha.roots"], apart := false, laid := [("sidestick/sha.roots", laid_sidestick_sha_roots)], narrowed := true }
def ShaPadsUptoSaid : Prop := shaPadsUptoRow.holds Tryd.pinned (OpenSpec.upto shaPadsSpec)

/-- 'sidesticklaw04.ShaBlocks', WHERE WHAT IT READS IS OF BULK AT MOST 1048576: true; the input reads as it did. -/
def shaBlocksUptoRow : OpenClaim := { program := "ytalekcpdkfdmaaadoor", sum := "fefd16a71367921488882ddc6b481c4c791e50342c7eae397c7c4c08b53c19dc", func := "sidestick/sidesticklaw04.ShaBlocks", spec := "shaBlocks", named := ["sidestick/sha.roots"], apart := false, laid := [("sidestick/sha.roots", laid_sidestick_sha_roots)], narrowed := true }
def ShaBlocksUptoSaid : Prop := shaBlocksUptoRow.holds Tryd.pinned (OpenSpec.upto shaBlocksSpec)

/-- 'sidesticklaw05.MacMade', WHERE WHAT IT READS IS OF BULK AT MOST 1048576: true; the input reads as it did. -/
def macMadeUptoRow : OpenClaim := { program := "ytalekcpdkfdmaaadoor", sum := "fefd16a71367921488882ddc6b481c4c791e50342c7eae397c7c4c08b53c19dc", func := "sidestick/sidesticklaw05.MacMade", spec := "macMade", named := ["sidestick/sha.roots"], apart := false, laid := [("sidestick/sha.roots", laid_sidestick_sha_roots)], narrowed := true }
def MacMadeUptoSaid : Prop := macMadeUptoRow.holds Tryd.pinned (OpenSpec.upto macMadeSpec)

/-- 'sidesticklaw05.MacAll', WHERE WHAT IT READS IS OF BULK AT MOST 1048576: true; the input reads as it did. -/
def macAllUptoRow : OpenClaim := { program := "ytalekcpdkfdmaaadoor", sum := "fefd16a71367921488882ddc6b481c4c791e50342c7eae397c7c4c08b53c19dc", func := "sidestick/sidesticklaw05.MacAll", spec := "macAll", named := ["sidestick/sha.roots"], apart := false, laid := [("sidestick/sha.roots", laid_sidestick_sha_roots)], narrowed := true }
def MacAllUptoSaid : Prop := macAllUptoRow.holds Tryd.pinned (OpenSpec.upto macAllSpec)

/-- 'sidesticklaw05.MacKeys', WHERE WHAT IT READS IS OF BULK AT MOST 1048576: true; the input reads as it did. -/
def macKeysUptoRow : OpenClaim := { program := "ytalekcpdkfdmaaadoor", sum := "fefd16a71367921488882ddc6b481c4c791e50342c7eae397c7c4c08b53c19dc", func := "sidestick/sidesticklaw05.MacKeys", spec := "macKeys", named := ["sidestick/sha.roots"], apart := false, laid := [("sidestick/sha.roots", laid_sidestick_sha_roots)], narrowed := true }
def MacKeysUptoSaid : Prop := macKeysUptoRow.holds Tryd.pinned (OpenSpec.upto macKeysSpec)

/-- 'sidesticklaw05.MacTags', WHERE WHAT IT READS IS OF BULK AT MOST 1048576: true; the input reads as it did. -/
def macTagsUptoRow : OpenClaim := { program := "ytalekcpdkfdmaaadoor", sum := "fefd16a71367921488882ddc6b481c4c791e50342c7eae397c7c4c08b53c19dc", func := "sidestick/sidesticklaw05.MacTags", spec := "macTags", named := ["sidestick/sha.roots"], apart := false, laid := [("sidestick/sha.roots", laid_sidestick_sha_roots)], narrowed := true }
def MacTagsUptoSaid : Prop := macTagsUptoRow.holds Tryd.pinned (OpenSpec.upto macTagsSpec)

/-- 'sidesticklaw23.ChainParts', WHERE WHAT IT READS IS OF BULK AT MOST 1048576: true; the input reads as it did. -/
def chainPartsUptoRow : OpenClaim := { program := "ytalekcpdkfdmaaadoor", sum := "fefd16a71367921488882ddc6b481c4c791e50342c7eae397c7c4c08b53c19dc", func := "sidestick/sidesticklaw23.ChainParts", spec := "chainParts", named := ["sidestick/sha.roots"], apart := false, laid := [("sidestick/sha.roots", laid_sidestick_sha_roots)], narrowed := true }
def ChainPartsUptoSaid : Prop := chainPartsUptoRow.holds Tryd.pinned (OpenSpec.upto chainPartsSpec)

/-- 'sidesticklaw23.ChainBytes', WHERE WHAT IT READS IS OF BULK AT MOST 1048576: true; the input reads as it did. -/
def chainBytesUptoRow : OpenClaim := { program := "ytalekcpdkfdmaaadoor", sum := "fefd16a71367921488882ddc6b481c4c791e50342c7eae397c7c4c08b53c19dc", func := "sidestick/sidesticklaw23.ChainBytes", spec := "chainBytes", named := ["sidestick/sha.roots"], apart := false, laid := [("sidestick/sha.roots", laid_sidestick_sha_roots)], narrowed := true }
def ChainBytesUptoSaid : Prop := chainBytesUptoRow.holds Tryd.pinned (OpenSpec.upto chainBytesSpec)

/-- 'sidesticklaw23.ChainSums', WHERE WHAT IT READS IS OF BULK AT MOST 1048576: true; the input reads as it did. -/
def chainSumsUptoRow : OpenClaim := { program := "ytalekcpdkfdmaaadoor", sum := "fefd16a71367921488882ddc6b481c4c791e50342c7eae397c7c4c08b53c19dc", func := "sidestick/sidesticklaw23.ChainSums", spec := "chainSums", named := ["sidestick/sha.roots"], apart := false, laid := [("sidestick/sha.roots", laid_sidestick_sha_roots)], narrowed := true }
def ChainSumsUptoSaid : Prop := chainSumsUptoRow.holds Tryd.pinned (OpenSpec.upto chainSumsSpec)

end Rows
end Go.Proofs.YtalekcpdkfdmaaaDoor
