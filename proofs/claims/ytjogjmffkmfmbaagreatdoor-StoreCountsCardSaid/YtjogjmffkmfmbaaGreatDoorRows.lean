/-
  NARROWER THAN 'FOR EVERY INPUT', by the rows' own cells (each row's printed sentence says how): CursorAny: laid · ProofBuilds: laid · ProofSound: laid · ProofOne: laid · ProofTurned: laid · ProofShort: laid · StoreDoes: laid · StoreCounts: laid.
  DERIVED. THE GIVEN ROWS OF THIS SEAT. 8 by the template 'for every input the law returns true; each argument reads behind the call as it read before'; 0 by the template 'total and deterministic' (their statements: YtjogjmffkmfmbaaGreatDoorTotals.lean).
  GIVEN WITH THE SEED: the statements are not yours to turn. If you find one false, say at which input.
  Laid BY PROGRAM, IN A SANDBOX (cutbox-rows.mjs): the forced cells as the released guide's own fill.sh prints them over the translation b8dac127a70c8815… (all of the seat's roots in one cut). By AI agents, Wed Nov 11 2026. No macro, syntax, notation, axiom, sorry.
-/
import Derived.Test.YtjogjmffkmfmbaaGreatDoorChecked
import GoSem.Claim
import GoSem.ClaimJoined
import GoSem.ClaimMapViews
import Derived.JoinedTies
import Derived.KernelRfl
namespace Go.Proofs.YtjogjmffkmfmbaaGreatDoor
/- THE CELL 'sum', in the pinned program and in every row, IS THE sha256 OF THE DUMP (.gsa) THAT YtjogjmffkmfmbaaGreatDoorProg.lean LOADS. Nothing in Lean hashes anything: it is a label: what it is worth is what the hold of that sum in a sandbox is worth. -/
noncomputable def Tryz.pinned : Pinned := { name := "ytjogjmffkmfmbaagreatdoor", sum := "b8dac127a70c88155398ed6f4cd12b56806239f27c8dccb7d5d09004519ed731", checked := Tryz.checked }
namespace Rows
def none {H : Type} : Left H := { results := [], args := [] }

/- WHAT THE LISTED PACKAGE-LEVEL VARIABLES READ AS WHEN THE CALL BEGINS. Each datum BY PROGRAM (the guide's laid-datum.mjs) off the statement by which the dump's own 'gosem.cut.vars' lays the variable. In a bare row this is a premise. The card (YtjogjmffkmfmbaaGreatDoorCards.lean) ties it to the program's text. -/
def laid_errors_errorType {H : Type} : DataW H := .iface "internal/reflectlite.rtype" (.agg [.ptr (.lit (.string [101, 114, 114, 111, 114]))])
def laid_guilloche_sha_cubes {H : Type} : DataW H := .agg [.lit (.int .u32 1116352408), .lit (.int .u32 1899447441), .lit (.int .u32 3049323471), .lit (.int .u32 3921009573), .lit (.int .u32 961987163), .lit (.int .u32 1508970993), .lit (.int .u32 2453635748), .lit (.int .u32 2870763221), .lit (.int .u32 3624381080), .lit (.int .u32 310598401), .lit (.int .u32 607225278), .lit (.int .u32 1426881987), .lit (.int .u32 1925078388), .lit (.int .u32 2162078206), .lit (.int .u32 2614888103), .lit (.int .u32 3248222580), .lit (.int .u32 3835390401), .lit (.int .u32 4022224774), .lit (.int .u32 264347078), .lit (.int .u32 604807628), .lit (.int .u32 770255983), .lit (.int .u32 1249150122), .lit (.int .u32 1555081692), .lit (.int .u32 1996064986), .lit (.int .u32 2554220882), .lit (.int .u32 2821834349), .lit (.int .u32 2952996808), .lit (.int .u32 3210313671), .lit (.int .u32 3336571891), .lit (.int .u32 3584528711), .lit (.int .u32 113926993), .lit (.int .u32 338241895), .lit (.int .u32 666307205), .lit (.int .u32 773529912), .lit (.int .u32 1294757372), .lit (.int .u32 1396182291), .lit (.int .u32 1695183700), .lit (.int .u32 1986661051), .lit (.int .u32 2177026350), .lit (.int .u32 2456956037), .lit (.int .u32 2730485921), .lit (.int .u32 2820302411), .lit (.int .u32 3259730800), .lit (.int .u32 3345764771), .lit (.int .u32 3516065817), .lit (.int .u32 3600352804), .lit (.int .u32 4094571909), .lit (.int .u32 275423344), .lit (.int .u32 430227734), .lit (.int .u32 506948616), .lit (.int .u32 659060556), .lit (.int .u32 883997877), .lit (.int .u32 958139571), .lit (.int .u32 1322822218), .lit (.int .u32 1537002063), .lit (.int .u32 1747873779), .lit (.int .u32 1955562222), .lit (.int .u32 2024104815), .lit (.int .u32 2227730452), .lit (.int .u32 2361852424), .lit (.int .u32 2428436474), .lit (.int .u32 2756734187), .lit (.int .u32 3204031479), .lit (.int .u32 3329325298)]

/-- 'guillochelaw09.CursorAny': WHATEVER THE INPUT: true; the input reads as it did. -/
def cursorAnySpec : ChangeSpec := { name := "cursorAny", fn := fun _ => fun
  | [d1, d2, d3, d4] => { results := [.lit (.bool true)], args := [d1, d2, d3, d4] }
  | _ => none }
def cursorAnyRow : OpenClaim := { program := "ytjogjmffkmfmbaagreatdoor", sum := "b8dac127a70c88155398ed6f4cd12b56806239f27c8dccb7d5d09004519ed731", func := "guilloche/guillochelaw09.CursorAny", spec := "cursorAny", inPlace := ["internal/reflectlite.TypeOf", "internal/reflectlite.ValueOf", "(internal/reflectlite.Value).Type", "(internal/reflectlite.Value).IsNil", "(internal/reflectlite.Value).Elem", "(internal/reflectlite.Value).Set", "internal/abi.NoEscape", "internal/bytealg.MakeNoZero"], unfollowed := true, recurses := true, named := ["guilloche/sha.cubes", "errors.errorType"], apart := false, laid := [("errors.errorType", laid_errors_errorType), ("guilloche/sha.cubes", laid_guilloche_sha_cubes)] }
def CursorAnySaid : Prop := cursorAnyRow.holds Tryz.pinned (OpenSpec.ofChange cursorAnySpec)

/-- ITS FALSE NEIGHBOUR: 'it returns false'. Refute it at one input. -/
def cursorAnyWrong : ChangeSpec := { name := "cursorAny", fn := fun _ => fun
  | [d1, d2, d3, d4] => { results := [.lit (.bool false)], args := [d1, d2, d3, d4] }
  | _ => none }
def CursorAnyWrongFalsely : Prop := cursorAnyRow.holds Tryz.pinned (OpenSpec.ofChange cursorAnyWrong)

/-- 'guillochelaw11.ProofBuilds': WHATEVER THE INPUT: true; the input reads as it did. -/
def proofBuildsSpec : ChangeSpec := { name := "proofBuilds", fn := fun _ => fun
  | [d1, d2] => { results := [.lit (.bool true)], args := [d1, d2] }
  | _ => none }
def proofBuildsRow : OpenClaim := { program := "ytjogjmffkmfmbaagreatdoor", sum := "b8dac127a70c88155398ed6f4cd12b56806239f27c8dccb7d5d09004519ed731", func := "guilloche/guillochelaw11.ProofBuilds", spec := "proofBuilds", inPlace := ["internal/reflectlite.TypeOf", "internal/reflectlite.ValueOf", "(internal/reflectlite.Value).Type", "(internal/reflectlite.Value).IsNil", "(internal/reflectlite.Value).Elem", "(internal/reflectlite.Value).Set", "internal/abi.NoEscape", "internal/bytealg.MakeNoZero"], unfollowed := true, recurses := true, named := ["guilloche/sha.cubes", "errors.errorType"], apart := false, laid := [("errors.errorType", laid_errors_errorType), ("guilloche/sha.cubes", laid_guilloche_sha_cubes)] }
def ProofBuildsSaid : Prop := proofBuildsRow.holds Tryz.pinned (OpenSpec.ofChange proofBuildsSpec)

/-- ITS FALSE NEIGHBOUR: 'it returns false'. Refute it at one input. -/
def proofBuildsWrong : ChangeSpec := { name := "proofBuilds", fn := fun _ => fun
  | [d1, d2] => { results := [.lit (.bool false)], args := [d1, d2] }
  | _ => none }
def ProofBuildsWrongFalsely : Prop := proofBuildsRow.holds Tryz.pinned (OpenSpec.ofChange proofBuildsWrong)

/-- 'guillochelaw11.ProofSound': WHATEVER THE INPUT: true; the input reads as it did. -/
def proofSoundSpec : ChangeSpec := { name := "proofSound", fn := fun _ => fun
  | [d1, d2, d3] => { results := [.lit (.bool true)], args := [d1, d2, d3] }
  | _ => none }
def proofSoundRow : OpenClaim := { program := "ytjogjmffkmfmbaagreatdoor", sum := "b8dac127a70c88155398ed6f4cd12b56806239f27c8dccb7d5d09004519ed731", func := "guilloche/guillochelaw11.ProofSound", spec := "proofSound", inPlace := ["internal/reflectlite.TypeOf", "internal/reflectlite.ValueOf", "(internal/reflectlite.Value).Type", "(internal/reflectlite.Value).IsNil", "(internal/reflectlite.Value).Elem", "(internal/reflectlite.Value).Set", "internal/abi.NoEscape", "internal/bytealg.MakeNoZero"], unfollowed := true, recurses := true, named := ["guilloche/sha.cubes", "errors.errorType"], apart := false, laid := [("errors.errorType", laid_errors_errorType), ("guilloche/sha.cubes", laid_guilloche_sha_cubes)] }
def ProofSoundSaid : Prop := proofSoundRow.holds Tryz.pinned (OpenSpec.ofChange proofSoundSpec)

/-- ITS FALSE NEIGHBOUR: 'it returns false'. Refute it at one input. -/
def proofSoundWrong : ChangeSpec := { name := "proofSound", fn := fun _ => fun
  | [d1, d2, d3] => { results := [.lit (.bool false)], args := [d1, d2, d3] }
  | _ => none }
def ProofSoundWrongFalsely : Prop := proofSoundRow.holds Tryz.pinned (OpenSpec.ofChange proofSoundWrong)

/-- 'guillochelaw11.ProofOne': WHATEVER THE INPUT: true; the input reads as it did. -/
def proofOneSpec : ChangeSpec := { name := "proofOne", fn := fun _ => fun
  | [d1, d2, d3] => { results := [.lit (.bool true)], args := [d1, d2, d3] }
  | _ => none }
def proofOneRow : OpenClaim := { program := "ytjogjmffkmfmbaagreatdoor", sum := "b8dac127a70c88155398ed6f4cd12b56806239f27c8dccb7d5d09004519ed731", func := "guilloche/guillochelaw11.ProofOne", spec := "proofOne", inPlace := ["internal/reflectlite.TypeOf", "internal/reflectlite.ValueOf", "(internal/reflectlite.Value).Type", "(internal/reflectlite.Value).IsNil", "(internal/reflectlite.Value).Elem", "(internal/reflectlite.Value).Set", "internal/abi.NoEscape", "internal/bytealg.MakeNoZero"], unfollowed := true, recurses := true, named := ["guilloche/sha.cubes", "errors.errorType"], apart := false, laid := [("errors.errorType", laid_errors_errorType), ("guilloche/sha.cubes", laid_guilloche_sha_cubes)] }
def ProofOneSaid : Prop := proofOneRow.holds Tryz.pinned (OpenSpec.ofChange proofOneSpec)

/-- ITS FALSE NEIGHBOUR: 'it returns false'. Refute it at one input. -/
def proofOneWrong : ChangeSpec := { name := "proofOne", fn := fun _ => fun
  | [d1, d2, d3] => { results := [.lit (.bool false)], args := [d1, d2, d3] }
  | _ => none }
def ProofOneWrongFalsely : Prop := proofOneRow.holds Tryz.pinned (OpenSpec.ofChange proofOneWrong)

/-- 'guillochelaw11.ProofTurned': WHATEVER THE INPUT: true; the input reads as it did. -/
def proofTurnedSpec : ChangeSpec := { name := "proofTurned", fn := fun _ => fun
  | [d1, d2, d3, d4, d5] => { results := [.lit (.bool true)], args := [d1, d2, d3, d4, d5] }
  | _ => none }
def proofTurnedRow : OpenClaim := { program := "ytjogjmffkmfmbaagreatdoor", sum := "b8dac127a70c88155398ed6f4cd12b56806239f27c8dccb7d5d09004519ed731", func := "guilloche/guillochelaw11.ProofTurned", spec := "proofTurned", inPlace := ["internal/reflectlite.TypeOf", "internal/reflectlite.ValueOf", "(internal/reflectlite.Value).Type", "(internal/reflectlite.Value).IsNil", "(internal/reflectlite.Value).Elem", "(internal/reflectlite.Value).Set", "internal/abi.NoEscape", "internal/bytealg.MakeNoZero"], unfollowed := true, recurses := true, named := ["guilloche/sha.cubes", "errors.errorType"], apart := false, laid := [("errors.errorType", laid_errors_errorType), ("guilloche/sha.cubes", laid_guilloche_sha_cubes)] }
def ProofTurnedSaid : Prop := proofTurnedRow.holds Tryz.pinned (OpenSpec.ofChange proofTurnedSpec)

/-- ITS FALSE NEIGHBOUR: 'it returns false'. Refute it at one input. -/
def proofTurnedWrong : ChangeSpec := { name := "proofTurned", fn := fun _ => fun
  | [d1, d2, d3, d4, d5] => { results := [.lit (.bool false)], args := [d1, d2, d3, d4, d5] }
  | _ => none }
def ProofTurnedWrongFalsely : Prop := proofTurnedRow.holds Tryz.pinned (OpenSpec.ofChange proofTurnedWrong)

/-- 'guillochelaw11.ProofShort': WHATEVER THE INPUT: true; the input reads as it did. -/
def proofShortSpec : ChangeSpec := { name := "proofShort", fn := fun _ => fun
  | [d1, d2, d3] => { results := [.lit (.bool true)], args := [d1, d2, d3] }
  | _ => none }
def proofShortRow : OpenClaim := { program := "ytjogjmffkmfmbaagreatdoor", sum := "b8dac127a70c88155398ed6f4cd12b56806239f27c8dccb7d5d09004519ed731", func := "guilloche/guillochelaw11.ProofShort", spec := "proofShort", inPlace := ["internal/reflectlite.TypeOf", "internal/reflectlite.ValueOf", "(internal/reflectlite.Value).Type", "(internal/reflectlite.Value).IsNil", "(internal/reflectlite.Value).Elem", "(internal/reflectlite.Value).Set", "internal/abi.NoEscape", "internal/bytealg.MakeNoZero"], unfollowed := true, recurses := true, named := ["guilloche/sha.cubes", "errors.errorType"], apart := false, laid := [("errors.errorType", laid_errors_errorType), ("guilloche/sha.cubes", laid_guilloche_sha_cubes)] }
def ProofShortSaid : Prop := proofShortRow.holds Tryz.pinned (OpenSpec.ofChange proofShortSpec)

/-- ITS FALSE NEIGHBOUR: 'it returns false'. Refute it at one input. -/
def proofShortWrong : ChangeSpec := { name := "proofShort", fn := fun _ => fun
  | [d1, d2, d3] => { results := [.lit (.bool false)], args := [d1, d2, d3] }
  | _ => none }
def ProofShortWrongFalsely : Prop := proofShortRow.holds Tryz.pinned (OpenSpec.ofChange proofShortWrong)

/-- 'guillochelaw06.StoreDoes': WHATEVER THE INPUT: true; the input reads as it did. -/
def storeDoesSpec : ChangeSpec := { name := "storeDoes", fn := fun _ => fun
  | [d1, d2, d3] => { results := [.lit (.bool true)], args := [d1, d2, d3] }
  | _ => none }
def storeDoesRow : OpenClaim := { program := "ytjogjmffkmfmbaagreatdoor", sum := "b8dac127a70c88155398ed6f4cd12b56806239f27c8dccb7d5d09004519ed731", func := "guilloche/guillochelaw06.StoreDoes", spec := "storeDoes", inPlace := ["internal/reflectlite.TypeOf", "internal/reflectlite.ValueOf", "(internal/reflectlite.Value).Type", "(internal/reflectlite.Value).IsNil", "(internal/reflectlite.Value).Elem", "(internal/reflectlite.Value).Set", "internal/abi.NoEscape", "internal/bytealg.MakeNoZero"], unfollowed := true, recurses := true, named := ["errors.errorType", "guilloche/sha.cubes"], apart := false, laid := [("errors.errorType", laid_errors_errorType), ("guilloche/sha.cubes", laid_guilloche_sha_cubes)] }
def StoreDoesSaid : Prop := storeDoesRow.holds Tryz.pinned (OpenSpec.ofChange storeDoesSpec)

/-- ITS FALSE NEIGHBOUR: 'it returns false'. Refute it at one input. -/
def storeDoesWrong : ChangeSpec := { name := "storeDoes", fn := fun _ => fun
  | [d1, d2, d3] => { results := [.lit (.bool false)], args := [d1, d2, d3] }
  | _ => none }
def StoreDoesWrongFalsely : Prop := storeDoesRow.holds Tryz.pinned (OpenSpec.ofChange storeDoesWrong)

/-- 'guillochelaw06.StoreCounts': WHATEVER THE INPUT: true; the input reads as it did. -/
def storeCountsSpec : ChangeSpec := { name := "storeCounts", fn := fun _ => fun
  | [d1, d2] => { results := [.lit (.bool true)], args := [d1, d2] }
  | _ => none }
def storeCountsRow : OpenClaim := { program := "ytjogjmffkmfmbaagreatdoor", sum := "b8dac127a70c88155398ed6f4cd12b56806239f27c8dccb7d5d09004519ed731", func := "guilloche/guillochelaw06.StoreCounts", spec := "storeCounts", inPlace := ["internal/reflectlite.TypeOf", "internal/reflectlite.ValueOf", "(internal/reflectlite.Value).Type", "(internal/reflectlite.Value).IsNil", "(internal/reflectlite.Value).Elem", "(internal/reflectlite.Value).Set", "internal/abi.NoEscape", "internal/bytealg.MakeNoZero"], unfollowed := true, recurses := true, named := ["errors.errorType", "guilloche/sha.cubes"], apart := false, laid := [("errors.errorType", laid_errors_errorType), ("guilloche/sha.cubes", laid_guilloche_sha_cubes)] }
def StoreCountsSaid : Prop := storeCountsRow.holds Tryz.pinned (OpenSpec.ofChange storeCountsSpec)

/-- ITS FALSE NEIGHBOUR: 'it returns false'. Refute it at one input. -/
def storeCountsWrong : ChangeSpec := { name := "storeCounts", fn := fun _ => fun
  | [d1, d2] => { results := [.lit (.bool false)], args := [d1, d2] }
  | _ => none }
def StoreCountsWrongFalsely : Prop := storeCountsRow.holds Tryz.pinned (OpenSpec.ofChange storeCountsWrong)

/- THE SECOND FORM. 'bulk': how many values and letters a reading holds, each counted each time it is reached (what is shared counts as often as it is met; a slice's spare places count too). A statement '..UptoSaid' is the law's where the arguments, and the package variables that the reading takes, are together of bulk at most 1048576: NARROWER than '..Said'. Prove '..Said' where nothing that the law and all that it calls make is longer than what came in: it says more and counts as full. Else prove '..UptoSaid'. A law counts once. -/
mutual
def uptoBulk {H : Type} : DataW H → Nat
  | .lit (.string bytes) => bytes.length + 1
  | .lit _ => 1
  | .nil => 1
  | .ptr d => uptoBulk d + 1
  | .slice elems spare => uptoBulkAll elems + uptoBulkAll spare + 1
  | .agg parts => uptoBulkAll parts + 1
  | .iface _ d => uptoBulk d + 1
  | .map entries => uptoBulkEntries entries + 1
  | .held _ => 1
def uptoBulkAll {H : Type} : List (DataW H) → Nat
  | [] => 0
  | d :: r => uptoBulk d + uptoBulkAll r
def uptoBulkEntries {H : Type} : List (Lit × DataW H) → Nat
  | [] => 0
  | x :: r => uptoBulkEntry x + uptoBulkEntries r
def uptoBulkEntry {H : Type} : Lit × DataW H → Nat
  | (.string bytes, d) => bytes.length + uptoBulk d + 1
  | (_, d) => uptoBulk d + 1
 end
def uptoSmall : (H : Type) → List (DataW H) → Bool := fun _ ds => decide (uptoBulkAll ds ≤ 1048576)
def OpenSpec.upto (s : _root_.Go.ChangeSpec) : _root_.Go.OpenSpec := { _root_.Go.OpenSpec.ofChange s with cond := some uptoSmall }

/-- 'guillochelaw09.CursorAny', WHERE WHAT IT READS IS OF BULK AT MOST 1048576: true; the input reads as it did. -/
def cursorAnyUptoRow : OpenClaim := { program := "ytjogjmffkmfmbaagreatdoor", sum := "b8dac127a70c88155398ed6f4cd12b56806239f27c8dccb7d5d09004519ed731", func := "guilloche/guillochelaw09.CursorAny", spec := "cursorAny", inPlace := ["internal/reflectlite.TypeOf", "internal/reflectlite.ValueOf", "(internal/reflectlite.Value).Type", "(internal/reflectlite.Value).IsNil", "(internal/reflectlite.Value).Elem", "(internal/reflectlite.Value).Set", "internal/abi.NoEscape", "internal/bytealg.MakeNoZero"], unfollowed := true, recurses := true, named := ["guilloche/sha.cubes", "errors.errorType"], apart := false, laid := [("errors.errorType", laid_errors_errorType), ("guilloche/sha.cubes", laid_guilloche_sha_cubes)], narrowed := true }
def CursorAnyUptoSaid : Prop := cursorAnyUptoRow.holds Tryz.pinned (OpenSpec.upto cursorAnySpec)

/-- 'guillochelaw11.ProofBuilds', WHERE WHAT IT READS IS OF BULK AT MOST 1048576: true; the input reads as it did. -/
def proofBuildsUptoRow : OpenClaim := { program := "ytjogjmffkmfmbaagreatdoor", sum := "b8dac127a70c88155398ed6f4cd12b56806239f27c8dccb7d5d09004519ed731", func := "guilloche/guillochelaw11.ProofBuilds", spec := "proofBuilds", inPlace := ["internal/reflectlite.TypeOf", "internal/reflectlite.ValueOf", "(internal/reflectlite.Value).Type", "(internal/reflectlite.Value).IsNil", "(internal/reflectlite.Value).Elem", "(internal/reflectlite.Value).Set", "internal/abi.NoEscape", "internal/bytealg.MakeNoZero"], unfollowed := true, recurses := true, named := ["guilloche/sha.cubes", "errors.errorType"], apart := false, laid := [("errors.errorType", laid_errors_errorType), ("guilloche/sha.cubes", laid_guilloche_sha_cubes)], narrowed := true }
def ProofBuildsUptoSaid : Prop := proofBuildsUptoRow.holds Tryz.pinned (OpenSpec.upto proofBuildsSpec)

/-- 'guillochelaw11.ProofSound', WHERE WHAT IT READS IS OF BULK AT MOST 1048576: true; the input reads as it did. -/
def proofSoundUptoRow : OpenClaim := { program := "ytjogjmffkmfmbaagreatdoor", sum := "b8dac127a70c88155398ed6f4cd12b56806239f27c8dccb7d5d09004519ed731", func := "guilloche/guillochelaw11.ProofSound", spec := "proofSound", inPlace := ["internal/reflectlite.TypeOf", "internal/reflectlite.ValueOf", "(internal/reflectlite.Value).Type", "(internal/reflectlite.Value).IsNil", "(internal/reflectlite.Value).Elem", "(internal/reflectlite.Value).Set", "internal/abi.NoEscape", "internal/bytealg.MakeNoZero"], unfollowed := true, recurses := true, named := ["guilloche/sha.cubes", "errors.errorType"], apart := false, laid := [("errors.errorType", laid_errors_errorType), ("guilloche/sha.cubes", laid_guilloche_sha_cubes)], narrowed := true }
def ProofSoundUptoSaid : Prop := proofSoundUptoRow.holds Tryz.pinned (OpenSpec.upto proofSoundSpec)

/-- 'guillochelaw11.ProofOne', WHERE WHAT IT READS IS OF BULK AT MOST 1048576: true; the input reads as it did. -/
def proofOneUptoRow : OpenClaim := { program := "ytjogjmffkmfmbaagreatdoor", sum := "b8dac127a70c88155398ed6f4cd12b56806239f27c8dccb7d5d09004519ed731", func := "guilloche/guillochelaw11.ProofOne", spec := "proofOne", inPlace := ["internal/reflectlite.TypeOf", "internal/reflectlite.ValueOf", "(internal/reflectlite.Value).Type", "(internal/reflectlite.Value).IsNil", "(internal/reflectlite.Value).Elem", "(internal/reflectlite.Value).Set", "internal/abi.NoEscape", "internal/bytealg.MakeNoZero"], unfollowed := true, recurses := true, named := ["guilloche/sha.cubes", "errors.errorType"], apart := false, laid := [("errors.errorType", laid_errors_errorType), ("guilloche/sha.cubes", laid_guilloche_sha_cubes)], narrowed := true }
def ProofOneUptoSaid : Prop := proofOneUptoRow.holds Tryz.pinned (OpenSpec.upto proofOneSpec)

/-- 'guillochelaw11.ProofTurned', WHERE WHAT IT READS IS OF BULK AT MOST 1048576: true; the input reads as it did. -/
def proofTurnedUptoRow : OpenClaim := { program := "ytjogjmffkmfmbaagreatdoor", sum := "b8dac127a70c88155398ed6f4cd12b56806239f27c8dccb7d5d09004519ed731", func := "guilloche/guillochelaw11.ProofTurned", spec := "proofTurned", inPlace := ["internal/reflectlite.TypeOf", "internal/reflectlite.ValueOf", "(internal/reflectlite.Value).Type", "(internal/reflectlite.Value).IsNil", "(internal/reflectlite.Value).Elem", "(internal/reflectlite.Value).Set", "internal/abi.NoEscape", "internal/bytealg.MakeNoZero"], unfollowed := true, recurses := true, named := ["guilloche/sha.cubes", "errors.errorType"], apart := false, laid := [("errors.errorType", laid_errors_errorType), ("guilloche/sha.cubes", laid_guilloche_sha_cubes)], narrowed := true }
def ProofTurnedUptoSaid : Prop := proofTurnedUptoRow.holds Tryz.pinned (OpenSpec.upto proofTurnedSpec)

/-- 'guillochelaw11.ProofShort', WHERE WHAT IT READS IS OF BULK AT MOST 1048576: true; the input reads as it did. -/
def proofShortUptoRow : OpenClaim := { program := "ytjogjmffkmfmbaagreatdoor", sum := "b8dac127a70c88155398ed6f4cd12b56806239f27c8dccb7d5d09004519ed731", func := "guilloche/guillochelaw11.ProofShort", spec := "proofShort", inPlace := ["internal/reflectlite.TypeOf", "internal/reflectlite.ValueOf", "(internal/reflectlite.Value).Type", "(internal/reflectlite.Value).IsNil", "(internal/reflectlite.Value).Elem", "(internal/reflectlite.Value).Set", "internal/abi.NoEscape", "internal/bytealg.MakeNoZero"], unfollowed := true, recurses := true, named := ["guilloche/sha.cubes", "errors.errorType"], apart := false, laid := [("errors.errorType", laid_errors_errorType), ("guilloche/sha.cubes", laid_guilloche_sha_cubes)], narrowed := true }
def ProofShortUptoSaid : Prop := proofShortUptoRow.holds Tryz.pinned (OpenSpec.upto proofShortSpec)

/-- 'guillochelaw06.StoreDoes', WHERE WHAT IT READS IS OF BULK AT MOST 1048576: true; the input reads as it did. -/
def storeDoesUptoRow : OpenClaim := { program := "ytjogjmffkmfmbaagreatdoor", sum := "b8dac127a70c88155398ed6f4cd12b56806239f27c8dccb7d5d09004519ed731", func := "guilloche/guillochelaw06.StoreDoes", spec := "storeDoes", inPlace := ["internal/reflectlite.TypeOf", "internal/reflectlite.ValueOf", "(internal/reflectlite.Value).Type", "(internal/reflectlite.Value).IsNil", "(internal/reflectlite.Value).Elem", "(internal/reflectlite.Value).Set", "internal/abi.NoEscape", "internal/bytealg.MakeNoZero"], unfollowed := true, recurses := true, named := ["errors.errorType", "guilloche/sha.cubes"], apart := false, laid := [("errors.errorType", laid_errors_errorType), ("guilloche/sha.cubes", laid_guilloche_sha_cubes)], narrowed := true }
def StoreDoesUptoSaid : Prop := storeDoesUptoRow.holds Tryz.pinned (OpenSpec.upto storeDoesSpec)

/-- 'guillochelaw06.StoreCounts', WHERE WHAT IT READS IS OF BULK AT MOST 1048576: true; the input reads as it did. -/
def storeCountsUptoRow : OpenClaim := { program := "ytjogjmffkmfmbaagreatdoor", sum := "b8dac127a70c88155398ed6f4cd12b56806239f27c8dccb7d5d09004519ed731", func := "guilloche/guillochelaw06.StoreCounts", spec := "storeCounts", inPlace := ["internal/reflectlite.TypeOf", "internal/reflectlite.ValueOf", "(internal/reflectlite.Value).Type", "(internal/reflectlite.Value).IsNil", "(internal/reflectlite.Value).Elem", "(internal/reflectlite.Value).Set", "internal/abi.NoEscape", "internal/bytealg.MakeNoZero"], unfollowed := true, recurses := true, named := ["errors.errorType", "guilloche/sha.cubes"], apart := false, laid := [("errors.errorType", laid_errors_errorType), ("guilloche/sha.cubes", laid_guilloche_sha_cubes)], narrowed := true }
def StoreCountsUptoSaid : Prop := storeCountsUptoRow.holds Tryz.pinned (OpenSpec.upto storeCountsSpec)

end Rows
end Go.Proofs.YtjogjmffkmfmbaaGreatDoor
