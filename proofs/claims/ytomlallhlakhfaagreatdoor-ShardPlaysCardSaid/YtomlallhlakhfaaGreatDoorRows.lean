/-
  NARROWER THAN 'FOR EVERY INPUT', by the rows' own cells (each row's printed sentence says how): ShardPlays: laid · ShardDecodes: laid · StoreReplays: laid · StoreScript: laid.
  DERIVED. THE GIVEN ROWS OF THIS SEAT. 4 by the template 'for every input the law returns true; each argument reads behind the call as it read before'; 0 by the template 'total and deterministic' (their statements: YtomlallhlakhfaaGreatDoorTotals.lean).
  GIVEN WITH THE SEED: the statements are not yours to turn. If you find one false, say at which input.
  Laid BY PROGRAM, IN A SANDBOX (cutbox-rows.mjs): the forced cells as the released guide's own fill.sh prints them over the translation f1b1abf989c52c4f… (all of the seat's roots in one cut). By AI agents, Wed Nov 11 2026. No macro, syntax, notation, axiom, sorry.
-/
import Derived.Test.YtomlallhlakhfaaGreatDoorChecked
import GoSem.Claim
import GoSem.ClaimJoined
import GoSem.ClaimMapViews
import Derived.JoinedTies
import Derived.KernelRfl
namespace Go.Proofs.YtomlallhlakhfaaGreatDoor
/- THE CELL 'sum', in the pinned program and in every row, IS THE sha256 OF THE DUMP (.gsa) THAT YtomlallhlakhfaaGreatDoorProg.lean LOADS. Nothing in Lean hashes anything: it is a label: what it is worth is what the hold of that sum in a sandbox is worth. -/
noncomputable def Tryz.pinned : Pinned := { name := "ytomlallhlakhfaagreatdoor", sum := "f1b1abf989c52c4ff147e4964d4d6e7e5add69194b9767b0927bb1d82c478aa1", checked := Tryz.checked }
namespace Rows
def none {H : Type} : Left H := { results := [], args := [] }

/- WHAT THE LISTED PACKAGE-LEVEL VARIABLES READ AS WHEN THE CALL BEGINS. Each datum BY PROGRAM (the guide's laid-datum.mjs) off the statement by which the dump's own 'gosem.cut.vars' lays the variable. In a bare row this is a premise. The card (YtomlallhlakhfaaGreatDoorCards.lean) ties it to the program's text. -/
def laid_math_bits_deBruijn32tab {H : Type} : DataW H := .agg [.lit (.int .u8 0), .lit (.int .u8 1), .lit (.int .u8 28), .lit (.int .u8 2), .lit (.int .u8 29), .lit (.int .u8 14), .lit (.int .u8 24), .lit (.int .u8 3), .lit (.int .u8 30), .lit (.int .u8 22), .lit (.int .u8 20), .lit (.int .u8 15), .lit (.int .u8 25), .lit (.int .u8 17), .lit (.int .u8 4), .lit (.int .u8 8), .lit (.int .u8 31), .lit (.int .u8 27), .lit (.int .u8 13), .lit (.int .u8 23), .lit (.int .u8 21), .lit (.int .u8 19), .lit (.int .u8 16), .lit (.int .u8 7), .lit (.int .u8 26), .lit (.int .u8 12), .lit (.int .u8 18), .lit (.int .u8 6), .lit (.int .u8 11), .lit (.int .u8 5), .lit (.int .u8 10), .lit (.int .u8 9)]
def laid_errors_errorType {H : Type} : DataW H := .iface "internal/reflectlite.rtype" (.agg [.ptr (.lit (.string [101, 114, 114, 111, 114]))])
def laid_steelyard_store_errForm {H : Type} : DataW H := .iface "*errors.errorString" (.ptr (.agg [.lit (.string [110, 111, 32, 110, 97, 109, 101])]))
def laid_steelyard_store_errTorn {H : Type} : DataW H := .iface "*errors.errorString" (.ptr (.agg [.lit (.string [116, 104, 101, 32, 108, 111, 103, 32, 101, 110, 100, 115, 32, 105, 110, 32, 105, 116, 115, 32, 109, 105, 100, 115, 116])]))
def laid_steelyard_store_errSum {H : Type} : DataW H := .iface "*errors.errorString" (.ptr (.agg [.lit (.string [105, 116, 115, 32, 115, 117, 109, 32, 105, 115, 32, 110, 111, 116, 32, 114, 105, 103, 104, 116])]))
def laid_steelyard_store_errShard {H : Type} : DataW H := .iface "*errors.errorString" (.ptr (.agg [.lit (.string [110, 111, 32, 115, 104, 97, 114, 100, 39, 115, 32, 98, 121, 116, 101, 115])]))

/-- 'steelyardlaw21.ShardPlays': WHATEVER THE INPUT: true; the input reads as it did. -/
def shardPlaysSpec : ChangeSpec := { name := "shardPlays", fn := fun _ => fun
  | [d] => { results := [.lit (.bool true)], args := [d] }
  | _ => none }
def shardPlaysRow : OpenClaim := { program := "ytomlallhlakhfaagreatdoor", sum := "f1b1abf989c52c4ff147e4964d4d6e7e5add69194b9767b0927bb1d82c478aa1", func := "steelyard/steelyardlaw21.ShardPlays", spec := "shardPlays", inPlace := ["math.Float64bits", "math.Float64frombits"], unfollowed := true, recurses := true, named := ["math/bits.deBruijn32tab"], apart := false, laid := [("math/bits.deBruijn32tab", laid_math_bits_deBruijn32tab)] }
def ShardPlaysSaid : Prop := shardPlaysRow.holds Tryz.pinned (OpenSpec.ofChange shardPlaysSpec)

/-- ITS FALSE NEIGHBOUR: 'it returns false'. Refute it at one input. -/
def shardPlaysWrong : ChangeSpec := { name := "shardPlays", fn := fun _ => fun
  | [d] => { results := [.lit (.bool false)], args := [d] }
  | _ => none }
def ShardPlaysWrongFalsely : Prop := shardPlaysRow.holds Tryz.pinned (OpenSpec.ofChange shardPlaysWrong)

/-- 'steelyardlaw21.ShardDecodes': WHATEVER THE INPUT: true; the input reads as it did. -/
def shardDecodesSpec : ChangeSpec := { name := "shardDecodes", fn := fun _ => fun
  | [d1, d2, d3] => { results := [.lit (.bool true)], args := [d1, d2, d3] }
  | _ => none }
def shardDecodesRow : OpenClaim := { program := "ytomlallhlakhfaagreatdoor", sum := "f1b1abf989c52c4ff147e4964d4d6e7e5add69194b9767b0927bb1d82c478aa1", func := "steelyard/steelyardlaw21.ShardDecodes", spec := "shardDecodes", inPlace := ["math.Float64bits", "math.Float64frombits"], unfollowed := true, recurses := true, named := ["math/bits.deBruijn32tab"], apart := false, laid := [("math/bits.deBruijn32tab", laid_math_bits_deBruijn32tab)] }
def ShardDecodesSaid : Prop := shardDecodesRow.holds Tryz.pinned (OpenSpec.ofChange shardDecodesSpec)

/-- ITS FALSE NEIGHBOUR: 'it returns false'. Refute it at one input. -/
def shardDecodesWrong : ChangeSpec := { name := "shardDecodes", fn := fun _ => fun
  | [d1, d2, d3] => { results := [.lit (.bool false)], args := [d1, d2, d3] }
  | _ => none }
def ShardDecodesWrongFalsely : Prop := shardDecodesRow.holds Tryz.pinned (OpenSpec.ofChange shardDecodesWrong)

/-- 'steelyardlaw22.StoreReplays': WHATEVER THE INPUT: true; the input reads as it did. -/
def storeReplaysSpec : ChangeSpec := { name := "storeReplays", fn := fun _ => fun
  | [d] => { results := [.lit (.bool true)], args := [d] }
  | _ => none }
def storeReplaysRow : OpenClaim := { program := "ytomlallhlakhfaagreatdoor", sum := "f1b1abf989c52c4ff147e4964d4d6e7e5add69194b9767b0927bb1d82c478aa1", func := "steelyard/steelyardlaw22.StoreReplays", spec := "storeReplays", inPlace := ["math.Float64bits", "math.Float64frombits", "internal/reflectlite.ValueOf", "(internal/reflectlite.Value).Type", "(internal/reflectlite.Value).IsNil", "internal/reflectlite.TypeOf", "(internal/reflectlite.Value).Elem", "(internal/reflectlite.Value).Set"], unfollowed := true, recurses := true, named := ["math/bits.deBruijn32tab", "steelyard/store.errForm", "steelyard/store.errTorn", "steelyard/store.errSum", "steelyard/store.errShard", "errors.errorType"], apart := false, laid := [("math/bits.deBruijn32tab", laid_math_bits_deBruijn32tab), ("errors.errorType", laid_errors_errorType), ("steelyard/store.errForm", laid_steelyard_store_errForm), ("steelyard/store.errTorn", laid_steelyard_store_errTorn), ("steelyard/store.errSum", laid_steelyard_store_errSum), ("steelyard/store.errShard", laid_steelyard_store_errShard)] }
def StoreReplaysSaid : Prop := storeReplaysRow.holds Tryz.pinned (OpenSpec.ofChange storeReplaysSpec)

/-- ITS FALSE NEIGHBOUR: 'it returns false'. Refute it at one input. -/
def storeReplaysWrong : ChangeSpec := { name := "storeReplays", fn := fun _ => fun
  | [d] => { results := [.lit (.bool false)], args := [d] }
  | _ => none }
def StoreReplaysWrongFalsely : Prop := storeReplaysRow.holds Tryz.pinned (OpenSpec.ofChange storeReplaysWrong)

/-- 'steelyardlaw22.StoreScript': WHATEVER THE INPUT: true; the input reads as it did. -/
def storeScriptSpec : ChangeSpec := { name := "storeScript", fn := fun _ => fun
  | [d] => { results := [.lit (.bool true)], args := [d] }
  | _ => none }
def storeScriptRow : OpenClaim := { program := "ytomlallhlakhfaagreatdoor", sum := "f1b1abf989c52c4ff147e4964d4d6e7e5add69194b9767b0927bb1d82c478aa1", func := "steelyard/steelyardlaw22.StoreScript", spec := "storeScript", inPlace := ["math.Float64bits", "math.Float64frombits", "internal/reflectlite.ValueOf", "(internal/reflectlite.Value).Type", "(internal/reflectlite.Value).IsNil", "internal/reflectlite.TypeOf", "(internal/reflectlite.Value).Elem", "(internal/reflectlite.Value).Set"], unfollowed := true, recurses := true, named := ["math/bits.deBruijn32tab", "steelyard/store.errForm", "steelyard/store.errTorn", "steelyard/store.errSum", "steelyard/store.errShard", "errors.errorType"], apart := false, laid := [("math/bits.deBruijn32tab", laid_math_bits_deBruijn32tab), ("errors.errorType", laid_errors_errorType), ("steelyard/store.errForm", laid_steelyard_store_errForm), ("steelyard/store.errTorn", laid_steelyard_store_errTorn), ("steelyard/store.errSum", laid_steelyard_store_errSum), ("steelyard/store.errShard", laid_steelyard_store_errShard)] }
def StoreScriptSaid : Prop := storeScriptRow.holds Tryz.pinned (OpenSpec.ofChange storeScriptSpec)

/-- ITS FALSE NEIGHBOUR: 'it returns false'. Refute it at one input. -/
def storeScriptWrong : ChangeSpec := { name := "storeScript", fn := fun _ => fun
  | [d] => { results := [.lit (.bool false)], args := [d] }
  | _ => none }
def StoreScriptWrongFalsely : Prop := storeScriptRow.holds Tryz.pinned (OpenSpec.ofChange storeScriptWrong)

/- THE SECOND FORM. 'bulk': how many values and letters a reading holds, each counted each time it is reached (what is shared counts as often as it is met; a slice's spare places count too). A statement '..UptoSaid' is the law's where the arguments, and the package variables that the reading takes, are together of bulk at most 1048576: NARROWER than '..Said'. Prove '..Said' where nothing that the law and all that it calls make is longer than what came in: it says more and counts as full. Else prove '..UptoSaid'. A law counts once. -/
mutual
def uptoBulk {H : Type} : DataW H → Nat
  | .lit (.string bytes) => bytes.length + 1
  | .lit _ => 1
  | .nil => 1
  | .ptr d => uptoBulk d + 1
  | .slice elems spare => uptoBulkAll elems + uptoBulkAll spare + 1
  | .agg parts => uptoBulkAll parts + 1
  | .iface _ d => uptoBulk d + 1
  | .map entries => uptoBulkEntries entries + 1
  | .held _ => 1
def uptoBulkAll {H : Type} : List (DataW H) → Nat
  | [] => 0
  | d :: r => uptoBulk d + uptoBulkAll r
def uptoBulkEntries {H : Type} : List (Lit × DataW H) → Nat
  | [] => 0
  | x :: r => uptoBulkEntry x + uptoBulkEntries r
def uptoBulkEntry {H : Type} : Lit × DataW H → Nat
  | (.string bytes, d) => bytes.length + uptoBulk d + 1
  | (_, d) => uptoBulk d + 1
 end
def uptoSmall : (H : Type) → List (DataW H) → Bool := fun _ ds => decide (uptoBulkAll ds ≤ 1048576)
def OpenSpec.upto (s : _root_.Go.ChangeSpec) : _root_.Go.OpenSpec := { _root_.Go.OpenSpec.ofChange s with cond := some uptoSmall }

/-- 'steelyardlaw21.ShardPlays', WHERE WHAT IT READS IS OF BULK AT MOST 1048576: true; the input reads as it did. -/
def shardPlaysUptoRow : OpenClaim := { program := "ytomlallhlakhfaagreatdoor", sum := "f1b1abf989c52c4ff147e4964d4d6e7e5add69194b9767b0927bb1d82c478aa1", func := "steelyard/steelyardlaw21.ShardPlays", spec := "shardPlays", inPlace := ["math.Float64bits", "math.Float64frombits"], unfollowed := true, recurses := true, named := ["math/bits.deBruijn32tab"], apart := false, laid := [("math/bits.deBruijn32tab", laid_math_bits_deBruijn32tab)], narrowed := true }
def ShardPlaysUptoSaid : Prop := shardPlaysUptoRow.holds Tryz.pinned (OpenSpec.upto shardPlaysSpec)

/-- 'steelyardlaw21.ShardDecodes', WHERE WHAT IT READS IS OF BULK AT MOST 1048576: true; the input reads as it did. -/
def shardDecodesUptoRow : OpenClaim := { program := "ytomlallhlakhfaagreatdoor", sum := "f1b1abf989c52c4ff147e4964d4d6e7e5add69194b9767b0927bb1d82c478aa1", func := "steelyard/steelyardlaw21.ShardDecodes", spec := "shardDecodes", inPlace := ["math.Float64bits", "math.Float64frombits"], unfollowed := true, recurses := true, named := ["math/bits.deBruijn32tab"], apart := false, laid := [("math/bits.deBruijn32tab", laid_math_bits_deBruijn32tab)], narrowed := true }
def ShardDecodesUptoSaid : Prop := shardDecodesUptoRow.holds Tryz.pinned (OpenSpec.upto shardDecodesSpec)

/-- 'steelyardlaw22.StoreReplays', WHERE WHAT IT READS IS OF BULK AT MOST 1048576: true; the input reads as it did. -/
def storeReplaysUptoRow : OpenClaim := { program := "ytomlallhlakhfaagreatdoor", sum := "f1b1abf989c52c4ff147e4964d4d6e7e5add69194b9767b0927bb1d82c478aa1", func := "steelyard/steelyardlaw22.StoreReplays", spec := "storeReplays", inPlace := ["math.Float64bits", "math.Float64frombits", "internal/reflectlite.ValueOf", "(internal/reflectlite.Value).Type", "(internal/reflectlite.Value).IsNil", "internal/reflectlite.TypeOf", "(internal/reflectlite.Value).Elem", "(internal/reflectlite.Value).Set"], unfollowed := true, recurses := true, named := ["math/bits.deBruijn32tab", "steelyard/store.errForm", "steelyard/store.errTorn", "steelyard/store.errSum", "steelyard/store.errShard", "errors.errorType"], apart := false, laid := [("math/bits.deBruijn32tab", laid_math_bits_deBruijn32tab), ("errors.errorType", laid_errors_errorType), ("steelyard/store.errForm", laid_steelyard_store_errForm), ("steelyard/store.errTorn", laid_steelyard_store_errTorn), ("steelyard/store.errSum", laid_steelyard_store_errSum), ("steelyard/store.errShard", laid_steelyard_store_errShard)], narrowed := true }
def StoreReplaysUptoSaid : Prop := storeReplaysUptoRow.holds Tryz.pinned (OpenSpec.upto storeReplaysSpec)

/-- 'steelyardlaw22.StoreScript', WHERE WHAT IT READS IS OF BULK AT MOST 1048576: true; the input reads as it did. -/
def storeScriptUptoRow : OpenClaim := { program := "ytomlallhlakhfaagreatdoor", sum := "f1b1abf989c52c4ff147e4964d4d6e7e5add69194b9767b0927bb1d82c478aa1", func := "steelyard/steelyardlaw22.StoreScript", spec := "storeScript", inPlace := ["math.Float64bits", "math.Float64frombits", "internal/reflectlite.ValueOf", "(internal/reflectlite.Value).Type", "(internal/reflectlite.Value).IsNil", "internal/reflectlite.TypeOf", "(internal/reflectlite.Value).Elem", "(internal/reflectlite.Value).Set"], unfollowed := true, recurses := true, named := ["math/bits.deBruijn32tab", "steelyard/store.errForm", "steelyard/store.errTorn", "steelyard/store.errSum", "steelyard/store.errShard", "errors.errorType"], apart := false, laid := [("math/bits.deBruijn32tab", laid_math_bits_deBruijn32tab), ("errors.errorType", laid_errors_errorType), ("steelyard/store.errForm", laid_steelyard_store_errForm), ("steelyard/store.errTorn", laid_steelyard_store_errTorn), ("steelyard/store.errSum", laid_steelyard_store_errSum), ("steelyard/store.errShard", laid_steelyard_store_errShard)], narrowed := true }
def StoreScriptUptoSaid : Prop := storeScriptUptoRow.holds Tryz.pinned (OpenSpec.upto storeScriptSpec)

end Rows
end Go.Proofs.YtomlallhlakhfaaGreatDoor
