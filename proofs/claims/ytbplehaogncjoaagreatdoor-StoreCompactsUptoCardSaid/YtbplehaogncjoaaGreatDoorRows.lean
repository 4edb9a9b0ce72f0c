/-
  NARROWER THAN 'FOR EVERY INPUT', by the rows' own cells (each row's printed sentence says how): StoreLong: laid · StoreCuts: laid · StoreTold: laid · StoreNumbers: laid · StoreCompacts: laid.
  DERIVED. THE GIVEN ROWS OF THIS SEAT. 5 by the template 'for every input the law returns true; each argument reads behind the call as it read before'; 0 by the template 'total and deterministic' (their statements: YtbplehaogncjoaaGreatDoorTotals.lean).
  GIVEN WITH THE SEED: the statements are not yours to turn. If you find one false, say at which input.
  Laid BY PROGRAM, IN A SANDBOX (cutbox-rows.mjs): the forced cells as the released guide's own fill.sh prints them over the translation 2308192149d6d7a2… (all of the seat's roots in one cut). By AI agents, Wed Nov 11 2026. No macro, syntax, notation, axiom, sorry.
-/
import Derived.Test.YtbplehaogncjoaaGreatDoorChecked
import GoSem.Claim
import GoSem.ClaimJoined
import GoSem.ClaimMapViews
import Derived.JoinedTies
import Derived.KernelRfl
namespace Go.Proofs.YtbplehaogncjoaaGreatDoor
/- THE CELL 'sum', in the pinned program and in every row, IS THE sha256 OF THE DUMP (.gsa) THAT YtbplehaogncjoaaGreatDoorProg.lean LOADS. Nothing in Lean hashes anything: it is a label: what it is worth is what the hold of that sum in a sandbox is worth. -/
noncomputable def Tryz.pinned : Pinned := { name := "ytbplehaogncjoaagreatdoor", sum := "2308192149d6d7a2bd328c002af53a3c7340501720745cec2f980adea77385c0", checked := Tryz.checked }
namespace Rows
def none {H : Type} : Left H := { results := [], args := [] }

/- WHAT THE LISTED PACKAGE-LEVEL VARIABLES READ AS WHEN THE CALL BEGINS. Each datum BY PROGRAM (the guide's laid-datum.mjs) off the statement by which the dump's own 'gosem.cut.vars' lays the variable. In a bare row this is a premise. The card (YtbplehaogncjoaaGreatDoorCards.lean) ties it to the program's text. -/
def laid_math_bits_deBruijn32tab {H : Type} : DataW H := .agg [.lit (.int .u8 0), .lit (.int .u8 1), .lit (.int .u8 28), .lit (.int .u8 2), .lit (.int .u8 29), .lit (.int .u8 14), .lit (.int .u8 24), .lit (.int .u8 3), .lit (.int .u8 30), .lit (.int .u8 22), .lit (.int .u8 20), .lit (.int .u8 15), .lit (.int .u8 25), .lit (.int .u8 17), .lit (.int .u8 4), .lit (.int .u8 8), .lit (.int .u8 31), .lit (.int .u8 27), .lit (.int .u8 13), .lit (.int .u8 23), .lit (.int .u8 21), .lit (.int .u8 19), .lit (.int .u8 16), .lit (.int .u8 7), .lit (.int .u8 26), .lit (.int .u8 12), .lit (.int .u8 18), .lit (.int .u8 6), .lit (.int .u8 11), .lit (.int .u8 5), .lit (.int .u8 10), .lit (.int .u8 9)]
def laid_errors_errorType {H : Type} : DataW H := .iface "internal/reflectlite.rtype" (.agg [.ptr (.lit (.string [101, 114, 114, 111, 114]))])
def laid_steelyard_store_errForm {H : Type} : DataW H := .iface "*errors.errorString" (.ptr (.agg [.lit (.string [110, 111, 32, 110, 97, 109, 101])]))
def laid_steelyard_store_errTorn {H : Type} : DataW H := .iface "*errors.errorString" (.ptr (.agg [.lit (.string [116, 104, 101, 32, 108, 111, 103, 32, 101, 110, 100, 115, 32, 105, 110, 32, 105, 116, 115, 32, 109, 105, 100, 115, 116])]))
def laid_steelyard_store_errSum {H : Type} : DataW H := .iface "*errors.errorString" (.ptr (.agg [.lit (.string [105, 116, 115, 32, 115, 117, 109, 32, 105, 115, 32, 110, 111, 116, 32, 114, 105, 103, 104, 116])]))
def laid_steelyard_store_errShard {H : Type} : DataW H := .iface "*errors.errorString" (.ptr (.agg [.lit (.string [110, 111, 32, 115, 104, 97, 114, 100, 39, 115, 32, 98, 121, 116, 101, 115])]))

/-- 'steelyardlaw22.StoreLong': WHATEVER THE INPUT: true; the input reads as it did. -/
def storeLongSpec : ChangeSpec := { name := "storeLong", fn := fun _ => fun
  | [d] => { results := [.lit (.bool true)], args := [d] }
  | _ => none }
def storeLongRow : OpenClaim := { program := "ytbplehaogncjoaagreatdoor", sum := "2308192149d6d7a2bd328c002af53a3c7340501720745cec2f980adea77385c0", func := "steelyard/steelyardlaw22.StoreLong", spec := "storeLong", inPlace := ["math.Float64bits", "math.Float64frombits", "internal/reflectlite.ValueOf", "(internal/reflectlite.Value).Type", "(internal/reflectlite.Value).IsNil", "internal/reflectlite.TypeOf", "(internal/reflectlite.Value).Elem", "(internal/reflectlite.Value).Set"], unfollowed := true, recurses := true, named := ["math/bits.deBruijn32tab", "steelyard/store.errForm", "steelyard/store.errTorn", "steelyard/store.errSum", "steelyard/store.errShard", "errors.errorType"], apart := false, laid := [("math/bits.deBruijn32tab", laid_math_bits_deBruijn32tab), ("errors.errorType", laid_errors_errorType), ("steelyard/store.errForm", laid_steelyard_store_errForm), ("steelyard/store.errTorn", laid_steelyard_store_errTorn), ("steelyard/store.errSum", laid_steelyard_store_errSum), ("steelyard/store.errShard", laid_steelyard_store_errShard)] }
def StoreLongSaid : Prop := storeLongRow.holds Tryz.pinned (OpenSpec.ofChange storeLongSpec)

/-- ITS FALSE NEIGHBOUR: 'it returns false'. Refute it at one input. -/
def storeLongWrong : ChangeSpec := { name := "storeLong", fn := fun _ => fun
  | [d] => { results := [.lit (.bool false)], args := [d] }
  | _ => none }
def StoreLongWrongFalsely : Prop := storeLongRow.holds Tryz.pinned (OpenSpec.ofChange storeLongWrong)

/-- 'steelyardlaw22.StoreCuts': WHATEVER THE INPUT: true; the input reads as it did. -/
def storeCutsSpec : ChangeSpec := { name := "storeCuts", fn := fun _ => fun
  | [d1, d2] => { results := [.lit (.bool true)], args := [d1, d2] }
  | _ => none }
def storeCutsRow : OpenClaim := { program := "ytbplehaogncjoaagreatdoor", sum := "2308192149d6d7a2bd328c002af53a3c7340501720745cec2f980adea77385c0", func := "steelyard/steelyardlaw22.StoreCuts", spec := "storeCuts", inPlace := ["math.Float64bits", "math.Float64frombits", "internal/reflectlite.ValueOf", "(internal/reflectlite.Value).Type", "(internal/reflectlite.Value).IsNil", "internal/reflectlite.TypeOf", "(internal/reflectlite.Value).Elem", "(internal/reflectlite.Value).Set"], unfollowed := true, recurses := true, named := ["math/bits.deBruijn32tab", "steelyard/store.errForm", "steelyard/store.errTorn", "steelyard/store.errSum", "steelyard/store.errShard", "errors.errorType"], apart := false, laid := [("math/bits.deBruijn32tab", laid_math_bits_deBruijn32tab), ("errors.errorType", laid_errors_errorType), ("steelyard/store.errForm", laid_steelyard_store_errForm), ("steelyard/store.errTorn", laid_steelyard_store_errTorn), ("steelyard/store.errSum", laid_steelyard_store_errSum), ("steelyard/store.errShard", laid_steelyard_store_errShard)] }
def StoreCutsSaid : Prop := storeCutsRow.holds Tryz.pinned (OpenSpec.ofChange storeCutsSpec)

/-- ITS FALSE NEIGHBOUR: 'it returns false'. Refute it at one input. -/
def storeCutsWrong : ChangeSpec := { name := "storeCuts", fn := fun _ => fun
  | [d1, d2] => { results := [.lit (.bool false)], args := [d1, d2] }
  | _ => none }
def StoreCutsWrongFalsely : Prop := storeCutsRow.holds Tryz.pinned (OpenSpec.ofChange storeCutsWrong)

/-- 'steelyardlaw22.StoreTold': WHATEVER THE INPUT: true; the input reads as it did. -/
def storeToldSpec : ChangeSpec := { name := "storeTold", fn := fun _ => fun
  | [d1, d2, d3, d4] => { results := [.lit (.bool true)], args := [d1, d2, d3, d4] }
  | _ => none }
def storeToldRow : OpenClaim := { program := "ytbplehaogncjoaagreatdoor", sum := "2308192149d6d7a2bd328c002af53a3c7340501720745cec2f980adea77385c0", func := "steelyard/steelyardlaw22.StoreTold", spec := "storeTold", inPlace := ["math.Float64bits", "math.Float64frombits", "internal/reflectlite.ValueOf", "(internal/reflectlite.Value).Type", "(internal/reflectlite.Value).IsNil", "internal/reflectlite.TypeOf", "(internal/reflectlite.Value).Elem", "(internal/reflectlite.Value).Set"], unfollowed := true, recurses := true, named := ["math/bits.deBruijn32tab", "steelyard/store.errForm", "steelyard/store.errTorn", "steelyard/store.errSum", "steelyard/store.errShard", "errors.errorType"], apart := false, laid := [("math/bits.deBruijn32tab", laid_math_bits_deBruijn32tab), ("errors.errorType", laid_errors_errorType), ("steelyard/store.errForm", laid_steelyard_store_errForm), ("steelyard/store.errTorn", laid_steelyard_store_errTorn), ("steelyard/store.errSum", laid_steelyard_store_errSum), ("steelyard/store.errShard", laid_steelyard_store_errShard)] }
def StoreToldSaid : Prop := storeToldRow.holds Tryz.pinned (OpenSpec.ofChange storeToldSpec)

/-- ITS FALSE NEIGHBOUR: 'it returns false'. Refute it at one input. -/
def storeToldWrong : ChangeSpec := { name := "storeTold", fn := fun _ => fun
  | [d1, d2, d3, d4] => { results := [.lit (.bool false)], args := [d1, d2, d3, d4] }
  | _ => none }
def StoreToldWrongFalsely : Prop := storeToldRow.holds Tryz.pinned (OpenSpec.ofChange storeToldWrong)

/-- 'steelyardlaw22.StoreNumbers': WHATEVER THE INPUT: true; the input reads as it did. -/
def storeNumbersSpec : ChangeSpec := { name := "storeNumbers", fn := fun _ => fun
  | [] => { results := [.lit (.bool true)], args := [] }
  | _ => none }
def storeNumbersRow : OpenClaim := { program := "ytbplehaogncjoaagreatdoor", sum := "2308192149d6d7a2bd328c002af53a3c7340501720745cec2f980adea77385c0", func := "steelyard/steelyardlaw22.StoreNumbers", spec := "storeNumbers", inPlace := ["math.Float64bits", "math.Float64frombits", "internal/reflectlite.ValueOf", "(internal/reflectlite.Value).Type", "(internal/reflectlite.Value).IsNil", "internal/reflectlite.TypeOf", "(internal/reflectlite.Value).Elem", "(internal/reflectlite.Value).Set"], unfollowed := true, recurses := true, named := ["math/bits.deBruijn32tab", "steelyard/store.errForm", "steelyard/store.errTorn", "steelyard/store.errSum", "steelyard/store.errShard", "errors.errorType"], apart := false, laid := [("math/bits.deBruijn32tab", laid_math_bits_deBruijn32tab), ("errors.errorType", laid_errors_errorType), ("steelyard/store.errForm", laid_steelyard_store_errForm), ("steelyard/store.errTorn", laid_steelyard_store_errTorn), ("steelyard/store.errSum", laid_steelyard_store_errSum), ("steelyard/store.errShard", laid_steelyard_store_errShard)] }
def StoreNumbersSaid : Prop := storeNumbersRow.holds Tryz.pinned (OpenSpec.ofChange storeNumbersSpec)

/-- ITS FALSE NEIGHBOUR: 'it returns false'. Refute it at one input. -/
def storeNumbersWrong : ChangeSpec := { name := "storeNumbers", fn := fun _ => fun
  | [] => { results := [.lit (.bool false)], args := [] }
  | _ => none }
def StoreNumbersWrongFalsely : Prop := storeNumbersRow.holds Tryz.pinned (OpenSpec.ofChange storeNumbersWrong)

/-- 'steelyardlaw22.StoreCompacts': WHATEVER THE INPUT: true; the input reads as it did. -/
def storeCompactsSpec : ChangeSpec := { name := "storeCompacts", fn := fun _ => fun
  | [d] => { results := [.lit (.bool true)], args := [d] }
  | _ => none }
def storeCompactsRow : OpenClaim := { program := "ytbplehaogncjoaagreatdoor", sum := "2308192149d6d7a2bd328c002af53a3c7340501720745cec2f980adea77385c0", func := "steelyard/steelyardlaw22.StoreCompacts", spec := "storeCompacts", inPlace := ["math.Float64bits", "math.Float64frombits", "internal/reflectlite.ValueOf", "(internal/reflectlite.Value).Type", "(internal/reflectlite.Value).IsNil", "internal/reflectlite.TypeOf", "(internal/reflectlite.Value).Elem", "(internal/reflectlite.Value).Set"], unfollowed := true, recurses := true, named := ["math/bits.deBruijn32tab", "steelyard/store.errForm", "steelyard/store.errTorn", "steelyard/store.errSum", "steelyard/store.errShard", "errors.errorType"], apart := false, laid := [("math/bits.deBruijn32tab", laid_math_bits_deBruijn32tab), ("errors.errorType", laid_errors_errorType), ("steelyard/store.errForm", laid_steelyard_store_errForm), ("steelyard/store.errTorn", laid_steelyard_store_errTorn), ("steelyard/store.errSum", laid_steelyard_store_errSum), ("steelyard/store.errShard", laid_steelyard_store_errShard)] }
def StoreCompactsSaid : Prop := storeCompactsRow.holds Tryz.pinned (OpenSpec.ofChange storeCompactsSpec)

/-- ITS FALSE NEIGHBOUR: 'it returns false'. Refute it at one input. -/
def storeCompactsWrong : ChangeSpec := { name := "storeCompacts", fn := fun _ => fun
  | [d] => { results := [.lit (.bool false)], args := [d] }
  | _ => none }
def StoreCompactsWrongFalsely : Prop := storeCompactsRow.holds Tryz.pinned (OpenSpec.ofChange storeCompactsWrong)

/- THE SECOND FORM. 'bulk': how many values and letters a reading holds, each counted each time it is reached (what is shared counts as often as it is met; a slice's spare places count too). A statement '..UptoSaid' is the law's where the arguments, and the package variables that the reading takes, are together of bulk at most 1048576: NARROWER than '..Said'. Prove '..Said' where nothing that the law and all that it calls make is longer than what came in: it says more and counts as full. Else prove '..UptoSaid'. A law counts once. -/
mutual
def uptoBulk {H : Type} : DataW H → Nat
  | .lit (.string bytes) => bytes.length + 1
  | .lit _ => 1
  | .nil => 1
  | .ptr d => uptoBulk d + 1
  | .slice elems spare => uptoBulkAll elems + uptoBulkAll spare + 1
  | .agg parts => uptoBulkAll parts + 1
  | .iface _ d => uptoBulk d + 1
  | .map entries => uptoBulkEntries entries + 1
  | .held _ => 1
def uptoBulkAll {H : Type} : List (DataW H) → Nat
  | [] => 0
  | d :: r => uptoBulk d + uptoBulkAll r
def uptoBulkEntries {H : Type} : List (Lit × DataW H) → Nat
  | [] => 0
  | x :: r => uptoBulkEntry x + uptoBulkEntries r
def uptoBulkEntry {H : Type} : Lit × DataW H → Nat
  | (.string bytes, d) => bytes.length + uptoBulk d + 1
  | (_, d) => uptoBulk d + 1
 end
def uptoSmall : (H : Type) → List (DataW H) → Bool := fun _ ds => decide (uptoBulkAll ds ≤ 1048576)
def OpenSpec.upto (s : _root_.Go.ChangeSpec) : _root_.Go.OpenSpec := { _root_.Go.OpenSpec.ofChange s with cond := some uptoSmall }

/-- 'steelyardlaw22.StoreLong', WHERE WHAT IT READS IS OF BULK AT MOST 1048576: true; the input reads as it did. -/
def storeLongUptoRow : OpenClaim := { program := "ytbplehaogncjoaagreatdoor", sum := "2308192149d6d7a2bd328c002af53a3c7340501720745cec2f980adea77385c0", func := "steelyard/steelyardlaw22.StoreLong", spec := "storeLong", inPlace := ["math.Float64bits", "math.Float64frombits", "internal/reflectlite.ValueOf", "(internal/reflectlite.Value).Type", "(internal/reflectlite.Value).IsNil", "internal/reflectlite.TypeOf", "(internal/reflectlite.Value).Elem", "(internal/reflectlite.Value).Set"], unfollowed := true, recurses := true, named := ["math/bits.deBruijn32tab", "steelyard/store.errForm", "steelyard/store.errTorn", "steelyard/store.errSum", "steelyard/store.errShard", "errors.errorType"], apart := false, laid := [("math/bits.deBruijn32tab", laid_math_bits_deBruijn32tab), ("errors.errorType", laid_errors_errorType), ("steelyard/store.errForm", laid_steelyard_store_errForm), ("steelyard/store.errTorn", laid_steelyard_store_errTorn), ("steelyard/store.errSum", laid_steelyard_store_errSum), ("steelyard/store.errShard", laid_steelyard_store_errShard)], narrowed := true }
def StoreLongUptoSaid : Prop := storeLongUptoRow.holds Tryz.pinned (OpenSpec.upto storeLongSpec)

/-- 'steelyardlaw22.StoreCuts', WHERE WHAT IT READS IS OF BULK AT MOST 1048576: true; the input reads as it did. -/
def storeCutsUptoRow : OpenClaim := { program := "ytbplehaogncjoaagreatdoor", sum := "2308192149d6d7a2bd328c002af53a3c7340501720745cec2f980adea77385c0", func := "steelyard/steelyardlaw22.StoreCuts", spec := "storeCuts", inPlace := ["math.Float64bits", "math.Float64frombits", "internal/reflectlite.ValueOf", "(internal/reflectlite.Value).Type", "(internal/reflectlite.Value).IsNil", "internal/reflectlite.TypeOf", "(internal/reflectlite.Value).Elem", "(internal/reflectlite.Value).Set"], unfollowed := true, recurses := true, named := ["math/bits.deBruijn32tab", "steelyard/store.errForm", "steelyard/store.errTorn", "steelyard/store.errSum", "steelyard/store.errShard", "errors.errorType"], apart := false, laid := [("math/bits.deBruijn32tab", laid_math_bits_deBruijn32tab), ("errors.errorType", laid_errors_errorType), ("steelyard/store.errForm", laid_steelyard_store_errForm), ("steelyard/store.errTorn", laid_steelyard_store_errTorn), ("steelyard/store.errSum", laid_steelyard_store_errSum), ("steelyard/store.errShard", laid_steelyard_store_errShard)], narrowed := true }
def StoreCutsUptoSaid : Prop := storeCutsUptoRow.holds Tryz.pinned (OpenSpec.upto storeCutsSpec)

/-- 'steelyardlaw22.StoreTold', WHERE WHAT IT READS IS OF BULK AT MOST 1048576: true; the input reads as it did. -/
def storeToldUptoRow : OpenClaim := { program := "ytbplehaogncjoaagreatdoor", sum := "2308192149d6d7a2bd328c002af53a3c7340501720745cec2f980adea77385c0", func := "steelyard/steelyardlaw22.StoreTold", spec := "storeTold", inPlace := ["math.Float64bits", "math.Float64frombits", "internal/reflectlite.ValueOf", "(internal/reflectlite.Value).Type", "(internal/reflectlite.Value).IsNil", "internal/reflectlite.TypeOf", "(internal/reflectlite.Value).Elem", "(internal/reflectlite.Value).Set"], unfollowed := true, recurses := true, named := ["math/bits.deBruijn32tab", "steelyard/store.errForm", "steelyard/store.errTorn", "steelyard/store.errSum", "steelyard/store.errShard", "errors.errorType"], apart := false, laid := [("math/bits.deBruijn32tab", laid_math_bits_deBruijn32tab), ("errors.errorType", laid_errors_errorType), ("steelyard/store.errForm", laid_steelyard_store_errForm), ("steelyard/store.errTorn", laid_steelyard_store_errTorn), ("steelyard/store.errSum", laid_steelyard_store_errSum), ("steelyard/store.errShard", laid_steelyard_store_errShard)], narrowed := true }
def StoreToldUptoSaid : Prop := storeToldUptoRow.holds Tryz.pinned (OpenSpec.upto storeToldSpec)

/-- 'steelyardlaw22.StoreNumbers', WHERE WHAT IT READS IS OF BULK AT MOST 1048576: true; the input reads as it did. -/
def storeNumbersUptoRow : OpenClaim := { program := "ytbplehaogncjoaagreatdoor", sum := "2308192149d6d7a2bd328c002af53a3c7340501720745cec2f980adea77385c0", func := "steelyard/steelyardlaw22.StoreNumbers", spec := "storeNumbers", inPlace := ["math.Float64bits", "math.Float64frombits", "internal/reflectlite.ValueOf", "(internal/reflectlite.Value).Type", "(internal/reflectlite.Value).IsNil", "internal/reflectlite.TypeOf", "(internal/reflectlite.Value).Elem", "(internal/reflectlite.Value).Set"], unfollowed := true, recurses := true, named := ["math/bits.deBruijn32tab", "steelyard/store.errForm", "steelyard/store.errTorn", "steelyard/store.errSum", "steelyard/store.errShard", "errors.errorType"], apart := false, laid := [("math/bits.deBruijn32tab", laid_math_bits_deBruijn32tab), ("errors.errorType", laid_errors_errorType), ("steelyard/store.errForm", laid_steelyard_store_errForm), ("steelyard/store.errTorn", laid_steelyard_store_errTorn), ("steelyard/store.errSum", laid_steelyard_store_errSum), ("steelyard/store.errShard", laid_steelyard_store_errShard)], narrowed := true }
def StoreNumbersUptoSaid : Prop := storeNumbersUptoRow.holds Tryz.pinned (OpenSpec.upto storeNumbersSpec)

/-- 'steelyardlaw22.StoreCompacts', WHERE WHAT IT READS IS OF BULK AT MOST 1048576: true; the input reads as it did. -/
def storeCompactsUptoRow : OpenClaim := { program := "ytbplehaogncjoaagreatdoor", sum := "2308192149d6d7a2bd328c002af53a3c7340501720745cec2f980adea77385c0", func := "steelyard/steelyardlaw22.StoreCompacts", spec := "storeCompacts", inPlace := ["math.Float64bits", "math.Float64frombits", "internal/reflectlite.ValueOf", "(internal/reflectlite.Value).Type", "(internal/reflectlite.Value).IsNil", "internal/reflectlite.TypeOf", "(internal/reflectlite.Value).Elem", "(internal/reflectlite.Value).Set"], unfollowed := true, recurses := true, named := ["math/bits.deBruijn32tab", "steelyard/store.errForm", "steelyard/store.errTorn", "steelyard/store.errSum", "steelyard/store.errShard", "errors.errorType"], apart := false, laid := [("math/bits.deBruijn32tab", laid_math_bits_deBruijn32tab), ("errors.errorType", laid_errors_errorType), ("steelyard/store.errForm", laid_steelyard_store_errForm), ("steelyard/store.errTorn", laid_steelyard_store_errTorn), ("steelyard/store.errSum", laid_steelyard_store_errSum), ("steelyard/store.errShard", laid_steelyard_store_errShard)], narrowed := true }
def StoreCompactsUptoSaid : Prop := storeCompactsUptoRow.holds Tryz.pinned (OpenSpec.upto storeCompactsSpec)

end Rows
end Go.Proofs.YtbplehaogncjoaaGreatDoor
