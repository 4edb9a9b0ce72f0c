/-
  NARROWER THAN 'FOR EVERY INPUT', by the rows' own cells (each row's printed sentence says how): MeanOf: laid · MeanNearest: laid · MeanTrimmed: laid · MeanLong: laid · MeanSame: laid.
  DERIVED. THE GIVEN ROWS OF THIS SEAT. 5 by the template 'for every input the law returns true; each argument reads behind the call as it read before'; 0 by the template 'total and deterministic' (their statements: YtphnpchmdpjabaaGreatDoorTotals.lean).
  GIVEN WITH THE SEED: the statements are not yours to turn. If you find one false, say at which input.
  Laid BY PROGRAM, IN A SANDBOX (cutbox-rows.mjs): the forced cells as the released guide's own fill.sh prints them over the translation 25aab33d0ae6cd1a… (all of the seat's roots in one cut). By AI agents, Wed Nov 11 2026. No macro, syntax, notation, axiom, sorry.
-/
import Derived.Test.YtphnpchmdpjabaaGreatDoorChecked
import GoSem.Claim
import GoSem.ClaimJoined
import GoSem.ClaimMapViews
import Derived.JoinedTies
import Derived.KernelRfl
namespace Go.Proofs.YtphnpchmdpjabaaGreatDoor
/- THE CELL 'sum', in the pinned program and in every row, IS THE sha256 OF THE DUMP (.gsa) THAT YtphnpchmdpjabaaGreatDoorProg.lean LOADS. Nothing in Lean hashes anything: it is a label: what it is worth is what the hold of that sum in a sandbox is worth. -/
noncomputable def Tryz.pinned : Pinned := { name := "ytphnpchmdpjabaagreatdoor", sum := "25aab33d0ae6cd1a752c846dfaa4167560e1dd1ae323fc8a2389d2c2ccdb6fd8", checked := Tryz.checked }
namespace Rows
def none {H : Type} : Left H := { results := [], args := [] }

/- WHAT THE LISTED PACKAGE-LEVEL VARIABLES READ AS WHEN THE CALL BEGINS. Each datum BY PROGRAM (the guide's laid-datum.mjs) off the statement by which the dump's own 'gosem.cut.vars' lays the variable. In a bare row this is a premise. The card (YtphnpchmdpjabaaGreatDoorCards.lean) ties it to the program's text. -/
def laid_math_bits_deBruijn32tab {H : Type} : DataW H := .agg [.lit (.int .u8 0), .lit (.int .u8 1), .lit (.int .u8 28), .lit (.int .u8 2), .lit (.int .u8 29), .lit (.int .u8 14), .lit (.int .u8 24), .lit (.int .u8 3), .lit (.int .u8 30), .lit (.int .u8 22), .lit (.int .u8 20), .lit (.int .u8 15), .lit (.int .u8 25), .lit (.int .u8 17), .lit (.int .u8 4), .lit (.int .u8 8), .lit (.int .u8 31), .lit (.int .u8 27), .lit (.int .u8 13), .lit (.int .u8 23), .lit (.int .u8 21), .lit (.int .u8 19), .lit (.int .u8 16), .lit (.int .u8 7), .lit (.int .u8 26), .lit (.int .u8 12), .lit (.int .u8 18), .lit (.int .u8 6), .lit (.int .u8 11), .lit (.int .u8 5), .lit (.int .u8 10), .lit (.int .u8 9)]

/-- 'steelyardlaw13.MeanOf': WHATEVER THE INPUT: true; the input reads as it did. -/
def meanOfSpec : ChangeSpec := { name := "meanOf", fn := fun _ => fun
  | [d1, d2, d3] => { results := [.lit (.bool true)], args := [d1, d2, d3] }
  | _ => none }
def meanOfRow : OpenClaim := { program := "ytphnpchmdpjabaagreatdoor", sum := "25aab33d0ae6cd1a752c846dfaa4167560e1dd1ae323fc8a2389d2c2ccdb6fd8", func := "steelyard/steelyardlaw13.MeanOf", spec := "meanOf", inPlace := ["math.Float64bits", "math.Float64frombits", "math/bits.Sub64", "math/bits.Add64"], unfollowed := true, recurses := true, named := ["math/bits.deBruijn32tab"], apart := false, laid := [("math/bits.deBruijn32tab", laid_math_bits_deBruijn32tab)] }
def MeanOfSaid : Prop := meanOfRow.holds Tryz.pinned (OpenSpec.ofChange meanOfSpec)

/-- ITS FALSE NEIGHBOUR: 'it returns false'. Refute it at one input. -/
def meanOfWrong : ChangeSpec := { name := "meanOf", fn := fun _ => fun
  | [d1, d2, d3] => { results := [.lit (.bool false)], args := [d1, d2, d3] }
  | _ => none }
def MeanOfWrongFalsely : Prop := meanOfRow.holds Tryz.pinned (OpenSpec.ofChange meanOfWrong)

/-- 'steelyardlaw13.MeanNearest': WHATEVER THE INPUT: true; the input reads as it did. -/
def meanNearestSpec : ChangeSpec := { name := "meanNearest", fn := fun _ => fun
  | [d] => { results := [.lit (.bool true)], args := [d] }
  | _ => none }
def meanNearestRow : OpenClaim := { program := "ytphnpchmdpjabaagreatdoor", sum := "25aab33d0ae6cd1a752c846dfaa4167560e1dd1ae323fc8a2389d2c2ccdb6fd8", func := "steelyard/steelyardlaw13.MeanNearest", spec := "meanNearest", inPlace := ["math.Float64bits", "math.Float64frombits", "math/bits.Sub64", "math/bits.Add64"], unfollowed := true, recurses := true, named := ["math/bits.deBruijn32tab"], apart := false, laid := [("math/bits.deBruijn32tab", laid_math_bits_deBruijn32tab)] }
def MeanNearestSaid : Prop := meanNearestRow.holds Tryz.pinned (OpenSpec.ofChange meanNearestSpec)

/-- ITS FALSE NEIGHBOUR: 'it returns false'. Refute it at one input. -/
def meanNearestWrong : ChangeSpec := { name := "meanNearest", fn := fun _ => fun
  | [d] => { results := [.lit (.bool false)], args := [d] }
  | _ => none }
def MeanNearestWrongFalsely : Prop := meanNearestRow.holds Tryz.pinned (OpenSpec.ofChange meanNearestWrong)

/-- 'steelyardlaw13.MeanTrimmed': WHATEVER THE INPUT: true; the input reads as it did. -/
def meanTrimmedSpec : ChangeSpec := { name := "meanTrimmed", fn := fun _ => fun
  | [d1, d2, d3] => { results := [.lit (.bool true)], args := [d1, d2, d3] }
  | _ => none }
def meanTrimmedRow : OpenClaim := { program := "ytphnpchmdpjabaagreatdoor", sum := "25aab33d0ae6cd1a752c846dfaa4167560e1dd1ae323fc8a2389d2c2ccdb6fd8", func := "steelyard/steelyardlaw13.MeanTrimmed", spec := "meanTrimmed", inPlace := ["math.Float64bits", "math.Float64frombits", "math/bits.Sub64", "math/bits.Add64"], unfollowed := true, recurses := true, named := ["math/bits.deBruijn32tab"], apart := false, laid := [("math/bits.deBruijn32tab", laid_math_bits_deBruijn32tab)] }
def MeanTrimmedSaid : Prop := meanTrimmedRow.holds Tryz.pinned (OpenSpec.ofChange meanTrimmedSpec)

/-- ITS FALSE NEIGHBOUR: 'it returns false'. Refute it at one input. -/
def meanTrimmedWrong : ChangeSpec := { name := "meanTrimmed", fn := fun _ => fun
  | [d1, d2, d3] => { results := [.lit (.bool false)], args := [d1, d2, d3] }
  | _ => none }
def MeanTrimmedWrongFalsely : Prop := meanTrimmedRow.holds Tryz.pinned (OpenSpec.ofChange meanTrimmedWrong)

/-- 'steelyardlaw13.MeanLong': WHATEVER THE INPUT: true; the input reads as it did. -/
def meanLongSpec : ChangeSpec := { name := "meanLong", fn := fun _ => fun
  | [d1, d2, d3] => { results := [.lit (.bool true)], args := [d1, d2, d3] }
  | _ => none }
def meanLongRow : OpenClaim := { program := "ytphnpchmdpjabaagreatdoor", sum := "25aab33d0ae6cd1a752c846dfaa4167560e1dd1ae323fc8a2389d2c2ccdb6fd8", func := "steelyard/steelyardlaw13.MeanLong", spec := "meanLong", inPlace := ["math.Float64bits", "math.Float64frombits", "math/bits.Sub64", "math/bits.Add64"], unfollowed := true, recurses := true, named := ["math/bits.deBruijn32tab"], apart := false, laid := [("math/bits.deBruijn32tab", laid_math_bits_deBruijn32tab)] }
def MeanLongSaid : Prop := meanLongRow.holds Tryz.pinned (OpenSpec.ofChange meanLongSpec)

/-- ITS FALSE NEIGHBOUR: 'it returns false'. Refute it at one input. -/
def meanLongWrong : ChangeSpec := { name := "meanLong", fn := fun _ => fun
  | [d1, d2, d3] => { results := [.lit (.bool false)], args := [d1, d2, d3] }
  | _ => none }
def MeanLongWrongFalsely : Prop := meanLongRow.holds Tryz.pinned (OpenSpec.ofChange meanLongWrong)

/-- 'steelyardlaw13.MeanSame': WHATEVER THE INPUT: true; the input reads as it did. -/
def meanSameSpec : ChangeSpec := { name := "meanSame", fn := fun _ => fun
  | [d1, d2, d3] => { results := [.lit (.bool true)], args := [d1, d2, d3] }
  | _ => none }
def meanSameRow : OpenClaim := { program := "ytphnpchmdpjabaagreatdoor", sum := "25aab33d0ae6cd1a752c846dfaa4167560e1dd1ae323fc8a2389d2c2ccdb6fd8", func := "steelyard/steelyardlaw13.MeanSame", spec := "meanSame", inPlace := ["math.Float64bits", "math.Float64frombits", "math/bits.Sub64", "math/bits.Add64"], unfollowed := true, recurses := true, named := ["math/bits.deBruijn32tab"], apart := false, laid := [("math/bits.deBruijn32tab", laid_math_bits_deBruijn32tab)] }
def MeanSameSaid : Prop := meanSameRow.holds Tryz.pinned (OpenSpec.ofChange meanSameSpec)

/-- ITS FALSE NEIGHBOUR: 'it returns false'. Refute it at one input. -/
def meanSameWrong : ChangeSpec := { name := "meanSame", fn := fun _ => fun
  | [d1, d2, d3] => { results := [.lit (.bool false)], args := [d1, d2, d3] }
  | _ => none }
def MeanSameWrongFalsely : Prop := meanSameRow.holds Tryz.pinned (OpenSpec.ofChange meanSameWrong)

/- THE SECOND FORM. 'bulk': how many values and letters a reading holds, each counted each time it is reached (what is shared counts as often as it is met; a slice's spare places count too). A statement '..UptoSaid' is the law's where the arguments, and the package variables that the reading takes, are together of bulk at most 1048576: NARROWER than '..Said'. Prove '..Said' where nothing that the law and all that it calls make is longer than what came in: it says more and counts as full. Else prove '..UptoSaid'. A law counts once. -/
mutual
def uptoBulk {H : Type} : DataW H → Nat
  | .lit (.string bytes) => bytes.length + 1
  | .lit _ => 1
  | .nil => 1
  | .ptr d => uptoBulk d + 1
  | .slice elems spare => uptoBulkAll elems + uptoBulkAll spare + 1
  | .agg parts => uptoBulkAll parts + 1
  | .iface _ d => uptoBulk d + 1
  | .map entries => uptoBulkEntries entries + 1
  | .held _ => 1
def uptoBulkAll {H : Type} : List (DataW H) → Nat
  | [] => 0
  | d :: r => uptoBulk d + uptoBulkAll r
def uptoBulkEntries {H : Type} : List (Lit × DataW H) → Nat
  | [] => 0
  | x :: r => uptoBulkEntry x + uptoBulkEntries r
def uptoBulkEntry {H : Type} : Lit × DataW H → Nat
  | (.string bytes, d) => bytes.length + uptoBulk d + 1
  | (_, d) => uptoBulk d + 1
 end
def uptoSmall : (H : Type) → List (DataW H) → Bool := fun _ ds => decide (uptoBulkAll ds ≤ 1048576)
def OpenSpec.upto (s : _root_.Go.ChangeSpec) : _root_.Go.OpenSpec := { _root_.Go.OpenSpec.ofChange s with cond := some uptoSmall }

/-- 'steelyardlaw13.MeanOf', WHERE WHAT IT READS IS OF BULK AT MOST 1048576: true; the input reads as it did. -/
def meanOfUptoRow : OpenClaim := { program := "ytphnpchmdpjabaagreatdoor", sum := "25aab33d0ae6cd1a752c846dfaa4167560e1dd1ae323fc8a2389d2c2ccdb6fd8", func := "steelyard/steelyardlaw13.MeanOf", spec := "meanOf", inPlace := ["math.Float64bits", "math.Float64frombits", "math/bits.Sub64", "math/bits.Add64"], unfollowed := true, recurses := true, named := ["math/bits.deBruijn32tab"], apart := false, laid := [("math/bits.deBruijn32tab", laid_math_bits_deBruijn32tab)], narrowed := true }
def MeanOfUptoSaid : Prop := meanOfUptoRow.holds Tryz.pinned (OpenSpec.upto meanOfSpec)

/-- 'steelyardlaw13.MeanNearest', WHERE WHAT IT READS IS OF BULK AT MOST 1048576: true; the input reads as it did. -/
def meanNearestUptoRow : OpenClaim := { program := "ytphnpchmdpjabaagreatdoor", sum := "25aab33d0ae6cd1a752c846dfaa4167560e1dd1ae323fc8a2389d2c2ccdb6fd8", func := "steelyard/steelyardlaw13.MeanNearest", spec := "meanNearest", inPlace := ["math.Float64bits", "math.Float64frombits", "math/bits.Sub64", "math/bits.Add64"], unfollowed := true, recurses := true, named := ["math/bits.deBruijn32tab"], apart := false, laid := [("math/bits.deBruijn32tab", laid_math_bits_deBruijn32tab)], narrowed := true }
def MeanNearestUptoSaid : Prop := meanNearestUptoRow.holds Tryz.pinned (OpenSpec.upto meanNearestSpec)

/-- 'steelyardlaw13.MeanTrimmed', WHERE WHAT IT READS IS OF BULK AT MOST 1048576: true; the input reads as it did. -/
def meanTrimmedUptoRow : OpenClaim := { program := "ytphnpchmdpjabaagreatdoor", sum := "25aab33d0ae6cd1a752c846dfaa4167560e1dd1ae323fc8a2389d2c2ccdb6fd8", func := "steelyard/steelyardlaw13.MeanTrimmed", spec := "meanTrimmed", inPlace := ["math.Float64bits", "math.Float64frombits", "math/bits.Sub64", "math/bits.Add64"], unfollowed := true, recurses := true, named := ["math/bits.deBruijn32tab"], apart := false, laid := [("math/bits.deBruijn32tab", laid_math_bits_deBruijn32tab)], narrowed := true }
def MeanTrimmedUptoSaid : Prop := meanTrimmedUptoRow.holds Tryz.pinned (OpenSpec.upto meanTrimmedSpec)

/-- 'steelyardlaw13.MeanLong', WHERE WHAT IT READS IS OF BULK AT MOST 1048576: true; the input reads as it did. -/
def meanLongUptoRow : OpenClaim := { program := "ytphnpchmdpjabaagreatdoor", sum := "25aab33d0ae6cd1a752c846dfaa4167560e1dd1ae323fc8a2389d2c2ccdb6fd8", func := "steelyard/steelyardlaw13.MeanLong", spec := "meanLong", inPlace := ["math.Float64bits", "math.Float64frombits", "math/bits.Sub64", "math/bits.Add64"], unfollowed := true, recurses := true, named := ["math/bits.deBruijn32tab"], apart := false, laid := [("math/bits.deBruijn32tab", laid_math_bits_deBruijn32tab)], narrowed := true }
def MeanLongUptoSaid : Prop := meanLongUptoRow.holds Tryz.pinned (OpenSpec.upto meanLongSpec)

/-- 'steelyardlaw13.MeanSame', WHERE WHAT IT READS IS OF BULK AT MOST 1048576: true; the input reads as it did. -/
def meanSameUptoRow : OpenClaim := { program := "ytphnpchmdpjabaagreatdoor", sum := "25aab33d0ae6cd1a752c846dfaa4167560e1dd1ae323fc8a2389d2c2ccdb6fd8", func := "steelyard/steelyardlaw13.MeanSame", spec := "meanSame", inPlace := ["math.Float64bits", "math.Float64frombits", "math/bits.Sub64", "math/bits.Add64"], unfollowed := true, recurses := true, named := ["math/bits.deBruijn32tab"], apart := false, laid := [("math/bits.deBruijn32tab", laid_math_bits_deBruijn32tab)], narrowed := true }
def MeanSameUptoSaid : Prop := meanSameUptoRow.holds Tryz.pinned (OpenSpec.upto meanSameSpec)

end Rows
end Go.Proofs.YtphnpchmdpjabaaGreatDoor
