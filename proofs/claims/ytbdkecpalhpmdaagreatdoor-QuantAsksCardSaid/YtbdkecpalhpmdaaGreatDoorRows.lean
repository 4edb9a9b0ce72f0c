/-
  NARROWER THAN 'FOR EVERY INPUT', by the rows' own cells (each row's printed sentence says how): QuantNumbers: laid · QuantAsks: laid · QuantSeveral: laid · QuantShares: laid · QuantLong: laid · QuantOrder: laid · QuantRises: laid · QuantCovers: laid · QuantMedian: laid.
  DERIVED. THE GIVEN ROWS OF THIS SEAT. 9 by the template 'for every input the law returns true; each argument reads behind the call as it read before'; 0 by the template 'total and deterministic' (their statements: YtbdkecpalhpmdaaGreatDoorTotals.lean).
  GIVEN WITH THE SEED: the statements are not yours to turn. If you find one false, say at which input.
  Laid BY PROGRAM, IN A SANDBOX (cutbox-rows.mjs): the forced cells as the released guide's own fill.sh prints them over the translation b7627555327f4401… (all of the seat's roots in one cut). By AI agents, Wed Nov 11 2026. No macro, syntax, notation, axiom, sorry.
-/
import Derived.Test.YtbdkecpalhpmdaaGreatDoorChecked
import GoSem.Claim
import GoSem.ClaimJoined
import GoSem.ClaimMapViews
import Derived.JoinedTies
import Derived.KernelRfl
namespace Go.Proofs.YtbdkecpalhpmdaaGreatDoor
/- THE CELL 'sum', in the pinned program and in every row, IS THE sha256 OF THE DUMP (.gsa) THAT YtbdkecpalhpmdaaGreatDoorProg.lean LOADS. Nothing in Lean hashes anything: it is a label: what it is worth is what the hold of that sum in a sandbox is worth. -/
noncomputable def Tryz.pinned : Pinned := { name := "ytbdkecpalhpmdaagreatdoor", sum := "b7627555327f44019ab7925a84d8f7ec2f2a56828ecee35ddabb682f3c166fdf", checked := Tryz.checked }
namespace Rows
def none {H : Type} : Left H := { results := [], args := [] }

/- WHAT THE LISTED PACKAGE-LEVEL VARIABLES READ AS WHEN THE CALL BEGINS. Each datum BY PROGRAM (the guide's laid-datum.mjs) off the statement by which the dump's own 'gosem.cut.vars' lays the variable. In a bare row this is a premise. The card (YtbdkecpalhpmdaaGreatDoorCards.lean) ties it to the program's text. -/
def laid_math_bits_deBruijn32tab {H : Type} : DataW H := .agg [.lit (.int .u8 0), .lit (.int .u8 1), .lit (.int .u8 28), .lit (.int .u8 2), .lit (.int .u8 29), .lit (.int .u8 14), .lit (.int .u8 24), .lit (.int .u8 3), .lit (.int .u8 30), .lit (.int .u8 22), .lit (.int .u8 20), .lit (.int .u8 15), .lit (.int .u8 25), .lit (.int .u8 17), .lit (.int .u8 4), .lit (.int .u8 8), .lit (.int .u8 31), .lit (.int .u8 27), .lit (.int .u8 13), .lit (.int .u8 23), .lit (.int .u8 21), .lit (.int .u8 19), .lit (.int .u8 16), .lit (.int .u8 7), .lit (.int .u8 26), .lit (.int .u8 12), .lit (.int .u8 18), .lit (.int .u8 6), .lit (.int .u8 11), .lit (.int .u8 5), .lit (.int .u8 10), .lit (.int .u8 9)]

/-- 'steelyardlaw16.QuantNumbers': WHATEVER THE INPUT: true; the input reads as it did. -/
def quantNumbersSpec : ChangeSpec := { name := "quantNumbers", fn := fun _ => fun
  | [] => { results := [.lit (.bool true)], args := [] }
  | _ => none }
def quantNumbersRow : OpenClaim := { program := "ytbdkecpalhpmdaagreatdoor", sum := "b7627555327f44019ab7925a84d8f7ec2f2a56828ecee35ddabb682f3c166fdf", func := "steelyard/steelyardlaw16.QuantNumbers", spec := "quantNumbers", inPlace := ["math.Float64bits", "math.Float64frombits", "math/bits.Sub64", "math/bits.Add64"], unfollowed := true, recurses := true, named := ["math/bits.deBruijn32tab"], apart := false, laid := [("math/bits.deBruijn32tab", laid_math_bits_deBruijn32tab)] }
def QuantNumbersSaid : Prop := quantNumbersRow.holds Tryz.pinned (OpenSpec.ofChange quantNumbersSpec)

/-- ITS FALSE NEIGHBOUR: 'it returns false'. Refute it at one input. -/
def quantNumbersWrong : ChangeSpec := { name := "quantNumbers", fn := fun _ => fun
  | [] => { results := [.lit (.bool false)], args := [] }
  | _ => none }
def QuantNumbersWrongFalsely : Prop := quantNumbersRow.holds Tryz.pinned (OpenSpec.ofChange quantNumbersWrong)

/-- 'steelyardlaw16.QuantAsks': WHATEVER THE INPUT: true; the input reads as it did. -/
def quantAsksSpec : ChangeSpec := { name := "quantAsks", fn := fun _ => fun
  | [d1, d2] => { results := [.lit (.bool true)], args := [d1, d2] }
  | _ => none }
def quantAsksRow : OpenClaim := { program := "ytbdkecpalhpmdaagreatdoor", sum := "b7627555327f44019ab7925a84d8f7ec2f2a56828ecee35ddabb682f3c166fdf", func := "steelyard/steelyardlaw16.QuantAsks", spec := "quantAsks", inPlace := ["math.Float64bits", "math.Float64frombits", "math/bits.Sub64", "math/bits.Add64"], unfollowed := true, recurses := true, named := ["math/bits.deBruijn32tab"], apart := false, laid := [("math/bits.deBruijn32tab", laid_math_bits_deBruijn32tab)] }
def QuantAsksSaid : Prop := quantAsksRow.holds Tryz.pinned (OpenSpec.ofChange quantAsksSpec)

/-- ITS FALSE NEIGHBOUR: 'it returns false'. Refute it at one input. -/
def quantAsksWrong : ChangeSpec := { name := "quantAsks", fn := fun _ => fun
  | [d1, d2] => { results := [.lit (.bool false)], args := [d1, d2] }
  | _ => none }
def QuantAsksWrongFalsely : Prop := quantAsksRow.holds Tryz.pinned (OpenSpec.ofChange quantAsksWrong)

/-- 'steelyardlaw16.QuantSeveral': WHATEVER THE INPUT: true; the input reads as it did. -/
def quantSeveralSpec : ChangeSpec := { name := "quantSeveral", fn := fun _ => fun
  | [d1, d2, d3, d4] => { results := [.lit (.bool true)], args := [d1, d2, d3, d4] }
  | _ => none }
def quantSeveralRow : OpenClaim := { program := "ytbdkecpalhpmdaagreatdoor", sum := "b7627555327f44019ab7925a84d8f7ec2f2a56828ecee35ddabb682f3c166fdf", func := "steelyard/steelyardlaw16.QuantSeveral", spec := "quantSeveral", inPlace := ["math.Float64bits", "math.Float64frombits", "math/bits.Sub64", "math/bits.Add64"], unfollowed := true, recurses := true, named := ["math/bits.deBruijn32tab"], apart := false, laid := [("math/bits.deBruijn32tab", laid_math_bits_deBruijn32tab)] }
def QuantSeveralSaid : Prop := quantSeveralRow.holds Tryz.pinned (OpenSpec.ofChange quantSeveralSpec)

/-- ITS FALSE NEIGHBOUR: 'it returns false'. Refute it at one input. -/
def quantSeveralWrong : ChangeSpec := { name := "quantSeveral", fn := fun _ => fun
  | [d1, d2, d3, d4] => { results := [.lit (.bool false)], args := [d1, d2, d3, d4] }
  | _ => none }
def QuantSeveralWrongFalsely : Prop := quantSeveralRow.holds Tryz.pinned (OpenSpec.ofChange quantSeveralWrong)

/-- 'steelyardlaw16.QuantShares': WHATEVER THE INPUT: true; the input reads as it did. -/
def quantSharesSpec : ChangeSpec := { name := "quantShares", fn := fun _ => fun
  | [d1, d2] => { results := [.lit (.bool true)], args := [d1, d2] }
  | _ => none }
def quantSharesRow : OpenClaim := { program := "ytbdkecpalhpmdaagreatdoor", sum := "b7627555327f44019ab7925a84d8f7ec2f2a56828ecee35ddabb682f3c166fdf", func := "steelyard/steelyardlaw16.QuantShares", spec := "quantShares", inPlace := ["math.Float64bits", "math.Float64frombits", "math/bits.Sub64", "math/bits.Add64"], unfollowed := true, recurses := true, named := ["math/bits.deBruijn32tab"], apart := false, laid := [("math/bits.deBruijn32tab", laid_math_bits_deBruijn32tab)] }
def QuantSharesSaid : Prop := quantSharesRow.holds Tryz.pinned (OpenSpec.ofChange quantSharesSpec)

/-- ITS FALSE NEIGHBOUR: 'it returns false'. Refute it at one input. -/
def quantSharesWrong : ChangeSpec := { name := "quantShares", fn := fun _ => fun
  | [d1, d2] => { results := [.lit (.bool false)], args := [d1, d2] }
  | _ => none }
def QuantSharesWrongFalsely : Prop := quantSharesRow.holds Tryz.pinned (OpenSpec.ofChange quantSharesWrong)

/-- 'steelyardlaw16.QuantLong': WHATEVER THE INPUT: true; the input reads as it did. -/
def quantLongSpec : ChangeSpec := { name := "quantLong", fn := fun _ => fun
  | [d1, d2] => { results := [.lit (.bool true)], args := [d1, d2] }
  | _ => none }
def quantLongRow : OpenClaim := { program := "ytbdkecpalhpmdaagreatdoor", sum := "b7627555327f44019ab7925a84d8f7ec2f2a56828ecee35ddabb682f3c166fdf", func := "steelyard/steelyardlaw16.QuantLong", spec := "quantLong", inPlace := ["math.Float64bits", "math.Float64frombits", "math/bits.Sub64", "math/bits.Add64"], unfollowed := true, recurses := true, named := ["math/bits.deBruijn32tab"], apart := false, laid := [("math/bits.deBruijn32tab", laid_math_bits_deBruijn32tab)] }
def QuantLongSaid : Prop := quantLongRow.holds Tryz.pinned (OpenSpec.ofChange quantLongSpec)

/-- ITS FALSE NEIGHBOUR: 'it returns false'. Refute it at one input. -/
def quantLongWrong : ChangeSpec := { name := "quantLong", fn := fun _ => fun
  | [d1, d2] => { results := [.lit (.bool false)], args := [d1, d2] }
  | _ => none }
def QuantLongWrongFalsely : Prop := quantLongRow.holds Tryz.pinned (OpenSpec.ofChange quantLongWrong)

/-- 'steelyardlaw16.QuantOrder': WHATEVER THE INPUT: true; the input reads as it did. -/
def quantOrderSpec : ChangeSpec := { name := "quantOrder", fn := fun _ => fun
  | [d1, d2, d3] => { results := [.lit (.bool true)], args := [d1, d2, d3] }
  | _ => none }
def quantOrderRow : OpenClaim := { program := "ytbdkecpalhpmdaagreatdoor", sum := "b7627555327f44019ab7925a84d8f7ec2f2a56828ecee35ddabb682f3c166fdf", func := "steelyard/steelyardlaw16.QuantOrder", spec := "quantOrder", inPlace := ["math.Float64bits", "math.Float64frombits", "math/bits.Sub64", "math/bits.Add64"], unfollowed := true, recurses := true, named := ["math/bits.deBruijn32tab"], apart := false, laid := [("math/bits.deBruijn32tab", laid_math_bits_deBruijn32tab)] }
def QuantOrderSaid : Prop := quantOrderRow.holds Tryz.pinned (OpenSpec.ofChange quantOrderSpec)

/-- ITS FALSE NEIGHBOUR: 'it returns false'. Refute it at one input. -/
def quantOrderWrong : ChangeSpec := { name := "quantOrder", fn := fun _ => fun
  | [d1, d2, d3] => { results := [.lit (.bool false)], args := [d1, d2, d3] }
  | _ => none }
def QuantOrderWrongFalsely : Prop := quantOrderRow.holds Tryz.pinned (OpenSpec.ofChange quantOrderWrong)

/-- 'steelyardlaw16.QuantRises': WHATEVER THE INPUT: true; the input reads as it did. -/
def quantRisesSpec : ChangeSpec := { name := "quantRises", fn := fun _ => fun
  | [d1, d2, d3] => { results := [.lit (.bool true)], args := [d1, d2, d3] }
  | _ => none }
def quantRisesRow : OpenClaim := { program := "ytbdkecpalhpmdaagreatdoor", sum := "b7627555327f44019ab7925a84d8f7ec2f2a56828ecee35ddabb682f3c166fdf", func := "steelyard/steelyardlaw16.QuantRises", spec := "quantRises", inPlace := ["math.Float64bits", "math.Float64frombits", "math/bits.Sub64", "math/bits.Add64"], unfollowed := true, recurses := true, named := ["math/bits.deBruijn32tab"], apart := false, laid := [("math/bits.deBruijn32tab", laid_math_bits_deBruijn32tab)] }
def QuantRisesSaid : Prop := quantRisesRow.holds Tryz.pinned (OpenSpec.ofChange quantRisesSpec)

/-- ITS FALSE NEIGHBOUR: 'it returns false'. Refute it at one input. -/
def quantRisesWrong : ChangeSpec := { name := "quantRises", fn := fun _ => fun
  | [d1, d2, d3] => { results := [.lit (.bool false)], args := [d1, d2, d3] }
  | _ => none }
def QuantRisesWrongFalsely : Prop := quantRisesRow.holds Tryz.pinned (OpenSpec.ofChange quantRisesWrong)

/-- 'steelyardlaw16.QuantCovers': WHATEVER THE INPUT: true; the input reads as it did. -/
def quantCoversSpec : ChangeSpec := { name := "quantCovers", fn := fun _ => fun
  | [d1, d2] => { results := [.lit (.bool true)], args := [d1, d2] }
  | _ => none }
def quantCoversRow : OpenClaim := { program := "ytbdkecpalhpmdaagreatdoor", sum := "b7627555327f44019ab7925a84d8f7ec2f2a56828ecee35ddabb682f3c166fdf", func := "steelyard/steelyardlaw16.QuantCovers", spec := "quantCovers", inPlace := ["math.Float64bits", "math.Float64frombits", "math/bits.Sub64", "math/bits.Add64"], unfollowed := true, recurses := true, named := ["math/bits.deBruijn32tab"], apart := false, laid := [("math/bits.deBruijn32tab", laid_math_bits_deBruijn32tab)] }
def QuantCoversSaid : Prop := quantCoversRow.holds Tryz.pinned (OpenSpec.ofChange quantCoversSpec)

/-- ITS FALSE NEIGHBOUR: 'it returns false'. Refute it at one input. -/
def quantCoversWrong : ChangeSpec := { name := "quantCovers", fn := fun _ => fun
  | [d1, d2] => { results := [.lit (.bool false)], args := [d1, d2] }
  | _ => none }
def QuantCoversWrongFalsely : Prop := quantCoversRow.holds Tryz.pinned (OpenSpec.ofChange quantCoversWrong)

/-- 'steelyardlaw16.QuantMedian': WHATEVER THE INPUT: true; the input reads as it did. -/
def quantMedianSpec : ChangeSpec := { name := "quantMedian", fn := fun _ => fun
  | [d1, d2] => { results := [.lit (.bool true)], args := [d1, d2] }
  | _ => none }
def quantMedianRow : OpenClaim := { program := "ytbdkecpalhpmdaagreatdoor", sum := "b7627555327f44019ab7925a84d8f7ec2f2a56828ecee35ddabb682f3c166fdf", func := "steelyard/steelyardlaw16.QuantMedian", spec := "quantMedian", inPlace := ["math.Float64bits", "math.Float64frombits", "math/bits.Sub64", "math/bits.Add64"], unfollowed := true, recurses := true, named := ["math/bits.deBruijn32tab"], apart := false, laid := [("math/bits.deBruijn32tab", laid_math_bits_deBruijn32tab)] }
def QuantMedianSaid : Prop := quantMedianRow.holds Tryz.pinned (OpenSpec.ofChange quantMedianSpec)

/-- ITS FALSE NEIGHBOUR: 'it returns false'. Refute it at one input. -/
def quantMedianWrong : ChangeSpec := { name := "quantMedian", fn := fun _ => fun
  | [d1, d2] => { results := [.lit (.bool false)], args := [d1, d2] }
  | _ => none }
def QuantMedianWrongFalsely : Prop := quantMedianRow.holds Tryz.pinned (OpenSpec.ofChange quantMedianWrong)

/- THE SECOND FORM. 'bulk': how many values and letters a reading holds, each counted each time it is reached (what is shared counts as often as it is met; a slice's spare places count too). A statement '..UptoSaid' is the law's where the arguments, and the package variables that the reading takes, are together of bulk at most 1048576: NARROWER than '..Said'. Prove '..Said' where nothing that the law and all that it calls make is longer than what came in: it says more and counts as full. Else prove '..UptoSaid'. A law counts once. -/
mutual
def uptoBulk {H : Type} : DataW H → Nat
  | .lit (.string bytes) => bytes.length + 1
  | .lit _ => 1
  | .nil => 1
  | .ptr d => uptoBulk d + 1
  | .slice elems spare => uptoBulkAll elems + uptoBulkAll spare + 1
  | .agg parts => uptoBulkAll parts + 1
  | .iface _ d => uptoBulk d + 1
  | .map entries => uptoBulkEntries entries + 1
  | .held _ => 1
def uptoBulkAll {H : Type} : List (DataW H) → Nat
  | [] => 0
  | d :: r => uptoBulk d + uptoBulkAll r
def uptoBulkEntries {H : Type} : List (Lit × DataW H) → Nat
  | [] => 0
  | x :: r => uptoBulkEntry x + uptoBulkEntries r
def uptoBulkEntry {H : Type} : Lit × DataW H → Nat
  | (.string bytes, d) => bytes.length + uptoBulk d + 1
  | (_, d) => uptoBulk d + 1
 end
def uptoSmall : (H : Type) → List (DataW H) → Bool := fun _ ds => decide (uptoBulkAll ds ≤ 1048576)
def OpenSpec.upto (s : _root_.Go.ChangeSpec) : _root_.Go.OpenSpec := { _root_.Go.OpenSpec.ofChange s with cond := some uptoSmall }

/-- 'steelyardlaw16.QuantNumbers', WHERE WHAT IT READS IS OF BULK AT MOST 1048576: true; the input reads as it did. -/
def quantNumbersUptoRow : OpenClaim := { program := "ytbdkecpalhpmdaagreatdoor", sum := "b7627555327f44019ab7925a84d8f7ec2f2a56828ecee35ddabb682f3c166fdf", func := "steelyard/steelyardlaw16.QuantNumbers", spec := "quantNumbers", inPlace := ["math.Float64bits", "math.Float64frombits", "math/bits.Sub64", "math/bits.Add64"], unfollowed := true, recurses := true, named := ["math/bits.deBruijn32tab"], apart := false, laid := [("math/bits.deBruijn32tab", laid_math_bits_deBruijn32tab)], narrowed := true }
def QuantNumbersUptoSaid : Prop := quantNumbersUptoRow.holds Tryz.pinned (OpenSpec.upto quantNumbersSpec)

/-- 'steelyardlaw16.QuantAsks', WHERE WHAT IT READS IS OF BULK AT MOST 1048576: true; the input reads as it did. -/
def quantAsksUptoRow : OpenClaim := { program := "ytbdkecpalhpmdaagreatdoor", sum := "b7627555327f44019ab7925a84d8f7ec2f2a56828ecee35ddabb682f3c166fdf", func := "steelyard/steelyardlaw16.QuantAsks", spec := "quantAsks", inPlace := ["math.Float64bits", "math.Float64frombits", "math/bits.Sub64", "math/bits.Add64"], unfollowed := true, recurses := true, named := ["math/bits.deBruijn32tab"], apart := false, laid := [("math/bits.deBruijn32tab", laid_math_bits_deBruijn32tab)], narrowed := true }
def QuantAsksUptoSaid : Prop := quantAsksUptoRow.holds Tryz.pinned (OpenSpec.upto quantAsksSpec)

/-- 'steelyardlaw16.QuantSeveral', WHERE WHAT IT READS IS OF BULK AT MOST 1048576: true; the input reads as it did. -/
def quantSeveralUptoRow : OpenClaim := { program := "ytbdkecpalhpmdaagreatdoor", sum := "b7627555327f44019ab7925a84d8f7ec2f2a56828ecee35ddabb682f3c166fdf", func := "steelyard/steelyardlaw16.QuantSeveral", spec := "quantSeveral", inPlace := ["math.Float64bits", "math.Float64frombits", "math/bits.Sub64", "math/bits.Add64"], unfollowed := true, recurses := true, named := ["math/bits.deBruijn32tab"], apart := false, laid := [("math/bits.deBruijn32tab", laid_math_bits_deBruijn32tab)], narrowed := true }
def QuantSeveralUptoSaid : Prop := quantSeveralUptoRow.holds Tryz.pinned (OpenSpec.upto quantSeveralSpec)

/-- 'steelyardlaw16.QuantShares', WHERE WHAT IT READS IS OF BULK AT MOST 1048576: true; the input reads as it did. -/
def quantSharesUptoRow : OpenClaim := { program := "ytbdkecpalhpmdaagreatdoor", sum := "b7627555327f44019ab7925a84d8f7ec2f2a56828ecee35ddabb682f3c166fdf", func := "steelyard/steelyardlaw16.QuantShares", spec := "quantShares", inPlace := ["math.Float64bits", "math.Float64frombits", "math/bits.Sub64", "math/bits.Add64"], unfollowed := true, recurses := true, named := ["math/bits.deBruijn32tab"], apart := false, laid := [("math/bits.deBruijn32tab", laid_math_bits_deBruijn32tab)], narrowed := true }
def QuantSharesUptoSaid : Prop := quantSharesUptoRow.holds Tryz.pinned (OpenSpec.upto quantSharesSpec)

/-- 'steelyardlaw16.QuantLong', WHERE WHAT IT READS IS OF BULK AT MOST 1048576: true; the input reads as it did. -/
def quantLongUptoRow : OpenClaim := { program := "ytbdkecpalhpmdaagreatdoor", sum := "b7627555327f44019ab7925a84d8f7ec2f2a56828ecee35ddabb682f3c166fdf", func := "steelyard/steelyardlaw16.QuantLong", spec := "quantLong", inPlace := ["math.Float64bits", "math.Float64frombits", "math/bits.Sub64", "math/bits.Add64"], unfollowed := true, recurses := true, named := ["math/bits.deBruijn32tab"], apart := false, laid := [("math/bits.deBruijn32tab", laid_math_bits_deBruijn32tab)], narrowed := true }
def QuantLongUptoSaid : Prop := quantLongUptoRow.holds Tryz.pinned (OpenSpec.upto quantLongSpec)

/-- 'steelyardlaw16.QuantOrder', WHERE WHAT IT READS IS OF BULK AT MOST 1048576: true; the input reads as it did. -/
def quantOrderUptoRow : OpenClaim := { program := "ytbdkecpalhpmdaagreatdoor", sum := "b7627555327f44019ab7925a84d8f7ec2f2a56828ecee35ddabb682f3c166fdf", func := "steelyard/steelyardlaw16.QuantOrder", spec := "quantOrder", inPlace := ["math.Float64bits", "math.Float64frombits", "math/bits.Sub64", "math/bits.Add64"], unfollowed := true, recurses := true, named := ["math/bits.deBruijn32tab"], apart := false, laid := [("math/bits.deBruijn32tab", laid_math_bits_deBruijn32tab)], narrowed := true }
def QuantOrderUptoSaid : Prop := quantOrderUptoRow.holds Tryz.pinned (OpenSpec.upto quantOrderSpec)

/-- 'steelyardlaw16.QuantRises', WHERE WHAT IT READS IS OF BULK AT MOST 1048576: true; the input reads as it did. -/
def quantRisesUptoRow : OpenClaim := { program := "ytbdkecpalhpmdaagreatdoor", sum := "b7627555327f44019ab7925a84d8f7ec2f2a56828ecee35ddabb682f3c166fdf", func := "steelyard/steelyardlaw16.QuantRises", spec := "quantRises", inPlace := ["math.Float64bits", "math.Float64frombits", "math/bits.Sub64", "math/bits.Add64"], unfollowed := true, recurses := true, named := ["math/bits.deBruijn32tab"], apart := false, laid := [("math/bits.deBruijn32tab", laid_math_bits_deBruijn32tab)], narrowed := true }
def QuantRisesUptoSaid : Prop := quantRisesUptoRow.holds Tryz.pinned (OpenSpec.upto quantRisesSpec)

/-- 'steelyardlaw16.QuantCovers', WHERE WHAT IT READS IS OF BULK AT MOST 1048576: true; the input reads as it did. -/
def quantCoversUptoRow : OpenClaim := { program := "ytbdkecpalhpmdaagreatdoor", sum := "b7627555327f44019ab7925a84d8f7ec2f2a56828ecee35ddabb682f3c166fdf", func := "steelyard/steelyardlaw16.QuantCovers", spec := "quantCovers", inPlace := ["math.Float64bits", "math.Float64frombits", "math/bits.Sub64", "math/bits.Add64"], unfollowed := true, recurses := true, named := ["math/bits.deBruijn32tab"], apart := false, laid := [("math/bits.deBruijn32tab", laid_math_bits_deBruijn32tab)], narrowed := true }
def QuantCoversUptoSaid : Prop := quantCoversUptoRow.holds Tryz.pinned (OpenSpec.upto quantCoversSpec)

/-- 'steelyardlaw16.QuantMedian', WHERE WHAT IT READS IS OF BULK AT MOST 1048576: true; the input reads as it did. -/
def quantMedianUptoRow : OpenClaim := { program := "ytbdkecpalhpmdaagreatdoor", sum := "b7627555327f44019ab7925a84d8f7ec2f2a56828ecee35ddabb682f3c166fdf", func := "steelyard/steelyardlaw16.QuantMedian", spec := "quantMedian", inPlace := ["math.Float64bits", "math.Float64frombits", "math/bits.Sub64", "math/bits.Add64"], unfollowed := true, recurses := true, named := ["math/bits.deBruijn32tab"], apart := false, laid := [("math/bits.deBruijn32tab", laid_math_bits_deBruijn32tab)], narrowed := true }
def QuantMedianUptoSaid : Prop := quantMedianUptoRow.holds Tryz.pinned (OpenSpec.upto quantMedianSpec)

end Rows
end Go.Proofs.YtbdkecpalhpmdaaGreatDoor
