/-
  DERIVED. GIVEN WITH THE SEED: THE CARDS: each row of YtknahdghcfdmgaaGreatDoorRows.lean that lists a variable, with what it lists TIED to the program's text (the seventh form; the later family's looks); each row that meets fmt, with fmt's text TOLD by the authors' own Lean function (tested against real Go, not proved from fmt's source: count such statements apart). THE CARD IS WHAT COUNTS. Prove the row's statement (the work); the ties are given (YtknahdghcfdmgaaGreatDoorTie.lean); close each card by the builder's one call (the guide's Derived/Test/ToyasCard.lean, 'card_holds'). Laid BY PROGRAM, IN A SANDBOX (cutbox-door.mjs). By AI agents, Wed Nov 11 2026. No macro, syntax, notation, axiom, sorry.
-/
import Derived.Test.YtknahdghcfdmgaaGreatDoorRows
import GoSem.ClaimSeven
namespace Go.Proofs.YtknahdghcfdmgaaGreatDoor
namespace Rows

/-- THE TIED CARD OF 'steelyardlaw16.QuantSeveral'. -/
def quantSeveralCard : Claim7 := { stood := { row := quantSeveralRow, standIns := [], harness := (true, "a09c89f9ae5cadfe3e9a3a774f6fb92db56cd42dc17a6d8a1110416dd118b5c3"), looks := true }, kinds := [], alts := [], laidByText := true, laidKinds := [.data], laidTests := true, laidLooks := .later }
def QuantSeveralCardSaid : Prop := Claim7.holds Tryz.pinned (.plain (OpenSpec.ofChange quantSeveralSpec)) quantSeveralCard

/-- THE TIED CARD OF 'steelyardlaw16.QuantMedian'. -/
def quantMedianCard : Claim7 := { stood := { row := quantMedianRow, standIns := [], harness := (true, "a09c89f9ae5cadfe3e9a3a774f6fb92db56cd42dc17a6d8a1110416dd118b5c3"), looks := true }, kinds := [], alts := [], laidByText := true, laidKinds := [.data], laidTests := true, laidLooks := .later }
def QuantMedianCardSaid : Prop := Claim7.holds Tryz.pinned (.plain (OpenSpec.ofChange quantMedianSpec)) quantMedianCard

/-- THE TIED CARD OF 'steelyardlaw21.ShardPlays'. -/
def shardPlaysCard : Claim7 := { stood := { row := shardPlaysRow, standIns := [], harness := (true, "a09c89f9ae5cadfe3e9a3a774f6fb92db56cd42dc17a6d8a1110416dd118b5c3"), looks := true }, kinds := [], alts := [], laidByText := true, laidKinds := [.data], laidTests := true, laidLooks := .later }
def ShardPlaysCardSaid : Prop := Claim7.holds Tryz.pinned (.plain (OpenSpec.ofChange shardPlaysSpec)) shardPlaysCard

/-- THE TIED CARD OF 'steelyardlaw21.ShardDecodes'. -/
def shardDecodesCard : Claim7 := { stood := { row := shardDecodesRow, standIns := [], harness := (true, "a09c89f9ae5cadfe3e9a3a774f6fb92db56cd42dc17a6d8a1110416dd118b5c3"), looks := true }, kinds := [], alts := [], laidByText := true, laidKinds := [.data], laidTests := true, laidLooks := .later }
def ShardDecodesCardSaid : Prop := Claim7.holds Tryz.pinned (.plain (OpenSpec.ofChange shardDecodesSpec)) shardDecodesCard

/-- THE TIED CARD OF 'steelyardlaw21.ShardLists'. -/
def shardListsCard : Claim7 := { stood := { row := shardListsRow, standIns := [], harness := (true, "a09c89f9ae5cadfe3e9a3a774f6fb92db56cd42dc17a6d8a1110416dd118b5c3"), looks := true }, kinds := [], alts := [], laidByText := true, laidKinds := [.data], laidTests := true, laidLooks := .later }
def ShardListsCardSaid : Prop := Claim7.holds Tryz.pinned (.plain (OpenSpec.ofChange shardListsSpec)) shardListsCard

/-- THE TIED CARD OF 'steelyardlaw22.StoreLong'. -/
def storeLongCard : Claim7 := { stood := { row := storeLongRow, standIns := [], harness := (true, "a09c89f9ae5cadfe3e9a3a774f6fb92db56cd42dc17a6d8a1110416dd118b5c3"), looks := true }, kinds := [], alts := [], laidByText := true, laidKinds := [.data, .handle, .sentinel, .sentinel, .sentinel, .sentinel], laidTests := true, laidLooks := .later }
def StoreLongCardSaid : Prop := Claim7.holds Tryz.pinned (.plain (OpenSpec.ofChange storeLongSpec)) storeLongCard

/-- THE TIED CARD OF 'steelyardlaw22.StoreCuts'. -/
def storeCutsCard : Claim7 := { stood := { row := storeCutsRow, standIns := [], harness := (true, "a09c89f9ae5cadfe3e9a3a774f6fb92db56cd42dc17a6d8a1110416dd118b5c3"), looks := true }, kinds := [], alts := [], laidByText := true, laidKinds := [.data, .handle, .sentinel, .sentinel, .sentinel, .sentinel], laidTests := true, laidLooks := .later }
def StoreCutsCardSaid : Prop := Claim7.holds Tryz.pinned (.plain (OpenSpec.ofChange storeCutsSpec)) storeCutsCard

/-- THE TIED CARD OF 'steelyardlaw22.StoreTold'. -/
def storeToldCard : Claim7 := { stood := { row := storeToldRow, standIns := [], harness := (true, "a09c89f9ae5cadfe3e9a3a774f6fb92db56cd42dc17a6d8a1110416dd118b5c3"), looks := true }, kinds := [], alts := [], laidByText := true, laidKinds := [.data, .handle, .sentinel, .sentinel, .sentinel, .sentinel], laidTests := true, laidLooks := .later }
def StoreToldCardSaid : Prop := Claim7.holds Tryz.pinned (.plain (OpenSpec.ofChange storeToldSpec)) storeToldCard

/-- THE SECOND FORM's CARD OF 'steelyardlaw16.QuantSeveral'. -/
def quantSeveralUptoCard : Claim7 := { stood := { row := quantSeveralUptoRow, standIns := [], harness := (true, "a09c89f9ae5cadfe3e9a3a774f6fb92db56cd42dc17a6d8a1110416dd118b5c3"), looks := true }, kinds := [], alts := [], laidByText := true, laidKinds := [.data], laidTests := true, laidLooks := .later }
def QuantSeveralUptoCardSaid : Prop := Claim7.holds Tryz.pinned (.plain (OpenSpec.upto quantSeveralSpec)) quantSeveralUptoCard

/-- THE SECOND FORM's CARD OF 'steelyardlaw16.QuantMedian'. -/
def quantMedianUptoCard : Claim7 := { stood := { row := quantMedianUptoRow, standIns := [], harness := (true, "a09c89f9ae5cadfe3e9a3a774f6fb92db56cd42dc17a6d8a1110416dd118b5c3"), looks := true }, kinds := [], alts := [], laidByText := true, laidKinds := [.data], laidTests := true, laidLooks := .later }
def QuantMedianUptoCardSaid : Prop := Claim7.holds Tryz.pinned (.plain (OpenSpec.upto quantMedianSpec)) quantMedianUptoCard

/-- THE SECOND FORM's CARD OF 'steelyardlaw21.ShardPlays'. -/
def shardPlaysUptoCard : Claim7 := { stood := { row := shardPlaysUptoRow, standIns := [], harness := (true, "a09c89f9ae5cadfe3e9a3a774f6fb92db56cd42dc17a6d8a1110416dd118b5c3"), looks := true }, kinds := [], alts := [], laidByText := true, laidKinds := [.data], laidTests := true, laidLooks := .later }
def ShardPlaysUptoCardSaid : Prop := Claim7.holds Tryz.pinned (.plain (OpenSpec.upto shardPlaysSpec)) shardPlaysUptoCard

/-- THE SECOND FORM's CARD OF 'steelyardlaw21.ShardDecodes'. -/
def shardDecodesUptoCard : Claim7 := { stood := { row := shardDecodesUptoRow, standIns := [], harness := (true, "a09c89f9ae5cadfe3e9a3a774f6fb92db56cd42dc17a6d8a1110416dd118b5c3"), looks := true }, kinds := [], alts := [], laidByText := true, laidKinds := [.data], laidTests := true, laidLooks := .later }
def ShardDecodesUptoCardSaid : Prop := Claim7.holds Tryz.pinned (.plain (OpenSpec.upto shardDecodesSpec)) shardDecodesUptoCard

/-- THE SECOND FORM's CARD OF 'steelyardlaw21.ShardLists'. -/
def shardListsUptoCard : Claim7 := { stood := { row := shardListsUptoRow, standIns := [], harness := (true, "a09c89f9ae5cadfe3e9a3a774f6fb92db56cd42dc17a6d8a1110416dd118b5c3"), looks := true }, kinds := [], alts := [], laidByText := true, laidKinds := [.data], laidTests := true, laidLooks := .later }
def ShardListsUptoCardSaid : Prop := Claim7.holds Tryz.pinned (.plain (OpenSpec.upto shardListsSpec)) shardListsUptoCard

/-- THE SECOND FORM's CARD OF 'steelyardlaw22.StoreLong'. -/
def storeLongUptoCard : Claim7 := { stood := { row := storeLongUptoRow, standIns := [], harness := (true, "a09c89f9ae5cadfe3e9a3a774f6fb92db56cd42dc17a6d8a1110416dd118b5c3"), looks := true }, kinds := [], alts := [], laidByText := true, laidKinds := [.data, .handle, .sentinel, .sentinel, .sentinel, .sentinel], laidTests := true, laidLooks := .later }
def StoreLongUptoCardSaid : Prop := Claim7.holds Tryz.pinned (.plain (OpenSpec.upto storeLongSpec)) storeLongUptoCard

/-- THE SECOND FORM's CARD OF 'steelyardlaw22.StoreCuts'. -/
def storeCutsUptoCard : Claim7 := { stood := { row := storeCutsUptoRow, standIns := [], harness := (true, "a09c89f9ae5cadfe3e9a3a774f6fb92db56cd42dc17a6d8a1110416dd118b5c3"), looks := true }, kinds := [], alts := [], laidByText := true, laidKinds := [.data, .handle, .sentinel, .sentinel, .sentinel, .sentinel], laidTests := true, laidLooks := .later }
def StoreCutsUptoCardSaid : Prop := Claim7.holds Tryz.pinned (.plain (OpenSpec.upto storeCutsSpec)) storeCutsUptoCard

/-- THE SECOND FORM's CARD OF 'steelyardlaw22.StoreTold'. -/
def storeToldUptoCard : Claim7 := { stood := { row := storeToldUptoRow, standIns := [], harness := (true, "a09c89f9ae5cadfe3e9a3a774f6fb92db56cd42dc17a6d8a1110416dd118b5c3"), looks := true }, kinds := [], alts := [], laidByText := true, laidKinds := [.data, .handle, .sentinel, .sentinel, .sentinel, .sentinel], laidTests := true, laidLooks := .later }
def StoreToldUptoCardSaid : Prop := Claim7.holds Tryz.pinned (.plain (OpenSpec.upto storeToldSpec)) storeToldUptoCard
end Rows
end Go.Proofs.YtknahdghcfdmgaaGreatDoor
