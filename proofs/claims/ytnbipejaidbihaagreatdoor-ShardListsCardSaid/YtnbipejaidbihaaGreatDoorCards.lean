/-
  DERIVED. GIVEN WITH THE SEED: THE CARDS: each row of YtnbipejaidbihaaGreatDoorRows.lean that lists a variable, with what it lists TIED to the program's text (the seventh form; the later family's looks); each row that meets fmt, with fmt's text TOLD by the authors' own Lean function (tested against real Go, not proved from fmt's source: count such statements apart). THE CARD IS WHAT COUNTS. Prove the row's statement (the work); the ties are given (YtnbipejaidbihaaGreatDoorTie.lean); close each card by the builder's one call (the guide's Derived/Test/ToyasCard.lean, 'card_holds'). Laid BY PROGRAM, IN A SANDBOX (cutbox-door.mjs). By AI agents, Wed Nov 11 2026. No macro, syntax, notation, axiom, sorry.
-/
import Derived.Test.YtnbipejaidbihaaGreatDoorRows
import GoSem.ClaimSeven
namespace Go.Proofs.YtnbipejaidbihaaGreatDoor
namespace Rows

/-- THE TIED CARD OF 'steelyardlaw21.ShardPlays'. -/
def shardPlaysCard : Claim7 := { stood := { row := shardPlaysRow, standIns := [], harness := (true, "c8153612680258890aab930965b521b89f61326150de2b6501546afee7a7a0f9"), looks := true }, kinds := [], alts := [], laidByText := true, laidKinds := [.data], laidTests := true, laidLooks := .later }
def ShardPlaysCardSaid : Prop := Claim7.holds Tryz.pinned (.plain (OpenSpec.ofChange shardPlaysSpec)) shardPlaysCard

/-- THE TIED CARD OF 'steelyardlaw21.ShardDecodes'. -/
def shardDecodesCard : Claim7 := { stood := { row := shardDecodesRow, standIns := [], harness := (true, "c8153612680258890aab930965b521b89f61326150de2b6501546afee7a7a0f9"), looks := true }, kinds := [], alts := [], laidByText := true, laidKinds := [.data], laidTests := true, laidLooks := .later }
def ShardDecodesCardSaid : Prop := Claim7.holds Tryz.pinned (.plain (OpenSpec.ofChange shardDecodesSpec)) shardDecodesCard

/-- THE TIED CARD OF 'steelyardlaw22.StoreReplays'. -/
def storeReplaysCard : Claim7 := { stood := { row := storeReplaysRow, standIns := [], harness := (true, "c8153612680258890aab930965b521b89f61326150de2b6501546afee7a7a0f9"), looks := true }, kinds := [], alts := [], laidByText := true, laidKinds := [.data, .handle, .sentinel, .sentinel, .sentinel, .sentinel], laidTests := true, laidLooks := .later }
def StoreReplaysCardSaid : Prop := Claim7.holds Tryz.pinned (.plain (OpenSpec.ofChange storeReplaysSpec)) storeReplaysCard

/-- THE TIED CARD OF 'steelyardlaw22.StoreScript'. -/
def storeScriptCard : Claim7 := { stood := { row := storeScriptRow, standIns := [], harness := (true, "c8153612680258890aab930965b521b89f61326150de2b6501546afee7a7a0f9"), looks := true }, kinds := [], alts := [], laidByText := true, laidKinds := [.data, .handle, .sentinel, .sentinel, .sentinel, .sentinel], laidTests := true, laidLooks := .later }
def StoreScriptCardSaid : Prop := Claim7.holds Tryz.pinned (.plain (OpenSpec.ofChange storeScriptSpec)) storeScriptCard

/-- THE TIED CARD OF 'steelyardlaw21.ShardLists'. -/
def shardListsCard : Claim7 := { stood := { row := shardListsRow, standIns := [], harness := (true, "c8153612680258890aab930965b521b89f61326150de2b6501546afee7a7a0f9"), looks := true }, kinds := [], alts := [], laidByText := true, laidKinds := [.data], laidTests := true, laidLooks := .later }
def ShardListsCardSaid : Prop := Claim7.holds Tryz.pinned (.plain (OpenSpec.ofChange shardListsSpec)) shardListsCard

/-- THE TIED CARD OF 'steelyardlaw16.QuantMedian'. -/
def quantMedianCard : Claim7 := { stood := { row := quantMedianRow, standIns := [], harness := (true, "c8153612680258890aab930965b521b89f61326150de2b6501546afee7a7a0f9"), looks := true }, kinds := [], alts := [], laidByText := true, laidKinds := [.data], laidTests := true, laidLooks := .later }
def QuantMedianCardSaid : Prop := Claim7.holds Tryz.pinned (.plain (OpenSpec.ofChange quantMedianSpec)) quantMedianCard

/-- THE TIED CARD OF 'steelyardlaw22.StoreTotals'. -/
def storeTotalsCard : Claim7 := { stood := { row := storeTotalsRow, standIns := [], harness := (true, "c8153612680258890aab930965b521b89f61326150de2b6501546afee7a7a0f9"), looks := true }, kinds := [], alts := [], laidByText := true, laidKinds := [.data, .handle, .sentinel, .sentinel, .sentinel, .sentinel], laidTests := true, laidLooks := .later }
def StoreTotalsCardSaid : Prop := Claim7.holds Tryz.pinned (.plain (OpenSpec.ofChange storeTotalsSpec)) storeTotalsCard

/-- THE SECOND FORM's CARD OF 'steelyardlaw21.ShardPlays'. -/
def shardPlaysUptoCard : Claim7 := { stood := { row := shardPlaysUptoRow, standIns := [], harness := (true, "c8153612680258890aab930965b521b89f61326150de2b6501546afee7a7a0f9"), looks := true }, kinds := [], alts := [], laidByText := true, laidKinds := [.data], laidTests := true, laidLooks := .later }
def ShardPlaysUptoCardSaid : Prop := Claim7.holds Tryz.pinned (.plain (OpenSpec.upto shardPlaysSpec)) shardPlaysUptoCard

/-- THE SECOND FORM's CARD OF 'steelyardlaw21.ShardDecodes'. -/
def shardDecodesUptoCard : Claim7 := { stood := { row := shardDecodesUptoRow, standIns := [], harness := (true, "c8153612680258890aab930965b521b89f61326150de2b6501546afee7a7a0f9"), looks := true }, kinds := [], alts := [], laidByText := true, laidKinds := [.data], laidTests := true, laidLooks := .later }
def ShardDecodesUptoCardSaid : Prop := Claim7.holds Tryz.pinned (.plain (OpenSpec.upto shardDecodesSpec)) shardDecodesUptoCard

/-- THE SECOND FORM's CARD OF 'steelyardlaw22.StoreReplays'. -/
def storeReplaysUptoCard : Claim7 := { stood := { row := storeReplaysUptoRow, standIns := [], harness := (true, "c8153612680258890aab930965b521b89f61326150de2b6501546afee7a7a0f9"), looks := true }, kinds := [], alts := [], laidByText := true, laidKinds := [.data, .handle, .sentinel, .sentinel, .sentinel, .sentinel], laidTests := true, laidLooks := .later }
def StoreReplaysUptoCardSaid : Prop := Claim7.holds Tryz.pinned (.plain (OpenSpec.upto storeReplaysSpec)) storeReplaysUptoCard

/-- THE SECOND FORM's CARD OF 'steelyardlaw22.StoreScript'. -/
def storeScriptUptoCard : Claim7 := { stood := { row := storeScriptUptoRow, standIns := [], harness := (true, "c8153612680258890aab930965b521b89f61326150de2b6501546afee7a7a0f9"), looks := true }, kinds := [], alts := [], laidByText := true, laidKinds := [.data, .handle, .sentinel, .sentinel, .sentinel, .sentinel], laidTests := true, laidLooks := .later }
def StoreScriptUptoCardSaid : Prop := Claim7.holds Tryz.pinned (.plain (OpenSpec.upto storeScriptSpec)) storeScriptUptoCard

/-- THE SECOND FORM's CARD OF 'steelyardlaw21.ShardLists'. -/
def shardListsUptoCard : Claim7 := { stood := { row := shardListsUptoRow, standIns := [], harness := (true, "c8153612680258890aab930965b521b89f61326150de2b6501546afee7a7a0f9"), looks := true }, kinds := [], alts := [], laidByText := true, laidKinds := [.data], laidTests := true, laidLooks := .later }
def ShardListsUptoCardSaid : Prop := Claim7.holds Tryz.pinned (.plain (OpenSpec.upto shardListsSpec)) shardListsUptoCard

/-- THE SECOND FORM's CARD OF 'steelyardlaw16.QuantMedian'. -/
def quantMedianUptoCard : Claim7 := { stood := { row := quantMedianUptoRow, standIns := [], harness := (true, "c8153612680258890aab930965b521b89f61326150de2b6501546afee7a7a0f9"), looks := true }, kinds := [], alts := [], laidByText := true, laidKinds := [.data], laidTests := true, laidLooks := .later }
def QuantMedianUptoCardSaid : Prop := Claim7.holds Tryz.pinned (.plain (OpenSpec.upto quantMedianSpec)) quantMedianUptoCard

/-- THE SECOND FORM's CARD OF 'steelyardlaw22.StoreTotals'. -/
def storeTotalsUptoCard : Claim7 := { stood := { row := storeTotalsUptoRow, standIns := [], harness := (true, "c8153612680258890aab930965b521b89f61326150de2b6501546afee7a7a0f9"), looks := true }, kinds := [], alts := [], laidByText := true, laidKinds := [.data, .handle, .sentinel, .sentinel, .sentinel, .sentinel], laidTests := true, laidLooks := .later }
def StoreTotalsUptoCardSaid : Prop := Claim7.holds Tryz.pinned (.plain (OpenSpec.upto storeTotalsSpec)) storeTotalsUptoCard
end Rows
end Go.Proofs.YtnbipejaidbihaaGreatDoor
