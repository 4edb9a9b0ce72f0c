/-
  DERIVED. GIVEN WITH THE SEED: THE CARDS: each row of YtomlallhlakhfaaGreatDoorRows.lean that lists a variable, with what it lists TIED to the program's text (the seventh form; the later family's looks); each row that meets fmt, with fmt's text TOLD by the authors' own Lean function (tested against real Go, not proved from fmt's source: count such statements apart). THE CARD IS WHAT COUNTS. Prove the row's statement (the work); the ties are given (YtomlallhlakhfaaGreatDoorTie.lean); close each card by the builder's one call (the guide's Derived/Test/ToyasCard.lean, 'card_holds'). Laid BY PROGRAM, IN A SANDBOX (cutbox-door.mjs). By AI agents, Wed Nov 11 2026. No macro, syntax, notation, axiom, sorry.
-/
import Derived.Test.YtomlallhlakhfaaGreatDoorRows
import GoSem.ClaimSeven
namespace Go.Proofs.YtomlallhlakhfaaGreatDoor
namespace Rows

/-- THE TIED CARD OF 'steelyardlaw21.ShardPlays'. -/
def shardPlaysCard : Claim7 := { stood := { row := shardPlaysRow, standIns := [], harness := (true, "a749053dcefe49de5aee3311959b14f01f36f9217686c323b0079a6e0383778e"), looks := true }, kinds := [], alts := [], laidByText := true, laidKinds := [.data], laidTests := true, laidLooks := .later }
def ShardPlaysCardSaid : Prop := Claim7.holds Tryz.pinned (.plain (OpenSpec.ofChange shardPlaysSpec)) shardPlaysCard

/-- THE TIED CARD OF 'steelyardlaw21.ShardDecodes'. -/
def shardDecodesCard : Claim7 := { stood := { row := shardDecodesRow, standIns := [], harness := (true, "a749053dcefe49de5aee3311959b14f01f36f9217686c323b0079a6e0383778e"), looks := true }, kinds := [], alts := [], laidByText := true, laidKinds := [.data], laidTests := true, laidLooks := .later }
def ShardDecodesCardSaid : Prop := Claim7.holds Tryz.pinned (.plain (OpenSpec.ofChange shardDecodesSpec)) shardDecodesCard

/-- THE TIED CARD OF 'steelyardlaw22.StoreReplays'. -/
def storeReplaysCard : Claim7 := { stood := { row := storeReplaysRow, standIns := [], harness := (true, "a749053dcefe49de5aee3311959b14f01f36f9217686c323b0079a6e0383778e"), looks := true }, kinds := [], alts := [], laidByText := true, laidKinds := [.data, .handle, .sentinel, .sentinel, .sentinel, .sentinel], laidTests := true, laidLooks := .later }
def StoreReplaysCardSaid : Prop := Claim7.holds Tryz.pinned (.plain (OpenSpec.ofChange storeReplaysSpec)) storeReplaysCard

/-- THE TIED CARD OF 'steelyardlaw22.StoreScript'. -/
def storeScriptCard : Claim7 := { stood := { row := storeScriptRow, standIns := [], harness := (true, "a749053dcefe49de5aee3311959b14f01f36f9217686c323b0079a6e0383778e"), looks := true }, kinds := [], alts := [], laidByText := true, laidKinds := [.data, .handle, .sentinel, .sentinel, .sentinel, .sentinel], laidTests := true, laidLooks := .later }
def StoreScriptCardSaid : Prop := Claim7.holds Tryz.pinned (.plain (OpenSpec.ofChange storeScriptSpec)) storeScriptCard

/-- THE SECOND FORM's CARD OF 'steelyardlaw21.ShardPlays'. -/
def shardPlaysUptoCard : Claim7 := { stood := { row := shardPlaysUptoRow, standIns := [], harness := (true, "a749053dcefe49de5aee3311959b14f01f36f9217686c323b0079a6e0383778e"), looks := true }, kinds := [], alts := [], laidByText := true, laidKinds := [.data], laidTests := true, laidLooks := .later }
def ShardPlaysUptoCardSaid : Prop := Claim7.holds Tryz.pinned (.plain (OpenSpec.upto shardPlaysSpec)) shardPlaysUptoCard

/-- THE SECOND FORM's CARD OF 'steelyardlaw21.ShardDecodes'. -/
def shardDecodesUptoCard : Claim7 := { stood := { row := shardDecodesUptoRow, standIns := [], harness := (true, "a749053dcefe49de5aee3311959b14f01f36f9217686c323b0079a6e0383778e"), looks := true }, kinds := [], alts := [], laidByText := true, laidKinds := [.data], laidTests := true, laidLooks := .later }
def ShardDecodesUptoCardSaid : Prop := Claim7.holds Tryz.pinned (.plain (OpenSpec.upto shardDecodesSpec)) shardDecodesUptoCard

/-- THE SECOND FORM's CARD OF 'steelyardlaw22.StoreReplays'. -/
def storeReplaysUptoCard : Claim7 := { stood := { row := storeReplaysUptoRow, standIns := [], harness := (true, "a749053dcefe49de5aee3311959b14f01f36f9217686c323b0079a6e0383778e"), looks := true }, kinds := [], alts := [], laidByText := true, laidKinds := [.data, .handle, .sentinel, .sentinel, .sentinel, .sentinel], laidTests := true, laidLooks := .later }
def StoreReplaysUptoCardSaid : Prop := Claim7.holds Tryz.pinned (.plain (OpenSpec.upto storeReplaysSpec)) storeReplaysUptoCard

/-- THE SECOND FORM's CARD OF 'steelyardlaw22.StoreScript'. -/
def storeScriptUptoCard : Claim7 := { stood := { row := storeScriptUptoRow, standIns := [], harness := (true, "a749053dcefe49de5aee3311959b14f01f36f9217686c323b0079a6e0383778e"), looks := true }, kinds := [], alts := [], laidByText := true, laidKinds := [.data, .handle, .sentinel, .sentinel, .sentinel, .sentinel], laidTests := true, laidLooks := .later }
def StoreScriptUptoCardSaid : Prop := Claim7.holds Tryz.pinned (.plain (OpenSpec.upto storeScriptSpec)) storeScriptUptoCard
end Rows
end Go.Proofs.YtomlallhlakhfaaGreatDoor
