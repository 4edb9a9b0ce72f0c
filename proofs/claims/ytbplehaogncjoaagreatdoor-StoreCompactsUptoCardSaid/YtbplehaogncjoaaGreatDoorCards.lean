/-
  DERIVED. GIVEN WITH THE SEED: THE CARDS: each row of YtbplehaogncjoaaGreatDoorRows.lean that lists a variable, with what it lists TIED to the program's text (the seventh form; the later family's looks); each row that meets fmt, with fmt's text TOLD by the authors' own Lean function (tested against real Go, not proved from fmt's source: count such statements apart). THE CARD IS WHAT COUNTS. Prove the row's statement (the work); the ties are given (YtbplehaogncjoaaGreatDoorTie.lean); close each card by the builder's one call (the guide's Derived/Test/ToyasCard.lean, 'card_holds'). Laid BY PROGRAM, IN A SANDBOX (cutbox-door.mjs). By AI agents, Wed Nov 11 2026. No macro, syntax, notation, axiom, sorry.
-/
import Derived.Test.YtbplehaogncjoaaGreatDoorRows
import GoSem.ClaimSeven
namespace Go.Proofs.YtbplehaogncjoaaGreatDoor
namespace Rows

/-- THE TIED CARD OF 'steelyardlaw22.StoreLong'. -/
def storeLongCard : Claim7 := { stood := { row := storeLongRow, standIns := [], harness := (true, "33fd8777d531cad6ef70a8298dc5240700d26efc6496750fc3c43279403c43f3"), looks := true }, kinds := [], alts := [], laidByText := true, laidKinds := [.data, .handle, .sentinel, .sentinel, .sentinel, .sentinel], laidTests := true, laidLooks := .later }
def StoreLongCardSaid : Prop := Claim7.holds Tryz.pinned (.plain (OpenSpec.ofChange storeLongSpec)) storeLongCard

/-- THE TIED CARD OF 'steelyardlaw22.StoreCuts'. -/
def storeCutsCard : Claim7 := { stood := { row := storeCutsRow, standIns := [], harness := (true, "33fd8777d531cad6ef70a8298dc5240700d26efc6496750fc3c43279403c43f3"), looks := true }, kinds := [], alts := [], laidByText := true, laidKinds := [.data, .handle, .sentinel, .sentinel, .sentinel, .sentinel], laidTests := true, laidLooks := .later }
def StoreCutsCardSaid : Prop := Claim7.holds Tryz.pinned (.plain (OpenSpec.ofChange storeCutsSpec)) storeCutsCard

/-- THE TIED CARD OF 'steelyardlaw22.StoreTold'. -/
def storeToldCard : Claim7 := { stood := { row := storeToldRow, standIns := [], harness := (true, "33fd8777d531cad6ef70a8298dc5240700d26efc6496750fc3c43279403c43f3"), looks := true }, kinds := [], alts := [], laidByText := true, laidKinds := [.data, .handle, .sentinel, .sentinel, .sentinel, .sentinel], laidTests := true, laidLooks := .later }
def StoreToldCardSaid : Prop := Claim7.holds Tryz.pinned (.plain (OpenSpec.ofChange storeToldSpec)) storeToldCard

/-- THE TIED CARD OF 'steelyardlaw22.StoreNumbers'. -/
def storeNumbersCard : Claim7 := { stood := { row := storeNumbersRow, standIns := [], harness := (true, "33fd8777d531cad6ef70a8298dc5240700d26efc6496750fc3c43279403c43f3"), looks := true }, kinds := [], alts := [], laidByText := true, laidKinds := [.data, .handle, .sentinel, .sentinel, .sentinel, .sentinel], laidTests := true, laidLooks := .later }
def StoreNumbersCardSaid : Prop := Claim7.holds Tryz.pinned (.plain (OpenSpec.ofChange storeNumbersSpec)) storeNumbersCard

/-- THE TIED CARD OF 'steelyardlaw22.StoreCompacts'. -/
def storeCompactsCard : Claim7 := { stood := { row := storeCompactsRow, standIns := [], harness := (true, "33fd8777d531cad6ef70a8298dc5240700d26efc6496750fc3c43279403c43f3"), looks := true }, kinds := [], alts := [], laidByText := true, laidKinds := [.data, .handle, .sentinel, .sentinel, .sentinel, .sentinel], laidTests := true, laidLooks := .later }
def StoreCompactsCardSaid : Prop := Claim7.holds Tryz.pinned (.plain (OpenSpec.ofChange storeCompactsSpec)) storeCompactsCard

/-- THE SECOND FORM's CARD OF 'steelyardlaw22.StoreLong'. -/
def storeLongUptoCard : Claim7 := { stood := { row := storeLongUptoRow, standIns := [], harness := (true, "33fd8777d531cad6ef70a8298dc5240700d26efc6496750fc3c43279403c43f3"), looks := true }, kinds := [], alts := [], laidByText := true, laidKinds := [.data, .handle, .sentinel, .sentinel, .sentinel, .sentinel], laidTests := true, laidLooks := .later }
def StoreLongUptoCardSaid : Prop := Claim7.holds Tryz.pinned (.plain (OpenSpec.upto storeLongSpec)) storeLongUptoCard

/-- THE SECOND FORM's CARD OF 'steelyardlaw22.StoreCuts'. -/
def storeCutsUptoCard : Claim7 := { stood := { row := storeCutsUptoRow, standIns := [], harness := (true, "33fd8777d531cad6ef70a8298dc5240700d26efc6496750fc3c43279403c43f3"), looks := true }, kinds := [], alts := [], laidByText := true, laidKinds := [.data, .handle, .sentinel, .sentinel, .sentinel, .sentinel], laidTests := true, laidLooks := .later }
def StoreCutsUptoCardSaid : Prop := Claim7.holds Tryz.pinned (.plain (OpenSpec.upto storeCutsSpec)) storeCutsUptoCard

/-- THE SECOND FORM's CARD OF 'steelyardlaw22.StoreTold'. -/
def storeToldUptoCard : Claim7 := { stood := { row := storeToldUptoRow, standIns := [], harness := (true, "33fd8777d531cad6ef70a8298dc5240700d26efc6496750fc3c43279403c43f3"), looks := true }, kinds := [], alts := [], laidByText := true, laidKinds := [.data, .handle, .sentinel, .sentinel, .sentinel, .sentinel], laidTests := true, laidLooks := .later }
def StoreToldUptoCardSaid : Prop := Claim7.holds Tryz.pinned (.plain (OpenSpec.upto storeToldSpec)) storeToldUptoCard

/-- THE SECOND FORM's CARD OF 'steelyardlaw22.StoreNumbers'. -/
def storeNumbersUptoCard : Claim7 := { stood := { row := storeNumbersUptoRow, standIns := [], harness := (true, "33fd8777d531cad6ef70a8298dc5240700d26efc6496750fc3c43279403c43f3"), looks := true }, kinds := [], alts := [], laidByText := true, laidKinds := [.data, .handle, .sentinel, .sentinel, .sentinel, .sentinel], laidTests := true, laidLooks := .later }
def StoreNumbersUptoCardSaid : Prop := Claim7.holds Tryz.pinned (.plain (OpenSpec.upto storeNumbersSpec)) storeNumbersUptoCard

/-- THE SECOND FORM's CARD OF 'steelyardlaw22.StoreCompacts'. -/
def storeCompactsUptoCard : Claim7 := { stood := { row := storeCompactsUptoRow, standIns := [], harness := (true, "33fd8777d531cad6ef70a8298dc5240700d26efc6496750fc3c43279403c43f3"), looks := true }, kinds := [], alts := [], laidByText := true, laidKinds := [.data, .handle, .sentinel, .sentinel, .sentinel, .sentinel], laidTests := true, laidLooks := .later }
def StoreCompactsUptoCardSaid : Prop := Claim7.holds Tryz.pinned (.plain (OpenSpec.upto storeCompactsSpec)) storeCompactsUptoCard
end Rows
end Go.Proofs.YtbplehaogncjoaaGreatDoor
