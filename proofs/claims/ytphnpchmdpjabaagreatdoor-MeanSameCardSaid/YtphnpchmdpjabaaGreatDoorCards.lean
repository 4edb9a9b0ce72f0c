/-
  DERIVED. GIVEN WITH THE SEED: THE CARDS: each row of YtphnpchmdpjabaaGreatDoorRows.lean that lists a variable, with what it lists TIED to the program's text (the seventh form; the later family's looks); each row that meets fmt, with fmt's text TOLD by the authors' own Lean function (tested against real Go, not proved from fmt's source: count such statements apart). THE CARD IS WHAT COUNTS. Prove the row's statement (the work); the ties are given (YtphnpchmdpjabaaGreatDoorTie.lean); close each card by the builder's one call (the guide's Derived/Test/ToyasCard.lean, 'card_holds'). Laid BY PROGRAM, IN A SANDBOX (cutbox-door.mjs). By AI agents, Wed Nov 11 2026. No macro, syntax, notation, axiom, sorry.
-/
import Derived.Test.YtphnpchmdpjabaaGreatDoorRows
import GoSem.ClaimSeven
namespace Go.Proofs.YtphnpchmdpjabaaGreatDoor
namespace Rows

/-- THE TIED CARD OF 'steelyardlaw13.MeanOf'. -/
def meanOfCard : Claim7 := { stood := { row := meanOfRow, standIns := [], harness := (true, "573f896ef0709987c9083a36dcd6dad2c335f1956d9c8397000be83b378d115f"), looks := false }, kinds := [], alts := [], laidByText := true, laidKinds := [.data], laidTests := true, laidLooks := .later }
def MeanOfCardSaid : Prop := Claim7.holds Tryz.pinned (.plain (OpenSpec.ofChange meanOfSpec)) meanOfCard

/-- THE TIED CARD OF 'steelyardlaw13.MeanNearest'. -/
def meanNearestCard : Claim7 := { stood := { row := meanNearestRow, standIns := [], harness := (true, "573f896ef0709987c9083a36dcd6dad2c335f1956d9c8397000be83b378d115f"), looks := false }, kinds := [], alts := [], laidByText := true, laidKinds := [.data], laidTests := true, laidLooks := .later }
def MeanNearestCardSaid : Prop := Claim7.holds Tryz.pinned (.plain (OpenSpec.ofChange meanNearestSpec)) meanNearestCard

/-- THE TIED CARD OF 'steelyardlaw13.MeanTrimmed'. -/
def meanTrimmedCard : Claim7 := { stood := { row := meanTrimmedRow, standIns := [], harness := (true, "573f896ef0709987c9083a36dcd6dad2c335f1956d9c8397000be83b378d115f"), looks := false }, kinds := [], alts := [], laidByText := true, laidKinds := [.data], laidTests := true, laidLooks := .later }
def MeanTrimmedCardSaid : Prop := Claim7.holds Tryz.pinned (.plain (OpenSpec.ofChange meanTrimmedSpec)) meanTrimmedCard

/-- THE TIED CARD OF 'steelyardlaw13.MeanLong'. -/
def meanLongCard : Claim7 := { stood := { row := meanLongRow, standIns := [], harness := (true, "573f896ef0709987c9083a36dcd6dad2c335f1956d9c8397000be83b378d115f"), looks := false }, kinds := [], alts := [], laidByText := true, laidKinds := [.data], laidTests := true, laidLooks := .later }
def MeanLongCardSaid : Prop := Claim7.holds Tryz.pinned (.plain (OpenSpec.ofChange meanLongSpec)) meanLongCard

/-- THE TIED CARD OF 'steelyardlaw13.MeanSame'. -/
def meanSameCard : Claim7 := { stood := { row := meanSameRow, standIns := [], harness := (true, "573f896ef0709987c9083a36dcd6dad2c335f1956d9c8397000be83b378d115f"), looks := false }, kinds := [], alts := [], laidByText := true, laidKinds := [.data], laidTests := true, laidLooks := .later }
def MeanSameCardSaid : Prop := Claim7.holds Tryz.pinned (.plain (OpenSpec.ofChange meanSameSpec)) meanSameCard

/-- THE SECOND FORM's CARD OF 'steelyardlaw13.MeanOf'. -/
def meanOfUptoCard : Claim7 := { stood := { row := meanOfUptoRow, standIns := [], harness := (true, "573f896ef0709987c9083a36dcd6dad2c335f1956d9c8397000be83b378d115f"), looks := false }, kinds := [], alts := [], laidByText := true, laidKinds := [.data], laidTests := true, laidLooks := .later }
def MeanOfUptoCardSaid : Prop := Claim7.holds Tryz.pinned (.plain (OpenSpec.upto meanOfSpec)) meanOfUptoCard

/-- THE SECOND FORM's CARD OF 'steelyardlaw13.MeanNearest'. -/
def meanNearestUptoCard : Claim7 := { stood := { row := meanNearestUptoRow, standIns := [], harness := (true, "573f896ef0709987c9083a36dcd6dad2c335f1956d9c8397000be83b378d115f"), looks := false }, kinds := [], alts := [], laidByText := true, laidKinds := [.data], laidTests := true, laidLooks := .later }
def MeanNearestUptoCardSaid : Prop := Claim7.holds Tryz.pinned (.plain (OpenSpec.upto meanNearestSpec)) meanNearestUptoCard

/-- THE SECOND FORM's CARD OF 'steelyardlaw13.MeanTrimmed'. -/
def meanTrimmedUptoCard : Claim7 := { stood := { row := meanTrimmedUptoRow, standIns := [], harness := (true, "573f896ef0709987c9083a36dcd6dad2c335f1956d9c8397000be83b378d115f"), looks := false }, kinds := [], alts := [], laidByText := true, laidKinds := [.data], laidTests := true, laidLooks := .later }
def MeanTrimmedUptoCardSaid : Prop := Claim7.holds Tryz.pinned (.plain (OpenSpec.upto meanTrimmedSpec)) meanTrimmedUptoCard

/-- THE SECOND FORM's CARD OF 'steelyardlaw13.MeanLong'. -/
def meanLongUptoCard : Claim7 := { stood := { row := meanLongUptoRow, standIns := [], harness := (true, "573f896ef0709987c9083a36dcd6dad2c335f1956d9c8397000be83b378d115f"), looks := false }, kinds := [], alts := [], laidByText := true, laidKinds := [.data], laidTests := true, laidLooks := .later }
def MeanLongUptoCardSaid : Prop := Claim7.holds Tryz.pinned (.plain (OpenSpec.upto meanLongSpec)) meanLongUptoCard

/-- THE SECOND FORM's CARD OF 'steelyardlaw13.MeanSame'. -/
def meanSameUptoCard : Claim7 := { stood := { row := meanSameUptoRow, standIns := [], harness := (true, "573f896ef0709987c9083a36dcd6dad2c335f1956d9c8397000be83b378d115f"), looks := false }, kinds := [], alts := [], laidByText := true, laidKinds := [.data], laidTests := true, laidLooks := .later }
def MeanSameUptoCardSaid : Prop := Claim7.holds Tryz.pinned (.plain (OpenSpec.upto meanSameSpec)) meanSameUptoCard
end Rows
end Go.Proofs.YtphnpchmdpjabaaGreatDoor
