/-
  DERIVED. GIVEN WITH THE SEED: THE CARDS: each row of YtkkklaodligpdaaDoorRows.lean that lists a variable, with what it lists TIED to the program's text (the seventh form; the later family's looks); each row that meets fmt, with fmt's text TOLD by the authors' own Lean function (tested against real Go, not proved from fmt's source: count such statements apart). THE CARD IS WHAT COUNTS. Prove the row's statement (the work); the ties are given (YtkkklaodligpdaaDoorTie.lean); close each card by the builder's one call (the guide's Derived/Test/ToyasCard.lean, 'card_holds'). Laid BY PROGRAM, IN A SANDBOX (cutbox-door.mjs). By AI agents, Wed Nov 11 2026. No macro, syntax, notation, axiom, sorry.
-/
import Derived.Test.YtkkklaodligpdaaDoorRows
import GoSem.ClaimSeven
namespace Go.Proofs.YtkkklaodligpdaaDoor
namespace Rows

/-- THE TIED CARD OF 'steelyardlaw13.MeanNumbers'. -/
def meanNumbersCard : Claim7 := { stood := { row := meanNumbersRow, standIns := [], harness := (true, "1338f41de76fb636fda182a96559a45e50ed451352ea1a161b5fd123c7d85e02"), looks := false }, kinds := [], alts := [], laidByText := true, laidKinds := [.data], laidTests := true, laidLooks := .later }
def MeanNumbersCardSaid : Prop := Claim7.holds Tryd.pinned (.plain (OpenSpec.ofChange meanNumbersSpec)) meanNumbersCard

/-- THE TIED CARD OF 'steelyardlaw13.MeanBounds'. -/
def meanBoundsCard : Claim7 := { stood := { row := meanBoundsRow, standIns := [], harness := (true, "1338f41de76fb636fda182a96559a45e50ed451352ea1a161b5fd123c7d85e02"), looks := false }, kinds := [], alts := [], laidByText := true, laidKinds := [.data], laidTests := true, laidLooks := .later }
def MeanBoundsCardSaid : Prop := Claim7.holds Tryd.pinned (.plain (OpenSpec.ofChange meanBoundsSpec)) meanBoundsCard

/-- THE TIED CARD OF 'steelyardlaw13.MeanTurned'. -/
def meanTurnedCard : Claim7 := { stood := { row := meanTurnedRow, standIns := [], harness := (true, "1338f41de76fb636fda182a96559a45e50ed451352ea1a161b5fd123c7d85e02"), looks := false }, kinds := [], alts := [], laidByText := true, laidKinds := [.data], laidTests := true, laidLooks := .later }
def MeanTurnedCardSaid : Prop := Claim7.holds Tryd.pinned (.plain (OpenSpec.ofChange meanTurnedSpec)) meanTurnedCard

/-- THE SECOND FORM's CARD OF 'steelyardlaw13.MeanNumbers'. -/
def meanNumbersUptoCard : Claim7 := { stood := { row := meanNumbersUptoRow, standIns := [], harness := (true, "1338f41de76fb636fda182a96559a45e50ed451352ea1a161b5fd123c7d85e02"), looks := false }, kinds := [], alts := [], laidByText := true, laidKinds := [.data], laidTests := true, laidLooks := .later }
def MeanNumbersUptoCardSaid : Prop := Claim7.holds Tryd.pinned (.plain (OpenSpec.upto meanNumbersSpec)) meanNumbersUptoCard

/-- THE SECOND FORM's CARD OF 'steelyardlaw13.MeanBounds'. -/
def meanBoundsUptoCard : Claim7 := { stood := { row := meanBoundsUptoRow, standIns := [], harness := (true, "1338f41de76fb636fda182a96559a45e50ed451352ea1a161b5fd123c7d85e02"), looks := false }, kinds := [], alts := [], laidByText := true, laidKinds := [.data], laidTests := true, laidLooks := .later }
def MeanBoundsUptoCardSaid : Prop := Claim7.holds Tryd.pinned (.plain (OpenSpec.upto meanBoundsSpec)) meanBoundsUptoCard

/-- THE SECOND FORM's CARD OF 'steelyardlaw13.MeanTurned'. -/
def meanTurnedUptoCard : Claim7 := { stood := { row := meanTurnedUptoRow, standIns := [], harness := (true, "1338f41de76fb636fda182a96559a45e50ed451352ea1a161b5fd123c7d85e02"), looks := false }, kinds := [], alts := [], laidByText := true, laidKinds := [.data], laidTests := true, laidLooks := .later }
def MeanTurnedUptoCardSaid : Prop := Claim7.holds Tryd.pinned (.plain (OpenSpec.upto meanTurnedSpec)) meanTurnedUptoCard
end Rows
end Go.Proofs.YtkkklaodligpdaaDoor
