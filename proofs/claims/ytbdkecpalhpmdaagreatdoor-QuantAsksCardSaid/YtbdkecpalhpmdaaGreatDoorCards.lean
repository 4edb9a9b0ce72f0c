/-
  DERIVED. GIVEN WITH THE SEED: THE CARDS: each row of YtbdkecpalhpmdaaGreatDoorRows.lean that lists a variable, with what it lists TIED to the program's text (the seventh form; the later family's looks); each row that meets fmt, with fmt's text TOLD by the authors' own Lean function (tested against real Go, not proved from fmt's source: count such statements apart). THE CARD IS WHAT COUNTS. Prove the row's statement (the work); the ties are given (YtbdkecpalhpmdaaGreatDoorTie.lean); close each card by the builder's one call (the guide's Derived/Test/ToyasCard.lean, 'card_holds'). Laid BY PROGRAM, IN A SANDBOX (cutbox-door.mjs). By AI agents, Wed Nov 11 2026. No macro, syntax, notation, axiom, sorry.
-/
import Derived.Test.YtbdkecpalhpmdaaGreatDoorRows
import GoSem.ClaimSeven
namespace Go.Proofs.YtbdkecpalhpmdaaGreatDoor
namespace Rows

/-- THE TIED CARD OF 'steelyardlaw16.QuantNumbers'. -/
def quantNumbersCard : Claim7 := { stood := { row := quantNumbersRow, standIns := [], harness := (true, "7dd2b1308fae859d49ba208fedd0abf9227a3e74a4121cf5ded26073aa10e19f"), looks := false }, kinds := [], alts := [], laidByText := true, laidKinds := [.data], laidTests := true, laidLooks := .later }
def QuantNumbersCardSaid : Prop := Claim7.holds Tryz.pinned (.plain (OpenSpec.ofChange quantNumbersSpec)) quantNumbersCard

/-- THE TIED CARD OF 'steelyardlaw16.QuantAsks'. -/
def quantAsksCard : Claim7 := { stood := { row := quantAsksRow, standIns := [], harness := (true, "7dd2b1308fae859d49ba208fedd0abf9227a3e74a4121cf5ded26073aa10e19f"), looks := false }, kinds := [], alts := [], laidByText := true, laidKinds := [.data], laidTests := true, laidLooks := .later }
def QuantAsksCardSaid : Prop := Claim7.holds Tryz.pinned (.plain (OpenSpec.ofChange quantAsksSpec)) quantAsksCard

/-- THE TIED CARD OF 'steelyardlaw16.QuantSeveral'. -/
def quantSeveralCard : Claim7 := { stood := { row := quantSeveralRow, standIns := [], harness := (true, "7dd2b1308fae859d49ba208fedd0abf9227a3e74a4121cf5ded26073aa10e19f"), looks := false }, kinds := [], alts := [], laidByText := true, laidKinds := [.data], laidTests := true, laidLooks := .later }
def QuantSeveralCardSaid : Prop := Claim7.holds Tryz.pinned (.plain (OpenSpec.ofChange quantSeveralSpec)) quantSeveralCard

/-- THE TIED CARD OF 'steelyardlaw16.QuantShares'. -/
def quantSharesCard : Claim7 := { stood := { row := quantSharesRow, standIns := [], harness := (true, "7dd2b1308fae859d49ba208fedd0abf9227a3e74a4121cf5ded26073aa10e19f"), looks := false }, kinds := [], alts := [], laidByText := true, laidKinds := [.data], laidTests := true, laidLooks := .later }
def QuantSharesCardSaid : Prop := Claim7.holds Tryz.pinned (.plain (OpenSpec.ofChange quantSharesSpec)) quantSharesCard

/-- THE TIED CARD OF 'steelyardlaw16.QuantLong'. -/
def quantLongCard : Claim7 := { stood := { row := quantLongRow, standIns := [], harness := (true, "7dd2b1308fae859d49ba208fedd0abf9227a3e74a4121cf5ded26073aa10e19f"), looks := false }, kinds := [], alts := [], laidByText := true, laidKinds := [.data], laidTests := true, laidLooks := .later }
def QuantLongCardSaid : Prop := Claim7.holds Tryz.pinned (.plain (OpenSpec.ofChange quantLongSpec)) quantLongCard

/-- THE TIED CARD OF 'steelyardlaw16.QuantOrder'. -/
def quantOrderCard : Claim7 := { stood := { row := quantOrderRow, standIns := [], harness := (true, "7dd2b1308fae859d49ba208fedd0abf9227a3e74a4121cf5ded26073aa10e19f"), looks := false }, kinds := [], alts := [], laidByText := true, laidKinds := [.data], laidTests := true, laidLooks := .later }
def QuantOrderCardSaid : Prop := Claim7.holds Tryz.pinned (.plain (OpenSpec.ofChange quantOrderSpec)) quantOrderCard

/-- THE TIED CARD OF 'steelyardlaw16.QuantRises'. -/
def quantRisesCard : Claim7 := { stood := { row := quantRisesRow, standIns := [], harness := (true, "7dd2b1308fae859d49ba208fedd0abf9227a3e74a4121cf5ded26073aa10e19f"), looks := false }, kinds := [], alts := [], laidByText := true, laidKinds := [.data], laidTests := true, laidLooks := .later }
def QuantRisesCardSaid : Prop := Claim7.holds Tryz.pinned (.plain (OpenSpec.ofChange quantRisesSpec)) quantRisesCard

/-- THE TIED CARD OF 'steelyardlaw16.QuantCovers'. -/
def quantCoversCard : Claim7 := { stood := { row := quantCoversRow, standIns := [], harness := (true, "7dd2b1308fae859d49ba208fedd0abf9227a3e74a4121cf5ded26073aa10e19f"), looks := false }, kinds := [], alts := [], laidByText := true, laidKinds := [.data], laidTests := true, laidLooks := .later }
def QuantCoversCardSaid : Prop := Claim7.holds Tryz.pinned (.plain (OpenSpec.ofChange quantCoversSpec)) quantCoversCard

/-- THE TIED CARD OF 'steelyardlaw16.QuantMedian'. -/
def quantMedianCard : Claim7 := { stood := { row := quantMedianRow, standIns := [], harness := (true, "7dd2b1308fae859d49ba208fedd0abf9227a3e74a4121cf5ded26073aa10e19f"), looks := false }, kinds := [], alts := [], laidByText := true, laidKinds := [.data], laidTests := true, laidLooks := .later }
def QuantMedianCardSaid : Prop := Claim7.holds Tryz.pinned (.plain (OpenSpec.ofChange quantMedianSpec)) quantMedianCard

/-- THE SECOND FORM's CARD OF 'steelyardlaw16.QuantNumbers'. -/
def quantNumbersUptoCard : Claim7 := { stood := { row := quantNumbersUptoRow, standIns := [], harness := (true, "7dd2b1308fae859d49ba208fedd0abf9227a3e74a4121cf5ded26073aa10e19f"), looks := false }, kinds := [], alts := [], laidByText := true, laidKinds := [.data], laidTests := true, laidLooks := .later }
def QuantNumbersUptoCardSaid : Prop := Claim7.holds Tryz.pinned (.plain (OpenSpec.upto quantNumbersSpec)) quantNumbersUptoCard

/-- THE SECOND FORM's CARD OF 'steelyardlaw16.QuantAsks'. -/
def quantAsksUptoCard : Claim7 := { stood := { row := quantAsksUptoRow, standIns := [], harness := (true, "7dd2b1308fae859d49ba208fedd0abf9227a3e74a4121cf5ded26073aa10e19f"), looks := false }, kinds := [], alts := [], laidByText := true, laidKinds := [.data], laidTests := true, laidLooks := .later }
def QuantAsksUptoCardSaid : Prop := Claim7.holds Tryz.pinned (.plain (OpenSpec.upto quantAsksSpec)) quantAsksUptoCard

/-- THE SECOND FORM's CARD OF 'steelyardlaw16.QuantSeveral'. -/
def quantSeveralUptoCard : Claim7 := { stood := { row := quantSeveralUptoRow, standIns := [], harness := (true, "7dd2b1308fae859d49ba208fedd0abf9227a3e74a4121cf5ded26073aa10e19f"), looks := false }, kinds := [], alts := [], laidByText := true, laidKinds := [.data], laidTests := true, laidLooks := .later }
def QuantSeveralUptoCardSaid : Prop := Claim7.holds Tryz.pinned (.plain (OpenSpec.upto quantSeveralSpec)) quantSeveralUptoCard

/-- THE SECOND FORM's CARD OF 'steelyardlaw16.QuantShares'. -/
def quantSharesUptoCard : Claim7 := { stood := { row := quantSharesUptoRow, standIns := [], harness := (true, "7dd2b1308fae859d49ba208fedd0abf9227a3e74a4121cf5ded26073aa10e19f"), looks := false }, kinds := [], alts := [], laidByText := true, laidKinds := [.data], laidTests := true, laidLooks := .later }
def QuantSharesUptoCardSaid : Prop := Claim7.holds Tryz.pinned (.plain (OpenSpec.upto quantSharesSpec)) quantSharesUptoCard

/-- THE SECOND FORM's CARD OF 'steelyardlaw16.QuantLong'. -/
def quantLongUptoCard : Claim7 := { stood := { row := quantLongUptoRow, standIns := [], harness := (true, "7dd2b1308fae859d49ba208fedd0abf9227a3e74a4121cf5ded26073aa10e19f"), looks := false }, kinds := [], alts := [], laidByText := true, laidKinds := [.data], laidTests := true, laidLooks := .later }
def QuantLongUptoCardSaid : Prop := Claim7.holds Tryz.pinned (.plain (OpenSpec.upto quantLongSpec)) quantLongUptoCard

/-- THE SECOND FORM's CARD OF 'steelyardlaw16.QuantOrder'. -/
def quantOrderUptoCard : Claim7 := { stood := { row := quantOrderUptoRow, standIns := [], harness := (true, "7dd2b1308fae859d49ba208fedd0abf9227a3e74a4121cf5ded26073aa10e19f"), looks := false }, kinds := [], alts := [], laidByText := true, laidKinds := [.data], laidTests := true, laidLooks := .later }
def QuantOrderUptoCardSaid : Prop := Claim7.holds Tryz.pinned (.plain (OpenSpec.upto quantOrderSpec)) quantOrderUptoCard

/-- THE SECOND FORM's CARD OF 'steelyardlaw16.QuantRises'. -/
def quantRisesUptoCard : Claim7 := { stood := { row := quantRisesUptoRow, standIns := [], harness := (true, "7dd2b1308fae859d49ba208fedd0abf9227a3e74a4121cf5ded26073aa10e19f"), looks := false }, kinds := [], alts := [], laidByText := true, laidKinds := [.data], laidTests := true, laidLooks := .later }
def QuantRisesUptoCardSaid : Prop := Claim7.holds Tryz.pinned (.plain (OpenSpec.upto quantRisesSpec)) quantRisesUptoCard

/-- THE SECOND FORM's CARD OF 'steelyardlaw16.QuantCovers'. -/
def quantCoversUptoCard : Claim7 := { stood := { row := quantCoversUptoRow, standIns := [], harness := (true, "7dd2b1308fae859d49ba208fedd0abf9227a3e74a4121cf5ded26073aa10e19f"), looks := false }, kinds := [], alts := [], laidByText := true, laidKinds := [.data], laidTests := true, laidLooks := .later }
def QuantCoversUptoCardSaid : Prop := Claim7.holds Tryz.pinned (.plain (OpenSpec.upto quantCoversSpec)) quantCoversUptoCard

/-- THE SECOND FORM's CARD OF 'steelyardlaw16.QuantMedian'. -/
def quantMedianUptoCard : Claim7 := { stood := { row := quantMedianUptoRow, standIns := [], harness := (true, "7dd2b1308fae859d49ba208fedd0abf9227a3e74a4121cf5ded26073aa10e19f"), looks := false }, kinds := [], alts := [], laidByText := true, laidKinds := [.data], laidTests := true, laidLooks := .later }
def QuantMedianUptoCardSaid : Prop := Claim7.holds Tryz.pinned (.plain (OpenSpec.upto quantMedianSpec)) quantMedianUptoCard
end Rows
end Go.Proofs.YtbdkecpalhpmdaaGreatDoor
