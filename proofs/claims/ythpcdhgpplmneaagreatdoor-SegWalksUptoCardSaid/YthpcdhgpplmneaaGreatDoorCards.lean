/-
  DERIVED. GIVEN WITH THE SEED: THE CARDS: each row of YthpcdhgpplmneaaGreatDoorRows.lean that lists a variable, with what it lists TIED to the program's text (the seventh form; the later family's looks); each row that meets fmt, with fmt's text TOLD by the authors' own Lean function (tested against real Go, not proved from fmt's source: count such statements apart). THE CARD IS WHAT COUNTS. Prove the row's statement (the work); the ties are given (YthpcdhgpplmneaaGreatDoorTie.lean); close each card by the builder's one call (the guide's Derived/Test/ToyasCard.lean, 'card_holds'). Laid BY PROGRAM, IN A SANDBOX (cutbox-door.mjs). By AI agents, Wed Nov 11 2026. No macro, syntax, notation, axiom, sorry.
-/
import Derived.Test.YthpcdhgpplmneaaGreatDoorRows
import GoSem.ClaimSeven
namespace Go.Proofs.YthpcdhgpplmneaaGreatDoor
namespace Rows

/-- THE TIED CARD OF 'leatlaw19.SegReads'. -/
def segReadsCard : Claim7 := { stood := { row := segReadsRow, standIns := [], harness := (true, "6b8702463fdf69fcd546e6225f42c98cf3c3aa22c414bab78fef8c0b570863b8"), looks := true }, kinds := [], alts := [], laidByText := true, laidKinds := [.data], laidTests := true, laidLooks := .later }
def SegReadsCardSaid : Prop := Claim7.holds Tryz.pinned (.plain (OpenSpec.ofChange segReadsSpec)) segReadsCard

/-- THE TIED CARD OF 'leatlaw19.SegFinds'. -/
def segFindsCard : Claim7 := { stood := { row := segFindsRow, standIns := [], harness := (true, "6b8702463fdf69fcd546e6225f42c98cf3c3aa22c414bab78fef8c0b570863b8"), looks := true }, kinds := [], alts := [], laidByText := true, laidKinds := [.data], laidTests := true, laidLooks := .later }
def SegFindsCardSaid : Prop := Claim7.holds Tryz.pinned (.plain (OpenSpec.ofChange segFindsSpec)) segFindsCard

/-- THE TIED CARD OF 'leatlaw19.SegWalks'. -/
def segWalksCard : Claim7 := { stood := { row := segWalksRow, standIns := [], harness := (true, "6b8702463fdf69fcd546e6225f42c98cf3c3aa22c414bab78fef8c0b570863b8"), looks := true }, kinds := [], alts := [], laidByText := true, laidKinds := [.data], laidTests := true, laidLooks := .later }
def SegWalksCardSaid : Prop := Claim7.holds Tryz.pinned (.plain (OpenSpec.ofChange segWalksSpec)) segWalksCard

/-- THE TIED CARD OF 'leatlaw19.SegScans'. -/
def segScansCard : Claim7 := { stood := { row := segScansRow, standIns := [], harness := (true, "6b8702463fdf69fcd546e6225f42c98cf3c3aa22c414bab78fef8c0b570863b8"), looks := true }, kinds := [], alts := [], laidByText := true, laidKinds := [.data], laidTests := true, laidLooks := .later }
def SegScansCardSaid : Prop := Claim7.holds Tryz.pinned (.plain (OpenSpec.ofChange segScansSpec)) segScansCard

/-- THE TIED CARD OF 'leatlaw09.SetGets'. -/
def setGetsCard : Claim7 := { stood := { row := setGetsRow, standIns := [], harness := (true, "6b8702463fdf69fcd546e6225f42c98cf3c3aa22c414bab78fef8c0b570863b8"), looks := true }, kinds := [], alts := [], laidByText := true, laidKinds := [.data], laidTests := true, laidLooks := .later }
def SetGetsCardSaid : Prop := Claim7.holds Tryz.pinned (.plain (OpenSpec.ofChange setGetsSpec)) setGetsCard

/-- THE TIED CARD OF 'leatlaw09.SetPuts'. -/
def setPutsCard : Claim7 := { stood := { row := setPutsRow, standIns := [], harness := (true, "6b8702463fdf69fcd546e6225f42c98cf3c3aa22c414bab78fef8c0b570863b8"), looks := true }, kinds := [], alts := [], laidByText := true, laidKinds := [.data], laidTests := true, laidLooks := .later }
def SetPutsCardSaid : Prop := Claim7.holds Tryz.pinned (.plain (OpenSpec.ofChange setPutsSpec)) setPutsCard

/-- THE TIED CARD OF 'leatlaw09.SetBack'. -/
def setBackCard : Claim7 := { stood := { row := setBackRow, standIns := [], harness := (true, "6b8702463fdf69fcd546e6225f42c98cf3c3aa22c414bab78fef8c0b570863b8"), looks := true }, kinds := [], alts := [], laidByText := true, laidKinds := [.data], laidTests := true, laidLooks := .later }
def SetBackCardSaid : Prop := Claim7.holds Tryz.pinned (.plain (OpenSpec.ofChange setBackSpec)) setBackCard

/-- THE TIED CARD OF 'leatlaw09.SetPlaces'. -/
def setPlacesCard : Claim7 := { stood := { row := setPlacesRow, standIns := [], harness := (true, "6b8702463fdf69fcd546e6225f42c98cf3c3aa22c414bab78fef8c0b570863b8"), looks := true }, kinds := [], alts := [], laidByText := true, laidKinds := [.data], laidTests := true, laidLooks := .later }
def SetPlacesCardSaid : Prop := Claim7.holds Tryz.pinned (.plain (OpenSpec.ofChange setPlacesSpec)) setPlacesCard

/-- THE TIED CARD OF 'leatlaw09.SetDense'. -/
def setDenseCard : Claim7 := { stood := { row := setDenseRow, standIns := [], harness := (true, "6b8702463fdf69fcd546e6225f42c98cf3c3aa22c414bab78fef8c0b570863b8"), looks := true }, kinds := [], alts := [], laidByText := true, laidKinds := [.data], laidTests := true, laidLooks := .later }
def SetDenseCardSaid : Prop := Claim7.holds Tryz.pinned (.plain (OpenSpec.ofChange setDenseSpec)) setDenseCard

/-- THE SECOND FORM's CARD OF 'leatlaw19.SegReads'. -/
def segReadsUptoCard : Claim7 := { stood := { row := segReadsUptoRow, standIns := [], harness := (true, "6b8702463fdf69fcd546e6225f42c98cf3c3aa22c414bab78fef8c0b570863b8"), looks := true }, kinds := [], alts := [], laidByText := true, laidKinds := [.data], laidTests := true, laidLooks := .later }
def SegReadsUptoCardSaid : Prop := Claim7.holds Tryz.pinned (.plain (OpenSpec.upto segReadsSpec)) segReadsUptoCard

/-- THE SECOND FORM's CARD OF 'leatlaw19.SegFinds'. -/
def segFindsUptoCard : Claim7 := { stood := { row := segFindsUptoRow, standIns := [], harness := (true, "6b8702463fdf69fcd546e6225f42c98cf3c3aa22c414bab78fef8c0b570863b8"), looks := true }, kinds := [], alts := [], laidByText := true, laidKinds := [.data], laidTests := true, laidLooks := .later }
def SegFindsUptoCardSaid : Prop := Claim7.holds Tryz.pinned (.plain (OpenSpec.upto segFindsSpec)) segFindsUptoCard

/-- THE SECOND FORM's CARD OF 'leatlaw19.SegWalks'. -/
def segWalksUptoCard : Claim7 := { stood := { row := segWalksUptoRow, standIns := [], harness := (true, "6b8702463fdf69fcd546e6225f42c98cf3c3aa22c414bab78fef8c0b570863b8"), looks := true }, kinds := [], alts := [], laidByText := true, laidKinds := [.data], laidTests := true, laidLooks := .later }
def SegWalksUptoCardSaid : Prop := Claim7.holds Tryz.pinned (.plain (OpenSpec.upto segWalksSpec)) segWalksUptoCard

/-- THE SECOND FORM's CARD OF 'leatlaw19.SegScans'. -/
def segScansUptoCard : Claim7 := { stood := { row := segScansUptoRow, standIns := [], harness := (true, "6b8702463fdf69fcd546e6225f42c98cf3c3aa22c414bab78fef8c0b570863b8"), looks := true }, kinds := [], alts := [], laidByText := true, laidKinds := [.data], laidTests := true, laidLooks := .later }
def SegScansUptoCardSaid : Prop := Claim7.holds Tryz.pinned (.plain (OpenSpec.upto segScansSpec)) segScansUptoCard

/-- THE SECOND FORM's CARD OF 'leatlaw09.SetGets'. -/
def setGetsUptoCard : Claim7 := { stood := { row := setGetsUptoRow, standIns := [], harness := (true, "6b8702463fdf69fcd546e6225f42c98cf3c3aa22c414bab78fef8c0b570863b8"), looks := true }, kinds := [], alts := [], laidByText := true, laidKinds := [.data], laidTests := true, laidLooks := .later }
def SetGetsUptoCardSaid : Prop := Claim7.holds Tryz.pinned (.plain (OpenSpec.upto setGetsSpec)) setGetsUptoCard

/-- THE SECOND FORM's CARD OF 'leatlaw09.SetPuts'. -/
def setPutsUptoCard : Claim7 := { stood := { row := setPutsUptoRow, standIns := [], harness := (true, "6b8702463fdf69fcd546e6225f42c98cf3c3aa22c414bab78fef8c0b570863b8"), looks := true }, kinds := [], alts := [], laidByText := true, laidKinds := [.data], laidTests := true, laidLooks := .later }
def SetPutsUptoCardSaid : Prop := Claim7.holds Tryz.pinned (.plain (OpenSpec.upto setPutsSpec)) setPutsUptoCard

/-- THE SECOND FORM's CARD OF 'leatlaw09.SetBack'. -/
def setBackUptoCard : Claim7 := { stood := { row := setBackUptoRow, standIns := [], harness := (true, "6b8702463fdf69fcd546e6225f42c98cf3c3aa22c414bab78fef8c0b570863b8"), looks := true }, kinds := [], alts := [], laidByText := true, laidKinds := [.data], laidTests := true, laidLooks := .later }
def SetBackUptoCardSaid : Prop := Claim7.holds Tryz.pinned (.plain (OpenSpec.upto setBackSpec)) setBackUptoCard

/-- THE SECOND FORM's CARD OF 'leatlaw09.SetPlaces'. -/
def setPlacesUptoCard : Claim7 := { stood := { row := setPlacesUptoRow, standIns := [], harness := (true, "6b8702463fdf69fcd546e6225f42c98cf3c3aa22c414bab78fef8c0b570863b8"), looks := true }, kinds := [], alts := [], laidByText := true, laidKinds := [.data], laidTests := true, laidLooks := .later }
def SetPlacesUptoCardSaid : Prop := Claim7.holds Tryz.pinned (.plain (OpenSpec.upto setPlacesSpec)) setPlacesUptoCard

/-- THE SECOND FORM's CARD OF 'leatlaw09.SetDense'. -/
def setDenseUptoCard : Claim7 := { stood := { row := setDenseUptoRow, standIns := [], harness := (true, "6b8702463fdf69fcd546e6225f42c98cf3c3aa22c414bab78fef8c0b570863b8"), looks := true }, kinds := [], alts := [], laidByText := true, laidKinds := [.data], laidTests := true, laidLooks := .later }
def SetDenseUptoCardSaid : Prop := Claim7.holds Tryz.pinned (.plain (OpenSpec.upto setDenseSpec)) setDenseUptoCard
end Rows
end Go.Proofs.YthpcdhgpplmneaaGreatDoor
