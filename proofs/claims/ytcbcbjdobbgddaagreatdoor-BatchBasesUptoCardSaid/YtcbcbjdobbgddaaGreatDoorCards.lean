/-
  DERIVED. GIVEN WITH THE SEED: THE CARDS: each row of YtcbcbjdobbgddaaGreatDoorRows.lean that lists a variable, with what it lists TIED to the program's text (the seventh form; the later family's looks); each row that meets fmt, with fmt's text TOLD by the authors' own Lean function (tested against real Go, not proved from fmt's source: count such statements apart). THE CARD IS WHAT COUNTS. Prove the row's statement (the work); the ties are given (YtcbcbjdobbgddaaGreatDoorTie.lean); close each card by the builder's one call (the guide's Derived/Test/ToyasCard.lean, 'card_holds'). Laid BY PROGRAM, IN A SANDBOX (cutbox-door.mjs). By AI agents, Wed Nov 11 2026. No macro, syntax, notation, axiom, sorry.
-/
import Derived.Test.YtcbcbjdobbgddaaGreatDoorRows
import GoSem.ClaimSeven
namespace Go.Proofs.YtcbcbjdobbgddaaGreatDoor
namespace Rows

/-- THE TIED CARD OF 'leatlaw08.BatchGets'. -/
def batchGetsCard : Claim7 := { stood := { row := batchGetsRow, standIns := [], harness := (true, "4cc9f6e98027b9213152df62f591f49ccaf276dd4dc5698b2f48f7ea7bbc73ec"), looks := true }, kinds := [], alts := [], laidByText := true, laidKinds := [.data], laidTests := true, laidLooks := .later }
def BatchGetsCardSaid : Prop := Claim7.holds Tryz.pinned (.plain (OpenSpec.ofChange batchGetsSpec)) batchGetsCard

/-- THE TIED CARD OF 'leatlaw08.BatchTells'. -/
def batchTellsCard : Claim7 := { stood := { row := batchTellsRow, standIns := [], harness := (true, "4cc9f6e98027b9213152df62f591f49ccaf276dd4dc5698b2f48f7ea7bbc73ec"), looks := true }, kinds := [], alts := [], laidByText := true, laidKinds := [.data], laidTests := true, laidLooks := .later }
def BatchTellsCardSaid : Prop := Claim7.holds Tryz.pinned (.plain (OpenSpec.ofChange batchTellsSpec)) batchTellsCard

/-- THE TIED CARD OF 'leatlaw08.BatchMemory'. -/
def batchMemoryCard : Claim7 := { stood := { row := batchMemoryRow, standIns := [], harness := (true, "4cc9f6e98027b9213152df62f591f49ccaf276dd4dc5698b2f48f7ea7bbc73ec"), looks := true }, kinds := [], alts := [], laidByText := true, laidKinds := [.data], laidTests := true, laidLooks := .later }
def BatchMemoryCardSaid : Prop := Claim7.holds Tryz.pinned (.plain (OpenSpec.ofChange batchMemorySpec)) batchMemoryCard

/-- THE TIED CARD OF 'leatlaw08.BatchBack'. -/
def batchBackCard : Claim7 := { stood := { row := batchBackRow, standIns := [], harness := (true, "4cc9f6e98027b9213152df62f591f49ccaf276dd4dc5698b2f48f7ea7bbc73ec"), looks := true }, kinds := [], alts := [], laidByText := true, laidKinds := [.data], laidTests := true, laidLooks := .later }
def BatchBackCardSaid : Prop := Claim7.holds Tryz.pinned (.plain (OpenSpec.ofChange batchBackSpec)) batchBackCard

/-- THE TIED CARD OF 'leatlaw08.BatchPuts'. -/
def batchPutsCard : Claim7 := { stood := { row := batchPutsRow, standIns := [], harness := (true, "4cc9f6e98027b9213152df62f591f49ccaf276dd4dc5698b2f48f7ea7bbc73ec"), looks := true }, kinds := [], alts := [], laidByText := true, laidKinds := [.data], laidTests := true, laidLooks := .later }
def BatchPutsCardSaid : Prop := Claim7.holds Tryz.pinned (.plain (OpenSpec.ofChange batchPutsSpec)) batchPutsCard

/-- THE TIED CARD OF 'leatlaw08.BatchBases'. -/
def batchBasesCard : Claim7 := { stood := { row := batchBasesRow, standIns := [], harness := (true, "4cc9f6e98027b9213152df62f591f49ccaf276dd4dc5698b2f48f7ea7bbc73ec"), looks := true }, kinds := [], alts := [], laidByText := true, laidKinds := [.data], laidTests := true, laidLooks := .later }
def BatchBasesCardSaid : Prop := Claim7.holds Tryz.pinned (.plain (OpenSpec.ofChange batchBasesSpec)) batchBasesCard

/-- THE TIED CARD OF 'leatlaw08.BatchMoves'. -/
def batchMovesCard : Claim7 := { stood := { row := batchMovesRow, standIns := [], harness := (true, "4cc9f6e98027b9213152df62f591f49ccaf276dd4dc5698b2f48f7ea7bbc73ec"), looks := true }, kinds := [], alts := [], laidByText := true, laidKinds := [.data], laidTests := true, laidLooks := .later }
def BatchMovesCardSaid : Prop := Claim7.holds Tryz.pinned (.plain (OpenSpec.ofChange batchMovesSpec)) batchMovesCard

/-- THE SECOND FORM's CARD OF 'leatlaw08.BatchGets'. -/
def batchGetsUptoCard : Claim7 := { stood := { row := batchGetsUptoRow, standIns := [], harness := (true, "4cc9f6e98027b9213152df62f591f49ccaf276dd4dc5698b2f48f7ea7bbc73ec"), looks := true }, kinds := [], alts := [], laidByText := true, laidKinds := [.data], laidTests := true, laidLooks := .later }
def BatchGetsUptoCardSaid : Prop := Claim7.holds Tryz.pinned (.plain (OpenSpec.upto batchGetsSpec)) batchGetsUptoCard

/-- THE SECOND FORM's CARD OF 'leatlaw08.BatchTells'. -/
def batchTellsUptoCard : Claim7 := { stood := { row := batchTellsUptoRow, standIns := [], harness := (true, "4cc9f6e98027b9213152df62f591f49ccaf276dd4dc5698b2f48f7ea7bbc73ec"), looks := true }, kinds := [], alts := [], laidByText := true, laidKinds := [.data], laidTests := true, laidLooks := .later }
def BatchTellsUptoCardSaid : Prop := Claim7.holds Tryz.pinned (.plain (OpenSpec.upto batchTellsSpec)) batchTellsUptoCard

/-- THE SECOND FORM's CARD OF 'leatlaw08.BatchMemory'. -/
def batchMemoryUptoCard : Claim7 := { stood := { row := batchMemoryUptoRow, standIns := [], harness := (true, "4cc9f6e98027b9213152df62f591f49ccaf276dd4dc5698b2f48f7ea7bbc73ec"), looks := true }, kinds := [], alts := [], laidByText := true, laidKinds := [.data], laidTests := true, laidLooks := .later }
def BatchMemoryUptoCardSaid : Prop := Claim7.holds Tryz.pinned (.plain (OpenSpec.upto batchMemorySpec)) batchMemoryUptoCard

/-- THE SECOND FORM's CARD OF 'leatlaw08.BatchBack'. -/
def batchBackUptoCard : Claim7 := { stood := { row := batchBackUptoRow, standIns := [], harness := (true, "4cc9f6e98027b9213152df62f591f49ccaf276dd4dc5698b2f48f7ea7bbc73ec"), looks := true }, kinds := [], alts := [], laidByText := true, laidKinds := [.data], laidTests := true, laidLooks := .later }
def BatchBackUptoCardSaid : Prop := Claim7.holds Tryz.pinned (.plain (OpenSpec.upto batchBackSpec)) batchBackUptoCard

/-- THE SECOND FORM's CARD OF 'leatlaw08.BatchPuts'. -/
def batchPutsUptoCard : Claim7 := { stood := { row := batchPutsUptoRow, standIns := [], harness := (true, "4cc9f6e98027b9213152df62f591f49ccaf276dd4dc5698b2f48f7ea7bbc73ec"), looks := true }, kinds := [], alts := [], laidByText := true, laidKinds := [.data], laidTests := true, laidLooks := .later }
def BatchPutsUptoCardSaid : Prop := Claim7.holds Tryz.pinned (.plain (OpenSpec.upto batchPutsSpec)) batchPutsUptoCard

/-- THE SECOND FORM's CARD OF 'leatlaw08.BatchBases'. -/
def batchBasesUptoCard : Claim7 := { stood := { row := batchBasesUptoRow, standIns := [], harness := (true, "4cc9f6e98027b9213152df62f591f49ccaf276dd4dc5698b2f48f7ea7bbc73ec"), looks := true }, kinds := [], alts := [], laidByText := true, laidKinds := [.data], laidTests := true, laidLooks := .later }
def BatchBasesUptoCardSaid : Prop := Claim7.holds Tryz.pinned (.plain (OpenSpec.upto batchBasesSpec)) batchBasesUptoCard

/-- THE SECOND FORM's CARD OF 'leatlaw08.BatchMoves'. -/
def batchMovesUptoCard : Claim7 := { stood := { row := batchMovesUptoRow, standIns := [], harness := (true, "4cc9f6e98027b9213152df62f591f49ccaf276dd4dc5698b2f48f7ea7bbc73ec"), looks := true }, kinds := [], alts := [], laidByText := true, laidKinds := [.data], laidTests := true, laidLooks := .later }
def BatchMovesUptoCardSaid : Prop := Claim7.holds Tryz.pinned (.plain (OpenSpec.upto batchMovesSpec)) batchMovesUptoCard
end Rows
end Go.Proofs.YtcbcbjdobbgddaaGreatDoor
