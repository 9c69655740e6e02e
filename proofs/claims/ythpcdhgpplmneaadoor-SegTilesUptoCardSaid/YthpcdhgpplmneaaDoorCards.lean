/-
  DERIVED. GIVEN WITH THE SEED: THE CARDS: each row of YthpcdhgpplmneaaDoorRows.lean that lists a variable, with what it lists TIED to the program's text (the seventh form; the later family's looks); each row that meets fmt, with fmt's text TOLD by the authors' own Lean function (tested against real Go, not proved from fmt's source: count such statements apart). THE CARD IS WHAT COUNTS. Prove the row's statement (the work); the ties are given (YthpcdhgpplmneaaDoorTie.lean); close each card by the builder's one call (the guide's Derived/Test/ToyasCard.lean, 'card_holds'). Laid BY PROGRAM, IN A SANDBOX (cutbox-door.mjs). By AI agents, Wed Nov 11 2026. No macro, syntax, notation, axiom, sorry.
-/
import Derived.Test.YthpcdhgpplmneaaDoorRows
import GoSem.ClaimSeven
namespace Go.Proofs.YthpcdhgpplmneaaDoor
namespace Rows

/-- THE TIED CARD OF 'leatlaw19.SegTiles'. -/
def segTilesCard : Claim7 := { stood := { row := segTilesRow, standIns := [], harness := (true, "3d2ce3fe348e91496c053ce3acb764a176ed8038f2c963f7b9c1a6a47ec1e810"), looks := true }, kinds := [], alts := [], laidByText := true, laidKinds := [.data], laidTests := true, laidLooks := .later }
def SegTilesCardSaid : Prop := Claim7.holds Tryd.pinned (.plain (OpenSpec.ofChange segTilesSpec)) segTilesCard

/-- THE TIED CARD OF 'leatlaw19.SegTorn'. -/
def segTornCard : Claim7 := { stood := { row := segTornRow, standIns := [], harness := (true, "3d2ce3fe348e91496c053ce3acb764a176ed8038f2c963f7b9c1a6a47ec1e810"), looks := true }, kinds := [], alts := [], laidByText := true, laidKinds := [.data], laidTests := true, laidLooks := .later }
def SegTornCardSaid : Prop := Claim7.holds Tryd.pinned (.plain (OpenSpec.ofChange segTornSpec)) segTornCard

/-- THE TIED CARD OF 'leatlaw09.SetSplits'. -/
def setSplitsCard : Claim7 := { stood := { row := setSplitsRow, standIns := [], harness := (true, "3d2ce3fe348e91496c053ce3acb764a176ed8038f2c963f7b9c1a6a47ec1e810"), looks := true }, kinds := [], alts := [], laidByText := true, laidKinds := [.data], laidTests := true, laidLooks := .later }
def SetSplitsCardSaid : Prop := Claim7.holds Tryd.pinned (.plain (OpenSpec.ofChange setSplitsSpec)) setSplitsCard

/-- THE SECOND FORM's CARD OF 'leatlaw19.SegTiles'. -/
def segTilesUptoCard : Claim7 := { stood := { row := segTilesUptoRow, standIns := [], harness := (true, "3d2ce3fe348e91496c053ce3acb764a176ed8038f2c963f7b9c1a6a47ec1e810"), looks := true }, kinds := [], alts := [], laidByText := true, laidKinds := [.data], laidTests := true, laidLooks := .later }
def SegTilesUptoCardSaid : Prop := Claim7.holds Tryd.pinned (.plain (OpenSpec.upto segTilesSpec)) segTilesUptoCard

/-- THE SECOND FORM's CARD OF 'leatlaw19.SegTorn'. -/
def segTornUptoCard : Claim7 := { stood := { row := segTornUptoRow, standIns := [], harness := (true, "3d2ce3fe348e91496c053ce3acb764a176ed8038f2c963f7b9c1a6a47ec1e810"), looks := true }, kinds := [], alts := [], laidByText := true, laidKinds := [.data], laidTests := true, laidLooks := .later }
def SegTornUptoCardSaid : Prop := Claim7.holds Tryd.pinned (.plain (OpenSpec.upto segTornSpec)) segTornUptoCard

/-- THE SECOND FORM's CARD OF 'leatlaw09.SetSplits'. -/
def setSplitsUptoCard : Claim7 := { stood := { row := setSplitsUptoRow, standIns := [], harness := (true, "3d2ce3fe348e91496c053ce3acb764a176ed8038f2c963f7b9c1a6a47ec1e810"), looks := true }, kinds := [], alts := [], laidByText := true, laidKinds := [.data], laidTests := true, laidLooks := .later }
def SetSplitsUptoCardSaid : Prop := Claim7.holds Tryd.pinned (.plain (OpenSpec.upto setSplitsSpec)) setSplitsUptoCard
end Rows
end Go.Proofs.YthpcdhgpplmneaaDoor
