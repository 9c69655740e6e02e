/-
  DERIVED. GIVEN WITH THE SEED: THE CARDS: each row of YtcbcbjdobbgddaaDoorRows.lean that lists a variable, with what it lists TIED to the program's text (the seventh form; the later family's looks); each row that meets fmt, with fmt's text TOLD by the authors' own Lean function (tested against real Go, not proved from fmt's source: count such statements apart). THE CARD IS WHAT COUNTS. Prove the row's statement (the work); the ties are given (YtcbcbjdobbgddaaDoorTie.lean); close each card by the builder's one call (the guide's Derived/Test/ToyasCard.lean, 'card_holds'). Laid BY PROGRAM, IN A SANDBOX (cutbox-door.mjs). By AI agents, Wed Nov 11 2026. No macro, syntax, notation, axiom, sorry.
-/
import Derived.Test.YtcbcbjdobbgddaaDoorRows
import GoSem.ClaimSeven
namespace Go.Proofs.YtcbcbjdobbgddaaDoor
namespace Rows

/-- THE TIED CARD OF 'leatlaw08.BatchHeads'. -/
def batchHeadsCard : Claim7 := { stood := { row := batchHeadsRow, standIns := [], harness := (true, "999e4dcba2e7912ac1b263b183925098be5850271ee06021978fa22be7a99a76"), looks := true }, kinds := [], alts := [], laidByText := true, laidKinds := [.data], laidTests := true, laidLooks := .later }
def BatchHeadsCardSaid : Prop := Claim7.holds Tryd.pinned (.plain (OpenSpec.ofChange batchHeadsSpec)) batchHeadsCard

/-- THE TIED CARD OF 'leatlaw08.BatchOnly'. -/
def batchOnlyCard : Claim7 := { stood := { row := batchOnlyRow, standIns := [], harness := (true, "999e4dcba2e7912ac1b263b183925098be5850271ee06021978fa22be7a99a76"), looks := true }, kinds := [], alts := [], laidByText := true, laidKinds := [.data], laidTests := true, laidLooks := .later }
def BatchOnlyCardSaid : Prop := Claim7.holds Tryd.pinned (.plain (OpenSpec.ofChange batchOnlySpec)) batchOnlyCard

/-- THE SECOND FORM's CARD OF 'leatlaw08.BatchHeads'. -/
def batchHeadsUptoCard : Claim7 := { stood := { row := batchHeadsUptoRow, standIns := [], harness := (true, "999e4dcba2e7912ac1b263b183925098be5850271ee06021978fa22be7a99a76"), looks := true }, kinds := [], alts := [], laidByText := true, laidKinds := [.data], laidTests := true, laidLooks := .later }
def BatchHeadsUptoCardSaid : Prop := Claim7.holds Tryd.pinned (.plain (OpenSpec.upto batchHeadsSpec)) batchHeadsUptoCard

/-- THE SECOND FORM's CARD OF 'leatlaw08.BatchOnly'. -/
def batchOnlyUptoCard : Claim7 := { stood := { row := batchOnlyUptoRow, standIns := [], harness := (true, "999e4dcba2e7912ac1b263b183925098be5850271ee06021978fa22be7a99a76"), looks := true }, kinds := [], alts := [], laidByText := true, laidKinds := [.data], laidTests := true, laidLooks := .later }
def BatchOnlyUptoCardSaid : Prop := Claim7.holds Tryd.pinned (.plain (OpenSpec.upto batchOnlySpec)) batchOnlyUptoCard
end Rows
end Go.Proofs.YtcbcbjdobbgddaaDoor
