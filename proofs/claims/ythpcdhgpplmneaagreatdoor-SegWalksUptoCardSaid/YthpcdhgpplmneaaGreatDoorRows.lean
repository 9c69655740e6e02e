/-
  NARROWER THAN 'FOR EVERY INPUT', by the rows' own cells (each row's printed sentence says how): SegReads: laid · SegFinds: laid · SegWalks: laid · SegScans: laid · SetGets: laid · SetPuts: laid · SetBack: laid · SetPlaces: laid · SetDense: laid.
  DERIVED. THE GIVEN ROWS OF THIS SEAT. 9 by the template 'for every input the law returns true; each argument reads behind the call as it read before'; 0 by the template 'total and deterministic' (their statements: YthpcdhgpplmneaaGreatDoorTotals.lean).
  GIVEN WITH THE SEED: the statements are not yours to turn. If you find one false, say at which input.
  Laid BY PROGRAM, IN A SANDBOX (cutbox-rows.mjs): the forced cells as the released guide's own fill.sh prints them over the translation 9dbdff584a931657… (all of the seat's roots in one cut). By AI agents, Wed Nov 11 2026. No macro, syntax, notation, axiom, sorry.
-/
import Derived.Test.YthpcdhgpplmneaaGreatDoorChecked
import GoSem.Claim
import GoSem.ClaimJoined
import GoSem.ClaimMapViews
import Derived.JoinedTies
import Derived.KernelRfl
namespace Go.Proofs.YthpcdhgpplmneaaGreatDoor
/- THE CELL 'sum', in the pinned program and in every row, IS THE sha256 OF THE DUMP (.gsa) THAT YthpcdhgpplmneaaGreatDoorProg.lean LOADS. Nothing in Lean hashes anything: it is a label: what it is worth is what the hold of that sum in a sandbox is worth. -/
noncomputable def Tryz.pinned : Pinned := { name := "ythpcdhgpplmneaagreatdoor", sum := "9dbdff584a9316571eacf94c7ab0ba6c7e9531569038a8414da3ce9a8dac6951", checked := Tryz.checked }
namespace Rows
def none {H : Type} : Left H := { results := [], args := [] }

/- WHAT THE LISTED PACKAGE-LEVEL VARIABLES READ AS WHEN THE CALL BEGINS. Each datum BY PROGRAM (the guide's laid-datum.mjs) off the statement by which the dump's own 'gosem.cut.vars' lays the variable. In a bare row this is a premise. The card (YthpcdhgpplmneaaGreatDoorCards.lean) ties it to the program's text. -/
def laid_leat_crc_rows {H : Type} : DataW H := .agg [.lit (.int .u32 0), .lit (.int .u32 274646895), .lit (.int .u32 549293790), .lit (.int .u32 820201905), .lit (.int .u32 1098587580), .lit (.int .u32 1361435347), .lit (.int .u32 1640403810), .lit (.int .u32 1905808397), .lit (.int .u32 2197175160), .lit (.int .u32 2460548119), .lit (.int .u32 2722870694), .lit (.int .u32 2987750089), .lit (.int .u32 3280807620), .lit (.int .u32 3553878443), .lit (.int .u32 3811616794), .lit (.int .u32 4084100981)]

/-- 'leatlaw19.SegReads': WHATEVER THE INPUT: true; the input reads as it did. -/
def segReadsSpec : ChangeSpec := { name := "segReads", fn := fun _ => fun
  | [d1, d2, d3, d4] => { results := [.lit (.bool true)], args := [d1, d2, d3, d4] }
  | _ => none }
def segReadsRow : OpenClaim := { program := "ythpcdhgpplmneaagreatdoor", sum := "9dbdff584a9316571eacf94c7ab0ba6c7e9531569038a8414da3ce9a8dac6951", func := "leat/leatlaw19.SegReads", spec := "segReads", unfollowed := true, recurses := true, named := ["leat/crc.rows"], apart := false, laid := [("leat/crc.rows", laid_leat_crc_rows)] }
def SegReadsSaid : Prop := segReadsRow.holds Tryz.pinned (OpenSpec.ofChange segReadsSpec)

/-- ITS FALSE NEIGHBOUR: 'it returns false'. Refute it at one input. -/
def segReadsWrong : ChangeSpec := { name := "segReads", fn := fun _ => fun
  | [d1, d2, d3, d4] => { results := [.lit (.bool false)], args := [d1, d2, d3, d4] }
  | _ => none }
def SegReadsWrongFalsely : Prop := segReadsRow.holds Tryz.pinned (OpenSpec.ofChange segReadsWrong)

/-- 'leatlaw19.SegFinds': WHATEVER THE INPUT: true; the input reads as it did. -/
def segFindsSpec : ChangeSpec := { name := "segFinds", fn := fun _ => fun
  | [d1, d2, d3] => { results := [.lit (.bool true)], args := [d1, d2, d3] }
  | _ => none }
def segFindsRow : OpenClaim := { program := "ythpcdhgpplmneaagreatdoor", sum := "9dbdff584a9316571eacf94c7ab0ba6c7e9531569038a8414da3ce9a8dac6951", func := "leat/leatlaw19.SegFinds", spec := "segFinds", unfollowed := true, recurses := true, named := ["leat/crc.rows"], apart := false, laid := [("leat/crc.rows", laid_leat_crc_rows)] }
def SegFindsSaid : Prop := segFindsRow.holds Tryz.pinned (OpenSpec.ofChange segFindsSpec)

/-- ITS FALSE NEIGHBOUR: 'it returns false'. Refute it at one input. -/
def segFindsWrong : ChangeSpec := { name := "segFinds", fn := fun _ => fun
  | [d1, d2, d3] => { results := [.lit (.bool false)], args := [d1, d2, d3] }
  | _ => none }
def SegFindsWrongFalsely : Prop := segFindsRow.holds Tryz.pinned (OpenSpec.ofChange segFindsWrong)

/-- 'leatlaw19.SegWalks': WHATEVER THE INPUT: true; the input reads as it did. -/
def segWalksSpec : ChangeSpec := { name := "segWalks", fn := fun _ => fun
  | [d1, d2, d3] => { results := [.lit (.bool true)], args := [d1, d2, d3] }
  | _ => none }
def segWalksRow : OpenClaim := { program := "ythpcdhgpplmneaagreatdoor", sum := "9dbdff584a9316571eacf94c7ab0ba6c7e9531569038a8414da3ce9a8dac6951", func := "leat/leatlaw19.SegWalks", spec := "segWalks", unfollowed := true, recurses := true, named := ["leat/crc.rows"], apart := false, laid := [("leat/crc.rows", laid_leat_crc_rows)] }
def SegWalksSaid : Prop := segWalksRow.holds Tryz.pinned (OpenSpec.ofChange segWalksSpec)

/-- ITS FALSE NEIGHBOUR: 'it returns false'. Refute it at one input. -/
def segWalksWrong : ChangeSpec := { name := "segWalks", fn := fun _ => fun
  | [d1, d2, d3] => { results := [.lit (.bool false)], args := [d1, d2, d3] }
  | _ => none }
def SegWalksWrongFalsely : Prop := segWalksRow.holds Tryz.pinned (OpenSpec.ofChange segWalksWrong)

/-- 'leatlaw19.SegScans': WHATEVER THE INPUT: true; the input reads as it did. -/
def segScansSpec : ChangeSpec := { name := "segScans", fn := fun _ => fun
  | [d1, d2] => { results := [.lit (.bool true)], args := [d1, d2] }
  | _ => none }
def segScansRow : OpenClaim := { program := "ythpcdhgpplmneaagreatdoor", sum := "9dbdff584a9316571eacf94c7ab0ba6c7e9531569038a8414da3ce9a8dac6951", func := "leat/leatlaw19.SegScans", spec := "segScans", unfollowed := true, recurses := true, named := ["leat/crc.rows"], apart := false, laid := [("leat/crc.rows", laid_leat_crc_rows)] }
def SegScansSaid : Prop := segScansRow.holds Tryz.pinned (OpenSpec.ofChange segScansSpec)

/-- ITS FALSE NEIGHBOUR: 'it returns false'. Refute it at one input. -/
def segScansWrong : ChangeSpec := { name := "segScans", fn := fun _ => fun
  | [d1, d2] => { results := [.lit (.bool false)], args := [d1, d2] }
  | _ => none }
def SegScansWrongFalsely : Prop := segScansRow.holds Tryz.pinned (OpenSpec.ofChange segScansWrong)

/-- 'leatlaw09.SetGets': WHATEVER THE INPUT: true; the input reads as it did. -/
def setGetsSpec : ChangeSpec := { name := "setGets", fn := fun _ => fun
  | [d] => { results := [.lit (.bool true)], args := [d] }
  | _ => none }
def setGetsRow : OpenClaim := { program := "ythpcdhgpplmneaagreatdoor", sum := "9dbdff584a9316571eacf94c7ab0ba6c7e9531569038a8414da3ce9a8dac6951", func := "leat/leatlaw09.SetGets", spec := "setGets", unfollowed := true, recurses := true, named := ["leat/crc.rows"], apart := false, laid := [("leat/crc.rows", laid_leat_crc_rows)] }
def SetGetsSaid : Prop := setGetsRow.holds Tryz.pinned (OpenSpec.ofChange setGetsSpec)

/-- ITS FALSE NEIGHBOUR: 'it returns false'. Refute it at one input. -/
def setGetsWrong : ChangeSpec := { name := "setGets", fn := fun _ => fun
  | [d] => { results := [.lit (.bool false)], args := [d] }
  | _ => none }
def SetGetsWrongFalsely : Prop := setGetsRow.holds Tryz.pinned (OpenSpec.ofChange setGetsWrong)

/-- 'leatlaw09.SetPuts': WHATEVER THE INPUT: true; the input reads as it did. -/
def setPutsSpec : ChangeSpec := { name := "setPuts", fn := fun _ => fun
  | [d1, d2] => { results := [.lit (.bool true)], args := [d1, d2] }
  | _ => none }
def setPutsRow : OpenClaim := { program := "ythpcdhgpplmneaagreatdoor", sum := "9dbdff584a9316571eacf94c7ab0ba6c7e9531569038a8414da3ce9a8dac6951", func := "leat/leatlaw09.SetPuts", spec := "setPuts", unfollowed := true, recurses := true, named := ["leat/crc.rows"], apart := false, laid := [("leat/crc.rows", laid_leat_crc_rows)] }
def SetPutsSaid : Prop := setPutsRow.holds Tryz.pinned (OpenSpec.ofChange setPutsSpec)

/-- ITS FALSE NEIGHBOUR: 'it returns false'. Refute it at one input. -/
def setPutsWrong : ChangeSpec := { name := "setPuts", fn := fun _ => fun
  | [d1, d2] => { results := [.lit (.bool false)], args := [d1, d2] }
  | _ => none }
def SetPutsWrongFalsely : Prop := setPutsRow.holds Tryz.pinned (OpenSpec.ofChange setPutsWrong)

/-- 'leatlaw09.SetBack': WHATEVER THE INPUT: true; the input reads as it did. -/
def setBackSpec : ChangeSpec := { name := "setBack", fn := fun _ => fun
  | [d1, d2] => { results := [.lit (.bool true)], args := [d1, d2] }
  | _ => none }
def setBackRow : OpenClaim := { program := "ythpcdhgpplmneaagreatdoor", sum := "9dbdff584a9316571eacf94c7ab0ba6c7e9531569038a8414da3ce9a8dac6951", func := "leat/leatlaw09.SetBack", spec := "setBack", unfollowed := true, recurses := true, named := ["leat/crc.rows"], apart := false, laid := [("leat/crc.rows", laid_leat_crc_rows)] }
def SetBackSaid : Prop := setBackRow.holds Tryz.pinned (OpenSpec.ofChange setBackSpec)

/-- ITS FALSE NEIGHBOUR: 'it returns false'. Refute it at one input. -/
def setBackWrong : ChangeSpec := { name := "setBack", fn := fun _ => fun
  | [d1, d2] => { results := [.lit (.bool false)], args := [d1, d2] }
  | _ => none }
def SetBackWrongFalsely : Prop := setBackRow.holds Tryz.pinned (OpenSpec.ofChange setBackWrong)

/-- 'leatlaw09.SetPlaces': WHATEVER THE INPUT: true; the input reads as it did. -/
def setPlacesSpec : ChangeSpec := { name := "setPlaces", fn := fun _ => fun
  | [d1, d2, d3] => { results := [.lit (.bool true)], args := [d1, d2, d3] }
  | _ => none }
def setPlacesRow : OpenClaim := { program := "ythpcdhgpplmneaagreatdoor", sum := "9dbdff584a9316571eacf94c7ab0ba6c7e9531569038a8414da3ce9a8dac6951", func := "leat/leatlaw09.SetPlaces", spec := "setPlaces", unfollowed := true, recurses := true, named := ["leat/crc.rows"], apart := false, laid := [("leat/crc.rows", laid_leat_crc_rows)] }
def SetPlacesSaid : Prop := setPlacesRow.holds Tryz.pinned (OpenSpec.ofChange setPlacesSpec)

/-- ITS FALSE NEIGHBOUR: 'it returns false'. Refute it at one input. -/
def setPlacesWrong : ChangeSpec := { name := "setPlaces", fn := fun _ => fun
  | [d1, d2, d3] => { results := [.lit (.bool false)], args := [d1, d2, d3] }
  | _ => none }
def SetPlacesWrongFalsely : Prop := setPlacesRow.holds Tryz.pinned (OpenSpec.ofChange setPlacesWrong)

/-- 'leatlaw09.SetDense': WHATEVER THE INPUT: true; the input reads as it did. -/
def setDenseSpec : ChangeSpec := { name := "setDense", fn := fun _ => fun
  | [d1, d2, d3, d4] => { results := [.lit (.bool true)], args := [d1, d2, d3, d4] }
  | _ => none }
def setDenseRow : OpenClaim := { program := "ythpcdhgpplmneaagreatdoor", sum := "9dbdff584a9316571eacf94c7ab0ba6c7e9531569038a8414da3ce9a8dac6951", func := "leat/leatlaw09.SetDense", spec := "setDense", unfollowed := true, recurses := true, named := ["leat/crc.rows"], apart := false, laid := [("leat/crc.rows", laid_leat_crc_rows)] }
def SetDenseSaid : Prop := setDenseRow.holds Tryz.pinned (OpenSpec.ofChange setDenseSpec)

/-- ITS FALSE NEIGHBOUR: 'it returns false'. Refute it at one input. -/
def setDenseWrong : ChangeSpec := { name := "setDense", fn := fun _ => fun
  | [d1, d2, d3, d4] => { results := [.lit (.bool false)], args := [d1, d2, d3, d4] }
  | _ => none }
def SetDenseWrongFalsely : Prop := setDenseRow.holds Tryz.pinned (OpenSpec.ofChange setDenseWrong)

/- THE SECOND FORM. 'bulk': how many values and letters a reading holds, each counted each time it is reached (what is shared counts as often as it is met; a slice's spare places count too). A statement '..UptoSaid' is the law's where the arguments, and the package variables that the reading takes, are together of bulk at most 1048576: NARROWER than '..Said'. Prove '..Said' where nothing that the law and all that it calls make is longer than what came in: it says more and counts as full. Else prove '..UptoSaid'. A law counts once. -/
mutual
def uptoBulk {H : Type} : DataW H → Nat
  | .lit (.string bytes) => bytes.length + 1
  | .lit _ => 1
  | .nil => 1
  | .ptr d => uptoBulk d + 1
  | .slice elems spare => uptoBulkAll elems + uptoBulkAll spare + 1
  | .agg parts => uptoBulkAll parts + 1
  | .iface _ d => uptoBulk d + 1
  | .map entries => uptoBulkEntries entries + 1
  | .held _ => 1
def uptoBulkAll {H : Type} : List (DataW H) → Nat
  | [] => 0
  | d :: r => uptoBulk d + uptoBulkAll r
def uptoBulkEntries {H : Type} : List (Lit × DataW H) → Nat
  | [] => 0
  | x :: r => uptoBulkEntry x + uptoBulkEntries r
def uptoBulkEntry {H : Type} : Lit × DataW H → Nat
  | (.string bytes, d) => bytes.length + uptoBulk d + 1
  | (_, d) => uptoBulk d + 1
 end
def uptoSmall : (H : Type) → List (DataW H) → Bool := fun _ ds => decide (uptoBulkAll ds ≤ 1048576)
def OpenSpec.upto (s : _root_.Go.ChangeSpec) : _root_.Go.OpenSpec := { _root_.Go.OpenSpec.ofChange s with cond := some uptoSmall }

/-- 'leatlaw19.SegReads', WHERE WHAT IT READS IS OF BULK AT MOST 1048576: true; the input reads as it did. -/
def segReadsUptoRow : OpenClaim := { program := "ythpcdhgpplmneaagreatdoor", sum := "9dbdff584a9316571eacf94c7ab0ba6c7e9531569038a8414da3ce9a8dac6951", func := "leat/leatlaw19.SegReads", spec := "segReads", unfollowed := true, recurses := true, named := ["leat/crc.rows"], apart := false, laid := [("leat/crc.rows", laid_leat_crc_rows)], narrowed := true }
def SegReadsUptoSaid : Prop := segReadsUptoRow.holds Tryz.pinned (OpenSpec.upto segReadsSpec)

/-- 'leatlaw19.SegFinds', WHERE WHAT IT READS IS OF BULK AT MOST 1048576: true; the input reads as it did. -/
def segFindsUptoRow : OpenClaim := { program := "ythpcdhgpplmneaagreatdoor", sum := "9dbdff584a9316571eacf94c7ab0ba6c7e9531569038a8414da3ce9a8dac6951", func := "leat/leatlaw19.SegFinds", spec := "segFinds", unfollowed := true, recurses := true, named := ["leat/crc.rows"], apart := false, laid := [("leat/crc.rows", laid_leat_crc_rows)], narrowed := true }
def SegFindsUptoSaid : Prop := segFindsUptoRow.holds Tryz.pinned (OpenSpec.upto segFindsSpec)

/-- 'leatlaw19.SegWalks', WHERE WHAT IT READS IS OF BULK AT MOST 1048576: true; the input reads as it did. -/
def segWalksUptoRow : OpenClaim := { program := "ythpcdhgpplmneaagreatdoor", sum := "9dbdff584a9316571eacf94c7ab0ba6c7e9531569038a8414da3ce9a8dac6951", func := "leat/leatlaw19.SegWalks", spec := "segWalks", unfollowed := true, recurses := true, named := ["leat/crc.rows"], apart := false, laid := [("leat/crc.rows", laid_leat_crc_rows)], narrowed := true }
def SegWalksUptoSaid : Prop := segWalksUptoRow.holds Tryz.pinned (OpenSpec.upto segWalksSpec)

/-- 'leatlaw19.SegScans', WHERE WHAT IT READS IS OF BULK AT MOST 1048576: true; the input reads as it did. -/
def segScansUptoRow : OpenClaim := { program := "ythpcdhgpplmneaagreatdoor", sum := "9dbdff584a9316571eacf94c7ab0ba6c7e9531569038a8414da3ce9a8dac6951", func := "leat/leatlaw19.SegScans", spec := "segScans", unfollowed := true, recurses := true, named := ["leat/crc.rows"], apart := false, laid := [("leat/crc.rows", laid_leat_crc_rows)], narrowed := true }
def SegScansUptoSaid : Prop := segScansUptoRow.holds Tryz.pinned (OpenSpec.upto segScansSpec)

/-- 'leatlaw09.SetGets', WHERE WHAT IT READS IS OF BULK AT MOST 1048576: true; the input reads as it did. -/
def setGetsUptoRow : OpenClaim := { program := "ythpcdhgpplmneaagreatdoor", sum := "9dbdff584a9316571eacf94c7ab0ba6c7e9531569038a8414da3ce9a8dac6951", func := "leat/leatlaw09.SetGets", spec := "setGets", unfollowed := true, recurses := true, named := ["leat/crc.rows"], apart := false, laid := [("leat/crc.rows", laid_leat_crc_rows)], narrowed := true }
def SetGetsUptoSaid : Prop := setGetsUptoRow.holds Tryz.pinned (OpenSpec.upto setGetsSpec)

/-- 'leatlaw09.SetPuts', WHERE WHAT IT READS IS OF BULK AT MOST 1048576: true; the input reads as it did. -/
def setPutsUptoRow : OpenClaim := { program := "ythpcdhgpplmneaagreatdoor", sum := "9dbdff584a9316571eacf94c7ab0ba6c7e9531569038a8414da3ce9a8dac6951", func := "leat/leatlaw09.SetPuts", spec := "setPuts", unfollowed := true, recurses := true, named := ["leat/crc.rows"], apart := false, laid := [("leat/crc.rows", laid_leat_crc_rows)], narrowed := true }
def SetPutsUptoSaid : Prop := setPutsUptoRow.holds Tryz.pinned (OpenSpec.upto setPutsSpec)

/-- 'leatlaw09.SetBack', WHERE WHAT IT READS IS OF BULK AT MOST 1048576: true; the input reads as it did. -/
def setBackUptoRow : OpenClaim := { program := "ythpcdhgpplmneaagreatdoor", sum := "9dbdff584a9316571eacf94c7ab0ba6c7e9531569038a8414da3ce9a8dac6951", func := "leat/leatlaw09.SetBack", spec := "setBack", unfollowed := true, recurses := true, named := ["leat/crc.rows"], apart := false, laid := [("leat/crc.rows", laid_leat_crc_rows)], narrowed := true }
def SetBackUptoSaid : Prop := setBackUptoRow.holds Tryz.pinned (OpenSpec.upto setBackSpec)

/-- 'leatlaw09.SetPlaces', WHERE WHAT IT READS IS OF BULK AT MOST 1048576: true; the input reads as it did. -/
def setPlacesUptoRow : OpenClaim := { program := "ythpcdhgpplmneaagreatdoor", sum := "9dbdff584a9316571eacf94c7ab0ba6c7e9531569038a8414da3ce9a8dac6951", func := "leat/leatlaw09.SetPlaces", spec := "setPlaces", unfollowed := true, recurses := true, named := ["leat/crc.rows"], apart := false, laid := [("leat/crc.rows", laid_leat_crc_rows)], narrowed := true }
def SetPlacesUptoSaid : Prop := setPlacesUptoRow.holds Tryz.pinned (OpenSpec.upto setPlacesSpec)

/-- 'leatlaw09.SetDense', WHERE WHAT IT READS IS OF BULK AT MOST 1048576: true; the input reads as it did. -/
def setDenseUptoRow : OpenClaim := { program := "ythpcdhgpplmneaagreatdoor", sum := "9dbdff584a9316571eacf94c7ab0ba6c7e9531569038a8414da3ce9a8dac6951", func := "leat/leatlaw09.SetDense", spec := "setDense", unfollowed := true, recurses := true, named := ["leat/crc.rows"], apart := false, laid := [("leat/crc.rows", laid_leat_crc_rows)], narrowed := true }
def SetDenseUptoSaid : Prop := setDenseUptoRow.holds Tryz.pinned (OpenSpec.upto setDenseSpec)

end Rows
end Go.Proofs.YthpcdhgpplmneaaGreatDoor
