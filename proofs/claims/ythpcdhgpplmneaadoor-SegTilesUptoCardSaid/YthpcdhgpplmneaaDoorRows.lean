/-
  NARROWER THAN 'FOR EVERY INPUT', by the rows' own cells (each row's printed sentence says how): SegTiles: laid · SegTorn: laid · SetSplits: laid.
  DERIVED. THE GIVEN ROWS OF THIS SEAT. 3 by the template 'for every input the law returns true; each argument reads behind the call as it read before'; 0 by the template 'total and deterministic' (their statements: YthpcdhgpplmneaaDoorTotals.lean).
  GIVEN WITH THE SEED: the statements are not yours to turn. If you find one false, say at which input.
  Laid BY PROGRAM, IN A SANDBOX (cutbox-rows.mjs): the forced cells as the released guide's own fill.sh prints them over the translation 08cb6cbda7d3ae1b… (all of the seat's roots in one cut). By AI agents, Wed Nov 11 2026. No macro, syntax, notation, axiom, sorry.
-/
import Derived.Test.YthpcdhgpplmneaaDoorChecked
import GoSem.Claim
import GoSem.ClaimJoined
import GoSem.ClaimMapViews
import Derived.JoinedTies
import Derived.KernelRfl
namespace Go.Proofs.YthpcdhgpplmneaaDoor
/- THE CELL 'sum', in the pinned program and in every row, IS THE sha256 OF THE DUMP (.gsa) THAT YthpcdhgpplmneaaDoorProg.lean LOADS. Nothing in Lean hashes anything: it is a label: what it is worth is what the hold of that sum in a sandbox is worth. -/
noncomputable def Tryd.pinned : Pinned := { name := "ythpcdhgpplmneaadoor", sum := "08cb6cbda7d3ae1bb8e0f060ae494d280dfa6f25089df5b0b078f172bc9bb84b", checked := Tryd.checked }
namespace Rows
def none {H : Type} : Left H := { results := [], args := [] }

/- WHAT THE LISTED PACKAGE-LEVEL VARIABLES READ AS WHEN THE CALL BEGINS. Each datum BY PROGRAM (the guide's laid-datum.mjs) off the statement by which the dump's own 'gosem.cut.vars' lays the variable. In a bare row this is a premise. The card (YthpcdhgpplmneaaDoorCards.lean) ties it to the program's text. -/
def laid_leat_crc_rows {H : Type} : DataW H := .agg [.lit (.int .u32 0), .lit (.int .u32 274646895), .lit (.int .u32 549293790), .lit (.int .u32 820201905), .lit (.int .u32 1098587580), .lit (.int .u32 1361435347), .lit (.int .u32 1640403810), .lit (.int .u32 1905808397), .lit (.int .u32 2197175160), .lit (.int .u32 2460548119), .lit (.int .u32 2722870694), .lit (.int .u32 2987750089), .lit (.int .u32 3280807620), .lit (.int .u32 3553878443), .lit (.int .u32 3811616794), .lit (.int .u32 4084100981)]

/-- 'leatlaw19.SegTiles': WHATEVER THE INPUT: true; the input reads as it did. -/
def segTilesSpec : ChangeSpec := { name := "segTiles", fn := fun _ => fun
  | [d1, d2] => { results := [.lit (.bool true)], args := [d1, d2] }
  | _ => none }
def segTilesRow : OpenClaim := { program := "ythpcdhgpplmneaadoor", sum := "08cb6cbda7d3ae1bb8e0f060ae494d280dfa6f25089df5b0b078f172bc9bb84b", func := "leat/leatlaw19.SegTiles", spec := "segTiles", unfollowed := true, recurses := true, named := ["leat/crc.rows"], apart := false, laid := [("leat/crc.rows", laid_leat_crc_rows)] }
def SegTilesSaid : Prop := segTilesRow.holds Tryd.pinned (OpenSpec.ofChange segTilesSpec)

/-- ITS FALSE NEIGHBOUR: 'it returns false'. Refute it at one input. -/
def segTilesWrong : ChangeSpec := { name := "segTiles", fn := fun _ => fun
  | [d1, d2] => { results := [.lit (.bool false)], args := [d1, d2] }
  | _ => none }
def SegTilesWrongFalsely : Prop := segTilesRow.holds Tryd.pinned (OpenSpec.ofChange segTilesWrong)

/-- 'leatlaw19.SegTorn': WHATEVER THE INPUT: true; the input reads as it did. -/
def segTornSpec : ChangeSpec := { name := "segTorn", fn := fun _ => fun
  | [d1, d2, d3, d4, d5] => { results := [.lit (.bool true)], args := [d1, d2, d3, d4, d5] }
  | _ => none }
def segTornRow : OpenClaim := { program := "ythpcdhgpplmneaadoor", sum := "08cb6cbda7d3ae1bb8e0f060ae494d280dfa6f25089df5b0b078f172bc9bb84b", func := "leat/leatlaw19.SegTorn", spec := "segTorn", unfollowed := true, recurses := true, named := ["leat/crc.rows"], apart := false, laid := [("leat/crc.rows", laid_leat_crc_rows)] }
def SegTornSaid : Prop := segTornRow.holds Tryd.pinned (OpenSpec.ofChange segTornSpec)

/-- ITS FALSE NEIGHBOUR: 'it returns false'. Refute it at one input. -/
def segTornWrong : ChangeSpec := { name := "segTorn", fn := fun _ => fun
  | [d1, d2, d3, d4, d5] => { results := [.lit (.bool false)], args := [d1, d2, d3, d4, d5] }
  | _ => none }
def SegTornWrongFalsely : Prop := segTornRow.holds Tryd.pinned (OpenSpec.ofChange segTornWrong)

/-- 'leatlaw09.SetSplits': WHATEVER THE INPUT: true; the input reads as it did. -/
def setSplitsSpec : ChangeSpec := { name := "setSplits", fn := fun _ => fun
  | [d] => { results := [.lit (.bool true)], args := [d] }
  | _ => none }
def setSplitsRow : OpenClaim := { program := "ythpcdhgpplmneaadoor", sum := "08cb6cbda7d3ae1bb8e0f060ae494d280dfa6f25089df5b0b078f172bc9bb84b", func := "leat/leatlaw09.SetSplits", spec := "setSplits", unfollowed := true, recurses := true, named := ["leat/crc.rows"], apart := false, laid := [("leat/crc.rows", laid_leat_crc_rows)] }
def SetSplitsSaid : Prop := setSplitsRow.holds Tryd.pinned (OpenSpec.ofChange setSplitsSpec)

/-- ITS FALSE NEIGHBOUR: 'it returns false'. Refute it at one input. -/
def setSplitsWrong : ChangeSpec := { name := "setSplits", fn := fun _ => fun
  | [d] => { results := [.lit (.bool false)], args := [d] }
  | _ => none }
def SetSplitsWrongFalsely : Prop := setSplitsRow.holds Tryd.pinned (OpenSpec.ofChange setSplitsWrong)

/- THE SECOND FORM. 'bulk': how many values and letters a reading holds, each counted each time it is reached (what is shared counts as often as it is met; a slice's spare places count too). A statement '..UptoSaid' is the law's where the arguments, and the package variables that the reading takes, are together of bulk at most 1048576: NARROWER than '..Said'. Prove '..Said' where nothing that the law and all that it calls make is longer than what came in: it says more and counts as full. Else prove '..UptoSaid'. A law counts once. -/
mutual
def uptoBulk {H : Type} : DataW H → Nat
  | .lit (.string bytes) => bytes.length + 1
  | .lit _ => 1
  | .nil => 1
  | .ptr d => uptoBulk d + 1
  | .slice elems spare => uptoBulkAll elems + uptoBulkAll spare + 1
  | .agg parts => uptoBulkAll parts + 1
  | .iface _ d => uptoBulk d + 1
  | .map entries => uptoBulkEntries entries + 1
  | .held _ => 1
def uptoBulkAll {H : Type} : List (DataW H) → Nat
  | [] => 0
  | d :: r => uptoBulk d + uptoBulkAll r
def uptoBulkEntries {H : Type} : List (Lit × DataW H) → Nat
  | [] => 0
  | x :: r => uptoBulkEntry x + uptoBulkEntries r
def uptoBulkEntry {H : Type} : Lit × DataW H → Nat
  | (.string bytes, d) => bytes.length + uptoBulk d + 1
  | (_, d) => uptoBulk d + 1
 end
def uptoSmall : (H : Type) → List (DataW H) → Bool := fun _ ds => decide (uptoBulkAll ds ≤ 1048576)
def OpenSpec.upto (s : _root_.Go.ChangeSpec) : _root_.Go.OpenSpec := { _root_.Go.OpenSpec.ofChange s with cond := some uptoSmall }

/-- 'leatlaw19.SegTiles', WHERE WHAT IT READS IS OF BULK AT MOST 1048576: true; the input reads as it did. -/
def segTilesUptoRow : OpenClaim := { program := "ythpcdhgpplmneaadoor", sum := "08cb6cbda7d3ae1bb8e0f060ae494d280dfa6f25089df5b0b078f172bc9bb84b", func := "leat/leatlaw19.SegTiles", spec := "segTiles", unfollowed := true, recurses := true, named := ["leat/crc.rows"], apart := false, laid := [("leat/crc.rows", laid_leat_crc_rows)], narrowed := true }
def SegTilesUptoSaid : Prop := segTilesUptoRow.holds Tryd.pinned (OpenSpec.upto segTilesSpec)

/-- 'leatlaw19.SegTorn', WHERE WHAT IT READS IS OF BULK AT MOST 1048576: true; the input reads as it did. -/
def segTornUptoRow : OpenClaim := { program := "ythpcdhgpplmneaadoor", sum := "08cb6cbda7d3ae1bb8e0f060ae494d280dfa6f25089df5b0b078f172bc9bb84b", func := "leat/leatlaw19.SegTorn", spec := "segTorn", unfollowed := true, recurses := true, named := ["leat/crc.rows"], apart := false, laid := [("leat/crc.rows", laid_leat_crc_rows)], narrowed := true }
def SegTornUptoSaid : Prop := segTornUptoRow.holds Tryd.pinned (OpenSpec.upto segTornSpec)

/-- 'leatlaw09.SetSplits', WHERE WHAT IT READS IS OF BULK AT MOST 1048576: true; the input reads as it did. -/
def setSplitsUptoRow : OpenClaim := { program := "ythpcdhgpplmneaadoor", sum := "08cb6cbda7d3ae1bb8e0f060ae494d280dfa6f25089df5b0b078f172bc9bb84b", func := "leat/leatlaw09.SetSplits", spec := "setSplits", unfollowed := true, recurses := true, named := ["leat/crc.rows"], apart := false, laid := [("leat/crc.rows", laid_leat_crc_rows)], narrowed := true }
def SetSplitsUptoSaid : Prop := setSplitsUptoRow.holds Tryd.pinned (OpenSpec.upto setSplitsSpec)

end Rows
end Go.Proofs.YthpcdhgpplmneaaDoor
