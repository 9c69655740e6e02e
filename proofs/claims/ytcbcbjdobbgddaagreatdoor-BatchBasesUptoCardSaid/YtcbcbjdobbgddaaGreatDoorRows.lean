/-
  NARROWER THAN 'FOR EVERY INPUT', by the rows' own cells (each row's printed sentence says how): BatchGets: laid · BatchTells: laid · BatchMemory: laid · BatchBack: laid · BatchPuts: laid · BatchBases: laid · BatchMoves: laid.
  DERIVED. THE GIVEN ROWS OF THIS SEAT. 7 by the template 'for every input the law returns true; each argument reads behind the call as it read before'; 0 by the template 'total and deterministic' (their statements: YtcbcbjdobbgddaaGreatDoorTotals.lean).
  GIVEN WITH THE SEED: the statements are not yours to turn. If you find one false, say at which input.
  Laid BY PROGRAM, IN A SANDBOX (cutbox-rows.mjs): the forced cells as the released guide's own fill.sh prints them over the translation 32d947c14aad97ba… (all of the seat's roots in one cut). By AI agents, Wed Nov 11 2026. No macro, syntax, notation, axiom, sorry.
-/
import Derived.Test.YtcbcbjdobbgddaaGreatDoorChecked
import GoSem.Claim
import GoSem.ClaimJoined
import GoSem.ClaimMapViews
import Derived.JoinedTies
import Derived.KernelRfl
namespace Go.Proofs.YtcbcbjdobbgddaaGreatDoor
/- THE CELL 'sum', in the pinned program and in every row, IS THE sha256 OF THE DUMP (.gsa) THAT YtcbcbjdobbgddaaGreatDoorProg.lean LOADS. Nothing in Lean hashes anything: it is a label: what it is worth is what the hold of that sum in a sandbox is worth. -/
noncomputable def Tryz.pinned : Pinned := { name := "ytcbcbjdobbgddaagreatdoor", sum := "32d947c14aad97ba8fdb117f9415e8ab82e69b275df567ae054f42090eeb16b0", checked := Tryz.checked }
namespace Rows
def none {H : Type} : Left H := { results := [], args := [] }

/- WHAT THE LISTED PACKAGE-LEVEL VARIABLES READ AS WHEN THE CALL BEGINS. Each datum BY PROGRAM (the guide's laid-datum.mjs) off the statement by which the dump's own 'gosem.cut.vars' lays the variable. In a bare row this is a premise. The card (YtcbcbjdobbgddaaGreatDoorCards.lean) ties it to the program's text. -/
def laid_leat_crc_rows {H : Type} : DataW H := .agg [.lit (.int .u32 0), .lit (.int .u32 274646895), .lit (.int .u32 549293790), .lit (.int .u32 820201905), .lit (.int .u32 1098587580), .lit (.int .u32 1361435347), .lit (.int .u32 1640403810), .lit (.int .u32 1905808397), .lit (.int .u32 2197175160), .lit (.int .u32 2460548119), .lit (.int .u32 2722870694), .lit (.int .u32 2987750089), .lit (.int .u32 3280807620), .lit (.int .u32 3553878443), .lit (.int .u32 3811616794), .lit (.int .u32 4084100981)]

/-- 'leatlaw08.BatchGets': WHATEVER THE INPUT: true; the input reads as it did. -/
def batchGetsSpec : ChangeSpec := { name := "batchGets", fn := fun _ => fun
  | [d] => { results := [.lit (.bool true)], args := [d] }
  | _ => none }
def batchGetsRow : OpenClaim := { program := "ytcbcbjdobbgddaagreatdoor", sum := "32d947c14aad97ba8fdb117f9415e8ab82e69b275df567ae054f42090eeb16b0", func := "leat/leatlaw08.BatchGets", spec := "batchGets", unfollowed := true, recurses := true, named := ["leat/crc.rows"], apart := false, laid := [("leat/crc.rows", laid_leat_crc_rows)] }
def BatchGetsSaid : Prop := batchGetsRow.holds Tryz.pinned (OpenSpec.ofChange batchGetsSpec)

/-- ITS FALSE NEIGHBOUR: 'it returns false'. Refute it at one input. -/
def batchGetsWrong : ChangeSpec := { name := "batchGets", fn := fun _ => fun
  | [d] => { results := [.lit (.bool false)], args := [d] }
  | _ => none }
def BatchGetsWrongFalsely : Prop := batchGetsRow.holds Tryz.pinned (OpenSpec.ofChange batchGetsWrong)

/-- 'leatlaw08.BatchTells': WHATEVER THE INPUT: true; the input reads as it did. -/
def batchTellsSpec : ChangeSpec := { name := "batchTells", fn := fun _ => fun
  | [d1, d2, d3, d4] => { results := [.lit (.bool true)], args := [d1, d2, d3, d4] }
  | _ => none }
def batchTellsRow : OpenClaim := { program := "ytcbcbjdobbgddaagreatdoor", sum := "32d947c14aad97ba8fdb117f9415e8ab82e69b275df567ae054f42090eeb16b0", func := "leat/leatlaw08.BatchTells", spec := "batchTells", unfollowed := true, recurses := true, named := ["leat/crc.rows"], apart := false, laid := [("leat/crc.rows", laid_leat_crc_rows)] }
def BatchTellsSaid : Prop := batchTellsRow.holds Tryz.pinned (OpenSpec.ofChange batchTellsSpec)

/-- ITS FALSE NEIGHBOUR: 'it returns false'. Refute it at one input. -/
def batchTellsWrong : ChangeSpec := { name := "batchTells", fn := fun _ => fun
  | [d1, d2, d3, d4] => { results := [.lit (.bool false)], args := [d1, d2, d3, d4] }
  | _ => none }
def BatchTellsWrongFalsely : Prop := batchTellsRow.holds Tryz.pinned (OpenSpec.ofChange batchTellsWrong)

/-- 'leatlaw08.BatchMemory': WHATEVER THE INPUT: true; the input reads as it did. -/
def batchMemorySpec : ChangeSpec := { name := "batchMemory", fn := fun _ => fun
  | [d] => { results := [.lit (.bool true)], args := [d] }
  | _ => none }
def batchMemoryRow : OpenClaim := { program := "ytcbcbjdobbgddaagreatdoor", sum := "32d947c14aad97ba8fdb117f9415e8ab82e69b275df567ae054f42090eeb16b0", func := "leat/leatlaw08.BatchMemory", spec := "batchMemory", unfollowed := true, recurses := true, named := ["leat/crc.rows"], apart := false, laid := [("leat/crc.rows", laid_leat_crc_rows)] }
def BatchMemorySaid : Prop := batchMemoryRow.holds Tryz.pinned (OpenSpec.ofChange batchMemorySpec)

/-- ITS FALSE NEIGHBOUR: 'it returns false'. Refute it at one input. -/
def batchMemoryWrong : ChangeSpec := { name := "batchMemory", fn := fun _ => fun
  | [d] => { results := [.lit (.bool false)], args := [d] }
  | _ => none }
def BatchMemoryWrongFalsely : Prop := batchMemoryRow.holds Tryz.pinned (OpenSpec.ofChange batchMemoryWrong)

/-- 'leatlaw08.BatchBack': WHATEVER THE INPUT: true; the input reads as it did. -/
def batchBackSpec : ChangeSpec := { name := "batchBack", fn := fun _ => fun
  | [d1, d2] => { results := [.lit (.bool true)], args := [d1, d2] }
  | _ => none }
def batchBackRow : OpenClaim := { program := "ytcbcbjdobbgddaagreatdoor", sum := "32d947c14aad97ba8fdb117f9415e8ab82e69b275df567ae054f42090eeb16b0", func := "leat/leatlaw08.BatchBack", spec := "batchBack", unfollowed := true, recurses := true, named := ["leat/crc.rows"], apart := false, laid := [("leat/crc.rows", laid_leat_crc_rows)] }
def BatchBackSaid : Prop := batchBackRow.holds Tryz.pinned (OpenSpec.ofChange batchBackSpec)

/-- ITS FALSE NEIGHBOUR: 'it returns false'. Refute it at one input. -/
def batchBackWrong : ChangeSpec := { name := "batchBack", fn := fun _ => fun
  | [d1, d2] => { results := [.lit (.bool false)], args := [d1, d2] }
  | _ => none }
def BatchBackWrongFalsely : Prop := batchBackRow.holds Tryz.pinned (OpenSpec.ofChange batchBackWrong)

/-- 'leatlaw08.BatchPuts': WHATEVER THE INPUT: true; the input reads as it did. -/
def batchPutsSpec : ChangeSpec := { name := "batchPuts", fn := fun _ => fun
  | [d1, d2] => { results := [.lit (.bool true)], args := [d1, d2] }
  | _ => none }
def batchPutsRow : OpenClaim := { program := "ytcbcbjdobbgddaagreatdoor", sum := "32d947c14aad97ba8fdb117f9415e8ab82e69b275df567ae054f42090eeb16b0", func := "leat/leatlaw08.BatchPuts", spec := "batchPuts", unfollowed := true, recurses := true, named := ["leat/crc.rows"], apart := false, laid := [("leat/crc.rows", laid_leat_crc_rows)] }
def BatchPutsSaid : Prop := batchPutsRow.holds Tryz.pinned (OpenSpec.ofChange batchPutsSpec)

/-- ITS FALSE NEIGHBOUR: 'it returns false'. Refute it at one input. -/
def batchPutsWrong : ChangeSpec := { name := "batchPuts", fn := fun _ => fun
  | [d1, d2] => { results := [.lit (.bool false)], args := [d1, d2] }
  | _ => none }
def BatchPutsWrongFalsely : Prop := batchPutsRow.holds Tryz.pinned (OpenSpec.ofChange batchPutsWrong)

/-- 'leatlaw08.BatchBases': WHATEVER THE INPUT: true; the input reads as it did. -/
def batchBasesSpec : ChangeSpec := { name := "batchBases", fn := fun _ => fun
  | [d1, d2, d3] => { results := [.lit (.bool true)], args := [d1, d2, d3] }
  | _ => none }
def batchBasesRow : OpenClaim := { program := "ytcbcbjdobbgddaagreatdoor", sum := "32d947c14aad97ba8fdb117f9415e8ab82e69b275df567ae054f42090eeb16b0", func := "leat/leatlaw08.BatchBases", spec := "batchBases", unfollowed := true, recurses := true, named := ["leat/crc.rows"], apart := false, laid := [("leat/crc.rows", laid_leat_crc_rows)] }
def BatchBasesSaid : Prop := batchBasesRow.holds Tryz.pinned (OpenSpec.ofChange batchBasesSpec)

/-- ITS FALSE NEIGHBOUR: 'it returns false'. Refute it at one input. -/
def batchBasesWrong : ChangeSpec := { name := "batchBases", fn := fun _ => fun
  | [d1, d2, d3] => { results := [.lit (.bool false)], args := [d1, d2, d3] }
  | _ => none }
def BatchBasesWrongFalsely : Prop := batchBasesRow.holds Tryz.pinned (OpenSpec.ofChange batchBasesWrong)

/-- 'leatlaw08.BatchMoves': WHATEVER THE INPUT: true; the input reads as it did. -/
def batchMovesSpec : ChangeSpec := { name := "batchMoves", fn := fun _ => fun
  | [d1, d2, d3, d4] => { results := [.lit (.bool true)], args := [d1, d2, d3, d4] }
  | _ => none }
def batchMovesRow : OpenClaim := { program := "ytcbcbjdobbgddaagreatdoor", sum := "32d947c14aad97ba8fdb117f9415e8ab82e69b275df567ae054f42090eeb16b0", func := "leat/leatlaw08.BatchMoves", spec := "batchMoves", unfollowed := true, recurses := true, named := ["leat/crc.rows"], apart := false, laid := [("leat/crc.rows", laid_leat_crc_rows)] }
def BatchMovesSaid : Prop := batchMovesRow.holds Tryz.pinned (OpenSpec.ofChange batchMovesSpec)

/-- ITS FALSE NEIGHBOUR: 'it returns false'. Refute it at one input. -/
def batchMovesWrong : ChangeSpec := { name := "batchMoves", fn := fun _ => fun
  | [d1, d2, d3, d4] => { results := [.lit (.bool false)], args := [d1, d2, d3, d4] }
  | _ => none }
def BatchMovesWrongFalsely : Prop := batchMovesRow.holds Tryz.pinned (OpenSpec.ofChange batchMovesWrong)

/- THE SECOND FORM. 'bulk': how many values and letters a reading holds, each counted each time it is reached (what is shared counts as often as it is met; a slice's spare places count too). A statement '..UptoSaid' is the law's where the arguments, and the package variables that the reading takes, are together of bulk at most 1048576: NARROWER than '..Said'. Prove '..Said' where nothing that the law and all that it calls make is longer than what came in: it says more and counts as full. Else prove '..UptoSaid'. A law counts once. -/
mutual
def uptoBulk {H : Type} : DataW H → Nat
  | .lit (.string bytes) => bytes.length + 1
  | .lit _ => 1
  | .nil => 1
  | .ptr d => uptoBulk d + 1
  | .slice elems spare => uptoBulkAll elems + uptoBulkAll spare + 1
  | .agg parts => uptoBulkAll parts + 1
  | .iface _ d => uptoBulk d + 1
  | .map entries => uptoBulkEntries entries + 1
  | .held _ => 1
def uptoBulkAll {H : Type} : List (DataW H) → Nat
  | [] => 0
  | d :: r => uptoBulk d + uptoBulkAll r
def uptoBulkEntries {H : Type} : List (Lit × DataW H) → Nat
  | [] => 0
  | x :: r => uptoBulkEntry x + uptoBulkEntries r
def uptoBulkEntry {H : Type} : Lit × DataW H → Nat
  | (.string bytes, d) => bytes.length + uptoBulk d + 1
  | (_, d) => uptoBulk d + 1
 end
def uptoSmall : (H : Type) → List (DataW H) → Bool := fun _ ds => decide (uptoBulkAll ds ≤ 1048576)
def OpenSpec.upto (s : _root_.Go.ChangeSpec) : _root_.Go.OpenSpec := { _root_.Go.OpenSpec.ofChange s with cond := some uptoSmall }

/-- 'leatlaw08.BatchGets', WHERE WHAT IT READS IS OF BULK AT MOST 1048576: true; the input reads as it did. -/
def batchGetsUptoRow : OpenClaim := { program := "ytcbcbjdobbgddaagreatdoor", sum := "32d947c14aad97ba8fdb117f9415e8ab82e69b275df567ae054f42090eeb16b0", func := "leat/leatlaw08.BatchGets", spec := "batchGets", unfollowed := true, recurses := true, named := ["leat/crc.rows"], apart := false, laid := [("leat/crc.rows", laid_leat_crc_rows)], narrowed := true }
def BatchGetsUptoSaid : Prop := batchGetsUptoRow.holds Tryz.pinned (OpenSpec.upto batchGetsSpec)

/-- 'leatlaw08.BatchTells', WHERE WHAT IT READS IS OF BULK AT MOST 1048576: true; the input reads as it did. -/
def batchTellsUptoRow : OpenClaim := { program := "ytcbcbjdobbgddaagreatdoor", sum := "32d947c14aad97ba8fdb117f9415e8ab82e69b275df567ae054f42090eeb16b0", func := "leat/leatlaw08.BatchTells", spec := "batchTells", unfollowed := true, recurses := true, named := ["leat/crc.rows"], apart := false, laid := [("leat/crc.rows", laid_leat_crc_rows)], narrowed := true }
def BatchTellsUptoSaid : Prop := batchTellsUptoRow.holds Tryz.pinned (OpenSpec.upto batchTellsSpec)

/-- 'leatlaw08.BatchMemory', WHERE WHAT IT READS IS OF BULK AT MOST 1048576: true; the input reads as it did. -/
def batchMemoryUptoRow : OpenClaim := { program := "ytcbcbjdobbgddaagreatdoor", sum := "32d947c14aad97ba8fdb117f9415e8ab82e69b275df567ae054f42090eeb16b0", func := "leat/leatlaw08.BatchMemory", spec := "batchMemory", unfollowed := true, recurses := true, named := ["leat/crc.rows"], apart := false, laid := [("leat/crc.rows", laid_leat_crc_rows)], narrowed := true }
def BatchMemoryUptoSaid : Prop := batchMemoryUptoRow.holds Tryz.pinned (OpenSpec.upto batchMemorySpec)

/-- 'leatlaw08.BatchBack', WHERE WHAT IT READS IS OF BULK AT MOST 1048576: true; the input reads as it did. -/
def batchBackUptoRow : OpenClaim := { program := "ytcbcbjdobbgddaagreatdoor", sum := "32d947c14aad97ba8fdb117f9415e8ab82e69b275df567ae054f42090eeb16b0", func := "leat/leatlaw08.BatchBack", spec := "batchBack", unfollowed := true, recurses := true, named := ["leat/crc.rows"], apart := false, laid := [("leat/crc.rows", laid_leat_crc_rows)], narrowed := true }
def BatchBackUptoSaid : Prop := batchBackUptoRow.holds Tryz.pinned (OpenSpec.upto batchBackSpec)

/-- 'leatlaw08.BatchPuts', WHERE WHAT IT READS IS OF BULK AT MOST 1048576: true; the input reads as it did. -/
def batchPutsUptoRow : OpenClaim := { program := "ytcbcbjdobbgddaagreatdoor", sum := "32d947c14aad97ba8fdb117f9415e8ab82e69b275df567ae054f42090eeb16b0", func := "leat/leatlaw08.BatchPuts", spec := "batchPuts", unfollowed := true, recurses := true, named := ["leat/crc.rows"], apart := false, laid := [("leat/crc.rows", laid_leat_crc_rows)], narrowed := true }
def BatchPutsUptoSaid : Prop := batchPutsUptoRow.holds Tryz.pinned (OpenSpec.upto batchPutsSpec)

/-- 'leatlaw08.BatchBases', WHERE WHAT IT READS IS OF BULK AT MOST 1048576: true; the input reads as it did. -/
def batchBasesUptoRow : OpenClaim := { program := "ytcbcbjdobbgddaagreatdoor", sum := "32d947c14aad97ba8fdb117f9415e8ab82e69b275df567ae054f42090eeb16b0", func := "leat/leatlaw08.BatchBases", spec := "batchBases", unfollowed := true, recurses := true, named := ["leat/crc.rows"], apart := false, laid := [("leat/crc.rows", laid_leat_crc_rows)], narrowed := true }
def BatchBasesUptoSaid : Prop := batchBasesUptoRow.holds Tryz.pinned (OpenSpec.upto batchBasesSpec)

/-- 'leatlaw08.BatchMoves', WHERE WHAT IT READS IS OF BULK AT MOST 1048576: true; the input reads as it did. -/
def batchMovesUptoRow : OpenClaim := { program := "ytcbcbjdobbgddaagreatdoor", sum := "32d947c14aad97ba8fdb117f9415e8ab82e69b275df567ae054f42090eeb16b0", func := "leat/leatlaw08.BatchMoves", spec := "batchMoves", unfollowed := true, recurses := true, named := ["leat/crc.rows"], apart := false, laid := [("leat/crc.rows", laid_leat_crc_rows)], narrowed := true }
def BatchMovesUptoSaid : Prop := batchMovesUptoRow.holds Tryz.pinned (OpenSpec.upto batchMovesSpec)

end Rows
end Go.Proofs.YtcbcbjdobbgddaaGreatDoor
