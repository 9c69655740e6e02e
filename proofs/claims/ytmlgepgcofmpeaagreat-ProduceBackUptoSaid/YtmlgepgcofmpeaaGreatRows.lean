/-
  No cell of these rows narrows 'for every input' (looked for: loops, veiled, ifaces, maps, wideKeys, modest, calm, conditions, laid).
  DERIVED. THE GIVEN ROWS OF THIS SEAT. 5 by the template 'for every input the law returns true; each argument reads behind the call as it read before'; 0 by the template 'total and deterministic' (their statements: YtmlgepgcofmpeaaGreatTotals.lean).
  GIVEN WITH THE SEED: the statements are not yours to turn. If you find one false, say at which input.
  Laid BY PROGRAM, IN A SANDBOX (cutbox-rows.mjs): the forced cells as the released guide's own fill.sh prints them over the translation 263aae065accbb79… (all of the seat's roots in one cut). By AI agents, Wed Nov 11 2026. No macro, syntax, notation, axiom, sorry.
-/
import Derived.Test.YtmlgepgcofmpeaaGreatChecked
import GoSem.Claim
import GoSem.ClaimJoined
import GoSem.ClaimMapViews
import Derived.JoinedTies
import Derived.KernelRfl
namespace Go.Proofs.YtmlgepgcofmpeaaGreat
/- THE CELL 'sum', in the pinned program and in every row, IS THE sha256 OF THE DUMP (.gsa) THAT YtmlgepgcofmpeaaGreatProg.lean LOADS. Nothing in Lean hashes anything: it is a label: what it is worth is what the hold of that sum in a sandbox is worth. -/
noncomputable def Tryz.pinned : Pinned := { name := "ytmlgepgcofmpeaagreat", sum := "263aae065accbb799d7692c61cc389e61a76c400446ac78c4fadf8f2118b8ae9", checked := Tryz.checked }
namespace Rows
def none {H : Type} : Left H := { results := [], args := [] }

/-- 'leatlaw11.ProduceAsks': WHATEVER THE INPUT: true; the input reads as it did. -/
def produceAsksSpec : ChangeSpec := { name := "produceAsks", fn := fun _ => fun
  | [d1, d2] => { results := [.lit (.bool true)], args := [d1, d2] }
  | _ => none }
def produceAsksRow : OpenClaim := { program := "ytmlgepgcofmpeaagreat", sum := "263aae065accbb799d7692c61cc389e61a76c400446ac78c4fadf8f2118b8ae9", func := "leat/leatlaw11.ProduceAsks", spec := "produceAsks", unfollowed := true, recurses := true, apart := false }
def ProduceAsksSaid : Prop := produceAsksRow.holds Tryz.pinned (OpenSpec.ofChange produceAsksSpec)

/-- ITS FALSE NEIGHBOUR: 'it returns false'. Refute it at one input. -/
def produceAsksWrong : ChangeSpec := { name := "produceAsks", fn := fun _ => fun
  | [d1, d2] => { results := [.lit (.bool false)], args := [d1, d2] }
  | _ => none }
def ProduceAsksWrongFalsely : Prop := produceAsksRow.holds Tryz.pinned (OpenSpec.ofChange produceAsksWrong)

/-- 'leatlaw11.ProduceTells': WHATEVER THE INPUT: true; the input reads as it did. -/
def produceTellsSpec : ChangeSpec := { name := "produceTells", fn := fun _ => fun
  | [d1, d2] => { results := [.lit (.bool true)], args := [d1, d2] }
  | _ => none }
def produceTellsRow : OpenClaim := { program := "ytmlgepgcofmpeaagreat", sum := "263aae065accbb799d7692c61cc389e61a76c400446ac78c4fadf8f2118b8ae9", func := "leat/leatlaw11.ProduceTells", spec := "produceTells", unfollowed := true, recurses := true, apart := false }
def ProduceTellsSaid : Prop := produceTellsRow.holds Tryz.pinned (OpenSpec.ofChange produceTellsSpec)

/-- ITS FALSE NEIGHBOUR: 'it returns false'. Refute it at one input. -/
def produceTellsWrong : ChangeSpec := { name := "produceTells", fn := fun _ => fun
  | [d1, d2] => { results := [.lit (.bool false)], args := [d1, d2] }
  | _ => none }
def ProduceTellsWrongFalsely : Prop := produceTellsRow.holds Tryz.pinned (OpenSpec.ofChange produceTellsWrong)

/-- 'leatlaw11.ProduceReads': WHATEVER THE INPUT: true; the input reads as it did. -/
def produceReadsSpec : ChangeSpec := { name := "produceReads", fn := fun _ => fun
  | [d1, d2] => { results := [.lit (.bool true)], args := [d1, d2] }
  | _ => none }
def produceReadsRow : OpenClaim := { program := "ytmlgepgcofmpeaagreat", sum := "263aae065accbb799d7692c61cc389e61a76c400446ac78c4fadf8f2118b8ae9", func := "leat/leatlaw11.ProduceReads", spec := "produceReads", unfollowed := true, recurses := true, apart := false }
def ProduceReadsSaid : Prop := produceReadsRow.holds Tryz.pinned (OpenSpec.ofChange produceReadsSpec)

/-- ITS FALSE NEIGHBOUR: 'it returns false'. Refute it at one input. -/
def produceReadsWrong : ChangeSpec := { name := "produceReads", fn := fun _ => fun
  | [d1, d2] => { results := [.lit (.bool false)], args := [d1, d2] }
  | _ => none }
def ProduceReadsWrongFalsely : Prop := produceReadsRow.holds Tryz.pinned (OpenSpec.ofChange produceReadsWrong)

/-- 'leatlaw11.ProduceBack': WHATEVER THE INPUT: true; the input reads as it did. -/
def produceBackSpec : ChangeSpec := { name := "produceBack", fn := fun _ => fun
  | [d1, d2, d3] => { results := [.lit (.bool true)], args := [d1, d2, d3] }
  | _ => none }
def produceBackRow : OpenClaim := { program := "ytmlgepgcofmpeaagreat", sum := "263aae065accbb799d7692c61cc389e61a76c400446ac78c4fadf8f2118b8ae9", func := "leat/leatlaw11.ProduceBack", spec := "produceBack", unfollowed := true, recurses := true, apart := false }
def ProduceBackSaid : Prop := produceBackRow.holds Tryz.pinned (OpenSpec.ofChange produceBackSpec)

/-- ITS FALSE NEIGHBOUR: 'it returns false'. Refute it at one input. -/
def produceBackWrong : ChangeSpec := { name := "produceBack", fn := fun _ => fun
  | [d1, d2, d3] => { results := [.lit (.bool false)], args := [d1, d2, d3] }
  | _ => none }
def ProduceBackWrongFalsely : Prop := produceBackRow.holds Tryz.pinned (OpenSpec.ofChange produceBackWrong)

/-- 'leatlaw11.ProduceOnly': WHATEVER THE INPUT: true; the input reads as it did. -/
def produceOnlySpec : ChangeSpec := { name := "produceOnly", fn := fun _ => fun
  | [d1, d2] => { results := [.lit (.bool true)], args := [d1, d2] }
  | _ => none }
def produceOnlyRow : OpenClaim := { program := "ytmlgepgcofmpeaagreat", sum := "263aae065accbb799d7692c61cc389e61a76c400446ac78c4fadf8f2118b8ae9", func := "leat/leatlaw11.ProduceOnly", spec := "produceOnly", unfollowed := true, recurses := true, apart := false }
def ProduceOnlySaid : Prop := produceOnlyRow.holds Tryz.pinned (OpenSpec.ofChange produceOnlySpec)

/-- ITS FALSE NEIGHBOUR: 'it returns false'. Refute it at one input. -/
def produceOnlyWrong : ChangeSpec := { name := "produceOnly", fn := fun _ => fun
  | [d1, d2] => { results := [.lit (.bool false)], args := [d1, d2] }
  | _ => none }
def ProduceOnlyWrongFalsely : Prop := produceOnlyRow.holds Tryz.pinned (OpenSpec.ofChange produceOnlyWrong)

/- THE SECOND FORM. 'bulk': how many values and letters a reading holds, each counted each time it is reached (what is shared counts as often as it is met; a slice's spare places count too). A statement '..UptoSaid' is the law's where the arguments, and the package variables that the reading takes, are together of bulk at most 1048576: NARROWER than '..Said'. Prove '..Said' where nothing that the law and all that it calls make is longer than what came in: it says more and counts as full. Else prove '..UptoSaid'. A law counts once. -/
mutual
def uptoBulk {H : Type} : DataW H → Nat
  | .lit (.string bytes) => bytes.length + 1
  | .lit _ => 1
  | .nil => 1
  | .ptr d => uptoBulk d + 1
  | .slice elems spare => uptoBulkAll elems + uptoBulkAll spare + 1
  | .agg parts => uptoBulkAll parts + 1
  | .iface _ d => uptoBulk d + 1
  | .map entries => uptoBulkEntries entries + 1
  | .held _ => 1
def uptoBulkAll {H : Type} : List (DataW H) → Nat
  | [] => 0
  | d :: r => uptoBulk d + uptoBulkAll r
def uptoBulkEntries {H : Type} : List (Lit × DataW H) → Nat
  | [] => 0
  | x :: r => uptoBulkEntry x + uptoBulkEntries r
def uptoBulkEntry {H : Type} : Lit × DataW H → Nat
  | (.string bytes, d) => bytes.length + uptoBulk d + 1
  | (_, d) => uptoBulk d + 1
 end
def uptoSmall : (H : Type) → List (DataW H) → Bool := fun _ ds => decide (uptoBulkAll ds ≤ 1048576)
def OpenSpec.upto (s : _root_.Go.ChangeSpec) : _root_.Go.OpenSpec := { _root_.Go.OpenSpec.ofChange s with cond := some uptoSmall }

/-- 'leatlaw11.ProduceAsks', WHERE WHAT IT READS IS OF BULK AT MOST 1048576: true; the input reads as it did. -/
def produceAsksUptoRow : OpenClaim := { program := "ytmlgepgcofmpeaagreat", sum := "263aae065accbb799d7692c61cc389e61a76c400446ac78c4fadf8f2118b8ae9", func := "leat/leatlaw11.ProduceAsks", spec := "produceAsks", unfollowed := true, recurses := true, apart := false, narrowed := true }
def ProduceAsksUptoSaid : Prop := produceAsksUptoRow.holds Tryz.pinned (OpenSpec.upto produceAsksSpec)

/-- 'leatlaw11.ProduceTells', WHERE WHAT IT READS IS OF BULK AT MOST 1048576: true; the input reads as it did. -/
def produceTellsUptoRow : OpenClaim := { program := "ytmlgepgcofmpeaagreat", sum := "263aae065accbb799d7692c61cc389e61a76c400446ac78c4fadf8f2118b8ae9", func := "leat/leatlaw11.ProduceTells", spec := "produceTells", unfollowed := true, recurses := true, apart := false, narrowed := true }
def ProduceTellsUptoSaid : Prop := produceTellsUptoRow.holds Tryz.pinned (OpenSpec.upto produceTellsSpec)

/-- 'leatlaw11.ProduceReads', WHERE WHAT IT READS IS OF BULK AT MOST 1048576: true; the input reads as it did. -/
def produceReadsUptoRow : OpenClaim := { program := "ytmlgepgcofmpeaagreat", sum := "263aae065accbb799d7692c61cc389e61a76c400446ac78c4fadf8f2118b8ae9", func := "leat/leatlaw11.ProduceReads", spec := "produceReads", unfollowed := true, recurses := true, apart := false, narrowed := true }
def ProduceReadsUptoSaid : Prop := produceReadsUptoRow.holds Tryz.pinned (OpenSpec.upto produceReadsSpec)

/-- 'leatlaw11.ProduceBack', WHERE WHAT IT READS IS OF BULK AT MOST 1048576: true; the input reads as it did. -/
def produceBackUptoRow : OpenClaim := { program := "ytmlgepgcofmpeaagreat", sum := "263aae065accbb799d7692c61cc389e61a76c400446ac78c4fadf8f2118b8ae9", func := "leat/leatlaw11.ProduceBack", spec := "produceBack", unfollowed := true, recurses := true, apart := false, narrowed := true }
def ProduceBackUptoSaid : Prop := produceBackUptoRow.holds Tryz.pinned (OpenSpec.upto produceBackSpec)

/-- 'leatlaw11.ProduceOnly', WHERE WHAT IT READS IS OF BULK AT MOST 1048576: true; the input reads as it did. -/
def produceOnlyUptoRow : OpenClaim := { program := "ytmlgepgcofmpeaagreat", sum := "263aae065accbb799d7692c61cc389e61a76c400446ac78c4fadf8f2118b8ae9", func := "leat/leatlaw11.ProduceOnly", spec := "produceOnly", unfollowed := true, recurses := true, apart := false, narrowed := true }
def ProduceOnlyUptoSaid : Prop := produceOnlyUptoRow.holds Tryz.pinned (OpenSpec.upto produceOnlySpec)

end Rows
end Go.Proofs.YtmlgepgcofmpeaaGreat
