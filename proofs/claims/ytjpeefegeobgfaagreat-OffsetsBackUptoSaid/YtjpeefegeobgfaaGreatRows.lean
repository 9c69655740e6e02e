/-
  No cell of these rows narrows 'for every input' (looked for: loops, veiled, ifaces, maps, wideKeys, modest, calm, conditions, laid).
  DERIVED. THE GIVEN ROWS OF THIS SEAT. 10 by the template 'for every input the law returns true; each argument reads behind the call as it read before'; 0 by the template 'total and deterministic' (their statements: YtjpeefegeobgfaaGreatTotals.lean).
  GIVEN WITH THE SEED: the statements are not yours to turn. If you find one false, say at which input.
  Laid BY PROGRAM, IN A SANDBOX (cutbox-rows.mjs): the forced cells as the released guide's own fill.sh prints them over the translation 5a2a2ee2dca6b9ac… (all of the seat's roots in one cut). By AI agents, Wed Nov 11 2026. No macro, syntax, notation, axiom, sorry.
-/
import Derived.Test.YtjpeefegeobgfaaGreatChecked
import GoSem.Claim
import GoSem.ClaimJoined
import GoSem.ClaimMapViews
import Derived.JoinedTies
import Derived.KernelRfl
namespace Go.Proofs.YtjpeefegeobgfaaGreat
/- THE CELL 'sum', in the pinned program and in every row, IS THE sha256 OF THE DUMP (.gsa) THAT YtjpeefegeobgfaaGreatProg.lean LOADS. Nothing in Lean hashes anything: it is a label: what it is worth is what the hold of that sum in a sandbox is worth. -/
noncomputable def Tryz.pinned : Pinned := { name := "ytjpeefegeobgfaagreat", sum := "5a2a2ee2dca6b9ace6641fb42727246e3c94e255150c235d9e1085884bf6553e", checked := Tryz.checked }
namespace Rows
def none {H : Type} : Left H := { results := [], args := [] }

/-- 'leatlaw13.OffsetsAsks': WHATEVER THE INPUT: true; the input reads as it did. -/
def offsetsAsksSpec : ChangeSpec := { name := "offsetsAsks", fn := fun _ => fun
  | [d1, d2] => { results := [.lit (.bool true)], args := [d1, d2] }
  | _ => none }
def offsetsAsksRow : OpenClaim := { program := "ytjpeefegeobgfaagreat", sum := "5a2a2ee2dca6b9ace6641fb42727246e3c94e255150c235d9e1085884bf6553e", func := "leat/leatlaw13.OffsetsAsks", spec := "offsetsAsks", unfollowed := true, recurses := true, apart := false }
def OffsetsAsksSaid : Prop := offsetsAsksRow.holds Tryz.pinned (OpenSpec.ofChange offsetsAsksSpec)

/-- ITS FALSE NEIGHBOUR: 'it returns false'. Refute it at one input. -/
def offsetsAsksWrong : ChangeSpec := { name := "offsetsAsks", fn := fun _ => fun
  | [d1, d2] => { results := [.lit (.bool false)], args := [d1, d2] }
  | _ => none }
def OffsetsAsksWrongFalsely : Prop := offsetsAsksRow.holds Tryz.pinned (OpenSpec.ofChange offsetsAsksWrong)

/-- 'leatlaw13.OffsetsTells': WHATEVER THE INPUT: true; the input reads as it did. -/
def offsetsTellsSpec : ChangeSpec := { name := "offsetsTells", fn := fun _ => fun
  | [d1, d2] => { results := [.lit (.bool true)], args := [d1, d2] }
  | _ => none }
def offsetsTellsRow : OpenClaim := { program := "ytjpeefegeobgfaagreat", sum := "5a2a2ee2dca6b9ace6641fb42727246e3c94e255150c235d9e1085884bf6553e", func := "leat/leatlaw13.OffsetsTells", spec := "offsetsTells", unfollowed := true, recurses := true, apart := false }
def OffsetsTellsSaid : Prop := offsetsTellsRow.holds Tryz.pinned (OpenSpec.ofChange offsetsTellsSpec)

/-- ITS FALSE NEIGHBOUR: 'it returns false'. Refute it at one input. -/
def offsetsTellsWrong : ChangeSpec := { name := "offsetsTells", fn := fun _ => fun
  | [d1, d2] => { results := [.lit (.bool false)], args := [d1, d2] }
  | _ => none }
def OffsetsTellsWrongFalsely : Prop := offsetsTellsRow.holds Tryz.pinned (OpenSpec.ofChange offsetsTellsWrong)

/-- 'leatlaw13.OffsetsReads': WHATEVER THE INPUT: true; the input reads as it did. -/
def offsetsReadsSpec : ChangeSpec := { name := "offsetsReads", fn := fun _ => fun
  | [d1, d2] => { results := [.lit (.bool true)], args := [d1, d2] }
  | _ => none }
def offsetsReadsRow : OpenClaim := { program := "ytjpeefegeobgfaagreat", sum := "5a2a2ee2dca6b9ace6641fb42727246e3c94e255150c235d9e1085884bf6553e", func := "leat/leatlaw13.OffsetsReads", spec := "offsetsReads", unfollowed := true, recurses := true, apart := false }
def OffsetsReadsSaid : Prop := offsetsReadsRow.holds Tryz.pinned (OpenSpec.ofChange offsetsReadsSpec)

/-- ITS FALSE NEIGHBOUR: 'it returns false'. Refute it at one input. -/
def offsetsReadsWrong : ChangeSpec := { name := "offsetsReads", fn := fun _ => fun
  | [d1, d2] => { results := [.lit (.bool false)], args := [d1, d2] }
  | _ => none }
def OffsetsReadsWrongFalsely : Prop := offsetsReadsRow.holds Tryz.pinned (OpenSpec.ofChange offsetsReadsWrong)

/-- 'leatlaw13.OffsetsBack': WHATEVER THE INPUT: true; the input reads as it did. -/
def offsetsBackSpec : ChangeSpec := { name := "offsetsBack", fn := fun _ => fun
  | [d1, d2, d3] => { results := [.lit (.bool true)], args := [d1, d2, d3] }
  | _ => none }
def offsetsBackRow : OpenClaim := { program := "ytjpeefegeobgfaagreat", sum := "5a2a2ee2dca6b9ace6641fb42727246e3c94e255150c235d9e1085884bf6553e", func := "leat/leatlaw13.OffsetsBack", spec := "offsetsBack", unfollowed := true, recurses := true, apart := false }
def OffsetsBackSaid : Prop := offsetsBackRow.holds Tryz.pinned (OpenSpec.ofChange offsetsBackSpec)

/-- ITS FALSE NEIGHBOUR: 'it returns false'. Refute it at one input. -/
def offsetsBackWrong : ChangeSpec := { name := "offsetsBack", fn := fun _ => fun
  | [d1, d2, d3] => { results := [.lit (.bool false)], args := [d1, d2, d3] }
  | _ => none }
def OffsetsBackWrongFalsely : Prop := offsetsBackRow.holds Tryz.pinned (OpenSpec.ofChange offsetsBackWrong)

/-- 'leatlaw12.FetchAsks': WHATEVER THE INPUT: true; the input reads as it did. -/
def fetchAsksSpec : ChangeSpec := { name := "fetchAsks", fn := fun _ => fun
  | [d1, d2] => { results := [.lit (.bool true)], args := [d1, d2] }
  | _ => none }
def fetchAsksRow : OpenClaim := { program := "ytjpeefegeobgfaagreat", sum := "5a2a2ee2dca6b9ace6641fb42727246e3c94e255150c235d9e1085884bf6553e", func := "leat/leatlaw12.FetchAsks", spec := "fetchAsks", unfollowed := true, recurses := true, apart := false }
def FetchAsksSaid : Prop := fetchAsksRow.holds Tryz.pinned (OpenSpec.ofChange fetchAsksSpec)

/-- ITS FALSE NEIGHBOUR: 'it returns false'. Refute it at one input. -/
def fetchAsksWrong : ChangeSpec := { name := "fetchAsks", fn := fun _ => fun
  | [d1, d2] => { results := [.lit (.bool false)], args := [d1, d2] }
  | _ => none }
def FetchAsksWrongFalsely : Prop := fetchAsksRow.holds Tryz.pinned (OpenSpec.ofChange fetchAsksWrong)

/-- 'leatlaw12.FetchTells': WHATEVER THE INPUT: true; the input reads as it did. -/
def fetchTellsSpec : ChangeSpec := { name := "fetchTells", fn := fun _ => fun
  | [d1, d2] => { results := [.lit (.bool true)], args := [d1, d2] }
  | _ => none }
def fetchTellsRow : OpenClaim := { program := "ytjpeefegeobgfaagreat", sum := "5a2a2ee2dca6b9ace6641fb42727246e3c94e255150c235d9e1085884bf6553e", func := "leat/leatlaw12.FetchTells", spec := "fetchTells", unfollowed := true, recurses := true, apart := false }
def FetchTellsSaid : Prop := fetchTellsRow.holds Tryz.pinned (OpenSpec.ofChange fetchTellsSpec)

/-- ITS FALSE NEIGHBOUR: 'it returns false'. Refute it at one input. -/
def fetchTellsWrong : ChangeSpec := { name := "fetchTells", fn := fun _ => fun
  | [d1, d2] => { results := [.lit (.bool false)], args := [d1, d2] }
  | _ => none }
def FetchTellsWrongFalsely : Prop := fetchTellsRow.holds Tryz.pinned (OpenSpec.ofChange fetchTellsWrong)

/-- 'leatlaw12.FetchReads': WHATEVER THE INPUT: true; the input reads as it did. -/
def fetchReadsSpec : ChangeSpec := { name := "fetchReads", fn := fun _ => fun
  | [d1, d2] => { results := [.lit (.bool true)], args := [d1, d2] }
  | _ => none }
def fetchReadsRow : OpenClaim := { program := "ytjpeefegeobgfaagreat", sum := "5a2a2ee2dca6b9ace6641fb42727246e3c94e255150c235d9e1085884bf6553e", func := "leat/leatlaw12.FetchReads", spec := "fetchReads", unfollowed := true, recurses := true, apart := false }
def FetchReadsSaid : Prop := fetchReadsRow.holds Tryz.pinned (OpenSpec.ofChange fetchReadsSpec)

/-- ITS FALSE NEIGHBOUR: 'it returns false'. Refute it at one input. -/
def fetchReadsWrong : ChangeSpec := { name := "fetchReads", fn := fun _ => fun
  | [d1, d2] => { results := [.lit (.bool false)], args := [d1, d2] }
  | _ => none }
def FetchReadsWrongFalsely : Prop := fetchReadsRow.holds Tryz.pinned (OpenSpec.ofChange fetchReadsWrong)

/-- 'leatlaw12.FetchBack': WHATEVER THE INPUT: true; the input reads as it did. -/
def fetchBackSpec : ChangeSpec := { name := "fetchBack", fn := fun _ => fun
  | [d1, d2, d3] => { results := [.lit (.bool true)], args := [d1, d2, d3] }
  | _ => none }
def fetchBackRow : OpenClaim := { program := "ytjpeefegeobgfaagreat", sum := "5a2a2ee2dca6b9ace6641fb42727246e3c94e255150c235d9e1085884bf6553e", func := "leat/leatlaw12.FetchBack", spec := "fetchBack", unfollowed := true, recurses := true, apart := false }
def FetchBackSaid : Prop := fetchBackRow.holds Tryz.pinned (OpenSpec.ofChange fetchBackSpec)

/-- ITS FALSE NEIGHBOUR: 'it returns false'. Refute it at one input. -/
def fetchBackWrong : ChangeSpec := { name := "fetchBack", fn := fun _ => fun
  | [d1, d2, d3] => { results := [.lit (.bool false)], args := [d1, d2, d3] }
  | _ => none }
def FetchBackWrongFalsely : Prop := fetchBackRow.holds Tryz.pinned (OpenSpec.ofChange fetchBackWrong)

/-- 'leatlaw13.OffsetsOnly': WHATEVER THE INPUT: true; the input reads as it did. -/
def offsetsOnlySpec : ChangeSpec := { name := "offsetsOnly", fn := fun _ => fun
  | [d1, d2] => { results := [.lit (.bool true)], args := [d1, d2] }
  | _ => none }
def offsetsOnlyRow : OpenClaim := { program := "ytjpeefegeobgfaagreat", sum := "5a2a2ee2dca6b9ace6641fb42727246e3c94e255150c235d9e1085884bf6553e", func := "leat/leatlaw13.OffsetsOnly", spec := "offsetsOnly", unfollowed := true, recurses := true, apart := false }
def OffsetsOnlySaid : Prop := offsetsOnlyRow.holds Tryz.pinned (OpenSpec.ofChange offsetsOnlySpec)

/-- ITS FALSE NEIGHBOUR: 'it returns false'. Refute it at one input. -/
def offsetsOnlyWrong : ChangeSpec := { name := "offsetsOnly", fn := fun _ => fun
  | [d1, d2] => { results := [.lit (.bool false)], args := [d1, d2] }
  | _ => none }
def OffsetsOnlyWrongFalsely : Prop := offsetsOnlyRow.holds Tryz.pinned (OpenSpec.ofChange offsetsOnlyWrong)

/-- 'leatlaw12.FetchOnly': WHATEVER THE INPUT: true; the input reads as it did. -/
def fetchOnlySpec : ChangeSpec := { name := "fetchOnly", fn := fun _ => fun
  | [d1, d2] => { results := [.lit (.bool true)], args := [d1, d2] }
  | _ => none }
def fetchOnlyRow : OpenClaim := { program := "ytjpeefegeobgfaagreat", sum := "5a2a2ee2dca6b9ace6641fb42727246e3c94e255150c235d9e1085884bf6553e", func := "leat/leatlaw12.FetchOnly", spec := "fetchOnly", unfollowed := true, recurses := true, apart := false }
def FetchOnlySaid : Prop := fetchOnlyRow.holds Tryz.pinned (OpenSpec.ofChange fetchOnlySpec)

/-- ITS FALSE NEIGHBOUR: 'it returns false'. Refute it at one input. -/
def fetchOnlyWrong : ChangeSpec := { name := "fetchOnly", fn := fun _ => fun
  | [d1, d2] => { results := [.lit (.bool false)], args := [d1, d2] }
  | _ => none }
def FetchOnlyWrongFalsely : Prop := fetchOnlyRow.holds Tryz.pinned (OpenSpec.ofChange fetchOnlyWrong)

/- THE SECOND FORM. 'bulk': how many values and letters a reading holds, each counted each time it is reached (what is shared counts as often as it is met; a slice's spare places count too). A statement '..UptoSaid' is the law's where the arguments, and the package variables that the reading takes, are together of bulk at most 1048576: NARROWER than '..Said'. Prove '..Said' where nothing that the law and all that it calls make is longer than what came in: it says more and counts as full. Else prove '..UptoSaid'. A law counts once. -/
mutual
def uptoBulk {H : Type} : DataW H → Nat
  | .lit (.string bytes) => bytes.length + 1
  | .lit _ => 1
  | .nil => 1
  | .ptr d => uptoBulk d + 1
  | .slice elems spare => uptoBulkAll elems + uptoBulkAll spare + 1
  | .agg parts => uptoBulkAll parts + 1
  | .iface _ d => uptoBulk d + 1
  | .map entries => uptoBulkEntries entries + 1
  | .held _ => 1
def uptoBulkAll {H : Type} : List (DataW H) → Nat
  | [] => 0
  | d :: r => uptoBulk d + uptoBulkAll r
def uptoBulkEntries {H : Type} : List (Lit × DataW H) → Nat
  | [] => 0
  | x :: r => uptoBulkEntry x + uptoBulkEntries r
def uptoBulkEntry {H : Type} : Lit × DataW H → Nat
  | (.string bytes, d) => bytes.length + uptoBulk d + 1
  | (_, d) => uptoBulk d + 1
 end
def uptoSmall : (H : Type) → List (DataW H) → Bool := fun _ ds => decide (uptoBulkAll ds ≤ 1048576)
def OpenSpec.upto (s : _root_.Go.ChangeSpec) : _root_.Go.OpenSpec := { _root_.Go.OpenSpec.ofChange s with cond := some uptoSmall }

/-- 'leatlaw13.OffsetsAsks', WHERE WHAT IT READS IS OF BULK AT MOST 1048576: true; the input reads as it did. -/
def offsetsAsksUptoRow : OpenClaim := { program := "ytjpeefegeobgfaagreat", sum := "5a2a2ee2dca6b9ace6641fb42727246e3c94e255150c235d9e1085884bf6553e", func := "leat/leatlaw13.OffsetsAsks", spec := "offsetsAsks", unfollowed := true, recurses := true, apart := false, narrowed := true }
def OffsetsAsksUptoSaid : Prop := offsetsAsksUptoRow.holds Tryz.pinned (OpenSpec.upto offsetsAsksSpec)

/-- 'leatlaw13.OffsetsTells', WHERE WHAT IT READS IS OF BULK AT MOST 1048576: true; the input reads as it did. -/
def offsetsTellsUptoRow : OpenClaim := { program := "ytjpeefegeobgfaagreat", sum := "5a2a2ee2dca6b9ace6641fb42727246e3c94e255150c235d9e1085884bf6553e", func := "leat/leatlaw13.OffsetsTells", spec := "offsetsTells", unfollowed := true, recurses := true, apart := false, narrowed := true }
def OffsetsTellsUptoSaid : Prop := offsetsTellsUptoRow.holds Tryz.pinned (OpenSpec.upto offsetsTellsSpec)

/-- 'leatlaw13.OffsetsReads', WHERE WHAT IT READS IS OF BULK AT MOST 1048576: true; the input reads as it did. -/
def offsetsReadsUptoRow : OpenClaim := { program := "ytjpeefegeobgfaagreat", sum := "5a2a2ee2dca6b9ace6641fb42727246e3c94e255150c235d9e1085884bf6553e", func := "leat/leatlaw13.OffsetsReads", spec := "offsetsReads", unfollowed := true, recurses := true, apart := false, narrowed := true }
def OffsetsReadsUptoSaid : Prop := offsetsReadsUptoRow.holds Tryz.pinned (OpenSpec.upto offsetsReadsSpec)

/-- 'leatlaw13.OffsetsBack', WHERE WHAT IT READS IS OF BULK AT MOST 1048576: true; the input reads as it did. -/
def offsetsBackUptoRow : OpenClaim := { program := "ytjpeefegeobgfaagreat", sum := "5a2a2ee2dca6b9ace6641fb42727246e3c94e255150c235d9e1085884bf6553e", func := "leat/leatlaw13.OffsetsBack", spec := "offsetsBack", unfollowed := true, recurses := true, apart := false, narrowed := true }
def OffsetsBackUptoSaid : Prop := offsetsBackUptoRow.holds Tryz.pinned (OpenSpec.upto offsetsBackSpec)

/-- 'leatlaw12.FetchAsks', WHERE WHAT IT READS IS OF BULK AT MOST 1048576: true; the input reads as it did. -/
def fetchAsksUptoRow : OpenClaim := { program := "ytjpeefegeobgfaagreat", sum := "5a2a2ee2dca6b9ace6641fb42727246e3c94e255150c235d9e1085884bf6553e", func := "leat/leatlaw12.FetchAsks", spec := "fetchAsks", unfollowed := true, recurses := true, apart := false, narrowed := true }
def FetchAsksUptoSaid : Prop := fetchAsksUptoRow.holds Tryz.pinned (OpenSpec.upto fetchAsksSpec)

/-- 'leatlaw12.FetchTells', WHERE WHAT IT READS IS OF BULK AT MOST 1048576: true; the input reads as it did. -/
def fetchTellsUptoRow : OpenClaim := { program := "ytjpeefegeobgfaagreat", sum := "5a2a2ee2dca6b9ace6641fb42727246e3c94e255150c235d9e1085884bf6553e", func := "leat/leatlaw12.FetchTells", spec := "fetchTells", unfollowed := true, recurses := true, apart := false, narrowed := true }
def FetchTellsUptoSaid : Prop := fetchTellsUptoRow.holds Tryz.pinned (OpenSpec.upto fetchTellsSpec)

/-- 'leatlaw12.FetchReads', WHERE WHAT IT READS IS OF BULK AT MOST 1048576: true; the input reads as it did. -/
def fetchReadsUptoRow : OpenClaim := { program := "ytjpeefegeobgfaagreat", sum := "5a2a2ee2dca6b9ace6641fb42727246e3c94e255150c235d9e1085884bf6553e", func := "leat/leatlaw12.FetchReads", spec := "fetchReads", unfollowed := true, recurses := true, apart := false, narrowed := true }
def FetchReadsUptoSaid : Prop := fetchReadsUptoRow.holds Tryz.pinned (OpenSpec.upto fetchReadsSpec)

/-- 'leatlaw12.FetchBack', WHERE WHAT IT READS IS OF BULK AT MOST 1048576: true; the input reads as it did. -/
def fetchBackUptoRow : OpenClaim := { program := "ytjpeefegeobgfaagreat", sum := "5a2a2ee2dca6b9ace6641fb42727246e3c94e255150c235d9e1085884bf6553e", func := "leat/leatlaw12.FetchBack", spec := "fetchBack", unfollowed := true, recurses := true, apart := false, narrowed := true }
def FetchBackUptoSaid : Prop := fetchBackUptoRow.holds Tryz.pinned (OpenSpec.upto fetchBackSpec)

/-- 'leatlaw13.OffsetsOnly', WHERE WHAT IT READS IS OF BULK AT MOST 1048576: true; the input reads as it did. -/
def offsetsOnlyUptoRow : OpenClaim := { program := "ytjpeefegeobgfaagreat", sum := "5a2a2ee2dca6b9ace6641fb42727246e3c94e255150c235d9e1085884bf6553e", func := "leat/leatlaw13.OffsetsOnly", spec := "offsetsOnly", unfollowed := true, recurses := true, apart := false, narrowed := true }
def OffsetsOnlyUptoSaid : Prop := offsetsOnlyUptoRow.holds Tryz.pinned (OpenSpec.upto offsetsOnlySpec)

/-- 'leatlaw12.FetchOnly', WHERE WHAT IT READS IS OF BULK AT MOST 1048576: true; the input reads as it did. -/
def fetchOnlyUptoRow : OpenClaim := { program := "ytjpeefegeobgfaagreat", sum := "5a2a2ee2dca6b9ace6641fb42727246e3c94e255150c235d9e1085884bf6553e", func := "leat/leatlaw12.FetchOnly", spec := "fetchOnly", unfollowed := true, recurses := true, apart := false, narrowed := true }
def FetchOnlyUptoSaid : Prop := fetchOnlyUptoRow.holds Tryz.pinned (OpenSpec.upto fetchOnlySpec)

end Rows
end Go.Proofs.YtjpeefegeobgfaaGreat
