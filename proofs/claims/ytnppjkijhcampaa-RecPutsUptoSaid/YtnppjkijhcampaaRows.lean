/-
  No cell of these rows narrows 'for every input' (looked for: loops, veiled, ifaces, maps, wideKeys, modest, calm, conditions, laid).
  DERIVED. THE GIVEN ROWS OF THIS SEAT. 6 by the template 'for every input the law returns true; each argument reads behind the call as it read before'; 0 by the template 'total and deterministic' (their statements: YtnppjkijhcampaaTotals.lean).
  GIVEN WITH THE SEED: the statements are not yours to turn. If you find one false, say at which input.
  Laid BY PROGRAM, IN A SANDBOX (cutbox-rows.mjs): the forced cells as the released guide's own fill.sh prints them over the translation 0a74508f1855867b… (all of the seat's roots in one cut). By AI agents, Wed Nov 11 2026. No macro, syntax, notation, axiom, sorry.
-/
import Derived.Test.YtnppjkijhcampaaChecked
import GoSem.Claim
import GoSem.ClaimJoined
import GoSem.ClaimMapViews
import Derived.JoinedTies
import Derived.KernelRfl
namespace Go.Proofs.Ytnppjkijhcampaa
/- THE CELL 'sum', in the pinned program and in every row, IS THE sha256 OF THE DUMP (.gsa) THAT YtnppjkijhcampaaProg.lean LOADS. Nothing in Lean hashes anything: it is a label: what it is worth is what the hold of that sum in a sandbox is worth. -/
noncomputable def Try.pinned : Pinned := { name := "ytnppjkijhcampaa", sum := "0a74508f1855867bd74cdd68e4ca73e3346ed8bb1da1d0ff95de2c2ab4a12edf", checked := Try.checked }
namespace Rows
def none {H : Type} : Left H := { results := [], args := [] }

/-- 'leatlaw07.RecGets': WHATEVER THE INPUT: true; the input reads as it did. -/
def recGetsSpec : ChangeSpec := { name := "recGets", fn := fun _ => fun
  | [d1, d2] => { results := [.lit (.bool true)], args := [d1, d2] }
  | _ => none }
def recGetsRow : OpenClaim := { program := "ytnppjkijhcampaa", sum := "0a74508f1855867bd74cdd68e4ca73e3346ed8bb1da1d0ff95de2c2ab4a12edf", func := "leat/leatlaw07.RecGets", spec := "recGets", unfollowed := true, recurses := true, apart := false }
def RecGetsSaid : Prop := recGetsRow.holds Try.pinned (OpenSpec.ofChange recGetsSpec)

/-- ITS FALSE NEIGHBOUR: 'it returns false'. Refute it at one input. -/
def recGetsWrong : ChangeSpec := { name := "recGets", fn := fun _ => fun
  | [d1, d2] => { results := [.lit (.bool false)], args := [d1, d2] }
  | _ => none }
def RecGetsWrongFalsely : Prop := recGetsRow.holds Try.pinned (OpenSpec.ofChange recGetsWrong)

/-- 'leatlaw07.RecBack': WHATEVER THE INPUT: true; the input reads as it did. -/
def recBackSpec : ChangeSpec := { name := "recBack", fn := fun _ => fun
  | [d1, d2, d3] => { results := [.lit (.bool true)], args := [d1, d2, d3] }
  | _ => none }
def recBackRow : OpenClaim := { program := "ytnppjkijhcampaa", sum := "0a74508f1855867bd74cdd68e4ca73e3346ed8bb1da1d0ff95de2c2ab4a12edf", func := "leat/leatlaw07.RecBack", spec := "recBack", unfollowed := true, recurses := true, apart := false }
def RecBackSaid : Prop := recBackRow.holds Try.pinned (OpenSpec.ofChange recBackSpec)

/-- ITS FALSE NEIGHBOUR: 'it returns false'. Refute it at one input. -/
def recBackWrong : ChangeSpec := { name := "recBack", fn := fun _ => fun
  | [d1, d2, d3] => { results := [.lit (.bool false)], args := [d1, d2, d3] }
  | _ => none }
def RecBackWrongFalsely : Prop := recBackRow.holds Try.pinned (OpenSpec.ofChange recBackWrong)

/-- 'leatlaw07.RecMemory': WHATEVER THE INPUT: true; the input reads as it did. -/
def recMemorySpec : ChangeSpec := { name := "recMemory", fn := fun _ => fun
  | [d1, d2] => { results := [.lit (.bool true)], args := [d1, d2] }
  | _ => none }
def recMemoryRow : OpenClaim := { program := "ytnppjkijhcampaa", sum := "0a74508f1855867bd74cdd68e4ca73e3346ed8bb1da1d0ff95de2c2ab4a12edf", func := "leat/leatlaw07.RecMemory", spec := "recMemory", unfollowed := true, recurses := true, apart := false }
def RecMemorySaid : Prop := recMemoryRow.holds Try.pinned (OpenSpec.ofChange recMemorySpec)

/-- ITS FALSE NEIGHBOUR: 'it returns false'. Refute it at one input. -/
def recMemoryWrong : ChangeSpec := { name := "recMemory", fn := fun _ => fun
  | [d1, d2] => { results := [.lit (.bool false)], args := [d1, d2] }
  | _ => none }
def RecMemoryWrongFalsely : Prop := recMemoryRow.holds Try.pinned (OpenSpec.ofChange recMemoryWrong)

/-- 'leatlaw07.RecOnly': WHATEVER THE INPUT: true; the input reads as it did. -/
def recOnlySpec : ChangeSpec := { name := "recOnly", fn := fun _ => fun
  | [d1, d2] => { results := [.lit (.bool true)], args := [d1, d2] }
  | _ => none }
def recOnlyRow : OpenClaim := { program := "ytnppjkijhcampaa", sum := "0a74508f1855867bd74cdd68e4ca73e3346ed8bb1da1d0ff95de2c2ab4a12edf", func := "leat/leatlaw07.RecOnly", spec := "recOnly", unfollowed := true, recurses := true, apart := false }
def RecOnlySaid : Prop := recOnlyRow.holds Try.pinned (OpenSpec.ofChange recOnlySpec)

/-- ITS FALSE NEIGHBOUR: 'it returns false'. Refute it at one input. -/
def recOnlyWrong : ChangeSpec := { name := "recOnly", fn := fun _ => fun
  | [d1, d2] => { results := [.lit (.bool false)], args := [d1, d2] }
  | _ => none }
def RecOnlyWrongFalsely : Prop := recOnlyRow.holds Try.pinned (OpenSpec.ofChange recOnlyWrong)

/-- 'leatlaw07.RecSizes': WHATEVER THE INPUT: true; the input reads as it did. -/
def recSizesSpec : ChangeSpec := { name := "recSizes", fn := fun _ => fun
  | [d1, d2] => { results := [.lit (.bool true)], args := [d1, d2] }
  | _ => none }
def recSizesRow : OpenClaim := { program := "ytnppjkijhcampaa", sum := "0a74508f1855867bd74cdd68e4ca73e3346ed8bb1da1d0ff95de2c2ab4a12edf", func := "leat/leatlaw07.RecSizes", spec := "recSizes", unfollowed := true, recurses := true, apart := false }
def RecSizesSaid : Prop := recSizesRow.holds Try.pinned (OpenSpec.ofChange recSizesSpec)

/-- ITS FALSE NEIGHBOUR: 'it returns false'. Refute it at one input. -/
def recSizesWrong : ChangeSpec := { name := "recSizes", fn := fun _ => fun
  | [d1, d2] => { results := [.lit (.bool false)], args := [d1, d2] }
  | _ => none }
def RecSizesWrongFalsely : Prop := recSizesRow.holds Try.pinned (OpenSpec.ofChange recSizesWrong)

/-- 'leatlaw07.RecPuts': WHATEVER THE INPUT: true; the input reads as it did. -/
def recPutsSpec : ChangeSpec := { name := "recPuts", fn := fun _ => fun
  | [d] => { results := [.lit (.bool true)], args := [d] }
  | _ => none }
def recPutsRow : OpenClaim := { program := "ytnppjkijhcampaa", sum := "0a74508f1855867bd74cdd68e4ca73e3346ed8bb1da1d0ff95de2c2ab4a12edf", func := "leat/leatlaw07.RecPuts", spec := "recPuts", unfollowed := true, recurses := true, apart := false }
def RecPutsSaid : Prop := recPutsRow.holds Try.pinned (OpenSpec.ofChange recPutsSpec)

/-- ITS FALSE NEIGHBOUR: 'it returns false'. Refute it at one input. -/
def recPutsWrong : ChangeSpec := { name := "recPuts", fn := fun _ => fun
  | [d] => { results := [.lit (.bool false)], args := [d] }
  | _ => none }
def RecPutsWrongFalsely : Prop := recPutsRow.holds Try.pinned (OpenSpec.ofChange recPutsWrong)

/- THE SECOND FORM. 'bulk': how many values and letters a reading holds, each counted each time it is reached (what is shared counts as often as it is met; a slice's spare places count too). A statement '..UptoSaid' is the law's where the arguments, and the package variables that the reading takes, are together of bulk at most 1048576: NARROWER than '..Said'. Prove '..Said' where nothing that the law and all that it calls make is longer than what came in: it says more and counts as full. Else prove '..UptoSaid'. A law counts once. -/
mutual
def uptoBulk {H : Type} : DataW H → Nat
  | .lit (.string bytes) => bytes.length + 1
  | .lit _ => 1
  | .nil => 1
  | .ptr d => uptoBulk d + 1
  | .slice elems spare => uptoBulkAll elems + uptoBulkAll spare + 1
  | .agg parts => uptoBulkAll parts + 1
  | .iface _ d => uptoBulk d + 1
  | .map entries => uptoBulkEntries entries + 1
  | .held _ => 1
def uptoBulkAll {H : Type} : List (DataW H) → Nat
  | [] => 0
  | d :: r => uptoBulk d + uptoBulkAll r
def uptoBulkEntries {H : Type} : List (Lit × DataW H) → Nat
  | [] => 0
  | x :: r => uptoBulkEntry x + uptoBulkEntries r
def uptoBulkEntry {H : Type} : Lit × DataW H → Nat
  | (.string bytes, d) => bytes.length + uptoBulk d + 1
  | (_, d) => uptoBulk d + 1
 end
def uptoSmall : (H : Type) → List (DataW H) → Bool := fun _ ds => decide (uptoBulkAll ds ≤ 1048576)
def OpenSpec.upto (s : _root_.Go.ChangeSpec) : _root_.Go.OpenSpec := { _root_.Go.OpenSpec.ofChange s with cond := some uptoSmall }

/-- 'leatlaw07.RecGets', WHERE WHAT IT READS IS OF BULK AT MOST 1048576: true; the input reads as it did. -/
def recGetsUptoRow : OpenClaim := { program := "ytnppjkijhcampaa", sum := "0a74508f1855867bd74cdd68e4ca73e3346ed8bb1da1d0ff95de2c2ab4a12edf", func := "leat/leatlaw07.RecGets", spec := "recGets", unfollowed := true, recurses := true, apart := false, narrowed := true }
def RecGetsUptoSaid : Prop := recGetsUptoRow.holds Try.pinned (OpenSpec.upto recGetsSpec)

/-- 'leatlaw07.RecBack', WHERE WHAT IT READS IS OF BULK AT MOST 1048576: true; the input reads as it did. -/
def recBackUptoRow : OpenClaim := { program := "ytnppjkijhcampaa", sum := "0a74508f1855867bd74cdd68e4ca73e3346ed8bb1da1d0ff95de2c2ab4a12edf", func := "leat/leatlaw07.RecBack", spec := "recBack", unfollowed := true, recurses := true, apart := false, narrowed := true }
def RecBackUptoSaid : Prop := recBackUptoRow.holds Try.pinned (OpenSpec.upto recBackSpec)

/-- 'leatlaw07.RecMemory', WHERE WHAT IT READS IS OF BULK AT MOST 1048576: true; the input reads as it did. -/
def recMemoryUptoRow : OpenClaim := { program := "ytnppjkijhcampaa", sum := "0a74508f1855867bd74cdd68e4ca73e3346ed8bb1da1d0ff95de2c2ab4a12edf", func := "leat/leatlaw07.RecMemory", spec := "recMemory", unfollowed := true, recurses := true, apart := false, narrowed := true }
def RecMemoryUptoSaid : Prop := recMemoryUptoRow.holds Try.pinned (OpenSpec.upto recMemorySpec)

/-- 'leatlaw07.RecOnly', WHERE WHAT IT READS IS OF BULK AT MOST 1048576: true; the input reads as it did. -/
def recOnlyUptoRow : OpenClaim := { program := "ytnppjkijhcampaa", sum := "0a74508f1855867bd74cdd68e4ca73e3346ed8bb1da1d0ff95de2c2ab4a12edf", func := "leat/leatlaw07.RecOnly", spec := "recOnly", unfollowed := true, recurses := true, apart := false, narrowed := true }
def RecOnlyUptoSaid : Prop := recOnlyUptoRow.holds Try.pinned (OpenSpec.upto recOnlySpec)

/-- 'leatlaw07.RecSizes', WHERE WHAT IT READS IS OF BULK AT MOST 1048576: true; the input reads as it did. -/
def recSizesUptoRow : OpenClaim := { program := "ytnppjkijhcampaa", sum := "0a74508f1855867bd74cdd68e4ca73e3346ed8bb1da1d0ff95de2c2ab4a12edf", func := "leat/leatlaw07.RecSizes", spec := "recSizes", unfollowed := true, recurses := true, apart := false, narrowed := true }
def RecSizesUptoSaid : Prop := recSizesUptoRow.holds Try.pinned (OpenSpec.upto recSizesSpec)

/-- 'leatlaw07.RecPuts', WHERE WHAT IT READS IS OF BULK AT MOST 1048576: true; the input reads as it did. -/
def recPutsUptoRow : OpenClaim := { program := "ytnppjkijhcampaa", sum := "0a74508f1855867bd74cdd68e4ca73e3346ed8bb1da1d0ff95de2c2ab4a12edf", func := "leat/leatlaw07.RecPuts", spec := "recPuts", unfollowed := true, recurses := true, apart := false, narrowed := true }
def RecPutsUptoSaid : Prop := recPutsUptoRow.holds Try.pinned (OpenSpec.upto recPutsSpec)

end Rows
end Go.Proofs.Ytnppjkijhcampaa
