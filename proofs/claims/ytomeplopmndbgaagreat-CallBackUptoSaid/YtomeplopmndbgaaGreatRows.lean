/-
  No cell of these rows narrows 'for every input' (looked for: loops, veiled, ifaces, maps, wideKeys, modest, calm, conditions, laid).
  DERIVED. THE GIVEN ROWS OF THIS SEAT. 5 by the template 'for every input the law returns true; each argument reads behind the call as it read before'; 0 by the template 'total and deterministic' (their statements: YtomeplopmndbgaaGreatTotals.lean).
  GIVEN WITH THE SEED: the statements are not yours to turn. If you find one false, say at which input.
  Laid BY PROGRAM, IN A SANDBOX (cutbox-rows.mjs): the forced cells as the released guide's own fill.sh prints them over the translation f45553aa097c66db… (all of the seat's roots in one cut). By AI agents, Wed Nov 11 2026. No macro, syntax, notation, axiom, sorry.
-/
import Derived.Test.YtomeplopmndbgaaGreatChecked
import GoSem.Claim
import GoSem.ClaimJoined
import GoSem.ClaimMapViews
import Derived.JoinedTies
import Derived.KernelRfl
namespace Go.Proofs.YtomeplopmndbgaaGreat
/- THE CELL 'sum', in the pinned program and in every row, IS THE sha256 OF THE DUMP (.gsa) THAT YtomeplopmndbgaaGreatProg.lean LOADS. Nothing in Lean hashes anything: it is a label: what it is worth is what the hold of that sum in a sandbox is worth. -/
noncomputable def Tryz.pinned : Pinned := { name := "ytomeplopmndbgaagreat", sum := "f45553aa097c66db0cb2957b18a2c608d2f3a4c9407045ca689bc548caee9d69", checked := Tryz.checked }
namespace Rows
def none {H : Type} : Left H := { results := [], args := [] }

/-- 'leatlaw16.CallPuts': WHATEVER THE INPUT: true; the input reads as it did. -/
def callPutsSpec : ChangeSpec := { name := "callPuts", fn := fun _ => fun
  | [d] => { results := [.lit (.bool true)], args := [d] }
  | _ => none }
def callPutsRow : OpenClaim := { program := "ytomeplopmndbgaagreat", sum := "f45553aa097c66db0cb2957b18a2c608d2f3a4c9407045ca689bc548caee9d69", func := "leat/leatlaw16.CallPuts", spec := "callPuts", unfollowed := true, recurses := true, apart := false }
def CallPutsSaid : Prop := callPutsRow.holds Tryz.pinned (OpenSpec.ofChange callPutsSpec)

/-- ITS FALSE NEIGHBOUR: 'it returns false'. Refute it at one input. -/
def callPutsWrong : ChangeSpec := { name := "callPuts", fn := fun _ => fun
  | [d] => { results := [.lit (.bool false)], args := [d] }
  | _ => none }
def CallPutsWrongFalsely : Prop := callPutsRow.holds Tryz.pinned (OpenSpec.ofChange callPutsWrong)

/-- 'leatlaw16.CallReplies': WHATEVER THE INPUT: true; the input reads as it did. -/
def callRepliesSpec : ChangeSpec := { name := "callReplies", fn := fun _ => fun
  | [d] => { results := [.lit (.bool true)], args := [d] }
  | _ => none }
def callRepliesRow : OpenClaim := { program := "ytomeplopmndbgaagreat", sum := "f45553aa097c66db0cb2957b18a2c608d2f3a4c9407045ca689bc548caee9d69", func := "leat/leatlaw16.CallReplies", spec := "callReplies", unfollowed := true, recurses := true, apart := false }
def CallRepliesSaid : Prop := callRepliesRow.holds Tryz.pinned (OpenSpec.ofChange callRepliesSpec)

/-- ITS FALSE NEIGHBOUR: 'it returns false'. Refute it at one input. -/
def callRepliesWrong : ChangeSpec := { name := "callReplies", fn := fun _ => fun
  | [d] => { results := [.lit (.bool false)], args := [d] }
  | _ => none }
def CallRepliesWrongFalsely : Prop := callRepliesRow.holds Tryz.pinned (OpenSpec.ofChange callRepliesWrong)

/-- 'leatlaw16.CallGets': WHATEVER THE INPUT: true; the input reads as it did. -/
def callGetsSpec : ChangeSpec := { name := "callGets", fn := fun _ => fun
  | [d1, d2, d3] => { results := [.lit (.bool true)], args := [d1, d2, d3] }
  | _ => none }
def callGetsRow : OpenClaim := { program := "ytomeplopmndbgaagreat", sum := "f45553aa097c66db0cb2957b18a2c608d2f3a4c9407045ca689bc548caee9d69", func := "leat/leatlaw16.CallGets", spec := "callGets", unfollowed := true, recurses := true, apart := false }
def CallGetsSaid : Prop := callGetsRow.holds Tryz.pinned (OpenSpec.ofChange callGetsSpec)

/-- ITS FALSE NEIGHBOUR: 'it returns false'. Refute it at one input. -/
def callGetsWrong : ChangeSpec := { name := "callGets", fn := fun _ => fun
  | [d1, d2, d3] => { results := [.lit (.bool false)], args := [d1, d2, d3] }
  | _ => none }
def CallGetsWrongFalsely : Prop := callGetsRow.holds Tryz.pinned (OpenSpec.ofChange callGetsWrong)

/-- 'leatlaw16.CallBack': WHATEVER THE INPUT: true; the input reads as it did. -/
def callBackSpec : ChangeSpec := { name := "callBack", fn := fun _ => fun
  | [d1, d2] => { results := [.lit (.bool true)], args := [d1, d2] }
  | _ => none }
def callBackRow : OpenClaim := { program := "ytomeplopmndbgaagreat", sum := "f45553aa097c66db0cb2957b18a2c608d2f3a4c9407045ca689bc548caee9d69", func := "leat/leatlaw16.CallBack", spec := "callBack", unfollowed := true, recurses := true, apart := false }
def CallBackSaid : Prop := callBackRow.holds Tryz.pinned (OpenSpec.ofChange callBackSpec)

/-- ITS FALSE NEIGHBOUR: 'it returns false'. Refute it at one input. -/
def callBackWrong : ChangeSpec := { name := "callBack", fn := fun _ => fun
  | [d1, d2] => { results := [.lit (.bool false)], args := [d1, d2] }
  | _ => none }
def CallBackWrongFalsely : Prop := callBackRow.holds Tryz.pinned (OpenSpec.ofChange callBackWrong)

/-- 'leatlaw16.CallOnly': WHATEVER THE INPUT: true; the input reads as it did. -/
def callOnlySpec : ChangeSpec := { name := "callOnly", fn := fun _ => fun
  | [d] => { results := [.lit (.bool true)], args := [d] }
  | _ => none }
def callOnlyRow : OpenClaim := { program := "ytomeplopmndbgaagreat", sum := "f45553aa097c66db0cb2957b18a2c608d2f3a4c9407045ca689bc548caee9d69", func := "leat/leatlaw16.CallOnly", spec := "callOnly", unfollowed := true, recurses := true, apart := false }
def CallOnlySaid : Prop := callOnlyRow.holds Tryz.pinned (OpenSpec.ofChange callOnlySpec)

/-- ITS FALSE NEIGHBOUR: 'it returns false'. Refute it at one input. -/
def callOnlyWrong : ChangeSpec := { name := "callOnly", fn := fun _ => fun
  | [d] => { results := [.lit (.bool false)], args := [d] }
  | _ => none }
def CallOnlyWrongFalsely : Prop := callOnlyRow.holds Tryz.pinned (OpenSpec.ofChange callOnlyWrong)

/- THE SECOND FORM. 'bulk': how many values and letters a reading holds, each counted each time it is reached (what is shared counts as often as it is met; a slice's spare places count too). A statement '..UptoSaid' is the law's where the arguments, and the package variables that the reading takes, are together of bulk at most 1048576: NARROWER than '..Said'. Prove '..Said' where nothing that the law and all that it calls make is longer than what came in: it says more and counts as full. Else prove '..UptoSaid'. A law counts once. -/
mutual
def uptoBulk {H : Type} : DataW H → Nat
  | .lit (.string bytes) => bytes.length + 1
  | .lit _ => 1
  | .nil => 1
  | .ptr d => uptoBulk d + 1
  | .slice elems spare => uptoBulkAll elems + uptoBulkAll spare + 1
  | .agg parts => uptoBulkAll parts + 1
  | .iface _ d => uptoBulk d + 1
  | .map entries => uptoBulkEntries entries + 1
  | .held _ => 1
def uptoBulkAll {H : Type} : List (DataW H) → Nat
  | [] => 0
  | d :: r => uptoBulk d + uptoBulkAll r
def uptoBulkEntries {H : Type} : List (Lit × DataW H) → Nat
  | [] => 0
  | x :: r => uptoBulkEntry x + uptoBulkEntries r
def uptoBulkEntry {H : Type} : Lit × DataW H → Nat
  | (.string bytes, d) => bytes.length + uptoBulk d + 1
  | (_, d) => uptoBulk d + 1
 end
def uptoSmall : (H : Type) → List (DataW H) → Bool := fun _ ds => decide (uptoBulkAll ds ≤ 1048576)
def OpenSpec.upto (s : _root_.Go.ChangeSpec) : _root_.Go.OpenSpec := { _root_.Go.OpenSpec.ofChange s with cond := some uptoSmall }

/-- 'leatlaw16.CallPuts', WHERE WHAT IT READS IS OF BULK AT MOST 1048576: true; the input reads as it did. -/
def callPutsUptoRow : OpenClaim := { program := "ytomeplopmndbgaagreat", sum := "f45553aa097c66db0cb2957b18a2c608d2f3a4c9407045ca689bc548caee9d69", func := "leat/leatlaw16.CallPuts", spec := "callPuts", unfollowed := true, recurses := true, apart := false, narrowed := true }
def CallPutsUptoSaid : Prop := callPutsUptoRow.holds Tryz.pinned (OpenSpec.upto callPutsSpec)

/-- 'leatlaw16.CallReplies', WHERE WHAT IT READS IS OF BULK AT MOST 1048576: true; the input reads as it did. -/
def callRepliesUptoRow : OpenClaim := { program := "ytomeplopmndbgaagreat", sum := "f45553aa097c66db0cb2957b18a2c608d2f3a4c9407045ca689bc548caee9d69", func := "leat/leatlaw16.CallReplies", spec := "callReplies", unfollowed := true, recurses := true, apart := false, narrowed := true }
def CallRepliesUptoSaid : Prop := callRepliesUptoRow.holds Tryz.pinned (OpenSpec.upto callRepliesSpec)

/-- 'leatlaw16.CallGets', WHERE WHAT IT READS IS OF BULK AT MOST 1048576: true; the input reads as it did. -/
def callGetsUptoRow : OpenClaim := { program := "ytomeplopmndbgaagreat", sum := "f45553aa097c66db0cb2957b18a2c608d2f3a4c9407045ca689bc548caee9d69", func := "leat/leatlaw16.CallGets", spec := "callGets", unfollowed := true, recurses := true, apart := false, narrowed := true }
def CallGetsUptoSaid : Prop := callGetsUptoRow.holds Tryz.pinned (OpenSpec.upto callGetsSpec)

/-- 'leatlaw16.CallBack', WHERE WHAT IT READS IS OF BULK AT MOST 1048576: true; the input reads as it did. -/
def callBackUptoRow : OpenClaim := { program := "ytomeplopmndbgaagreat", sum := "f45553aa097c66db0cb2957b18a2c608d2f3a4c9407045ca689bc548caee9d69", func := "leat/leatlaw16.CallBack", spec := "callBack", unfollowed := true, recurses := true, apart := false, narrowed := true }
def CallBackUptoSaid : Prop := callBackUptoRow.holds Tryz.pinned (OpenSpec.upto callBackSpec)

/-- 'leatlaw16.CallOnly', WHERE WHAT IT READS IS OF BULK AT MOST 1048576: true; the input reads as it did. -/
def callOnlyUptoRow : OpenClaim := { program := "ytomeplopmndbgaagreat", sum := "f45553aa097c66db0cb2957b18a2c608d2f3a4c9407045ca689bc548caee9d69", func := "leat/leatlaw16.CallOnly", spec := "callOnly", unfollowed := true, recurses := true, apart := false, narrowed := true }
def CallOnlyUptoSaid : Prop := callOnlyUptoRow.holds Tryz.pinned (OpenSpec.upto callOnlySpec)

end Rows
end Go.Proofs.YtomeplopmndbgaaGreat
