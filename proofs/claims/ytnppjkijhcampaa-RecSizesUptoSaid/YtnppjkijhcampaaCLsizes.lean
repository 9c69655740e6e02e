/- leatlaw07.RecSizes: two variables are made beside two calls, in any order. -/
import Derived.Test.YtnppjkijhcampaaSymV
import Derived.Test.YtnppjkijhcampaaCRput
import Derived.Test.YtnppjkijhcampaaCLgets

namespace Go.Proofs.Ytnppjkijhcampaa.Sym
open Go
set_option linter.unusedSimpArgs false
set_option linter.unusedVariables false
noncomputable section

noncomputable abbrev szF : Func := Go.Proofs.Try.f7
noncomputable abbrev szC : Code := fnCode szF
noncomputable abbrev szLr : Nat := lrOf szF
noncomputable abbrev szO : Array Oper := regOps (seqL (seqR (seqR (seqR szC))))
noncomputable abbrev iolSizes : Io := ⟨[dRow, dU], [], [], [dB], none⟩
noncomputable def FlSizes (d : iolSizes.In) : Tr iolSizes.Res := .ite (spSmallR d.1.1 && spRoom d.1.1) (.ret (.ret ((true, ()), ()))) .no
noncomputable abbrev cslSizes : List (Nat × Hc) := [(9, ioHd iolalive Flalive), (17, ioHd iorCheck FrCheck), (16, ioHd iorTwin FrTwin), (26, ioHd iokSize FkSize)]
noncomputable def hdlSizes : Hd := hdT cslSizes
noncomputable def lplSizes : Lp := lpT []
noncomputable def szRow (r : RowD) : V := .agg (toCs tRow r)
/-- The state before the region, where what stands in L has come. -/
noncomputable def szSt (r : RowD) (c : Int) (L : Array Bool) : AS :=
  ⟨[szRow r, .one (.int .u8 c), .one (.ptr 2 0), .any, .one (.bool false), bif L.getD 4 false then .one (.ptr 5 0) else .any, bif L.getD 5 false then .one (.ptr 6 0) else .any, .any, .any, .any, .any, .any, .any, .any, .one (.bool true), .one (.bool false),
    szRow r, .one (.int .i64 (spCheck r)), .one (.bool (spCheck r != 0)), bif L.getD 0 false then szRow r else .any, bif L.getD 1 false then szRow r else .any, bif L.getD 2 false then szRow r else .any, bif L.getD 3 false then szRow r else .any] ++ List.replicate 50 .any, [],
    [none, none, some (toCs tRow r), none, none, bif L.getD 6 false then some (toCs tRow r) else bif L.getD 4 false then some (zeroCs tt (idCell 5 0) 29) else none,
      bif L.getD 7 false then some (toCs tRow r) else bif L.getD 5 false then some (zeroCs tt (idCell 6 0) 29) else none, none, none, none, none, none, none, none, none, none, none] ++ (bif L.getD 1 false then [none, none, none] else []) ++ (bif L.getD 3 false then [none, none] else [])⟩
noncomputable def szK {R : Type} (k : AS → Option R) (ex : Ex) (A : AS) : Option R := match ex with
  | .normal => k A
  | _ => none
theorem sz0 (a0 a1 : Int) (a2 : Bool) (a3 : List Int) (a4 : Bool) (a5 : List Int) (a6 : List Head) (c : Int) (k : AS → Option Unit) :
    ev tt hdlSizes dr lplSizes 0 szLr (seqL szC) szLr [] (iolSizes.start 73 (((a0, a1, (a2, a3, ()), (a4, a5, ()), a6, ()), c, ()), ())) (szK fun A => ev tt hdlSizes dr lplSizes 0 szLr (seqL (seqR szC)) szLr [] A (szK fun A => ev tt hdlSizes dr lplSizes 0 szLr (seqL (seqR (seqR szC))) szLr [] A (szK k))) =
    bif spRoom (a0, a1, (a2, a3, ()), (a4, a5, ()), a6, ()) then bif spCheck (a0, a1, (a2, a3, ()), (a4, a5, ()), a6, ()) != 0 then none else k (szSt (a0, a1, (a2, a3, ()), (a4, a5, ()), a6, ()) c #[false, false, false, false, false, false, false, false]) else none := by kernel_rfl
theorem szE (a0 a1 : Int) (a2 : Bool) (a3 : List Int) (a4 : Bool) (a5 : List Int) (a6 : List Head) (c : Int) :
    ev tt hdlSizes dr lplSizes 0 szLr szC szLr [] (iolSizes.start 73 (((a0, a1, (a2, a3, ()), (a4, a5, ()), a6, ()), c, ()), ())) (iolSizes.fin tt szF) =
    bif spRoom (a0, a1, (a2, a3, ()), (a4, a5, ()), a6, ()) then bif spCheck (a0, a1, (a2, a3, ()), (a4, a5, ()), a6, ()) != 0 then some (Out.ret ((true, ()), ())) else none else none := by kernel_rfl
noncomputable def szRest (a0 a1 : Int) (a2 : Bool) (a3 : List Int) (a4 : Bool) (a5 : List Int) (a6 : List Head) (c : Int) : Option iolSizes.Res :=
  bif spRoom (a0, a1, (a2, a3, ()), (true, [], ()), a6, ()) then bif spRoom (a0, a1, (a2, a3, ()), (false, [], ()), a6, ()) then
    bif (spPutR (a0, a1, (a2, a3, ()), (true, [], ()), a6, ())).2 != 0 then some (Out.ret ((false, ()), ())) else
    bif (spPutR (a0, a1, (a2, a3, ()), (false, [], ()), a6, ())).2 != 0 then some (Out.ret ((false, ()), ())) else
    bif ((spPutR (a0, a1, (a2, a3, ()), (true, [], ()), a6, ())).1.length : Int) != ((spPutR (a0, a1, (a2, a3, ()), (false, [], ()), a6, ())).1.length : Int) then some (Out.ret ((false, ()), ())) else
    bif spSmallR (a0, a1, (a2, a3, ()), (a4, a5, ()), a6, ()) then bif spRoom (a0, a1, (a2, a3, ()), (false, [c], ()), a6, ()) then
      bif (spPutR (a0, a1, (a2, a3, ()), (false, [c], ()), a6, ())).2 != 0 then some (Out.ret (((spPutR (a0, a1, (a2, a3, ()), (false, [c], ()), a6, ())).2 == 4, ()), ())) else
      bif ((spPutR (a0, a1, (a2, a3, ()), (false, [c], ()), a6, ())).1.length : Int) == IntKind.i64.wrap (((spPutR (a0, a1, (a2, a3, ()), (true, [], ()), a6, ())).1.length : Int) + 1) then some (Out.ret ((true, ()), ())) else
        some (Out.ret ((((spPutR (a0, a1, (a2, a3, ()), (false, [c], ()), a6, ())).1.length : Int) == IntKind.i64.wrap (((spPutR (a0, a1, (a2, a3, ()), (true, [], ()), a6, ())).1.length : Int) + 2), ()), ()))
    else none else none
  else none else none
theorem sz2 (a0 a1 : Int) (a2 : Bool) (a3 : List Int) (a4 : Bool) (a5 : List Int) (a6 : List Head) (c : Int) :
    ev tt hdlSizes dr lplSizes 0 szLr (seqR (seqR (seqR (seqR szC)))) szLr [] (szSt (a0, a1, (a2, a3, ()), (a4, a5, ()), a6, ()) c #[true, true, true, true, true, true, true, true]) (iolSizes.fin tt szF) = szRest a0 a1 a2 a3 a4 a5 a6 c := by kernel_rfl
theorem szs0 (a0 a1 : Int) (a2 : Bool) (a3 : List Int) (a4 : Bool) (a5 : List Int) (a6 : List Head) (c : Int) (K : AS → Option Unit) : stepI tt hdlSizes 0 szO 0 (szSt (a0, a1, (a2, a3, ()), (a4, a5, ()), a6, ()) c #[false, false, false, false, false, false, false, false]) K = K (szSt (a0, a1, (a2, a3, ()), (a4, a5, ()), a6, ()) c #[true, false, false, false, false, false, false, false]) := by kernel_rfl
theorem szs1 (a0 a1 : Int) (a2 : Bool) (a3 : List Int) (a4 : Bool) (a5 : List Int) (a6 : List Head) (c : Int) (K : AS → Option Unit) : stepI tt hdlSizes 0 szO 2 (szSt (a0, a1, (a2, a3, ()), (a4, a5, ()), a6, ()) c #[false, false, false, false, false, false, false, false]) K = K (szSt (a0, a1, (a2, a3, ()), (a4, a5, ()), a6, ()) c #[false, false, true, false, false, false, false, false]) := by kernel_rfl
theorem szs2 (a0 a1 : Int) (a2 : Bool) (a3 : List Int) (a4 : Bool) (a5 : List Int) (a6 : List Head) (c : Int) (K : AS → Option Unit) : stepI tt hdlSizes 0 szO 4 (szSt (a0, a1, (a2, a3, ()), (a4, a5, ()), a6, ()) c #[false, false, false, false, false, false, false, false]) K = K (szSt (a0, a1, (a2, a3, ()), (a4, a5, ()), a6, ()) c #[false, false, false, false, true, false, false, false]) := by kernel_rfl
theorem szs3 (a0 a1 : Int) (a2 : Bool) (a3 : List Int) (a4 : Bool) (a5 : List Int) (a6 : List Head) (c : Int) (K : AS → Option Unit) : stepI tt hdlSizes 0 szO 5 (szSt (a0, a1, (a2, a3, ()), (a4, a5, ()), a6, ()) c #[false, false, false, false, false, false, false, false]) K = K (szSt (a0, a1, (a2, a3, ()), (a4, a5, ()), a6, ()) c #[false, false, false, false, false, true, false, false]) := by kernel_rfl
theorem szs4 (a0 a1 : Int) (a2 : Bool) (a3 : List Int) (a4 : Bool) (a5 : List Int) (a6 : List Head) (c : Int) (K : AS → Option Unit) : stepI tt hdlSizes 0 szO 1 (szSt (a0, a1, (a2, a3, ()), (a4, a5, ()), a6, ()) c #[true, false, false, false, false, false, false, false]) K = bif spSmallR (a0, a1, (a2, a3, ()), (a4, a5, ()), a6, ()) then K (szSt (a0, a1, (a2, a3, ()), (a4, a5, ()), a6, ()) c #[true, true, false, false, false, false, false, false]) else none := by kernel_rfl
theorem szs5 (a0 a1 : Int) (a2 : Bool) (a3 : List Int) (a4 : Bool) (a5 : List Int) (a6 : List Head) (c : Int) (K : AS → Option Unit) : stepI tt hdlSizes 0 szO 2 (szSt (a0, a1, (a2, a3, ()), (a4, a5, ()), a6, ()) c #[true, false, false, false, false, false, false, false]) K = K (szSt (a0, a1, (a2, a3, ()), (a4, a5, ()), a6, ()) c #[true, false, true, false, false, false, false, false]) := by kernel_rfl
theorem szs6 (a0 a1 : Int) (a2 : Bool) (a3 : List Int) (a4 : Bool) (a5 : List Int) (a6 : List Head) (c : Int) (K : AS → Option Unit) : stepI tt hdlSizes 0 szO 4 (szSt (a0, a1, (a2, a3, ()), (a4, a5, ()), a6, ()) c #[true, false, false, false, false, false, false, false]) K = K (szSt (a0, a1, (a2, a3, ()), (a4, a5, ()), a6, ()) c #[true, false, false, false, true, false, false, false]) := by kernel_rfl
theorem szs7 (a0 a1 : Int) (a2 : Bool) (a3 : List Int) (a4 : Bool) (a5 : List Int) (a6 : List Head) (c : Int) (K : AS → Option Unit) : stepI tt hdlSizes 0 szO 5 (szSt (a0, a1, (a2, a3, ()), (a4, a5, ()), a6, ()) c #[true, false, false, false, false, false, false, false]) K = K (szSt (a0, a1, (a2, a3, ()), (a4, a5, ()), a6, ()) c #[true, false, false, false, false, true, false, false]) := by kernel_rfl
theorem szs8 (a0 a1 : Int) (a2 : Bool) (a3 : List Int) (a4 : Bool) (a5 : List Int) (a6 : List Head) (c : Int) (K : AS → Option Unit) : stepI tt hdlSizes 0 szO 0 (szSt (a0, a1, (a2, a3, ()), (a4, a5, ()), a6, ()) c #[false, false, true, false, false, false, false, false]) K = K (szSt (a0, a1, (a2, a3, ()), (a4, a5, ()), a6, ()) c #[true, false, true, false, false, false, false, false]) := by kernel_rfl
theorem szs9 (a0 a1 : Int) (a2 : Bool) (a3 : List Int) (a4 : Bool) (a5 : List Int) (a6 : List Head) (c : Int) (K : AS → Option Unit) : stepI tt hdlSizes 0 szO 4 (szSt (a0, a1, (a2, a3, ()), (a4, a5, ()), a6, ()) c #[false, false, true, false, false, false, false, false]) K = K (szSt (a0, a1, (a2, a3, ()), (a4, a5, ()), a6, ()) c #[false, false, true, false, true, false, false, false]) := by kernel_rfl
theorem szs10 (a0 a1 : Int) (a2 : Bool) (a3 : List Int) (a4 : Bool) (a5 : List Int) (a6 : List Head) (c : Int) (K : AS → Option Unit) : stepI tt hdlSizes 0 szO 5 (szSt (a0, a1, (a2, a3, ()), (a4, a5, ()), a6, ()) c #[false, false, true, false, false, false, false, false]) K = K (szSt (a0, a1, (a2, a3, ()), (a4, a5, ()), a6, ()) c #[false, false, true, false, false, true, false, false]) := by kernel_rfl
theorem szs11 (a0 a1 : Int) (a2 : Bool) (a3 : List Int) (a4 : Bool) (a5 : List Int) (a6 : List Head) (c : Int) (K : AS → Option Unit) : stepI tt hdlSizes 0 szO 0 (szSt (a0, a1, (a2, a3, ()), (a4, a5, ()), a6, ()) c #[false, false, false, false, true, false, false, false]) K = K (szSt (a0, a1, (a2, a3, ()), (a4, a5, ()), a6, ()) c #[true, false, false, false, true, false, false, false]) := by kernel_rfl
theorem szs12 (a0 a1 : Int) (a2 : Bool) (a3 : List Int) (a4 : Bool) (a5 : List Int) (a6 : List Head) (c : Int) (K : AS → Option Unit) : stepI tt hdlSizes 0 szO 2 (szSt (a0, a1, (a2, a3, ()), (a4, a5, ()), a6, ()) c #[false, false, false, false, true, false, false, false]) K = K (szSt (a0, a1, (a2, a3, ()), (a4, a5, ()), a6, ()) c #[false, false, true, false, true, false, false, false]) := by kernel_rfl
theorem szs13 (a0 a1 : Int) (a2 : Bool) (a3 : List Int) (a4 : Bool) (a5 : List Int) (a6 : List Head) (c : Int) (K : AS → Option Unit) : stepI tt hdlSizes 0 szO 5 (szSt (a0, a1, (a2, a3, ()), (a4, a5, ()), a6, ()) c #[false, false, false, false, true, false, false, false]) K = K (szSt (a0, a1, (a2, a3, ()), (a4, a5, ()), a6, ()) c #[false, false, false, false, true, true, false, false]) := by kernel_rfl
theorem szs14 (a0 a1 : Int) (a2 : Bool) (a3 : List Int) (a4 : Bool) (a5 : List Int) (a6 : List Head) (c : Int) (K : AS → Option Unit) : stepI tt hdlSizes 0 szO 0 (szSt (a0, a1, (a2, a3, ()), (a4, a5, ()), a6, ()) c #[false, false, false, false, false, true, false, false]) K = K (szSt (a0, a1, (a2, a3, ()), (a4, a5, ()), a6, ()) c #[true, false, false, false, false, true, false, false]) := by kernel_rfl
theorem szs15 (a0 a1 : Int) (a2 : Bool) (a3 : List Int) (a4 : Bool) (a5 : List Int) (a6 : List Head) (c : Int) (K : AS → Option Unit) : stepI tt hdlSizes 0 szO 2 (szSt (a0, a1, (a2, a3, ()), (a4, a5, ()), a6, ()) c #[false, false, false, false, false, true, false, false]) K = K (szSt (a0, a1, (a2, a3, ()), (a4, a5, ()), a6, ()) c #[false, false, true, false, false, true, false, false]) := by kernel_rfl
theorem szs16 (a0 a1 : Int) (a2 : Bool) (a3 : List Int) (a4 : Bool) (a5 : List Int) (a6 : List Head) (c : Int) (K : AS → Option Unit) : stepI tt hdlSizes 0 szO 4 (szSt (a0, a1, (a2, a3, ()), (a4, a5, ()), a6, ()) c #[false, false, false, false, false, true, false, false]) K = K (szSt (a0, a1, (a2, a3, ()), (a4, a5, ()), a6, ()) c #[false, false, false, false, true, true, false, false]) := by kernel_rfl
theorem szs17 (a0 a1 : Int) (a2 : Bool) (a3 : List Int) (a4 : Bool) (a5 : List Int) (a6 : List Head) (c : Int) (K : AS → Option Unit) : stepI tt hdlSizes 0 szO 2 (szSt (a0, a1, (a2, a3, ()), (a4, a5, ()), a6, ()) c #[true, true, false, false, false, false, false, false]) K = K (szSt (a0, a1, (a2, a3, ()), (a4, a5, ()), a6, ()) c #[true, true, true, false, false, false, false, false]) := by kernel_rfl
theorem szs18 (a0 a1 : Int) (a2 : Bool) (a3 : List Int) (a4 : Bool) (a5 : List Int) (a6 : List Head) (c : Int) (K : AS → Option Unit) : stepI tt hdlSizes 0 szO 4 (szSt (a0, a1, (a2, a3, ()), (a4, a5, ()), a6, ()) c #[true, true, false, false, false, false, false, false]) K = K (szSt (a0, a1, (a2, a3, ()), (a4, a5, ()), a6, ()) c #[true, true, false, false, true, false, false, false]) := by kernel_rfl
theorem szs19 (a0 a1 : Int) (a2 : Bool) (a3 : List Int) (a4 : Bool) (a5 : List Int) (a6 : List Head) (c : Int) (K : AS → Option Unit) : stepI tt hdlSizes 0 szO 5 (szSt (a0, a1, (a2, a3, ()), (a4, a5, ()), a6, ()) c #[true, true, false, false, false, false, false, false]) K = K (szSt (a0, a1, (a2, a3, ()), (a4, a5, ()), a6, ()) c #[true, true, false, false, false, true, false, false]) := by kernel_rfl
theorem szs20 (a0 a1 : Int) (a2 : Bool) (a3 : List Int) (a4 : Bool) (a5 : List Int) (a6 : List Head) (c : Int) (K : AS → Option Unit) : stepI tt hdlSizes 0 szO 1 (szSt (a0, a1, (a2, a3, ()), (a4, a5, ()), a6, ()) c #[true, false, true, false, false, false, false, false]) K = bif spSmallR (a0, a1, (a2, a3, ()), (a4, a5, ()), a6, ()) then K (szSt (a0, a1, (a2, a3, ()), (a4, a5, ()), a6, ()) c #[true, true, true, false, false, false, false, false]) else none := by kernel_rfl
theorem szs21 (a0 a1 : Int) (a2 : Bool) (a3 : List Int) (a4 : Bool) (a5 : List Int) (a6 : List Head) (c : Int) (K : AS → Option Unit) : stepI tt hdlSizes 0 szO 4 (szSt (a0, a1, (a2, a3, ()), (a4, a5, ()), a6, ()) c #[true, false, true, false, false, false, false, false]) K = K (szSt (a0, a1, (a2, a3, ()), (a4, a5, ()), a6, ()) c #[true, false, true, false, true, false, false, false]) := by kernel_rfl
theorem szs22 (a0 a1 : Int) (a2 : Bool) (a3 : List Int) (a4 : Bool) (a5 : List Int) (a6 : List Head) (c : Int) (K : AS → Option Unit) : stepI tt hdlSizes 0 szO 5 (szSt (a0, a1, (a2, a3, ()), (a4, a5, ()), a6, ()) c #[true, false, true, false, false, false, false, false]) K = K (szSt (a0, a1, (a2, a3, ()), (a4, a5, ()), a6, ()) c #[true, false, true, false, false, true, false, false]) := by kernel_rfl
theorem szs23 (a0 a1 : Int) (a2 : Bool) (a3 : List Int) (a4 : Bool) (a5 : List Int) (a6 : List Head) (c : Int) (K : AS → Option Unit) : stepI tt hdlSizes 0 szO 1 (szSt (a0, a1, (a2, a3, ()), (a4, a5, ()), a6, ()) c #[true, false, false, false, true, false, false, false]) K = bif spSmallR (a0, a1, (a2, a3, ()), (a4, a5, ()), a6, ()) then K (szSt (a0, a1, (a2, a3, ()), (a4, a5, ()), a6, ()) c #[true, true, false, false, true, false, false, false]) else none := by kernel_rfl
theorem szs24 (a0 a1 : Int) (a2 : Bool) (a3 : List Int) (a4 : Bool) (a5 : List Int) (a6 : List Head) (c : Int) (K : AS → Option Unit) : stepI tt hdlSizes 0 szO 2 (szSt (a0, a1, (a2, a3, ()), (a4, a5, ()), a6, ()) c #[true, false, false, false, true, false, false, false]) K = K (szSt (a0, a1, (a2, a3, ()), (a4, a5, ()), a6, ()) c #[true, false, true, false, true, false, false, false]) := by kernel_rfl
theorem szs25 (a0 a1 : Int) (a2 : Bool) (a3 : List Int) (a4 : Bool) (a5 : List Int) (a6 : List Head) (c : Int) (K : AS → Option Unit) : stepI tt hdlSizes 0 szO 5 (szSt (a0, a1, (a2, a3, ()), (a4, a5, ()), a6, ()) c #[true, false, false, false, true, false, false, false]) K = K (szSt (a0, a1, (a2, a3, ()), (a4, a5, ()), a6, ()) c #[true, false, false, false, true, true, false, false]) := by kernel_rfl
theorem szs26 (a0 a1 : Int) (a2 : Bool) (a3 : List Int) (a4 : Bool) (a5 : List Int) (a6 : List Head) (c : Int) (K : AS → Option Unit) : stepI tt hdlSizes 0 szO 1 (szSt (a0, a1, (a2, a3, ()), (a4, a5, ()), a6, ()) c #[true, false, false, false, false, true, false, false]) K = bif spSmallR (a0, a1, (a2, a3, ()), (a4, a5, ()), a6, ()) then K (szSt (a0, a1, (a2, a3, ()), (a4, a5, ()), a6, ()) c #[true, true, false, false, false, true, false, false]) else none := by kernel_rfl
theorem szs27 (a0 a1 : Int) (a2 : Bool) (a3 : List Int) (a4 : Bool) (a5 : List Int) (a6 : List Head) (c : Int) (K : AS → Option Unit) : stepI tt hdlSizes 0 szO 2 (szSt (a0, a1, (a2, a3, ()), (a4, a5, ()), a6, ()) c #[true, false, false, false, false, true, false, false]) K = K (szSt (a0, a1, (a2, a3, ()), (a4, a5, ()), a6, ()) c #[true, false, true, false, false, true, false, false]) := by kernel_rfl
theorem szs28 (a0 a1 : Int) (a2 : Bool) (a3 : List Int) (a4 : Bool) (a5 : List Int) (a6 : List Head) (c : Int) (K : AS → Option Unit) : stepI tt hdlSizes 0 szO 4 (szSt (a0, a1, (a2, a3, ()), (a4, a5, ()), a6, ()) c #[true, false, false, false, false, true, false, false]) K = K (szSt (a0, a1, (a2, a3, ()), (a4, a5, ()), a6, ()) c #[true, false, false, false, true, true, false, false]) := by kernel_rfl
theorem szs29 (a0 a1 : Int) (a2 : Bool) (a3 : List Int) (a4 : Bool) (a5 : List Int) (a6 : List Head) (c : Int) (K : AS → Option Unit) : stepI tt hdlSizes 0 szO 0 (szSt (a0, a1, (a2, a3, ()), (a4, a5, ()), a6, ()) c #[false, false, true, false, true, false, false, false]) K = K (szSt (a0, a1, (a2, a3, ()), (a4, a5, ()), a6, ()) c #[true, false, true, false, true, false, false, false]) := by kernel_rfl
theorem szs30 (a0 a1 : Int) (a2 : Bool) (a3 : List Int) (a4 : Bool) (a5 : List Int) (a6 : List Head) (c : Int) (K : AS → Option Unit) : stepI tt hdlSizes 0 szO 5 (szSt (a0, a1, (a2, a3, ()), (a4, a5, ()), a6, ()) c #[false, false, true, false, true, false, false, false]) K = K (szSt (a0, a1, (a2, a3, ()), (a4, a5, ()), a6, ()) c #[false, false, true, false, true, true, false, false]) := by kernel_rfl
theorem szs31 (a0 a1 : Int) (a2 : Bool) (a3 : List Int) (a4 : Bool) (a5 : List Int) (a6 : List Head) (c : Int) (K : AS → Option Unit) : stepI tt hdlSizes 0 szO 0 (szSt (a0, a1, (a2, a3, ()), (a4, a5, ()), a6, ()) c #[false, false, true, false, false, true, false, false]) K = K (szSt (a0, a1, (a2, a3, ()), (a4, a5, ()), a6, ()) c #[true, false, true, false, false, true, false, false]) := by kernel_rfl
theorem szs32 (a0 a1 : Int) (a2 : Bool) (a3 : List Int) (a4 : Bool) (a5 : List Int) (a6 : List Head) (c : Int) (K : AS → Option Unit) : stepI tt hdlSizes 0 szO 4 (szSt (a0, a1, (a2, a3, ()), (a4, a5, ()), a6, ()) c #[false, false, true, false, false, true, false, false]) K = K (szSt (a0, a1, (a2, a3, ()), (a4, a5, ()), a6, ()) c #[false, false, true, false, true, true, false, false]) := by kernel_rfl
theorem szs33 (a0 a1 : Int) (a2 : Bool) (a3 : List Int) (a4 : Bool) (a5 : List Int) (a6 : List Head) (c : Int) (K : AS → Option Unit) : stepI tt hdlSizes 0 szO 0 (szSt (a0, a1, (a2, a3, ()), (a4, a5, ()), a6, ()) c #[false, false, false, false, true, true, false, false]) K = K (szSt (a0, a1, (a2, a3, ()), (a4, a5, ()), a6, ()) c #[true, false, false, false, true, true, false, false]) := by kernel_rfl
theorem szs34 (a0 a1 : Int) (a2 : Bool) (a3 : List Int) (a4 : Bool) (a5 : List Int) (a6 : List Head) (c : Int) (K : AS → Option Unit) : stepI tt hdlSizes 0 szO 2 (szSt (a0, a1, (a2, a3, ()), (a4, a5, ()), a6, ()) c #[false, false, false, false, true, true, false, false]) K = K (szSt (a0, a1, (a2, a3, ()), (a4, a5, ()), a6, ()) c #[false, false, true, false, true, true, false, false]) := by kernel_rfl
theorem szs35 (a0 a1 : Int) (a2 : Bool) (a3 : List Int) (a4 : Bool) (a5 : List Int) (a6 : List Head) (c : Int) (K : AS → Option Unit) : stepI tt hdlSizes 0 szO 3 (szSt (a0, a1, (a2, a3, ()), (a4, a5, ()), a6, ()) c #[true, true, true, false, false, false, false, false]) K = bif spSmallR (a0, a1, (a2, a3, ()), (a4, a5, ()), a6, ()) then K (szSt (a0, a1, (a2, a3, ()), (a4, a5, ()), a6, ()) c #[true, true, true, true, false, false, false, false]) else none := by kernel_rfl
theorem szs36 (a0 a1 : Int) (a2 : Bool) (a3 : List Int) (a4 : Bool) (a5 : List Int) (a6 : List Head) (c : Int) (K : AS → Option Unit) : stepI tt hdlSizes 0 szO 4 (szSt (a0, a1, (a2, a3, ()), (a4, a5, ()), a6, ()) c #[true, true, true, false, false, false, false, false]) K = K (szSt (a0, a1, (a2, a3, ()), (a4, a5, ()), a6, ()) c #[true, true, true, false, true, false, false, false]) := by kernel_rfl
theorem szs37 (a0 a1 : Int) (a2 : Bool) (a3 : List Int) (a4 : Bool) (a5 : List Int) (a6 : List Head) (c : Int) (K : AS → Option Unit) : stepI tt hdlSizes 0 szO 5 (szSt (a0, a1, (a2, a3, ()), (a4, a5, ()), a6, ()) c #[true, true, true, false, false, false, false, false]) K = K (szSt (a0, a1, (a2, a3, ()), (a4, a5, ()), a6, ()) c #[true, true, true, false, false, true, false, false]) := by kernel_rfl
theorem szs38 (a0 a1 : Int) (a2 : Bool) (a3 : List Int) (a4 : Bool) (a5 : List Int) (a6 : List Head) (c : Int) (K : AS → Option Unit) : stepI tt hdlSizes 0 szO 2 (szSt (a0, a1, (a2, a3, ()), (a4, a5, ()), a6, ()) c #[true, true, false, false, true, false, false, false]) K = K (szSt (a0, a1, (a2, a3, ()), (a4, a5, ()), a6, ()) c #[true, true, true, false, true, false, false, false]) := by kernel_rfl
theorem szs39 (a0 a1 : Int) (a2 : Bool) (a3 : List Int) (a4 : Bool) (a5 : List Int) (a6 : List Head) (c : Int) (K : AS → Option Unit) : stepI tt hdlSizes 0 szO 5 (szSt (a0, a1, (a2, a3, ()), (a4, a5, ()), a6, ()) c #[true, true, false, false, true, false, false, false]) K = K (szSt (a0, a1, (a2, a3, ()), (a4, a5, ()), a6, ()) c #[true, true, false, false, true, true, false, false]) := by kernel_rfl
theorem szs40 (a0 a1 : Int) (a2 : Bool) (a3 : List Int) (a4 : Bool) (a5 : List Int) (a6 : List Head) (c : Int) (K : AS → Option Unit) : stepI tt hdlSizes 0 szO 2 (szSt (a0, a1, (a2, a3, ()), (a4, a5, ()), a6, ()) c #[true, true, false, false, false, true, false, false]) K = K (szSt (a0, a1, (a2, a3, ()), (a4, a5, ()), a6, ()) c #[true, true, true, false, false, true, false, false]) := by kernel_rfl
theorem szs41 (a0 a1 : Int) (a2 : Bool) (a3 : List Int) (a4 : Bool) (a5 : List Int) (a6 : List Head) (c : Int) (K : AS → Option Unit) : stepI tt hdlSizes 0 szO 4 (szSt (a0, a1, (a2, a3, ()), (a4, a5, ()), a6, ()) c #[true, true, false, false, false, true, false, false]) K = K (szSt (a0, a1, (a2, a3, ()), (a4, a5, ()), a6, ()) c #[true, true, false, false, true, true, false, false]) := by kernel_rfl
theorem szs42 (a0 a1 : Int) (a2 : Bool) (a3 : List Int) (a4 : Bool) (a5 : List Int) (a6 : List Head) (c : Int) (K : AS → Option Unit) : stepI tt hdlSizes 0 szO 1 (szSt (a0, a1, (a2, a3, ()), (a4, a5, ()), a6, ()) c #[true, false, true, false, true, false, false, false]) K = bif spSmallR (a0, a1, (a2, a3, ()), (a4, a5, ()), a6, ()) then K (szSt (a0, a1, (a2, a3, ()), (a4, a5, ()), a6, ()) c #[true, true, true, false, true, false, false, false]) else none := by kernel_rfl
theorem szs43 (a0 a1 : Int) (a2 : Bool) (a3 : List Int) (a4 : Bool) (a5 : List Int) (a6 : List Head) (c : Int) (K : AS → Option Unit) : stepI tt hdlSizes 0 szO 5 (szSt (a0, a1, (a2, a3, ()), (a4, a5, ()), a6, ()) c #[true, false, true, false, true, false, false, false]) K = K (szSt (a0, a1, (a2, a3, ()), (a4, a5, ()), a6, ()) c #[true, false, true, false, true, true, false, false]) := by kernel_rfl
theorem szs44 (a0 a1 : Int) (a2 : Bool) (a3 : List Int) (a4 : Bool) (a5 : List Int) (a6 : List Head) (c : Int) (K : AS → Option Unit) : stepI tt hdlSizes 0 szO 1 (szSt (a0, a1, (a2, a3, ()), (a4, a5, ()), a6, ()) c #[true, false, true, false, false, true, false, false]) K = bif spSmallR (a0, a1, (a2, a3, ()), (a4, a5, ()), a6, ()) then K (szSt (a0, a1, (a2, a3, ()), (a4, a5, ()), a6, ()) c #[true, true, true, false, false, true, false, false]) else none := by kernel_rfl
theorem szs45 (a0 a1 : Int) (a2 : Bool) (a3 : List Int) (a4 : Bool) (a5 : List Int) (a6 : List Head) (c : Int) (K : AS → Option Unit) : stepI tt hdlSizes 0 szO 4 (szSt (a0, a1, (a2, a3, ()), (a4, a5, ()), a6, ()) c #[true, false, true, false, false, true, false, false]) K = K (szSt (a0, a1, (a2, a3, ()), (a4, a5, ()), a6, ()) c #[true, false, true, false, true, true, false, false]) := by kernel_rfl
theorem szs46 (a0 a1 : Int) (a2 : Bool) (a3 : List Int) (a4 : Bool) (a5 : List Int) (a6 : List Head) (c : Int) (K : AS → Option Unit) : stepI tt hdlSizes 0 szO 1 (szSt (a0, a1, (a2, a3, ()), (a4, a5, ()), a6, ()) c #[true, false, false, false, true, true, false, false]) K = bif spSmallR (a0, a1, (a2, a3, ()), (a4, a5, ()), a6, ()) then K (szSt (a0, a1, (a2, a3, ()), (a4, a5, ()), a6, ()) c #[true, true, false, false, true, true, false, false]) else none := by kernel_rfl
theorem szs47 (a0 a1 : Int) (a2 : Bool) (a3 : List Int) (a4 : Bool) (a5 : List Int) (a6 : List Head) (c : Int) (K : AS → Option Unit) : stepI tt hdlSizes 0 szO 2 (szSt (a0, a1, (a2, a3, ()), (a4, a5, ()), a6, ()) c #[true, false, false, false, true, true, false, false]) K = K (szSt (a0, a1, (a2, a3, ()), (a4, a5, ()), a6, ()) c #[true, false, true, false, true, true, false, false]) := by kernel_rfl
theorem szs48 (a0 a1 : Int) (a2 : Bool) (a3 : List Int) (a4 : Bool) (a5 : List Int) (a6 : List Head) (c : Int) (K : AS → Option Unit) : stepI tt hdlSizes 0 szO 0 (szSt (a0, a1, (a2, a3, ()), (a4, a5, ()), a6, ()) c #[false, false, true, false, true, true, false, false]) K = K (szSt (a0, a1, (a2, a3, ()), (a4, a5, ()), a6, ()) c #[true, false, true, false, true, true, false, false]) := by kernel_rfl
theorem szs49 (a0 a1 : Int) (a2 : Bool) (a3 : List Int) (a4 : Bool) (a5 : List Int) (a6 : List Head) (c : Int) (K : AS → Option Unit) : stepI tt hdlSizes 0 szO 4 (szSt (a0, a1, (a2, a3, ()), (a4, a5, ()), a6, ()) c #[true, true, true, true, false, false, false, false]) K = K (szSt (a0, a1, (a2, a3, ()), (a4, a5, ()), a6, ()) c #[true, true, true, true, true, false, false, false]) := by kernel_rfl
theorem szs50 (a0 a1 : Int) (a2 : Bool) (a3 : List Int) (a4 : Bool) (a5 : List Int) (a6 : List Head) (c : Int) (K : AS → Option Unit) : stepI tt hdlSizes 0 szO 5 (szSt (a0, a1, (a2, a3, ()), (a4, a5, ()), a6, ()) c #[true, true, true, true, false, false, false, false]) K = K (szSt (a0, a1, (a2, a3, ()), (a4, a5, ()), a6, ()) c #[true, true, true, true, false, true, false, false]) := by kernel_rfl
theorem szs51 (a0 a1 : Int) (a2 : Bool) (a3 : List Int) (a4 : Bool) (a5 : List Int) (a6 : List Head) (c : Int) (K : AS → Option Unit) : stepI tt hdlSizes 0 szO 3 (szSt (a0, a1, (a2, a3, ()), (a4, a5, ()), a6, ()) c #[true, true, true, false, true, false, false, false]) K = bif spSmallR (a0, a1, (a2, a3, ()), (a4, a5, ()), a6, ()) then K (szSt (a0, a1, (a2, a3, ()), (a4, a5, ()), a6, ()) c #[true, true, true, true, true, false, false, false]) else none := by kernel_rfl
theorem szs52 (a0 a1 : Int) (a2 : Bool) (a3 : List Int) (a4 : Bool) (a5 : List Int) (a6 : List Head) (c : Int) (K : AS → Option Unit) : stepI tt hdlSizes 0 szO 5 (szSt (a0, a1, (a2, a3, ()), (a4, a5, ()), a6, ()) c #[true, true, true, false, true, false, false, false]) K = K (szSt (a0, a1, (a2, a3, ()), (a4, a5, ()), a6, ()) c #[true, true, true, false, true, true, false, false]) := by kernel_rfl
theorem szs53 (a0 a1 : Int) (a2 : Bool) (a3 : List Int) (a4 : Bool) (a5 : List Int) (a6 : List Head) (c : Int) (K : AS → Option Unit) : stepI tt hdlSizes 0 szO 3 (szSt (a0, a1, (a2, a3, ()), (a4, a5, ()), a6, ()) c #[true, true, true, false, false, true, false, false]) K = bif spSmallR (a0, a1, (a2, a3, ()), (a4, a5, ()), a6, ()) then K (szSt (a0, a1, (a2, a3, ()), (a4, a5, ()), a6, ()) c #[true, true, true, true, false, true, false, false]) else none := by kernel_rfl
theorem szs54 (a0 a1 : Int) (a2 : Bool) (a3 : List Int) (a4 : Bool) (a5 : List Int) (a6 : List Head) (c : Int) (K : AS → Option Unit) : stepI tt hdlSizes 0 szO 4 (szSt (a0, a1, (a2, a3, ()), (a4, a5, ()), a6, ()) c #[true, true, true, false, false, true, false, false]) K = K (szSt (a0, a1, (a2, a3, ()), (a4, a5, ()), a6, ()) c #[true, true, true, false, true, true, false, false]) := by kernel_rfl
theorem szs55 (a0 a1 : Int) (a2 : Bool) (a3 : List Int) (a4 : Bool) (a5 : List Int) (a6 : List Head) (c : Int) (K : AS → Option Unit) : stepI tt hdlSizes 0 szO 2 (szSt (a0, a1, (a2, a3, ()), (a4, a5, ()), a6, ()) c #[true, true, false, false, true, true, false, false]) K = K (szSt (a0, a1, (a2, a3, ()), (a4, a5, ()), a6, ()) c #[true, true, true, false, true, true, false, false]) := by kernel_rfl
theorem szs56 (a0 a1 : Int) (a2 : Bool) (a3 : List Int) (a4 : Bool) (a5 : List Int) (a6 : List Head) (c : Int) (K : AS → Option Unit) : stepI tt hdlSizes 0 szO 1 (szSt (a0, a1, (a2, a3, ()), (a4, a5, ()), a6, ()) c #[true, false, true, false, true, true, false, false]) K = bif spSmallR (a0, a1, (a2, a3, ()), (a4, a5, ()), a6, ()) then K (szSt (a0, a1, (a2, a3, ()), (a4, a5, ()), a6, ()) c #[true, true, true, false, true, true, false, false]) else none := by kernel_rfl
theorem szs57 (a0 a1 : Int) (a2 : Bool) (a3 : List Int) (a4 : Bool) (a5 : List Int) (a6 : List Head) (c : Int) (K : AS → Option Unit) : stepI tt hdlSizes 0 szO 5 (szSt (a0, a1, (a2, a3, ()), (a4, a5, ()), a6, ()) c #[true, true, true, true, true, false, false, false]) K = K (szSt (a0, a1, (a2, a3, ()), (a4, a5, ()), a6, ()) c #[true, true, true, true, true, true, false, false]) := by kernel_rfl
theorem szs58 (a0 a1 : Int) (a2 : Bool) (a3 : List Int) (a4 : Bool) (a5 : List Int) (a6 : List Head) (c : Int) (K : AS → Option Unit) : stepI tt hdlSizes 0 szO 4 (szSt (a0, a1, (a2, a3, ()), (a4, a5, ()), a6, ()) c #[true, true, true, true, false, true, false, false]) K = K (szSt (a0, a1, (a2, a3, ()), (a4, a5, ()), a6, ()) c #[true, true, true, true, true, true, false, false]) := by kernel_rfl
theorem szs59 (a0 a1 : Int) (a2 : Bool) (a3 : List Int) (a4 : Bool) (a5 : List Int) (a6 : List Head) (c : Int) (K : AS → Option Unit) : stepI tt hdlSizes 0 szO 3 (szSt (a0, a1, (a2, a3, ()), (a4, a5, ()), a6, ()) c #[true, true, true, false, true, true, false, false]) K = bif spSmallR (a0, a1, (a2, a3, ()), (a4, a5, ()), a6, ()) then K (szSt (a0, a1, (a2, a3, ()), (a4, a5, ()), a6, ()) c #[true, true, true, true, true, true, false, false]) else none := by kernel_rfl
theorem szs60 (a0 a1 : Int) (a2 : Bool) (a3 : List Int) (a4 : Bool) (a5 : List Int) (a6 : List Head) (c : Int) (K : AS → Option Unit) : stepI tt hdlSizes 0 szO 6 (szSt (a0, a1, (a2, a3, ()), (a4, a5, ()), a6, ()) c #[true, true, true, true, true, true, false, false]) K = K (szSt (a0, a1, (a2, a3, ()), (a4, a5, ()), a6, ()) c #[true, true, true, true, true, true, true, false]) := by kernel_rfl
theorem szs61 (a0 a1 : Int) (a2 : Bool) (a3 : List Int) (a4 : Bool) (a5 : List Int) (a6 : List Head) (c : Int) (K : AS → Option Unit) : stepI tt hdlSizes 0 szO 7 (szSt (a0, a1, (a2, a3, ()), (a4, a5, ()), a6, ()) c #[true, true, true, true, true, true, true, false]) K = K (szSt (a0, a1, (a2, a3, ()), (a4, a5, ()), a6, ()) c #[true, true, true, true, true, true, true, true]) := by kernel_rfl
theorem szPairs : pairsI szO = [(#[false, false, false, false, false, false, false, false], 0), (#[false, false, false, false, false, false, false, false], 2), (#[false, false, false, false, false, false, false, false], 4), (#[false, false, false, false, false, false, false, false], 5), (#[true, false, false, false, false, false, false, false], 1), (#[true, false, false, false, false, false, false, false], 2), (#[true, false, false, false, false, false, false, false], 4), (#[true, false, false, false, false, false, false, false], 5), (#[false, false, true, false, false, false, false, false], 0), (#[false, false, true, false, false, false, false, false], 4), (#[false, false, true, false, false, false, false, false], 5), (#[false, false, false, false, true, false, false, false], 0), (#[false, false, false, false, true, false, false, false], 2), (#[false, false, false, false, true, false, false, false], 5), (#[false, false, false, false, false, true, false, false], 0), (#[false, false, false, false, false, true, false, false], 2), (#[false, false, false, false, false, true, false, false], 4), (#[true, true, false, false, false, false, false, false], 2), (#[true, true, false, false, false, false, false, false], 4), (#[true, true, false, false, false, false, false, false], 5), (#[true, false, true, false, false, false, false, false], 1), (#[true, false, true, false, false, false, false, false], 4), (#[true, false, true, false, false, false, false, false], 5), (#[true, false, false, false, true, false, false, false], 1), (#[true, false, false, false, true, false, false, false], 2), (#[true, false, false, false, true, false, false, false], 5), (#[true, false, false, false, false, true, false, false], 1), (#[true, false, false, false, false, true, false, false], 2), (#[true, false, false, false, false, true, false, false], 4), (#[false, false, true, false, true, false, false, false], 0), (#[false, false, true, false, true, false, false, false], 5), (#[false, false, true, false, false, true, false, false], 0), (#[false, false, true, false, false, true, false, false], 4), (#[false, false, false, false, true, true, false, false], 0), (#[false, false, false, false, true, true, false, false], 2), (#[true, true, true, false, false, false, false, false], 3), (#[true, true, true, false, false, false, false, false], 4), (#[true, true, true, false, false, false, false, false], 5), (#[true, true, false, false, true, false, false, false], 2), (#[true, true, false, false, true, false, false, false], 5), (#[true, true, false, false, false, true, false, false], 2), (#[true, true, false, false, false, true, false, false], 4), (#[true, false, true, false, true, false, false, false], 1), (#[true, false, true, false, true, false, false, false], 5), (#[true, false, true, false, false, true, false, false], 1), (#[true, false, true, false, false, true, false, false], 4), (#[true, false, false, false, true, true, false, false], 1), (#[true, false, false, false, true, true, false, false], 2), (#[false, false, true, false, true, true, false, false], 0), (#[true, true, true, true, false, false, false, false], 4), (#[true, true, true, true, false, false, false, false], 5), (#[true, true, true, false, true, false, false, false], 3), (#[true, true, true, false, true, false, false, false], 5), (#[true, true, true, false, false, true, false, false], 3), (#[true, true, true, false, false, true, false, false], 4), (#[true, true, false, false, true, true, false, false], 2), (#[true, false, true, false, true, true, false, false], 1), (#[true, true, true, true, true, false, false, false], 5), (#[true, true, true, true, false, true, false, false], 4), (#[true, true, true, false, true, true, false, false], 3), (#[true, true, true, true, true, true, false, false], 6), (#[true, true, true, true, true, true, true, false], 7)] := by kernel_rfl
theorem szOk : okI szO szO.size 0 = true := by kernel_rfl
theorem szEnd : levI szO szO.size = [#[true, true, true, true, true, true, true, true]] := by kernel_rfl
theorem szSteps (a0 a1 : Int) (a2 : Bool) (a3 : List Int) (a4 : Bool) (a5 : List Int) (a6 : List Head) (c : Int) (h : spSmallR (a0, a1, (a2, a3, ()), (a4, a5, ()), a6, ()) = true) :
    AllP (fun p => ∀ K, stepI tt hdlSizes 0 szO p.2 (szSt (a0, a1, (a2, a3, ()), (a4, a5, ()), a6, ()) c p.1) K = K (szSt (a0, a1, (a2, a3, ()), (a4, a5, ()), a6, ()) c (p.1.setIfInBounds p.2 true))) (pairsI szO) := by
  rw [szPairs]
  exact ⟨szs0 a0 a1 a2 a3 a4 a5 a6 c, szs1 a0 a1 a2 a3 a4 a5 a6 c, szs2 a0 a1 a2 a3 a4 a5 a6 c, szs3 a0 a1 a2 a3 a4 a5 a6 c, fun K => (szs4 a0 a1 a2 a3 a4 a5 a6 c K).trans (bif_true h _ _), szs5 a0 a1 a2 a3 a4 a5 a6 c, szs6 a0 a1 a2 a3 a4 a5 a6 c, szs7 a0 a1 a2 a3 a4 a5 a6 c, szs8 a0 a1 a2 a3 a4 a5 a6 c, szs9 a0 a1 a2 a3 a4 a5 a6 c, szs10 a0 a1 a2 a3 a4 a5 a6 c, szs11 a0 a1 a2 a3 a4 a5 a6 c, szs12 a0 a1 a2 a3 a4 a5 a6 c, szs13 a0 a1 a2 a3 a4 a5 a6 c, szs14 a0 a1 a2 a3 a4 a5 a6 c, szs15 a0 a1 a2 a3 a4 a5 a6 c, szs16 a0 a1 a2 a3 a4 a5 a6 c, szs17 a0 a1 a2 a3 a4 a5 a6 c, szs18 a0 a1 a2 a3 a4 a5 a6 c, szs19 a0 a1 a2 a3 a4 a5 a6 c, fun K => (szs20 a0 a1 a2 a3 a4 a5 a6 c K).trans (bif_true h _ _), szs21 a0 a1 a2 a3 a4 a5 a6 c, szs22 a0 a1 a2 a3 a4 a5 a6 c, fun K => (szs23 a0 a1 a2 a3 a4 a5 a6 c K).trans (bif_true h _ _), szs24 a0 a1 a2 a3 a4 a5 a6 c, szs25 a0 a1 a2 a3 a4 a5 a6 c, fun K => (szs26 a0 a1 a2 a3 a4 a5 a6 c K).trans (bif_true h _ _), szs27 a0 a1 a2 a3 a4 a5 a6 c, szs28 a0 a1 a2 a3 a4 a5 a6 c, szs29 a0 a1 a2 a3 a4 a5 a6 c, szs30 a0 a1 a2 a3 a4 a5 a6 c, szs31 a0 a1 a2 a3 a4 a5 a6 c, szs32 a0 a1 a2 a3 a4 a5 a6 c, szs33 a0 a1 a2 a3 a4 a5 a6 c, szs34 a0 a1 a2 a3 a4 a5 a6 c, fun K => (szs35 a0 a1 a2 a3 a4 a5 a6 c K).trans (bif_true h _ _), szs36 a0 a1 a2 a3 a4 a5 a6 c, szs37 a0 a1 a2 a3 a4 a5 a6 c, szs38 a0 a1 a2 a3 a4 a5 a6 c, szs39 a0 a1 a2 a3 a4 a5 a6 c, szs40 a0 a1 a2 a3 a4 a5 a6 c, szs41 a0 a1 a2 a3 a4 a5 a6 c, fun K => (szs42 a0 a1 a2 a3 a4 a5 a6 c K).trans (bif_true h _ _), szs43 a0 a1 a2 a3 a4 a5 a6 c, fun K => (szs44 a0 a1 a2 a3 a4 a5 a6 c K).trans (bif_true h _ _), szs45 a0 a1 a2 a3 a4 a5 a6 c, fun K => (szs46 a0 a1 a2 a3 a4 a5 a6 c K).trans (bif_true h _ _), szs47 a0 a1 a2 a3 a4 a5 a6 c, szs48 a0 a1 a2 a3 a4 a5 a6 c, szs49 a0 a1 a2 a3 a4 a5 a6 c, szs50 a0 a1 a2 a3 a4 a5 a6 c, fun K => (szs51 a0 a1 a2 a3 a4 a5 a6 c K).trans (bif_true h _ _), szs52 a0 a1 a2 a3 a4 a5 a6 c, fun K => (szs53 a0 a1 a2 a3 a4 a5 a6 c K).trans (bif_true h _ _), szs54 a0 a1 a2 a3 a4 a5 a6 c, szs55 a0 a1 a2 a3 a4 a5 a6 c, fun K => (szs56 a0 a1 a2 a3 a4 a5 a6 c K).trans (bif_true h _ _), szs57 a0 a1 a2 a3 a4 a5 a6 c, szs58 a0 a1 a2 a3 a4 a5 a6 c, fun K => (szs59 a0 a1 a2 a3 a4 a5 a6 c K).trans (bif_true h _ _), szs60 a0 a1 a2 a3 a4 a5 a6 c, szs61 a0 a1 a2 a3 a4 a5 a6 c, trivial⟩

/-! ### sizes -/
theorem digLen {u : Int} (h0 : 0 ≤ u) (h : u < 2097152) : ((spDig u).length : Int) = if u < 128 then 1 else if u < 16384 then 2 else 3 := by
  have e : ∀ (n : Nat) (u : Int), spHi (n + 1) u ++ [spLo (n + 1) u] = if 127 < u then (u % 128 + 128) :: (spHi n (u / 128) ++ [spLo n (u / 128)]) else [u] := by
    intro n u
    rw [spHi, spLo]
    split <;> rfl
  have e0 : spDig u = spHi 10 u ++ [spLo 10 u] := rfl
  rw [e0, e]
  by_cases h1 : 127 < u
  · rw [if_pos h1, if_neg (show ¬ u < 128 by omega), e]
    by_cases h2 : 127 < u / 128
    · rw [if_pos h2, if_neg (show ¬ u < 16384 by omega), e, if_neg (show ¬ 127 < u / 128 / 128 by omega)]
      rfl
    · rw [if_neg h2, if_pos (show u < 16384 by omega)]
      rfl
  · rw [if_neg h1, if_pos (show u < 128 by omega)]
    rfl
theorem zigNat (n : Nat) : spZig (n : Int) = 2 * (n : Int) := by
  unfold spZig
  split <;> omega

theorem szRest_true (a0 a1 : Int) (a2 : Bool) (a3 : List Int) (a4 : Bool) (a5 : List Int) (a6 : List Head) (c : Int) (hs : spSmallR (a0, a1, (a2, a3, ()), (a4, a5, ()), a6, ()) = true) (hr : spRoom (a0, a1, (a2, a3, ()), (a4, a5, ()), a6, ()) = true)
    (hc : spCheck (a0, a1, (a2, a3, ()), (a4, a5, ()), a6, ()) = 0) : szRest a0 a1 a2 a3 a4 a5 a6 c = some (Out.ret ((true, ()), ())) := by
  have hB : ∀ v : Blob, (spBody (a0, a1, (a2, a3, ()), v, a6, ())).length = 1 + (spDig (spZig a0)).length + (spDig (spZig a1)).length + (spBlob (a2, a3, ())).length + (spBlob v).length + (spDig (spZig a6.length)).length + (spWHeads a6).length := by
    intro v
    simp only [spBody, List.length_cons, List.length_append]
    omega
  have hn : (spBlob (true, [], ())).length = 1 := by unfold spBlob; rw [if_pos rfl]; rfl
  have he : (spBlob (false, [], ())).length = 1 := by unfold spBlob; rw [if_neg (by simp)]; rfl
  have ho : (spBlob (false, [c], ())).length = 2 := by unfold spBlob; rw [if_neg (by simp)]; rfl
  have h1 : 1 ≤ (spBlob (a4, a5, ())).length := by
    unfold spBlob
    have : ∀ u, 1 ≤ (spDig u).length := fun u => by simp [spDig]
    split
    · exact this _
    · rw [List.length_append]; have := this (spZig (List.length (a4, a5, ()).2.1)); omega
  have hsh : spShape (a0, a1, (a2, a3, ()), (a4, a5, ()), a6, ()) = 0 ∧ ¬ (16384 < ((spBody (a0, a1, (a2, a3, ()), (a4, a5, ()), a6, ())).length : Int)) := by
    unfold spCheck at hc
    split at hc
    · rename_i h; exact absurd hc h
    · rename_i h
      split at hc
      · cases hc
      · rename_i h'; exact ⟨Classical.byContradiction h, h'⟩
  have hS : ∀ v : Blob, spBad v = false → spShape (a0, a1, (a2, a3, ()), v, a6, ()) = 0 := by
    intro v hv
    have := hsh.1
    unfold spShape at this ⊢
    simp only at this ⊢
    split at this
    · cases this
    · rename_i g1
      split at this
      · cases this
      · rename_i g2
        rw [if_neg g1, if_neg (by rw [hv]; simp only [Bool.false_eq_true, or_false]; exact fun h => g2 (.inl h))]
        exact this
  have hl := hsh.2
  rw [hB] at hl
  have hl' : 1 + (spDig (spZig a0)).length + (spDig (spZig a1)).length + (spBlob (a2, a3, ())).length + (spBlob (a4, a5, ())).length + (spDig (spZig a6.length)).length + (spWHeads a6).length ≤ 16384 := by omega
  have hC : ∀ v : Blob, spBad v = false → (spBlob v).length ≤ 1 → spCheck (a0, a1, (a2, a3, ()), v, a6, ()) = 0 ∧ spRoom (a0, a1, (a2, a3, ()), v, a6, ()) = true := by
    intro v hv hlen
    have := hB v
    refine ⟨?_, decide_eq_true (by omega)⟩
    unfold spCheck
    rw [hS v hv, if_neg (by simp), if_neg (by omega)]
  obtain ⟨n1, n2⟩ := hC (true, [], ()) rfl (by omega)
  obtain ⟨e1, e2⟩ := hC (false, [], ()) rfl (by omega)
  have o2 : spRoom (a0, a1, (a2, a3, ()), (false, [c], ()), a6, ()) = true := decide_eq_true (by have := hB (false, [c], ()); omega)
  have o3 : spShape (a0, a1, (a2, a3, ()), (false, [c], ()), a6, ()) = 0 := hS _ rfl
  have pn : spPutR (a0, a1, (a2, a3, ()), (true, [], ()), a6, ()) = (spDig (spZig (spBody (a0, a1, (a2, a3, ()), (true, [], ()), a6, ())).length) ++ spBody (a0, a1, (a2, a3, ()), (true, [], ()), a6, ()), 0) := by unfold spPutR; rw [if_pos n1]
  have pe : spPutR (a0, a1, (a2, a3, ()), (false, [], ()), a6, ()) = (spDig (spZig (spBody (a0, a1, (a2, a3, ()), (false, [], ()), a6, ())).length) ++ spBody (a0, a1, (a2, a3, ()), (false, [], ()), a6, ()), 0) := by unfold spPutR; rw [if_pos e1]
  have bn := hB (true, [], ())
  have be := hB (false, [], ())
  have bo := hB (false, [c], ())
  rw [hn] at bn
  rw [he] at be
  rw [ho] at bo
  have bne : (spBody (a0, a1, (a2, a3, ()), (true, [], ()), a6, ())).length = (spBody (a0, a1, (a2, a3, ()), (false, [], ()), a6, ())).length := by omega
  have boe : (spBody (a0, a1, (a2, a3, ()), (false, [c], ()), a6, ())).length = (spBody (a0, a1, (a2, a3, ()), (true, [], ()), a6, ())).length + 1 := by omega
  have bl : (spBody (a0, a1, (a2, a3, ()), (true, [], ()), a6, ())).length ≤ 16384 := by omega
  unfold szRest
  rw [bif_true n2, bif_true e2, pn, pe, bif_false (by rfl), bif_false (by rfl)]
  simp only [List.length_append]
  rw [bne, bif_false (by simp), bif_true hs, bif_true o2, ← bne]
  by_cases hk : spCheck (a0, a1, (a2, a3, ()), (false, [c], ()), a6, ()) = 0
  · have po : spPutR (a0, a1, (a2, a3, ()), (false, [c], ()), a6, ()) = (spDig (spZig (spBody (a0, a1, (a2, a3, ()), (false, [c], ()), a6, ())).length) ++ spBody (a0, a1, (a2, a3, ()), (false, [c], ()), a6, ()), 0) := by unfold spPutR; rw [if_pos hk]
    rw [po, bif_false (by rfl)]
    simp only [List.length_append]
    rw [boe]
    generalize (spBody (a0, a1, (a2, a3, ()), (true, [], ()), a6, ())).length = N at bl ⊢
    have d1 := digLen (u := spZig N) (by rw [zigNat]; omega) (by rw [zigNat]; omega)
    have d2 := digLen (u := spZig (N + 1 : Nat)) (by rw [zigNat]; omega) (by rw [zigNat]; omega)
    rw [zigNat] at d1 d2
    rw [zigNat, zigNat]
    generalize (spDig (2 * (N : Int))).length = D at d1 ⊢
    generalize (spDig (2 * ((N + 1 : Nat) : Int))).length = E at d2 ⊢
    have hDE : (E : Int) = D ∨ (E : Int) = D + 1 := by
      split at d1 <;> split at d2 <;> (try split at d1) <;> (try split at d2) <;> omega
    have hD : (D : Int) ≤ 3 := by
      split at d1 <;> (try split at d1) <;> omega
    rw [wrap_i64 (by omega) (by omega), wrap_i64 (by omega) (by omega)]
    rcases hDE with h | h
    · rw [bif_true (by simp only [beq_iff_eq]; omega)]
    · rw [bif_false (by simp only [beq_eq_false_iff_ne]; omega)]
      have : ((((E + (N + 1) : Nat) : Int)) == ((D + N : Nat) : Int) + 2) = true := by simp only [beq_iff_eq]; omega
      rw [this]
  · have h4 : spCheck (a0, a1, (a2, a3, ()), (false, [c], ()), a6, ()) = 4 := by
      unfold spCheck at hk ⊢
      rw [o3, if_neg (by simp)] at hk ⊢
      split at hk
      · rename_i h; rw [if_pos h]
      · exact absurd rfl hk
    have po : spPutR (a0, a1, (a2, a3, ()), (false, [c], ()), a6, ()) = ([], 4) := by unfold spPutR; rw [if_neg hk, h4]
    rw [po]
    rfl

theorem oklSizes : HcOk prog 7 (ioHd iolSizes FlSizes) := by
  have htt := ttOf_ok Go.Proofs.Try.prog 400
  have hcs : HcsOk prog cslSizes := .cons oklalive (.cons okrCheck (.cons okrTwin (.cons okkSize .nil)))
  refine io_soundG (P := prog) htt (fn := szF) (by kernel_rfl) (by kernel_rfl) iolSizes FlSizes ?_ (by kernel_rfl)
  rintro ⟨⟨⟨(a0 : Int), (a1 : Int), ⟨(a2 : Bool), (a3 : List Int), ⟨⟩⟩, ⟨(a4 : Bool), (a5 : List Int), ⟨⟩⟩, (a6 : List Head), ⟨⟩⟩, (c : Int), ⟨⟩⟩, ⟨⟩⟩ out hwf hout F G cst w vals R Rl hkb hend
  obtain ⟨hg, hout⟩ := Tr.guard hout
  have hg : (spSmallR (a0, a1, (a2, a3, ()), (a4, a5, ()), a6, ()) && spRoom (a0, a1, (a2, a3, ()), (a4, a5, ()), a6, ())) = true := hg
  simp only [Bool.and_eq_true] at hg
  obtain ⟨hg1, hg2⟩ := hg
  cases hout
  have hc : szF.body = some (.seq (seqL szC) (.seq (seqL (seqR szC)) (.seq (seqL (seqR (seqR szC))) (.seq (.region 5 szO true) (seqR (seqR (seqR (seqR szC)))))))) := by kernel_rfl
  have hdr : DrawOk prog tt dr := orderD_ok htt
  have hkb : ∀ d, F.mu0 (0 + d) = none := hkb
  have hhd : HdOk prog hdlSizes := hdT_ok hcs
  refine calls_of_wp (P := prog) (fn := szF) (by kernel_rfl) hc ?_
  by_cases h0 : spCheck (a0, a1, (a2, a3, ()), (a4, a5, ()), a6, ()) = 0
  rotate_left
  · have e : (.seq (seqL szC) (.seq (seqL (seqR szC)) (.seq (seqL (seqR (seqR szC))) (.seq (.region 5 szO true) (seqR (seqR (seqR (seqR szC))))))) : Code) = szC := by kernel_rfl
    rw [e]
    have hrun := (szE a0 a1 a2 a3 a4 a5 a6 c).trans ((bif_true hg2 _ _).trans (bif_true (by simpa using h0) _ _))
    refine ev_sound htt hm hhd hdr hkb (lp := lplSizes) (l := szLr) (x := []) szC (noLoops (by kernel_rfl)) (lr := szLr) hrun Rl ?_
    intro ex A' G' a' w' R' hdf hk
    have := hend ex A' G' a' w' R' hk
    cases ex with
    | normal => exact ⟨hdf, this⟩
    | ret => exact ⟨hdf, this⟩
    | exit i => exact this.elim
    | panic v => exact fun u hu => ⟨hdf, this u hu⟩
  have h0' := (sz0 a0 a1 a2 a3 a4 a5 a6 c fun A => open Classical in if A = szSt (a0, a1, (a2, a3, ()), (a4, a5, ()), a6, ()) c #[false, false, false, false, false, false, false, false] then some () else none).trans ((bif_true hg2 _ _).trans (bif_false (by simp [h0]) _ _))
  rw [if_pos rfl] at h0'
  refine wp_seq (ev_sound htt hm hhd hdr hkb (lp := lplSizes) _ (noLoops (by kernel_rfl)) h0' Rl ?_)
  intro ex A1 G1 a1' w1 R1 hd1 h1
  cases ex with
  | exit i => cases h1
  | ret => cases h1
  | panic v => cases h1
  | normal =>
  refine wp_seq (ev_sound htt hm hhd hdr hkb (lp := lplSizes) _ (noLoops (by kernel_rfl)) h1 R1 ?_)
  intro ex A2 G2 a2' w2 R2 hd2 h2
  cases ex with
  | exit i => cases h2
  | ret => cases h2
  | panic v => cases h2
  | normal =>
  refine wp_seq (ev_sound htt hm hhd hdr hkb (lp := lplSizes) _ (noLoops (by kernel_rfl)) h2 R2 ?_)
  intro ex A3 G3 a3' w3 R3 hd3 h3
  cases ex with
  | exit i => cases h3
  | ret => cases h3
  | panic v => cases h3
  | normal =>
  simp only [szK] at h3
  split at h3
  · rename_i e
    subst e
    refine wp_seq (region_ideals htt hm hhd hkb (szSt (a0, a1, (a2, a3, ()), (a4, a5, ()), a6, ()) c) szOk (szSteps a0 a1 a2 a3 a4 a5 a6 c hg1) R3 ?_)
    intro L hL G4 a4' w4 R4 hd4
    rw [szEnd, List.mem_singleton] at hL
    subst hL
    refine ev_sound htt hm hhd hdr hkb (lp := lplSizes) (l := szLr) (x := []) _ (noLoops (by kernel_rfl)) ((sz2 a0 a1 a2 a3 a4 a5 a6 c).trans (szRest_true a0 a1 a2 a3 a4 a5 a6 c hg1 hg2 h0)) R4 ?_
    intro ex A' G' a' w' R' hdf hk
    have := hend ex A' G' a' w' R' hk
    have hdf' := hdf.trans (hd4.trans (hd3.trans (hd2.trans hd1)))
    cases ex with
    | normal => exact ⟨hdf', this⟩
    | ret => exact ⟨hdf', this⟩
    | exit i => exact this.elim
    | panic v => exact fun u hu => ⟨hdf', this u hu⟩
  · cases h3

end
end Go.Proofs.Ytnppjkijhcampaa.Sym
