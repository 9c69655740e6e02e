/- leatref10: Cut, Fill. -/
import Derived.Test.YtmlgepgcofmpeaaGreatQ6

namespace Go.Proofs.YtmlgepgcofmpeaaGreat.Sym
open Go
set_option linter.unusedSimpArgs false
set_option linter.unusedVariables false
noncomputable section

mutual
/-- What a version has of a value, and whether all that it lacks is zero. -/
noncomputable def spCut (f : Fd) (v : Int) : Nd → Nd × Bool
  | .mk a ks => if f.lab.2.1 = 9 then (.mk (9, (0, (false, (([] : List Int), ())))) (spCItems (f.kids.headD f) v ks).1, (spCItems (f.kids.headD f) v ks).2)
    else if f.lab.2.1 = 10 then (.mk (10, (0, (false, (([] : List Int), ())))) (spCZip v f.kids ks).1, (spCZip v f.kids ks).2) else (.mk a ks, true)
termination_by n => (SizeOf.sizeOf n, 0)
noncomputable def spCItems (f : Fd) (v : Int) : List Nd → List Nd × Bool
  | [] => ([], true)
  | k :: ks => ((spCut f v k).1 :: (spCItems f v ks).1, (spCut f v k).2 && (spCItems f v ks).2)
termination_by l => (SizeOf.sizeOf l, 0)
noncomputable def spCZip (v : Int) : List Fd → List Nd → List Nd × Bool
  | f :: fs, k :: ks => if spHas f v = true then ((spCut f v k).1 :: (spCZip v fs ks).1, (spCut f v k).2 && (spCZip v fs ks).2) else ((spCZip v fs ks).1, spZeroN k && (spCZip v fs ks).2)
  | _, _ => ([], true)
termination_by fs l => (SizeOf.sizeOf l, 0)
end
mutual
noncomputable def spFill (f : Fd) (v : Int) : Nd → Nd
  | .mk a ks => if f.lab.2.1 = 9 then .mk (9, (0, (false, (([] : List Int), ())))) (spFItems (f.kids.headD f) v ks)
    else if f.lab.2.1 = 10 then .mk (10, (0, (false, (([] : List Int), ())))) (spFZip v f.kids ks) else .mk a ks
termination_by n => (SizeOf.sizeOf n, 0, 0)
noncomputable def spFItems (f : Fd) (v : Int) : List Nd → List Nd
  | [] => []
  | k :: ks => spFill f v k :: spFItems f v ks
termination_by l => (SizeOf.sizeOf l, 0, 0)
noncomputable def spFZip (v : Int) : List Fd → List Nd → List Nd
  | [], _ => []
  | f :: fs, [] => .mk (f.lab.2.1, (0, (false, (([] : List Int), ())))) [] :: spFZip v fs []
  | f :: fs, k :: ks => if spHas f v = true then spFill f v k :: spFZip v fs ks else .mk (f.lab.2.1, (0, (false, (([] : List Int), ())))) [] :: spFZip v fs (k :: ks)
termination_by fs l => (SizeOf.sizeOf l, 0, fs.length)
end
/-! ### leat/leatref10.Cut -/
noncomputable abbrev iovCut : Io := ⟨[dFld, dI, dNode], [], [], [dNode, dB], none⟩
noncomputable def FvCutN (n : Nat) (d : iovCut.In) : Tr iovCut.Res := .ite (decide (spWt d.1.2.2.1 < n) && (spArr d.1.1 && decide (spWt d.1.2.2.1 ≤ 4294967296))) (.ret (.ret (((spCut d.1.1 d.1.2.1 d.1.2.2.1).1, ((spCut d.1.1 d.1.2.1 d.1.2.2.1).2, ())), ()))) .no
noncomputable def FvCut (d : iovCut.In) : Tr iovCut.Res := .ite (spArr d.1.1 && decide (spWt d.1.2.2.1 ≤ 4294967296)) (.ret (.ret (((spCut d.1.1 d.1.2.1 d.1.2.2.1).1, ((spCut d.1.1 d.1.2.1 d.1.2.2.1).2, ())), ()))) .no
section
variable [Inhabited FuT]
noncomputable abbrev csvCut : List (Nat × Hc) := [(98, ioHd iovCut (FvCutN spFuel)), (127, ioHd iotHere1 FtHere1), (128, ioHd iotZero FtZero)]
noncomputable def hdvCut : Hd := hdT csvCut
noncomputable abbrev lovCut_6 : Lo := ⟨⟨[.any, .one (.hol (.int IntKind.i64)), .any, .one (.ptr 3 0), .any, .one (.ptr 5 0), .one (.ptr 6 0), .any, .one (.onl 68 (((Ty.int IntKind.i64).prod ((Ty.int IntKind.i64).prod (Ty.bool.prod ((Ty.sl 5 (Ty.int IntKind.u8)).prod Ty.unit)))).tree 68) 17), .one (.hol .bool), .one (.hol (.int IntKind.i64)), .any, .any, .any, .any, .any, .any, .any, .any, .any, .any, .any, .any, .any, .any, .any, .any, .any, .any, .any, .any, .any, .any, .any, .any, .any, .any, .any, .any, .any, .any, .any, .any, .any, .any, .any, .any, .any, .any, .any, .any, .any, .any, .any, .any, .any, .any, .any, .any, .any, .any, .any, .any, .any, .any, .any, .any, .any, .any, .any, .any, .any, .any, .any, .any, .any, .any, .any, .any, .any, .any, .any, .any, .any, .any, .any, .any, .any, .any, .any, .any, .any, .any, .any, .any, .any, .any, .any, .any, .any, .any, .any, .any, .any, .any, .any, .any, .any, .any, .any, .any, .any], [none, none, none, some [.hol .str, .hol (.int IntKind.i64), .hol (.int IntKind.i64), .hol (.int IntKind.i64), .hol (.sl 159 tFld)], none, some [.hol (.int IntKind.i64), .hol (.int IntKind.i64), .hol .bool, .hol (.sl 5 (Ty.int IntKind.u8)), .hol (.sl 68 (((Ty.int IntKind.i64).prod ((Ty.int IntKind.i64).prod (Ty.bool.prod ((Ty.sl 5 (Ty.int IntKind.u8)).prod Ty.unit)))).tree 68))], some [.hol (.int IntKind.i64), .hol (.int IntKind.i64), .hol .bool, .onl 5 (Ty.int IntKind.u8) 3080, .onl 68 (((Ty.int IntKind.i64).prod ((Ty.int IntKind.i64).prod (Ty.bool.prod ((Ty.sl 5 (Ty.int IntKind.u8)).prod Ty.unit)))).tree 68) 3082]]⟩, [(.exit 0, ⟨[.any, .any, .any, .any, .any, .any, .one (.ptr 6 0), .any, .one (.onl 68 (((Ty.int IntKind.i64).prod ((Ty.int IntKind.i64).prod (Ty.bool.prod ((Ty.sl 5 (Ty.int IntKind.u8)).prod Ty.unit)))).tree 68) 17), .one (.hol .bool), .any, .any, .any, .any, .any, .any, .any, .any, .any, .any, .any, .any, .any, .any, .any, .any, .any, .any, .any, .any, .any, .any, .any, .any, .any, .any, .any, .any, .any, .any, .any, .any, .any, .any, .any, .any, .any, .any, .any, .any, .any, .any, .any, .any, .any, .any, .any, .any, .any, .any, .any, .any, .any, .any, .any, .any, .any, .any, .any, .any, .any, .any, .any, .any, .any, .any, .any, .any, .any, .any, .any, .any, .any, .any, .any, .any, .any, .any, .any, .any, .any, .any, .any, .any, .any, .any, .any, .any, .any, .any, .any, .any, .any, .any, .any, .any, .any, .any, .any, .any, .any, .any], [none, none, none, none, none, none, some [.hol (.int IntKind.i64), .hol (.int IntKind.i64), .hol .bool, .onl 5 (Ty.int IntKind.u8) 3080, .onl 68 (((Ty.int IntKind.i64).prod ((Ty.int IntKind.i64).prod (Ty.bool.prod ((Ty.sl 5 (Ty.int IntKind.u8)).prod Ty.unit)))).tree 68) 3082]]⟩)]⟩
-- FvCut_6 : lovCut_6.st.den → Tr (DenX lovCut_6.xs) | ((h3, (h4, (h5, (h6, ())))), ((h7, (h8, (h9, (h10, (h11, ()))))), ((h12, (h13, (h14, (h15, (h16, ()))))), ((h17, (h18, (h19, (h20, (h21, ()))))), ()))))
noncomputable abbrev lovCut_15 : Lo := ⟨⟨[.any, .one (.hol (.int IntKind.i64)), .any, .one (.ptr 3 0), .any, .one (.ptr 5 0), .one (.ptr 6 0), .any, .one (.onl 68 (((Ty.int IntKind.i64).prod ((Ty.int IntKind.i64).prod (Ty.bool.prod ((Ty.sl 5 (Ty.int IntKind.u8)).prod Ty.unit)))).tree 68) 17), .one (.hol .bool), .any, .any, .any, .one (.hol (.int IntKind.i64)), .any, .any, .any, .any, .any, .any, .any, .any, .any, .any, .any, .any, .any, .any, .any, .any, .any, .any, .any, .any, .any, .any, .any, .any, .any, .any, .any, .any, .any, .any, .any, .any, .any, .any, .any, .any, .any, .any, .any, .any, .any, .any, .any, .any, .any, .any, .any, .any, .any, .any, .any, .any, .any, .any, .any, .any, .any, .any, .any, .any, .any, .any, .any, .any, .any, .any, .any, .any, .any, .any, .any, .any, .any, .any, .any, .any, .any, .any, .any, .any, .any, .any, .any, .any, .any, .any, .any, .any, .any, .any, .any, .any, .any, .any, .any, .any, .any, .any], [none, none, none, some [.hol .str, .hol (.int IntKind.i64), .hol (.int IntKind.i64), .hol (.int IntKind.i64), .hol (.sl 159 tFld)], none, some [.hol (.int IntKind.i64), .hol (.int IntKind.i64), .hol .bool, .hol (.sl 5 (Ty.int IntKind.u8)), .hol (.sl 68 (((Ty.int IntKind.i64).prod ((Ty.int IntKind.i64).prod (Ty.bool.prod ((Ty.sl 5 (Ty.int IntKind.u8)).prod Ty.unit)))).tree 68))], some [.hol (.int IntKind.i64), .hol (.int IntKind.i64), .hol .bool, .onl 5 (Ty.int IntKind.u8) 3080, .onl 68 (((Ty.int IntKind.i64).prod ((Ty.int IntKind.i64).prod (Ty.bool.prod ((Ty.sl 5 (Ty.int IntKind.u8)).prod Ty.unit)))).tree 68) 3082]]⟩, [(.exit 2, ⟨[.any, .any, .any, .any, .any, .any, .one (.ptr 6 0), .any, .one (.onl 68 (((Ty.int IntKind.i64).prod ((Ty.int IntKind.i64).prod (Ty.bool.prod ((Ty.sl 5 (Ty.int IntKind.u8)).prod Ty.unit)))).tree 68) 17), .one (.hol .bool), .any, .any, .any, .any, .any, .any, .any, .any, .any, .any, .any, .any, .any, .any, .any, .any, .any, .any, .any, .any, .any, .any, .any, .any, .any, .any, .any, .any, .any, .any, .any, .any, .any, .any, .any, .any, .any, .any, .any, .any, .any, .any, .any, .any, .any, .any, .any, .any, .any, .any, .any, .any, .any, .any, .any, .any, .any, .any, .any, .any, .any, .any, .any, .any, .any, .any, .any, .any, .any, .any, .any, .any, .any, .any, .any, .any, .any, .any, .any, .any, .any, .any, .any, .any, .any, .any, .any, .any, .any, .any, .any, .any, .any, .any, .any, .any, .any, .any, .any, .any, .any, .any], [none, none, none, none, none, none, some [.hol (.int IntKind.i64), .hol (.int IntKind.i64), .hol .bool, .onl 5 (Ty.int IntKind.u8) 3080, .onl 68 (((Ty.int IntKind.i64).prod ((Ty.int IntKind.i64).prod (Ty.bool.prod ((Ty.sl 5 (Ty.int IntKind.u8)).prod Ty.unit)))).tree 68) 3082]]⟩)]⟩
-- FvCut_15 : lovCut_15.st.den → Tr (DenX lovCut_15.xs) | ((h74, (h75, (h76, (h77, ())))), ((h78, (h79, (h80, (h81, (h82, ()))))), ((h83, (h84, (h85, (h86, (h87, ()))))), ((h88, (h89, (h90, (h91, (h92, ()))))), ()))))
noncomputable def FvCut_6 (d : lovCut_6.st.den) : Tr (DenX lovCut_6.xs) :=
  .ite (decide (d.1.2.2.2.1 = 0) && ((decide (d.1.2.1.length = 0) && d.1.2.2.1) && ((decide (d.2.1.2.2.2.2.1.length ≠ 0) && spArrs d.2.1.2.2.2.2.1) && (decide (spWts d.2.2.1.2.2.2.2.1 < spFuel) && decide (spWts d.2.2.1.2.2.2.2.1 ≤ 4294967296)))))
    (.ret (.ret ((), (((spCItems (d.2.1.2.2.2.2.1.headD (.mk ([], (0, (0, (0, ())))) [])) d.1.1 d.2.2.1.2.2.2.2.1).1, ((spCItems (d.2.1.2.2.2.2.1.headD (.mk ([], (0, (0, (0, ())))) [])) d.1.1 d.2.2.1.2.2.2.2.1).2, ())), (d.2.2.2.1, ()))))) .no
noncomputable def FvCut_15 (d : lovCut_15.st.den) : Tr (DenX lovCut_15.xs) :=
  .ite (decide (d.1.2.2.2.1 = 0) && ((decide (d.1.2.1.length = 0) && d.1.2.2.1) && (spArrs d.2.1.2.2.2.2.1 && (decide (spWts d.2.2.1.2.2.2.2.1 < spFuel) && decide (spWts d.2.2.1.2.2.2.2.1 ≤ 4294967296)))))
    (.ret (.ret ((), (((spCZip d.1.1 d.2.1.2.2.2.2.1 d.2.2.1.2.2.2.2.1).1, ((spCZip d.1.1 d.2.1.2.2.2.2.1 d.2.2.1.2.2.2.2.1).2, ())), (d.2.2.2.1, ()))))) .no
noncomputable def lpvCut : Lp := lpT [(6, loHd lovCut_6 FvCut_6), (15, loHd lovCut_15 FvCut_15)]
noncomputable def stepvCut_6 {R : Type} (h3 : Int) (h4 : List (((Ty.int IntKind.i64).prod ((Ty.int IntKind.i64).prod (Ty.bool.prod ((Ty.sl 5 (Ty.int IntKind.u8)).prod Ty.unit)))).tree 68).den) (h5 : Bool) (h6 : Int) (h7 : List Int) (h8 : Int) (h9 : Int) (h10 : Int) (h11 : List (Fd)) (h12 : Int) (h13 : Int) (h14 : Bool) (h15 : List Int) (h16 : List (Nd)) (h17 : Int) (h18 : Int) (h19 : Bool) (h20 : List Int) (h21 : List (((Ty.int IntKind.i64).prod ((Ty.int IntKind.i64).prod (Ty.bool.prod ((Ty.sl 5 (Ty.int IntKind.u8)).prod Ty.unit)))).tree 68).den) (next : Int → List (((Ty.int IntKind.i64).prod ((Ty.int IntKind.i64).prod (Ty.bool.prod ((Ty.sl 5 (Ty.int IntKind.u8)).prod Ty.unit)))).tree 68).den → Bool → Int → List Int → Int → Int → Int → List (Fd) → Int → Int → Bool → List Int → List (Nd) → Int → Int → Bool → List Int → List (((Ty.int IntKind.i64).prod ((Ty.int IntKind.i64).prod (Ty.bool.prod ((Ty.sl 5 (Ty.int IntKind.u8)).prod Ty.unit)))).tree 68).den → Option R) (out : DenX lovCut_6.xs → Option R) : Option R := bif decide (h6 < (↑h16.length : Int)) then bif decide (0 ≤ 0) && decide (0 < (↑h11.length : Int)) then bif decide (0 ≤ h6) && decide (h6 < (↑h16.length : Int)) then bif decide (spWt (Tre.mk (h16.getD h6.toNat (Tre.mk (0, 0, false, [], ()) [])).1 (h16.getD h6.toNat (Tre.mk (0, 0, false, [], ()) [])).2) < spFuel) && (spArr (Tre.mk (h11.getD (Int.toNat 0) (Tre.mk ([], 0, 0, 0, ()) [])).1 (h11.getD (Int.toNat 0) (Tre.mk ([], 0, 0, 0, ()) [])).2) && decide (spWt (Tre.mk (h16.getD h6.toNat (Tre.mk (0, 0, false, [], ()) [])).1 (h16.getD h6.toNat (Tre.mk (0, 0, false, [], ()) [])).2) ≤ 4294967296)) then bif decide (h4.length + 1 ≤ 4294967296) then bif h5 then next (h3) (h4 ++ [Tre.mk (spCut (Tre.mk (h11.getD (Int.toNat 0) (Tre.mk ([], 0, 0, 0, ()) [])).1 (h11.getD (Int.toNat 0) (Tre.mk ([], 0, 0, 0, ()) [])).2) h3 (Tre.mk (h16.getD h6.toNat (Tre.mk (0, 0, false, [], ()) [])).1 (h16.getD h6.toNat (Tre.mk (0, 0, false, [], ()) [])).2)).fst.1 (spCut (Tre.mk (h11.getD (Int.toNat 0) (Tre.mk ([], 0, 0, 0, ()) [])).1 (h11.getD (Int.toNat 0) (Tre.mk ([], 0, 0, 0, ()) [])).2) h3 (Tre.mk (h16.getD h6.toNat (Tre.mk (0, 0, false, [], ()) [])).1 (h16.getD h6.toNat (Tre.mk (0, 0, false, [], ()) [])).2)).fst.2]) ((spCut (Tre.mk (h11.getD (Int.toNat 0) (Tre.mk ([], 0, 0, 0, ()) [])).1 (h11.getD (Int.toNat 0) (Tre.mk ([], 0, 0, 0, ()) [])).2) h3 (Tre.mk (h16.getD h6.toNat (Tre.mk (0, 0, false, [], ()) [])).1 (h16.getD h6.toNat (Tre.mk (0, 0, false, [], ()) [])).2)).snd) (IntKind.i64.wrap (h6 + 1)) (h7) (h8) (h9) (h10) (h11) (h12) (h13) (h14) (h15) (h16) (h17) (h18) (h19) (h20) (h21) else next (h3) (h4 ++ [Tre.mk (spCut (Tre.mk (h11.getD (Int.toNat 0) (Tre.mk ([], 0, 0, 0, ()) [])).1 (h11.getD (Int.toNat 0) (Tre.mk ([], 0, 0, 0, ()) [])).2) h3 (Tre.mk (h16.getD h6.toNat (Tre.mk (0, 0, false, [], ()) [])).1 (h16.getD h6.toNat (Tre.mk (0, 0, false, [], ()) [])).2)).fst.1 (spCut (Tre.mk (h11.getD (Int.toNat 0) (Tre.mk ([], 0, 0, 0, ()) [])).1 (h11.getD (Int.toNat 0) (Tre.mk ([], 0, 0, 0, ()) [])).2) h3 (Tre.mk (h16.getD h6.toNat (Tre.mk (0, 0, false, [], ()) [])).1 (h16.getD h6.toNat (Tre.mk (0, 0, false, [], ()) [])).2)).fst.2]) (false) (IntKind.i64.wrap (h6 + 1)) (h7) (h8) (h9) (h10) (h11) (h12) (h13) (h14) (h15) (h16) (h17) (h18) (h19) (h20) (h21) else none else none else none else none else out (.ret ((), ((h4, (h5, ())), ((h17, (h18, (h19, (h20, (h21, ()))))), ()))))
noncomputable def itvCut_6 (n : Nat) (h3 : Int) (h4 : List (((Ty.int IntKind.i64).prod ((Ty.int IntKind.i64).prod (Ty.bool.prod ((Ty.sl 5 (Ty.int IntKind.u8)).prod Ty.unit)))).tree 68).den) (h5 : Bool) (h6 : Int) (h7 : List Int) (h8 : Int) (h9 : Int) (h10 : Int) (h11 : List (Fd)) (h12 : Int) (h13 : Int) (h14 : Bool) (h15 : List Int) (h16 : List (Nd)) (h17 : Int) (h18 : Int) (h19 : Bool) (h20 : List Int) (h21 : List (((Ty.int IntKind.i64).prod ((Ty.int IntKind.i64).prod (Ty.bool.prod ((Ty.sl 5 (Ty.int IntKind.u8)).prod Ty.unit)))).tree 68).den) : Option (DenX lovCut_6.xs) := lpN tt hdvCut dr lpvCut 0 Go.Proofs.Tryz.f98 (topL Go.Proofs.Tryz.f98 0) n (lovCut_6.st.mk' ((h3, (h4, (h5, (h6, ())))), ((h7, (h8, (h9, (h10, (h11, ()))))), ((h12, (h13, (h14, (h15, (h16, ()))))), ((h17, (h18, (h19, (h20, (h21, ()))))), ()))))) (decX lovCut_6.xs)
theorem slvCut_6 (n : Nat) (h3 : Int) (h4 : List (((Ty.int IntKind.i64).prod ((Ty.int IntKind.i64).prod (Ty.bool.prod ((Ty.sl 5 (Ty.int IntKind.u8)).prod Ty.unit)))).tree 68).den) (h5 : Bool) (h6 : Int) (h7 : List Int) (h8 : Int) (h9 : Int) (h10 : Int) (h11 : List (Fd)) (h12 : Int) (h13 : Int) (h14 : Bool) (h15 : List Int) (h16 : List (Nd)) (h17 : Int) (h18 : Int) (h19 : Bool) (h20 : List Int) (h21 : List (((Ty.int IntKind.i64).prod ((Ty.int IntKind.i64).prod (Ty.bool.prod ((Ty.sl 5 (Ty.int IntKind.u8)).prod Ty.unit)))).tree 68).den) : itvCut_6 (n + 1) h3 h4 h5 h6 h7 h8 h9 h10 h11 h12 h13 h14 h15 h16 h17 h18 h19 h20 h21 = stepvCut_6 h3 h4 h5 h6 h7 h8 h9 h10 h11 h12 h13 h14 h15 h16 h17 h18 h19 h20 h21 (itvCut_6 n) some := by kernel_rfl
noncomputable def stepvCut_15 {R : Type} (h74 : Int) (h75 : List (((Ty.int IntKind.i64).prod ((Ty.int IntKind.i64).prod (Ty.bool.prod ((Ty.sl 5 (Ty.int IntKind.u8)).prod Ty.unit)))).tree 68).den) (h76 : Bool) (h77 : Int) (h78 : List Int) (h79 : Int) (h80 : Int) (h81 : Int) (h82 : List (Fd)) (h83 : Int) (h84 : Int) (h85 : Bool) (h86 : List Int) (h87 : List (Nd)) (h88 : Int) (h89 : Int) (h90 : Bool) (h91 : List Int) (h92 : List (((Ty.int IntKind.i64).prod ((Ty.int IntKind.i64).prod (Ty.bool.prod ((Ty.sl 5 (Ty.int IntKind.u8)).prod Ty.unit)))).tree 68).den) (next : Int → List (((Ty.int IntKind.i64).prod ((Ty.int IntKind.i64).prod (Ty.bool.prod ((Ty.sl 5 (Ty.int IntKind.u8)).prod Ty.unit)))).tree 68).den → Bool → Int → List Int → Int → Int → Int → List (Fd) → Int → Int → Bool → List Int → List (Nd) → Int → Int → Bool → List Int → List (((Ty.int IntKind.i64).prod ((Ty.int IntKind.i64).prod (Ty.bool.prod ((Ty.sl 5 (Ty.int IntKind.u8)).prod Ty.unit)))).tree 68).den → Option R) (out : DenX lovCut_15.xs → Option R) : Option R := bif decide (h77 < (↑h82.length : Int)) then bif decide (h77 < (↑h87.length : Int)) then bif decide (0 ≤ h77) && decide (h77 < (↑h82.length : Int)) then bif spHas (Tre.mk (h82.getD h77.toNat (Tre.mk ([], 0, 0, 0, ()) [])).1 (h82.getD h77.toNat (Tre.mk ([], 0, 0, 0, ()) [])).2) h74 then bif decide (0 ≤ h77) && decide (h77 < (↑h82.length : Int)) then bif decide (0 ≤ h77) && decide (h77 < (↑h87.length : Int)) then bif decide (spWt (Tre.mk (h87.getD h77.toNat (Tre.mk (0, 0, false, [], ()) [])).1 (h87.getD h77.toNat (Tre.mk (0, 0, false, [], ()) [])).2) < spFuel) && (spArr (Tre.mk (h82.getD h77.toNat (Tre.mk ([], 0, 0, 0, ()) [])).1 (h82.getD h77.toNat (Tre.mk ([], 0, 0, 0, ()) [])).2) && decide (spWt (Tre.mk (h87.getD h77.toNat (Tre.mk (0, 0, false, [], ()) [])).1 (h87.getD h77.toNat (Tre.mk (0, 0, false, [], ()) [])).2) ≤ 4294967296)) then bif decide (h75.length + 1 ≤ 4294967296) then bif h76 then next (h74) (h75 ++ [Tre.mk (spCut (Tre.mk (h82.getD h77.toNat (Tre.mk ([], 0, 0, 0, ()) [])).1 (h82.getD h77.toNat (Tre.mk ([], 0, 0, 0, ()) [])).2) h74 (Tre.mk (h87.getD h77.toNat (Tre.mk (0, 0, false, [], ()) [])).1 (h87.getD h77.toNat (Tre.mk (0, 0, false, [], ()) [])).2)).fst.1 (spCut (Tre.mk (h82.getD h77.toNat (Tre.mk ([], 0, 0, 0, ()) [])).1 (h82.getD h77.toNat (Tre.mk ([], 0, 0, 0, ()) [])).2) h74 (Tre.mk (h87.getD h77.toNat (Tre.mk (0, 0, false, [], ()) [])).1 (h87.getD h77.toNat (Tre.mk (0, 0, false, [], ()) [])).2)).fst.2]) ((spCut (Tre.mk (h82.getD h77.toNat (Tre.mk ([], 0, 0, 0, ()) [])).1 (h82.getD h77.toNat (Tre.mk ([], 0, 0, 0, ()) [])).2) h74 (Tre.mk (h87.getD h77.toNat (Tre.mk (0, 0, false, [], ()) [])).1 (h87.getD h77.toNat (Tre.mk (0, 0, false, [], ()) [])).2)).snd) (IntKind.i64.wrap (h77 + 1)) (h78) (h79) (h80) (h81) (h82) (h83) (h84) (h85) (h86) (h87) (h88) (h89) (h90) (h91) (h92) else next (h74) (h75 ++ [Tre.mk (spCut (Tre.mk (h82.getD h77.toNat (Tre.mk ([], 0, 0, 0, ()) [])).1 (h82.getD h77.toNat (Tre.mk ([], 0, 0, 0, ()) [])).2) h74 (Tre.mk (h87.getD h77.toNat (Tre.mk (0, 0, false, [], ()) [])).1 (h87.getD h77.toNat (Tre.mk (0, 0, false, [], ()) [])).2)).fst.1 (spCut (Tre.mk (h82.getD h77.toNat (Tre.mk ([], 0, 0, 0, ()) [])).1 (h82.getD h77.toNat (Tre.mk ([], 0, 0, 0, ()) [])).2) h74 (Tre.mk (h87.getD h77.toNat (Tre.mk (0, 0, false, [], ()) [])).1 (h87.getD h77.toNat (Tre.mk (0, 0, false, [], ()) [])).2)).fst.2]) (false) (IntKind.i64.wrap (h77 + 1)) (h78) (h79) (h80) (h81) (h82) (h83) (h84) (h85) (h86) (h87) (h88) (h89) (h90) (h91) (h92) else none else none else none else none else bif h76 then bif decide (0 ≤ h77) && decide (h77 < (↑h87.length : Int)) then next (h74) (h75) (spZeroN (Tre.mk (h87.getD h77.toNat (Tre.mk (0, 0, false, [], ()) [])).1 (h87.getD h77.toNat (Tre.mk (0, 0, false, [], ()) [])).2)) (IntKind.i64.wrap (h77 + 1)) (h78) (h79) (h80) (h81) (h82) (h83) (h84) (h85) (h86) (h87) (h88) (h89) (h90) (h91) (h92) else none else next (h74) (h75) (false) (IntKind.i64.wrap (h77 + 1)) (h78) (h79) (h80) (h81) (h82) (h83) (h84) (h85) (h86) (h87) (h88) (h89) (h90) (h91) (h92) else none else out (.ret ((), ((h75, (h76, ())), ((h88, (h89, (h90, (h91, (h92, ()))))), ())))) else out (.ret ((), ((h75, (h76, ())), ((h88, (h89, (h90, (h91, (h92, ()))))), ()))))
noncomputable def itvCut_15 (n : Nat) (h74 : Int) (h75 : List (((Ty.int IntKind.i64).prod ((Ty.int IntKind.i64).prod (Ty.bool.prod ((Ty.sl 5 (Ty.int IntKind.u8)).prod Ty.unit)))).tree 68).den) (h76 : Bool) (h77 : Int) (h78 : List Int) (h79 : Int) (h80 : Int) (h81 : Int) (h82 : List (Fd)) (h83 : Int) (h84 : Int) (h85 : Bool) (h86 : List Int) (h87 : List (Nd)) (h88 : Int) (h89 : Int) (h90 : Bool) (h91 : List Int) (h92 : List (((Ty.int IntKind.i64).prod ((Ty.int IntKind.i64).prod (Ty.bool.prod ((Ty.sl 5 (Ty.int IntKind.u8)).prod Ty.unit)))).tree 68).den) : Option (DenX lovCut_15.xs) := lpN tt hdvCut dr lpvCut 0 Go.Proofs.Tryz.f98 (topL Go.Proofs.Tryz.f98 1) n (lovCut_15.st.mk' ((h74, (h75, (h76, (h77, ())))), ((h78, (h79, (h80, (h81, (h82, ()))))), ((h83, (h84, (h85, (h86, (h87, ()))))), ((h88, (h89, (h90, (h91, (h92, ()))))), ()))))) (decX lovCut_15.xs)
theorem slvCut_15 (n : Nat) (h74 : Int) (h75 : List (((Ty.int IntKind.i64).prod ((Ty.int IntKind.i64).prod (Ty.bool.prod ((Ty.sl 5 (Ty.int IntKind.u8)).prod Ty.unit)))).tree 68).den) (h76 : Bool) (h77 : Int) (h78 : List Int) (h79 : Int) (h80 : Int) (h81 : Int) (h82 : List (Fd)) (h83 : Int) (h84 : Int) (h85 : Bool) (h86 : List Int) (h87 : List (Nd)) (h88 : Int) (h89 : Int) (h90 : Bool) (h91 : List Int) (h92 : List (((Ty.int IntKind.i64).prod ((Ty.int IntKind.i64).prod (Ty.bool.prod ((Ty.sl 5 (Ty.int IntKind.u8)).prod Ty.unit)))).tree 68).den) : itvCut_15 (n + 1) h74 h75 h76 h77 h78 h79 h80 h81 h82 h83 h84 h85 h86 h87 h88 h89 h90 h91 h92 = stepvCut_15 h74 h75 h76 h77 h78 h79 h80 h81 h82 h83 h84 h85 h86 h87 h88 h89 h90 h91 h92 (itvCut_15 n) some := by kernel_rfl
theorem loopvCut_6 {f0 : Fd} {fs : List Fd} {ks : List Nd} {v : Int} (ha : spArr f0 = true) (hf : spWts ks < spFuel) (hb : spWts ks ≤ 4294967296) (nm : List Int) (k' lo hi a b : Int) (z : Bool) (x : List Int) (a' b' : Int) (z' : Bool) (x' : List Int) (l' : List Nd) : ∀ (k j : Nat) (o : List Nd) (t : Bool), ks.length < j + k → j ≤ ks.length → o.length ≤ j →
    itvCut_6 k v o t j nm k' lo hi (f0 :: fs) a b z x ks a' b' z' x' l' = some (.ret ((), (((o ++ (spCItems f0 v (ks.drop j)).1), ((t && (spCItems f0 v (ks.drop j)).2), ())), ((a', (b', (z', (x', (l', ()))))), ())))) := by
  intro k
  induction k with
  | zero => intro j o t h1 h2; omega
  | succ k ih =>
    intro j o t h1 h2 h3
    rw [slvCut_6]
    unfold stepvCut_6
    have hlen := spWts_len ks
    by_cases hj : j < ks.length
    · refine (bif_true (decide_eq_true (show (j : Int) < (ks.length : Int) by omega)) _ _).trans ?_
      refine (bif_true (by simp) _ _).trans ?_
      refine (bif_true (by simp; omega) _ _).trans ?_
      have hmem := spWt_mem (List.getElem_mem hj)
      have hd : ks.drop j = ks[j] :: ks.drop (j + 1) := List.drop_eq_getElem_cons hj
      have ih' := fun t' => ih (j + 1) (o ++ [(spCut f0 v ks[j]).1]) t' (by omega) (by omega) (by simp; omega)
      rw [hd, spCItems]
      rw [wrap_i64 (n := (j : Int) + 1) (by omega) (by omega)]
      simp only [Int.toNat_natCast, getD_lt hj]
      generalize ks[j] = u at hmem ih' ⊢
      obtain ⟨ul, uk⟩ := u
      obtain ⟨fl, fk⟩ := f0
      refine (bif_true (show (decide (spWt (Tre.mk ul uk) < spFuel) && (spArr (Tre.mk fl fk) && decide (spWt (Tre.mk ul uk) ≤ 4294967296))) = true by rw [ha]; simp; omega) _ _).trans ?_
      refine (bif_true (decide_eq_true (show o.length + 1 ≤ 4294967296 by omega)) _ _).trans ?_
      have e1 : o ++ [Tre.mk (spCut (Tre.mk fl fk) v (Tre.mk ul uk)).1.1 (spCut (Tre.mk fl fk) v (Tre.mk ul uk)).1.2] = o ++ [(spCut (Tre.mk fl fk) v (Tre.mk ul uk)).1] := by rw [nd_eta]
      cases t with
      | true =>
        show itvCut_6 k v (o ++ [Tre.mk (spCut (Tre.mk fl fk) v (Tre.mk ul uk)).1.1 (spCut (Tre.mk fl fk) v (Tre.mk ul uk)).1.2]) (spCut (Tre.mk fl fk) v (Tre.mk ul uk)).2 _ _ _ _ _ _ _ _ _ _ _ _ _ _ _ _ = _
        rw [e1]
        refine (ih' _).trans ?_; simp
      | false =>
        show itvCut_6 k v (o ++ [Tre.mk (spCut (Tre.mk fl fk) v (Tre.mk ul uk)).1.1 (spCut (Tre.mk fl fk) v (Tre.mk ul uk)).1.2]) false _ _ _ _ _ _ _ _ _ _ _ _ _ _ _ _ = _
        rw [e1]
        refine (ih' false).trans ?_; simp
    · refine (bif_false (decide_eq_false (show ¬ (j : Int) < (ks.length : Int) by omega)) _ _).trans ?_
      rw [List.drop_of_length_le (by omega), spCItems, List.append_nil, Bool.and_true]
theorem loopvCut_15 {fs : List Fd} {ks : List Nd} {v : Int} (ha : spArrs fs = true) (hf : spWts ks < spFuel) (hb : spWts ks ≤ 4294967296) (nm : List Int) (k' lo hi a b : Int) (z : Bool) (x : List Int) (a' b' : Int) (z' : Bool) (x' : List Int) (l' : List Nd) : ∀ (k j : Nat) (o : List Nd) (t : Bool), ks.length < j + k → j ≤ ks.length → o.length ≤ j →
    itvCut_15 k v o t j nm k' lo hi fs a b z x ks a' b' z' x' l' = some (.ret ((), (((o ++ (spCZip v (fs.drop j) (ks.drop j)).1), ((t && (spCZip v (fs.drop j) (ks.drop j)).2), ())), ((a', (b', (z', (x', (l', ()))))), ())))) := by
  intro k
  induction k with
  | zero => intro j o t h1 h2; omega
  | succ k ih =>
    intro j o t h1 h2 h3
    rw [slvCut_15]
    unfold stepvCut_15
    have hlen := spWts_len ks
    by_cases hj' : j < fs.length
    · refine (bif_true (decide_eq_true (show (j : Int) < (fs.length : Int) by omega)) _ _).trans ?_
      by_cases hj : j < ks.length
      · refine (bif_true (decide_eq_true (show (j : Int) < (ks.length : Int) by omega)) _ _).trans ?_
        refine (bif_true (by simp; omega) _ _).trans ?_
        have hmem := spWt_mem (List.getElem_mem hj)
        have har := spArrs_mem ha (List.getElem_mem hj')
        have hd : ks.drop j = ks[j] :: ks.drop (j + 1) := List.drop_eq_getElem_cons hj
        have hd' : fs.drop j = fs[j] :: fs.drop (j + 1) := List.drop_eq_getElem_cons hj'
        have ih1 := fun t' => ih (j + 1) (o ++ [(spCut fs[j] v ks[j]).1]) t' (by omega) (by omega) (by simp; omega)
        have ih2 := fun t' => ih (j + 1) o t' (by omega) (by omega) (by omega)
        rw [hd, hd', spCZip]
        rw [wrap_i64 (n := (j : Int) + 1) (by omega) (by omega)]
        simp only [Int.toNat_natCast, getD_lt hj, getD_lt hj']
        generalize ks[j] = u at hmem ih1 ⊢
        generalize fs[j] = f0 at har ih1 ⊢
        obtain ⟨ul, uk⟩ := u
        obtain ⟨fl, fk⟩ := f0
        by_cases hh : spHas (Tre.mk fl fk) v = true
        · refine (bif_true (show spHas (Tre.mk fl fk) v = true from hh) _ _).trans ?_
          refine (bif_true (by simp; omega) _ _).trans ?_
          refine (bif_true (by simp; omega) _ _).trans ?_
          refine (bif_true (show (decide (spWt (Tre.mk ul uk) < spFuel) && (spArr (Tre.mk fl fk) && decide (spWt (Tre.mk ul uk) ≤ 4294967296))) = true by rw [har]; simp; omega) _ _).trans ?_
          refine (bif_true (decide_eq_true (show o.length + 1 ≤ 4294967296 by omega)) _ _).trans ?_
          rw [if_pos hh]
          show (bif t then itvCut_15 k v (o ++ [Tre.mk (spCut (Tre.mk fl fk) v (Tre.mk ul uk)).1.1 (spCut (Tre.mk fl fk) v (Tre.mk ul uk)).1.2]) (spCut (Tre.mk fl fk) v (Tre.mk ul uk)).2 _ _ _ _ _ _ _ _ _ _ _ _ _ _ _ _ else _) = _
          generalize spCut (Tre.mk fl fk) v (Tre.mk ul uk) = r at ih1 ⊢
          obtain ⟨⟨rl, rk⟩, rb⟩ := r
          cases t with
          | true => refine (ih1 rb).trans ?_; simp
          | false => refine (ih1 false).trans ?_; simp
        · refine (bif_false (show spHas (Tre.mk fl fk) v = false by simpa using hh) _ _).trans ?_
          rw [if_neg hh]
          cases t with
          | true =>
            show (bif decide (0 ≤ (j : Int)) && decide ((j : Int) < (ks.length : Int)) then _ else none) = _
            refine (bif_true (by simp; omega) _ _).trans ?_
            refine (ih2 _).trans ?_
            simp
          | false =>
            refine (ih2 false).trans ?_
            simp
      · refine (bif_false (decide_eq_false (show ¬ (j : Int) < (ks.length : Int) by omega)) _ _).trans ?_
        rw [List.drop_of_length_le (show ks.length ≤ j by omega), List.drop_eq_getElem_cons hj', spCZip, List.append_nil, Bool.and_true]
        simp
    · refine (bif_false (decide_eq_false (show ¬ (j : Int) < (fs.length : Int) by omega)) _ _).trans ?_
      rw [List.drop_of_length_le (show fs.length ≤ j by omega), spCZip, List.append_nil, Bool.and_true]
      simp
noncomputable def bodyvCut (a0 : Fd) (a1 : Int) (a2 : Nd) : Option iovCut.Res := bif a0.1.snd.fst == 9 then (FvCut_6 ((a1, ([], (true, (0, ())))), ((a0.1.fst, (a0.1.snd.fst, (a0.1.snd.snd.fst, (a0.1.snd.snd.snd.fst, (a0.2, ()))))), ((a2.1.fst, (a2.1.snd.fst, (a2.1.snd.snd.fst, (a2.1.snd.snd.snd.fst, (a2.2, ()))))), ((0, (0, (false, ([], ([], ()))))), ()))))).run fun y => match y with | .ret ((), ((x67, x68, ()), (x69, x70, x71, x72, x73, ()), ())) => (some (Out.ret ((Tre.mk (9, 0, false, [], ()) x67, x68, ()), ()))) else bif a0.1.snd.fst != 10 then some (Out.ret ((Tre.mk a2.1 a2.2, true, ()), ())) else (FvCut_15 ((a1, ([], (true, (0, ())))), ((a0.1.fst, (a0.1.snd.fst, (a0.1.snd.snd.fst, (a0.1.snd.snd.snd.fst, (a0.2, ()))))), ((a2.1.fst, (a2.1.snd.fst, (a2.1.snd.snd.fst, (a2.1.snd.snd.snd.fst, (a2.2, ()))))), ((0, (0, (false, ([], ([], ()))))), ()))))).run fun y => match y with | .ret ((), ((x183, x184, ()), (x185, x186, x187, x188, x189, ()), ())) => (some (Out.ret ((Tre.mk (10, 0, false, [], ()) x183, x184, ()), ())))
theorem runvCut (a0 : Fd) (a1 : Int) (a2 : Nd) : Io.run tt hdvCut dr lpvCut iovCut Go.Proofs.Tryz.f98 ((a0, a1, a2, ()), ()) = bodyvCut a0 a1 a2 := by kernel_rfl
theorem okvCutS (rvCut : HcOk prog 98 (ioHd iovCut (FvCutN spFuel))) : HcOk prog 98 (ioHd iovCut (FvCutN (spFuel + 1))) := by
  refine fn_sound (n := 400) hm (cs := csvCut) (.cons rvCut (.cons oktHere1 (.cons oktZero .nil))) (lp := lpvCut) (fn := Go.Proofs.Tryz.f98) (by kernel_rfl) (by kernel_rfl) (by kernel_rfl) iovCut (.step (h0 := loHd lovCut_6 FvCut_6) (by kernel_rfl) (loop_sound (n := 400) hm (cs := csvCut) (.cons rvCut (.cons oktHere1 (.cons oktZero .nil))) (lp := lpvCut) (fn := Go.Proofs.Tryz.f98) (.done (by kernel_rfl)) lovCut_6 FvCut_6 ?_) (.step (h0 := loHd lovCut_15 FvCut_15) (by kernel_rfl) (loop_sound (n := 400) hm (cs := csvCut) (.cons rvCut (.cons oktHere1 (.cons oktZero .nil))) (lp := lpvCut) (fn := Go.Proofs.Tryz.f98) (.done (by kernel_rfl)) lovCut_15 FvCut_15 ?_) (.done (by kernel_rfl)))) (FvCutN (spFuel + 1)) ?_
  · rintro ⟨⟨(v : Int), (o : List Nd), (t : Bool), (i : Int), ⟨⟩⟩, ⟨⟨(nm : List Int), (k' : Int), (lo : Int), (hi : Int), (fs : List Fd), ⟨⟩⟩, ⟨(a : Int), (b : Int), (z : Bool), (x : List Int), (ks : List Nd), ⟨⟩⟩, ⟨(a' : Int), (b' : Int), (z' : Bool), (x' : List Int), (l' : List Nd), ⟨⟩⟩, ⟨⟩⟩⟩ y hw hy
    obtain ⟨hg, hy⟩ := Tr.guard hy
    simp only [Bool.and_eq_true, decide_eq_true_eq] at hg
    obtain ⟨h1, ⟨h2, h7⟩, ⟨h3, h4⟩, h5, h6⟩ := hg
    have h1 : i = 0 := h1
    have h2 : o = [] := List.eq_nil_of_length_eq_zero h2
    have h7 : t = true := h7
    have h3 : fs.length ≠ 0 := h3
    have h4 : spArrs fs = true := h4
    have h5 : spWts ks < spFuel := h5
    have h6 : spWts ks ≤ 4294967296 := h6
    subst h1
    subst h2
    subst h7
    obtain ⟨f0, fs, rfl⟩ : ∃ f0 fs', fs = f0 :: fs' := by cases fs with | nil => exact absurd rfl h3 | cons a b => exact ⟨a, b, rfl⟩
    refine ⟨ks.length + 1, (loopvCut_6 (spArrs_mem h4 (by simp)) h5 h6 nm k' lo hi a b z x a' b' z' x' l' (ks.length + 1) 0 [] true (by omega) (by omega) (by simp)).trans ?_⟩
    rw [← hy, List.drop_zero]
    rfl
  · rintro ⟨⟨(v : Int), (o : List Nd), (t : Bool), (i : Int), ⟨⟩⟩, ⟨⟨(nm : List Int), (k' : Int), (lo : Int), (hi : Int), (fs : List Fd), ⟨⟩⟩, ⟨(a : Int), (b : Int), (z : Bool), (x : List Int), (ks : List Nd), ⟨⟩⟩, ⟨(a' : Int), (b' : Int), (z' : Bool), (x' : List Int), (l' : List Nd), ⟨⟩⟩, ⟨⟩⟩⟩ y hw hy
    obtain ⟨hg, hy⟩ := Tr.guard hy
    simp only [Bool.and_eq_true, decide_eq_true_eq] at hg
    obtain ⟨h1, ⟨h2, h7⟩, h4, h5, h6⟩ := hg
    have h1 : i = 0 := h1
    have h2 : o = [] := List.eq_nil_of_length_eq_zero h2
    have h7 : t = true := h7
    have h4 : spArrs fs = true := h4
    have h5 : spWts ks < spFuel := h5
    have h6 : spWts ks ≤ 4294967296 := h6
    subst h1
    subst h2
    subst h7
    refine ⟨ks.length + 1, (loopvCut_15 h4 h5 h6 nm k' lo hi a b z x a' b' z' x' l' (ks.length + 1) 0 [] true (by omega) (by omega) (by simp)).trans ?_⟩
    rw [← hy, List.drop_zero, List.drop_zero]
    rfl
  · rintro ⟨⟨(f : Fd), (v : Int), (n : Nd), ⟨⟩⟩, ⟨⟩⟩ out hw ho
    obtain ⟨hg, ho⟩ := Tr.guard ho
    simp only [Bool.and_eq_true, decide_eq_true_eq] at hg
    obtain ⟨hk, ha, hb⟩ := hg
    have hk : spWt n < spFuel + 1 := hk
    have ha : spArr f = true := ha
    have hb : spWt n ≤ 4294967296 := hb
    cases ho
    refine (runvCut f v n).trans ?_
    unfold bodyvCut
    show _ = some (Out.ret (((spCut f v n).1, ((spCut f v n).2, ())), ()))
    obtain ⟨⟨(nm : List Int), (k' : Int), (lo : Int), (hi : Int), ⟨⟩⟩, (fs : List Fd)⟩ := f
    obtain ⟨⟨(a : Int), (b : Int), (z : Bool), (x : List Int), ⟨⟩⟩, (ks : List Nd)⟩ := n
    have hwf := spWt_eq (Tre.mk (a, (b, (z, (x, ())))) ks)
    have hwf : spWt (Tre.mk (a, (b, (z, (x, ())))) ks) = 1 + x.length + spWts ks := hwf
    have hk : 1 + x.length + spWts ks < spFuel + 1 := by rw [← hwf]; exact hk
    have hb : 1 + x.length + spWts ks ≤ 4294967296 := by rw [← hwf]; exact hb
    rw [spArr_eq] at ha
    simp only [Bool.and_eq_true] at ha
    obtain ⟨⟨ha1, ha3⟩, ha2⟩ := ha
    have ha2 : spArrs fs = true := ha2
    rw [spCut]
    by_cases h9 : k' = 9
    · rw [if_pos h9]
      refine (bif_true (by simpa using h9) _ _).trans ?_
      have h0 : fs.length ≠ 0 := by
        rcases Bool.or_eq_true _ _ ▸ ha1 with h | h
        · exact absurd h9 (of_decide_eq_true h)
        · exact of_decide_eq_true h
      obtain ⟨f0, fs, rfl⟩ : ∃ f0 fs', fs = f0 :: fs' := by cases fs with | nil => exact absurd rfl h0 | cons a b => exact ⟨a, b, rfl⟩
      have c1 : (decide ((0 : Int) = 0) && ((decide (([] : List Nd).length = 0) && true) && ((decide ((f0 :: fs).length ≠ 0) && spArrs (f0 :: fs)) && (decide (spWts ks < spFuel) && decide (spWts ks ≤ 4294967296))))) = true := by
        rw [ha2]; simp; omega
      exact bif_true c1 _ _
    rw [if_neg h9]
    refine (bif_false (by simpa using h9) _ _).trans ?_
    by_cases h10 : k' = 10
    · rw [if_pos h10]
      refine (bif_false (by simpa using h10) _ _).trans ?_
      have c1 : (decide ((0 : Int) = 0) && ((decide (([] : List Nd).length = 0) && true) && (spArrs fs && (decide (spWts ks < spFuel) && decide (spWts ks ≤ 4294967296))))) = true := by
        rw [ha2]; simp; omega
      exact bif_true c1 _ _
    · rw [if_neg h10]
      exact bif_true (by simpa using h10) _ _
end
theorem okvCutN (n : Nat) : HcOk prog 98 (ioHd iovCut (FvCutN n)) := by
  induction n with
  | zero => exact HcOk.none (fn := Go.Proofs.Tryz.f98) (by kernel_rfl) (by kernel_rfl) (by kernel_rfl) _ _ fun d out h => by cases h
  | succ n ih =>
    have := @okvCutS ⟨⟨n⟩⟩ (by rw [FuT.val]; exact ih)
    rw [FuT.val] at this
    exact this
theorem okvCut : HcOk prog 98 (ioHd iovCut FvCut) := by
  refine HcOk.lim okvCutN fun d => ⟨spWt d.1.2.2.1 + 1, fun out h => ?_⟩
  obtain ⟨hg, h⟩ := Tr.guard h
  exact (bif_true (by rw [hg]; simp) _ _).trans h
/-! ### leat/leatref10.Fill -/
noncomputable abbrev iovFill : Io := ⟨[dFld, dI, dNode], [], [], [dNode], none⟩
noncomputable def FvFillN (n : Nat) (d : iovFill.In) : Tr iovFill.Res := .ite (decide (spWt d.1.2.2.1 < n) && (spArr d.1.1 && decide (spWt d.1.2.2.1 ≤ 4294967296))) (.ret (.ret ((spFill d.1.1 d.1.2.1 d.1.2.2.1, ()), ()))) .no
noncomputable def FvFill (d : iovFill.In) : Tr iovFill.Res := .ite (spArr d.1.1 && decide (spWt d.1.2.2.1 ≤ 4294967296)) (.ret (.ret ((spFill d.1.1 d.1.2.1 d.1.2.2.1, ()), ()))) .no
section
variable [Inhabited FuT]
noncomputable abbrev csvFill : List (Nat × Hc) := [(108, ioHd iovFill (FvFillN spFuel)), (127, ioHd iotHere1 FtHere1)]
noncomputable def hdvFill : Hd := hdT csvFill
noncomputable abbrev lovFill_5 : Lo := ⟨⟨[.any, .one (.hol (.int IntKind.i64)), .any, .one (.ptr 3 0), .any, .one (.ptr 5 0), .one (.ptr 6 0), .one (.onl 68 (((Ty.int IntKind.i64).prod ((Ty.int IntKind.i64).prod (Ty.bool.prod ((Ty.sl 5 (Ty.int IntKind.u8)).prod Ty.unit)))).tree 68) 15), .one (.hol (.int IntKind.i64)), .any, .any, .any, .any, .any, .any, .any, .any, .any, .any, .any, .any, .any, .any, .any, .any, .any, .any, .any, .any, .any, .any, .any, .any, .any, .any, .any, .any, .any, .any, .any, .any, .any, .any, .any, .any, .any, .any, .any, .any, .any, .any, .any, .any, .any, .any, .any, .any, .any, .any, .any, .any, .any, .any, .any, .any, .any, .any, .any, .any, .any, .any, .any, .any, .any, .any, .any, .any, .any, .any, .any, .any, .any, .any, .any, .any, .any, .any, .any, .any, .any, .any, .any], [none, none, none, some [.hol .str, .hol (.int IntKind.i64), .hol (.int IntKind.i64), .hol (.int IntKind.i64), .hol (.sl 159 tFld)], none, some [.hol (.int IntKind.i64), .hol (.int IntKind.i64), .hol .bool, .hol (.sl 5 (Ty.int IntKind.u8)), .hol (.sl 68 (((Ty.int IntKind.i64).prod ((Ty.int IntKind.i64).prod (Ty.bool.prod ((Ty.sl 5 (Ty.int IntKind.u8)).prod Ty.unit)))).tree 68))], some [.hol (.int IntKind.i64), .hol (.int IntKind.i64), .hol .bool, .onl 5 (Ty.int IntKind.u8) 3080, .onl 68 (((Ty.int IntKind.i64).prod ((Ty.int IntKind.i64).prod (Ty.bool.prod ((Ty.sl 5 (Ty.int IntKind.u8)).prod Ty.unit)))).tree 68) 3082]]⟩, [(.exit 0, ⟨[.any, .any, .any, .any, .any, .any, .one (.ptr 6 0), .one (.onl 68 (((Ty.int IntKind.i64).prod ((Ty.int IntKind.i64).prod (Ty.bool.prod ((Ty.sl 5 (Ty.int IntKind.u8)).prod Ty.unit)))).tree 68) 15), .any, .any, .any, .any, .any, .any, .any, .any, .any, .any, .any, .any, .any, .any, .any, .any, .any, .any, .any, .any, .any, .any, .any, .any, .any, .any, .any, .any, .any, .any, .any, .any, .any, .any, .any, .any, .any, .any, .any, .any, .any, .any, .any, .any, .any, .any, .any, .any, .any, .any, .any, .any, .any, .any, .any, .any, .any, .any, .any, .any, .any, .any, .any, .any, .any, .any, .any, .any, .any, .any, .any, .any, .any, .any, .any, .any, .any, .any, .any, .any, .any, .any, .any, .any], [none, none, none, none, none, none, some [.hol (.int IntKind.i64), .hol (.int IntKind.i64), .hol .bool, .onl 5 (Ty.int IntKind.u8) 3080, .onl 68 (((Ty.int IntKind.i64).prod ((Ty.int IntKind.i64).prod (Ty.bool.prod ((Ty.sl 5 (Ty.int IntKind.u8)).prod Ty.unit)))).tree 68) 3082]]⟩)]⟩
-- FvFill_5 : lovFill_5.st.den → Tr (DenX lovFill_5.xs) | ((h3, (h4, (h5, ()))), ((h6, (h7, (h8, (h9, (h10, ()))))), ((h11, (h12, (h13, (h14, (h15, ()))))), ((h16, (h17, (h18, (h19, (h20, ()))))), ()))))
noncomputable abbrev lovFill_13 : Lo := ⟨⟨[.any, .one (.hol (.int IntKind.i64)), .any, .one (.ptr 3 0), .any, .one (.ptr 5 0), .one (.ptr 6 0), .one (.onl 68 (((Ty.int IntKind.i64).prod ((Ty.int IntKind.i64).prod (Ty.bool.prod ((Ty.sl 5 (Ty.int IntKind.u8)).prod Ty.unit)))).tree 68) 15), .any, .one (.hol (.int IntKind.i64)), .one (.hol (.int IntKind.i64)), .any, .any, .any, .any, .any, .any, .any, .any, .any, .any, .any, .any, .any, .any, .any, .any, .any, .any, .any, .any, .any, .any, .any, .any, .any, .any, .any, .any, .any, .any, .any, .any, .any, .any, .any, .any, .any, .any, .any, .any, .any, .any, .any, .any, .any, .any, .any, .any, .any, .any, .any, .any, .any, .any, .any, .any, .any, .any, .any, .any, .any, .any, .any, .any, .any, .any, .any, .any, .any, .any, .any, .any, .any, .any, .any, .any, .any, .any, .any, .any, .any], [none, none, none, some [.hol .str, .hol (.int IntKind.i64), .hol (.int IntKind.i64), .hol (.int IntKind.i64), .hol (.sl 159 tFld)], none, some [.hol (.int IntKind.i64), .hol (.int IntKind.i64), .hol .bool, .hol (.sl 5 (Ty.int IntKind.u8)), .hol (.sl 68 (((Ty.int IntKind.i64).prod ((Ty.int IntKind.i64).prod (Ty.bool.prod ((Ty.sl 5 (Ty.int IntKind.u8)).prod Ty.unit)))).tree 68))], some [.hol (.int IntKind.i64), .hol (.int IntKind.i64), .hol .bool, .onl 5 (Ty.int IntKind.u8) 3080, .onl 68 (((Ty.int IntKind.i64).prod ((Ty.int IntKind.i64).prod (Ty.bool.prod ((Ty.sl 5 (Ty.int IntKind.u8)).prod Ty.unit)))).tree 68) 3082]]⟩, [(.exit 2, ⟨[.any, .any, .any, .any, .any, .any, .one (.ptr 6 0), .one (.onl 68 (((Ty.int IntKind.i64).prod ((Ty.int IntKind.i64).prod (Ty.bool.prod ((Ty.sl 5 (Ty.int IntKind.u8)).prod Ty.unit)))).tree 68) 15), .any, .any, .any, .any, .any, .any, .any, .any, .any, .any, .any, .any, .any, .any, .any, .any, .any, .any, .any, .any, .any, .any, .any, .any, .any, .any, .any, .any, .any, .any, .any, .any, .any, .any, .any, .any, .any, .any, .any, .any, .any, .any, .any, .any, .any, .any, .any, .any, .any, .any, .any, .any, .any, .any, .any, .any, .any, .any, .any, .any, .any, .any, .any, .any, .any, .any, .any, .any, .any, .any, .any, .any, .any, .any, .any, .any, .any, .any, .any, .any, .any, .any, .any, .any], [none, none, none, none, none, none, some [.hol (.int IntKind.i64), .hol (.int IntKind.i64), .hol .bool, .onl 5 (Ty.int IntKind.u8) 3080, .onl 68 (((Ty.int IntKind.i64).prod ((Ty.int IntKind.i64).prod (Ty.bool.prod ((Ty.sl 5 (Ty.int IntKind.u8)).prod Ty.unit)))).tree 68) 3082]]⟩)]⟩
-- FvFill_13 : lovFill_13.st.den → Tr (DenX lovFill_13.xs) | ((h51, (h52, (h53, (h54, ())))), ((h55, (h56, (h57, (h58, (h59, ()))))), ((h60, (h61, (h62, (h63, (h64, ()))))), ((h65, (h66, (h67, (h68, (h69, ()))))), ()))))
noncomputable def FvFill_5 (d : lovFill_5.st.den) : Tr (DenX lovFill_5.xs) :=
  .ite (decide (d.1.2.2.1 = 0) && (decide (d.1.2.1.length = 0) && ((decide (d.2.1.2.2.2.2.1.length ≠ 0) && spArrs d.2.1.2.2.2.2.1) && (decide (spWts d.2.2.1.2.2.2.2.1 < spFuel) && decide (spWts d.2.2.1.2.2.2.2.1 ≤ 4294967296)))))
    (.ret (.ret ((), ((spFItems (d.2.1.2.2.2.2.1.headD (.mk ([], (0, (0, (0, ())))) [])) d.1.1 d.2.2.1.2.2.2.2.1, ()), (d.2.2.2.1, ()))))) .no
noncomputable def FvFill_13 (d : lovFill_13.st.den) : Tr (DenX lovFill_13.xs) :=
  .ite ((decide (d.1.2.2.1 = 0) && decide (d.1.2.2.2.1 = 0)) && (decide (d.1.2.1.length = 0) && ((decide (d.2.1.2.2.2.2.1.length ≤ 16) && spArrs d.2.1.2.2.2.2.1) && (decide (spWts d.2.2.1.2.2.2.2.1 < spFuel) && decide (spWts d.2.2.1.2.2.2.2.1 ≤ 4294967296)))))
    (.ret (.ret ((), ((spFZip d.1.1 d.2.1.2.2.2.2.1 d.2.2.1.2.2.2.2.1, ()), (d.2.2.2.1, ()))))) .no
noncomputable def lpvFill : Lp := lpT [(5, loHd lovFill_5 FvFill_5), (13, loHd lovFill_13 FvFill_13)]
noncomputable def stepvFill_5 {R : Type} (h3 : Int) (h4 : List (((Ty.int IntKind.i64).prod ((Ty.int IntKind.i64).prod (Ty.bool.prod ((Ty.sl 5 (Ty.int IntKind.u8)).prod Ty.unit)))).tree 68).den) (h5 : Int) (h6 : List Int) (h7 : Int) (h8 : Int) (h9 : Int) (h10 : List (Fd)) (h11 : Int) (h12 : Int) (h13 : Bool) (h14 : List Int) (h15 : List (Nd)) (h16 : Int) (h17 : Int) (h18 : Bool) (h19 : List Int) (h20 : List (((Ty.int IntKind.i64).prod ((Ty.int IntKind.i64).prod (Ty.bool.prod ((Ty.sl 5 (Ty.int IntKind.u8)).prod Ty.unit)))).tree 68).den) (next : Int → List (((Ty.int IntKind.i64).prod ((Ty.int IntKind.i64).prod (Ty.bool.prod ((Ty.sl 5 (Ty.int IntKind.u8)).prod Ty.unit)))).tree 68).den → Int → List Int → Int → Int → Int → List (Fd) → Int → Int → Bool → List Int → List (Nd) → Int → Int → Bool → List Int → List (((Ty.int IntKind.i64).prod ((Ty.int IntKind.i64).prod (Ty.bool.prod ((Ty.sl 5 (Ty.int IntKind.u8)).prod Ty.unit)))).tree 68).den → Option R) (out : DenX lovFill_5.xs → Option R) : Option R := bif decide (h5 < (↑h15.length : Int)) then bif decide (0 ≤ 0) && decide (0 < (↑h10.length : Int)) then bif decide (0 ≤ h5) && decide (h5 < (↑h15.length : Int)) then bif decide (spWt (Tre.mk (h15.getD h5.toNat (Tre.mk (0, 0, false, [], ()) [])).1 (h15.getD h5.toNat (Tre.mk (0, 0, false, [], ()) [])).2) < spFuel) && (spArr (Tre.mk (h10.getD (Int.toNat 0) (Tre.mk ([], 0, 0, 0, ()) [])).1 (h10.getD (Int.toNat 0) (Tre.mk ([], 0, 0, 0, ()) [])).2) && decide (spWt (Tre.mk (h15.getD h5.toNat (Tre.mk (0, 0, false, [], ()) [])).1 (h15.getD h5.toNat (Tre.mk (0, 0, false, [], ()) [])).2) ≤ 4294967296)) then bif decide (h4.length + 1 ≤ 4294967296) then next (h3) (h4 ++ [Tre.mk (spFill (Tre.mk (h10.getD (Int.toNat 0) (Tre.mk ([], 0, 0, 0, ()) [])).1 (h10.getD (Int.toNat 0) (Tre.mk ([], 0, 0, 0, ()) [])).2) h3 (Tre.mk (h15.getD h5.toNat (Tre.mk (0, 0, false, [], ()) [])).1 (h15.getD h5.toNat (Tre.mk (0, 0, false, [], ()) [])).2)).1 (spFill (Tre.mk (h10.getD (Int.toNat 0) (Tre.mk ([], 0, 0, 0, ()) [])).1 (h10.getD (Int.toNat 0) (Tre.mk ([], 0, 0, 0, ()) [])).2) h3 (Tre.mk (h15.getD h5.toNat (Tre.mk (0, 0, false, [], ()) [])).1 (h15.getD h5.toNat (Tre.mk (0, 0, false, [], ()) [])).2)).2]) (IntKind.i64.wrap (h5 + 1)) (h6) (h7) (h8) (h9) (h10) (h11) (h12) (h13) (h14) (h15) (h16) (h17) (h18) (h19) (h20) else none else none else none else none else out (.ret ((), ((h4, ()), ((h16, (h17, (h18, (h19, (h20, ()))))), ()))))
noncomputable def itvFill_5 (n : Nat) (h3 : Int) (h4 : List (((Ty.int IntKind.i64).prod ((Ty.int IntKind.i64).prod (Ty.bool.prod ((Ty.sl 5 (Ty.int IntKind.u8)).prod Ty.unit)))).tree 68).den) (h5 : Int) (h6 : List Int) (h7 : Int) (h8 : Int) (h9 : Int) (h10 : List (Fd)) (h11 : Int) (h12 : Int) (h13 : Bool) (h14 : List Int) (h15 : List (Nd)) (h16 : Int) (h17 : Int) (h18 : Bool) (h19 : List Int) (h20 : List (((Ty.int IntKind.i64).prod ((Ty.int IntKind.i64).prod (Ty.bool.prod ((Ty.sl 5 (Ty.int IntKind.u8)).prod Ty.unit)))).tree 68).den) : Option (DenX lovFill_5.xs) := lpN tt hdvFill dr lpvFill 0 Go.Proofs.Tryz.f108 (topL Go.Proofs.Tryz.f108 0) n (lovFill_5.st.mk' ((h3, (h4, (h5, ()))), ((h6, (h7, (h8, (h9, (h10, ()))))), ((h11, (h12, (h13, (h14, (h15, ()))))), ((h16, (h17, (h18, (h19, (h20, ()))))), ()))))) (decX lovFill_5.xs)
theorem slvFill_5 (n : Nat) (h3 : Int) (h4 : List (((Ty.int IntKind.i64).prod ((Ty.int IntKind.i64).prod (Ty.bool.prod ((Ty.sl 5 (Ty.int IntKind.u8)).prod Ty.unit)))).tree 68).den) (h5 : Int) (h6 : List Int) (h7 : Int) (h8 : Int) (h9 : Int) (h10 : List (Fd)) (h11 : Int) (h12 : Int) (h13 : Bool) (h14 : List Int) (h15 : List (Nd)) (h16 : Int) (h17 : Int) (h18 : Bool) (h19 : List Int) (h20 : List (((Ty.int IntKind.i64).prod ((Ty.int IntKind.i64).prod (Ty.bool.prod ((Ty.sl 5 (Ty.int IntKind.u8)).prod Ty.unit)))).tree 68).den) : itvFill_5 (n + 1) h3 h4 h5 h6 h7 h8 h9 h10 h11 h12 h13 h14 h15 h16 h17 h18 h19 h20 = stepvFill_5 h3 h4 h5 h6 h7 h8 h9 h10 h11 h12 h13 h14 h15 h16 h17 h18 h19 h20 (itvFill_5 n) some := by kernel_rfl
noncomputable def stepvFill_13 {R : Type} (h51 : Int) (h52 : List (((Ty.int IntKind.i64).prod ((Ty.int IntKind.i64).prod (Ty.bool.prod ((Ty.sl 5 (Ty.int IntKind.u8)).prod Ty.unit)))).tree 68).den) (h53 : Int) (h54 : Int) (h55 : List Int) (h56 : Int) (h57 : Int) (h58 : Int) (h59 : List (Fd)) (h60 : Int) (h61 : Int) (h62 : Bool) (h63 : List Int) (h64 : List (Nd)) (h65 : Int) (h66 : Int) (h67 : Bool) (h68 : List Int) (h69 : List (((Ty.int IntKind.i64).prod ((Ty.int IntKind.i64).prod (Ty.bool.prod ((Ty.sl 5 (Ty.int IntKind.u8)).prod Ty.unit)))).tree 68).den) (next : Int → List (((Ty.int IntKind.i64).prod ((Ty.int IntKind.i64).prod (Ty.bool.prod ((Ty.sl 5 (Ty.int IntKind.u8)).prod Ty.unit)))).tree 68).den → Int → Int → List Int → Int → Int → Int → List (Fd) → Int → Int → Bool → List Int → List (Nd) → Int → Int → Bool → List Int → List (((Ty.int IntKind.i64).prod ((Ty.int IntKind.i64).prod (Ty.bool.prod ((Ty.sl 5 (Ty.int IntKind.u8)).prod Ty.unit)))).tree 68).den → Option R) (out : DenX lovFill_13.xs → Option R) : Option R := bif decide (h54 < (↑h59.length : Int)) then bif decide (0 ≤ h54) && decide (h54 < (↑h59.length : Int)) then bif spHas (Tre.mk (h59.getD h54.toNat (Tre.mk ([], 0, 0, 0, ()) [])).1 (h59.getD h54.toNat (Tre.mk ([], 0, 0, 0, ()) [])).2) h51 then bif decide (h53 < (↑h64.length : Int)) then bif decide (0 ≤ h54) && decide (h54 < (↑h59.length : Int)) then bif decide (0 ≤ h53) && decide (h53 < (↑h64.length : Int)) then bif decide (spWt (Tre.mk (h64.getD h53.toNat (Tre.mk (0, 0, false, [], ()) [])).1 (h64.getD h53.toNat (Tre.mk (0, 0, false, [], ()) [])).2) < spFuel) && (spArr (Tre.mk (h59.getD h54.toNat (Tre.mk ([], 0, 0, 0, ()) [])).1 (h59.getD h54.toNat (Tre.mk ([], 0, 0, 0, ()) [])).2) && decide (spWt (Tre.mk (h64.getD h53.toNat (Tre.mk (0, 0, false, [], ()) [])).1 (h64.getD h53.toNat (Tre.mk (0, 0, false, [], ()) [])).2) ≤ 4294967296)) then bif decide (h52.length + 1 ≤ 4294967296) then next (h51) (h52 ++ [Tre.mk (spFill (Tre.mk (h59.getD h54.toNat (Tre.mk ([], 0, 0, 0, ()) [])).1 (h59.getD h54.toNat (Tre.mk ([], 0, 0, 0, ()) [])).2) h51 (Tre.mk (h64.getD h53.toNat (Tre.mk (0, 0, false, [], ()) [])).1 (h64.getD h53.toNat (Tre.mk (0, 0, false, [], ()) [])).2)).1 (spFill (Tre.mk (h59.getD h54.toNat (Tre.mk ([], 0, 0, 0, ()) [])).1 (h59.getD h54.toNat (Tre.mk ([], 0, 0, 0, ()) [])).2) h51 (Tre.mk (h64.getD h53.toNat (Tre.mk (0, 0, false, [], ()) [])).1 (h64.getD h53.toNat (Tre.mk (0, 0, false, [], ()) [])).2)).2]) (IntKind.i64.wrap (h53 + 1)) (IntKind.i64.wrap (h54 + 1)) (h55) (h56) (h57) (h58) (h59) (h60) (h61) (h62) (h63) (h64) (h65) (h66) (h67) (h68) (h69) else none else none else none else none else bif decide (0 ≤ h54) && decide (h54 < (↑h59.length : Int)) then bif decide (h52.length + 1 ≤ 4294967296) then next (h51) (h52 ++ [Tre.mk ((h59.getD h54.toNat (Tre.mk ([], 0, 0, 0, ()) [])).1.snd.fst, 0, false, [], ()) []]) (h53) (IntKind.i64.wrap (h54 + 1)) (h55) (h56) (h57) (h58) (h59) (h60) (h61) (h62) (h63) (h64) (h65) (h66) (h67) (h68) (h69) else none else none else bif decide (0 ≤ h54) && decide (h54 < (↑h59.length : Int)) then bif decide (h52.length + 1 ≤ 4294967296) then next (h51) (h52 ++ [Tre.mk ((h59.getD h54.toNat (Tre.mk ([], 0, 0, 0, ()) [])).1.snd.fst, 0, false, [], ()) []]) (h53) (IntKind.i64.wrap (h54 + 1)) (h55) (h56) (h57) (h58) (h59) (h60) (h61) (h62) (h63) (h64) (h65) (h66) (h67) (h68) (h69) else none else none else none else out (.ret ((), ((h52, ()), ((h65, (h66, (h67, (h68, (h69, ()))))), ()))))
noncomputable def itvFill_13 (n : Nat) (h51 : Int) (h52 : List (((Ty.int IntKind.i64).prod ((Ty.int IntKind.i64).prod (Ty.bool.prod ((Ty.sl 5 (Ty.int IntKind.u8)).prod Ty.unit)))).tree 68).den) (h53 : Int) (h54 : Int) (h55 : List Int) (h56 : Int) (h57 : Int) (h58 : Int) (h59 : List (Fd)) (h60 : Int) (h61 : Int) (h62 : Bool) (h63 : List Int) (h64 : List (Nd)) (h65 : Int) (h66 : Int) (h67 : Bool) (h68 : List Int) (h69 : List (((Ty.int IntKind.i64).prod ((Ty.int IntKind.i64).prod (Ty.bool.prod ((Ty.sl 5 (Ty.int IntKind.u8)).prod Ty.unit)))).tree 68).den) : Option (DenX lovFill_13.xs) := lpN tt hdvFill dr lpvFill 0 Go.Proofs.Tryz.f108 (topL Go.Proofs.Tryz.f108 1) n (lovFill_13.st.mk' ((h51, (h52, (h53, (h54, ())))), ((h55, (h56, (h57, (h58, (h59, ()))))), ((h60, (h61, (h62, (h63, (h64, ()))))), ((h65, (h66, (h67, (h68, (h69, ()))))), ()))))) (decX lovFill_13.xs)
theorem slvFill_13 (n : Nat) (h51 : Int) (h52 : List (((Ty.int IntKind.i64).prod ((Ty.int IntKind.i64).prod (Ty.bool.prod ((Ty.sl 5 (Ty.int IntKind.u8)).prod Ty.unit)))).tree 68).den) (h53 : Int) (h54 : Int) (h55 : List Int) (h56 : Int) (h57 : Int) (h58 : Int) (h59 : List (Fd)) (h60 : Int) (h61 : Int) (h62 : Bool) (h63 : List Int) (h64 : List (Nd)) (h65 : Int) (h66 : Int) (h67 : Bool) (h68 : List Int) (h69 : List (((Ty.int IntKind.i64).prod ((Ty.int IntKind.i64).prod (Ty.bool.prod ((Ty.sl 5 (Ty.int IntKind.u8)).prod Ty.unit)))).tree 68).den) : itvFill_13 (n + 1) h51 h52 h53 h54 h55 h56 h57 h58 h59 h60 h61 h62 h63 h64 h65 h66 h67 h68 h69 = stepvFill_13 h51 h52 h53 h54 h55 h56 h57 h58 h59 h60 h61 h62 h63 h64 h65 h66 h67 h68 h69 (itvFill_13 n) some := by kernel_rfl
theorem loopvFill_5 {f0 : Fd} {fs : List Fd} {ks : List Nd} {v : Int} (ha : spArr f0 = true) (hf : spWts ks < spFuel) (hb : spWts ks ≤ 4294967296) (nm : List Int) (k' lo hi a b : Int) (z : Bool) (x : List Int) (a' b' : Int) (z' : Bool) (x' : List Int) (l' : List Nd) : ∀ (k j : Nat) (o : List Nd), ks.length < j + k → j ≤ ks.length → o.length ≤ j →
    itvFill_5 k v o j nm k' lo hi (f0 :: fs) a b z x ks a' b' z' x' l' = some (.ret ((), (((o ++ spFItems f0 v (ks.drop j)), ()), ((a', (b', (z', (x', (l', ()))))), ())))) := by
  intro k
  induction k with
  | zero => intro j o h1 h2; omega
  | succ k ih =>
    intro j o h1 h2 h3
    rw [slvFill_5]
    unfold stepvFill_5
    have hlen := spWts_len ks
    by_cases hj : j < ks.length
    · refine (bif_true (decide_eq_true (show (j : Int) < (ks.length : Int) by omega)) _ _).trans ?_
      refine (bif_true (by simp) _ _).trans ?_
      refine (bif_true (by simp; omega) _ _).trans ?_
      have hmem := spWt_mem (List.getElem_mem hj)
      have hd : ks.drop j = ks[j] :: ks.drop (j + 1) := List.drop_eq_getElem_cons hj
      have ih' := ih (j + 1) (o ++ [spFill f0 v ks[j]]) (by omega) (by omega) (by simp; omega)
      rw [hd, spFItems]
      rw [wrap_i64 (n := (j : Int) + 1) (by omega) (by omega)]
      simp only [Int.toNat_natCast, getD_lt hj]
      generalize ks[j] = u at hmem ih' ⊢
      obtain ⟨ul, uk⟩ := u
      obtain ⟨fl, fk⟩ := f0
      refine (bif_true (show (decide (spWt (Tre.mk ul uk) < spFuel) && (spArr (Tre.mk fl fk) && decide (spWt (Tre.mk ul uk) ≤ 4294967296))) = true by rw [ha]; simp; omega) _ _).trans ?_
      refine (bif_true (decide_eq_true (show o.length + 1 ≤ 4294967296 by omega)) _ _).trans ?_
      show itvFill_5 k v (o ++ [Tre.mk (spFill (Tre.mk fl fk) v (Tre.mk ul uk)).1 (spFill (Tre.mk fl fk) v (Tre.mk ul uk)).2]) _ _ _ _ _ _ _ _ _ _ _ _ _ _ _ _ = _
      generalize spFill (Tre.mk fl fk) v (Tre.mk ul uk) = r at ih' ⊢
      obtain ⟨rl, rk⟩ := r
      refine ih'.trans ?_; simp
    · refine (bif_false (decide_eq_false (show ¬ (j : Int) < (ks.length : Int) by omega)) _ _).trans ?_
      rw [List.drop_of_length_le (by omega), spFItems, List.append_nil]
theorem loopvFill_13 {fs : List Fd} {ks : List Nd} {v : Int} (hl : fs.length ≤ 16) (ha : spArrs fs = true) (hf : spWts ks < spFuel) (hb : spWts ks ≤ 4294967296) (nm : List Int) (k' lo hi a b : Int) (z : Bool) (x : List Int) (a' b' : Int) (z' : Bool) (x' : List Int) (l' : List Nd) : ∀ (k j m : Nat) (o : List Nd), fs.length < j + k → j ≤ fs.length → m ≤ j → o.length ≤ j →
    itvFill_13 k v o m j nm k' lo hi fs a b z x ks a' b' z' x' l' = some (.ret ((), (((o ++ spFZip v (fs.drop j) (ks.drop m)), ()), ((a', (b', (z', (x', (l', ()))))), ())))) := by
  intro k
  induction k with
  | zero => intro j m o h1 h2; omega
  | succ k ih =>
    intro j m o h1 h2 hm h3
    rw [slvFill_13]
    unfold stepvFill_13
    have hlen := spWts_len ks
    by_cases hj' : j < fs.length
    · refine (bif_true (decide_eq_true (show (j : Int) < (fs.length : Int) by omega)) _ _).trans ?_
      refine (bif_true (by simp; omega) _ _).trans ?_
      have har := spArrs_mem ha (List.getElem_mem hj')
      have hd' : fs.drop j = fs[j] :: fs.drop (j + 1) := List.drop_eq_getElem_cons hj'
      have ih2 := fun x => ih (j + 1) m (o ++ [x]) (by omega) (by omega) (by omega) (by simp; omega)
      rw [hd']
      rw [wrap_i64 (n := (j : Int) + 1) (by omega) (by omega), wrap_i64 (n := (m : Int) + 1) (by omega) (by omega)]
      by_cases hmk : m < ks.length
      · have hmem := spWt_mem (List.getElem_mem hmk)
        have hd : ks.drop m = ks[m] :: ks.drop (m + 1) := List.drop_eq_getElem_cons hmk
        have ih1 := ih (j + 1) (m + 1) (o ++ [spFill fs[j] v ks[m]]) (by omega) (by omega) (by omega) (by simp; omega)
        rw [hd] at ih2 ⊢
        rw [spFZip]
        simp only [Int.toNat_natCast, getD_lt hmk, getD_lt hj']
        generalize ks[m] = u at hmem ih1 ih2 ⊢
        generalize fs[j] = f0 at har ih1 ⊢
        obtain ⟨ul, uk⟩ := u
        obtain ⟨fl, fk⟩ := f0
        by_cases hh : spHas (Tre.mk fl fk) v = true
        · refine (bif_true (show spHas (Tre.mk fl fk) v = true from hh) _ _).trans ?_
          refine (bif_true (decide_eq_true (show (m : Int) < (ks.length : Int) by omega)) _ _).trans ?_
          refine (bif_true (by simp; omega) _ _).trans ?_
          refine (bif_true (by simp; omega) _ _).trans ?_
          refine (bif_true (show (decide (spWt (Tre.mk ul uk) < spFuel) && (spArr (Tre.mk fl fk) && decide (spWt (Tre.mk ul uk) ≤ 4294967296))) = true by rw [har]; simp; omega) _ _).trans ?_
          refine (bif_true (decide_eq_true (show o.length + 1 ≤ 4294967296 by omega)) _ _).trans ?_
          rw [if_pos hh]
          show itvFill_13 k v (o ++ [Tre.mk (spFill (Tre.mk fl fk) v (Tre.mk ul uk)).1 (spFill (Tre.mk fl fk) v (Tre.mk ul uk)).2]) _ _ _ _ _ _ _ _ _ _ _ _ _ _ _ _ _ = _
          generalize spFill (Tre.mk fl fk) v (Tre.mk ul uk) = r at ih1 ⊢
          obtain ⟨rl, rk⟩ := r
          refine ih1.trans ?_; simp
        · refine (bif_false (show spHas (Tre.mk fl fk) v = false by simpa using hh) _ _).trans ?_
          refine (bif_true (by simp; omega) _ _).trans ?_
          refine (bif_true (decide_eq_true (show o.length + 1 ≤ 4294967296 by omega)) _ _).trans ?_
          rw [if_neg hh]
          refine (ih2 _).trans ?_; simp
      · have hd : ks.drop m = [] := List.drop_of_length_le (by omega)
        rw [hd] at ih2 ⊢
        rw [spFZip]
        simp only [Int.toNat_natCast, getD_lt hj']
        generalize fs[j] = f0 at har ⊢
        obtain ⟨fl, fk⟩ := f0
        by_cases hh : spHas (Tre.mk fl fk) v = true
        · refine (bif_true (show spHas (Tre.mk fl fk) v = true from hh) _ _).trans ?_
          refine (bif_false (decide_eq_false (show ¬ (m : Int) < (ks.length : Int) by omega)) _ _).trans ?_
          refine (bif_true (by simp; omega) _ _).trans ?_
          refine (bif_true (decide_eq_true (show o.length + 1 ≤ 4294967296 by omega)) _ _).trans ?_
          refine (ih2 _).trans ?_; simp
        · refine (bif_false (show spHas (Tre.mk fl fk) v = false by simpa using hh) _ _).trans ?_
          refine (bif_true (by simp; omega) _ _).trans ?_
          refine (bif_true (decide_eq_true (show o.length + 1 ≤ 4294967296 by omega)) _ _).trans ?_
          refine (ih2 _).trans ?_; simp
    · refine (bif_false (decide_eq_false (show ¬ (j : Int) < (fs.length : Int) by omega)) _ _).trans ?_
      rw [List.drop_of_length_le (show fs.length ≤ j by omega), spFZip, List.append_nil]
noncomputable def bodyvFill (a0 : Fd) (a1 : Int) (a2 : Nd) : Option iovFill.Res := bif a0.1.snd.fst == 9 then (FvFill_5 ((a1, ([], (0, ()))), ((a0.1.fst, (a0.1.snd.fst, (a0.1.snd.snd.fst, (a0.1.snd.snd.snd.fst, (a0.2, ()))))), ((a2.1.fst, (a2.1.snd.fst, (a2.1.snd.snd.fst, (a2.1.snd.snd.snd.fst, (a2.2, ()))))), ((0, (0, (false, ([], ([], ()))))), ()))))).run fun y => match y with | .ret ((), ((x45, ()), (x46, x47, x48, x49, x50, ()), ())) => (some (Out.ret ((Tre.mk (9, 0, false, [], ()) x45, ()), ()))) else bif a0.1.snd.fst != 10 then some (Out.ret ((Tre.mk a2.1 a2.2, ()), ())) else (FvFill_13 ((a1, ([], (0, (0, ())))), ((a0.1.fst, (a0.1.snd.fst, (a0.1.snd.snd.fst, (a0.1.snd.snd.snd.fst, (a0.2, ()))))), ((a2.1.fst, (a2.1.snd.fst, (a2.1.snd.snd.fst, (a2.1.snd.snd.snd.fst, (a2.2, ()))))), ((0, (0, (false, ([], ([], ()))))), ()))))).run fun y => match y with | .ret ((), ((x133, ()), (x134, x135, x136, x137, x138, ()), ())) => (some (Out.ret ((Tre.mk (10, 0, false, [], ()) x133, ()), ())))
theorem runvFill (a0 : Fd) (a1 : Int) (a2 : Nd) : Io.run tt hdvFill dr lpvFill iovFill Go.Proofs.Tryz.f108 ((a0, a1, a2, ()), ()) = bodyvFill a0 a1 a2 := by kernel_rfl
theorem okvFillS (rvFill : HcOk prog 108 (ioHd iovFill (FvFillN spFuel))) : HcOk prog 108 (ioHd iovFill (FvFillN (spFuel + 1))) := by
  refine fn_sound (n := 400) hm (cs := csvFill) (.cons rvFill (.cons oktHere1 .nil)) (lp := lpvFill) (fn := Go.Proofs.Tryz.f108) (by kernel_rfl) (by kernel_rfl) (by kernel_rfl) iovFill (.step (h0 := loHd lovFill_5 FvFill_5) (by kernel_rfl) (loop_sound (n := 400) hm (cs := csvFill) (.cons rvFill (.cons oktHere1 .nil)) (lp := lpvFill) (fn := Go.Proofs.Tryz.f108) (.done (by kernel_rfl)) lovFill_5 FvFill_5 ?_) (.step (h0 := loHd lovFill_13 FvFill_13) (by kernel_rfl) (loop_sound (n := 400) hm (cs := csvFill) (.cons rvFill (.cons oktHere1 .nil)) (lp := lpvFill) (fn := Go.Proofs.Tryz.f108) (.done (by kernel_rfl)) lovFill_13 FvFill_13 ?_) (.done (by kernel_rfl)))) (FvFillN (spFuel + 1)) ?_
  · rintro ⟨⟨(v : Int), (o : List Nd), (i : Int), ⟨⟩⟩, ⟨⟨(nm : List Int), (k' : Int), (lo : Int), (hi : Int), (fs : List Fd), ⟨⟩⟩, ⟨(a : Int), (b : Int), (z : Bool), (x : List Int), (ks : List Nd), ⟨⟩⟩, ⟨(a' : Int), (b' : Int), (z' : Bool), (x' : List Int), (l' : List Nd), ⟨⟩⟩, ⟨⟩⟩⟩ y hw hy
    obtain ⟨hg, hy⟩ := Tr.guard hy
    simp only [Bool.and_eq_true, decide_eq_true_eq] at hg
    obtain ⟨h1, h2, ⟨h3, h4⟩, h5, h6⟩ := hg
    have h1 : i = 0 := h1
    have h2 : o = [] := List.eq_nil_of_length_eq_zero h2
    have h3 : fs.length ≠ 0 := h3
    have h4 : spArrs fs = true := h4
    have h5 : spWts ks < spFuel := h5
    have h6 : spWts ks ≤ 4294967296 := h6
    subst h1
    subst h2
    obtain ⟨f0, fs, rfl⟩ : ∃ f0 fs', fs = f0 :: fs' := by cases fs with | nil => exact absurd rfl h3 | cons a b => exact ⟨a, b, rfl⟩
    refine ⟨ks.length + 1, (loopvFill_5 (spArrs_mem h4 (by simp)) h5 h6 nm k' lo hi a b z x a' b' z' x' l' (ks.length + 1) 0 [] (by omega) (by omega) (by simp)).trans ?_⟩
    rw [← hy, List.drop_zero]
    rfl
  · rintro ⟨⟨(v : Int), (o : List Nd), (m : Int), (i : Int), ⟨⟩⟩, ⟨⟨(nm : List Int), (k' : Int), (lo : Int), (hi : Int), (fs : List Fd), ⟨⟩⟩, ⟨(a : Int), (b : Int), (z : Bool), (x : List Int), (ks : List Nd), ⟨⟩⟩, ⟨(a' : Int), (b' : Int), (z' : Bool), (x' : List Int), (l' : List Nd), ⟨⟩⟩, ⟨⟩⟩⟩ y hw hy
    obtain ⟨hg, hy⟩ := Tr.guard hy
    simp only [Bool.and_eq_true, decide_eq_true_eq] at hg
    obtain ⟨⟨h0, h1⟩, h2, ⟨h3, h4⟩, h5, h6⟩ := hg
    have h0 : m = 0 := h0
    have h1 : i = 0 := h1
    have h2 : o = [] := List.eq_nil_of_length_eq_zero h2
    have h3 : fs.length ≤ 16 := h3
    have h4 : spArrs fs = true := h4
    have h5 : spWts ks < spFuel := h5
    have h6 : spWts ks ≤ 4294967296 := h6
    subst h0
    subst h1
    subst h2
    refine ⟨fs.length + 1, (loopvFill_13 h3 h4 h5 h6 nm k' lo hi a b z x a' b' z' x' l' (fs.length + 1) 0 0 [] (by omega) (by omega) (by omega) (by simp)).trans ?_⟩
    rw [← hy, List.drop_zero, List.drop_zero]
    rfl
  · rintro ⟨⟨(f : Fd), (v : Int), (n : Nd), ⟨⟩⟩, ⟨⟩⟩ out hw ho
    obtain ⟨hg, ho⟩ := Tr.guard ho
    simp only [Bool.and_eq_true, decide_eq_true_eq] at hg
    obtain ⟨hk, ha, hb⟩ := hg
    have hk : spWt n < spFuel + 1 := hk
    have ha : spArr f = true := ha
    have hb : spWt n ≤ 4294967296 := hb
    cases ho
    refine (runvFill f v n).trans ?_
    unfold bodyvFill
    show _ = some (Out.ret ((spFill f v n, ()), ()))
    obtain ⟨⟨(nm : List Int), (k' : Int), (lo : Int), (hi : Int), ⟨⟩⟩, (fs : List Fd)⟩ := f
    obtain ⟨⟨(a : Int), (b : Int), (z : Bool), (x : List Int), ⟨⟩⟩, (ks : List Nd)⟩ := n
    have hwf := spWt_eq (Tre.mk (a, (b, (z, (x, ())))) ks)
    have hwf : spWt (Tre.mk (a, (b, (z, (x, ())))) ks) = 1 + x.length + spWts ks := hwf
    have hk : 1 + x.length + spWts ks < spFuel + 1 := by rw [← hwf]; exact hk
    have hb : 1 + x.length + spWts ks ≤ 4294967296 := by rw [← hwf]; exact hb
    rw [spArr_eq] at ha
    simp only [Bool.and_eq_true] at ha
    obtain ⟨⟨ha1, ha3⟩, ha2⟩ := ha
    have ha2 : spArrs fs = true := ha2
    have ha3 : fs.length ≤ 16 := of_decide_eq_true ha3
    rw [spFill]
    by_cases h9 : k' = 9
    · rw [if_pos h9]
      refine (bif_true (by simpa using h9) _ _).trans ?_
      have h0 : fs.length ≠ 0 := by
        rcases Bool.or_eq_true _ _ ▸ ha1 with h | h
        · exact absurd h9 (of_decide_eq_true h)
        · exact of_decide_eq_true h
      obtain ⟨f0, fs, rfl⟩ : ∃ f0 fs', fs = f0 :: fs' := by cases fs with | nil => exact absurd rfl h0 | cons a b => exact ⟨a, b, rfl⟩
      have c1 : (decide ((0 : Int) = 0) && (decide (([] : List Nd).length = 0) && ((decide ((f0 :: fs).length ≠ 0) && spArrs (f0 :: fs)) && (decide (spWts ks < spFuel) && decide (spWts ks ≤ 4294967296))))) = true := by
        rw [ha2]; simp; omega
      exact bif_true c1 _ _
    rw [if_neg h9]
    refine (bif_false (by simpa using h9) _ _).trans ?_
    by_cases h10 : k' = 10
    · rw [if_pos h10]
      refine (bif_false (by simpa using h10) _ _).trans ?_
      have c1 : ((decide ((0 : Int) = 0) && decide ((0 : Int) = 0)) && (decide (([] : List Nd).length = 0) && ((decide (fs.length ≤ 16) && spArrs fs) && (decide (spWts ks < spFuel) && decide (spWts ks ≤ 4294967296))))) = true := by
        rw [ha2]; simp; omega
      exact bif_true c1 _ _
    · rw [if_neg h10]
      exact bif_true (by simpa using h10) _ _
end
theorem okvFillN (n : Nat) : HcOk prog 108 (ioHd iovFill (FvFillN n)) := by
  induction n with
  | zero => exact HcOk.none (fn := Go.Proofs.Tryz.f108) (by kernel_rfl) (by kernel_rfl) (by kernel_rfl) _ _ fun d out h => by cases h
  | succ n ih =>
    have := @okvFillS ⟨⟨n⟩⟩ (by rw [FuT.val]; exact ih)
    rw [FuT.val] at this
    exact this
theorem okvFill : HcOk prog 108 (ioHd iovFill FvFill) := by
  refine HcOk.lim okvFillN fun d => ⟨spWt d.1.2.2.1 + 1, fun out h => ?_⟩
  obtain ⟨hg, h⟩ := Tr.guard h
  exact (bif_true (by rw [hg]; simp) _ _).trans h
end
end Go.Proofs.YtmlgepgcofmpeaaGreat.Sym

/- leatref10: the tables, EncodeWhole. -/
namespace Go.Proofs.YtmlgepgcofmpeaaGreat.Sym
open Go
set_option linter.unusedSimpArgs false
set_option linter.unusedVariables false
noncomputable section

/-! ### leat/leatref10.one -/
noncomputable abbrev iotbOne : Io := ⟨[dS, dI, dI, dI], [], [], [dFld], none⟩
noncomputable def FtbOne (d : iotbOne.In) : Tr iotbOne.Res := .ret (.ret ((.mk (d.1.1, (d.1.2.1, (d.1.2.2.1, (d.1.2.2.2.1, ())))) [], ()), ()))
noncomputable abbrev cstbOne : List (Nat × Hc) := []
noncomputable def hdtbOne : Hd := hdT cstbOne
noncomputable def lptbOne : Lp := lpT []

noncomputable def bodytbOne (a0 : List Int) (a1 : Int) (a2 : Int) (a3 : Int) : Option iotbOne.Res := some (Out.ret ((Tre.mk (a0, a1, a2, a3, ()) [], ()), ()))
theorem runtbOne (a0 : List Int) (a1 : Int) (a2 : Int) (a3 : Int) : Io.run tt hdtbOne dr lptbOne iotbOne Go.Proofs.Tryz.f125 ((a0, a1, a2, a3, ()), ()) = bodytbOne a0 a1 a2 a3 := by kernel_rfl
theorem oktbOne : HcOk prog 125 (ioHd iotbOne FtbOne) := by
  refine fn_sound (n := 400) hm (cs := cstbOne) HcsOk.nil (lp := lptbOne) (fn := Go.Proofs.Tryz.f125) (by kernel_rfl) (by kernel_rfl) (by kernel_rfl) iotbOne (.done (by kernel_rfl)) FtbOne ?_
  rintro ⟨⟨(a : List Int), (b : Int), (c : Int), (e : Int), ⟨⟩⟩, ⟨⟩⟩ out hw ho
  cases ho
  exact runtbOne a b c e

/-! ### leat/leatref10.topics -/
noncomputable abbrev iotbTopics : Io := ⟨[dFlds], [], [], [dFld], none⟩
abbrev fld (s : List Int) (k lo hi : Int) (e : List Fd) : Fd := Tre.mk (s, (k, (lo, (hi, ())))) e
def spTopics (part : List Fd) : Fd := fld [116, 111, 112, 105, 99, 115] 9 0 3 [fld [116, 111, 112, 105, 99] 10 0 3 [fld [110, 97, 109, 101] 5 0 3 [], fld [112, 97, 114, 116, 115] 9 0 3 [fld [112, 97, 114, 116] 10 0 3 part]]]
noncomputable def FtbTopics (d : iotbTopics.In) : Tr iotbTopics.Res := .ret (.ret ((spTopics d.1.1, ()), ()))
noncomputable abbrev cstbTopics : List (Nat × Hc) := [(125, ioHd iotbOne FtbOne)]
noncomputable def hdtbTopics : Hd := hdT cstbTopics
noncomputable def lptbTopics : Lp := lpT []

noncomputable def bodytbTopics (a0 : List tFld.den) : Option iotbTopics.Res := some (Out.ret ((Tre.mk ([116, 111, 112, 105, 99, 115], 9, 0, 3, ()) [Tre.mk ([116, 111, 112, 105, 99], 10, 0, 3, ()) [Tre.mk ([110, 97, 109, 101], 5, 0, 3, ()) [], Tre.mk ([112, 97, 114, 116, 115], 9, 0, 3, ()) [Tre.mk ([112, 97, 114, 116], 10, 0, 3, ()) a0]]], ()), ()))
theorem runtbTopics (a0 : List tFld.den) : Io.run tt hdtbTopics dr lptbTopics iotbTopics Go.Proofs.Tryz.f126 ((a0, ()), ()) = bodytbTopics a0 := by kernel_rfl
theorem oktbTopics : HcOk prog 126 (ioHd iotbTopics FtbTopics) := by
  refine fn_sound (n := 400) hm (cs := cstbTopics) (.cons oktbOne .nil) (lp := lptbTopics) (fn := Go.Proofs.Tryz.f126) (by kernel_rfl) (by kernel_rfl) (by kernel_rfl) iotbTopics (.done (by kernel_rfl)) FtbTopics ?_
  rintro ⟨⟨(a : List Fd), ⟨⟩⟩, ⟨⟩⟩ out hw ho
  cases ho
  exact runtbTopics a
/-! ### leat/leatref10.Table -/
noncomputable abbrev iotbTable : Io := ⟨[d16, dB], [], [], [dFlds, dI], none⟩
def spT0q : List Fd := [fld [116, 120, 110] 6 3 3 [], fld [97, 99, 107, 115] 2 0 3 [], fld [119, 97, 105, 116] 3 0 3 [], spTopics [fld [105, 110, 100, 101, 120] 3 0 3 [], fld [114, 101, 99, 115] 8 0 3 []]]
def spT0p : List Fd := [spTopics [fld [105, 110, 100, 101, 120] 3 0 3 [], fld [99, 111, 100, 101] 2 0 3 [], fld [98, 97, 115, 101] 4 0 3 [], fld [116, 105, 109, 101] 4 2 3 [], fld [115, 116, 97, 114, 116] 4 3 3 []], fld [116, 104, 114, 111, 116, 116, 108, 101] 3 1 3 []]
def spT1q : List Fd := [fld [114, 101, 112, 108, 105, 99, 97] 3 0 3 [], fld [119, 97, 105, 116] 3 0 3 [], fld [109, 105, 110] 3 0 3 [], fld [109, 97, 120] 3 1 3 [], fld [108, 101, 118, 101, 108] 1 2 3 [], spTopics [fld [105, 110, 100, 101, 120] 3 0 3 [], fld [101, 112, 111, 99, 104] 3 3 3 [], fld [111, 102, 102, 115, 101, 116] 4 0 3 [], fld [109, 97, 120] 3 0 3 []]]
def spT1p : List Fd := [fld [116, 104, 114, 111, 116, 116, 108, 101] 3 1 3 [], spTopics [fld [105, 110, 100, 101, 120] 3 0 3 [], fld [99, 111, 100, 101] 2 0 3 [], fld [104, 105, 103, 104] 4 0 3 [], fld [115, 116, 97, 98, 108, 101] 4 2 3 [], fld [115, 116, 97, 114, 116] 4 3 3 [], fld [114, 101, 99, 115] 8 0 3 []]]
def spT2q : List Fd := [fld [114, 101, 112, 108, 105, 99, 97] 3 0 3 [], fld [108, 101, 118, 101, 108] 1 2 3 [], spTopics [fld [105, 110, 100, 101, 120] 3 0 3 [], fld [101, 112, 111, 99, 104] 3 3 3 [], fld [116, 105, 109, 101] 4 0 3 [], fld [109, 111, 115, 116] 3 0 0 []]]
def spT2p : List Fd := [fld [116, 104, 114, 111, 116, 116, 108, 101] 3 2 3 [], spTopics [fld [105, 110, 100, 101, 120] 3 0 3 [], fld [99, 111, 100, 101] 2 0 3 [], fld [111, 102, 102, 115, 101, 116, 115] 9 0 0 [fld [111, 102, 102, 115, 101, 116] 4 0 0 []], fld [116, 105, 109, 101] 4 1 3 [], fld [111, 102, 102, 115, 101, 116] 4 1 3 [], fld [101, 112, 111, 99, 104] 3 3 3 []]]
noncomputable def spTab (k : Int) (r : Bool) : List Fd × Int :=
  if k = 0 then (if r = false then (spT0q, 0) else (spT0p, 0)) else if k = 1 then (if r = false then (spT1q, 0) else (spT1p, 0)) else if k = 2 then (if r = false then (spT2q, 0) else (spT2p, 0)) else ([], 160)
noncomputable def FtbTable (d : iotbTable.In) : Tr iotbTable.Res := .ret (.ret (((spTab d.1.1 d.1.2.1).1, ((spTab d.1.1 d.1.2.1).2, ())), ()))
noncomputable abbrev cstbTable : List (Nat × Hc) := [(125, ioHd iotbOne FtbOne), (126, ioHd iotbTopics FtbTopics)]
noncomputable def hdtbTable : Hd := hdT cstbTable
noncomputable def lptbTable : Lp := lpT []

noncomputable def bodytbTable (a0 : Int) (a1 : Bool) : Option iotbTable.Res := bif a0 == 0 then bif !a1 then some (Out.ret (([Tre.mk ([116, 120, 110], 6, 3, 3, ()) [], Tre.mk ([97, 99, 107, 115], 2, 0, 3, ()) [], Tre.mk ([119, 97, 105, 116], 3, 0, 3, ()) [], Tre.mk ([116, 111, 112, 105, 99, 115], 9, 0, 3, ()) [Tre.mk ([116, 111, 112, 105, 99], 10, 0, 3, ()) [Tre.mk ([110, 97, 109, 101], 5, 0, 3, ()) [], Tre.mk ([112, 97, 114, 116, 115], 9, 0, 3, ()) [Tre.mk ([112, 97, 114, 116], 10, 0, 3, ()) [Tre.mk ([105, 110, 100, 101, 120], 3, 0, 3, ()) [], Tre.mk ([114, 101, 99, 115], 8, 0, 3, ()) []]]]]], 0, ()), ())) else bif a0 == 0 then some (Out.ret (([Tre.mk ([116, 111, 112, 105, 99, 115], 9, 0, 3, ()) [Tre.mk ([116, 111, 112, 105, 99], 10, 0, 3, ()) [Tre.mk ([110, 97, 109, 101], 5, 0, 3, ()) [], Tre.mk ([112, 97, 114, 116, 115], 9, 0, 3, ()) [Tre.mk ([112, 97, 114, 116], 10, 0, 3, ()) [Tre.mk ([105, 110, 100, 101, 120], 3, 0, 3, ()) [], Tre.mk ([99, 111, 100, 101], 2, 0, 3, ()) [], Tre.mk ([98, 97, 115, 101], 4, 0, 3, ()) [], Tre.mk ([116, 105, 109, 101], 4, 2, 3, ()) [], Tre.mk ([115, 116, 97, 114, 116], 4, 3, 3, ()) []]]]], Tre.mk ([116, 104, 114, 111, 116, 116, 108, 101], 3, 1, 3, ()) []], 0, ()), ())) else bif a0 == 1 then bif !a1 then some (Out.ret (([Tre.mk ([114, 101, 112, 108, 105, 99, 97], 3, 0, 3, ()) [], Tre.mk ([119, 97, 105, 116], 3, 0, 3, ()) [], Tre.mk ([109, 105, 110], 3, 0, 3, ()) [], Tre.mk ([109, 97, 120], 3, 1, 3, ()) [], Tre.mk ([108, 101, 118, 101, 108], 1, 2, 3, ()) [], Tre.mk ([116, 111, 112, 105, 99, 115], 9, 0, 3, ()) [Tre.mk ([116, 111, 112, 105, 99], 10, 0, 3, ()) [Tre.mk ([110, 97, 109, 101], 5, 0, 3, ()) [], Tre.mk ([112, 97, 114, 116, 115], 9, 0, 3, ()) [Tre.mk ([112, 97, 114, 116], 10, 0, 3, ()) [Tre.mk ([105, 110, 100, 101, 120], 3, 0, 3, ()) [], Tre.mk ([101, 112, 111, 99, 104], 3, 3, 3, ()) [], Tre.mk ([111, 102, 102, 115, 101, 116], 4, 0, 3, ()) [], Tre.mk ([109, 97, 120], 3, 0, 3, ()) []]]]]], 0, ()), ())) else bif a0 == 1 then some (Out.ret (([Tre.mk ([116, 104, 114, 111, 116, 116, 108, 101], 3, 1, 3, ()) [], Tre.mk ([116, 111, 112, 105, 99, 115], 9, 0, 3, ()) [Tre.mk ([116, 111, 112, 105, 99], 10, 0, 3, ()) [Tre.mk ([110, 97, 109, 101], 5, 0, 3, ()) [], Tre.mk ([112, 97, 114, 116, 115], 9, 0, 3, ()) [Tre.mk ([112, 97, 114, 116], 10, 0, 3, ()) [Tre.mk ([105, 110, 100, 101, 120], 3, 0, 3, ()) [], Tre.mk ([99, 111, 100, 101], 2, 0, 3, ()) [], Tre.mk ([104, 105, 103, 104], 4, 0, 3, ()) [], Tre.mk ([115, 116, 97, 98, 108, 101], 4, 2, 3, ()) [], Tre.mk ([115, 116, 97, 114, 116], 4, 3, 3, ()) [], Tre.mk ([114, 101, 99, 115], 8, 0, 3, ()) []]]]]], 0, ()), ())) else bif a0 == 2 then bif !a1 then some (Out.ret (([Tre.mk ([114, 101, 112, 108, 105, 99, 97], 3, 0, 3, ()) [], Tre.mk ([108, 101, 118, 101, 108], 1, 2, 3, ()) [], Tre.mk ([116, 111, 112, 105, 99, 115], 9, 0, 3, ()) [Tre.mk ([116, 111, 112, 105, 99], 10, 0, 3, ()) [Tre.mk ([110, 97, 109, 101], 5, 0, 3, ()) [], Tre.mk ([112, 97, 114, 116, 115], 9, 0, 3, ()) [Tre.mk ([112, 97, 114, 116], 10, 0, 3, ()) [Tre.mk ([105, 110, 100, 101, 120], 3, 0, 3, ()) [], Tre.mk ([101, 112, 111, 99, 104], 3, 3, 3, ()) [], Tre.mk ([116, 105, 109, 101], 4, 0, 3, ()) [], Tre.mk ([109, 111, 115, 116], 3, 0, 0, ()) []]]]]], 0, ()), ())) else bif a0 == 2 then some (Out.ret (([Tre.mk ([116, 104, 114, 111, 116, 116, 108, 101], 3, 2, 3, ()) [], Tre.mk ([116, 111, 112, 105, 99, 115], 9, 0, 3, ()) [Tre.mk ([116, 111, 112, 105, 99], 10, 0, 3, ()) [Tre.mk ([110, 97, 109, 101], 5, 0, 3, ()) [], Tre.mk ([112, 97, 114, 116, 115], 9, 0, 3, ()) [Tre.mk ([112, 97, 114, 116], 10, 0, 3, ()) [Tre.mk ([105, 110, 100, 101, 120], 3, 0, 3, ()) [], Tre.mk ([99, 111, 100, 101], 2, 0, 3, ()) [], Tre.mk ([111, 102, 102, 115, 101, 116, 115], 9, 0, 0, ()) [Tre.mk ([111, 102, 102, 115, 101, 116], 4, 0, 0, ()) []], Tre.mk ([116, 105, 109, 101], 4, 1, 3, ()) [], Tre.mk ([111, 102, 102, 115, 101, 116], 4, 1, 3, ()) [], Tre.mk ([101, 112, 111, 99, 104], 3, 3, 3, ()) []]]]]], 0, ()), ())) else some (Out.ret (([], 160, ()), ())) else bif a0 == 2 then some (Out.ret (([Tre.mk ([116, 104, 114, 111, 116, 116, 108, 101], 3, 2, 3, ()) [], Tre.mk ([116, 111, 112, 105, 99, 115], 9, 0, 3, ()) [Tre.mk ([116, 111, 112, 105, 99], 10, 0, 3, ()) [Tre.mk ([110, 97, 109, 101], 5, 0, 3, ()) [], Tre.mk ([112, 97, 114, 116, 115], 9, 0, 3, ()) [Tre.mk ([112, 97, 114, 116], 10, 0, 3, ()) [Tre.mk ([105, 110, 100, 101, 120], 3, 0, 3, ()) [], Tre.mk ([99, 111, 100, 101], 2, 0, 3, ()) [], Tre.mk ([111, 102, 102, 115, 101, 116, 115], 9, 0, 0, ()) [Tre.mk ([111, 102, 102, 115, 101, 116], 4, 0, 0, ()) []], Tre.mk ([116, 105, 109, 101], 4, 1, 3, ()) [], Tre.mk ([111, 102, 102, 115, 101, 116], 4, 1, 3, ()) [], Tre.mk ([101, 112, 111, 99, 104], 3, 3, 3, ()) []]]]]], 0, ()), ())) else some (Out.ret (([], 160, ()), ())) else bif a0 == 1 then some (Out.ret (([Tre.mk ([116, 104, 114, 111, 116, 116, 108, 101], 3, 1, 3, ()) [], Tre.mk ([116, 111, 112, 105, 99, 115], 9, 0, 3, ()) [Tre.mk ([116, 111, 112, 105, 99], 10, 0, 3, ()) [Tre.mk ([110, 97, 109, 101], 5, 0, 3, ()) [], Tre.mk ([112, 97, 114, 116, 115], 9, 0, 3, ()) [Tre.mk ([112, 97, 114, 116], 10, 0, 3, ()) [Tre.mk ([105, 110, 100, 101, 120], 3, 0, 3, ()) [], Tre.mk ([99, 111, 100, 101], 2, 0, 3, ()) [], Tre.mk ([104, 105, 103, 104], 4, 0, 3, ()) [], Tre.mk ([115, 116, 97, 98, 108, 101], 4, 2, 3, ()) [], Tre.mk ([115, 116, 97, 114, 116], 4, 3, 3, ()) [], Tre.mk ([114, 101, 99, 115], 8, 0, 3, ()) []]]]]], 0, ()), ())) else bif a0 == 2 then bif !a1 then some (Out.ret (([Tre.mk ([114, 101, 112, 108, 105, 99, 97], 3, 0, 3, ()) [], Tre.mk ([108, 101, 118, 101, 108], 1, 2, 3, ()) [], Tre.mk ([116, 111, 112, 105, 99, 115], 9, 0, 3, ()) [Tre.mk ([116, 111, 112, 105, 99], 10, 0, 3, ()) [Tre.mk ([110, 97, 109, 101], 5, 0, 3, ()) [], Tre.mk ([112, 97, 114, 116, 115], 9, 0, 3, ()) [Tre.mk ([112, 97, 114, 116], 10, 0, 3, ()) [Tre.mk ([105, 110, 100, 101, 120], 3, 0, 3, ()) [], Tre.mk ([101, 112, 111, 99, 104], 3, 3, 3, ()) [], Tre.mk ([116, 105, 109, 101], 4, 0, 3, ()) [], Tre.mk ([109, 111, 115, 116], 3, 0, 0, ()) []]]]]], 0, ()), ())) else bif a0 == 2 then some (Out.ret (([Tre.mk ([116, 104, 114, 111, 116, 116, 108, 101], 3, 2, 3, ()) [], Tre.mk ([116, 111, 112, 105, 99, 115], 9, 0, 3, ()) [Tre.mk ([116, 111, 112, 105, 99], 10, 0, 3, ()) [Tre.mk ([110, 97, 109, 101], 5, 0, 3, ()) [], Tre.mk ([112, 97, 114, 116, 115], 9, 0, 3, ()) [Tre.mk ([112, 97, 114, 116], 10, 0, 3, ()) [Tre.mk ([105, 110, 100, 101, 120], 3, 0, 3, ()) [], Tre.mk ([99, 111, 100, 101], 2, 0, 3, ()) [], Tre.mk ([111, 102, 102, 115, 101, 116, 115], 9, 0, 0, ()) [Tre.mk ([111, 102, 102, 115, 101, 116], 4, 0, 0, ()) []], Tre.mk ([116, 105, 109, 101], 4, 1, 3, ()) [], Tre.mk ([111, 102, 102, 115, 101, 116], 4, 1, 3, ()) [], Tre.mk ([101, 112, 111, 99, 104], 3, 3, 3, ()) []]]]]], 0, ()), ())) else some (Out.ret (([], 160, ()), ())) else bif a0 == 2 then some (Out.ret (([Tre.mk ([116, 104, 114, 111, 116, 116, 108, 101], 3, 2, 3, ()) [], Tre.mk ([116, 111, 112, 105, 99, 115], 9, 0, 3, ()) [Tre.mk ([116, 111, 112, 105, 99], 10, 0, 3, ()) [Tre.mk ([110, 97, 109, 101], 5, 0, 3, ()) [], Tre.mk ([112, 97, 114, 116, 115], 9, 0, 3, ()) [Tre.mk ([112, 97, 114, 116], 10, 0, 3, ()) [Tre.mk ([105, 110, 100, 101, 120], 3, 0, 3, ()) [], Tre.mk ([99, 111, 100, 101], 2, 0, 3, ()) [], Tre.mk ([111, 102, 102, 115, 101, 116, 115], 9, 0, 0, ()) [Tre.mk ([111, 102, 102, 115, 101, 116], 4, 0, 0, ()) []], Tre.mk ([116, 105, 109, 101], 4, 1, 3, ()) [], Tre.mk ([111, 102, 102, 115, 101, 116], 4, 1, 3, ()) [], Tre.mk ([101, 112, 111, 99, 104], 3, 3, 3, ()) []]]]]], 0, ()), ())) else some (Out.ret (([], 160, ()), ())) else bif a0 == 0 then some (Out.ret (([Tre.mk ([116, 111, 112, 105, 99, 115], 9, 0, 3, ()) [Tre.mk ([116, 111, 112, 105, 99], 10, 0, 3, ()) [Tre.mk ([110, 97, 109, 101], 5, 0, 3, ()) [], Tre.mk ([112, 97, 114, 116, 115], 9, 0, 3, ()) [Tre.mk ([112, 97, 114, 116], 10, 0, 3, ()) [Tre.mk ([105, 110, 100, 101, 120], 3, 0, 3, ()) [], Tre.mk ([99, 111, 100, 101], 2, 0, 3, ()) [], Tre.mk ([98, 97, 115, 101], 4, 0, 3, ()) [], Tre.mk ([116, 105, 109, 101], 4, 2, 3, ()) [], Tre.mk ([115, 116, 97, 114, 116], 4, 3, 3, ()) []]]]], Tre.mk ([116, 104, 114, 111, 116, 116, 108, 101], 3, 1, 3, ()) []], 0, ()), ())) else bif a0 == 1 then bif !a1 then some (Out.ret (([Tre.mk ([114, 101, 112, 108, 105, 99, 97], 3, 0, 3, ()) [], Tre.mk ([119, 97, 105, 116], 3, 0, 3, ()) [], Tre.mk ([109, 105, 110], 3, 0, 3, ()) [], Tre.mk ([109, 97, 120], 3, 1, 3, ()) [], Tre.mk ([108, 101, 118, 101, 108], 1, 2, 3, ()) [], Tre.mk ([116, 111, 112, 105, 99, 115], 9, 0, 3, ()) [Tre.mk ([116, 111, 112, 105, 99], 10, 0, 3, ()) [Tre.mk ([110, 97, 109, 101], 5, 0, 3, ()) [], Tre.mk ([112, 97, 114, 116, 115], 9, 0, 3, ()) [Tre.mk ([112, 97, 114, 116], 10, 0, 3, ()) [Tre.mk ([105, 110, 100, 101, 120], 3, 0, 3, ()) [], Tre.mk ([101, 112, 111, 99, 104], 3, 3, 3, ()) [], Tre.mk ([111, 102, 102, 115, 101, 116], 4, 0, 3, ()) [], Tre.mk ([109, 97, 120], 3, 0, 3, ()) []]]]]], 0, ()), ())) else bif a0 == 1 then some (Out.ret (([Tre.mk ([116, 104, 114, 111, 116, 116, 108, 101], 3, 1, 3, ()) [], Tre.mk ([116, 111, 112, 105, 99, 115], 9, 0, 3, ()) [Tre.mk ([116, 111, 112, 105, 99], 10, 0, 3, ()) [Tre.mk ([110, 97, 109, 101], 5, 0, 3, ()) [], Tre.mk ([112, 97, 114, 116, 115], 9, 0, 3, ()) [Tre.mk ([112, 97, 114, 116], 10, 0, 3, ()) [Tre.mk ([105, 110, 100, 101, 120], 3, 0, 3, ()) [], Tre.mk ([99, 111, 100, 101], 2, 0, 3, ()) [], Tre.mk ([104, 105, 103, 104], 4, 0, 3, ()) [], Tre.mk ([115, 116, 97, 98, 108, 101], 4, 2, 3, ()) [], Tre.mk ([115, 116, 97, 114, 116], 4, 3, 3, ()) [], Tre.mk ([114, 101, 99, 115], 8, 0, 3, ()) []]]]]], 0, ()), ())) else bif a0 == 2 then bif !a1 then some (Out.ret (([Tre.mk ([114, 101, 112, 108, 105, 99, 97], 3, 0, 3, ()) [], Tre.mk ([108, 101, 118, 101, 108], 1, 2, 3, ()) [], Tre.mk ([116, 111, 112, 105, 99, 115], 9, 0, 3, ()) [Tre.mk ([116, 111, 112, 105, 99], 10, 0, 3, ()) [Tre.mk ([110, 97, 109, 101], 5, 0, 3, ()) [], Tre.mk ([112, 97, 114, 116, 115], 9, 0, 3, ()) [Tre.mk ([112, 97, 114, 116], 10, 0, 3, ()) [Tre.mk ([105, 110, 100, 101, 120], 3, 0, 3, ()) [], Tre.mk ([101, 112, 111, 99, 104], 3, 3, 3, ()) [], Tre.mk ([116, 105, 109, 101], 4, 0, 3, ()) [], Tre.mk ([109, 111, 115, 116], 3, 0, 0, ()) []]]]]], 0, ()), ())) else bif a0 == 2 then some (Out.ret (([Tre.mk ([116, 104, 114, 111, 116, 116, 108, 101], 3, 2, 3, ()) [], Tre.mk ([116, 111, 112, 105, 99, 115], 9, 0, 3, ()) [Tre.mk ([116, 111, 112, 105, 99], 10, 0, 3, ()) [Tre.mk ([110, 97, 109, 101], 5, 0, 3, ()) [], Tre.mk ([112, 97, 114, 116, 115], 9, 0, 3, ()) [Tre.mk ([112, 97, 114, 116], 10, 0, 3, ()) [Tre.mk ([105, 110, 100, 101, 120], 3, 0, 3, ()) [], Tre.mk ([99, 111, 100, 101], 2, 0, 3, ()) [], Tre.mk ([111, 102, 102, 115, 101, 116, 115], 9, 0, 0, ()) [Tre.mk ([111, 102, 102, 115, 101, 116], 4, 0, 0, ()) []], Tre.mk ([116, 105, 109, 101], 4, 1, 3, ()) [], Tre.mk ([111, 102, 102, 115, 101, 116], 4, 1, 3, ()) [], Tre.mk ([101, 112, 111, 99, 104], 3, 3, 3, ()) []]]]]], 0, ()), ())) else some (Out.ret (([], 160, ()), ())) else bif a0 == 2 then some (Out.ret (([Tre.mk ([116, 104, 114, 111, 116, 116, 108, 101], 3, 2, 3, ()) [], Tre.mk ([116, 111, 112, 105, 99, 115], 9, 0, 3, ()) [Tre.mk ([116, 111, 112, 105, 99], 10, 0, 3, ()) [Tre.mk ([110, 97, 109, 101], 5, 0, 3, ()) [], Tre.mk ([112, 97, 114, 116, 115], 9, 0, 3, ()) [Tre.mk ([112, 97, 114, 116], 10, 0, 3, ()) [Tre.mk ([105, 110, 100, 101, 120], 3, 0, 3, ()) [], Tre.mk ([99, 111, 100, 101], 2, 0, 3, ()) [], Tre.mk ([111, 102, 102, 115, 101, 116, 115], 9, 0, 0, ()) [Tre.mk ([111, 102, 102, 115, 101, 116], 4, 0, 0, ()) []], Tre.mk ([116, 105, 109, 101], 4, 1, 3, ()) [], Tre.mk ([111, 102, 102, 115, 101, 116], 4, 1, 3, ()) [], Tre.mk ([101, 112, 111, 99, 104], 3, 3, 3, ()) []]]]]], 0, ()), ())) else some (Out.ret (([], 160, ()), ())) else bif a0 == 1 then some (Out.ret (([Tre.mk ([116, 104, 114, 111, 116, 116, 108, 101], 3, 1, 3, ()) [], Tre.mk ([116, 111, 112, 105, 99, 115], 9, 0, 3, ()) [Tre.mk ([116, 111, 112, 105, 99], 10, 0, 3, ()) [Tre.mk ([110, 97, 109, 101], 5, 0, 3, ()) [], Tre.mk ([112, 97, 114, 116, 115], 9, 0, 3, ()) [Tre.mk ([112, 97, 114, 116], 10, 0, 3, ()) [Tre.mk ([105, 110, 100, 101, 120], 3, 0, 3, ()) [], Tre.mk ([99, 111, 100, 101], 2, 0, 3, ()) [], Tre.mk ([104, 105, 103, 104], 4, 0, 3, ()) [], Tre.mk ([115, 116, 97, 98, 108, 101], 4, 2, 3, ()) [], Tre.mk ([115, 116, 97, 114, 116], 4, 3, 3, ()) [], Tre.mk ([114, 101, 99, 115], 8, 0, 3, ()) []]]]]], 0, ()), ())) else bif a0 == 2 then bif !a1 then some (Out.ret (([Tre.mk ([114, 101, 112, 108, 105, 99, 97], 3, 0, 3, ()) [], Tre.mk ([108, 101, 118, 101, 108], 1, 2, 3, ()) [], Tre.mk ([116, 111, 112, 105, 99, 115], 9, 0, 3, ()) [Tre.mk ([116, 111, 112, 105, 99], 10, 0, 3, ()) [Tre.mk ([110, 97, 109, 101], 5, 0, 3, ()) [], Tre.mk ([112, 97, 114, 116, 115], 9, 0, 3, ()) [Tre.mk ([112, 97, 114, 116], 10, 0, 3, ()) [Tre.mk ([105, 110, 100, 101, 120], 3, 0, 3, ()) [], Tre.mk ([101, 112, 111, 99, 104], 3, 3, 3, ()) [], Tre.mk ([116, 105, 109, 101], 4, 0, 3, ()) [], Tre.mk ([109, 111, 115, 116], 3, 0, 0, ()) []]]]]], 0, ()), ())) else bif a0 == 2 then some (Out.ret (([Tre.mk ([116, 104, 114, 111, 116, 116, 108, 101], 3, 2, 3, ()) [], Tre.mk ([116, 111, 112, 105, 99, 115], 9, 0, 3, ()) [Tre.mk ([116, 111, 112, 105, 99], 10, 0, 3, ()) [Tre.mk ([110, 97, 109, 101], 5, 0, 3, ()) [], Tre.mk ([112, 97, 114, 116, 115], 9, 0, 3, ()) [Tre.mk ([112, 97, 114, 116], 10, 0, 3, ()) [Tre.mk ([105, 110, 100, 101, 120], 3, 0, 3, ()) [], Tre.mk ([99, 111, 100, 101], 2, 0, 3, ()) [], Tre.mk ([111, 102, 102, 115, 101, 116, 115], 9, 0, 0, ()) [Tre.mk ([111, 102, 102, 115, 101, 116], 4, 0, 0, ()) []], Tre.mk ([116, 105, 109, 101], 4, 1, 3, ()) [], Tre.mk ([111, 102, 102, 115, 101, 116], 4, 1, 3, ()) [], Tre.mk ([101, 112, 111, 99, 104], 3, 3, 3, ()) []]]]]], 0, ()), ())) else some (Out.ret (([], 160, ()), ())) else bif a0 == 2 then some (Out.ret (([Tre.mk ([116, 104, 114, 111, 116, 116, 108, 101], 3, 2, 3, ()) [], Tre.mk ([116, 111, 112, 105, 99, 115], 9, 0, 3, ()) [Tre.mk ([116, 111, 112, 105, 99], 10, 0, 3, ()) [Tre.mk ([110, 97, 109, 101], 5, 0, 3, ()) [], Tre.mk ([112, 97, 114, 116, 115], 9, 0, 3, ()) [Tre.mk ([112, 97, 114, 116], 10, 0, 3, ()) [Tre.mk ([105, 110, 100, 101, 120], 3, 0, 3, ()) [], Tre.mk ([99, 111, 100, 101], 2, 0, 3, ()) [], Tre.mk ([111, 102, 102, 115, 101, 116, 115], 9, 0, 0, ()) [Tre.mk ([111, 102, 102, 115, 101, 116], 4, 0, 0, ()) []], Tre.mk ([116, 105, 109, 101], 4, 1, 3, ()) [], Tre.mk ([111, 102, 102, 115, 101, 116], 4, 1, 3, ()) [], Tre.mk ([101, 112, 111, 99, 104], 3, 3, 3, ()) []]]]]], 0, ()), ())) else some (Out.ret (([], 160, ()), ()))
theorem runtbTable (a0 : Int) (a1 : Bool) : Io.run tt hdtbTable dr lptbTable iotbTable Go.Proofs.Tryz.f97 ((a0, a1, ()), ()) = bodytbTable a0 a1 := by kernel_rfl
theorem oktbTable : HcOk prog 97 (ioHd iotbTable FtbTable) := by
  refine fn_sound (n := 400) hm (cs := cstbTable) (.cons oktbOne (.cons oktbTopics .nil)) (lp := lptbTable) (fn := Go.Proofs.Tryz.f97) (by kernel_rfl) (by kernel_rfl) (by kernel_rfl) iotbTable (.done (by kernel_rfl)) FtbTable ?_
  rintro ⟨⟨(k : Int), (r : Bool), ⟨⟩⟩, ⟨⟩⟩ out hw ho
  cases ho
  refine (runtbTable k r).trans ?_
  unfold bodytbTable
  show _ = some (Out.ret (((spTab k r).1, ((spTab k r).2, ())), ()))
  unfold spTab
  by_cases h0 : k = 0
  · subst h0
    cases r <;> rfl
  by_cases h1 : k = 1
  · subst h1
    cases r <;> rfl
  by_cases h2 : k = 2
  · subst h2
    cases r <;> rfl
  rw [if_neg h0, if_neg h1, if_neg h2]
  simp only [beq_eq_false_iff_ne.2 h0, beq_eq_false_iff_ne.2 h1, beq_eq_false_iff_ne.2 h2]
  cases r <;> rfl
theorem spTab_ok (k : Int) (r : Bool) : (spTab k r).2 = 0 → spArr (Tre.mk (([] : List Int), ((10 : Int), ((0 : Int), ((0 : Int), ())))) (spTab k r).1) = true := by
  unfold spTab
  intro h
  by_cases h0 : k = 0
  · subst h0
    cases r <;> (unfold spArr; rfl)
  by_cases h1 : k = 1
  · subst h1
    cases r <;> (unfold spArr; rfl)
  by_cases h2 : k = 2
  · subst h2
    cases r <;> (unfold spArr; rfl)
  rw [if_neg h0, if_neg h1, if_neg h2] at h
  cases h
theorem spWts_nil : spWts [] = 0 := by unfold spWts; rfl
theorem spCZip_nl (v : Int) (l : List Nd) : spCZip v [] l = ([], true) := by rw [spCZip]; simp
theorem spCZip_nr (v : Int) (fs : List Fd) : spCZip v fs [] = ([], true) := by rw [spCZip]; simp
theorem spCut_wt (v : Int) : ∀ (N : Nat) (f : Fd) (n : Nd), spWt n ≤ N → spWt (spCut f v n).1 ≤ spWt n := by
  intro N
  induction N with
  | zero => intro f n h; have := spWt_pos n; omega
  | succ N ih =>
    rintro f ⟨a, ks⟩ h
    rw [spWt_eq] at h
    rw [spCut]
    have hi : ∀ (f : Fd) (l : List Nd), (∀ k ∈ l, spWt k ≤ N) → spWts (spCItems f v l).1 ≤ spWts l := by
      intro f l
      induction l with
      | nil => intro _; rw [spCItems]; exact Nat.le_refl _
      | cons k l ihl =>
        intro hk
        rw [spCItems, spWts_cons, spWts_cons]
        have := ih f k (hk k (by simp))
        have := ihl fun k' hk' => hk k' (List.mem_cons_of_mem _ hk')
        omega
    have hz : ∀ (l : List Nd) (fs : List Fd), (∀ k ∈ l, spWt k ≤ N) → spWts (spCZip v fs l).1 ≤ spWts l := by
      intro l
      induction l with
      | nil => intro fs _; rw [spCZip_nr]; exact Nat.le_refl _
      | cons k l ihl =>
        intro fs hk
        cases fs with
        | nil => rw [spCZip_nl]; show spWts [] ≤ _; rw [spWts_nil]; exact Nat.zero_le _
        | cons f fs =>
          rw [spCZip, spWts_cons]
          have h1 := ih f k (hk k (by simp))
          have h2 := ihl fs fun k' hk' => hk k' (List.mem_cons_of_mem _ hk')
          split
          · rw [spWts_cons]; omega
          · show spWts (spCZip v fs l).1 ≤ _; omega
    have hks : ∀ k ∈ ks, spWt k ≤ N := fun k hk => by have := spWt_mem hk; simp only at h; omega
    split
    · rw [spWt_eq, spWt_eq]
      have := hi (f.kids.headD f) ks hks
      simp only [List.length_nil]; omega
    split
    · rw [spWt_eq, spWt_eq]
      have := hz ks f.kids hks
      simp only [List.length_nil]; omega
    · exact Nat.le_refl _
/-! ### leat/leatref10.EncodeWhole -/
noncomputable abbrev iotbEW : Io := ⟨[d16, dB, dI, dNode], [], [], [dL, dI], none⟩
noncomputable def spEW (k : Int) (r : Bool) (v : Int) (n : Nd) : List Int × Int := if (spTab k r).2 ≠ 0 then ([], (spTab k r).2) else if v < 0 ∨ 3 < v then ([], 8) else
  if (spCut (Tre.mk (([] : List Int), ((10 : Int), ((0 : Int), ((0 : Int), ())))) (spTab k r).1) v n).2 = false then ([], 7) else spEnc (spTab k r).1 v (spCut (Tre.mk (([] : List Int), ((10 : Int), ((0 : Int), ((0 : Int), ())))) (spTab k r).1) v n).1
noncomputable def FtbEW (d : iotbEW.In) : Tr iotbEW.Res := .ite (decide (8 * spWt d.1.2.2.2.1 ≤ 4294967296)) (.ret (.ret (((spEW d.1.1 d.1.2.1 d.1.2.2.1 d.1.2.2.2.1).1, ((spEW d.1.1 d.1.2.1 d.1.2.2.1 d.1.2.2.2.1).2, ())), ()))) .no
noncomputable abbrev cstbEW : List (Nat × Hc) := [(97, ioHd iotbTable FtbTable), (98, ioHd iovCut FvCut), (99, ioHd iovEncode FvEncode)]
noncomputable def hdtbEW : Hd := hdT cstbEW
noncomputable def lptbEW : Lp := lpT []

noncomputable def bodytbEW (a0 : Int) (a1 : Bool) (a2 : Int) (a3 : Nd) : Option iotbEW.Res := bif (spTab a0 a1).snd != 0 then some (Out.ret (([], (spTab a0 a1).snd, ()), ())) else bif decide (a2 < 0) then some (Out.ret (([], 8, ()), ())) else bif decide (3 < a2) then some (Out.ret (([], 8, ()), ())) else bif spArr (Tre.mk ([], 10, 0, 0, ()) (spTab a0 a1).fst) && decide (spWt (Tre.mk a3.1 a3.2) ≤ 4294967296) then bif !(spCut (Tre.mk ([], 10, 0, 0, ()) (spTab a0 a1).fst) a2 (Tre.mk a3.1 a3.2)).snd then some (Out.ret (([], 7, ()), ())) else bif decide (8 * spWt (Tre.mk (spCut (Tre.mk ([], 10, 0, 0, ()) (spTab a0 a1).fst) a2 (Tre.mk a3.1 a3.2)).fst.1 (spCut (Tre.mk ([], 10, 0, 0, ()) (spTab a0 a1).fst) a2 (Tre.mk a3.1 a3.2)).fst.2) ≤ 4294967296) then some (Out.ret (((spEnc (spTab a0 a1).fst a2 (Tre.mk (spCut (Tre.mk ([], 10, 0, 0, ()) (spTab a0 a1).fst) a2 (Tre.mk a3.1 a3.2)).fst.1 (spCut (Tre.mk ([], 10, 0, 0, ()) (spTab a0 a1).fst) a2 (Tre.mk a3.1 a3.2)).fst.2)).fst, (spEnc (spTab a0 a1).fst a2 (Tre.mk (spCut (Tre.mk ([], 10, 0, 0, ()) (spTab a0 a1).fst) a2 (Tre.mk a3.1 a3.2)).fst.1 (spCut (Tre.mk ([], 10, 0, 0, ()) (spTab a0 a1).fst) a2 (Tre.mk a3.1 a3.2)).fst.2)).snd, ()), ())) else none else none
theorem runtbEW (a0 : Int) (a1 : Bool) (a2 : Int) (a3 : Nd) : Io.run tt hdtbEW dr lptbEW iotbEW Go.Proofs.Tryz.f35 ((a0, a1, a2, a3, ()), ()) = bodytbEW a0 a1 a2 a3 := by kernel_rfl
theorem oktbEW : HcOk prog 35 (ioHd iotbEW FtbEW) := by
  refine fn_sound (n := 400) hm (cs := cstbEW) (.cons oktbTable (.cons okvCut (.cons okvEncode .nil))) (lp := lptbEW) (fn := Go.Proofs.Tryz.f35) (by kernel_rfl) (by kernel_rfl) (by kernel_rfl) iotbEW (.done (by kernel_rfl)) FtbEW ?_
  rintro ⟨⟨(k : Int), (r : Bool), (v : Int), (n : Nd), ⟨⟩⟩, ⟨⟩⟩ out hw ho
  obtain ⟨hg, ho⟩ := Tr.guard ho
  have hb : 8 * spWt n ≤ 4294967296 := of_decide_eq_true hg
  cases ho
  refine (runtbEW k r v n).trans ?_
  unfold bodytbEW
  show _ = some (Out.ret (((spEW k r v n).1, ((spEW k r v n).2, ())), ()))
  unfold spEW
  have hok := spTab_ok k r
  generalize spTab k r = t at hok ⊢
  obtain ⟨tb, te⟩ := t
  have hok : te = 0 → spArr (Tre.mk (([] : List Int), ((10 : Int), ((0 : Int), ((0 : Int), ())))) tb) = true := hok
  by_cases h1 : te = 0
  · rw [if_neg (by simpa using h1)]
    refine (bif_false (by simpa using h1) _ _).trans ?_
    by_cases h2 : v < 0
    · rw [if_pos (.inl h2)]
      exact bif_true (decide_eq_true h2) _ _
    refine (bif_false (decide_eq_false h2) _ _).trans ?_
    by_cases h3 : 3 < v
    · rw [if_pos (.inr h3)]
      exact bif_true (decide_eq_true h3) _ _
    refine (bif_false (decide_eq_false h3) _ _).trans ?_
    rw [if_neg (by omega)]
    obtain ⟨nl, nk⟩ := n
    refine (bif_true (show (spArr (Tre.mk (([] : List Int), ((10 : Int), ((0 : Int), ((0 : Int), ())))) tb) && decide (spWt (Tre.mk nl nk) ≤ 4294967296)) = true by rw [hok h1]; simp; omega) _ _).trans ?_
    have hcw := spCut_wt v _ (Tre.mk (([] : List Int), ((10 : Int), ((0 : Int), ((0 : Int), ())))) tb) (Tre.mk nl nk) (Nat.le_refl _)
    show (bif !(spCut (Tre.mk (([] : List Int), ((10 : Int), ((0 : Int), ((0 : Int), ())))) tb) v (Tre.mk nl nk)).2 then _ else _) = _
    by_cases h4 : (spCut (Tre.mk (([] : List Int), ((10 : Int), ((0 : Int), ((0 : Int), ())))) tb) v (Tre.mk nl nk)).2 = false
    · rw [if_pos h4]
      exact bif_true (by rw [h4]; rfl) _ _
    · rw [if_neg h4]
      refine (bif_false (by simpa using h4) _ _).trans ?_
      generalize (spCut (Tre.mk (([] : List Int), ((10 : Int), ((0 : Int), ((0 : Int), ())))) tb) v (Tre.mk nl nk)).1 = c at hcw ⊢
      obtain ⟨cl, ck⟩ := c
      exact bif_true (decide_eq_true (show 8 * spWt (Tre.mk cl ck) ≤ 4294967296 by omega)) _ _
  · rw [if_pos h1]
    exact bif_true (by simpa using h1) _ _
end
end Go.Proofs.YtmlgepgcofmpeaaGreat.Sym

/- produce.EncodeRep: what it writes. -/
namespace Go.Proofs.YtmlgepgcofmpeaaGreat.Sym
open Go
set_option linter.unusedSimpArgs false
set_option linter.unusedVariables false
noncomputable section

noncomputable abbrev tDone : Ty := .prod (.int .i32) (.prod (.int .i16) (.prod (.int .i64) (.prod (.int .i64) (.prod (.int .i64) .unit))))
noncomputable abbrev tGone : Ty := .prod .str (.prod (.sl 105 tDone) .unit)
noncomputable abbrev tRep : Ty := .prod (.sl 103 tGone) (.prod (.int .i32) .unit)
/-- A number of n bytes, if the versions lo to hi have it. -/
noncomputable def spHasE (v lo hi x : Int) (n : Nat) (s : EnS) : EnS := if lo ≤ v ∧ v ≤ hi then spPutE x n s else s
noncomputable def spDoneRowE (v : Int) (p : tDone.den) (s : EnS) : EnS := spHasE v 3 3 p.2.2.2.2.1 8 (spHasE v 2 3 p.2.2.2.1 8 (spPutE p.2.2.1 8 (spPutE p.2.1 2 (spPutE p.1 4 s))))
/-! ### leat/produce.EncodeRep$1$1 -/
noncomputable abbrev iorDone : Io := ⟨[.dat tDone true false, .ptr 0 0], oEnc1, [], [], none⟩
noncomputable def FrDone (d : iorDone.In) : Tr iorDone.Res := .ite (encOk d.2.2) (.ret (.ret ((), encOut1 d.2.2.1.2.1 (spDoneRowE d.2.2.1.2.1 d.1.1 (encSt d.2.2))))) .no
noncomputable abbrev csrDone : List (Nat × Hc) := [(41, ioHd ioeI32 FeI32), (40, ioHd ioeI16 FeI16), (58, ioHd ioeI64 FeI64), (38, ioHd ioeHas FeHas)]
noncomputable def hdrDone : Hd := hdT csrDone
noncomputable def lprDone : Lp := lpT []

noncomputable def bodyrDone (a0 : Int) (a1 : Int) (a2 : Int) (a3 : Int) (a4 : Int) (a5 : Int) (a6 : Int) (a7 : Bool) (a8 : List Int) (a9 : Int) : Option iorDone.Res := bif decide (a9 = 130048) && decide (a8.length ≤ 130048) then bif decide (130048 = 130048) && decide ((spPutE a0 4 (a6, a7, a8)).snd.snd.length ≤ 130048) then bif decide (130048 = 130048) && decide ((spPutE a1 2 (spPutE a0 4 (a6, a7, a8))).snd.snd.length ≤ 130048) then bif decide (130048 = 130048) && decide ((spPutE a2 8 (spPutE a1 2 (spPutE a0 4 (a6, a7, a8)))).snd.snd.length ≤ 130048) then bif decide (2 ≤ a5) && decide (a5 ≤ 3) then bif decide (130048 = 130048) && decide ((spPutE a2 8 (spPutE a1 2 (spPutE a0 4 (a6, a7, a8)))).snd.snd.length ≤ 130048) then bif decide (130048 = 130048) && decide ((spPutE a3 8 (spPutE a2 8 (spPutE a1 2 (spPutE a0 4 (a6, a7, a8))))).snd.snd.length ≤ 130048) then bif decide (3 ≤ a5) && decide (a5 ≤ 3) then bif decide (130048 = 130048) && decide ((spPutE a3 8 (spPutE a2 8 (spPutE a1 2 (spPutE a0 4 (a6, a7, a8))))).snd.snd.length ≤ 130048) then some (Out.ret ((), ((), ()), ((), a5, (spPutE a4 8 (spPutE a3 8 (spPutE a2 8 (spPutE a1 2 (spPutE a0 4 (a6, a7, a8)))))).fst, (spPutE a4 8 (spPutE a3 8 (spPutE a2 8 (spPutE a1 2 (spPutE a0 4 (a6, a7, a8)))))).snd.fst, ()), ((spPutE a4 8 (spPutE a3 8 (spPutE a2 8 (spPutE a1 2 (spPutE a0 4 (a6, a7, a8)))))).snd.snd, 130048, ()), ())) else none else some (Out.ret ((), ((), ()), ((), a5, (spPutE a3 8 (spPutE a2 8 (spPutE a1 2 (spPutE a0 4 (a6, a7, a8))))).fst, (spPutE a3 8 (spPutE a2 8 (spPutE a1 2 (spPutE a0 4 (a6, a7, a8))))).snd.fst, ()), ((spPutE a3 8 (spPutE a2 8 (spPutE a1 2 (spPutE a0 4 (a6, a7, a8))))).snd.snd, 130048, ()), ())) else none else none else bif decide (130048 = 130048) && decide ((spPutE a2 8 (spPutE a1 2 (spPutE a0 4 (a6, a7, a8)))).snd.snd.length ≤ 130048) then bif decide (3 ≤ a5) && decide (a5 ≤ 3) then bif decide (130048 = 130048) && decide ((spPutE a2 8 (spPutE a1 2 (spPutE a0 4 (a6, a7, a8)))).snd.snd.length ≤ 130048) then some (Out.ret ((), ((), ()), ((), a5, (spPutE a4 8 (spPutE a2 8 (spPutE a1 2 (spPutE a0 4 (a6, a7, a8))))).fst, (spPutE a4 8 (spPutE a2 8 (spPutE a1 2 (spPutE a0 4 (a6, a7, a8))))).snd.fst, ()), ((spPutE a4 8 (spPutE a2 8 (spPutE a1 2 (spPutE a0 4 (a6, a7, a8))))).snd.snd, 130048, ()), ())) else none else some (Out.ret ((), ((), ()), ((), a5, (spPutE a2 8 (spPutE a1 2 (spPutE a0 4 (a6, a7, a8)))).fst, (spPutE a2 8 (spPutE a1 2 (spPutE a0 4 (a6, a7, a8)))).snd.fst, ()), ((spPutE a2 8 (spPutE a1 2 (spPutE a0 4 (a6, a7, a8)))).snd.snd, 130048, ()), ())) else none else none else none else none else none
theorem runrDone (a0 : Int) (a1 : Int) (a2 : Int) (a3 : Int) (a4 : Int) (a5 : Int) (a6 : Int) (a7 : Bool) (a8 : List Int) (a9 : Int) : Io.run tt hdrDone dr lprDone iorDone Go.Proofs.Tryz.f57 (((a0, a1, a2, a3, a4, ()), (), ()), ((), ()), ((), a5, a6, a7, ()), (a8, a9, ()), ()) = bodyrDone a0 a1 a2 a3 a4 a5 a6 a7 a8 a9 := by kernel_rfl
theorem okrDone : HcOk prog 57 (ioHd iorDone FrDone) := by
  refine fn_sound (n := 400) hm (cs := csrDone) (.cons okeI32 (.cons okeI16 (.cons okeI64 (.cons okeHas .nil)))) (lp := lprDone) (fn := Go.Proofs.Tryz.f57) (by kernel_rfl) (by kernel_rfl) (by kernel_rfl) iorDone (.done (by kernel_rfl)) FrDone ?_
  rintro ⟨⟨⟨(i : Int), (c : Int), (o : Int), (t : Int), (st : Int), ⟨⟩⟩, ⟨⟩, ⟨⟩⟩, ⟨⟨⟩, ⟨⟩⟩, ⟨⟨⟩, (v : Int), (e : Int), (f : Bool), ⟨⟩⟩, ⟨(b : List Int), (m : Int), ⟨⟩⟩, ⟨⟩⟩ out hw ho
  obtain ⟨hg, ho⟩ := Tr.guard ho
  obtain ⟨rfl, hb⟩ := encOk_iff (v := v) (e := e) (f := f) hg
  cases ho
  refine (runrDone i c o t st v e f b 130048).trans ?_
  unfold bodyrDone
  have hg : ∀ s : EnS, s.2.2.length ≤ 130048 → (decide ((130048 : Int) = 130048) && decide (s.2.2.length ≤ 130048)) = true := fun s h => by simpa using h
  have l1 := spPutE_le (s := (e, f, b)) i 4 hb
  have l2 := spPutE_le c 2 l1
  have l3 := spPutE_le o 8 l2
  have l4 := spPutE_le t 8 l3
  show _ = some (Out.ret ((), encOut1 v (spDoneRowE v (i, (c, (o, (t, (st, ()))))) (e, f, b))))
  unfold spDoneRowE spHasE
  refine (bif_true (hg (e, f, b) hb) _ _).trans ?_
  refine (bif_true (hg _ l1) _ _).trans ?_
  refine (bif_true (hg _ l2) _ _).trans ?_
  refine (bif_true (hg _ l3) _ _).trans ?_
  by_cases h2 : 2 ≤ v ∧ v ≤ 3
  · refine (bif_true (by simpa using h2) _ _).trans ?_
    refine (bif_true (hg _ l3) _ _).trans ?_
    refine (bif_true (hg _ l4) _ _).trans ?_
    rw [if_pos h2]
    by_cases h3 : 3 ≤ v ∧ v ≤ 3
    · refine (bif_true (by simpa using h3) _ _).trans ?_
      refine (bif_true (hg _ l4) _ _).trans ?_
      rw [if_pos h3]
    · refine (bif_false (by simp; omega) _ _).trans ?_
      rw [if_neg h3]
  · refine (bif_false (by simp; omega) _ _).trans ?_
    refine (bif_true (hg _ l3) _ _).trans ?_
    rw [if_neg h2]
    by_cases h3 : 3 ≤ v ∧ v ≤ 3
    · omega
    · refine (bif_false (by simp; omega) _ _).trans ?_
      rw [if_neg h3]
theorem spHasE_le {s : EnS} (v lo hi x : Int) (n : Nat) (h : s.2.2.length ≤ 130048) : (spHasE v lo hi x n s).2.2.length ≤ 130048 := by
  unfold spHasE
  split
  · exact spPutE_le _ _ h
  · exact h
theorem spDoneRowE_le {s : EnS} (v : Int) (p : tDone.den) (h : s.2.2.length ≤ 130048) : (spDoneRowE v p s).2.2.length ≤ 130048 :=
  spHasE_le _ _ _ _ _ (spHasE_le _ _ _ _ _ (spPutE_le _ _ (spPutE_le _ _ (spPutE_le _ _ h))))

/-! ### leat/wire.Items[leat/api.ProdDone] -/
noncomputable def spDonesE (v : Int) (xs : List tDone.den) (s : EnS) : EnS := spItems (spDoneRowE v) xs s
noncomputable abbrev iorDones : Io := ⟨[.ptr 0 0, .dat (.sl 105 tDone) false false, .fnc 57 false [2]], oEncC, [], [], none⟩
noncomputable def FrDones (d : iorDones.In) : Tr iorDones.Res := .ite (encOkC d.2) (.ret (.ret ((), encOutC d.2.1.2.1 (spDonesE d.2.1.2.1 d.1.2.1 (encStC d.2))))) .no
noncomputable abbrev csrDones : List (Nat × Hc) := [(100, ioHd ioeFail FeFail), (41, ioHd ioeI32 FeI32), (57, ioHd iorDone FrDone)]
noncomputable def hdrDones : Hd := hdT csrDones
noncomputable abbrev lorDones_5 : Lo := ⟨⟨[.any, .any, .one (.fnp 57 false [2]), .any, .any, .any, .any, .any, .any, .any, .any, .any, .any, .any, .any, .any, .any, .any, .one (.hol (.sl 105 ((Ty.int IntKind.i32).prod ((Ty.int IntKind.i16).prod ((Ty.int IntKind.i64).prod ((Ty.int IntKind.i64).prod ((Ty.int IntKind.i64).prod Ty.unit))))))), .one (.hol (.int IntKind.i64)), .one (.hol (.int IntKind.i64)), .any, .any, .any, .any, .any, .any, .any], [some [.ptr 1 0, .hol (.int IntKind.i64), .hol (.int IntKind.i64), .hol .bool], some [.onl 5 (Ty.int IntKind.u8) 514, .hol (.int IntKind.i64)], some [.ptr 0 0]]⟩, [(.exit 0, ⟨[.any, .any, .any, .any, .any, .any, .any, .any, .any, .any, .any, .any, .any, .any, .any, .any, .any, .any, .any, .any, .any, .any, .any, .any, .any, .any, .any, .any], [some [.ptr 1 0, .hol (.int IntKind.i64), .hol (.int IntKind.i64), .hol .bool], some [.onl 5 (Ty.int IntKind.u8) 514, .hol (.int IntKind.i64)], some [.ptr 0 0]]⟩)]⟩
-- FrDones_5 : lorDones_5.st.den → Tr (DenX lorDones_5.xs) | ((h6, (h7, (h8, ()))), ((h9, (h10, (h11, ()))), ((h12, (h13, ())), ((), ()))))
noncomputable def FrDones_5 (d : lorDones_5.st.den) : Tr (DenX lorDones_5.xs) :=
  .ite (decide (d.1.2.2.1 = 0) && (decide (d.1.2.1 = (d.1.1.length : Int)) && (decide (d.2.2.1.2.1 = 130048) && decide (d.2.2.1.1.length ≤ 130048)))) (.ret (.ret ((), ((), encOutB d.2.1.1 (d.1.1.foldl (fun s x => spDoneRowE d.2.1.1 x s) (d.2.1.2.1, (d.2.1.2.2.1, d.2.2.1.1))))))) .no
noncomputable def lprDones : Lp := lpT [(5, loHd lorDones_5 FrDones_5)]
noncomputable def steprDones_5 {R : Type} (h6 : List tDone.den) (h7 : Int) (h8 : Int) (h9 : Int) (h10 : Int) (h11 : Bool) (h12 : List Int) (h13 : Int) (next : List tDone.den → Int → Int → Int → Int → Bool → List Int → Int → Option R) (out : DenX lorDones_5.xs → Option R) : Option R := bif decide (h8 < h7) then bif decide (0 ≤ h8) && decide (h8 < (↑h6.length : Int)) then bif decide (h13 = 130048) && decide (h12.length ≤ 130048) then next (h6) (h7) (IntKind.i64.wrap (h8 + 1)) (h9) ((spDoneRowE h9 ((h6.getD h8.toNat (0, 0, 0, 0, 0, ())).fst, (h6.getD h8.toNat (0, 0, 0, 0, 0, ())).snd.fst, (h6.getD h8.toNat (0, 0, 0, 0, 0, ())).snd.snd.fst, (h6.getD h8.toNat (0, 0, 0, 0, 0, ())).snd.snd.snd.fst, (h6.getD h8.toNat (0, 0, 0, 0, 0, ())).snd.snd.snd.snd.fst, ()) (h10, h11, h12)).fst) ((spDoneRowE h9 ((h6.getD h8.toNat (0, 0, 0, 0, 0, ())).fst, (h6.getD h8.toNat (0, 0, 0, 0, 0, ())).snd.fst, (h6.getD h8.toNat (0, 0, 0, 0, 0, ())).snd.snd.fst, (h6.getD h8.toNat (0, 0, 0, 0, 0, ())).snd.snd.snd.fst, (h6.getD h8.toNat (0, 0, 0, 0, 0, ())).snd.snd.snd.snd.fst, ()) (h10, h11, h12)).snd.fst) ((spDoneRowE h9 ((h6.getD h8.toNat (0, 0, 0, 0, 0, ())).fst, (h6.getD h8.toNat (0, 0, 0, 0, 0, ())).snd.fst, (h6.getD h8.toNat (0, 0, 0, 0, 0, ())).snd.snd.fst, (h6.getD h8.toNat (0, 0, 0, 0, 0, ())).snd.snd.snd.fst, (h6.getD h8.toNat (0, 0, 0, 0, 0, ())).snd.snd.snd.snd.fst, ()) (h10, h11, h12)).snd.snd) (130048) else none else none else out (.ret ((), ((), ((h9, (h10, (h11, ()))), ((h12, (h13, ())), ((), ()))))))
noncomputable def itrDones_5 (n : Nat) (h6 : List tDone.den) (h7 : Int) (h8 : Int) (h9 : Int) (h10 : Int) (h11 : Bool) (h12 : List Int) (h13 : Int) : Option (DenX lorDones_5.xs) := lpN tt hdrDones dr lprDones 3 Go.Proofs.Tryz.f56 (topL Go.Proofs.Tryz.f56 0) n (lorDones_5.st.mk' ((h6, (h7, (h8, ()))), ((h9, (h10, (h11, ()))), ((h12, (h13, ())), ((), ()))))) (decX lorDones_5.xs)
theorem slrDones_5 (n : Nat) (h6 : List tDone.den) (h7 : Int) (h8 : Int) (h9 : Int) (h10 : Int) (h11 : Bool) (h12 : List Int) (h13 : Int) : itrDones_5 (n + 1) h6 h7 h8 h9 h10 h11 h12 h13 = steprDones_5 h6 h7 h8 h9 h10 h11 h12 h13 (itrDones_5 n) some := by kernel_rfl
theorem looprDones {xs : List tDone.den} (v : Int) (hl : xs.length ≤ maxLen) : ∀ (k i : Nat) (s : EnS), xs.length < i + k → i ≤ xs.length → s.2.2.length ≤ 130048 →
    itrDones_5 k xs (xs.length : Int) i v s.1 s.2.1 s.2.2 130048 = some (.ret ((), ((), encOutB v ((xs.drop i).foldl (fun s x => spDoneRowE v x s) s)))) := by
  intro k
  induction k with
  | zero => intro i s h; omega
  | succ k ih =>
    intro i s h1 h2 h3
    rw [slrDones_5]
    unfold steprDones_5
    by_cases hi : i < xs.length
    · refine (bif_true (decide_eq_true (show (i : Int) < (xs.length : Int) by omega)) _ _).trans ?_
      refine (bif_true (by simpa using hi) _ _).trans ?_
      simp only [Int.toNat_natCast, getD_lt hi, wrap_succ hi hl]
      have g : (decide ((130048 : Int) = 130048) && decide (s.2.2.length ≤ 130048)) = true := by
        simpa using h3
      refine (bif_true g _ _).trans ?_
      rw [List.drop_eq_getElem_cons hi]
      exact ih (i + 1) (spDoneRowE v xs[i] s) (by omega) (by omega) (spDoneRowE_le v _ h3)
    · refine (bif_false (by simp; omega) _ _).trans ?_
      rw [List.drop_of_length_le (by omega)]
      rfl
noncomputable def bodyrDones (a0 : List tDone.den) (a1 : Int) (a2 : Int) (a3 : Bool) (a4 : List Int) (a5 : Int) : Option iorDones.Res := bif decide (16 < (↑a0.length : Int)) then bif decide (a5 = 130048) && decide (a4.length ≤ 130048) then some (Out.ret ((), ((), a1, (spFail 9 (a2, a3, a4)).fst, (spFail 9 (a2, a3, a4)).snd.fst, ()), ((spFail 9 (a2, a3, a4)).snd.snd, 130048, ()), ((), ()), ())) else none else bif decide (a5 = 130048) && decide (a4.length ≤ 130048) then (FrDones_5 ((a0, ((↑a0.length : Int), (0, ()))), ((a1, ((spPutE (IntKind.i32.wrap (↑a0.length : Int)) 4 (a2, a3, a4)).fst, ((spPutE (IntKind.i32.wrap (↑a0.length : Int)) 4 (a2, a3, a4)).snd.fst, ()))), (((spPutE (IntKind.i32.wrap (↑a0.length : Int)) 4 (a2, a3, a4)).snd.snd, (130048, ())), ((), ()))))).run fun y => match y with | .ret ((), ((), (x27, x28, x29, ()), (x30, x31, ()), (), ())) => (some (Out.ret ((), ((), x27, x28, x29, ()), (x30, x31, ()), ((), ()), ()))) else none
theorem runrDones (a0 : List tDone.den) (a1 : Int) (a2 : Int) (a3 : Bool) (a4 : List Int) (a5 : Int) : Io.run tt hdrDones dr lprDones iorDones Go.Proofs.Tryz.f56 (((), a0, (), ()), ((), a1, a2, a3, ()), (a4, a5, ()), ((), ()), ()) = bodyrDones a0 a1 a2 a3 a4 a5 := by kernel_rfl
theorem okrDones : HcOk prog 56 (ioHd iorDones FrDones) := by
  refine fn_sound (n := 400) hm (cs := csrDones) (.cons okeFail (.cons okeI32 (.cons okrDone .nil))) (lp := lprDones) (fn := Go.Proofs.Tryz.f56) (by kernel_rfl) (by kernel_rfl) (by kernel_rfl) iorDones (.step (h0 := loHd lorDones_5 FrDones_5) (by kernel_rfl) (loop_sound (n := 400) hm (cs := csrDones) (.cons okeFail (.cons okeI32 (.cons okrDone .nil))) (lp := lprDones) (fn := Go.Proofs.Tryz.f56) (.done (by kernel_rfl)) lorDones_5 FrDones_5 ?_) (.done (by kernel_rfl))) FrDones ?_
  · rintro ⟨⟨(xs : List tDone.den), (n : Int), (i : Int), ⟨⟩⟩, ⟨⟨(v : Int), (e : Int), (f : Bool), ⟨⟩⟩, ⟨(b : List Int), (m : Int), ⟨⟩⟩, ⟨⟨⟩, ⟨⟩⟩⟩⟩ y hw hy
    obtain ⟨hg, hy⟩ := Tr.guard hy
    simp only [Bool.and_eq_true, decide_eq_true_eq] at hg
    obtain ⟨rfl, rfl, rfl, h4⟩ := hg
    have h4 : b.length ≤ 130048 := h4
    have hl : xs.length ≤ maxLen := hw.1.1.1
    refine ⟨xs.length + 1, (looprDones v hl (xs.length + 1) 0 (e, (f, b)) (by omega) (by omega) h4).trans ?_⟩
    rw [← hy]; rfl
  · rintro ⟨⟨⟨⟩, (xs : List tDone.den), ⟨⟩, ⟨⟩⟩, ⟨⟨⟩, (v : Int), (e : Int), (f : Bool), ⟨⟩⟩, ⟨(b : List Int), (m : Int), ⟨⟩⟩, ⟨⟨⟩, ⟨⟩⟩, ⟨⟩⟩ out hw ho
    obtain ⟨hg, ho⟩ := Tr.guard ho
    obtain ⟨rfl, hb⟩ := encOk_iff (v := v) (e := e) (f := f) hg
    cases ho
    refine (runrDones xs v e f b 130048).trans ?_
    unfold bodyrDones
    have g : (decide ((130048 : Int) = 130048) && decide (b.length ≤ 130048)) = true := by simpa using hb
    show _ = some (Out.ret ((), encOutC v (spItems (spDoneRowE v) xs (e, f, b))))
    unfold spItems
    by_cases h : 16 < (xs.length : Int)
    · rw [if_pos h]
      refine (bif_true (decide_eq_true h) _ _).trans ?_
      exact bif_true g _ _
    · rw [if_neg h]
      refine (bif_false (decide_eq_false h) _ _).trans ?_
      refine (bif_true g _ _).trans ?_
      have hw32 : IntKind.i32.wrap (xs.length : Int) = xs.length := wrap_id (by simp [inR, IntKind.min, IntKind.max, IntKind.signed, IntKind.bits]; omega)
      rw [hw32]
      have c1 : (decide ((0 : Int) = 0) && (decide ((xs.length : Int) = (xs.length : Int)) && (decide ((130048 : Int) = 130048) && decide ((spPutE xs.length 4 (e, f, b)).2.2.length ≤ 130048)))) = true := by
        simpa using spPutE_le (s := (e, f, b)) _ 4 hb
      have e1 : FrDones_5 ((xs, ((xs.length : Int), (0, ()))), ((v, ((spPutE xs.length 4 (e, f, b)).1, ((spPutE xs.length 4 (e, f, b)).2.1, ()))), (((spPutE xs.length 4 (e, f, b)).2.2, (130048, ())), ((), ())))) =
          .ite true (.ret (.ret ((), ((), encOutB v (xs.foldl (fun s x => spDoneRowE v x s) (spPutE xs.length 4 (e, f, b))))))) .no := congrArg (fun c => Tr.ite c _ _) c1
      rw [e1]
      rfl

/-! ### leat/produce.EncodeRep$1 -/
noncomputable def spGoneE (v : Int) (t : tGone.den) (s : EnS) : EnS := spDonesE v t.2.1 (spStrE t.1 s)
noncomputable abbrev iorGone : Io := ⟨[.dat tGone true false, .ptr 0 0], oEnc1, [], [], none⟩
noncomputable def FrGone (d : iorGone.In) : Tr iorGone.Res := .ite (encOk d.2.2) (.ret (.ret ((), encOut1 d.2.2.1.2.1 (spGoneE d.2.2.1.2.1 d.1.1 (encSt d.2.2))))) .no
noncomputable abbrev csrGone : List (Nat × Hc) := [(44, ioHd ioeStr FeStr), (56, ioHd iorDones FrDones)]
noncomputable def hdrGone : Hd := hdT csrGone
noncomputable def lprGone : Lp := lpT []

noncomputable def bodyrGone (a0 : List Int) (a1 : List tDone.den) (a2 : Int) (a3 : Int) (a4 : Bool) (a5 : List Int) (a6 : Int) : Option iorGone.Res := bif decide (a6 = 130048) && decide (a5.length ≤ 130048) then bif decide (130048 = 130048) && decide ((spStrE a0 (a3, a4, a5)).snd.snd.length ≤ 130048) then some (Out.ret ((), ((), ()), ((), a2, (spDonesE a2 a1 (spStrE a0 (a3, a4, a5))).fst, (spDonesE a2 a1 (spStrE a0 (a3, a4, a5))).snd.fst, ()), ((spDonesE a2 a1 (spStrE a0 (a3, a4, a5))).snd.snd, 130048, ()), ())) else none else none
theorem runrGone (a0 : List Int) (a1 : List tDone.den) (a2 : Int) (a3 : Int) (a4 : Bool) (a5 : List Int) (a6 : Int) : Io.run tt hdrGone dr lprGone iorGone Go.Proofs.Tryz.f55 (((a0, a1, ()), (), ()), ((), ()), ((), a2, a3, a4, ()), (a5, a6, ()), ()) = bodyrGone a0 a1 a2 a3 a4 a5 a6 := by kernel_rfl
theorem okrGone : HcOk prog 55 (ioHd iorGone FrGone) := by
  refine fn_sound (n := 400) hm (cs := csrGone) (.cons okeStr (.cons okrDones .nil)) (lp := lprGone) (fn := Go.Proofs.Tryz.f55) (by kernel_rfl) (by kernel_rfl) (by kernel_rfl) iorGone (.done (by kernel_rfl)) FrGone ?_
  rintro ⟨⟨⟨(t : List Int), (ps : List tDone.den), ⟨⟩⟩, ⟨⟩, ⟨⟩⟩, ⟨⟨⟩, ⟨⟩⟩, ⟨⟨⟩, (v : Int), (e : Int), (f : Bool), ⟨⟩⟩, ⟨(b : List Int), (m : Int), ⟨⟩⟩, ⟨⟩⟩ out hw ho
  obtain ⟨hg, ho⟩ := Tr.guard ho
  obtain ⟨rfl, hb⟩ := encOk_iff (v := v) (e := e) (f := f) hg
  cases ho
  refine (runrGone t ps v e f b 130048).trans ?_
  unfold bodyrGone
  refine (bif_true (by simpa using hb) _ _).trans ?_
  refine (bif_true (by simpa using spStrE_le (s := (e, f, b)) t hb) _ _).trans ?_
  rfl
theorem spGoneE_le {s : EnS} (v : Int) (t : tGone.den) (h : s.2.2.length ≤ 130048) : (spGoneE v t s).2.2.length ≤ 130048 := spItems_le (fun x s => spDoneRowE_le v x) _ (spStrE_le _ h)

/-! ### leat/wire.Items[leat/api.ProdGone] -/
noncomputable def spGonesE (v : Int) (xs : List tGone.den) (s : EnS) : EnS := spItems (spGoneE v) xs s
noncomputable abbrev iorGones : Io := ⟨[.ptr 0 0, .dat (.sl 103 tGone) false false, .fnc 55 false [2]], oEncC, [], [], none⟩
noncomputable def FrGones (d : iorGones.In) : Tr iorGones.Res := .ite (encOkC d.2) (.ret (.ret ((), encOutC d.2.1.2.1 (spGonesE d.2.1.2.1 d.1.2.1 (encStC d.2))))) .no
noncomputable abbrev csrGones : List (Nat × Hc) := [(100, ioHd ioeFail FeFail), (41, ioHd ioeI32 FeI32), (55, ioHd iorGone FrGone)]
noncomputable def hdrGones : Hd := hdT csrGones
noncomputable abbrev lorGones_5 : Lo := ⟨⟨[.any, .any, .one (.fnp 55 false [2]), .any, .any, .any, .any, .any, .any, .any, .any, .any, .any, .any, .any, .any, .any, .any, .one (.hol (.sl 103 (Ty.str.prod ((Ty.sl 105 ((Ty.int IntKind.i32).prod ((Ty.int IntKind.i16).prod ((Ty.int IntKind.i64).prod ((Ty.int IntKind.i64).prod ((Ty.int IntKind.i64).prod Ty.unit)))))).prod Ty.unit)))), .one (.hol (.int IntKind.i64)), .one (.hol (.int IntKind.i64)), .any, .any, .any, .any, .any, .any, .any], [some [.ptr 1 0, .hol (.int IntKind.i64), .hol (.int IntKind.i64), .hol .bool], some [.onl 5 (Ty.int IntKind.u8) 514, .hol (.int IntKind.i64)], some [.ptr 0 0]]⟩, [(.exit 0, ⟨[.any, .any, .any, .any, .any, .any, .any, .any, .any, .any, .any, .any, .any, .any, .any, .any, .any, .any, .any, .any, .any, .any, .any, .any, .any, .any, .any, .any], [some [.ptr 1 0, .hol (.int IntKind.i64), .hol (.int IntKind.i64), .hol .bool], some [.onl 5 (Ty.int IntKind.u8) 514, .hol (.int IntKind.i64)], some [.ptr 0 0]]⟩)]⟩
-- FrGones_5 : lorGones_5.st.den → Tr (DenX lorGones_5.xs) | ((h6, (h7, (h8, ()))), ((h9, (h10, (h11, ()))), ((h12, (h13, ())), ((), ()))))
noncomputable def FrGones_5 (d : lorGones_5.st.den) : Tr (DenX lorGones_5.xs) :=
  .ite (decide (d.1.2.2.1 = 0) && (decide (d.1.2.1 = (d.1.1.length : Int)) && (decide (d.2.2.1.2.1 = 130048) && decide (d.2.2.1.1.length ≤ 130048)))) (.ret (.ret ((), ((), encOutB d.2.1.1 (d.1.1.foldl (fun s x => spGoneE d.2.1.1 x s) (d.2.1.2.1, (d.2.1.2.2.1, d.2.2.1.1))))))) .no
noncomputable def lprGones : Lp := lpT [(5, loHd lorGones_5 FrGones_5)]
noncomputable def steprGones_5 {R : Type} (h6 : List tGone.den) (h7 : Int) (h8 : Int) (h9 : Int) (h10 : Int) (h11 : Bool) (h12 : List Int) (h13 : Int) (next : List tGone.den → Int → Int → Int → Int → Bool → List Int → Int → Option R) (out : DenX lorGones_5.xs → Option R) : Option R := bif decide (h8 < h7) then bif decide (0 ≤ h8) && decide (h8 < (↑h6.length : Int)) then bif decide (h13 = 130048) && decide (h12.length ≤ 130048) then next (h6) (h7) (IntKind.i64.wrap (h8 + 1)) (h9) ((spGoneE h9 ((h6.getD h8.toNat ([], [], ())).fst, (h6.getD h8.toNat ([], [], ())).snd.fst, ()) (h10, h11, h12)).fst) ((spGoneE h9 ((h6.getD h8.toNat ([], [], ())).fst, (h6.getD h8.toNat ([], [], ())).snd.fst, ()) (h10, h11, h12)).snd.fst) ((spGoneE h9 ((h6.getD h8.toNat ([], [], ())).fst, (h6.getD h8.toNat ([], [], ())).snd.fst, ()) (h10, h11, h12)).snd.snd) (130048) else none else none else out (.ret ((), ((), ((h9, (h10, (h11, ()))), ((h12, (h13, ())), ((), ()))))))
noncomputable def itrGones_5 (n : Nat) (h6 : List tGone.den) (h7 : Int) (h8 : Int) (h9 : Int) (h10 : Int) (h11 : Bool) (h12 : List Int) (h13 : Int) : Option (DenX lorGones_5.xs) := lpN tt hdrGones dr lprGones 3 Go.Proofs.Tryz.f54 (topL Go.Proofs.Tryz.f54 0) n (lorGones_5.st.mk' ((h6, (h7, (h8, ()))), ((h9, (h10, (h11, ()))), ((h12, (h13, ())), ((), ()))))) (decX lorGones_5.xs)
theorem slrGones_5 (n : Nat) (h6 : List tGone.den) (h7 : Int) (h8 : Int) (h9 : Int) (h10 : Int) (h11 : Bool) (h12 : List Int) (h13 : Int) : itrGones_5 (n + 1) h6 h7 h8 h9 h10 h11 h12 h13 = steprGones_5 h6 h7 h8 h9 h10 h11 h12 h13 (itrGones_5 n) some := by kernel_rfl
theorem looprGones {xs : List tGone.den} (v : Int) (hl : xs.length ≤ maxLen) : ∀ (k i : Nat) (s : EnS), xs.length < i + k → i ≤ xs.length → s.2.2.length ≤ 130048 →
    itrGones_5 k xs (xs.length : Int) i v s.1 s.2.1 s.2.2 130048 = some (.ret ((), ((), encOutB v ((xs.drop i).foldl (fun s x => spGoneE v x s) s)))) := by
  intro k
  induction k with
  | zero => intro i s h; omega
  | succ k ih =>
    intro i s h1 h2 h3
    rw [slrGones_5]
    unfold steprGones_5
    by_cases hi : i < xs.length
    · refine (bif_true (decide_eq_true (show (i : Int) < (xs.length : Int) by omega)) _ _).trans ?_
      refine (bif_true (by simpa using hi) _ _).trans ?_
      simp only [Int.toNat_natCast, getD_lt hi, wrap_succ hi hl]
      have g : (decide ((130048 : Int) = 130048) && decide (s.2.2.length ≤ 130048)) = true := by
        simpa using h3
      refine (bif_true g _ _).trans ?_
      rw [List.drop_eq_getElem_cons hi]
      exact ih (i + 1) (spGoneE v xs[i] s) (by omega) (by omega) (spGoneE_le v _ h3)
    · refine (bif_false (by simp; omega) _ _).trans ?_
      rw [List.drop_of_length_le (by omega)]
      rfl
noncomputable def bodyrGones (a0 : List tGone.den) (a1 : Int) (a2 : Int) (a3 : Bool) (a4 : List Int) (a5 : Int) : Option iorGones.Res := bif decide (16 < (↑a0.length : Int)) then bif decide (a5 = 130048) && decide (a4.length ≤ 130048) then some (Out.ret ((), ((), a1, (spFail 9 (a2, a3, a4)).fst, (spFail 9 (a2, a3, a4)).snd.fst, ()), ((spFail 9 (a2, a3, a4)).snd.snd, 130048, ()), ((), ()), ())) else none else bif decide (a5 = 130048) && decide (a4.length ≤ 130048) then (FrGones_5 ((a0, ((↑a0.length : Int), (0, ()))), ((a1, ((spPutE (IntKind.i32.wrap (↑a0.length : Int)) 4 (a2, a3, a4)).fst, ((spPutE (IntKind.i32.wrap (↑a0.length : Int)) 4 (a2, a3, a4)).snd.fst, ()))), (((spPutE (IntKind.i32.wrap (↑a0.length : Int)) 4 (a2, a3, a4)).snd.snd, (130048, ())), ((), ()))))).run fun y => match y with | .ret ((), ((), (x27, x28, x29, ()), (x30, x31, ()), (), ())) => (some (Out.ret ((), ((), x27, x28, x29, ()), (x30, x31, ()), ((), ()), ()))) else none
theorem runrGones (a0 : List tGone.den) (a1 : Int) (a2 : Int) (a3 : Bool) (a4 : List Int) (a5 : Int) : Io.run tt hdrGones dr lprGones iorGones Go.Proofs.Tryz.f54 (((), a0, (), ()), ((), a1, a2, a3, ()), (a4, a5, ()), ((), ()), ()) = bodyrGones a0 a1 a2 a3 a4 a5 := by kernel_rfl
theorem okrGones : HcOk prog 54 (ioHd iorGones FrGones) := by
  refine fn_sound (n := 400) hm (cs := csrGones) (.cons okeFail (.cons okeI32 (.cons okrGone .nil))) (lp := lprGones) (fn := Go.Proofs.Tryz.f54) (by kernel_rfl) (by kernel_rfl) (by kernel_rfl) iorGones (.step (h0 := loHd lorGones_5 FrGones_5) (by kernel_rfl) (loop_sound (n := 400) hm (cs := csrGones) (.cons okeFail (.cons okeI32 (.cons okrGone .nil))) (lp := lprGones) (fn := Go.Proofs.Tryz.f54) (.done (by kernel_rfl)) lorGones_5 FrGones_5 ?_) (.done (by kernel_rfl))) FrGones ?_
  · rintro ⟨⟨(xs : List tGone.den), (n : Int), (i : Int), ⟨⟩⟩, ⟨⟨(v : Int), (e : Int), (f : Bool), ⟨⟩⟩, ⟨(b : List Int), (m : Int), ⟨⟩⟩, ⟨⟨⟩, ⟨⟩⟩⟩⟩ y hw hy
    obtain ⟨hg, hy⟩ := Tr.guard hy
    simp only [Bool.and_eq_true, decide_eq_true_eq] at hg
    obtain ⟨rfl, rfl, rfl, h4⟩ := hg
    have h4 : b.length ≤ 130048 := h4
    have hl : xs.length ≤ maxLen := hw.1.1.1
    refine ⟨xs.length + 1, (looprGones v hl (xs.length + 1) 0 (e, (f, b)) (by omega) (by omega) h4).trans ?_⟩
    rw [← hy]; rfl
  · rintro ⟨⟨⟨⟩, (xs : List tGone.den), ⟨⟩, ⟨⟩⟩, ⟨⟨⟩, (v : Int), (e : Int), (f : Bool), ⟨⟩⟩, ⟨(b : List Int), (m : Int), ⟨⟩⟩, ⟨⟨⟩, ⟨⟩⟩, ⟨⟩⟩ out hw ho
    obtain ⟨hg, ho⟩ := Tr.guard ho
    obtain ⟨rfl, hb⟩ := encOk_iff (v := v) (e := e) (f := f) hg
    cases ho
    refine (runrGones xs v e f b 130048).trans ?_
    unfold bodyrGones
    have g : (decide ((130048 : Int) = 130048) && decide (b.length ≤ 130048)) = true := by simpa using hb
    show _ = some (Out.ret ((), encOutC v (spItems (spGoneE v) xs (e, f, b))))
    unfold spItems
    by_cases h : 16 < (xs.length : Int)
    · rw [if_pos h]
      refine (bif_true (decide_eq_true h) _ _).trans ?_
      exact bif_true g _ _
    · rw [if_neg h]
      refine (bif_false (decide_eq_false h) _ _).trans ?_
      refine (bif_true g _ _).trans ?_
      have hw32 : IntKind.i32.wrap (xs.length : Int) = xs.length := wrap_id (by simp [inR, IntKind.min, IntKind.max, IntKind.signed, IntKind.bits]; omega)
      rw [hw32]
      have c1 : (decide ((0 : Int) = 0) && (decide ((xs.length : Int) = (xs.length : Int)) && (decide ((130048 : Int) = 130048) && decide ((spPutE xs.length 4 (e, f, b)).2.2.length ≤ 130048)))) = true := by
        simpa using spPutE_le (s := (e, f, b)) _ 4 hb
      have e1 : FrGones_5 ((xs, ((xs.length : Int), (0, ()))), ((v, ((spPutE xs.length 4 (e, f, b)).1, ((spPutE xs.length 4 (e, f, b)).2.1, ()))), (((spPutE xs.length 4 (e, f, b)).2.2, (130048, ())), ((), ())))) =
          .ite true (.ret (.ret ((), ((), encOutB v (xs.foldl (fun s x => spGoneE v x s) (spPutE xs.length 4 (e, f, b))))))) .no := congrArg (fun c => Tr.ite c _ _) c1
      rw [e1]
      rfl

/-! ### leat/produce.EncodeRep -/
noncomputable def spLackP (v : Int) (p : tDone.den) (s : EnS) : EnS := spLacks v (p.2.2.2.2.1 == 0) 3 3 (spLacks v (p.2.2.2.1 == 0) 2 3 s)
noncomputable def spLackPs (v : Int) (ps : List tDone.den) (s : EnS) : EnS := ps.foldl (fun s p => spLackP v p s) s
noncomputable def spLackR (v : Int) (ts : List tGone.den) (s : EnS) : EnS := ts.foldl (fun s t => spLackPs v t.2.1 s) s
noncomputable def spRepE (v : Int) (m : tRep.den) : EnS :=
  spHasE v 1 3 m.2.1 4 (spGonesE v m.1 (spLackR v m.1 (spLacks v (m.2.1 == 0) 1 3 (spNewE v, (false, ([] : List Int))))))
noncomputable abbrev iorRep : Io := ⟨[dI, .dat tRep true false], [], [], [dO, dI], none⟩
noncomputable def FrRep (d : iorRep.In) : Tr iorRep.Res := .ret (.ret ((spDoneO (spRepE d.1.1 d.1.2.1), (spDoneE (spRepE d.1.1 d.1.2.1), ())), ()))
noncomputable abbrev csrRep : List (Nat × Hc) := [(36, ioHd ioeNew FeNew), (37, ioHd ioeLacks FeLacks), (38, ioHd ioeHas FeHas), (41, ioHd ioeI32 FeI32), (54, ioHd iorGones FrGones), (48, ioHd ioeDone FeDone)]
noncomputable def hdrRep : Hd := hdT csrRep
noncomputable abbrev lorRep_8 : Lo := ⟨⟨[.any, .any, .any, .one (.ptr 3 0), .any, .any, .one (.ptr 6 0), .any, .any, .any, .any, .any, .any, .any, .any, .any, .any, .any, .any, .one (.hol (.sl 103 (Ty.str.prod ((Ty.sl 105 ((Ty.int IntKind.i32).prod ((Ty.int IntKind.i16).prod ((Ty.int IntKind.i64).prod ((Ty.int IntKind.i64).prod ((Ty.int IntKind.i64).prod Ty.unit)))))).prod Ty.unit)))), .one (.hol (.int IntKind.i64)), .one (.hol (.int IntKind.i64)), .any, .any, .any, .any, .one (.hol (.sl 105 ((Ty.int IntKind.i32).prod ((Ty.int IntKind.i16).prod ((Ty.int IntKind.i64).prod ((Ty.int IntKind.i64).prod ((Ty.int IntKind.i64).prod Ty.unit))))))), .one (.hol (.int IntKind.i64)), .one (.hol (.int IntKind.i64)), .any, .any, .any, .any, .any, .any, .any, .any, .any, .any, .any, .any, .any, .any, .any, .any, .any, .any, .any, .any, .any, .any, .any, .any, .any, .any, .any, .any, .any, .any], [none, none, none, some [.hol (.sl 103 (Ty.str.prod ((Ty.sl 105 ((Ty.int IntKind.i32).prod ((Ty.int IntKind.i16).prod ((Ty.int IntKind.i64).prod ((Ty.int IntKind.i64).prod ((Ty.int IntKind.i64).prod Ty.unit)))))).prod Ty.unit))), .hol (.int IntKind.i32)], none, none, some [.ptr 12 0], none, none, none, none, none, some [.ptr 13 0, .hol (.int IntKind.i64), .hol (.int IntKind.i64), .hol .bool], some [.onl 5 (Ty.int IntKind.u8) 6658, .hol (.int IntKind.i64)]]⟩, [(.exit 2, ⟨[.any, .any, .any, .one (.ptr 3 0), .any, .any, .one (.ptr 6 0), .any, .any, .any, .any, .any, .any, .any, .any, .any, .any, .any, .any, .one (.hol (.sl 103 (Ty.str.prod ((Ty.sl 105 ((Ty.int IntKind.i32).prod ((Ty.int IntKind.i16).prod ((Ty.int IntKind.i64).prod ((Ty.int IntKind.i64).prod ((Ty.int IntKind.i64).prod Ty.unit)))))).prod Ty.unit)))), .one (.hol (.int IntKind.i64)), .one (.hol (.int IntKind.i64)), .any, .any, .any, .any, .any, .any, .any, .any, .any, .any, .any, .any, .any, .any, .any, .any, .any, .any, .any, .any, .any, .any, .any, .any, .any, .any, .any, .any, .any, .any, .any, .any, .any, .any, .any, .any, .any], [none, none, none, some [.hol (.sl 103 (Ty.str.prod ((Ty.sl 105 ((Ty.int IntKind.i32).prod ((Ty.int IntKind.i16).prod ((Ty.int IntKind.i64).prod ((Ty.int IntKind.i64).prod ((Ty.int IntKind.i64).prod Ty.unit)))))).prod Ty.unit))), .hol (.int IntKind.i32)], none, none, some [.ptr 12 0], none, none, none, none, none, some [.ptr 13 0, .hol (.int IntKind.i64), .hol (.int IntKind.i64), .hol .bool], some [.onl 5 (Ty.int IntKind.u8) 6658, .hol (.int IntKind.i64)]]⟩)]⟩
-- FrRep_8 : lorRep_8.st.den → Tr (DenX lorRep_8.xs) | ((h13, (h14, (h15, (h16, (h17, (h18, ())))))), ((h19, (h20, ())), ((), ((h21, (h22, (h23, ()))), ((h24, (h25, ())), ())))))
noncomputable abbrev lorRep_5 : Lo := ⟨⟨[.any, .any, .any, .one (.ptr 3 0), .any, .any, .one (.ptr 6 0), .any, .any, .any, .any, .any, .any, .any, .any, .any, .any, .any, .any, .one (.hol (.sl 103 (Ty.str.prod ((Ty.sl 105 ((Ty.int IntKind.i32).prod ((Ty.int IntKind.i16).prod ((Ty.int IntKind.i64).prod ((Ty.int IntKind.i64).prod ((Ty.int IntKind.i64).prod Ty.unit)))))).prod Ty.unit)))), .one (.hol (.int IntKind.i64)), .one (.hol (.int IntKind.i64)), .any, .any, .any, .any, .any, .any, .any, .any, .any, .any, .any, .any, .any, .any, .any, .any, .any, .any, .any, .any, .any, .any, .any, .any, .any, .any, .any, .any, .any, .any, .any, .any, .any, .any, .any, .any, .any], [none, none, none, some [.hol (.sl 103 (Ty.str.prod ((Ty.sl 105 ((Ty.int IntKind.i32).prod ((Ty.int IntKind.i16).prod ((Ty.int IntKind.i64).prod ((Ty.int IntKind.i64).prod ((Ty.int IntKind.i64).prod Ty.unit)))))).prod Ty.unit))), .hol (.int IntKind.i32)], none, none, some [.ptr 12 0], none, none, none, none, none, some [.ptr 13 0, .hol (.int IntKind.i64), .hol (.int IntKind.i64), .hol .bool], some [.onl 5 (Ty.int IntKind.u8) 6658, .hol (.int IntKind.i64)]]⟩, [(.exit 0, ⟨[.any, .any, .any, .one (.ptr 3 0), .any, .any, .one (.ptr 6 0), .any, .any, .any, .any, .any, .any, .any, .any, .any, .any, .any, .any, .any, .any, .any, .any, .any, .any, .any, .any, .any, .any, .any, .any, .any, .any, .any, .any, .any, .any, .any, .any, .any, .any, .any, .any, .any, .any, .any, .any, .any, .any, .any, .any, .any, .any, .any, .any, .any, .any, .any, .any], [none, none, none, some [.hol (.sl 103 (Ty.str.prod ((Ty.sl 105 ((Ty.int IntKind.i32).prod ((Ty.int IntKind.i16).prod ((Ty.int IntKind.i64).prod ((Ty.int IntKind.i64).prod ((Ty.int IntKind.i64).prod Ty.unit)))))).prod Ty.unit))), .hol (.int IntKind.i32)], none, none, some [.ptr 12 0], none, none, none, none, none, some [.ptr 13 0, .hol (.int IntKind.i64), .hol (.int IntKind.i64), .hol .bool], some [.onl 5 (Ty.int IntKind.u8) 6658, .hol (.int IntKind.i64)]]⟩)]⟩
-- FrRep_5 : lorRep_5.st.den → Tr (DenX lorRep_5.xs) | ((h3, (h4, (h5, ()))), ((h6, (h7, ())), ((), ((h8, (h9, (h10, ()))), ((h11, (h12, ())), ())))))
noncomputable abbrev outB2 (ts : List tGone.den) (thr v : Int) (s : EnS) : (List tGone.den × (Int × Unit)) × (Unit × ((Int × (Int × (Bool × Unit))) × ((List Int × (Int × Unit)) × Unit))) := ((ts, (thr, ())), ((), ((v, (s.1, (s.2.1, ()))), ((s.2.2, (130048, ())), ()))))
noncomputable def FrRep_8 (d : lorRep_8.st.den) : Tr (DenX lorRep_8.xs) :=
  .ite (decide (d.1.2.2.2.2.2.1 = 0) && (decide (d.1.2.2.2.2.1 = (d.1.2.2.2.1.length : Int)) && (decide (d.2.2.2.2.1.2.1 = 130048) && decide (d.2.2.2.2.1.1.length ≤ 130048)))) (.ret (.ret ((), ((d.1.1, (d.1.2.1, (d.1.2.2.1, ()))), outB2 d.2.1.1 d.2.1.2.1 d.2.2.2.1.1 (spLackPs d.2.2.2.1.1 d.1.2.2.2.1 (d.2.2.2.1.2.1, (d.2.2.2.1.2.2.1, d.2.2.2.2.1.1))))))) .no
noncomputable def FrRep_5 (d : lorRep_5.st.den) : Tr (DenX lorRep_5.xs) :=
  .ite (decide (d.1.2.2.1 = 0) && (decide (d.1.2.1 = (d.1.1.length : Int)) && (decide (d.2.2.2.2.1.2.1 = 130048) && decide (d.2.2.2.2.1.1.length ≤ 130048)))) (.ret (.ret ((), ((), outB2 d.2.1.1 d.2.1.2.1 d.2.2.2.1.1 (spLackR d.2.2.2.1.1 d.1.1 (d.2.2.2.1.2.1, (d.2.2.2.1.2.2.1, d.2.2.2.2.1.1))))))) .no
noncomputable def lprRep : Lp := lpT [(5, loHd lorRep_5 FrRep_5), (8, loHd lorRep_8 FrRep_8)]
noncomputable def steprRep_8 {R : Type} (h13 : List tGone.den) (h14 : Int) (h15 : Int) (h16 : List tDone.den) (h17 : Int) (h18 : Int) (h19 : List tGone.den) (h20 : Int) (h21 : Int) (h22 : Int) (h23 : Bool) (h24 : List Int) (h25 : Int) (next : List tGone.den → Int → Int → List tDone.den → Int → Int → List tGone.den → Int → Int → Int → Bool → List Int → Int → Option R) (out : DenX lorRep_8.xs → Option R) : Option R := bif decide (h18 < h17) then bif decide (0 ≤ h18) && decide (h18 < (↑h16.length : Int)) then bif decide (h25 = 130048) && decide (h24.length ≤ 130048) then bif decide (130048 = 130048) && decide ((spLacks h21 ((h16.getD h18.toNat (0, 0, 0, 0, 0, ())).snd.snd.snd.fst == 0) 2 3 (h22, h23, h24)).snd.snd.length ≤ 130048) then next (h13) (h14) (h15) (h16) (h17) (IntKind.i64.wrap (h18 + 1)) (h19) (h20) (h21) ((spLacks h21 ((h16.getD h18.toNat (0, 0, 0, 0, 0, ())).snd.snd.snd.snd.fst == 0) 3 3 (spLacks h21 ((h16.getD h18.toNat (0, 0, 0, 0, 0, ())).snd.snd.snd.fst == 0) 2 3 (h22, h23, h24))).fst) ((spLacks h21 ((h16.getD h18.toNat (0, 0, 0, 0, 0, ())).snd.snd.snd.snd.fst == 0) 3 3 (spLacks h21 ((h16.getD h18.toNat (0, 0, 0, 0, 0, ())).snd.snd.snd.fst == 0) 2 3 (h22, h23, h24))).snd.fst) ((spLacks h21 ((h16.getD h18.toNat (0, 0, 0, 0, 0, ())).snd.snd.snd.snd.fst == 0) 3 3 (spLacks h21 ((h16.getD h18.toNat (0, 0, 0, 0, 0, ())).snd.snd.snd.fst == 0) 2 3 (h22, h23, h24))).snd.snd) (130048) else none else none else none else out (.ret ((), ((h13, (h14, (h15, ()))), ((h19, (h20, ())), ((), ((h21, (h22, (h23, ()))), ((h24, (h25, ())), ())))))))
noncomputable def itrRep_8 (n : Nat) (h13 : List tGone.den) (h14 : Int) (h15 : Int) (h16 : List tDone.den) (h17 : Int) (h18 : Int) (h19 : List tGone.den) (h20 : Int) (h21 : Int) (h22 : Int) (h23 : Bool) (h24 : List Int) (h25 : Int) : Option (DenX lorRep_8.xs) := lpN tt hdrRep dr lprRep 0 Go.Proofs.Tryz.f16 (subL Go.Proofs.Tryz.f16 (topL Go.Proofs.Tryz.f16 0) 0) n (lorRep_8.st.mk' ((h13, (h14, (h15, (h16, (h17, (h18, ())))))), ((h19, (h20, ())), ((), ((h21, (h22, (h23, ()))), ((h24, (h25, ())), ())))))) (decX lorRep_8.xs)
theorem slrRep_8 (n : Nat) (h13 : List tGone.den) (h14 : Int) (h15 : Int) (h16 : List tDone.den) (h17 : Int) (h18 : Int) (h19 : List tGone.den) (h20 : Int) (h21 : Int) (h22 : Int) (h23 : Bool) (h24 : List Int) (h25 : Int) : itrRep_8 (n + 1) h13 h14 h15 h16 h17 h18 h19 h20 h21 h22 h23 h24 h25 = steprRep_8 h13 h14 h15 h16 h17 h18 h19 h20 h21 h22 h23 h24 h25 (itrRep_8 n) some := by kernel_rfl
noncomputable def steprRep_5 {R : Type} (h3 : List tGone.den) (h4 : Int) (h5 : Int) (h6 : List tGone.den) (h7 : Int) (h8 : Int) (h9 : Int) (h10 : Bool) (h11 : List Int) (h12 : Int) (next : List tGone.den → Int → Int → List tGone.den → Int → Int → Int → Bool → List Int → Int → Option R) (out : DenX lorRep_5.xs → Option R) : Option R := bif decide (h5 < h4) then bif decide (0 ≤ h5) && decide (h5 < (↑h3.length : Int)) then (FrRep_8 ((h3, (h4, (h5, ((h3.getD h5.toNat ([], [], ())).snd.fst, ((↑(List.length (h3.getD h5.toNat ([], [], ())).snd.fst) : Int), (0, ())))))), ((h6, (h7, ())), ((), ((h8, (h9, (h10, ()))), ((h11, (h12, ())), ())))))).run fun y => match y with | .ret ((), ((x49, x50, x51, ()), (x52, x53, ()), (), (x54, x55, x56, ()), (x57, x58, ()), ())) => (next (x49) (x50) (IntKind.i64.wrap (x51 + 1)) (x52) (x53) (x54) (x55) (x56) (x57) (x58)) else none else out (.ret ((), ((), ((h6, (h7, ())), ((), ((h8, (h9, (h10, ()))), ((h11, (h12, ())), ())))))))
noncomputable def itrRep_5 (n : Nat) (h3 : List tGone.den) (h4 : Int) (h5 : Int) (h6 : List tGone.den) (h7 : Int) (h8 : Int) (h9 : Int) (h10 : Bool) (h11 : List Int) (h12 : Int) : Option (DenX lorRep_5.xs) := lpN tt hdrRep dr lprRep 0 Go.Proofs.Tryz.f16 (topL Go.Proofs.Tryz.f16 0) n (lorRep_5.st.mk' ((h3, (h4, (h5, ()))), ((h6, (h7, ())), ((), ((h8, (h9, (h10, ()))), ((h11, (h12, ())), ())))))) (decX lorRep_5.xs)
theorem slrRep_5 (n : Nat) (h3 : List tGone.den) (h4 : Int) (h5 : Int) (h6 : List tGone.den) (h7 : Int) (h8 : Int) (h9 : Int) (h10 : Bool) (h11 : List Int) (h12 : Int) : itrRep_5 (n + 1) h3 h4 h5 h6 h7 h8 h9 h10 h11 h12 = steprRep_5 h3 h4 h5 h6 h7 h8 h9 h10 h11 h12 (itrRep_5 n) some := by kernel_rfl
theorem spLackP_le {s : EnS} (v : Int) (p : tDone.den) (h : s.2.2.length ≤ 130048) : (spLackP v p s).2.2.length ≤ 130048 := spLacks_le _ _ _ _ (spLacks_le _ _ _ _ h)
theorem spLackPs_le {s : EnS} (v : Int) (ps : List tDone.den) (h : s.2.2.length ≤ 130048) : (spLackPs v ps s).2.2.length ≤ 130048 := foldl_le (fun x s => spLackP_le v x) ps s h
theorem spLackR_le {s : EnS} (v : Int) (ts : List tGone.den) (h : s.2.2.length ≤ 130048) : (spLackR v ts s).2.2.length ≤ 130048 := foldl_le (one := fun (t : tGone.den) (s : EnS) => spLackPs v t.2.1 s) (fun x s h => spLackPs_le v x.2.1 h) ts s h
theorem looprRep_8 (ts : List tGone.den) (n i : Int) (ts' : List tGone.den) (thr v : Int) {ps : List tDone.den} (hl : ps.length ≤ maxLen) : ∀ (k j : Nat) (s : EnS), ps.length < j + k → j ≤ ps.length → s.2.2.length ≤ 130048 →
    itrRep_8 k ts n i ps (ps.length : Int) j ts' thr v s.1 s.2.1 s.2.2 130048 = some (.ret ((), ((ts, (n, (i, ()))), outB2 ts' thr v ((ps.drop j).foldl (fun s p => spLackP v p s) s)))) := by
  intro k
  induction k with
  | zero => intro j s h; omega
  | succ k ih =>
    intro j s h1 h2 h3
    rw [slrRep_8]
    unfold steprRep_8
    by_cases hi : j < ps.length
    · refine (bif_true (decide_eq_true (show (j : Int) < (ps.length : Int) by omega)) _ _).trans ?_
      refine (bif_true (by simpa using hi) _ _).trans ?_
      simp only [Int.toNat_natCast, getD_lt hi, wrap_succ hi hl]
      refine (bif_true (by simpa using h3) _ _).trans ?_
      refine (bif_true (by simpa using spLacks_le (s := s) v (ps[j].2.2.2.1 == 0) 2 3 h3) _ _).trans ?_
      rw [List.drop_eq_getElem_cons hi]
      exact ih (j + 1) (spLackP v ps[j] s) (by omega) (by omega) (spLackP_le _ _ h3)
    · refine (bif_false (by simp; omega) _ _).trans ?_
      rw [List.drop_of_length_le (by omega)]
      rfl
theorem looprRep_5 {ts : List tGone.den} (ts' : List tGone.den) (thr v : Int) (hl : ts.length ≤ maxLen) : ∀ (k j : Nat) (s : EnS), ts.length < j + k → j ≤ ts.length → s.2.2.length ≤ 130048 →
    itrRep_5 k ts (ts.length : Int) j ts' thr v s.1 s.2.1 s.2.2 130048 = some (.ret ((), ((), outB2 ts' thr v ((ts.drop j).foldl (fun s t => spLackPs v t.2.1 s) s)))) := by
  intro k
  induction k with
  | zero => intro j s h; omega
  | succ k ih =>
    intro j s h1 h2 h3
    rw [slrRep_5]
    unfold steprRep_5
    by_cases hi : j < ts.length
    · refine (bif_true (decide_eq_true (show (j : Int) < (ts.length : Int) by omega)) _ _).trans ?_
      refine (bif_true (by simpa using hi) _ _).trans ?_
      simp only [Int.toNat_natCast, getD_lt hi]
      have c1 : (decide ((0 : Int) = 0) && (decide ((ts[j].2.1.length : Int) = (ts[j].2.1.length : Int)) && (decide ((130048 : Int) = 130048) && decide (s.2.2.length ≤ 130048)))) = true := by simpa using h3
      have e1 : FrRep_8 ((ts, ((ts.length : Int), ((j : Int), (ts[j].2.1, ((ts[j].2.1.length : Int), (0, ())))))), ((ts', (thr, ())), ((), ((v, (s.1, (s.2.1, ()))), ((s.2.2, (130048, ())), ()))))) =
          .ite true (.ret (.ret ((), ((ts, ((ts.length : Int), ((j : Int), ()))), outB2 ts' thr v (spLackPs v ts[j].2.1 s))))) .no := congrArg (fun c => Tr.ite c _ _) c1
      rw [e1]
      show itrRep_5 k ts (ts.length : Int) (IntKind.i64.wrap ((j : Int) + 1)) ts' thr v (spLackPs v ts[j].2.1 s).1 (spLackPs v ts[j].2.1 s).2.1 (spLackPs v ts[j].2.1 s).2.2 130048 = _
      rw [wrap_succ hi hl, List.drop_eq_getElem_cons hi]
      exact ih (j + 1) (spLackPs v ts[j].2.1 s) (by omega) (by omega) (spLackPs_le _ _ h3)
    · refine (bif_false (by simp; omega) _ _).trans ?_
      rw [List.drop_of_length_le (by omega)]
      rfl
noncomputable def bodyrRep (a0 : Int) (a1 : List tGone.den) (a2 : Int) : Option iorRep.Res := (FrRep_5 ((a1, ((↑a1.length : Int), (0, ()))), ((a1, (a2, ())), ((), ((a0, ((spLacks a0 (a2 == 0) 1 3 (spNewE a0, false, [])).fst, ((spLacks a0 (a2 == 0) 1 3 (spNewE a0, false, [])).snd.fst, ()))), (((spLacks a0 (a2 == 0) 1 3 (spNewE a0, false, [])).snd.snd, (130048, ())), ())))))).run fun y => match y with | .ret ((), ((), (x76, x77, ()), (), (x78, x79, x80, ()), (x81, x82, ()), ())) => (bif decide (x82 = 130048) && decide (x81.length ≤ 130048) then bif decide (130048 = 130048) && decide ((spGonesE x78 x76 (x79, x80, x81)).snd.snd.length ≤ 130048) then bif decide (1 ≤ x78) && decide (x78 ≤ 3) then bif decide (130048 = 130048) && decide ((spGonesE x78 x76 (x79, x80, x81)).snd.snd.length ≤ 130048) then bif decide (130048 = 130048) && decide ((spPutE x77 4 (spGonesE x78 x76 (x79, x80, x81))).snd.snd.length ≤ 130048) then some (Out.ret ((spDoneO (spPutE x77 4 (spGonesE x78 x76 (x79, x80, x81))), spDoneE (spPutE x77 4 (spGonesE x78 x76 (x79, x80, x81))), ()), ())) else none else none else bif decide (130048 = 130048) && decide ((spGonesE x78 x76 (x79, x80, x81)).snd.snd.length ≤ 130048) then some (Out.ret ((spDoneO (spGonesE x78 x76 (x79, x80, x81)), spDoneE (spGonesE x78 x76 (x79, x80, x81)), ()), ())) else none else none else none)
theorem runrRep (a0 : Int) (a1 : List tGone.den) (a2 : Int) : Io.run tt hdrRep dr lprRep iorRep Go.Proofs.Tryz.f16 ((a0, (a1, a2, ()), ()), ()) = bodyrRep a0 a1 a2 := by kernel_rfl
theorem okrRep : HcOk prog 16 (ioHd iorRep FrRep) := by
  refine fn_sound (n := 400) hm (cs := csrRep) (.cons okeNew (.cons okeLacks (.cons okeHas (.cons okeI32 (.cons okrGones (.cons okeDone .nil)))))) (lp := lprRep) (fn := Go.Proofs.Tryz.f16) (by kernel_rfl) (by kernel_rfl) (by kernel_rfl) iorRep (.step (h0 := loHd lorRep_5 FrRep_5) (by kernel_rfl) (loop_sound (n := 400) hm (cs := csrRep) (.cons okeNew (.cons okeLacks (.cons okeHas (.cons okeI32 (.cons okrGones (.cons okeDone .nil)))))) (lp := lprRep) (fn := Go.Proofs.Tryz.f16) (.step (h0 := loHd lorRep_8 FrRep_8) (by kernel_rfl) (loop_sound (n := 400) hm (cs := csrRep) (.cons okeNew (.cons okeLacks (.cons okeHas (.cons okeI32 (.cons okrGones (.cons okeDone .nil)))))) (lp := lprRep) (fn := Go.Proofs.Tryz.f16) (.done (by kernel_rfl)) lorRep_8 FrRep_8 ?_) (.done (by kernel_rfl))) lorRep_5 FrRep_5 ?_) (.done (by kernel_rfl))) FrRep ?_
  · rintro ⟨⟨(ts : List tGone.den), (n : Int), (i : Int), (ps : List tDone.den), (pn : Int), (pj : Int), ⟨⟩⟩, ⟨⟨(ts' : List tGone.den), (thr : Int), ⟨⟩⟩, ⟨⟩, ⟨(v : Int), (e : Int), (f : Bool), ⟨⟩⟩, ⟨(b : List Int), (m : Int), ⟨⟩⟩, ⟨⟩⟩⟩ y hw hy
    obtain ⟨hg, hy⟩ := Tr.guard hy
    simp only [Bool.and_eq_true, decide_eq_true_eq] at hg
    obtain ⟨rfl, rfl, rfl, h4⟩ := hg
    have h4 : b.length ≤ 130048 := h4
    have hl : ps.length ≤ maxLen := hw.1.2.2.2.1.1
    refine ⟨ps.length + 1, (looprRep_8 ts n i ts' thr v hl (ps.length + 1) 0 (e, (f, b)) (by omega) (by omega) h4).trans ?_⟩
    rw [← hy]; rfl
  · rintro ⟨⟨(ts : List tGone.den), (n : Int), (i : Int), ⟨⟩⟩, ⟨⟨(ts' : List tGone.den), (thr : Int), ⟨⟩⟩, ⟨⟩, ⟨(v : Int), (e : Int), (f : Bool), ⟨⟩⟩, ⟨(b : List Int), (m : Int), ⟨⟩⟩, ⟨⟩⟩⟩ y hw hy
    obtain ⟨hg, hy⟩ := Tr.guard hy
    simp only [Bool.and_eq_true, decide_eq_true_eq] at hg
    obtain ⟨rfl, rfl, rfl, h4⟩ := hg
    have h4 : b.length ≤ 130048 := h4
    have hl : ts.length ≤ maxLen := hw.1.1.1
    refine ⟨ts.length + 1, (looprRep_5 ts' thr v hl (ts.length + 1) 0 (e, (f, b)) (by omega) (by omega) h4).trans ?_⟩
    rw [← hy]; rfl
  · rintro ⟨⟨(v : Int), ⟨(ts : List tGone.den), (thr : Int), ⟨⟩⟩, ⟨⟩⟩, ⟨⟩⟩ out hw ho
    cases ho
    refine (runrRep v ts thr).trans ?_
    unfold bodyrRep
    have hg : ∀ s : EnS, s.2.2.length ≤ 130048 → (decide ((130048 : Int) = 130048) && decide (s.2.2.length ≤ 130048)) = true := fun s h => by simpa using h
    have l0 : (spLacks v (thr == 0) 1 3 (spNewE v, (false, ([] : List Int)))).2.2.length ≤ 130048 := spLacks_le _ _ _ _ (by simp)
    have c1 : (decide ((0 : Int) = 0) && (decide ((ts.length : Int) = (ts.length : Int)) && (decide ((130048 : Int) = 130048) && decide ((spLacks v (thr == 0) 1 3 (spNewE v, (false, ([] : List Int)))).2.2.length ≤ 130048)))) = true := by simpa using l0
    have e1 : FrRep_5 ((ts, ((ts.length : Int), (0, ()))), ((ts, (thr, ())), ((), ((v, ((spLacks v (thr == 0) 1 3 (spNewE v, (false, ([] : List Int)))).1, ((spLacks v (thr == 0) 1 3 (spNewE v, (false, ([] : List Int)))).2.1, ()))), (((spLacks v (thr == 0) 1 3 (spNewE v, (false, ([] : List Int)))).2.2, (130048, ())), ()))))) =
        .ite true (.ret (.ret ((), ((), outB2 ts thr v (spLackR v ts (spLacks v (thr == 0) 1 3 (spNewE v, (false, ([] : List Int))))))))) .no := congrArg (fun c => Tr.ite c _ _) c1
    rw [e1]
    have l1 := spLackR_le v ts l0
    have l2 : (spGonesE v ts (spLackR v ts (spLacks v (thr == 0) 1 3 (spNewE v, (false, ([] : List Int)))))).2.2.length ≤ 130048 := spItems_le (fun x s => spGoneE_le v x) _ l1
    refine (bif_true (hg _ l1) _ _).trans ?_
    refine (bif_true (hg _ l2) _ _).trans ?_
    show _ = some (Out.ret ((spDoneO (spRepE v (ts, (thr, ()))), (spDoneE (spRepE v (ts, (thr, ()))), ())), ()))
    unfold spRepE spHasE
    by_cases h : 1 ≤ v ∧ v ≤ 3
    · rw [if_pos h]
      refine (bif_true (show (decide (1 ≤ v) && decide (v ≤ 3)) = true by simpa using h) _ _).trans ?_
      refine (bif_true (hg _ l2) _ _).trans ?_
      exact bif_true (hg _ (spPutE_le _ _ l2)) _ _
    · rw [if_neg h]
      refine (bif_false (show (decide (1 ≤ v) && decide (v ≤ 3)) = false by simp; omega) _ _).trans ?_
      exact bif_true (hg _ l2) _ _
end
end Go.Proofs.YtmlgepgcofmpeaaGreat.Sym

/- produce.DecodeRep: what it reads. -/
namespace Go.Proofs.YtmlgepgcofmpeaaGreat.Sym
open Go
set_option linter.unusedSimpArgs false
set_option linter.unusedVariables false
noncomputable section

/-- A number that not every version has. -/
noncomputable def spDHasN (k : IntKind) (n : Nat) (v lo hi : Int) (b : List Int) (s : DeS) : Int × DeS := if spDHas v lo hi s.1 = true then spDn k n b s else (0, s)
theorem spDHasN_ok {k : IntKind} {n : Nat} {v lo hi : Int} {b : List Int} {s : DeS} (h : spDok b s.2 = true) : spDok b (spDHasN k n v lo hi b s).2.2 = true := by
  unfold spDHasN
  split
  · exact spDn_ok _ _ h
  · exact h
noncomputable def spD3 (b : List Int) (s : DeS) : DeS := (spDn .i64 8 b (spDn .i16 2 b (spDn .i32 4 b s).2).2).2
/-! ### leat/produce.DecodeRep$1$1 -/
@[irreducible] noncomputable def spDDone (v : Int) (b : List Int) (s : DeS) : tDone.den × DeS :=
  (((spDn .i32 4 b s).1, ((spDn .i16 2 b (spDn .i32 4 b s).2).1, ((spDn .i64 8 b (spDn .i16 2 b (spDn .i32 4 b s).2).2).1, ((spDHasN .i64 8 v 2 3 b (spD3 b s)).1, ((spDHasN .i64 8 v 3 3 b (spDHasN .i64 8 v 2 3 b (spD3 b s)).2).1, ()))))), (spDHasN .i64 8 v 3 3 b (spDHasN .i64 8 v 2 3 b (spD3 b s)).2).2)
theorem spD3_ok {b : List Int} {s : DeS} (h : spDok b s.2 = true) : spDok b (spD3 b s).2 = true := spDn_ok _ _ (spDn_ok _ _ (spDn_ok _ _ h))
theorem spDDone_ok {v : Int} {b : List Int} {s : DeS} (h : spDok b s.2 = true) : spDok b (spDDone v b s).2.2 = true := by
  unfold spDDone
  exact spDHasN_ok (spDHasN_ok (spD3_ok h))
noncomputable abbrev iowDone : Io := ⟨[.ptr 0 0], oDec1, [], [.dat tDone true false], none⟩
noncomputable def FwDone (d : iowDone.In) : Tr iowDone.Res := .ite (spDok d.2.2.2.1.1 d.2.2.2.1.2.1) (.ret (.ret (((spDDone d.2.2.1.2.1 d.2.2.2.1.1 (decSt d.2.2)).1, ()), decOut1 d.2.2.1.2.1 d.2.2.2.1.1 (spDDone d.2.2.1.2.1 d.2.2.2.1.1 (decSt d.2.2)).2))) .no
noncomputable abbrev cswDone : List (Nat × Hc) := [(64, ioHd iodI32 FdI32), (63, ioHd iodI16 FdI16), (76, ioHd iodI64 FdI64), (61, ioHd iodHas FdHas)]
noncomputable def hdwDone : Hd := hdT cswDone
noncomputable def lpwDone : Lp := lpT []

noncomputable def bodywDone (a0 : Int) (a1 : Int) (a2 : List Int) (a3 : Int) : Option iowDone.Res := bif spDok a2 a3 then bif spDok a2 (spDn IntKind.i32 4 a2 (a1, a3)).snd.snd then bif spDok a2 (spDn IntKind.i16 2 a2 (spDn IntKind.i32 4 a2 (a1, a3)).snd).snd.snd then bif spDHas a0 2 3 (spDn IntKind.i64 8 a2 (spDn IntKind.i16 2 a2 (spDn IntKind.i32 4 a2 (a1, a3)).snd).snd).snd.fst then bif spDok a2 (spDn IntKind.i64 8 a2 (spDn IntKind.i16 2 a2 (spDn IntKind.i32 4 a2 (a1, a3)).snd).snd).snd.snd then bif spDHas a0 3 3 (spDn IntKind.i64 8 a2 (spDn IntKind.i64 8 a2 (spDn IntKind.i16 2 a2 (spDn IntKind.i32 4 a2 (a1, a3)).snd).snd).snd).snd.fst then bif spDok a2 (spDn IntKind.i64 8 a2 (spDn IntKind.i64 8 a2 (spDn IntKind.i16 2 a2 (spDn IntKind.i32 4 a2 (a1, a3)).snd).snd).snd).snd.snd then some (Out.ret ((((spDn IntKind.i32 4 a2 (a1, a3)).fst, (spDn IntKind.i16 2 a2 (spDn IntKind.i32 4 a2 (a1, a3)).snd).fst, (spDn IntKind.i64 8 a2 (spDn IntKind.i16 2 a2 (spDn IntKind.i32 4 a2 (a1, a3)).snd).snd).fst, (spDn IntKind.i64 8 a2 (spDn IntKind.i64 8 a2 (spDn IntKind.i16 2 a2 (spDn IntKind.i32 4 a2 (a1, a3)).snd).snd).snd).fst, (spDn IntKind.i64 8 a2 (spDn IntKind.i64 8 a2 (spDn IntKind.i64 8 a2 (spDn IntKind.i16 2 a2 (spDn IntKind.i32 4 a2 (a1, a3)).snd).snd).snd).snd).fst, ()), ()), ((), ()), ((), a0, (spDn IntKind.i64 8 a2 (spDn IntKind.i64 8 a2 (spDn IntKind.i64 8 a2 (spDn IntKind.i16 2 a2 (spDn IntKind.i32 4 a2 (a1, a3)).snd).snd).snd).snd).snd.fst, ()), (a2, (spDn IntKind.i64 8 a2 (spDn IntKind.i64 8 a2 (spDn IntKind.i64 8 a2 (spDn IntKind.i16 2 a2 (spDn IntKind.i32 4 a2 (a1, a3)).snd).snd).snd).snd).snd.snd, ()), ())) else none else some (Out.ret ((((spDn IntKind.i32 4 a2 (a1, a3)).fst, (spDn IntKind.i16 2 a2 (spDn IntKind.i32 4 a2 (a1, a3)).snd).fst, (spDn IntKind.i64 8 a2 (spDn IntKind.i16 2 a2 (spDn IntKind.i32 4 a2 (a1, a3)).snd).snd).fst, (spDn IntKind.i64 8 a2 (spDn IntKind.i64 8 a2 (spDn IntKind.i16 2 a2 (spDn IntKind.i32 4 a2 (a1, a3)).snd).snd).snd).fst, 0, ()), ()), ((), ()), ((), a0, (spDn IntKind.i64 8 a2 (spDn IntKind.i64 8 a2 (spDn IntKind.i16 2 a2 (spDn IntKind.i32 4 a2 (a1, a3)).snd).snd).snd).snd.fst, ()), (a2, (spDn IntKind.i64 8 a2 (spDn IntKind.i64 8 a2 (spDn IntKind.i16 2 a2 (spDn IntKind.i32 4 a2 (a1, a3)).snd).snd).snd).snd.snd, ()), ())) else none else bif spDHas a0 3 3 (spDn IntKind.i64 8 a2 (spDn IntKind.i16 2 a2 (spDn IntKind.i32 4 a2 (a1, a3)).snd).snd).snd.fst then bif spDok a2 (spDn IntKind.i64 8 a2 (spDn IntKind.i16 2 a2 (spDn IntKind.i32 4 a2 (a1, a3)).snd).snd).snd.snd then some (Out.ret ((((spDn IntKind.i32 4 a2 (a1, a3)).fst, (spDn IntKind.i16 2 a2 (spDn IntKind.i32 4 a2 (a1, a3)).snd).fst, (spDn IntKind.i64 8 a2 (spDn IntKind.i16 2 a2 (spDn IntKind.i32 4 a2 (a1, a3)).snd).snd).fst, 0, (spDn IntKind.i64 8 a2 (spDn IntKind.i64 8 a2 (spDn IntKind.i16 2 a2 (spDn IntKind.i32 4 a2 (a1, a3)).snd).snd).snd).fst, ()), ()), ((), ()), ((), a0, (spDn IntKind.i64 8 a2 (spDn IntKind.i64 8 a2 (spDn IntKind.i16 2 a2 (spDn IntKind.i32 4 a2 (a1, a3)).snd).snd).snd).snd.fst, ()), (a2, (spDn IntKind.i64 8 a2 (spDn IntKind.i64 8 a2 (spDn IntKind.i16 2 a2 (spDn IntKind.i32 4 a2 (a1, a3)).snd).snd).snd).snd.snd, ()), ())) else none else some (Out.ret ((((spDn IntKind.i32 4 a2 (a1, a3)).fst, (spDn IntKind.i16 2 a2 (spDn IntKind.i32 4 a2 (a1, a3)).snd).fst, (spDn IntKind.i64 8 a2 (spDn IntKind.i16 2 a2 (spDn IntKind.i32 4 a2 (a1, a3)).snd).snd).fst, 0, 0, ()), ()), ((), ()), ((), a0, (spDn IntKind.i64 8 a2 (spDn IntKind.i16 2 a2 (spDn IntKind.i32 4 a2 (a1, a3)).snd).snd).snd.fst, ()), (a2, (spDn IntKind.i64 8 a2 (spDn IntKind.i16 2 a2 (spDn IntKind.i32 4 a2 (a1, a3)).snd).snd).snd.snd, ()), ())) else none else none else none
theorem runwDone (a0 : Int) (a1 : Int) (a2 : List Int) (a3 : Int) : Io.run tt hdwDone dr lpwDone iowDone Go.Proofs.Tryz.f75 (((), ()), ((), ()), ((), a0, a1, ()), (a2, a3, ()), ()) = bodywDone a0 a1 a2 a3 := by kernel_rfl
theorem okwDone : HcOk prog 75 (ioHd iowDone FwDone) := by
  refine fn_sound (n := 400) hm (cs := cswDone) (.cons okdI32 (.cons okdI16 (.cons okdI64 (.cons okdHas .nil)))) (lp := lpwDone) (fn := Go.Proofs.Tryz.f75) (by kernel_rfl) (by kernel_rfl) (by kernel_rfl) iowDone (.done (by kernel_rfl)) FwDone ?_
  rintro ⟨⟨⟨⟩, ⟨⟩⟩, ⟨⟨⟩, ⟨⟩⟩, ⟨⟨⟩, (v : Int), (e : Int), ⟨⟩⟩, ⟨(b : List Int), (p : Int), ⟨⟩⟩, ⟨⟩⟩ out hw ho
  obtain ⟨hg, ho⟩ := Tr.guard ho
  have hg : spDok b p = true := hg
  cases ho
  refine (runwDone v e b p).trans ?_
  unfold bodywDone
  show _ = some (Out.ret (((spDDone v b (e, p)).1, ()), decOut1 v b (spDDone v b (e, p)).2))
  unfold spDDone
  have g1 := spDn_ok .i32 4 (s := (e, p)) hg
  have g2 := spDn_ok .i16 2 g1
  have g3 := spDn_ok .i64 8 g2
  refine (bif_true hg _ _).trans ?_
  refine (bif_true g1 _ _).trans ?_
  refine (bif_true g2 _ _).trans ?_
  show (bif spDHas v 2 3 (spD3 b (e, p)).1 then _ else _) = _
  have g4 : spDok b (spD3 b (e, p)).2 = true := g3
  cases h2 : spDHas v 2 3 (spD3 b (e, p)).1
  · have e2 : spDHasN .i64 8 v 2 3 b (spD3 b (e, p)) = (0, spD3 b (e, p)) := by unfold spDHasN; rw [if_neg (by rw [h2]; decide)]
    rw [e2]
    show (bif spDHas v 3 3 (spD3 b (e, p)).1 then _ else _) = _
    cases h3 : spDHas v 3 3 (spD3 b (e, p)).1
    · have e3 : spDHasN .i64 8 v 3 3 b (spD3 b (e, p)) = (0, spD3 b (e, p)) := by unfold spDHasN; rw [if_neg (by rw [h3]; decide)]
      rw [e3]
      rfl
    · have e3 : spDHasN .i64 8 v 3 3 b (spD3 b (e, p)) = spDn .i64 8 b (spD3 b (e, p)) := by unfold spDHasN; rw [if_pos h3]
      rw [e3]
      exact bif_true g4 _ _
  · have e2 : spDHasN .i64 8 v 2 3 b (spD3 b (e, p)) = spDn .i64 8 b (spD3 b (e, p)) := by unfold spDHasN; rw [if_pos h2]
    rw [e2]
    refine (bif_true g4 _ _).trans ?_
    have g5 := spDn_ok .i64 8 g4
    show (bif spDHas v 3 3 (spDn .i64 8 b (spD3 b (e, p))).2.1 then _ else _) = _
    cases h3 : spDHas v 3 3 (spDn .i64 8 b (spD3 b (e, p))).2.1
    · have e3 : spDHasN .i64 8 v 3 3 b (spDn .i64 8 b (spD3 b (e, p))).2 = (0, (spDn .i64 8 b (spD3 b (e, p))).2) := by unfold spDHasN; rw [if_neg (by rw [h3]; decide)]
      rw [e3]
      rfl
    · have e3 : spDHasN .i64 8 v 3 3 b (spDn .i64 8 b (spD3 b (e, p))).2 = spDn .i64 8 b (spDn .i64 8 b (spD3 b (e, p))).2 := by unfold spDHasN; rw [if_pos h3]
      rw [e3]
      exact bif_true g5 _ _
/-! ### leat/wire.List[leat/api.ProdDone] -/
@[irreducible] noncomputable def spDDones (v : Int) (b : List Int) (s : DeS) : List tDone.den × DeS := spList (spDDone v b) b s
theorem spDDones_ok {v : Int} {b : List Int} {s : DeS} (h : spDok b s.2 = true) : spDok b (spDDones v b s).2.2 = true := by
  unfold spDDones
  exact spList_ok (fun s h => spDDone_ok h) h
noncomputable abbrev iowDones : Io := ⟨[.ptr 0 0, .fnc 75 false [2]], oDecC, [], [.dat (.sl 105 tDone) false false], none⟩
noncomputable def FwDones (d : iowDones.In) : Tr iowDones.Res := .ite (spDok d.2.2.1.1 d.2.2.1.2.1) (.ret (.ret (((spDDones d.2.1.2.1 d.2.2.1.1 (decStC d.2)).1, ()), decOutC d.2.1.2.1 d.2.2.1.1 (spDDones d.2.1.2.1 d.2.2.1.1 (decStC d.2)).2))) .no
noncomputable abbrev cswDones : List (Nat × Hc) := [(64, ioHd iodI32 FdI32), (75, ioHd iowDone FwDone)]
noncomputable def hdwDones : Hd := hdT cswDones
noncomputable abbrev lowDones_10 : Lo := ⟨⟨[.one (.ptr 0 0), .one (.fnp 75 false [2]), .any, .any, .any, .one (.hol (.int IntKind.i32)), .one (.onl 105 tDone 19), .one (.hol (.int IntKind.i32)), .any, .any, .any, .any, .any, .any, .any, .any, .any, .any, .any, .any, .any, .any, .any, .any, .any, .any, .any, .any, .any, .any, .any, .any, .any, .any, .any, .any, .any, .any, .any, .any, .any, .any, .any, .any, .any, .any], [some [.ptr 1 0, .hol (.int IntKind.i64), .hol (.int IntKind.i64)], some [.hol (.sl 5 (Ty.int IntKind.u8)), .hol (.int IntKind.i64)], some [.ptr 0 0]]⟩, [(.exit 1, ⟨[.any, .any, .any, .any, .any, .any, .one (.onl 105 tDone 19), .any, .any, .any, .any, .any, .any, .any, .any, .any, .any, .any, .any, .any, .any, .any, .any, .any, .any, .any, .any, .any, .any, .any, .any, .any, .any, .any, .any, .any, .any, .any, .any, .any, .any, .any, .any, .any, .any, .any], [some [.ptr 1 0, .hol (.int IntKind.i64), .hol (.int IntKind.i64)], some [.hol (.sl 5 (Ty.int IntKind.u8)), .hol (.int IntKind.i64)], some [.ptr 0 0]]⟩)]⟩
-- FwDones_10 : lowDones_10.st.den → Tr (DenX lowDones_10.xs) | ((h4, (h5, (h6, ()))), ((h7, (h8, ())), ((h9, (h10, ())), ((), ()))))
noncomputable def FwDones_10 (d : lowDones_10.st.den) : Tr (DenX lowDones_10.xs) :=
  .ite (decide (d.1.2.2.1 = 0) && (decide (d.1.2.1.length = 0) && (spDok d.2.2.1.1 d.2.2.1.2.1 && (decide (d.1.1 ≤ (16 : Int)) || decide (d.2.1.2.1 ≠ 0))))) (.ret (.ret ((), (((spRep (spDDone d.2.1.1 d.2.2.1.1) d.1.1.toNat (d.2.1.2.1, d.2.2.1.2.1)).1, ()), decOutB d.2.1.1 d.2.2.1.1 (spRep (spDDone d.2.1.1 d.2.2.1.1) d.1.1.toNat (d.2.1.2.1, d.2.2.1.2.1)).2)))) .no
noncomputable def lpwDones : Lp := lpT [(10, loHd lowDones_10 FwDones_10)]
noncomputable def stepwDones_10 {R : Type} (h4 : Int) (h5 : List tDone.den) (h6 : Int) (h7 : Int) (h8 : Int) (h9 : List Int) (h10 : Int) (next : Int → List tDone.den → Int → Int → Int → List Int → Int → Option R) (out : DenX lowDones_10.xs → Option R) : Option R := bif decide (h6 < h4) then bif h8 == 0 then bif spDok h9 h10 then bif decide (h5.length + 1 ≤ 4294967296) then next (h4) (h5 ++ [(spDDone h7 h9 (h8, h10)).fst]) (IntKind.i32.wrap (h6 + 1)) (h7) ((spDDone h7 h9 (h8, h10)).snd.fst) (h9) ((spDDone h7 h9 (h8, h10)).snd.snd) else none else none else out (.ret ((), ((h5, ()), ((h7, (h8, ())), ((h9, (h10, ())), ((), ())))))) else out (.ret ((), ((h5, ()), ((h7, (h8, ())), ((h9, (h10, ())), ((), ()))))))
noncomputable def itwDones_10 (n : Nat) (h4 : Int) (h5 : List tDone.den) (h6 : Int) (h7 : Int) (h8 : Int) (h9 : List Int) (h10 : Int) : Option (DenX lowDones_10.xs) := lpN tt hdwDones dr lpwDones 3 Go.Proofs.Tryz.f74 (topL Go.Proofs.Tryz.f74 0) n (lowDones_10.st.mk' ((h4, (h5, (h6, ()))), ((h7, (h8, ())), ((h9, (h10, ())), ((), ()))))) (decX lowDones_10.xs)
theorem slwDones_10 (n : Nat) (h4 : Int) (h5 : List tDone.den) (h6 : Int) (h7 : Int) (h8 : Int) (h9 : List Int) (h10 : Int) : itwDones_10 (n + 1) h4 h5 h6 h7 h8 h9 h10 = stepwDones_10 h4 h5 h6 h7 h8 h9 h10 (itwDones_10 n) some := by kernel_rfl
theorem loopwDones (n v : Int) (b : List Int) : ∀ (k j : Nat) (xs : List tDone.den) (s : DeS), n.toNat < j + k → j ≤ n.toNat → xs.length = j → spDok b s.2 = true → (s.1 = 0 → n ≤ 16) →
    itwDones_10 k n xs j v s.1 b s.2 = some (.ret ((), ((xs ++ (spRep (spDDone v b) (n.toNat - j) s).1, ()), decOutB v b (spRep (spDDone v b) (n.toNat - j) s).2))) := by
  intro k
  induction k with
  | zero => intro j xs s h; omega
  | succ k ih =>
    intro j xs s h1 h2 h3 h4 h5
    rw [slwDones_10]
    unfold stepwDones_10
    by_cases hj : (j : Int) < n
    · refine (bif_true (by simpa using hj) _ _).trans ?_
      obtain ⟨m, hm⟩ : ∃ m, n.toNat - j = m + 1 := ⟨n.toNat - j - 1, by omega⟩
      rw [hm]
      by_cases he : s.1 = 0
      · refine (bif_true (by simpa using he) _ _).trans ?_
        have hn := h5 he
        refine (bif_true h4 _ _).trans ?_
        refine (bif_true (decide_eq_true (show xs.length + 1 ≤ 4294967296 by omega)) _ _).trans ?_
        have hw : IntKind.i32.wrap ((j : Int) + 1) = ((j + 1 : Nat) : Int) := wrap_id (by simp [inR, IntKind.min, IntKind.max, IntKind.signed, IntKind.bits]; omega)
        rw [hw]
        refine (ih (j + 1) (xs ++ [(spDDone v b s).1]) (spDDone v b s).2 (by omega) (by omega) (by simp [h3]) (spDDone_ok h4) (fun _ => hn)).trans ?_
        rw [show n.toNat - (j + 1) = m by omega, spRep, if_pos he]
        simp
      · refine (bif_false (by simpa using he) _ _).trans ?_
        rw [spRep, if_neg he]
        simp
    · refine (bif_false (by simpa using hj) _ _).trans ?_
      rw [show n.toNat - j = 0 by omega, spRep]
      simp
noncomputable def bodywDones (a0 : Int) (a1 : Int) (a2 : List Int) (a3 : Int) : Option iowDones.Res := bif spDok a2 a3 then bif (spDn IntKind.i32 4 a2 (a1, a3)).snd.fst != 0 then (FwDones_10 (((spDn IntKind.i32 4 a2 (a1, a3)).fst, ([], (0, ()))), ((a0, ((spDn IntKind.i32 4 a2 (a1, a3)).snd.fst, ())), ((a2, ((spDn IntKind.i32 4 a2 (a1, a3)).snd.snd, ())), ((), ()))))).run fun y => match y with | .ret ((), ((x28, ()), (x29, x30, ()), (x31, x32, ()), (), ())) => (some (Out.ret ((x28, ()), ((), x29, x30, ()), (x31, x32, ()), ((), ()), ()))) else bif decide ((spDn IntKind.i32 4 a2 (a1, a3)).fst < 0) then (FwDones_10 (((spDn IntKind.i32 4 a2 (a1, a3)).fst, ([], (0, ()))), ((a0, (5, ())), ((a2, ((spDn IntKind.i32 4 a2 (a1, a3)).snd.snd, ())), ((), ()))))).run fun y => match y with | .ret ((), ((x40, ()), (x41, x42, ()), (x43, x44, ()), (), ())) => (some (Out.ret ((x40, ()), ((), x41, x42, ()), (x43, x44, ()), ((), ()), ()))) else bif decide (16 < (spDn IntKind.i32 4 a2 (a1, a3)).fst) then (FwDones_10 (((spDn IntKind.i32 4 a2 (a1, a3)).fst, ([], (0, ()))), ((a0, (9, ())), ((a2, ((spDn IntKind.i32 4 a2 (a1, a3)).snd.snd, ())), ((), ()))))).run fun y => match y with | .ret ((), ((x52, ()), (x53, x54, ()), (x55, x56, ()), (), ())) => (some (Out.ret ((x52, ()), ((), x53, x54, ()), (x55, x56, ()), ((), ()), ()))) else (FwDones_10 (((spDn IntKind.i32 4 a2 (a1, a3)).fst, ([], (0, ()))), ((a0, ((spDn IntKind.i32 4 a2 (a1, a3)).snd.fst, ())), ((a2, ((spDn IntKind.i32 4 a2 (a1, a3)).snd.snd, ())), ((), ()))))).run fun y => match y with | .ret ((), ((x64, ()), (x65, x66, ()), (x67, x68, ()), (), ())) => (some (Out.ret ((x64, ()), ((), x65, x66, ()), (x67, x68, ()), ((), ()), ()))) else none
theorem runwDones (a0 : Int) (a1 : Int) (a2 : List Int) (a3 : Int) : Io.run tt hdwDones dr lpwDones iowDones Go.Proofs.Tryz.f74 (((), (), ()), ((), a0, a1, ()), (a2, a3, ()), ((), ()), ()) = bodywDones a0 a1 a2 a3 := by kernel_rfl
theorem okwDones : HcOk prog 74 (ioHd iowDones FwDones) := by
  refine fn_sound (n := 400) hm (cs := cswDones) (.cons okdI32 (.cons okwDone .nil)) (lp := lpwDones) (fn := Go.Proofs.Tryz.f74) (by kernel_rfl) (by kernel_rfl) (by kernel_rfl) iowDones (.step (h0 := loHd lowDones_10 FwDones_10) (by kernel_rfl) (loop_sound (n := 400) hm (cs := cswDones) (.cons okdI32 (.cons okwDone .nil)) (lp := lpwDones) (fn := Go.Proofs.Tryz.f74) (.done (by kernel_rfl)) lowDones_10 FwDones_10 ?_) (.done (by kernel_rfl))) FwDones ?_
  · rintro ⟨⟨(n : Int), (xs : List tDone.den), (i : Int), ⟨⟩⟩, ⟨⟨(v : Int), (e : Int), ⟨⟩⟩, ⟨(b : List Int), (p : Int), ⟨⟩⟩, ⟨⟨⟩, ⟨⟩⟩⟩⟩ y hw hy
    obtain ⟨hg, hy⟩ := Tr.guard hy
    simp only [Bool.and_eq_true, decide_eq_true_eq, Bool.or_eq_true] at hg
    obtain ⟨h1, h2, h3, h4⟩ := hg
    have h1 : i = 0 := h1
    have h2 : xs = [] := List.eq_nil_of_length_eq_zero h2
    have h3 : spDok b p = true := h3
    have h4 : n ≤ 16 ∨ e ≠ 0 := h4
    subst h1
    subst h2
    refine ⟨n.toNat + 1, (loopwDones n v b (n.toNat + 1) 0 [] (e, p) (by omega) (by omega) rfl h3 (fun he => h4.resolve_right (fun h => h he))).trans ?_⟩
    rw [← hy]; rfl
  · rintro ⟨⟨⟨⟩, ⟨⟩, ⟨⟩⟩, ⟨⟨⟩, (v : Int), (e : Int), ⟨⟩⟩, ⟨(b : List Int), (p : Int), ⟨⟩⟩, ⟨⟨⟩, ⟨⟩⟩, ⟨⟩⟩ out hw ho
    obtain ⟨hg, ho⟩ := Tr.guard ho
    have hg : spDok b p = true := hg
    cases ho
    refine (runwDones v e b p).trans ?_
    unfold bodywDones
    show _ = some (Out.ret (((spDDones v b (e, p)).1, ()), decOutC v b (spDDones v b (e, p)).2))
    unfold spDDones spList
    refine (bif_true hg _ _).trans ?_
    have hr : spDok b (spDn .i32 4 b (e, p)).2.2 = true := spDn_ok .i32 4 (s := (e, p)) hg
    generalize spDn .i32 4 b (e, p) = r at hr ⊢
    obtain ⟨n, e1, q⟩ := r
    have hr : spDok b q = true := hr
    have key : ∀ e' : Int, (e' = 0 → n ≤ 16) → FwDones_10 ((n, ([], (0, ()))), ((v, (e', ())), ((b, (q, ())), ((), ())))) = .ite true (.ret (.ret ((), (((spRep (spDDone v b) n.toNat (e', q)).1, ()), decOutB v b (spRep (spDDone v b) n.toNat (e', q)).2)))) .no := by
      intro e' he
      refine congrArg (fun c => Tr.ite c _ _) ?_
      show (decide ((0 : Int) = 0) && (decide (([] : List tDone.den).length = 0) && (spDok b q && (decide (n ≤ 16) || decide (e' ≠ 0))))) = true
      rw [hr]
      by_cases h : e' = 0
      · simp [he h]
      · simp [h]
    unfold spLen
    show (bif e1 != 0 then _ else _) = _
    by_cases h1 : e1 = 0
    · refine (bif_false (by simpa using h1) _ _).trans ?_
      show (bif decide (n < 0) then _ else _) = _
      rw [if_pos h1]
      by_cases h2 : n < 0
      · refine (bif_true (by simpa using h2) _ _).trans ?_
        show (FwDones_10 ((n, ([], (0, ()))), ((v, (5, ())), ((b, (q, ())), ((), ()))))).run _ = _
        rw [key 5 (by omega), if_pos h2]
        rfl
      · refine (bif_false (by simpa using h2) _ _).trans ?_
        show (bif decide (16 < n) then _ else _) = _
        rw [if_neg h2]
        by_cases h3 : 16 < n
        · refine (bif_true (by simpa using h3) _ _).trans ?_
          show (FwDones_10 ((n, ([], (0, ()))), ((v, (9, ())), ((b, (q, ())), ((), ()))))).run _ = _
          rw [key 9 (by omega), if_pos h3]
          rfl
        · refine (bif_false (by simpa using h3) _ _).trans ?_
          show (FwDones_10 ((n, ([], (0, ()))), ((v, (e1, ())), ((b, (q, ())), ((), ()))))).run _ = _
          rw [key e1 (by omega), if_neg h3]
          rfl
    · refine (bif_true (by simpa using h1) _ _).trans ?_
      show (FwDones_10 ((n, ([], (0, ()))), ((v, (e1, ())), ((b, (q, ())), ((), ()))))).run _ = _
      rw [key e1 (fun h => absurd h h1), if_neg h1]
      rfl
/-! ### leat/produce.DecodeRep$1 -/
@[irreducible] noncomputable def spDGone (v : Int) (b : List Int) (s : DeS) : tGone.den × DeS := (((spDStr b s).1, ((spDDones v b (spDStr b s).2).1, ())), (spDDones v b (spDStr b s).2).2)
theorem spDGone_ok {v : Int} {b : List Int} {s : DeS} (h : spDok b s.2 = true) : spDok b (spDGone v b s).2.2 = true := by
  unfold spDGone
  exact spDDones_ok (spDStr_ok h)
noncomputable abbrev iowGone : Io := ⟨[.ptr 0 0], oDec1, [], [.dat tGone true false], none⟩
noncomputable def FwGone (d : iowGone.In) : Tr iowGone.Res := .ite (spDok d.2.2.2.1.1 d.2.2.2.1.2.1) (.ret (.ret (((spDGone d.2.2.1.2.1 d.2.2.2.1.1 (decSt d.2.2)).1, ()), decOut1 d.2.2.1.2.1 d.2.2.2.1.1 (spDGone d.2.2.1.2.1 d.2.2.2.1.1 (decSt d.2.2)).2))) .no
noncomputable abbrev cswGone : List (Nat × Hc) := [(67, ioHd iodStr FdStr), (74, ioHd iowDones FwDones)]
noncomputable def hdwGone : Hd := hdT cswGone
noncomputable def lpwGone : Lp := lpT []

noncomputable def bodywGone (a0 : Int) (a1 : Int) (a2 : List Int) (a3 : Int) : Option iowGone.Res := bif spDok a2 a3 then bif spDok a2 (spDStr a2 (a1, a3)).snd.snd then some (Out.ret ((((spDStr a2 (a1, a3)).fst, (spDDones a0 a2 (spDStr a2 (a1, a3)).snd).fst, ()), ()), ((), ()), ((), a0, (spDDones a0 a2 (spDStr a2 (a1, a3)).snd).snd.fst, ()), (a2, (spDDones a0 a2 (spDStr a2 (a1, a3)).snd).snd.snd, ()), ())) else none else none
theorem runwGone (a0 : Int) (a1 : Int) (a2 : List Int) (a3 : Int) : Io.run tt hdwGone dr lpwGone iowGone Go.Proofs.Tryz.f73 (((), ()), ((), ()), ((), a0, a1, ()), (a2, a3, ()), ()) = bodywGone a0 a1 a2 a3 := by kernel_rfl
theorem okwGone : HcOk prog 73 (ioHd iowGone FwGone) := by
  refine fn_sound (n := 400) hm (cs := cswGone) (.cons okdStr (.cons okwDones .nil)) (lp := lpwGone) (fn := Go.Proofs.Tryz.f73) (by kernel_rfl) (by kernel_rfl) (by kernel_rfl) iowGone (.done (by kernel_rfl)) FwGone ?_
  rintro ⟨⟨⟨⟩, ⟨⟩⟩, ⟨⟨⟩, ⟨⟩⟩, ⟨⟨⟩, (v : Int), (e : Int), ⟨⟩⟩, ⟨(b : List Int), (p : Int), ⟨⟩⟩, ⟨⟩⟩ out hw ho
  obtain ⟨hg, ho⟩ := Tr.guard ho
  have hg : spDok b p = true := hg
  cases ho
  refine (runwGone v e b p).trans ?_
  unfold bodywGone
  show _ = some (Out.ret (((spDGone v b (e, p)).1, ()), decOut1 v b (spDGone v b (e, p)).2))
  unfold spDGone
  refine (bif_true hg _ _).trans ?_
  exact bif_true (spDStr_ok (s := (e, p)) hg) _ _
/-! ### leat/wire.List[leat/api.ProdGone] -/
@[irreducible] noncomputable def spDGones (v : Int) (b : List Int) (s : DeS) : List tGone.den × DeS := spList (spDGone v b) b s
theorem spDGones_ok {v : Int} {b : List Int} {s : DeS} (h : spDok b s.2 = true) : spDok b (spDGones v b s).2.2 = true := by
  unfold spDGones
  exact spList_ok (fun s h => spDGone_ok h) h
noncomputable abbrev iowGones : Io := ⟨[.ptr 0 0, .fnc 73 false [2]], oDecC, [], [.dat (.sl 103 tGone) false false], none⟩
noncomputable def FwGones (d : iowGones.In) : Tr iowGones.Res := .ite (spDok d.2.2.1.1 d.2.2.1.2.1) (.ret (.ret (((spDGones d.2.1.2.1 d.2.2.1.1 (decStC d.2)).1, ()), decOutC d.2.1.2.1 d.2.2.1.1 (spDGones d.2.1.2.1 d.2.2.1.1 (decStC d.2)).2))) .no
noncomputable abbrev cswGones : List (Nat × Hc) := [(64, ioHd iodI32 FdI32), (73, ioHd iowGone FwGone)]
noncomputable def hdwGones : Hd := hdT cswGones
noncomputable abbrev lowGones_10 : Lo := ⟨⟨[.one (.ptr 0 0), .one (.fnp 73 false [2]), .any, .any, .any, .one (.hol (.int IntKind.i32)), .one (.onl 103 tGone 19), .one (.hol (.int IntKind.i32)), .any, .any, .any, .any, .any, .any, .any, .any, .any, .any, .any, .any, .any, .any, .any, .any, .any, .any, .any, .any, .any, .any, .any, .any, .any, .any, .any, .any, .any, .any, .any, .any, .any, .any, .any, .any, .any, .any], [some [.ptr 1 0, .hol (.int IntKind.i64), .hol (.int IntKind.i64)], some [.hol (.sl 5 (Ty.int IntKind.u8)), .hol (.int IntKind.i64)], some [.ptr 0 0]]⟩, [(.exit 1, ⟨[.any, .any, .any, .any, .any, .any, .one (.onl 103 tGone 19), .any, .any, .any, .any, .any, .any, .any, .any, .any, .any, .any, .any, .any, .any, .any, .any, .any, .any, .any, .any, .any, .any, .any, .any, .any, .any, .any, .any, .any, .any, .any, .any, .any, .any, .any, .any, .any, .any, .any], [some [.ptr 1 0, .hol (.int IntKind.i64), .hol (.int IntKind.i64)], some [.hol (.sl 5 (Ty.int IntKind.u8)), .hol (.int IntKind.i64)], some [.ptr 0 0]]⟩)]⟩
-- FwGones_10 : lowGones_10.st.den → Tr (DenX lowGones_10.xs) | ((h4, (h5, (h6, ()))), ((h7, (h8, ())), ((h9, (h10, ())), ((), ()))))
noncomputable def FwGones_10 (d : lowGones_10.st.den) : Tr (DenX lowGones_10.xs) :=
  .ite (decide (d.1.2.2.1 = 0) && (decide (d.1.2.1.length = 0) && (spDok d.2.2.1.1 d.2.2.1.2.1 && (decide (d.1.1 ≤ (16 : Int)) || decide (d.2.1.2.1 ≠ 0))))) (.ret (.ret ((), (((spRep (spDGone d.2.1.1 d.2.2.1.1) d.1.1.toNat (d.2.1.2.1, d.2.2.1.2.1)).1, ()), decOutB d.2.1.1 d.2.2.1.1 (spRep (spDGone d.2.1.1 d.2.2.1.1) d.1.1.toNat (d.2.1.2.1, d.2.2.1.2.1)).2)))) .no
noncomputable def lpwGones : Lp := lpT [(10, loHd lowGones_10 FwGones_10)]
noncomputable def stepwGones_10 {R : Type} (h4 : Int) (h5 : List tGone.den) (h6 : Int) (h7 : Int) (h8 : Int) (h9 : List Int) (h10 : Int) (next : Int → List tGone.den → Int → Int → Int → List Int → Int → Option R) (out : DenX lowGones_10.xs → Option R) : Option R := bif decide (h6 < h4) then bif h8 == 0 then bif spDok h9 h10 then bif decide (h5.length + 1 ≤ 4294967296) then next (h4) (h5 ++ [(spDGone h7 h9 (h8, h10)).fst]) (IntKind.i32.wrap (h6 + 1)) (h7) ((spDGone h7 h9 (h8, h10)).snd.fst) (h9) ((spDGone h7 h9 (h8, h10)).snd.snd) else none else none else out (.ret ((), ((h5, ()), ((h7, (h8, ())), ((h9, (h10, ())), ((), ())))))) else out (.ret ((), ((h5, ()), ((h7, (h8, ())), ((h9, (h10, ())), ((), ()))))))
noncomputable def itwGones_10 (n : Nat) (h4 : Int) (h5 : List tGone.den) (h6 : Int) (h7 : Int) (h8 : Int) (h9 : List Int) (h10 : Int) : Option (DenX lowGones_10.xs) := lpN tt hdwGones dr lpwGones 3 Go.Proofs.Tryz.f72 (topL Go.Proofs.Tryz.f72 0) n (lowGones_10.st.mk' ((h4, (h5, (h6, ()))), ((h7, (h8, ())), ((h9, (h10, ())), ((), ()))))) (decX lowGones_10.xs)
theorem slwGones_10 (n : Nat) (h4 : Int) (h5 : List tGone.den) (h6 : Int) (h7 : Int) (h8 : Int) (h9 : List Int) (h10 : Int) : itwGones_10 (n + 1) h4 h5 h6 h7 h8 h9 h10 = stepwGones_10 h4 h5 h6 h7 h8 h9 h10 (itwGones_10 n) some := by kernel_rfl
theorem loopwGones (n v : Int) (b : List Int) : ∀ (k j : Nat) (xs : List tGone.den) (s : DeS), n.toNat < j + k → j ≤ n.toNat → xs.length = j → spDok b s.2 = true → (s.1 = 0 → n ≤ 16) →
    itwGones_10 k n xs j v s.1 b s.2 = some (.ret ((), ((xs ++ (spRep (spDGone v b) (n.toNat - j) s).1, ()), decOutB v b (spRep (spDGone v b) (n.toNat - j) s).2))) := by
  intro k
  induction k with
  | zero => intro j xs s h; omega
  | succ k ih =>
    intro j xs s h1 h2 h3 h4 h5
    rw [slwGones_10]
    unfold stepwGones_10
    by_cases hj : (j : Int) < n
    · refine (bif_true (by simpa using hj) _ _).trans ?_
      obtain ⟨m, hm⟩ : ∃ m, n.toNat - j = m + 1 := ⟨n.toNat - j - 1, by omega⟩
      rw [hm]
      by_cases he : s.1 = 0
      · refine (bif_true (by simpa using he) _ _).trans ?_
        have hn := h5 he
        refine (bif_true h4 _ _).trans ?_
        refine (bif_true (decide_eq_true (show xs.length + 1 ≤ 4294967296 by omega)) _ _).trans ?_
        have hw : IntKind.i32.wrap ((j : Int) + 1) = ((j + 1 : Nat) : Int) := wrap_id (by simp [inR, IntKind.min, IntKind.max, IntKind.signed, IntKind.bits]; omega)
        rw [hw]
        refine (ih (j + 1) (xs ++ [(spDGone v b s).1]) (spDGone v b s).2 (by omega) (by omega) (by simp [h3]) (spDGone_ok h4) (fun _ => hn)).trans ?_
        rw [show n.toNat - (j + 1) = m by omega, spRep, if_pos he]
        simp
      · refine (bif_false (by simpa using he) _ _).trans ?_
        rw [spRep, if_neg he]
        simp
    · refine (bif_false (by simpa using hj) _ _).trans ?_
      rw [show n.toNat - j = 0 by omega, spRep]
      simp
noncomputable def bodywGones (a0 : Int) (a1 : Int) (a2 : List Int) (a3 : Int) : Option iowGones.Res := bif spDok a2 a3 then bif (spDn IntKind.i32 4 a2 (a1, a3)).snd.fst != 0 then (FwGones_10 (((spDn IntKind.i32 4 a2 (a1, a3)).fst, ([], (0, ()))), ((a0, ((spDn IntKind.i32 4 a2 (a1, a3)).snd.fst, ())), ((a2, ((spDn IntKind.i32 4 a2 (a1, a3)).snd.snd, ())), ((), ()))))).run fun y => match y with | .ret ((), ((x28, ()), (x29, x30, ()), (x31, x32, ()), (), ())) => (some (Out.ret ((x28, ()), ((), x29, x30, ()), (x31, x32, ()), ((), ()), ()))) else bif decide ((spDn IntKind.i32 4 a2 (a1, a3)).fst < 0) then (FwGones_10 (((spDn IntKind.i32 4 a2 (a1, a3)).fst, ([], (0, ()))), ((a0, (5, ())), ((a2, ((spDn IntKind.i32 4 a2 (a1, a3)).snd.snd, ())), ((), ()))))).run fun y => match y with | .ret ((), ((x40, ()), (x41, x42, ()), (x43, x44, ()), (), ())) => (some (Out.ret ((x40, ()), ((), x41, x42, ()), (x43, x44, ()), ((), ()), ()))) else bif decide (16 < (spDn IntKind.i32 4 a2 (a1, a3)).fst) then (FwGones_10 (((spDn IntKind.i32 4 a2 (a1, a3)).fst, ([], (0, ()))), ((a0, (9, ())), ((a2, ((spDn IntKind.i32 4 a2 (a1, a3)).snd.snd, ())), ((), ()))))).run fun y => match y with | .ret ((), ((x52, ()), (x53, x54, ()), (x55, x56, ()), (), ())) => (some (Out.ret ((x52, ()), ((), x53, x54, ()), (x55, x56, ()), ((), ()), ()))) else (FwGones_10 (((spDn IntKind.i32 4 a2 (a1, a3)).fst, ([], (0, ()))), ((a0, ((spDn IntKind.i32 4 a2 (a1, a3)).snd.fst, ())), ((a2, ((spDn IntKind.i32 4 a2 (a1, a3)).snd.snd, ())), ((), ()))))).run fun y => match y with | .ret ((), ((x64, ()), (x65, x66, ()), (x67, x68, ()), (), ())) => (some (Out.ret ((x64, ()), ((), x65, x66, ()), (x67, x68, ()), ((), ()), ()))) else none
theorem runwGones (a0 : Int) (a1 : Int) (a2 : List Int) (a3 : Int) : Io.run tt hdwGones dr lpwGones iowGones Go.Proofs.Tryz.f72 (((), (), ()), ((), a0, a1, ()), (a2, a3, ()), ((), ()), ()) = bodywGones a0 a1 a2 a3 := by kernel_rfl
theorem okwGones : HcOk prog 72 (ioHd iowGones FwGones) := by
  refine fn_sound (n := 400) hm (cs := cswGones) (.cons okdI32 (.cons okwGone .nil)) (lp := lpwGones) (fn := Go.Proofs.Tryz.f72) (by kernel_rfl) (by kernel_rfl) (by kernel_rfl) iowGones (.step (h0 := loHd lowGones_10 FwGones_10) (by kernel_rfl) (loop_sound (n := 400) hm (cs := cswGones) (.cons okdI32 (.cons okwGone .nil)) (lp := lpwGones) (fn := Go.Proofs.Tryz.f72) (.done (by kernel_rfl)) lowGones_10 FwGones_10 ?_) (.done (by kernel_rfl))) FwGones ?_
  · rintro ⟨⟨(n : Int), (xs : List tGone.den), (i : Int), ⟨⟩⟩, ⟨⟨(v : Int), (e : Int), ⟨⟩⟩, ⟨(b : List Int), (p : Int), ⟨⟩⟩, ⟨⟨⟩, ⟨⟩⟩⟩⟩ y hw hy
    obtain ⟨hg, hy⟩ := Tr.guard hy
    simp only [Bool.and_eq_true, decide_eq_true_eq, Bool.or_eq_true] at hg
    obtain ⟨h1, h2, h3, h4⟩ := hg
    have h1 : i = 0 := h1
    have h2 : xs = [] := List.eq_nil_of_length_eq_zero h2
    have h3 : spDok b p = true := h3
    have h4 : n ≤ 16 ∨ e ≠ 0 := h4
    subst h1
    subst h2
    refine ⟨n.toNat + 1, (loopwGones n v b (n.toNat + 1) 0 [] (e, p) (by omega) (by omega) rfl h3 (fun he => h4.resolve_right (fun h => h he))).trans ?_⟩
    rw [← hy]; rfl
  · rintro ⟨⟨⟨⟩, ⟨⟩, ⟨⟩⟩, ⟨⟨⟩, (v : Int), (e : Int), ⟨⟩⟩, ⟨(b : List Int), (p : Int), ⟨⟩⟩, ⟨⟨⟩, ⟨⟩⟩, ⟨⟩⟩ out hw ho
    obtain ⟨hg, ho⟩ := Tr.guard ho
    have hg : spDok b p = true := hg
    cases ho
    refine (runwGones v e b p).trans ?_
    unfold bodywGones
    show _ = some (Out.ret (((spDGones v b (e, p)).1, ()), decOutC v b (spDGones v b (e, p)).2))
    unfold spDGones spList
    refine (bif_true hg _ _).trans ?_
    have hr : spDok b (spDn .i32 4 b (e, p)).2.2 = true := spDn_ok .i32 4 (s := (e, p)) hg
    generalize spDn .i32 4 b (e, p) = r at hr ⊢
    obtain ⟨n, e1, q⟩ := r
    have hr : spDok b q = true := hr
    have key : ∀ e' : Int, (e' = 0 → n ≤ 16) → FwGones_10 ((n, ([], (0, ()))), ((v, (e', ())), ((b, (q, ())), ((), ())))) = .ite true (.ret (.ret ((), (((spRep (spDGone v b) n.toNat (e', q)).1, ()), decOutB v b (spRep (spDGone v b) n.toNat (e', q)).2)))) .no := by
      intro e' he
      refine congrArg (fun c => Tr.ite c _ _) ?_
      show (decide ((0 : Int) = 0) && (decide (([] : List tGone.den).length = 0) && (spDok b q && (decide (n ≤ 16) || decide (e' ≠ 0))))) = true
      rw [hr]
      by_cases h : e' = 0
      · simp [he h]
      · simp [h]
    unfold spLen
    show (bif e1 != 0 then _ else _) = _
    by_cases h1 : e1 = 0
    · refine (bif_false (by simpa using h1) _ _).trans ?_
      show (bif decide (n < 0) then _ else _) = _
      rw [if_pos h1]
      by_cases h2 : n < 0
      · refine (bif_true (by simpa using h2) _ _).trans ?_
        show (FwGones_10 ((n, ([], (0, ()))), ((v, (5, ())), ((b, (q, ())), ((), ()))))).run _ = _
        rw [key 5 (by omega), if_pos h2]
        rfl
      · refine (bif_false (by simpa using h2) _ _).trans ?_
        show (bif decide (16 < n) then _ else _) = _
        rw [if_neg h2]
        by_cases h3 : 16 < n
        · refine (bif_true (by simpa using h3) _ _).trans ?_
          show (FwGones_10 ((n, ([], (0, ()))), ((v, (9, ())), ((b, (q, ())), ((), ()))))).run _ = _
          rw [key 9 (by omega), if_pos h3]
          rfl
        · refine (bif_false (by simpa using h3) _ _).trans ?_
          show (FwGones_10 ((n, ([], (0, ()))), ((v, (e1, ())), ((b, (q, ())), ((), ()))))).run _ = _
          rw [key e1 (by omega), if_neg h3]
          rfl
    · refine (bif_true (by simpa using h1) _ _).trans ?_
      show (FwGones_10 ((n, ([], (0, ()))), ((v, (e1, ())), ((b, (q, ())), ((), ()))))).run _ = _
      rw [key e1 (fun h => absurd h h1), if_neg h1]
      rfl
/-! ### leat/wire.List[leat/api.ProdGone] -/
noncomputable abbrev iowGonesZ : Io := ⟨[.ptr 0 0, .fnc 73 false [1]], oDecCZ, [], [.dat (.sl 103 tGone) false false], none⟩
noncomputable def FwGonesZ (d : iowGonesZ.In) : Tr iowGonesZ.Res := .ite (decide (d.2.1.2.2.1 ≠ 0)) (.ret (.ret ((([] : List tGone.den), ()), d.2))) .no
noncomputable abbrev cswGonesZ : List (Nat × Hc) := [(64, orHd deadB (ioHd iodI32Z FdI32Z) (ioHd iodI32 FdI32))]
noncomputable def hdwGonesZ : Hd := hdT cswGonesZ
noncomputable abbrev lowGonesZ_10 : Lo := ⟨⟨[.one (.ptr 0 0), .one (.fnp 73 false [1]), .any, .any, .any, .one (.hol (.int IntKind.i32)), .one (.onl 103 tGone 17), .one (.hol (.int IntKind.i32)), .any, .any, .any, .any, .any, .any, .any, .any, .any, .any, .any, .any, .any, .any, .any, .any, .any, .any, .any, .any, .any, .any, .any, .any, .any, .any, .any, .any, .any, .any, .any, .any, .any, .any, .any, .any, .any, .any], [some [.nilp, .hol (.int IntKind.i64), .hol (.int IntKind.i64)], some [.ptr 0 0]]⟩, [(.exit 1, ⟨[.any, .any, .any, .any, .any, .any, .one (.onl 103 tGone 17), .any, .any, .any, .any, .any, .any, .any, .any, .any, .any, .any, .any, .any, .any, .any, .any, .any, .any, .any, .any, .any, .any, .any, .any, .any, .any, .any, .any, .any, .any, .any, .any, .any, .any, .any, .any, .any, .any, .any], [some [.nilp, .hol (.int IntKind.i64), .hol (.int IntKind.i64)], some [.ptr 0 0]]⟩)]⟩
-- FwGonesZ_10 : lowGonesZ_10.st.den → Tr (DenX lowGonesZ_10.xs) | ((h2, (h3, (h4, ()))), ((h5, (h6, ())), ((), ())))
noncomputable def FwGonesZ_10 (d : lowGonesZ_10.st.den) : Tr (DenX lowGonesZ_10.xs) :=
  .ite (decide (d.2.1.2.1 ≠ 0)) (.ret (.ret ((), ((d.1.2.1, ()), d.2)))) .no
noncomputable def lpwGonesZ : Lp := lpT [(10, loHd lowGonesZ_10 FwGonesZ_10)]
noncomputable def stepwGonesZ_10 {R : Type} (h2 : Int) (h3 : List tGone.den) (h4 : Int) (h5 : Int) (h6 : Int) (next : Int → List tGone.den → Int → Int → Int → Option R) (out : DenX lowGonesZ_10.xs → Option R) : Option R := bif decide (h4 < h2) then bif h6 == 0 then none else out (.ret ((), ((h3, ()), ((h5, (h6, ())), ((), ()))))) else out (.ret ((), ((h3, ()), ((h5, (h6, ())), ((), ())))))
noncomputable def itwGonesZ_10 (n : Nat) (h2 : Int) (h3 : List tGone.den) (h4 : Int) (h5 : Int) (h6 : Int) : Option (DenX lowGonesZ_10.xs) := lpN tt hdwGonesZ dr lpwGonesZ 2 Go.Proofs.Tryz.f72 (topL Go.Proofs.Tryz.f72 0) n (lowGonesZ_10.st.mk' ((h2, (h3, (h4, ()))), ((h5, (h6, ())), ((), ())))) (decX lowGonesZ_10.xs)
theorem slwGonesZ_10 (n : Nat) (h2 : Int) (h3 : List tGone.den) (h4 : Int) (h5 : Int) (h6 : Int) : itwGonesZ_10 (n + 1) h2 h3 h4 h5 h6 = stepwGonesZ_10 h2 h3 h4 h5 h6 (itwGonesZ_10 n) some := by kernel_rfl
noncomputable def bodywGonesZ (a0 : Int) (a1 : Int) : Option iowGonesZ.Res := bif decide (a1 ≠ 0) then bif a1 != 0 then (FwGonesZ_10 ((0, ([], (0, ()))), ((a0, (a1, ())), ((), ())))).run fun y => match y with | .ret ((), ((x13, ()), (x14, x15, ()), (), ())) => (some (Out.ret ((x13, ()), ((), x14, x15, ()), ((), ()), ()))) else (FwGonesZ_10 ((0, ([], (0, ()))), ((a0, (a1, ())), ((), ())))).run fun y => match y with | .ret ((), ((x21, ()), (x22, x23, ()), (), ())) => (some (Out.ret ((x21, ()), ((), x22, x23, ()), ((), ()), ()))) else none
theorem runwGonesZ (a0 : Int) (a1 : Int) : Io.run tt hdwGonesZ dr lpwGonesZ iowGonesZ Go.Proofs.Tryz.f72 (((), (), ()), ((), a0, a1, ()), ((), ()), ()) = bodywGonesZ a0 a1 := by kernel_rfl
theorem okwGonesZ : HcOk prog 72 (ioHd iowGonesZ FwGonesZ) := by
  refine fn_sound (n := 400) hm (cs := cswGonesZ) (.cons (or_sound okdI32Z okdI32) .nil) (lp := lpwGonesZ) (fn := Go.Proofs.Tryz.f72) (by kernel_rfl) (by kernel_rfl) (by kernel_rfl) iowGonesZ (.step (h0 := loHd lowGonesZ_10 FwGonesZ_10) (by kernel_rfl) (loop_sound (n := 400) hm (cs := cswGonesZ) (.cons (or_sound okdI32Z okdI32) .nil) (lp := lpwGonesZ) (fn := Go.Proofs.Tryz.f72) (.done (by kernel_rfl)) lowGonesZ_10 FwGonesZ_10 ?_) (.done (by kernel_rfl))) FwGonesZ ?_
  · rintro ⟨⟨(n : Int), (xs : List tGone.den), (i : Int), ⟨⟩⟩, ⟨⟨(v : Int), (e : Int), ⟨⟩⟩, ⟨⟨⟩, ⟨⟩⟩⟩⟩ y hw hy
    obtain ⟨hg, hy⟩ := Tr.guard hy
    have hg : e ≠ 0 := of_decide_eq_true hg
    refine ⟨1, (slwGonesZ_10 0 n xs i v e).trans ?_⟩
    unfold stepwGonesZ_10
    rw [← hy]
    by_cases h : i < n
    · refine (bif_true (by simpa using h) _ _).trans ?_
      exact bif_false (by simpa using hg) _ _
    · exact bif_false (by simpa using h) _ _
  · rintro ⟨⟨⟨⟩, ⟨⟩, ⟨⟩⟩, ⟨⟨⟩, (v : Int), (e : Int), ⟨⟩⟩, ⟨⟨⟩, ⟨⟩⟩, ⟨⟩⟩ out hw ho
    obtain ⟨hg, ho⟩ := Tr.guard ho
    have hg : e ≠ 0 := of_decide_eq_true hg
    cases ho
    refine (runwGonesZ v e).trans ?_
    unfold bodywGonesZ
    have e1 : FwGonesZ_10 ((0, ([], (0, ()))), ((v, (e, ())), ((), ()))) = .ite true (.ret (.ret ((), ((([] : List tGone.den), ()), ((v, (e, ())), ((), ())))))) .no := congrArg (fun c => Tr.ite c _ _) (decide_eq_true hg)
    refine (bif_true (by simpa using hg) _ _).trans ?_
    refine (bif_true (by simpa using hg) _ _).trans ?_
    rw [e1]
    rfl

/-! ### leat/produce.DecodeRep -/
noncomputable def spZRep : tRep.den := (([] : List tGone.den), (0, ()))
noncomputable def spDRepB (v : Int) (b : List Int) : tRep.den × DeS :=
  (((spDGones v b (0, 0)).1, ((spDHasN .i32 4 v 1 3 b (spDGones v b (0, 0)).2).1, ())), (spDHasN .i32 4 v 1 3 b (spDGones v b (0, 0)).2).2)
noncomputable def spDecRep (v : Int) (b : List Int) : tRep.den × Int := if 0 ≤ v ∧ v ≤ 3 ∧ (b.length : Int) ≤ 130048 then (if spDEnd b (spDRepB v b).2 = 0 then ((spDRepB v b).1, 0) else (spZRep, spDEnd b (spDRepB v b).2)) else (spZRep, spNewD v)
noncomputable abbrev iowRep : Io := ⟨[dI, dL], [], [], [.dat tRep true false, dI], none⟩
noncomputable def FwRep (d : iowRep.In) : Tr iowRep.Res := .ret (.ret (((spDecRep d.1.1 d.1.2.1).1, ((spDecRep d.1.1 d.1.2.1).2, ())), ()))
noncomputable abbrev cswRep : List (Nat × Hc) := [(60, orHd newBad (ioHd iodNewZ FdNewZ) (ioHd iodNew FdNew)), (61, orHd deadB (ioHd iodHasZ FdHasZ) (ioHd iodHas FdHas)), (64, orHd deadB (ioHd iodI32Z FdI32Z) (ioHd iodI32 FdI32)), (72, orHd deadB (ioHd iowGonesZ FwGonesZ) (ioHd iowGones FwGones)), (71, orHd deadB (ioHd iodEndZ FdEndZ) (ioHd iodEnd FdEnd))]
noncomputable def hdwRep : Hd := hdT cswRep
noncomputable def lpwRep : Lp := lpT []

noncomputable def bodywRep (a0 : Int) (a1 : List Int) : Option iowRep.Res := bif !(decide (0 ≤ a0) && (decide (a0 ≤ 3) && decide ((↑a1.length : Int) ≤ 130048))) then bif decide (0 ≤ a0) && (decide (a0 ≤ 3) && decide ((↑a1.length : Int) ≤ 130048)) then none else bif decide (spNewD a0 ≠ 0) then bif decide (spNewD a0 ≠ 0) then bif decide (spNewD a0 ≠ 0) then bif spNewD a0 != 0 then some (Out.ret ((([], 0, ()), spNewD a0, ()), ())) else some (Out.ret ((([], 0, ()), 0, ()), ())) else none else none else none else bif decide (0 ≤ a0) && (decide (a0 ≤ 3) && decide ((↑a1.length : Int) ≤ 130048)) then bif spDok a1 0 then bif spDHas a0 1 3 (spDGones a0 a1 (0, 0)).snd.fst then bif spDok a1 (spDGones a0 a1 (0, 0)).snd.snd then bif spDEnd a1 (spDn IntKind.i32 4 a1 (spDGones a0 a1 (0, 0)).snd).snd != 0 then some (Out.ret ((([], 0, ()), spDEnd a1 (spDn IntKind.i32 4 a1 (spDGones a0 a1 (0, 0)).snd).snd, ()), ())) else some (Out.ret ((((spDGones a0 a1 (0, 0)).fst, (spDn IntKind.i32 4 a1 (spDGones a0 a1 (0, 0)).snd).fst, ()), 0, ()), ())) else none else bif spDEnd a1 (spDGones a0 a1 (0, 0)).snd != 0 then some (Out.ret ((([], 0, ()), spDEnd a1 (spDGones a0 a1 (0, 0)).snd, ()), ())) else some (Out.ret ((((spDGones a0 a1 (0, 0)).fst, 0, ()), 0, ()), ())) else none else none
theorem runwRep (a0 : Int) (a1 : List Int) : Io.run tt hdwRep dr lpwRep iowRep Go.Proofs.Tryz.f24 ((a0, a1, ()), ()) = bodywRep a0 a1 := by kernel_rfl
theorem okwRep : HcOk prog 24 (ioHd iowRep FwRep) := by
  refine fn_sound (n := 400) hm (cs := cswRep) (.cons (or_sound okdNewZ okdNew) (.cons (or_sound okdHasZ okdHas) (.cons (or_sound okdI32Z okdI32) (.cons (or_sound okwGonesZ okwGones) (.cons (or_sound okdEndZ okdEnd) .nil))))) (lp := lpwRep) (fn := Go.Proofs.Tryz.f24) (by kernel_rfl) (by kernel_rfl) (by kernel_rfl) iowRep (.done (by kernel_rfl)) FwRep ?_
  rintro ⟨⟨(v : Int), (b : List Int), ⟨⟩⟩, ⟨⟩⟩ out hw ho
  cases ho
  refine (runwRep v b).trans ?_
  unfold bodywRep
  show _ = some (Out.ret (((spDecRep v b).1, ((spDecRep v b).2, ())), ()))
  by_cases h : 0 ≤ v ∧ v ≤ 3 ∧ (b.length : Int) ≤ 130048
  · have hc : (decide (0 ≤ v) && (decide (v ≤ 3) && decide ((b.length : Int) ≤ 130048))) = true := by simpa using h
    refine (bif_false (by rw [hc]; rfl) _ _).trans ?_
    refine (bif_true hc _ _).trans ?_
    have hg : spDok b 0 = true := by simp [spDok]; omega
    unfold spDecRep spDRepB
    rw [if_pos h]
    have g1 : spDok b (spDGones v b (0, 0)).2.2 = true := spDGones_ok (s := (0, 0)) hg
    refine (bif_true hg _ _).trans ?_
    show (bif spDHas v 1 3 (spDGones v b (0, 0)).2.1 then _ else _) = _
    cases h2 : spDHas v 1 3 (spDGones v b (0, 0)).2.1
    · have e2 : spDHasN .i32 4 v 1 3 b (spDGones v b (0, 0)).2 = (0, (spDGones v b (0, 0)).2) := by unfold spDHasN; rw [if_neg (by rw [h2]; decide)]
      rw [e2]
      show _ = some (Out.ret (((if spDEnd b (spDGones v b (0, 0)).2 = 0 then _ else _ : tRep.den × Int).1, _), ()))
      by_cases hE : spDEnd b (spDGones v b (0, 0)).2 = 0
      · rw [if_pos hE]
        exact bif_false (show (spDEnd b (spDGones v b (0, 0)).2 != 0) = false by simpa using hE) _ _
      · rw [if_neg hE]
        exact bif_true (show (spDEnd b (spDGones v b (0, 0)).2 != 0) = true by simpa using hE) _ _
    · have e2 : spDHasN .i32 4 v 1 3 b (spDGones v b (0, 0)).2 = spDn .i32 4 b (spDGones v b (0, 0)).2 := by unfold spDHasN; rw [if_pos h2]
      rw [e2]
      refine (bif_true g1 _ _).trans ?_
      by_cases hE : spDEnd b (spDn .i32 4 b (spDGones v b (0, 0)).2).2 = 0
      · rw [if_pos hE]
        exact bif_false (by simpa using hE) _ _
      · rw [if_neg hE]
        exact bif_true (by simpa using hE) _ _
  · have hc : (decide (0 ≤ v) && (decide (v ≤ 3) && decide ((b.length : Int) ≤ 130048))) = false := by
      rw [Bool.eq_false_iff]
      intro h'
      simp only [Bool.and_eq_true, decide_eq_true_eq] at h'
      exact h h'
    have hn : spNewD v ≠ 0 := by unfold spNewD; split <;> decide
    unfold spDecRep
    rw [if_neg h]
    refine (bif_true (by rw [hc]; rfl) _ _).trans ?_
    refine (bif_false hc _ _).trans ?_
    refine (bif_true (decide_eq_true hn) _ _).trans ?_
    refine (bif_true (decide_eq_true hn) _ _).trans ?_
    refine (bif_true (decide_eq_true hn) _ _).trans ?_
    exact bif_true (by simpa using hn) _ _
end
end Go.Proofs.YtmlgepgcofmpeaaGreat.Sym
