/- leatlaw07: alive, RecGets. -/
import Derived.Test.YtnppjkijhcampaaCKput

namespace Go.Proofs.Ytnppjkijhcampaa.Sym
open Go
set_option linter.unusedSimpArgs false
set_option linter.unusedVariables false
noncomputable section

/-! ### leat/leatlaw07.alive -/
noncomputable abbrev iolalive : Io := ⟨[], [], [], [dB], none⟩
noncomputable def Flalive (d : iolalive.In) : Tr iolalive.Res := .ret (.ret ((true, ()), ()))
noncomputable abbrev cslalive : List (Nat × Hc) := [(15, ioHd iokPut FkPut), (11, ioHd iokGet FkGet), (25, ioHd ioSame FSame)]
noncomputable def hdlalive : Hd := hdT cslalive
noncomputable def lplalive : Lp := lpT []

noncomputable def bodylalive : Option iolalive.Res := some (Out.ret ((decide (List.take (IntKind.i32.wrap (spZag (spVal (List.take ((↑0 : Int) + 1).toNat (List.drop (1 + (↑0 : Int) + 1 + (↑0 : Int) + 1 + (↑0 : Int) + 1).toNat (List.take (IntKind.i32.wrap (spZag (spVal (List.take ((↑0 : Int) + 1).toNat (List.drop (Int.toNat 0) [16, 0, 0, 0, 1, 4, 104, 105, 0])) % 18446744073709551616))).toNat (List.drop (0 + (↑0 : Int) + 1).toNat [16, 0, 0, 0, 1, 4, 104, 105, 0])))) % 18446744073709551616))).toNat (List.drop (1 + (↑0 : Int) + 1 + (↑0 : Int) + 1 + (↑0 : Int) + 1 + (↑0 : Int) + 1).toNat (List.take (IntKind.i32.wrap (spZag (spVal (List.take ((↑0 : Int) + 1).toNat (List.drop (Int.toNat 0) [16, 0, 0, 0, 1, 4, 104, 105, 0])) % 18446744073709551616))).toNat (List.drop (0 + (↑0 : Int) + 1).toNat [16, 0, 0, 0, 1, 4, 104, 105, 0]))) = List.map (fun (c : UInt8) => (↑c.toNat : Int)) [UInt8.ofBitVec (BitVec.ofFin (Fin.mk (104 % 2 ^ 8) (Nat.mod_lt 104 (BitVec.ofNat._proof_1 8)))), UInt8.ofBitVec (BitVec.ofFin (Fin.mk (105 % 2 ^ 8) (Nat.mod_lt 105 (BitVec.ofNat._proof_1 8))))]), ()), ()))
theorem runlalive : Io.run tt hdlalive dr lplalive iolalive Go.Proofs.Try.f9 ((), ()) = bodylalive  := by kernel_rfl
theorem oklalive : HcOk prog 9 (ioHd iolalive Flalive) := by
  refine fn_sound (n := 400) hm (cs := cslalive) (.cons okkPut (.cons okkGet (.cons okSame .nil))) (lp := lplalive) (fn := Go.Proofs.Try.f9) (by kernel_rfl) (by kernel_rfl) (by kernel_rfl) iolalive (.done (by kernel_rfl)) Flalive ?_
  rintro ⟨⟨⟩, ⟨⟩⟩ out hw ho
  cases ho
  refine runlalive.trans ?_
  kernel_rfl

/-! ### leat/leatlaw07.RecGets -/
noncomputable abbrev iolGets : Io := ⟨[dL, dI], [], [], [dB], none⟩
noncomputable def FlGets (d : iolGets.In) : Tr iolGets.Res := .ite (decide (d.1.1.length ≤ 4294967000)) (.ret (.ret ((true, ()), ()))) .no
noncomputable abbrev cslGets : List (Nat × Hc) := [(9, ioHd iolalive Flalive), (10, ioHd ioWide FWide), (11, ioHd iokGet FkGet), (12, ioHd iorRGet FrRGet), (13, ioHd iorAlike FrAlike), (14, ioHd ioIntact FIntact)]
noncomputable def hdlGets : Hd := hdT cslGets
noncomputable def lplGets : Lp := lpT []

noncomputable def bodylGets (a0 : List Int) (a1 : Int) : Option iolGets.Res := bif decide (a0.length ≤ 4294967000) then bif decide (0 ≤ 0) && (decide (0 ≤ (↑a0.length : Int)) && decide ((↑a0.length : Int) ≤ (↑(List.length (a0 ++ spMarks)) : Int))) then bif (spRec (List.drop (Int.toNat 0) (List.take (↑a0.length : Int).toNat (a0 ++ spMarks))) a1).snd.snd == (spRec a0 a1).snd.snd then bif (spRec (List.drop (Int.toNat 0) (List.take (↑a0.length : Int).toNat (a0 ++ spMarks))) a1).snd.fst == (spRec a0 a1).snd.fst then bif spEqR ((spRec (List.drop (Int.toNat 0) (List.take (↑a0.length : Int).toNat (a0 ++ spMarks))) a1).fst.fst, (spRec (List.drop (Int.toNat 0) (List.take (↑a0.length : Int).toNat (a0 ++ spMarks))) a1).fst.snd.fst, ((spRec (List.drop (Int.toNat 0) (List.take (↑a0.length : Int).toNat (a0 ++ spMarks))) a1).fst.snd.snd.fst.fst, (spRec (List.drop (Int.toNat 0) (List.take (↑a0.length : Int).toNat (a0 ++ spMarks))) a1).fst.snd.snd.fst.snd.fst, ()), ((spRec (List.drop (Int.toNat 0) (List.take (↑a0.length : Int).toNat (a0 ++ spMarks))) a1).fst.snd.snd.snd.fst.fst, (spRec (List.drop (Int.toNat 0) (List.take (↑a0.length : Int).toNat (a0 ++ spMarks))) a1).fst.snd.snd.snd.fst.snd.fst, ()), (spRec (List.drop (Int.toNat 0) (List.take (↑a0.length : Int).toNat (a0 ++ spMarks))) a1).fst.snd.snd.snd.snd.fst, ()) ((spRec a0 a1).fst.fst, (spRec a0 a1).fst.snd.fst, ((spRec a0 a1).fst.snd.snd.fst.fst, (spRec a0 a1).fst.snd.snd.fst.snd.fst, ()), ((spRec a0 a1).fst.snd.snd.snd.fst.fst, (spRec a0 a1).fst.snd.snd.snd.fst.snd.fst, ()), (spRec a0 a1).fst.snd.snd.snd.snd.fst, ()) then bif decide (a0.length ≤ 4294967000) then some (Out.ret ((decide (a0 ++ spMarks = a0 ++ spMarks), ()), ())) else none else some (Out.ret ((false, ()), ())) else some (Out.ret ((false, ()), ())) else some (Out.ret ((false, ()), ())) else none else none
theorem runlGets (a0 : List Int) (a1 : Int) : Io.run tt hdlGets dr lplGets iolGets Go.Proofs.Try.f3 ((a0, a1, ()), ()) = bodylGets a0 a1 := by kernel_rfl
theorem oklGets : HcOk prog 3 (ioHd iolGets FlGets) := by
  refine fn_sound (n := 400) hm (cs := cslGets) (.cons oklalive (.cons okWide (.cons okkGet (.cons okrRGet (.cons okrAlike (.cons okIntact .nil)))))) (lp := lplGets) (fn := Go.Proofs.Try.f3) (by kernel_rfl) (by kernel_rfl) (by kernel_rfl) iolGets (.done (by kernel_rfl)) FlGets ?_
  rintro ⟨⟨(b : List Int), (p : Int), ⟨⟩⟩, ⟨⟩⟩ out hw ho
  obtain ⟨hg, ho⟩ := Tr.guard ho
  have hg : b.length ≤ 4294967000 := of_decide_eq_true hg
  cases ho
  refine (runlGets b p).trans ?_
  unfold bodylGets
  have e : List.drop (Int.toNat 0) (List.take (b.length : Int).toNat (b ++ spMarks)) = b := by simp
  rw [e, bif_true (by simpa using hg), bif_true (by simp; omega)]
  have h1 : spEqR (spRec b p).1 (spRec b p).1 = true := spEqR_iff.2 rfl
  rw [bif_true (by simp), bif_true (by simp), bif_true h1, bif_true (by simpa using hg)]
  simp

end
end Go.Proofs.Ytnppjkijhcampaa.Sym
