/- vint.Get, vint.Get32. -/
import Derived.Test.YtnppjkijhcampaaCPread

namespace Go.Proofs.Ytnppjkijhcampaa.Sym
open Go
set_option linter.unusedSimpArgs false
set_option linter.unusedVariables false
noncomputable section

/-! ### leat/vint.Get -/
noncomputable abbrev iopGet : Io := ⟨[dL, dI], [], [], [d64, dI, dI], none⟩
noncomputable def FpGet (d : iopGet.In) : Tr iopGet.Res := .ret (.ret ((spZag (spGet 10 1 d.1.1 d.1.2.1).1, (spGet 10 1 d.1.1 d.1.2.1).2.1, (spGet 10 1 d.1.1 d.1.2.1).2.2, ()), ()))
noncomputable abbrev cspGet : List (Nat × Hc) := [(45, ioHd iopread Fpread), (46, ioHd iopZag FpZag)]
noncomputable def hdpGet : Hd := hdT cspGet
noncomputable def lppGet : Lp := lpT []

noncomputable def bodypGet (a0 : List Int) (a1 : Int) : Option iopGet.Res := some (Out.ret ((spZag (spGet (Int.toNat 10) 1 a0 a1).fst, (spGet (Int.toNat 10) 1 a0 a1).snd.fst, (spGet (Int.toNat 10) 1 a0 a1).snd.snd, ()), ()))
theorem runpGet (a0 : List Int) (a1 : Int) : Io.run tt hdpGet dr lppGet iopGet Go.Proofs.Try.f48 ((a0, a1, ()), ()) = bodypGet a0 a1 := by kernel_rfl
theorem okpGet : HcOk prog 48 (ioHd iopGet FpGet) := by
  refine fn_sound (n := 400) hm (cs := cspGet) (.cons okpread (.cons okpZag .nil)) (lp := lppGet) (fn := Go.Proofs.Try.f48) (by kernel_rfl) (by kernel_rfl) (by kernel_rfl) iopGet (.done (by kernel_rfl)) FpGet ?_
  rintro ⟨⟨(b : List Int), (p : Int), ⟨⟩⟩, ⟨⟩⟩ out hw ho
  cases ho
  refine (runpGet b p).trans ?_
  first | rfl | (unfold bodypGet; simp [spFit]; done) | (unfold bodypGet; rfl)

/-! ### leat/vint.Get32 -/
noncomputable abbrev iopGet32 : Io := ⟨[dL, dI], [], [], [d32, dI, dI], none⟩
noncomputable def FpGet32 (d : iopGet32.In) : Tr iopGet32.Res := .ret (.ret ((IntKind.wrap .i32 (spZag (spGet 5 15 d.1.1 d.1.2.1).1), (spGet 5 15 d.1.1 d.1.2.1).2.1, (spGet 5 15 d.1.1 d.1.2.1).2.2, ()), ()))
noncomputable abbrev cspGet32 : List (Nat × Hc) := cspGet
noncomputable def hdpGet32 : Hd := hdT cspGet32
noncomputable def lppGet32 : Lp := lpT []

noncomputable def bodypGet32 (a0 : List Int) (a1 : Int) : Option iopGet32.Res := some (Out.ret ((IntKind.i32.wrap (spZag (spGet (Int.toNat 5) 15 a0 a1).fst), (spGet (Int.toNat 5) 15 a0 a1).snd.fst, (spGet (Int.toNat 5) 15 a0 a1).snd.snd, ()), ()))
theorem runpGet32 (a0 : List Int) (a1 : Int) : Io.run tt hdpGet32 dr lppGet32 iopGet32 Go.Proofs.Try.f30 ((a0, a1, ()), ()) = bodypGet32 a0 a1 := by kernel_rfl
theorem okpGet32 : HcOk prog 30 (ioHd iopGet32 FpGet32) := by
  refine fn_sound (n := 400) hm (cs := cspGet32) (.cons okpread (.cons okpZag .nil)) (lp := lppGet32) (fn := Go.Proofs.Try.f30) (by kernel_rfl) (by kernel_rfl) (by kernel_rfl) iopGet32 (.done (by kernel_rfl)) FpGet32 ?_
  rintro ⟨⟨(b : List Int), (p : Int), ⟨⟩⟩, ⟨⟩⟩ out hw ho
  cases ho
  refine (runpGet32 b p).trans ?_
  first | rfl | (unfold bodypGet32; simp [spFit]; done) | (unfold bodypGet32; rfl)

end
end Go.Proofs.Ytnppjkijhcampaa.Sym
