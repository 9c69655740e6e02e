/- leatref04: well-formed text. -/
import Derived.Test.YtnppjkijhcampaaCPput

namespace Go.Proofs.Ytnppjkijhcampaa.Sym
open Go
set_option linter.unusedSimpArgs false
set_option linter.unusedVariables false
noncomputable section

noncomputable def spIn (b : List Int) (p : Int) (lo hi : Int) : Bool := decide (p < (b.length : Int)) && (decide (lo ≤ b.getD p.toNat 0) && decide (b.getD p.toNat 0 ≤ hi))

/-! ### leat/leatref04.within -/
noncomputable abbrev iorwithin : Io := ⟨[dL, dI, dU, dU], [], [], [dB], none⟩
noncomputable def Frwithin (d : iorwithin.In) : Tr iorwithin.Res := .ite (decide ((0 : Int) ≤ d.1.2.1)) (.ret (.ret ((spIn d.1.1 d.1.2.1 d.1.2.2.1 d.1.2.2.2.1, ()), ()))) .no
noncomputable abbrev csrwithin : List (Nat × Hc) := []
noncomputable def hdrwithin : Hd := hdT csrwithin
noncomputable def lprwithin : Lp := lpT []

noncomputable def bodyrwithin (a0 : List Int) (a1 : Int) (a2 : Int) (a3 : Int) : Option iorwithin.Res := bif decide (a1 < (↑a0.length : Int)) then bif decide (0 ≤ a1) && decide (a1 < (↑a0.length : Int)) then bif decide (a2 ≤ a0.getD a1.toNat 0) then bif decide (0 ≤ a1) && decide (a1 < (↑a0.length : Int)) then some (Out.ret ((decide (a0.getD a1.toNat 0 ≤ a3), ()), ())) else none else some (Out.ret ((false, ()), ())) else none else some (Out.ret ((false, ()), ()))
theorem runrwithin (a0 : List Int) (a1 : Int) (a2 : Int) (a3 : Int) : Io.run tt hdrwithin dr lprwithin iorwithin Go.Proofs.Try.f69 ((a0, a1, a2, a3, ()), ()) = bodyrwithin a0 a1 a2 a3 := by kernel_rfl
theorem okrwithin : HcOk prog 69 (ioHd iorwithin Frwithin) := by
  refine fn_sound (n := 400) hm (cs := csrwithin) HcsOk.nil (lp := lprwithin) (fn := Go.Proofs.Try.f69) (by kernel_rfl) (by kernel_rfl) (by kernel_rfl) iorwithin (.done (by kernel_rfl)) Frwithin ?_
  rintro ⟨⟨(b : List Int), (p : Int), (lo : Int), (hi : Int), ⟨⟩⟩, ⟨⟩⟩ out hw ho
  obtain ⟨hg, ho⟩ := Tr.guard ho
  cases ho
  refine (runrwithin b p lo hi).trans ?_
  have hg : (0 : Int) ≤ p := by simpa using hg
  unfold bodyrwithin
  show _ = some (Out.ret ((spIn b p lo hi, ()), ()))
  unfold spIn
  generalize b.getD p.toNat 0 = c
  by_cases h1 : p < (b.length : Int)
  · by_cases h2 : lo ≤ c
    · simp [hg, h1, h2]
    · simp [hg, h1, h2]
  · simp [h1]

end
end Go.Proofs.Ytnppjkijhcampaa.Sym
