/- leatref07: rows written. -/
import Derived.Test.YtnppjkijhcampaaCUutf

namespace Go.Proofs.Ytnppjkijhcampaa.Sym
open Go
set_option linter.unusedSimpArgs false
set_option linter.unusedVariables false
noncomputable section

/-- A blob: null, and its bytes. A header: its key, its value. A row: times, offset, key, value, headers. -/
noncomputable abbrev tBlob : Ty := .prod .bool (.prod bs .unit)
noncomputable abbrev tHead : Ty := .prod .str (.prod tBlob .unit)
noncomputable abbrev tHeads : Ty := .sl 49 tHead
noncomputable abbrev tRow : Ty := .prod (.int .i64) (.prod (.int .i32) (.prod tBlob (.prod tBlob (.prod tHeads .unit))))
noncomputable abbrev dBlob : Sh := .dat tBlob true false
noncomputable abbrev dRow : Sh := .dat tRow true false
noncomputable abbrev dHeads : Sh := .dat tHeads false false

/-! ### leat/leatref07.TwinBlob -/
noncomputable abbrev iorTwinBlob : Io := ⟨[dBlob], [], [], [dBlob], none⟩
noncomputable def FrTwinBlob (d : iorTwinBlob.In) : Tr iorTwinBlob.Res := .ite (decide (d.1.1.2.1.length ≤ 4294967296)) (.ret (.ret ((d.1.1, ()), ()))) .no
noncomputable abbrev csrTwinBlob : List (Nat × Hc) := [(23, ioHd ioCopy FCopy)]
noncomputable def hdrTwinBlob : Hd := hdT csrTwinBlob
noncomputable def lprTwinBlob : Lp := lpT []

noncomputable def bodyrTwinBlob (a0 : Bool) (a1 : List Int) : Option iorTwinBlob.Res := bif decide (a1.length ≤ 4294967296) then some (Out.ret (((a0, a1, ()), ()), ())) else none
theorem runrTwinBlob (a0 : Bool) (a1 : List Int) : Io.run tt hdrTwinBlob dr lprTwinBlob iorTwinBlob Go.Proofs.Try.f38 (((a0, a1, ()), ()), ()) = bodyrTwinBlob a0 a1 := by kernel_rfl
theorem okrTwinBlob : HcOk prog 38 (ioHd iorTwinBlob FrTwinBlob) := by
  refine fn_sound (n := 400) hm (cs := csrTwinBlob) (.cons okCopy .nil) (lp := lprTwinBlob) (fn := Go.Proofs.Try.f38) (by kernel_rfl) (by kernel_rfl) (by kernel_rfl) iorTwinBlob (.done (by kernel_rfl)) FrTwinBlob ?_
  rintro ⟨⟨⟨(n : Bool), (b : List Int), ⟨⟩⟩, ⟨⟩⟩, ⟨⟩⟩ out hw ho
  obtain ⟨hg, ho⟩ := Tr.guard ho
  cases ho
  refine (runrTwinBlob n b).trans ?_
  have hg : b.length ≤ 4294967296 := by simpa using hg
  unfold bodyrTwinBlob
  rw [bif_true (by simpa using hg)]

/-! ### leat/leatref07.AlikeBlob -/
noncomputable abbrev iorAlikeBlob : Io := ⟨[dBlob, dBlob], [], [], [dB], none⟩
noncomputable def FrAlikeBlob (d : iorAlikeBlob.In) : Tr iorAlikeBlob.Res := .ret (.ret ((decide (d.1.1 = d.1.2.1), ()), ()))
noncomputable abbrev csrAlikeBlob : List (Nat × Hc) := [(25, ioHd ioSame FSame)]
noncomputable def hdrAlikeBlob : Hd := hdT csrAlikeBlob
noncomputable def lprAlikeBlob : Lp := lpT []

noncomputable def bodyrAlikeBlob (a0 : Bool) (a1 : List Int) (a2 : Bool) (a3 : List Int) : Option iorAlikeBlob.Res := bif a0 == a2 then some (Out.ret ((decide (a1 = a3), ()), ())) else some (Out.ret ((false, ()), ()))
theorem runrAlikeBlob (a0 : Bool) (a1 : List Int) (a2 : Bool) (a3 : List Int) : Io.run tt hdrAlikeBlob dr lprAlikeBlob iorAlikeBlob Go.Proofs.Try.f34 (((a0, a1, ()), (a2, a3, ()), ()), ()) = bodyrAlikeBlob a0 a1 a2 a3 := by kernel_rfl
theorem okrAlikeBlob : HcOk prog 34 (ioHd iorAlikeBlob FrAlikeBlob) := by
  refine fn_sound (n := 400) hm (cs := csrAlikeBlob) (.cons okSame .nil) (lp := lprAlikeBlob) (fn := Go.Proofs.Try.f34) (by kernel_rfl) (by kernel_rfl) (by kernel_rfl) iorAlikeBlob (.done (by kernel_rfl)) FrAlikeBlob ?_
  rintro ⟨⟨⟨(n : Bool), (b : List Int), ⟨⟩⟩, ⟨(m : Bool), (c : List Int), ⟨⟩⟩, ⟨⟩⟩, ⟨⟩⟩ out hw ho
  cases ho
  refine (runrAlikeBlob n b m c).trans ?_
  unfold bodyrAlikeBlob
  show _ = some (Out.ret ((decide (((n, b, ()) : Bool × List Int × Unit) = (m, c, ())), ()), ()))
  cases n <;> cases m <;> simp

end
end Go.Proofs.Ytnppjkijhcampaa.Sym
