/- leat/leatlaw07.RecPuts answers true at all arguments, and leaves what it is given as it was: where the arguments' bulk is at most 2^20. -/
import Derived.Test.YtnppjkijhcampaaQ6

namespace Go.Proofs.Ytnppjkijhcampaa.Sym
open Go
open Go.ChangeShapes Go.WideShapes Go.ChangeAt Go.RowKit
set_option linter.unusedSimpArgs false
set_option linter.unusedVariables false
noncomputable section

theorem wown : ownKnob Try.prog.godebug = none := by kernel_rfl
theorem wlaid : laidOutB Try.prog = true := by kernel_rfl
theorem wmaps : mapsRowed Try.prog = true := by kernel_rfl
theorem wslices : slicesB Try.prog = true := by kernel_rfl
theorem wfunc : Try.prog.funcs[8]? = some Try.f8 := by kernel_rfl
theorem wPuts_run (r : Ty.den (tRow)) (hg : (spSmallR r && spRoom r) = true) : ioHd iolPuts FlPuts Unit [argV (tRow) r] 1 ⟨[], [], []⟩ lawK = some () := by
  have h : ioHd iolPuts FlPuts Unit [argV (tRow) r] 1 ⟨[], [], []⟩ lawK = bif spSmallR r && spRoom r then some () else none := by kernel_rfl
  rw [h, bif_true hg]
set_option maxRecDepth 100000 in
theorem wPuts_contract (H : Type) (enc : TypeId × Value → H) (W : World) (base : Nat) (args : Array Value) (ds gs : List (DataW H)) (before : List MemPlace)
    (hval : ∀ (j : Nat) t v, Try.f8.params[j]? = some t → args[j]? = some v → Value.okWide Try.prog W .any base t v)
    (hW : DataW.Whole enc Try.prog Try.f8.params.toList Rows.recPutsSpec.vars false W args.toList ds gs before) (hk : Rows.uptoSmall H (ds ++ gs) = true) :
    Calls Try.prog 8 args W fun e W' => ∃ v, e = .returned v ∧ Rows.recPutsSpec.post enc Try.prog Try.f8 false true false false W args v W' := by
  refine law_contract oklPuts [tRow] (by kernel_rfl) wlaid wmaps wslices (by decide +kernel) (tb := 4) rfl (by kernel_rfl) rfl (fun ds h => ?_) ?_ base args ds gs before hval hW hk
  · match ds, h with
    | [_], _ => rfl
  · rintro ⟨r, ⟨⟩⟩ hd hw
    refine wPuts_run r ?_
    have h1 : dsz tRow r ≤ 1048576 := by simp only [dszs] at hd; omega
    obtain ⟨g1, g2⟩ := row_bulk h1
    rw [g1, g2]
    rfl

set_option maxRecDepth 100000 in
theorem wPuts_lifted (os : Os) (started : os.Started) (H : Type) (enc : TypeId × Value → H) (F : Stop.Interp) :
    ReturnsInHanded {} Try.checked os 8 .any ((Rows.OpenSpec.upto Rows.recPutsSpec).pre6 enc Try.prog Try.f8 Rows.recPutsUptoRow.domain false) (((Rows.OpenSpec.upto Rows.recPutsSpec).at F).post enc Try.prog Try.f8 false true false false) := by
  refine returnsInHanded_of_cond (C := Try.checked) (s := Rows.OpenSpec.upto Rows.recPutsSpec) (k := Rows.uptoSmall) rfl wown started (by kernel_rfl) wfunc
    (OpenSpec.witness (enc := enc) (C := Try.checked) (s := Rows.OpenSpec.upto Rows.recPutsSpec) (k := Rows.uptoSmall) rfl false ⟨#[], #[.agg #[.int .i64 0, .int .i32 0, .bool false, .slice none 0 0, .bool false, .slice none 0 0, .slice none 0 0]], []⟩ 8 (by kernel_rfl) (by kernel_rfl) (by kernel_rfl)
      (x := ([.agg [.lit (.int .i64 0), .lit (.int .i32 0), .agg [.lit (.bool false), .nil], .agg [.lit (.bool false), .nil], .nil]], [], [])) (by kernel_rfl) rfl (by kernel_rfl)) ?_
  intro W base args ds gs before hval hW _ hk _
  exact wPuts_contract H enc W base args ds gs before hval hW hk

theorem wPuts_over : Rows.recPutsUptoRow.holds Try.pinned (Rows.OpenSpec.upto Rows.recPutsSpec) :=
  OpenClaim.holds_of_cond 8 Try.f8 rfl rfl rfl rfl rfl rfl rfl ⟨rfl, rfl, rfl, rfl, rfl⟩ rfl rfl rfl rfl rfl (by kernel_rfl) wfunc (by kernel_rfl)
    (of_decide_eq_true (by kernel_rfl)) (by unfold Func.isWrapper; first | (rw [if_pos (by decide +kernel)]; kernel_rfl) | (rw [if_neg (by decide +kernel)]; exact ⟨rfl, rfl⟩))
    (fun os started H enc _ F => wPuts_lifted os started H enc F)
end
end Go.Proofs.Ytnppjkijhcampaa.Sym

theorem Go.Proofs.Ytnppjkijhcampaa.recPutsProved : Go.Proofs.Ytnppjkijhcampaa.Rows.RecPutsUptoSaid := Go.Proofs.Ytnppjkijhcampaa.Sym.wPuts_over
