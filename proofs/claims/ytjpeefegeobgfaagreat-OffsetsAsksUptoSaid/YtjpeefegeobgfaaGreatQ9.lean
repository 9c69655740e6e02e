/- leat/leatlaw13.OffsetsAsks answers true at all arguments, and leaves what it is given as it was: where the arguments' bulk is at most 2^20. -/
import Derived.Test.YtjpeefegeobgfaaGreatQ8

namespace Go.Proofs.YtjpeefegeobgfaaGreat.Sym
open Go
open Go.ChangeShapes Go.WideShapes Go.ChangeAt Go.RowKit
set_option linter.unusedSimpArgs false
set_option linter.unusedVariables false
noncomputable section
theorem wown : ownKnob Tryz.prog.godebug = none := by kernel_rfl
theorem wlaid : laidOutB Tryz.prog = true := by kernel_rfl
theorem wmaps : mapsRowed Tryz.prog = true := by kernel_rfl
theorem wslices : slicesB Tryz.prog = true := by kernel_rfl
theorem wfunc : Tryz.prog.funcs[3]? = some Tryz.f3 := by kernel_rfl
theorem woAsks_run (v : Ty.den (.int .i64)) (m : Ty.den (toqMsg)) (hg : (spSmoq m) = true) : ioHd iooAsks FoAsks Unit [argV (.int .i64) v, argV (toqMsg) m] 1 ⟨[], [], []⟩ lawK = some () := by
  have h : ioHd iooAsks FoAsks Unit [argV (.int .i64) v, argV (toqMsg) m] 1 ⟨[], [], []⟩ lawK = bif spSmoq m then some () else none := by kernel_rfl
  rw [h, bif_true hg]
set_option maxRecDepth 100000 in
theorem woAsks_contract (H : Type) (enc : TypeId × Value → H) (W : World) (base : Nat) (args : Array Value) (ds gs : List (DataW H)) (before : List MemPlace)
    (hval : ∀ (j : Nat) t v, Tryz.f3.params[j]? = some t → args[j]? = some v → Value.okWide Tryz.prog W .any base t v)
    (hW : DataW.Whole enc Tryz.prog Tryz.f3.params.toList Rows.offsetsAsksSpec.vars false W args.toList ds gs before) (hk : Rows.uptoSmall H (ds ++ gs) = true) :
    Calls Tryz.prog 3 args W fun e W' => ∃ v, e = .returned v ∧ Rows.offsetsAsksSpec.post enc Tryz.prog Tryz.f3 false true false false W args v W' := by
  refine law_contract okoAsks [.int .i64, toqMsg] (by kernel_rfl) wlaid wmaps wslices (by decide +kernel) (tb := 4) rfl (by kernel_rfl) rfl (fun ds h => ?_) ?_ base args ds gs before hval hW hk
  · match ds, h with
    | [_, _], _ => rfl
  · rintro ⟨v, m, ⟨⟩⟩ hd hw
    refine woAsks_run v m ?_
    have h1 : dsz toqMsg m ≤ 1048576 := by simp only [dszs] at hd; omega
    exact oq_bulk h1
set_option maxRecDepth 100000 in
theorem woAsks_lifted (os : Os) (started : os.Started) (H : Type) (enc : TypeId × Value → H) (F : Stop.Interp) :
    ReturnsInHanded {} Tryz.checked os 3 .any ((Rows.OpenSpec.upto Rows.offsetsAsksSpec).pre6 enc Tryz.prog Tryz.f3 Rows.offsetsAsksUptoRow.domain false) (((Rows.OpenSpec.upto Rows.offsetsAsksSpec).at F).post enc Tryz.prog Tryz.f3 false true false false) := by
  refine returnsInHanded_of_cond (C := Tryz.checked) (s := Rows.OpenSpec.upto Rows.offsetsAsksSpec) (k := Rows.uptoSmall) rfl wown started (by kernel_rfl) wfunc
    (OpenSpec.witness (enc := enc) (C := Tryz.checked) (s := Rows.OpenSpec.upto Rows.offsetsAsksSpec) (k := Rows.uptoSmall) rfl false ⟨#[], #[.int .i64 0, .agg #[.int .i32 0, .int .i8 0, .slice none 0 0]], []⟩ 8 (by kernel_rfl) (by kernel_rfl) (by kernel_rfl)
      (x := ([.lit (.int .i64 0), .agg [.lit (.int .i32 0), .lit (.int .i8 0), .nil]], [], [])) (by kernel_rfl) rfl (by kernel_rfl)) ?_
  intro W base args ds gs before hval hW _ hk _
  exact woAsks_contract H enc W base args ds gs before hval hW hk
theorem woAsks_over : Rows.offsetsAsksUptoRow.holds Tryz.pinned (Rows.OpenSpec.upto Rows.offsetsAsksSpec) :=
  OpenClaim.holds_of_cond 3 Tryz.f3 rfl rfl rfl rfl rfl rfl rfl ⟨rfl, rfl, rfl, rfl, rfl⟩ rfl rfl rfl rfl rfl (by kernel_rfl) wfunc (by kernel_rfl)
    (of_decide_eq_true (by kernel_rfl)) (by unfold Func.isWrapper; first | (rw [if_pos (by decide +kernel)]; kernel_rfl) | (rw [if_neg (by decide +kernel)]; exact ⟨rfl, rfl⟩))
    (fun os started H enc _ F => woAsks_lifted os started H enc F)
end
end Go.Proofs.YtjpeefegeobgfaaGreat.Sym
theorem Go.Proofs.YtjpeefegeobgfaaGreat.offsetsAsksProved : Go.Proofs.YtjpeefegeobgfaaGreat.Rows.OffsetsAsksUptoSaid := Go.Proofs.YtjpeefegeobgfaaGreat.Sym.woAsks_over
