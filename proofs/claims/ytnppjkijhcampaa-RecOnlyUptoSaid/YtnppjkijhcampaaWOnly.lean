/- leat/leatlaw07.RecOnly answers true at all arguments, and leaves what it is given as it was: where the arguments' bulk is at most 2^20. -/
import Derived.Test.YtnppjkijhcampaaCLonly
import Derived.Test.YtnppjkijhcampaaSymU

namespace Go.Proofs.Ytnppjkijhcampaa.Sym
open Go
open Go.ChangeShapes Go.WideShapes Go.ChangeAt Go.RowKit
set_option linter.unusedSimpArgs false
set_option linter.unusedVariables false
noncomputable section

theorem wown : ownKnob Try.prog.godebug = none := by kernel_rfl
theorem wlaid : laidOutB Try.prog = true := by kernel_rfl
theorem wmaps : mapsRowed Try.prog = true := by kernel_rfl
theorem wslices : slicesB Try.prog = true := by kernel_rfl
theorem wfunc : Try.prog.funcs[6]? = some Try.f6 := by kernel_rfl
theorem wOnly_run (b : Ty.den (bs)) (p : Ty.den (.int .i64)) (hg : (decide (List.length (α := Int) b ≤ 4294967000)) = true) : ioHd iolOnly FlOnly Unit [argV (bs) b, argV (.int .i64) p] 1 ⟨[], [], []⟩ lawK = some () := by
  have h : ioHd iolOnly FlOnly Unit [argV (bs) b, argV (.int .i64) p] 1 ⟨[], [], []⟩ lawK = bif decide (List.length (α := Int) b ≤ 4294967000) then some () else none := by kernel_rfl
  rw [h, bif_true hg]
set_option maxRecDepth 100000 in
theorem wOnly_contract (H : Type) (enc : TypeId × Value → H) (W : World) (base : Nat) (args : Array Value) (ds gs : List (DataW H)) (before : List MemPlace)
    (hval : ∀ (j : Nat) t v, Try.f6.params[j]? = some t → args[j]? = some v → Value.okWide Try.prog W .any base t v)
    (hW : DataW.Whole enc Try.prog Try.f6.params.toList Rows.recOnlySpec.vars false W args.toList ds gs before) (hk : Rows.uptoSmall H (ds ++ gs) = true) :
    Calls Try.prog 6 args W fun e W' => ∃ v, e = .returned v ∧ Rows.recOnlySpec.post enc Try.prog Try.f6 false true false false W args v W' := by
  refine law_contract oklOnly [bs, .int .i64] (by kernel_rfl) wlaid wmaps wslices (by decide +kernel) (tb := 4) rfl (by kernel_rfl) rfl (fun ds h => ?_) ?_ base args ds gs before hval hW hk
  · match ds, h with
    | [_, _], _ => rfl
  · rintro ⟨b, p, ⟨⟩⟩ hd hw
    refine wOnly_run b p ?_
    refine decide_eq_true ?_
    have : List.length (α := Int) b ≤ dsz bs b := dsz_len (e := 5) (k := .u8) b
    simp only [dszs] at hd
    omega

set_option maxRecDepth 100000 in
theorem wOnly_lifted (os : Os) (started : os.Started) (H : Type) (enc : TypeId × Value → H) (F : Stop.Interp) :
    ReturnsInHanded {} Try.checked os 6 .any ((Rows.OpenSpec.upto Rows.recOnlySpec).pre6 enc Try.prog Try.f6 Rows.recOnlyUptoRow.domain false) (((Rows.OpenSpec.upto Rows.recOnlySpec).at F).post enc Try.prog Try.f6 false true false false) := by
  refine returnsInHanded_of_cond (C := Try.checked) (s := Rows.OpenSpec.upto Rows.recOnlySpec) (k := Rows.uptoSmall) rfl wown started (by kernel_rfl) wfunc
    (OpenSpec.witness (enc := enc) (C := Try.checked) (s := Rows.OpenSpec.upto Rows.recOnlySpec) (k := Rows.uptoSmall) rfl false ⟨#[], #[.slice none 0 0, .int .i64 0], []⟩ 8 (by kernel_rfl) (by kernel_rfl) (by kernel_rfl)
      (x := ([.nil, .lit (.int .i64 0)], [], [])) (by kernel_rfl) rfl (by kernel_rfl)) ?_
  intro W base args ds gs before hval hW _ hk _
  exact wOnly_contract H enc W base args ds gs before hval hW hk

theorem wOnly_over : Rows.recOnlyUptoRow.holds Try.pinned (Rows.OpenSpec.upto Rows.recOnlySpec) :=
  OpenClaim.holds_of_cond 6 Try.f6 rfl rfl rfl rfl rfl rfl rfl ⟨rfl, rfl, rfl, rfl, rfl⟩ rfl rfl rfl rfl rfl (by kernel_rfl) wfunc (by kernel_rfl)
    (of_decide_eq_true (by kernel_rfl)) (by unfold Func.isWrapper; first | (rw [if_pos (by decide +kernel)]; kernel_rfl) | (rw [if_neg (by decide +kernel)]; exact ⟨rfl, rfl⟩))
    (fun os started H enc _ F => wOnly_lifted os started H enc F)
end
end Go.Proofs.Ytnppjkijhcampaa.Sym

theorem Go.Proofs.Ytnppjkijhcampaa.recOnlyProved : Go.Proofs.Ytnppjkijhcampaa.Rows.RecOnlyUptoSaid := Go.Proofs.Ytnppjkijhcampaa.Sym.wOnly_over
