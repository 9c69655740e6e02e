/- leat/leatlaw11.ProduceBack answers true at all arguments, and leaves what it is given as it was: where the arguments' bulk is at most 2^20. -/
import Derived.Test.YtmlgepgcofmpeaaGreatQ8

namespace Go.Proofs.YtmlgepgcofmpeaaGreat.Sym
open Go
open Go.ChangeShapes Go.WideShapes Go.ChangeAt Go.RowKit
set_option linter.unusedSimpArgs false
set_option linter.unusedVariables false
noncomputable section
theorem wown : ownKnob Tryz.prog.godebug = none := by kernel_rfl
theorem wlaid : laidOutB Tryz.prog = true := by kernel_rfl
theorem wmaps : mapsRowed Tryz.prog = true := by kernel_rfl
theorem wslices : slicesB Tryz.prog = true := by kernel_rfl
theorem wfunc : Tryz.prog.funcs[6]? = some Tryz.f6 := by kernel_rfl
theorem wPBack_run (v : Ty.den (.int .i64)) (m : Ty.den (tReq)) (r : Ty.den (tRep)) (hg : (spSmReq m && spSmRep r) = true) : ioHd iopBack FpBack Unit [argV (.int .i64) v, argV (tReq) m, argV (tRep) r] 1 ⟨[], [], []⟩ lawK = some () := by
  have h : ioHd iopBack FpBack Unit [argV (.int .i64) v, argV (tReq) m, argV (tRep) r] 1 ⟨[], [], []⟩ lawK = bif spSmReq m && spSmRep r then some () else none := by kernel_rfl
  rw [h, bif_true hg]
set_option maxRecDepth 100000 in
theorem wPBack_contract (H : Type) (enc : TypeId × Value → H) (W : World) (base : Nat) (args : Array Value) (ds gs : List (DataW H)) (before : List MemPlace)
    (hval : ∀ (j : Nat) t v, Tryz.f6.params[j]? = some t → args[j]? = some v → Value.okWide Tryz.prog W .any base t v)
    (hW : DataW.Whole enc Tryz.prog Tryz.f6.params.toList Rows.produceBackSpec.vars false W args.toList ds gs before) (hk : Rows.uptoSmall H (ds ++ gs) = true) :
    Calls Tryz.prog 6 args W fun e W' => ∃ v, e = .returned v ∧ Rows.produceBackSpec.post enc Tryz.prog Tryz.f6 false true false false W args v W' := by
  refine law_contract okpBack [.int .i64, tReq, tRep] (by kernel_rfl) wlaid wmaps wslices (by decide +kernel) (tb := 4) rfl (by kernel_rfl) rfl (fun ds h => ?_) ?_ base args ds gs before hval hW hk
  · match ds, h with
    | [_, _, _], _ => rfl
  · rintro ⟨v, m, r, ⟨⟩⟩ hd hw
    refine wPBack_run v m r ?_
    have h1 : dsz tReq m ≤ 1048576 := by simp only [dszs] at hd; omega
    have h2 : dsz tRep r ≤ 1048576 := by simp only [dszs] at hd; omega
    rw [req_bulk h1, rep_bulk h2]
    rfl
set_option maxRecDepth 100000 in
theorem wPBack_lifted (os : Os) (started : os.Started) (H : Type) (enc : TypeId × Value → H) (F : Stop.Interp) :
    ReturnsInHanded {} Tryz.checked os 6 .any ((Rows.OpenSpec.upto Rows.produceBackSpec).pre6 enc Tryz.prog Tryz.f6 Rows.produceBackUptoRow.domain false) (((Rows.OpenSpec.upto Rows.produceBackSpec).at F).post enc Tryz.prog Tryz.f6 false true false false) := by
  refine returnsInHanded_of_cond (C := Tryz.checked) (s := Rows.OpenSpec.upto Rows.produceBackSpec) (k := Rows.uptoSmall) rfl wown started (by kernel_rfl) wfunc
    (OpenSpec.witness (enc := enc) (C := Tryz.checked) (s := Rows.OpenSpec.upto Rows.produceBackSpec) (k := Rows.uptoSmall) rfl false ⟨#[], #[.int .i64 0, .agg #[.bool false, .string ⟨#[]⟩, .int .i16 0, .int .i32 0, .slice none 0 0], .agg #[.slice none 0 0, .int .i32 0]], []⟩ 8 (by kernel_rfl) (by kernel_rfl) (by kernel_rfl)
      (x := ([.lit (.int .i64 0), .agg [.agg [.lit (.bool false), .lit (.string [])], .lit (.int .i16 0), .lit (.int .i32 0), .nil], .agg [.nil, .lit (.int .i32 0)]], [], [])) (by kernel_rfl) rfl (by kernel_rfl)) ?_
  intro W base args ds gs before hval hW _ hk _
  exact wPBack_contract H enc W base args ds gs before hval hW hk
theorem wPBack_over : Rows.produceBackUptoRow.holds Tryz.pinned (Rows.OpenSpec.upto Rows.produceBackSpec) :=
  OpenClaim.holds_of_cond 6 Tryz.f6 rfl rfl rfl rfl rfl rfl rfl ⟨rfl, rfl, rfl, rfl, rfl⟩ rfl rfl rfl rfl rfl (by kernel_rfl) wfunc (by kernel_rfl)
    (of_decide_eq_true (by kernel_rfl)) (by unfold Func.isWrapper; first | (rw [if_pos (by decide +kernel)]; kernel_rfl) | (rw [if_neg (by decide +kernel)]; exact ⟨rfl, rfl⟩))
    (fun os started H enc _ F => wPBack_lifted os started H enc F)
end
end Go.Proofs.YtmlgepgcofmpeaaGreat.Sym
theorem Go.Proofs.YtmlgepgcofmpeaaGreat.produceBackProved : Go.Proofs.YtmlgepgcofmpeaaGreat.Rows.ProduceBackUptoSaid := Go.Proofs.YtmlgepgcofmpeaaGreat.Sym.wPBack_over
