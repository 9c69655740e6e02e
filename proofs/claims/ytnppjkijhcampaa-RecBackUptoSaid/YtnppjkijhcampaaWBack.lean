/- leat/leatlaw07.RecBack answers true at all arguments, and leaves what it is given as it was: where the arguments' bulk is at most 2^20. -/
import Derived.Test.YtnppjkijhcampaaCLbackl
import Derived.Test.YtnppjkijhcampaaSymU
import Derived.Test.YtnppjkijhcampaaWRowB

namespace Go.Proofs.Ytnppjkijhcampaa.Sym
open Go
open Go.ChangeShapes Go.WideShapes Go.ChangeAt Go.RowKit
set_option linter.unusedSimpArgs false
set_option linter.unusedVariables false
noncomputable section

theorem wown : ownKnob Try.prog.godebug = none := by kernel_rfl
theorem wlaid : laidOutB Try.prog = true := by kernel_rfl
theorem wmaps : mapsRowed Try.prog = true := by kernel_rfl
theorem wslices : slicesB Try.prog = true := by kernel_rfl
theorem wfunc : Try.prog.funcs[4]? = some Try.f4 := by kernel_rfl
theorem wBack_run (h : Ty.den (bs)) (r : Ty.den (tRow)) (t : Ty.den (bs)) (hg : (spSmallR r && (spRoom r && decide (List.length (α := Int) h + List.length (α := Int) t ≤ 4294900000))) = true) : ioHd iolBack FlBack Unit [argV (bs) h, argV (tRow) r, argV (bs) t] 1 ⟨[], [], []⟩ lawK = some () := by
  have h : ioHd iolBack FlBack Unit [argV (bs) h, argV (tRow) r, argV (bs) t] 1 ⟨[], [], []⟩ lawK = bif spSmallR r && (spRoom r && decide (List.length (α := Int) h + List.length (α := Int) t ≤ 4294900000)) then some () else none := by kernel_rfl
  rw [h, bif_true hg]
set_option maxRecDepth 100000 in
theorem wBack_contract (H : Type) (enc : TypeId × Value → H) (W : World) (base : Nat) (args : Array Value) (ds gs : List (DataW H)) (before : List MemPlace)
    (hval : ∀ (j : Nat) t v, Try.f4.params[j]? = some t → args[j]? = some v → Value.okWide Try.prog W .any base t v)
    (hW : DataW.Whole enc Try.prog Try.f4.params.toList Rows.recBackSpec.vars false W args.toList ds gs before) (hk : Rows.uptoSmall H (ds ++ gs) = true) :
    Calls Try.prog 4 args W fun e W' => ∃ v, e = .returned v ∧ Rows.recBackSpec.post enc Try.prog Try.f4 false true false false W args v W' := by
  refine law_contract oklBack [bs, tRow, bs] (by kernel_rfl) wlaid wmaps wslices (by decide +kernel) (tb := 4) rfl (by kernel_rfl) rfl (fun ds h => ?_) ?_ base args ds gs before hval hW hk
  · match ds, h with
    | [_, _, _], _ => rfl
  · rintro ⟨h, r, t, ⟨⟩⟩ hd hw
    refine wBack_run h r t ?_
    have h1 : dsz tRow r ≤ 1048576 := by simp only [dszs] at hd; omega
    obtain ⟨g1, g2⟩ := row_bulk h1
    have g3 : List.length (α := Int) h ≤ dsz bs h := dsz_len (e := 5) (k := .u8) h
    have g4 : List.length (α := Int) t ≤ dsz bs t := dsz_len (e := 5) (k := .u8) t
    rw [g1, g2]
    simp only [dszs] at hd
    have g5 : decide (List.length (α := Int) h + List.length (α := Int) t ≤ 4294900000) = true := decide_eq_true (by omega)
    rw [g5]
    rfl

set_option maxRecDepth 100000 in
theorem wBack_lifted (os : Os) (started : os.Started) (H : Type) (enc : TypeId × Value → H) (F : Stop.Interp) :
    ReturnsInHanded {} Try.checked os 4 .any ((Rows.OpenSpec.upto Rows.recBackSpec).pre6 enc Try.prog Try.f4 Rows.recBackUptoRow.domain false) (((Rows.OpenSpec.upto Rows.recBackSpec).at F).post enc Try.prog Try.f4 false true false false) := by
  refine returnsInHanded_of_cond (C := Try.checked) (s := Rows.OpenSpec.upto Rows.recBackSpec) (k := Rows.uptoSmall) rfl wown started (by kernel_rfl) wfunc
    (OpenSpec.witness (enc := enc) (C := Try.checked) (s := Rows.OpenSpec.upto Rows.recBackSpec) (k := Rows.uptoSmall) rfl false ⟨#[], #[.slice none 0 0, .agg #[.int .i64 0, .int .i32 0, .bool false, .slice none 0 0, .bool false, .slice none 0 0, .slice none 0 0], .slice none 0 0], []⟩ 8 (by kernel_rfl) (by kernel_rfl) (by kernel_rfl)
      (x := ([.nil, .agg [.lit (.int .i64 0), .lit (.int .i32 0), .agg [.lit (.bool false), .nil], .agg [.lit (.bool false), .nil], .nil], .nil], [], [])) (by kernel_rfl) rfl (by kernel_rfl)) ?_
  intro W base args ds gs before hval hW _ hk _
  exact wBack_contract H enc W base args ds gs before hval hW hk

theorem wBack_over : Rows.recBackUptoRow.holds Try.pinned (Rows.OpenSpec.upto Rows.recBackSpec) :=
  OpenClaim.holds_of_cond 4 Try.f4 rfl rfl rfl rfl rfl rfl rfl ⟨rfl, rfl, rfl, rfl, rfl⟩ rfl rfl rfl rfl rfl (by kernel_rfl) wfunc (by kernel_rfl)
    (of_decide_eq_true (by kernel_rfl)) (by unfold Func.isWrapper; first | (rw [if_pos (by decide +kernel)]; kernel_rfl) | (rw [if_neg (by decide +kernel)]; exact ⟨rfl, rfl⟩))
    (fun os started H enc _ F => wBack_lifted os started H enc F)
end
end Go.Proofs.Ytnppjkijhcampaa.Sym

theorem Go.Proofs.Ytnppjkijhcampaa.recBackProved : Go.Proofs.Ytnppjkijhcampaa.Rows.RecBackUptoSaid := Go.Proofs.Ytnppjkijhcampaa.Sym.wBack_over
