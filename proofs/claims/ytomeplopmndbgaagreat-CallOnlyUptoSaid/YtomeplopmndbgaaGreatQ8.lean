/- leat/leatlaw16.CallOnly answers true at all arguments, and leaves what it is given as it was: where the arguments' bulk is at most 2^20. -/
import Derived.Test.YtomeplopmndbgaaGreatQ7

namespace Go.Proofs.YtomeplopmndbgaaGreat.Sym
open Go
open Go.ChangeShapes Go.WideShapes Go.ChangeAt Go.RowKit
set_option linter.unusedSimpArgs false
set_option linter.unusedVariables false
noncomputable section
theorem XL:ownKnob Tryz.prog.godebug=none:=by kernel_rfl
theorem Xk:laidOutB Tryz.prog=true:=by kernel_rfl
theorem Xl:mapsRowed Tryz.prog=true:=by kernel_rfl
theorem TQ:vq Tryz.prog=true:=by kernel_rfl
theorem Uz:Tryz.prog.funcs[7]?=some Tryz.f7:=by kernel_rfl
theorem ID (b:Ty.den (bs))(hg:(decide (b.length≤1048576))=true):af kG Bv Unit [M7 (bs) b] 1 ⟨[],[],[]⟩ K4=some ():=by
 have h:af kG Bv Unit [M7 (bs) b] 1 ⟨[],[],[]⟩ K4=bif decide (b.length≤1048576) then some () else none:=by kernel_rfl
 rw[h,aa hg]
set_option maxRecDepth 100000 in
theorem uP (H:Type)(enc:TypeId×Value→H)(W:World)(base:Nat)(args:Array Value)(ds gs:List (DataW H))(before:List MemPlace)
  (hval:∀(j:Nat) t v,Tryz.f7.params[j]?=some t→args[j]?=some v→Value.okWide Tryz.prog W .any base t v)
  (hW:DataW.Whole enc Tryz.prog Tryz.f7.params.toList Rows.callOnlySpec.vars false W args.toList ds gs before) (hk:Rows.uptoSmall H (ds++gs)=true):
  Calls Tryz.prog 7 args W fun e W'=>∃v,e=.returned v∧Rows.callOnlySpec.post enc Tryz.prog Tryz.f7 false true false false W args v W':=by
 refine Cg St [bs] (by kernel_rfl) Xk Xl TQ (by decide +kernel) (tb:=4) rfl (by kernel_rfl) rfl (fun ds h=>?_) ?_ base args ds gs before hval hW hk
 ·match ds,h with
  |[_],_=>rfl
 ·rintro ⟨b,⟨⟩⟩ hd hw
  refine ID b ?_
  have h1:GB bs b≤1048576:=by simp only[N4] at hd;omega
  rw[UU] at h1
  exact decide_eq_true (by omega)
set_option maxRecDepth 100000 in
theorem yS (os:Os)(started:os.Started)(H:Type)(enc:TypeId×Value→H)(F:Stop.Interp):
  ReturnsInHanded {} Tryz.checked os 7 .any ((Rows.OpenSpec.upto Rows.callOnlySpec).pre6 enc Tryz.prog Tryz.f7 Rows.callOnlyUptoRow.domain false) (((Rows.OpenSpec.upto Rows.callOnlySpec).at F).post enc Tryz.prog Tryz.f7 false true false false):=by
 refine returnsInHanded_of_cond (C:=Tryz.checked) (s:=Rows.OpenSpec.upto Rows.callOnlySpec) (k:=Rows.uptoSmall) rfl XL started (by kernel_rfl) Uz
  (OpenSpec.witness (enc:=enc) (C:=Tryz.checked) (s:=Rows.OpenSpec.upto Rows.callOnlySpec) (k:=Rows.uptoSmall) rfl false ⟨#[],#[.slice none 0 0],[]⟩ 8 (by kernel_rfl) (by kernel_rfl) (by kernel_rfl)
   (x:=([.nil],[],[])) (by kernel_rfl) rfl (by kernel_rfl)) ?_
 intro W base args ds gs before hval hW _ hk _
 exact uP H enc W base args ds gs before hval hW hk
theorem wcOnly_over:Rows.callOnlyUptoRow.holds Tryz.pinned (Rows.OpenSpec.upto Rows.callOnlySpec):=
 OpenClaim.holds_of_cond 7 Tryz.f7 rfl rfl rfl rfl rfl rfl rfl ⟨rfl,rfl,rfl,rfl,rfl⟩ rfl rfl rfl rfl rfl (by kernel_rfl) Uz (by kernel_rfl)
  (of_decide_eq_true (by kernel_rfl)) (by unfold Func.isWrapper;first | (rw[if_pos (by decide +kernel)];kernel_rfl) | (rw[if_neg (by decide +kernel)];exact ⟨rfl,rfl⟩))
  (fun os started H enc _ F=>yS os started H enc F)
end
end Go.Proofs.YtomeplopmndbgaaGreat.Sym
theorem Go.Proofs.YtomeplopmndbgaaGreat.callOnlyProved:Go.Proofs.YtomeplopmndbgaaGreat.Rows.CallOnlyUptoSaid:=Go.Proofs.YtomeplopmndbgaaGreat.Sym.wcOnly_over
