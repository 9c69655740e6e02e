/- leat/leatlaw16.CallPuts answers true at all arguments, and leaves what it is given as it was: where the arguments' bulk is at most 2^20. -/
import Derived.Test.YtomeplopmndbgaaGreatQ8

namespace Go.Proofs.YtomeplopmndbgaaGreat.Sym
open Go
open Go.ChangeShapes Go.WideShapes Go.ChangeAt Go.RowKit
set_option linter.unusedSimpArgs false
set_option linter.unusedVariables false
noncomputable section
theorem adi:ownKnob Tryz.prog.godebug=none:=by kernel_rfl
theorem acR:laidOutB Tryz.prog=true:=by kernel_rfl
theorem acS:mapsRowed Tryz.prog=true:=by kernel_rfl
theorem ZP:yM Tryz.prog=true:=by kernel_rfl
theorem aaq:Tryz.prog.funcs[3]?=some Tryz.f3:=by kernel_rfl
theorem Nw (m:Ty.den (cD))(hg:(BP m)=true):ah mp EY Unit [SR (cD) m] 1 ⟨[],[],[]⟩ Qj=some ():=by
 have h:ah mp EY Unit [SR (cD) m] 1 ⟨[],[],[]⟩ Qj=bif BP m then some () else none:=by kernel_rfl
 rw[h,aa hg]
set_option maxRecDepth 100000 in
theorem yd (H:Type)(enc:TypeId×Value→H)(W:World)(base:Nat)(args:Array Value)(ds gs:List (DataW H))(before:List MemPlace)
  (hval:∀(j:Nat) t v,Tryz.f3.params[j]?=some t→args[j]?=some v→Value.okWide Tryz.prog W .any base t v)
  (hW:DataW.Whole enc Tryz.prog Tryz.f3.params.toList Rows.callPutsSpec.vars false W args.toList ds gs before) (hk:Rows.uptoSmall H (ds++gs)=true):
  Calls Tryz.prog 3 args W fun e W'=>∃v,e=.returned v∧Rows.callPutsSpec.post enc Tryz.prog Tryz.f3 false true false false W args v W':=by
 refine F7 Yt [cD] (by kernel_rfl) acR acS ZP (by decide +kernel) (tb:=4) rfl (by kernel_rfl) rfl (fun ds h=>?_) ?_ base args ds gs before hval hW hk
 ·match ds,h with
  |[_],_=>rfl
 ·rintro ⟨m,⟨⟩⟩ hd hw
  refine Nw m ?_
  have h1:jR cD m≤1048576:=by simp only[TP] at hd;omega
  exact PN h1
set_option maxRecDepth 100000 in
theorem CE (os:Os)(started:os.Started)(H:Type)(enc:TypeId×Value→H)(F:Stop.Interp):
  ReturnsInHanded {} Tryz.checked os 3 .any ((Rows.OpenSpec.upto Rows.callPutsSpec).pre6 enc Tryz.prog Tryz.f3 Rows.callPutsUptoRow.domain false) (((Rows.OpenSpec.upto Rows.callPutsSpec).at F).post enc Tryz.prog Tryz.f3 false true false false):=by
 refine returnsInHanded_of_cond (C:=Tryz.checked) (s:=Rows.OpenSpec.upto Rows.callPutsSpec) (k:=Rows.uptoSmall) rfl adi started (by kernel_rfl) aaq
  (OpenSpec.witness (enc:=enc) (C:=Tryz.checked) (s:=Rows.OpenSpec.upto Rows.callPutsSpec) (k:=Rows.uptoSmall) rfl false ⟨#[],#[.agg #[.int .i16 0,.int .i16 0,.int .i32 0,.bool false,.string ⟨#[]⟩,.bool false,.string ⟨#[]⟩,.int .i16 0,.int .i32 0,.slice none 0 0,.int .i32 0,.int .i32 0,.int .i32 0,.int .i32 0,.int .i8 0,.slice none 0 0,.int .i32 0,.int .i8 0,.slice none 0 0]],[]⟩ 8 (by kernel_rfl) (by kernel_rfl) (by kernel_rfl)
   (x:=([.agg [.lit (.int .i16 0),.lit (.int .i16 0),.lit (.int .i32 0),.agg [.lit (.bool false),.lit (.string [])],.agg [.agg [.lit (.bool false),.lit (.string [])],.lit (.int .i16 0),.lit (.int .i32 0),.nil],.agg [.lit (.int .i32 0),.lit (.int .i32 0),.lit (.int .i32 0),.lit (.int .i32 0),.lit (.int .i8 0),.nil],.agg [.lit (.int .i32 0),.lit (.int .i8 0),.nil]]],[],[])) (by kernel_rfl) rfl (by kernel_rfl)) ?_
 intro W base args ds gs before hval hW _ hk _
 exact yd H enc W base args ds gs before hval hW hk
theorem wcPuts_over:Rows.callPutsUptoRow.holds Tryz.pinned (Rows.OpenSpec.upto Rows.callPutsSpec):=
 OpenClaim.holds_of_cond 3 Tryz.f3 rfl rfl rfl rfl rfl rfl rfl ⟨rfl,rfl,rfl,rfl,rfl⟩ rfl rfl rfl rfl rfl (by kernel_rfl) aaq (by kernel_rfl)
  (of_decide_eq_true (by kernel_rfl)) (by unfold Func.isWrapper;first | (rw[if_pos (by decide +kernel)];kernel_rfl) | (rw[if_neg (by decide +kernel)];exact ⟨rfl,rfl⟩))
  (fun os started H enc _ F=>CE os started H enc F)
end
end Go.Proofs.YtomeplopmndbgaaGreat.Sym
theorem Go.Proofs.YtomeplopmndbgaaGreat.callPutsProved:Go.Proofs.YtomeplopmndbgaaGreat.Rows.CallPutsUptoSaid:=Go.Proofs.YtomeplopmndbgaaGreat.Sym.wcPuts_over
