/- leat/leatlaw16.CallReplies answers true at all arguments, and leaves what it is given as it was: where the arguments' bulk is at most 2^20. -/
import Derived.Test.YtomeplopmndbgaaGreatQ8

namespace Go.Proofs.YtomeplopmndbgaaGreat.Sym
open Go
open Go.ChangeShapes Go.WideShapes Go.ChangeAt Go.RowKit
set_option linter.unusedSimpArgs false
set_option linter.unusedVariables false
noncomputable section
theorem ab7:ownKnob Tryz.prog.godebug=none:=by kernel_rfl
theorem abJ:laidOutB Tryz.prog=true:=by kernel_rfl
theorem abK:mapsRowed Tryz.prog=true:=by kernel_rfl
theorem Yt:xM Tryz.prog=true:=by kernel_rfl
theorem Zc:Tryz.prog.funcs[4]?=some Tryz.f4:=by kernel_rfl
theorem BL (m:Ty.den (cD))(hg:(AT m)=true):ah fE pR Unit [Rq (cD) m] 1 ⟨[],[],[]⟩ O7=some ():=by
 have h:ah fE pR Unit [Rq (cD) m] 1 ⟨[],[],[]⟩ O7=bif AT m then some () else none:=by kernel_rfl
 rw[h,aa hg]
set_option maxRecDepth 100000 in
theorem se (H:Type)(enc:TypeId×Value→H)(W:World)(base:Nat)(args:Array Value)(ds gs:List (DataW H))(before:List MemPlace)
  (hval:∀(j:Nat) t v,Tryz.f4.params[j]?=some t→args[j]?=some v→Value.okWide Tryz.prog W .any base t v)
  (hW:DataW.Whole enc Tryz.prog Tryz.f4.params.toList Rows.callRepliesSpec.vars false W args.toList ds gs before) (hk:Rows.uptoSmall H (ds++gs)=true):
  Calls Tryz.prog 4 args W fun e W'=>∃v,e=.returned v∧Rows.callRepliesSpec.post enc Tryz.prog Tryz.f4 false true false false W args v W':=by
 refine Fh KV [cD] (by kernel_rfl) abJ abK Yt (by decide +kernel) (tb:=4) rfl (by kernel_rfl) rfl (fun ds h=>?_) ?_ base args ds gs before hval hW hk
 ·match ds,h with
  |[_],_=>rfl
 ·rintro ⟨m,⟨⟩⟩ hd hw
  refine BL m ?_
  have h1:iU cD m≤1048576:=by simp only[Ss] at hd;omega
  exact K8 h1
set_option maxRecDepth 100000 in
theorem vR (os:Os)(started:os.Started)(H:Type)(enc:TypeId×Value→H)(F:Stop.Interp):
  ReturnsInHanded {} Tryz.checked os 4 .any ((Rows.OpenSpec.upto Rows.callRepliesSpec).pre6 enc Tryz.prog Tryz.f4 Rows.callRepliesUptoRow.domain false) (((Rows.OpenSpec.upto Rows.callRepliesSpec).at F).post enc Tryz.prog Tryz.f4 false true false false):=by
 refine returnsInHanded_of_cond (C:=Tryz.checked) (s:=Rows.OpenSpec.upto Rows.callRepliesSpec) (k:=Rows.uptoSmall) rfl ab7 started (by kernel_rfl) Zc
  (OpenSpec.witness (enc:=enc) (C:=Tryz.checked) (s:=Rows.OpenSpec.upto Rows.callRepliesSpec) (k:=Rows.uptoSmall) rfl false ⟨#[],#[.agg #[.int .i16 0,.int .i16 0,.int .i32 0,.slice none 0 0,.int .i32 0,.int .i32 0,.slice none 0 0,.int .i32 0,.slice none 0 0]],[]⟩ 8 (by kernel_rfl) (by kernel_rfl) (by kernel_rfl)
   (x:=([.agg [.lit (.int .i16 0),.lit (.int .i16 0),.lit (.int .i32 0),.agg [.nil,.lit (.int .i32 0)],.agg [.lit (.int .i32 0),.nil],.agg [.lit (.int .i32 0),.nil]]],[],[])) (by kernel_rfl) rfl (by kernel_rfl)) ?_
 intro W base args ds gs before hval hW _ hk _
 exact se H enc W base args ds gs before hval hW hk
theorem wcReplies_over:Rows.callRepliesUptoRow.holds Tryz.pinned (Rows.OpenSpec.upto Rows.callRepliesSpec):=
 OpenClaim.holds_of_cond 4 Tryz.f4 rfl rfl rfl rfl rfl rfl rfl ⟨rfl,rfl,rfl,rfl,rfl⟩ rfl rfl rfl rfl rfl (by kernel_rfl) Zc (by kernel_rfl)
  (of_decide_eq_true (by kernel_rfl)) (by unfold Func.isWrapper;first | (rw[if_pos (by decide +kernel)];kernel_rfl) | (rw[if_neg (by decide +kernel)];exact ⟨rfl,rfl⟩))
  (fun os started H enc _ F=>vR os started H enc F)
end
end Go.Proofs.YtomeplopmndbgaaGreat.Sym
theorem Go.Proofs.YtomeplopmndbgaaGreat.callRepliesProved:Go.Proofs.YtomeplopmndbgaaGreat.Rows.CallRepliesUptoSaid:=Go.Proofs.YtomeplopmndbgaaGreat.Sym.wcReplies_over
