/- leat/leatlaw16.CallBack answers true at all arguments, and leaves what it is given as it was: where the arguments' bulk is at most 2^20. -/
import Derived.Test.YtomeplopmndbgaaGreatQ9

set_option linter.unusedVariables false
set_option linter.unusedSimpArgs false
namespace Go.Proofs.YtomeplopmndbgaaGreat.Sym
open Go
open Go.IntKind (i8 i16 i32 i64 u8 u16 u32 u64)
open Go.ChangeShapes Go.WideShapes Go.ChangeAt Go.RowKit
noncomputable section
theorem akG:ownKnob Tryz.prog.godebug=none:=by kernel_rfl
theorem akp:laidOutB Tryz.prog=true:=by kernel_rfl
theorem akq:mapsRowed Tryz.prog=true:=by kernel_rfl
theorem ahk:CN Tryz.prog=true:=by kernel_rfl
theorem aib:Tryz.prog.funcs[6]?=some Tryz.f6:=by kernel_rfl
theorem Tw (m:Ty.den (da))(r:Ty.den (dn))(hg:(FE m&&FF r)=true):ae lx JO Unit [QG (da) m,QG (dn) r] 1 ⟨[],[],[]⟩ W2=some ():=by
 have h:ae lx JO Unit [QG (da) m,QG (dn) r] 1 ⟨[],[],[]⟩ W2=bif FE m&&FF r then some () else none:=by kernel_rfl
 rw[h,aa hg]
set_option maxRecDepth 100000 in
theorem Ce (H:Type)(enc:TypeId×Value→H)(W:World)(base:Nat)(args:Array Value)(ds gs:List (DataW H))(before:List MemPlace)
  (hval:∀(j:Nat) t v,Tryz.f6.params[j]?=some t→args[j]?=some v→Value.okWide Tryz.prog W .any base t v)
  (hW:DataW.Whole enc Tryz.prog Tryz.f6.params.toList Rows.callBackSpec.vars false W args.toList ds gs before) (hk:Rows.uptoSmall H (ds++gs)=true):
  Calls Tryz.prog 6 args W fun e W'=>∃v,e=.returned v∧Rows.callBackSpec.post enc Tryz.prog Tryz.f6 false true false false W args v W':=by
 refine K6 afG [da,dn] (by kernel_rfl) akp akq ahk (by decide +kernel) (tb:=4) rfl (by kernel_rfl) rfl (fun ds h=>?_) ?_ base args ds gs before hval hW hk
 ·match ds,h with
  |[_,_],_=>rfl
 ·rintro ⟨m,r,⟨⟩⟩ hd hw
  refine Tw m r ?_
  have h1:ga da m≤1048576:=by simp only[WA] at hd;omega
  have h2:ga dn r≤1048576:=by simp only[WA] at hd;omega
  rw[Wk h1,R4 h2]
  rfl
set_option maxRecDepth 100000 in
theorem GM (os:Os)(started:os.Started)(H:Type)(enc:TypeId×Value→H)(F:Stop.Interp):
  ReturnsInHanded {} Tryz.checked os 6 .any ((Rows.OpenSpec.upto Rows.callBackSpec).pre6 enc Tryz.prog Tryz.f6 Rows.callBackUptoRow.domain false) (((Rows.OpenSpec.upto Rows.callBackSpec).at F).post enc Tryz.prog Tryz.f6 false true false false):=by
 refine returnsInHanded_of_cond (C:=Tryz.checked) (s:=Rows.OpenSpec.upto Rows.callBackSpec) (k:=Rows.uptoSmall) rfl akG started (by kernel_rfl) aib
  (OpenSpec.witness (enc:=enc) (C:=Tryz.checked) (s:=Rows.OpenSpec.upto Rows.callBackSpec) (k:=Rows.uptoSmall) rfl false ⟨#[],#[.agg #[.int .i16 0,.int .i16 0,.int .i32 0,.bool false,.string ⟨#[]⟩,.bool false,.string ⟨#[]⟩,.int .i16 0,.int .i32 0,.slice none 0 0,.int .i32 0,.int .i32 0,.int .i32 0,.int .i32 0,.int .i8 0,.slice none 0 0,.int .i32 0,.int .i8 0,.slice none 0 0],.agg #[.int .i16 0,.int .i16 0,.int .i32 0,.slice none 0 0,.int .i32 0,.int .i32 0,.slice none 0 0,.int .i32 0,.slice none 0 0]],[]⟩ 8 (by kernel_rfl) (by kernel_rfl) (by kernel_rfl)
   (x:=([.agg [.lit (.int .i16 0),.lit (.int .i16 0),.lit (.int .i32 0),.agg [.lit (.bool false),.lit (.string [])],.agg [.agg [.lit (.bool false),.lit (.string [])],.lit (.int .i16 0),.lit (.int .i32 0),.nil],.agg [.lit (.int .i32 0),.lit (.int .i32 0),.lit (.int .i32 0),.lit (.int .i32 0),.lit (.int .i8 0),.nil],.agg [.lit (.int .i32 0),.lit (.int .i8 0),.nil]],.agg [.lit (.int .i16 0),.lit (.int .i16 0),.lit (.int .i32 0),.agg [.nil,.lit (.int .i32 0)],.agg [.lit (.int .i32 0),.nil],.agg [.lit (.int .i32 0),.nil]]],[],[])) (by kernel_rfl) rfl (by kernel_rfl)) ?_
 intro W base args ds gs before hval hW _ hk _
 exact Ce H enc W base args ds gs before hval hW hk
theorem wcBack_over:Rows.callBackUptoRow.holds Tryz.pinned (Rows.OpenSpec.upto Rows.callBackSpec):=
 OpenClaim.holds_of_cond 6 Tryz.f6 rfl rfl rfl rfl rfl rfl rfl ⟨rfl,rfl,rfl,rfl,rfl⟩ rfl rfl rfl rfl rfl (by kernel_rfl) aib (by kernel_rfl)
  (of_decide_eq_true (by kernel_rfl)) (by unfold Func.isWrapper;first | (rw[if_pos (by decide +kernel)];kernel_rfl) | (rw[if_neg (by decide +kernel)];exact ⟨rfl,rfl⟩))
  (fun os started H enc _ F=>GM os started H enc F)
end
end Go.Proofs.YtomeplopmndbgaaGreat.Sym
theorem Go.Proofs.YtomeplopmndbgaaGreat.callBackProved:Go.Proofs.YtomeplopmndbgaaGreat.Rows.CallBackUptoSaid:=Go.Proofs.YtomeplopmndbgaaGreat.Sym.wcBack_over
