/- leat/leatlaw09.SetGets answers true at all arguments, and leaves what it is given as it was: where the arguments' bulk is at most 2^20. -/
import Derived.Test.YthpcdhgpplmneaaGreatDoorQ7

set_option linter.unusedVariables false
set_option linter.unusedSimpArgs false
namespace Go.Proofs.YthpcdhgpplmneaaGreatDoor.Sym
open Go
open Go.IntKind (i8 i16 i32 i64 u8 u16 u32 u64)
open Go.ChangeShapes Go.WideShapes Go.ChangeAt Go.RowKit
noncomputable section
theorem SY:ownKnob Tryz.prog.godebug=none:=by kernel_rfl
theorem SE:laidOutB Tryz.prog=true:=by kernel_rfl
theorem SF:mapsRowed Tryz.prog=true:=by kernel_rfl
theorem Qn:td Tryz.prog=true:=by kernel_rfl
theorem wfunc:Tryz.prog.funcs[7]?=some Tryz.f7:=by kernel_rfl
theorem JU (b:Ty.den (bs))(hg:(decide (List.length (α:=Int) b≤4294950000))=true):ah ji yu Unit [Ko (bs) b] 1 ⟨[],[],[]⟩ IL=some ():=by
 have h:ah ji yu Unit [Ko (bs) b] 1 ⟨[],[],[]⟩ IL=bif decide (List.length (α:=Int) b≤4294950000) then some () else none:=by kernel_rfl
 rw[h,aa hg]
set_option maxRecDepth 100000 in
theorem vU (H:Type)(enc:TypeId×Value→H)(W:World)(base:Nat)(args:Array Value)(ds gs:List (DataW H))(before:List MemPlace)
  (hval:∀(j:Nat) t v,Tryz.f7.params[j]?=some t→args[j]?=some v→Value.okWide Tryz.prog W .any base t v)
  (hW:DataW.Whole enc Tryz.prog Tryz.f7.params.toList Rows.setGetsSpec.vars false W args.toList ds gs before) (hk:Rows.uptoSmall H (ds++gs)=true) (hL:laidMetH Tryz.prog Cy W):
  Calls Tryz.prog 7 args W fun e W'=>∃v,e=.returned v∧Rows.setGetsSpec.post enc Tryz.prog Tryz.f7 false true false false W args v W':=by
 refine zm Pj [bs] (by kernel_rfl) SE SF Qn (by decide +kernel) (tb:=4) rfl (by kernel_rfl) rfl (fun ds h=>?_) ?_ base args ds gs before hval hW hk (DN hL)
 ·match ds,h with
  |[_],_=>rfl
 ·rintro ⟨b,⟨⟩⟩ hd hw
  refine JU b ?_
  refine decide_eq_true ?_
  have:List.length (α:=Int) b≤BZ bs b:=Or (e:=5) (k:=.u8) b
  simp only[K6] at hd
  omega
set_option maxRecDepth 100000 in
theorem AK (os:Os)(started:os.Started)(H:Type)(enc:TypeId×Value→H)(F:Stop.Interp):
  ReturnsInHanded {} Tryz.checked os 7 .any (fun w args=>((Rows.OpenSpec.upto Rows.setGetsSpec).pre enc Tryz.prog Tryz.f7 [] false w args∧laidMetH Tryz.prog Cy w)∧sizedMet enc Tryz.prog Tryz.f7 (Rows.OpenSpec.upto Rows.setGetsSpec) false w args) (((Rows.OpenSpec.upto Rows.setGetsSpec).at F).post enc Tryz.prog Tryz.f7 false true false false):=by
 refine nO (C:=Tryz.checked) (s:=Rows.OpenSpec.upto Rows.setGetsSpec) (k:=Rows.uptoSmall) (laid:=Cy) rfl SY started (by kernel_rfl) wfunc
  (AM (enc:=enc) (C:=Tryz.checked) (os:=os) (s:=Rows.OpenSpec.upto Rows.setGetsSpec) (k:=Rows.uptoSmall) rfl (World.doorLaid Tryz.prog 400 os) #[.slice none 0 0] 8 rfl (World.shaped_of_RefB (by kernel_rfl) (by kernel_rfl)) (by kernel_rfl)
   (x:=([.nil],[],[])) (by kernel_rfl) (by kernel_rfl) (by kernel_rfl) (K5 os _)) ?_
 intro W base args ds gs before hval hW hk hL
 exact vU H enc W base args ds gs before hval hW hk hL
theorem wSGet_over:Rows.setGetsUptoRow.holds Tryz.pinned (Rows.OpenSpec.upto Rows.setGetsSpec):=
 OpenClaim.holds_of_cond 7 Tryz.f7 rfl rfl rfl rfl rfl rfl rfl ⟨rfl,rfl,rfl,rfl,rfl⟩ rfl rfl rfl rfl rfl (by kernel_rfl) wfunc (by kernel_rfl)
  (of_decide_eq_true (by kernel_rfl)) (by unfold Func.isWrapper;first | (rw[if_pos (by decide +kernel)];kernel_rfl) | (rw[if_neg (by decide +kernel)];exact ⟨rfl,rfl⟩))
  (fun os started H enc _ F=>AK os started H enc F)
end
end Go.Proofs.YthpcdhgpplmneaaGreatDoor.Sym
open Go in
theorem Go.Proofs.YthpcdhgpplmneaaGreatDoor.setGetsProved:Go.Proofs.YthpcdhgpplmneaaGreatDoor.Rows.SetGetsUptoCardSaid:=
 Claim7.holds_tied_plain_at .later [] [.data] true Rows.setGetsUptoCard.stood.harness true Sym.wSGet_over (fun _ h=>by cases h) (by kernel_rfl) (fun _ h=>by cases h) setGetsUpto_row_tie rfl ⟨rfl,rfl⟩ (by kernel_rfl) rfl
  (fun f fn hf hfn=>by
   obtain rfl:f=7:=Option.some.inj ((show Tryz.prog.funcNamed "leat/leatlaw09.SetGets"=some 7 by kernel_rfl).symm.trans hf) |>.symm
   obtain rfl:fn=Tryz.f7:=(Option.some.inj (Sym.wfunc.symm.trans hfn)).symm
   exact ⟨by kernel_rfl,fun j t ht=>by
    have hm:t∈Tryz.f7.params.toList:=by simpa using Array.mem_of_getElem? ht
    have hall:(Tryz.f7.params.toList.all fun u=>!Tryz.prog.wantsStandIn u)=true:=by kernel_rfl
    exact (show Tryz.prog.wantsStandIn t=false by simpa using List.all_eq_true.1 hall t hm)⟩)
  (by kernel_rfl)
