/- leat/leatlaw08.BatchBases answers true at all arguments, and leaves what it is given as it was: where the arguments' bulk is at most 2^20. -/
import Derived.Test.YtcbcbjdobbgddaaGreatDoorQ6

set_option linter.unusedVariables false
set_option linter.unusedSimpArgs false
namespace Go.Proofs.YtcbcbjdobbgddaaGreatDoor.Sym
open Go
open Go.IntKind (i8 i16 i32 i64 u8 u16 u32 u64)
open Go.ChangeShapes Go.WideShapes Go.ChangeAt Go.RowKit
noncomputable section
theorem O9:ownKnob Tryz.prog.godebug=none:=by kernel_rfl
theorem OK:laidOutB Tryz.prog=true:=by kernel_rfl
theorem OL:mapsRowed Tryz.prog=true:=by kernel_rfl
theorem My:qY Tryz.prog=true:=by kernel_rfl
theorem wfunc:Tryz.prog.funcs[8]?=some Tryz.f8:=by kernel_rfl
theorem Gg (b:Ty.den (bs))(base:Ty.den (.int .i64))(ep:Ty.den (.int .i32))(hg:(decide (List.length (α:=Int) b≤4294950000))=true):ah ix vG Unit [vY (bs) b,vY (.int .i64) base,vY (.int .i32) ep] 1 ⟨[],[],[]⟩ Fd=some ():=by
 have h:ah ix vG Unit [vY (bs) b,vY (.int .i64) base,vY (.int .i32) ep] 1 ⟨[],[],[]⟩ Fd=bif decide (List.length (α:=Int) b≤4294950000) then some () else none:=by kernel_rfl
 rw[h,aa hg]
set_option maxRecDepth 100000 in
theorem tk (H:Type)(enc:TypeId×Value→H)(W:World)(base:Nat)(args:Array Value)(ds gs:List (DataW H))(before:List MemPlace)
  (hval:∀(j:Nat) t v,Tryz.f8.params[j]?=some t→args[j]?=some v→Value.okWide Tryz.prog W .any base t v)
  (hW:DataW.Whole enc Tryz.prog Tryz.f8.params.toList Rows.batchBasesSpec.vars false W args.toList ds gs before) (hk:Rows.uptoSmall H (ds++gs)=true) (hL:laidMetH Tryz.prog yW W):
  Calls Tryz.prog 8 args W fun e W'=>∃v,e=.returned v∧Rows.batchBasesSpec.post enc Tryz.prog Tryz.f8 false true false false W args v W':=by
 refine wz Lv [bs,.int .i64,.int .i32] (by kernel_rfl) OK OL My (by decide +kernel) (tb:=4) rfl (by kernel_rfl) rfl (fun ds h=>?_) ?_ base args ds gs before hval hW hk (AH hL)
 ·match ds,h with
  |[_,_,_],_=>rfl
 ·rintro ⟨b,base,ep,⟨⟩⟩ hd hw
  refine Gg b base ep ?_
  refine decide_eq_true ?_
  have:List.length (α:=Int) b≤yD bs b:=KC (e:=5) (k:=.u8) b
  simp only[Ht] at hd
  omega
set_option maxRecDepth 100000 in
theorem xq (os:Os)(started:os.Started)(H:Type)(enc:TypeId×Value→H)(F:Stop.Interp):
  ReturnsInHanded {} Tryz.checked os 8 .any (fun w args=>((Rows.OpenSpec.upto Rows.batchBasesSpec).pre enc Tryz.prog Tryz.f8 [] false w args∧laidMetH Tryz.prog yW w)∧sizedMet enc Tryz.prog Tryz.f8 (Rows.OpenSpec.upto Rows.batchBasesSpec) false w args) (((Rows.OpenSpec.upto Rows.batchBasesSpec).at F).post enc Tryz.prog Tryz.f8 false true false false):=by
 refine mH (C:=Tryz.checked) (s:=Rows.OpenSpec.upto Rows.batchBasesSpec) (k:=Rows.uptoSmall) (laid:=yW) rfl O9 started (by kernel_rfl) wfunc
  (xt (enc:=enc) (C:=Tryz.checked) (os:=os) (s:=Rows.OpenSpec.upto Rows.batchBasesSpec) (k:=Rows.uptoSmall) rfl (World.doorLaid Tryz.prog 400 os) #[.slice none 0 0,.int .i64 0,.int .i32 0] 8 rfl (World.shaped_of_RefB (by kernel_rfl) (by kernel_rfl)) (by kernel_rfl)
   (x:=([.nil,.lit (.int .i64 0),.lit (.int .i32 0)],[],[])) (by kernel_rfl) (by kernel_rfl) (by kernel_rfl) (Hs os _)) ?_
 intro W base args ds gs before hval hW hk hL
 exact tk H enc W base args ds gs before hval hW hk hL
theorem wBBas_over:Rows.batchBasesUptoRow.holds Tryz.pinned (Rows.OpenSpec.upto Rows.batchBasesSpec):=
 OpenClaim.holds_of_cond 8 Tryz.f8 rfl rfl rfl rfl rfl rfl rfl ⟨rfl,rfl,rfl,rfl,rfl⟩ rfl rfl rfl rfl rfl (by kernel_rfl) wfunc (by kernel_rfl)
  (of_decide_eq_true (by kernel_rfl)) (by unfold Func.isWrapper;first | (rw[if_pos (by decide +kernel)];kernel_rfl) | (rw[if_neg (by decide +kernel)];exact ⟨rfl,rfl⟩))
  (fun os started H enc _ F=>xq os started H enc F)
end
end Go.Proofs.YtcbcbjdobbgddaaGreatDoor.Sym
open Go in
theorem Go.Proofs.YtcbcbjdobbgddaaGreatDoor.batchBasesProved:Go.Proofs.YtcbcbjdobbgddaaGreatDoor.Rows.BatchBasesUptoCardSaid:=
 Claim7.holds_tied_plain_at .later [] [.data] true Rows.batchBasesUptoCard.stood.harness true Sym.wBBas_over (fun _ h=>by cases h) (by kernel_rfl) (fun _ h=>by cases h) batchBasesUpto_row_tie rfl ⟨rfl,rfl⟩ (by kernel_rfl) rfl
  (fun f fn hf hfn=>by
   obtain rfl:f=8:=Option.some.inj ((show Tryz.prog.funcNamed "leat/leatlaw08.BatchBases"=some 8 by kernel_rfl).symm.trans hf) |>.symm
   obtain rfl:fn=Tryz.f8:=(Option.some.inj (Sym.wfunc.symm.trans hfn)).symm
   exact ⟨by kernel_rfl,fun j t ht=>by
    have hm:t∈Tryz.f8.params.toList:=by simpa using Array.mem_of_getElem? ht
    have hall:(Tryz.f8.params.toList.all fun u=>!Tryz.prog.wantsStandIn u)=true:=by kernel_rfl
    exact (show Tryz.prog.wantsStandIn t=false by simpa using List.all_eq_true.1 hall t hm)⟩)
  (by kernel_rfl)
