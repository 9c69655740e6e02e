/- leat/leatlaw19.SegWalks answers true at all arguments, and leaves what it is given as it was: where the arguments' bulk is at most 2^20. -/
import Derived.Test.YthpcdhgpplmneaaGreatDoorQ7

set_option linter.unusedVariables false
set_option linter.unusedSimpArgs false
namespace Go.Proofs.YthpcdhgpplmneaaGreatDoor.Sym
open Go
open Go.IntKind (i8 i16 i32 i64 u8 u16 u32 u64)
open Go.ChangeShapes Go.WideShapes Go.ChangeAt Go.RowKit
noncomputable section
theorem Rj:ownKnob Tryz.prog.godebug=none:=by kernel_rfl
theorem QC:laidOutB Tryz.prog=true:=by kernel_rfl
theorem QD:mapsRowed Tryz.prog=true:=by kernel_rfl
theorem Nn:pG Tryz.prog=true:=by kernel_rfl
theorem wfunc2:Tryz.prog.funcs[5]?=some Tryz.f5:=by kernel_rfl
theorem JB (b:Ty.den (bs))(base:Ty.den (.int .i64))(most:Ty.den (.int .i64))(hg:(decide (List.length (α:=Int) b≤4294950000))=true):ah jd yx Unit [nG (bs) b,nG (.int .i64) base,nG (.int .i64) most] 1 ⟨[],[],[]⟩ Cf=some ():=by
 have h:ah jd yx Unit [nG (bs) b,nG (.int .i64) base,nG (.int .i64) most] 1 ⟨[],[],[]⟩ Cf=bif decide (List.length (α:=Int) b≤4294950000) then some () else none:=by kernel_rfl
 rw[h,aa hg]
set_option maxRecDepth 100000 in
theorem vG (H:Type)(enc:TypeId×Value→H)(W:World)(base:Nat)(args:Array Value)(ds gs:List (DataW H))(before:List MemPlace)
  (hval:∀(j:Nat) t v,Tryz.f5.params[j]?=some t→args[j]?=some v→Value.okWide Tryz.prog W .any base t v)
  (hW:DataW.Whole enc Tryz.prog Tryz.f5.params.toList Rows.segWalksSpec.vars false W args.toList ds gs before) (hk:Rows.uptoSmall H (ds++gs)=true) (hL:laidMetH Tryz.prog rH W):
  Calls Tryz.prog 5 args W fun e W'=>∃v,e=.returned v∧Rows.segWalksSpec.post enc Tryz.prog Tryz.f5 false true false false W args v W':=by
 refine pp Ou [bs,.int .i64,.int .i64] (by kernel_rfl) QC QD Nn (by decide +kernel) (tb:=4) rfl (by kernel_rfl) rfl (fun ds h=>?_) ?_ base args ds gs before hval hW hk (sd hL)
 ·match ds,h with
  |[_,_,_],_=>rfl
 ·rintro ⟨b,base,most,⟨⟩⟩ hd hw
  refine JB b base most ?_
  refine decide_eq_true ?_
  have:List.length (α:=Int) b≤AV bs b:=Ge (e:=5) (k:=.u8) b
  simp only[Ia] at hd
  omega
set_option maxRecDepth 100000 in
theorem AR (os:Os)(started:os.Started)(H:Type)(enc:TypeId×Value→H)(F:Stop.Interp):
  ReturnsInHanded {} Tryz.checked os 5 .any (fun w args=>((Rows.OpenSpec.upto Rows.segWalksSpec).pre enc Tryz.prog Tryz.f5 [] false w args∧laidMetH Tryz.prog rH w)∧sizedMet enc Tryz.prog Tryz.f5 (Rows.OpenSpec.upto Rows.segWalksSpec) false w args) (((Rows.OpenSpec.upto Rows.segWalksSpec).at F).post enc Tryz.prog Tryz.f5 false true false false):=by
 refine ig (C:=Tryz.checked) (s:=Rows.OpenSpec.upto Rows.segWalksSpec) (k:=Rows.uptoSmall) (laid:=rH) rfl Rj started (by kernel_rfl) wfunc2
  (qi (enc:=enc) (C:=Tryz.checked) (os:=os) (s:=Rows.OpenSpec.upto Rows.segWalksSpec) (k:=Rows.uptoSmall) rfl (World.doorLaid Tryz.prog 400 os) #[.slice none 0 0,.int .i64 0,.int .i64 0] 8 rfl (World.shaped_of_RefB (by kernel_rfl) (by kernel_rfl)) (by kernel_rfl)
   (x:=([.nil,.lit (.int .i64 0),.lit (.int .i64 0)],[],[])) (by kernel_rfl) (by kernel_rfl) (by kernel_rfl) (BS os _)) ?_
 intro W base args ds gs before hval hW hk hL
 exact vG H enc W base args ds gs before hval hW hk hL
theorem wSWal_over:Rows.segWalksUptoRow.holds Tryz.pinned (Rows.OpenSpec.upto Rows.segWalksSpec):=
 OpenClaim.holds_of_cond 5 Tryz.f5 rfl rfl rfl rfl rfl rfl rfl ⟨rfl,rfl,rfl,rfl,rfl⟩ rfl rfl rfl rfl rfl (by kernel_rfl) wfunc2 (by kernel_rfl)
  (of_decide_eq_true (by kernel_rfl)) (by unfold Func.isWrapper;first | (rw[if_pos (by decide +kernel)];kernel_rfl) | (rw[if_neg (by decide +kernel)];exact ⟨rfl,rfl⟩))
  (fun os started H enc _ F=>AR os started H enc F)
end
end Go.Proofs.YthpcdhgpplmneaaGreatDoor.Sym
open Go in
theorem Go.Proofs.YthpcdhgpplmneaaGreatDoor.segWalksProved:Go.Proofs.YthpcdhgpplmneaaGreatDoor.Rows.SegWalksUptoCardSaid:=
 Claim7.holds_tied_plain_at .later [] [.data] true Rows.segWalksUptoCard.stood.harness true Sym.wSWal_over (fun _ h=>by cases h) (by kernel_rfl) (fun _ h=>by cases h) segWalksUpto_row_tie rfl ⟨rfl,rfl⟩ (by kernel_rfl) rfl
  (fun f fn hf hfn=>by
   obtain rfl:f=5:=Option.some.inj ((show Tryz.prog.funcNamed "leat/leatlaw19.SegWalks"=some 5 by kernel_rfl).symm.trans hf) |>.symm
   obtain rfl:fn=Tryz.f5:=(Option.some.inj (Sym.wfunc2.symm.trans hfn)).symm
   exact ⟨by kernel_rfl,fun j t ht=>by
    have hm:t∈Tryz.f5.params.toList:=by simpa using Array.mem_of_getElem? ht
    have hall:(Tryz.f5.params.toList.all fun u=>!Tryz.prog.wantsStandIn u)=true:=by kernel_rfl
    exact (show Tryz.prog.wantsStandIn t=false by simpa using List.all_eq_true.1 hall t hm)⟩)
  (by kernel_rfl)
theorem Go.Proofs.YthpcdhgpplmneaaGreatDoor.segBoth:Go.Proofs.YthpcdhgpplmneaaGreatDoor.Rows.SegFindsUptoCardSaid∧Go.Proofs.YthpcdhgpplmneaaGreatDoor.Rows.SegWalksUptoCardSaid:=⟨Go.Proofs.YthpcdhgpplmneaaGreatDoor.segFindsProved,Go.Proofs.YthpcdhgpplmneaaGreatDoor.segWalksProved⟩
