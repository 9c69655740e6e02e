/- leat/leatlaw19.SegTiles answers true at all arguments, and leaves what it is given as it was: where the arguments' bulk is at most 2^20. -/
import Derived.Test.YthpcdhgpplmneaaDoorQ6

set_option linter.unusedVariables false
set_option linter.unusedSimpArgs false
namespace Go.Proofs.YthpcdhgpplmneaaDoor.Sym
open Go
open Go.IntKind (i8 i16 i32 i64 u8 u16 u32 u64)
open Go.ChangeShapes Go.WideShapes Go.ChangeAt Go.RowKit
noncomputable section
theorem LV:ownKnob Tryd.prog.godebug=none:=by kernel_rfl
theorem LB:laidOutB Tryd.prog=true:=by kernel_rfl
theorem LC:mapsRowed Tryd.prog=true:=by kernel_rfl
theorem JO:qs Tryd.prog=true:=by kernel_rfl
theorem wfunc:Tryd.prog.funcs[3]?=some Tryd.f3:=by kernel_rfl
theorem EP (b:Ty.den (bs))(base:Ty.den (.int .i64))(hg:(decide (List.length (α:=Int) b≤4294950000))=true):ah gX uX Unit [z8 (bs) b,z8 (.int .i64) base] 1 ⟨[],[],[]⟩ DK=some ():=by
 have h:ah gX uX Unit [z8 (bs) b,z8 (.int .i64) base] 1 ⟨[],[],[]⟩ DK=bif decide (List.length (α:=Int) b≤4294950000) then some () else none:=by kernel_rfl
 rw[h,aa hg]
set_option maxRecDepth 100000 in
theorem sT (H:Type)(enc:TypeId×Value→H)(W:World)(base:Nat)(args:Array Value)(ds gs:List (DataW H))(before:List MemPlace)
  (hval:∀(j:Nat) t v,Tryd.f3.params[j]?=some t→args[j]?=some v→Value.okWide Tryd.prog W .any base t v)
  (hW:DataW.Whole enc Tryd.prog Tryd.f3.params.toList Rows.segTilesSpec.vars false W args.toList ds gs before) (hk:Rows.uptoSmall H (ds++gs)=true) (hL:laidMetH Tryd.prog yd W):
  Calls Tryd.prog 3 args W fun e W'=>∃v,e=.returned v∧Rows.segTilesSpec.post enc Tryd.prog Tryd.f3 false true false false W args v W':=by
 refine vJ I3 [bs,.int .i64] (by kernel_rfl) LB LC JO (by decide +kernel) (tb:=4) rfl (by kernel_rfl) rfl (fun ds h=>?_) ?_ base args ds gs before hval hW hk (ze hL)
 ·match ds,h with
  |[_,_],_=>rfl
 ·rintro ⟨b,base,⟨⟩⟩ hd hw
  refine EP b base ?_
  refine decide_eq_true ?_
  have:List.length (α:=Int) b≤xK bs b:=Ih (e:=5) (k:=.u8) b
  simp only[FB] at hd
  omega
set_option maxRecDepth 100000 in
theorem wM (os:Os)(started:os.Started)(H:Type)(enc:TypeId×Value→H)(F:Stop.Interp):
  ReturnsInHanded {} Tryd.checked os 3 .any (fun w args=>((Rows.OpenSpec.upto Rows.segTilesSpec).pre enc Tryd.prog Tryd.f3 [] false w args∧laidMetH Tryd.prog yd w)∧sizedMet enc Tryd.prog Tryd.f3 (Rows.OpenSpec.upto Rows.segTilesSpec) false w args) (((Rows.OpenSpec.upto Rows.segTilesSpec).at F).post enc Tryd.prog Tryd.f3 false true false false):=by
 refine l7 (C:=Tryd.checked) (s:=Rows.OpenSpec.upto Rows.segTilesSpec) (k:=Rows.uptoSmall) (laid:=yd) rfl LV started (by kernel_rfl) wfunc
  (wO (enc:=enc) (C:=Tryd.checked) (os:=os) (s:=Rows.OpenSpec.upto Rows.segTilesSpec) (k:=Rows.uptoSmall) rfl (World.doorLaid Tryd.prog 400 os) #[.slice none 0 0,.int .i64 0] 8 rfl (World.shaped_of_RefB (by kernel_rfl) (by kernel_rfl)) (by kernel_rfl)
   (x:=([.nil,.lit (.int .i64 0)],[],[])) (by kernel_rfl) (by kernel_rfl) (by kernel_rfl) (FA os _)) ?_
 intro W base args ds gs before hval hW hk hL
 exact sT H enc W base args ds gs before hval hW hk hL
theorem wSTil_over:Rows.segTilesUptoRow.holds Tryd.pinned (Rows.OpenSpec.upto Rows.segTilesSpec):=
 OpenClaim.holds_of_cond 3 Tryd.f3 rfl rfl rfl rfl rfl rfl rfl ⟨rfl,rfl,rfl,rfl,rfl⟩ rfl rfl rfl rfl rfl (by kernel_rfl) wfunc (by kernel_rfl)
  (of_decide_eq_true (by kernel_rfl)) (by unfold Func.isWrapper;first | (rw[if_pos (by decide +kernel)];kernel_rfl) | (rw[if_neg (by decide +kernel)];exact ⟨rfl,rfl⟩))
  (fun os started H enc _ F=>wM os started H enc F)
end
end Go.Proofs.YthpcdhgpplmneaaDoor.Sym
open Go in
theorem Go.Proofs.YthpcdhgpplmneaaDoor.segTilesProved:Go.Proofs.YthpcdhgpplmneaaDoor.Rows.SegTilesUptoCardSaid:=
 Claim7.holds_tied_plain_at .later [] [.data] true Rows.segTilesUptoCard.stood.harness true Sym.wSTil_over (fun _ h=>by cases h) (by kernel_rfl) (fun _ h=>by cases h) segTilesUpto_row_tie rfl ⟨rfl,rfl⟩ (by kernel_rfl) rfl
  (fun f fn hf hfn=>by
   obtain rfl:f=3:=Option.some.inj ((show Tryd.prog.funcNamed "leat/leatlaw19.SegTiles"=some 3 by kernel_rfl).symm.trans hf) |>.symm
   obtain rfl:fn=Tryd.f3:=(Option.some.inj (Sym.wfunc.symm.trans hfn)).symm
   exact ⟨by kernel_rfl,fun j t ht=>by
    have hm:t∈Tryd.f3.params.toList:=by simpa using Array.mem_of_getElem? ht
    have hall:(Tryd.f3.params.toList.all fun u=>!Tryd.prog.wantsStandIn u)=true:=by kernel_rfl
    exact (show Tryd.prog.wantsStandIn t=false by simpa using List.all_eq_true.1 hall t hm)⟩)
  (by kernel_rfl)
