/- leat/leatlaw09.SetPlaces answers true at all arguments, and leaves what it is given as it was: where the arguments' bulk is at most 2^20. -/
import Derived.Test.YthpcdhgpplmneaaGreatDoorQ7

set_option linter.unusedVariables false
set_option linter.unusedSimpArgs false
namespace Go.Proofs.YthpcdhgpplmneaaGreatDoor.Sym
open Go
open Go.IntKind (i8 i16 i32 i64 u8 u16 u32 u64)
open Go.ChangeShapes Go.WideShapes Go.ChangeAt Go.RowKit
noncomputable section
theorem TL:ownKnob Tryz.prog.godebug=none:=by kernel_rfl
theorem Tk:laidOutB Tryz.prog=true:=by kernel_rfl
theorem Tl:mapsRowed Tryz.prog=true:=by kernel_rfl
theorem QN:td Tryz.prog=true:=by kernel_rfl
theorem wfunc:Tryz.prog.funcs[10]?=some Tryz.f10:=by kernel_rfl
theorem J4 (b:Ty.den (bs))(base:Ty.den (.int .i64))(ep:Ty.den (.int .i32))(hg:(decide (List.length (α:=Int) b≤4294950000))=true):ah je yq Unit [yL (bs) b,yL (.int .i64) base,yL (.int .i32) ep] 1 ⟨[],[],[]⟩ IV=some ():=by
 have h:ah je yq Unit [yL (bs) b,yL (.int .i64) base,yL (.int .i32) ep] 1 ⟨[],[],[]⟩ IV=bif decide (List.length (α:=Int) b≤4294950000) then some () else none:=by kernel_rfl
 rw[h,aa hg]
set_option maxRecDepth 100000 in
theorem vT (H:Type)(enc:TypeId×Value→H)(W:World)(base:Nat)(args:Array Value)(ds gs:List (DataW H))(before:List MemPlace)
  (hval:∀(j:Nat) t v,Tryz.f10.params[j]?=some t→args[j]?=some v→Value.okWide Tryz.prog W .any base t v)
  (hW:DataW.Whole enc Tryz.prog Tryz.f10.params.toList Rows.setPlacesSpec.vars false W args.toList ds gs before) (hk:Rows.uptoSmall H (ds++gs)=true) (hL:laidMetH Tryz.prog CB W):
  Calls Tryz.prog 10 args W fun e W'=>∃v,e=.returned v∧Rows.setPlacesSpec.post enc Tryz.prog Tryz.f10 false true false false W args v W':=by
 refine zl PG [bs,.int .i64,.int .i32] (by kernel_rfl) Tk Tl QN (by decide +kernel) (tb:=4) rfl (by kernel_rfl) rfl (fun ds h=>?_) ?_ base args ds gs before hval hW hk (DO hL)
 ·match ds,h with
  |[_,_,_],_=>rfl
 ·rintro ⟨b,base,ep,⟨⟩⟩ hd hw
  refine J4 b base ep ?_
  refine decide_eq_true ?_
  have:List.length (α:=Int) b≤B3 bs b:=OO (e:=5) (k:=.u8) b
  simp only[Ll] at hd
  omega
set_option maxRecDepth 100000 in
theorem AQ (os:Os)(started:os.Started)(H:Type)(enc:TypeId×Value→H)(F:Stop.Interp):
  ReturnsInHanded {} Tryz.checked os 10 .any (fun w args=>((Rows.OpenSpec.upto Rows.setPlacesSpec).pre enc Tryz.prog Tryz.f10 [] false w args∧laidMetH Tryz.prog CB w)∧sizedMet enc Tryz.prog Tryz.f10 (Rows.OpenSpec.upto Rows.setPlacesSpec) false w args) (((Rows.OpenSpec.upto Rows.setPlacesSpec).at F).post enc Tryz.prog Tryz.f10 false true false false):=by
 refine nH (C:=Tryz.checked) (s:=Rows.OpenSpec.upto Rows.setPlacesSpec) (k:=Rows.uptoSmall) (laid:=CB) rfl TL started (by kernel_rfl) wfunc
  (AT (enc:=enc) (C:=Tryz.checked) (os:=os) (s:=Rows.OpenSpec.upto Rows.setPlacesSpec) (k:=Rows.uptoSmall) rfl (World.doorLaid Tryz.prog 400 os) #[.slice none 0 0,.int .i64 0,.int .i32 0] 8 rfl (World.shaped_of_RefB (by kernel_rfl) (by kernel_rfl)) (by kernel_rfl)
   (x:=([.nil,.lit (.int .i64 0),.lit (.int .i32 0)],[],[])) (by kernel_rfl) (by kernel_rfl) (by kernel_rfl) (Lk os _)) ?_
 intro W base args ds gs before hval hW hk hL
 exact vT H enc W base args ds gs before hval hW hk hL
theorem wSPla_over:Rows.setPlacesUptoRow.holds Tryz.pinned (Rows.OpenSpec.upto Rows.setPlacesSpec):=
 OpenClaim.holds_of_cond 10 Tryz.f10 rfl rfl rfl rfl rfl rfl rfl ⟨rfl,rfl,rfl,rfl,rfl⟩ rfl rfl rfl rfl rfl (by kernel_rfl) wfunc (by kernel_rfl)
  (of_decide_eq_true (by kernel_rfl)) (by unfold Func.isWrapper;first | (rw[if_pos (by decide +kernel)];kernel_rfl) | (rw[if_neg (by decide +kernel)];exact ⟨rfl,rfl⟩))
  (fun os started H enc _ F=>AQ os started H enc F)
end
end Go.Proofs.YthpcdhgpplmneaaGreatDoor.Sym
open Go in
theorem Go.Proofs.YthpcdhgpplmneaaGreatDoor.setPlacesProved:Go.Proofs.YthpcdhgpplmneaaGreatDoor.Rows.SetPlacesUptoCardSaid:=
 Claim7.holds_tied_plain_at .later [] [.data] true Rows.setPlacesUptoCard.stood.harness true Sym.wSPla_over (fun _ h=>by cases h) (by kernel_rfl) (fun _ h=>by cases h) setPlacesUpto_row_tie rfl ⟨rfl,rfl⟩ (by kernel_rfl) rfl
  (fun f fn hf hfn=>by
   obtain rfl:f=10:=Option.some.inj ((show Tryz.prog.funcNamed "leat/leatlaw09.SetPlaces"=some 10 by kernel_rfl).symm.trans hf) |>.symm
   obtain rfl:fn=Tryz.f10:=(Option.some.inj (Sym.wfunc.symm.trans hfn)).symm
   exact ⟨by kernel_rfl,fun j t ht=>by
    have hm:t∈Tryz.f10.params.toList:=by simpa using Array.mem_of_getElem? ht
    have hall:(Tryz.f10.params.toList.all fun u=>!Tryz.prog.wantsStandIn u)=true:=by kernel_rfl
    exact (show Tryz.prog.wantsStandIn t=false by simpa using List.all_eq_true.1 hall t hm)⟩)
  (by kernel_rfl)
