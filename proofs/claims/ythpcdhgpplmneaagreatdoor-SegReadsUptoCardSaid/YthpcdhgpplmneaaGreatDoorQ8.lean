/- leat/leatlaw19.SegReads answers true at all arguments, and leaves what it is given as it was: where the arguments' bulk is at most 2^20. -/
import Derived.Test.YthpcdhgpplmneaaGreatDoorQ7

set_option linter.unusedVariables false
set_option linter.unusedSimpArgs false
namespace Go.Proofs.YthpcdhgpplmneaaGreatDoor.Sym
open Go
open Go.IntKind (i8 i16 i32 i64 u8 u16 u32 u64)
open Go.ChangeShapes Go.WideShapes Go.ChangeAt Go.RowKit
noncomputable section
theorem SU:ownKnob Tryz.prog.godebug=none:=by kernel_rfl
theorem Sw:laidOutB Tryz.prog=true:=by kernel_rfl
theorem Sx:mapsRowed Tryz.prog=true:=by kernel_rfl
theorem Qs:tA Tryz.prog=true:=by kernel_rfl
theorem wfunc:Tryz.prog.funcs[3]?=some Tryz.f3:=by kernel_rfl
theorem Kj (b:Ty.den (bs))(base:Ty.den (.int .i64))(from_:Ty.den (.int .i64))(most:Ty.den (.int .i64))(hg:(decide (List.length (α:=Int) b≤4294950000))=true):ai jj yX Unit [ua (bs) b,ua (.int .i64) base,ua (.int .i64) from_,ua (.int .i64) most] 1 ⟨[],[],[]⟩ I3=some ():=by
 have h:ai jj yX Unit [ua (bs) b,ua (.int .i64) base,ua (.int .i64) from_,ua (.int .i64) most] 1 ⟨[],[],[]⟩ I3=bif decide (List.length (α:=Int) b≤4294950000) then some () else none:=by kernel_rfl
 rw[h,aa hg]
set_option maxRecDepth 100000 in
theorem wk (H:Type)(enc:TypeId×Value→H)(W:World)(base:Nat)(args:Array Value)(ds gs:List (DataW H))(before:List MemPlace)
  (hval:∀(j:Nat) t v,Tryz.f3.params[j]?=some t→args[j]?=some v→Value.okWide Tryz.prog W .any base t v)
  (hW:DataW.Whole enc Tryz.prog Tryz.f3.params.toList Rows.segReadsSpec.vars false W args.toList ds gs before) (hk:Rows.uptoSmall H (ds++gs)=true) (hL:laidMetH Tryz.prog CN W):
  Calls Tryz.prog 3 args W fun e W'=>∃v,e=.returned v∧Rows.segReadsSpec.post enc Tryz.prog Tryz.f3 false true false false W args v W':=by
 refine Ah Ps [bs,.int .i64,.int .i64,.int .i64] (by kernel_rfl) Sw Sx Qs (by decide +kernel) (tb:=4) rfl (by kernel_rfl) rfl (fun ds h=>?_) ?_ base args ds gs before hval hW hk (DW hL)
 ·match ds,h with
  |[_,_,_,_],_=>rfl
 ·rintro ⟨b,base,from_,most,⟨⟩⟩ hd hw
  refine Kj b base from_ most ?_
  refine decide_eq_true ?_
  have:List.length (α:=Int) b≤Cs bs b:=Oy (e:=5) (k:=.u8) b
  simp only[Lg] at hd
  omega
set_option maxRecDepth 100000 in
theorem Bs (os:Os)(started:os.Started)(H:Type)(enc:TypeId×Value→H)(F:Stop.Interp):
  ReturnsInHanded {} Tryz.checked os 3 .any (fun w args=>((Rows.OpenSpec.upto Rows.segReadsSpec).pre enc Tryz.prog Tryz.f3 [] false w args∧laidMetH Tryz.prog CN w)∧sizedMet enc Tryz.prog Tryz.f3 (Rows.OpenSpec.upto Rows.segReadsSpec) false w args) (((Rows.OpenSpec.upto Rows.segReadsSpec).at F).post enc Tryz.prog Tryz.f3 false true false false):=by
 refine od (C:=Tryz.checked) (s:=Rows.OpenSpec.upto Rows.segReadsSpec) (k:=Rows.uptoSmall) (laid:=CN) rfl SU started (by kernel_rfl) wfunc
  (Bu (enc:=enc) (C:=Tryz.checked) (os:=os) (s:=Rows.OpenSpec.upto Rows.segReadsSpec) (k:=Rows.uptoSmall) rfl (World.doorLaid Tryz.prog 400 os) #[.slice none 0 0,.int .i64 0,.int .i64 0,.int .i64 0] 8 rfl (World.shaped_of_RefB (by kernel_rfl) (by kernel_rfl)) (by kernel_rfl)
   (x:=([.nil,.lit (.int .i64 0),.lit (.int .i64 0),.lit (.int .i64 0)],[],[])) (by kernel_rfl) (by kernel_rfl) (by kernel_rfl) (Lf os _)) ?_
 intro W base args ds gs before hval hW hk hL
 exact wk H enc W base args ds gs before hval hW hk hL
theorem wSRea_over:Rows.segReadsUptoRow.holds Tryz.pinned (Rows.OpenSpec.upto Rows.segReadsSpec):=
 OpenClaim.holds_of_cond 3 Tryz.f3 rfl rfl rfl rfl rfl rfl rfl ⟨rfl,rfl,rfl,rfl,rfl⟩ rfl rfl rfl rfl rfl (by kernel_rfl) wfunc (by kernel_rfl)
  (of_decide_eq_true (by kernel_rfl)) (by unfold Func.isWrapper;first | (rw[if_pos (by decide +kernel)];kernel_rfl) | (rw[if_neg (by decide +kernel)];exact ⟨rfl,rfl⟩))
  (fun os started H enc _ F=>Bs os started H enc F)
end
end Go.Proofs.YthpcdhgpplmneaaGreatDoor.Sym
open Go in
theorem Go.Proofs.YthpcdhgpplmneaaGreatDoor.segReadsProved:Go.Proofs.YthpcdhgpplmneaaGreatDoor.Rows.SegReadsUptoCardSaid:=
 Claim7.holds_tied_plain_at .later [] [.data] true Rows.segReadsUptoCard.stood.harness true Sym.wSRea_over (fun _ h=>by cases h) (by kernel_rfl) (fun _ h=>by cases h) segReadsUpto_row_tie rfl ⟨rfl,rfl⟩ (by kernel_rfl) rfl
  (fun f fn hf hfn=>by
   obtain rfl:f=3:=Option.some.inj ((show Tryz.prog.funcNamed "leat/leatlaw19.SegReads"=some 3 by kernel_rfl).symm.trans hf) |>.symm
   obtain rfl:fn=Tryz.f3:=(Option.some.inj (Sym.wfunc.symm.trans hfn)).symm
   exact ⟨by kernel_rfl,fun j t ht=>by
    have hm:t∈Tryz.f3.params.toList:=by simpa using Array.mem_of_getElem? ht
    have hall:(Tryz.f3.params.toList.all fun u=>!Tryz.prog.wantsStandIn u)=true:=by kernel_rfl
    exact (show Tryz.prog.wantsStandIn t=false by simpa using List.all_eq_true.1 hall t hm)⟩)
  (by kernel_rfl)
