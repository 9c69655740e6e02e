/- leat/leatlaw08.BatchGets answers true at all arguments, and leaves what it is given as it was: where the arguments' bulk is at most 2^20. -/
import Derived.Test.YtcbcbjdobbgddaaGreatDoorQ6

set_option linter.unusedVariables false
set_option linter.unusedSimpArgs false
namespace Go.Proofs.YtcbcbjdobbgddaaGreatDoor.Sym
open Go
open Go.IntKind (i8 i16 i32 i64 u8 u16 u32 u64)
open Go.ChangeShapes Go.WideShapes Go.ChangeAt Go.RowKit
noncomputable section
theorem MM:ownKnob Tryz.prog.godebug=none:=by kernel_rfl
theorem Ms:laidOutB Tryz.prog=true:=by kernel_rfl
theorem Mt:mapsRowed Tryz.prog=true:=by kernel_rfl
theorem Kg:p9 Tryz.prog=true:=by kernel_rfl
theorem wfunc:Tryz.prog.funcs[3]?=some Tryz.f3:=by kernel_rfl
theorem AU (b:Ty.den (bs))(hg:(decide (List.length (α:=Int) b≤4294950000))=true):ah ft pD Unit [EW (bs) b] 1 ⟨[],[],[]⟩ DB=some ():=by
 have h:ah ft pD Unit [EW (bs) b] 1 ⟨[],[],[]⟩ DB=bif decide (List.length (α:=Int) b≤4294950000) then some () else none:=by kernel_rfl
 rw[h,ab hg]
set_option maxRecDepth 100000 in
theorem pC (H:Type)(enc:TypeId×Value→H)(W:World)(base:Nat)(args:Array Value)(ds gs:List (DataW H))(before:List MemPlace)
  (hval:∀(j:Nat) t v,Tryz.f3.params[j]?=some t→args[j]?=some v→Value.okWide Tryz.prog W .any base t v)
  (hW:DataW.Whole enc Tryz.prog Tryz.f3.params.toList Rows.batchGetsSpec.vars false W args.toList ds gs before) (hk:Rows.uptoSmall H (ds++gs)=true) (hL:laidMetH Tryz.prog xn W):
  Calls Tryz.prog 3 args W fun e W'=>∃v,e=.returned v∧Rows.batchGetsSpec.post enc Tryz.prog Tryz.f3 false true false false W args v W':=by
 refine vf GP [bs] (by kernel_rfl) Ms Mt Kg (by decide +kernel) (tb:=4) rfl (by kernel_rfl) rfl (fun ds h=>?_) ?_ base args ds gs before hval hW hk (yK hL)
 ·match ds,h with
  |[_],_=>rfl
 ·rintro ⟨b,⟨⟩⟩ hd hw
  refine AU b ?_
  refine decide_eq_true ?_
  have:List.length (α:=Int) b≤w4 bs b:=Iy (e:=5) (k:=.u8) b
  simp only[Fy] at hd
  omega
set_option maxRecDepth 100000 in
theorem si (os:Os)(started:os.Started)(H:Type)(enc:TypeId×Value→H)(F:Stop.Interp):
  ReturnsInHanded {} Tryz.checked os 3 .any (fun w args=>((Rows.OpenSpec.upto Rows.batchGetsSpec).pre enc Tryz.prog Tryz.f3 [] false w args∧laidMetH Tryz.prog xn w)∧sizedMet enc Tryz.prog Tryz.f3 (Rows.OpenSpec.upto Rows.batchGetsSpec) false w args) (((Rows.OpenSpec.upto Rows.batchGetsSpec).at F).post enc Tryz.prog Tryz.f3 false true false false):=by
 refine lT (C:=Tryz.checked) (s:=Rows.OpenSpec.upto Rows.batchGetsSpec) (k:=Rows.uptoSmall) (laid:=xn) rfl MM started (by kernel_rfl) wfunc
  (vT (enc:=enc) (C:=Tryz.checked) (os:=os) (s:=Rows.OpenSpec.upto Rows.batchGetsSpec) (k:=Rows.uptoSmall) rfl (World.doorLaid Tryz.prog 400 os) #[.slice none 0 0] 8 rfl (World.shaped_of_RefB (by kernel_rfl) (by kernel_rfl)) (by kernel_rfl)
   (x:=([.nil],[],[])) (by kernel_rfl) (by kernel_rfl) (by kernel_rfl) (Fx os _)) ?_
 intro W base args ds gs before hval hW hk hL
 exact pC H enc W base args ds gs before hval hW hk hL
theorem wBGets_over:Rows.batchGetsUptoRow.holds Tryz.pinned (Rows.OpenSpec.upto Rows.batchGetsSpec):=
 OpenClaim.holds_of_cond 3 Tryz.f3 rfl rfl rfl rfl rfl rfl rfl ⟨rfl,rfl,rfl,rfl,rfl⟩ rfl rfl rfl rfl rfl (by kernel_rfl) wfunc (by kernel_rfl)
  (of_decide_eq_true (by kernel_rfl)) (by unfold Func.isWrapper;first | (rw[if_pos (by decide +kernel)];kernel_rfl) | (rw[if_neg (by decide +kernel)];exact ⟨rfl,rfl⟩))
  (fun os started H enc _ F=>si os started H enc F)
end
end Go.Proofs.YtcbcbjdobbgddaaGreatDoor.Sym
open Go in
theorem Go.Proofs.YtcbcbjdobbgddaaGreatDoor.batchGetsProved:Go.Proofs.YtcbcbjdobbgddaaGreatDoor.Rows.BatchGetsUptoCardSaid:=
 Claim7.holds_tied_plain_at .later [] [.data] true Rows.batchGetsUptoCard.stood.harness true Sym.wBGets_over (fun _ h=>by cases h) (by kernel_rfl) (fun _ h=>by cases h) batchGetsUpto_row_tie rfl ⟨rfl,rfl⟩ (by kernel_rfl) rfl
  (fun f fn hf hfn=>by
   obtain rfl:f=3:=Option.some.inj ((show Tryz.prog.funcNamed "leat/leatlaw08.BatchGets"=some 3 by kernel_rfl).symm.trans hf) |>.symm
   obtain rfl:fn=Tryz.f3:=(Option.some.inj (Sym.wfunc.symm.trans hfn)).symm
   exact ⟨by kernel_rfl,fun j t ht=>by
    have hm:t∈Tryz.f3.params.toList:=by simpa using Array.mem_of_getElem? ht
    have hall:(Tryz.f3.params.toList.all fun u=>!Tryz.prog.wantsStandIn u)=true:=by kernel_rfl
    exact (show Tryz.prog.wantsStandIn t=false by simpa using List.all_eq_true.1 hall t hm)⟩)
  (by kernel_rfl)
