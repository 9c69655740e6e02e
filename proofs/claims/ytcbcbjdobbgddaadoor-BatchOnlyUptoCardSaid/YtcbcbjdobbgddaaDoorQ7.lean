/- leat/leatlaw08.BatchOnly answers true at all arguments, and leaves what it is given as it was: where the arguments' bulk is at most 2^20. -/
import Derived.Test.YtcbcbjdobbgddaaDoorQ6

set_option linter.unusedVariables false
set_option linter.unusedSimpArgs false
namespace Go.Proofs.YtcbcbjdobbgddaaDoor.Sym
open Go
open Go.IntKind (i8 i16 i32 i64 u8 u16 u32 u64)
open Go.ChangeShapes Go.WideShapes Go.ChangeAt Go.RowKit
noncomputable section
theorem K1:ownKnob Tryd.prog.godebug=none:=by kernel_rfl
theorem KJ:laidOutB Tryd.prog=true:=by kernel_rfl
theorem KK:mapsRowed Tryd.prog=true:=by kernel_rfl
theorem Ip:pq Tryd.prog=true:=by kernel_rfl
theorem wfunc:Tryd.prog.funcs[4]?=some Tryd.f4:=by kernel_rfl
theorem CV (b:Ty.den (bs))(hg:(decide (List.length (α:=Int) b≤4294950000))=true):ah gy ta Unit [Di (bs) b] 1 ⟨[],[],[]⟩ B4=some ():=by
 have h:ah gy ta Unit [Di (bs) b] 1 ⟨[],[],[]⟩ B4=bif decide (List.length (α:=Int) b≤4294950000) then some () else none:=by kernel_rfl
 rw[h,aa hg]
set_option maxRecDepth 100000 in
theorem qY (H:Type)(enc:TypeId×Value→H)(W:World)(base:Nat)(args:Array Value)(ds gs:List (DataW H))(before:List MemPlace)
  (hval:∀(j:Nat) t v,Tryd.f4.params[j]?=some t→args[j]?=some v→Value.okWide Tryd.prog W .any base t v)
  (hW:DataW.Whole enc Tryd.prog Tryd.f4.params.toList Rows.batchOnlySpec.vars false W args.toList ds gs before) (hk:Rows.uptoSmall H (ds++gs)=true) (hL:laidMetH Tryd.prog wc W):
  Calls Tryd.prog 4 args W fun e W'=>∃v,e=.returned v∧Rows.batchOnlySpec.post enc Tryd.prog Tryd.f4 false true false false W args v W':=by
 refine t4 Hq [bs] (by kernel_rfl) KJ KK Ip (by decide +kernel) (tb:=4) rfl (by kernel_rfl) rfl (fun ds h=>?_) ?_ base args ds gs before hval hW hk (xl hL)
 ·match ds,h with
  |[_],_=>rfl
 ·rintro ⟨b,⟨⟩⟩ hd hw
  refine CV b ?_
  refine decide_eq_true ?_
  have:List.length (α:=Int) b≤vO bs b:=GF (e:=5) (k:=.u8) b
  simp only[DZ] at hd
  omega
set_option maxRecDepth 100000 in
theorem uO (os:Os)(started:os.Started)(H:Type)(enc:TypeId×Value→H)(F:Stop.Interp):
  ReturnsInHanded {} Tryd.checked os 4 .any (fun w args=>((Rows.OpenSpec.upto Rows.batchOnlySpec).pre enc Tryd.prog Tryd.f4 [] false w args∧laidMetH Tryd.prog wc w)∧sizedMet enc Tryd.prog Tryd.f4 (Rows.OpenSpec.upto Rows.batchOnlySpec) false w args) (((Rows.OpenSpec.upto Rows.batchOnlySpec).at F).post enc Tryd.prog Tryd.f4 false true false false):=by
 refine lb (C:=Tryd.checked) (s:=Rows.OpenSpec.upto Rows.batchOnlySpec) (k:=Rows.uptoSmall) (laid:=wc) rfl K1 started (by kernel_rfl) wfunc
  (uQ (enc:=enc) (C:=Tryd.checked) (os:=os) (s:=Rows.OpenSpec.upto Rows.batchOnlySpec) (k:=Rows.uptoSmall) rfl (World.doorLaid Tryd.prog 400 os) #[.slice none 0 0] 8 rfl (World.shaped_of_RefB (by kernel_rfl) (by kernel_rfl)) (by kernel_rfl)
   (x:=([.nil],[],[])) (by kernel_rfl) (by kernel_rfl) (by kernel_rfl) (DY os _)) ?_
 intro W base args ds gs before hval hW hk hL
 exact qY H enc W base args ds gs before hval hW hk hL
theorem wBOnl_over:Rows.batchOnlyUptoRow.holds Tryd.pinned (Rows.OpenSpec.upto Rows.batchOnlySpec):=
 OpenClaim.holds_of_cond 4 Tryd.f4 rfl rfl rfl rfl rfl rfl rfl ⟨rfl,rfl,rfl,rfl,rfl⟩ rfl rfl rfl rfl rfl (by kernel_rfl) wfunc (by kernel_rfl)
  (of_decide_eq_true (by kernel_rfl)) (by unfold Func.isWrapper;first | (rw[if_pos (by decide +kernel)];kernel_rfl) | (rw[if_neg (by decide +kernel)];exact ⟨rfl,rfl⟩))
  (fun os started H enc _ F=>uO os started H enc F)
end
end Go.Proofs.YtcbcbjdobbgddaaDoor.Sym
open Go in
theorem Go.Proofs.YtcbcbjdobbgddaaDoor.batchOnlyProved:Go.Proofs.YtcbcbjdobbgddaaDoor.Rows.BatchOnlyUptoCardSaid:=
 Claim7.holds_tied_plain_at .later [] [.data] true Rows.batchOnlyUptoCard.stood.harness true Sym.wBOnl_over (fun _ h=>by cases h) (by kernel_rfl) (fun _ h=>by cases h) batchOnlyUpto_row_tie rfl ⟨rfl,rfl⟩ (by kernel_rfl) rfl
  (fun f fn hf hfn=>by
   obtain rfl:f=4:=Option.some.inj ((show Tryd.prog.funcNamed "leat/leatlaw08.BatchOnly"=some 4 by kernel_rfl).symm.trans hf) |>.symm
   obtain rfl:fn=Tryd.f4:=(Option.some.inj (Sym.wfunc.symm.trans hfn)).symm
   exact ⟨by kernel_rfl,fun j t ht=>by
    have hm:t∈Tryd.f4.params.toList:=by simpa using Array.mem_of_getElem? ht
    have hall:(Tryd.f4.params.toList.all fun u=>!Tryd.prog.wantsStandIn u)=true:=by kernel_rfl
    exact (show Tryd.prog.wantsStandIn t=false by simpa using List.all_eq_true.1 hall t hm)⟩)
  (by kernel_rfl)
