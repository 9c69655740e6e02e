/- A law of a program with a listed table: what the list says of the table's cells, and the row's own condition beside it. -/
import Derived.Test.YthpcdhgpplmneaaGreatDoorTie
import Derived.Test.YthpcdhgpplmneaaGreatDoorCards
import Derived.ProofKit
import Derived.LaidMore
import Derived.OpenShut
import Derived.Stop.Joined
import Derived.Test.YthpcdhgpplmneaaGreatDoorQ6

set_option linter.unusedVariables false
set_option linter.unusedSimpArgs false
namespace Go.Proofs.YthpcdhgpplmneaaGreatDoor.Sym
open Go
open Go.IntKind (i8 i16 i32 i64 u8 u16 u32 u64)
open Go.ChangeShapes Go.WideShapes Go.ChangeAt Go.RowKit
noncomputable section
abbrev Cy:List (String×DataW Unit):=[("leat/crc.rows",Rows.laid_leat_crc_rows)]
theorem Qx:Tryz.prog.globalNamed "leat/crc.rows"=some 0:=by kernel_rfl
theorem SA:(Tryz.prog.globals[0]?).map (·.type)=some ((Tryz.prog.globals[0]?).map (·.type)).get!:=by kernel_rfl
theorem SD:Tryz.prog.underlying ((Tryz.prog.globals[0]?).map (·.type)).get!=some (.array 16 137):=by kernel_rfl
theorem SU:Tryz.prog.underlying 137=some (.int .u32):=by kernel_rfl
theorem Sl:(Rows.laid_leat_crc_rows:DataW Unit)=.agg (rj.map fun n=>.lit (.int .u32 n)):=by kernel_rfl
set_option maxRecDepth 100000 in
theorem DN {W:World}(h:laidMetH Tryz.prog Cy W):j8 (S0 W) W:=by
 rw[MakeChecks.laidMetH_plain _ _ _ (by kernel_rfl)] at h
 obtain ⟨ps,⟨g0,t0,cs0,f0,p0,q0,hg0,ht0,hv0,hd0,_,_⟩,_,_⟩:=h
 obtain rfl:=Option.some.inj (Qx.symm.trans hg0)
 obtain rfl:=Option.some.inj (SA.symm.trans ht0)
 obtain ⟨xs,m,rfl,hx,hlen,hn,hel⟩:=DataW.trod_array SD hd0
 have c1:Tryz.prog.cellsOf 137=1:=by kernel_rfl
 intro g i hg hi
 have hg:g=0:=Nat.eq_of_beq_eq_true hg
 subst hg
 have hi:i<16:=hi
 have key:W.cell? ⟨0,i,none⟩=some (.int .u32 (fi (i:Int))):=by
  have h1:=hel i hi
  have h2:xs[i]?=some xs[i]:=List.getElem?_eq_getElem (by omega)
  rw[h2,c1] at h1
  obtain ⟨k,e1,e2,_⟩:=DataW.trod_int SU h1
  have h3:=World.var?_cell Qx hv0 i
  rw[h3]
  have h4:cs0.toList[i]?=some (.int .u32 k):=by
   have:((cs0.toList.drop (i*1)).take 1)[0]?=some (.int .u32 k):=by rw[e1];rfl
   rw[List.getElem?_take] at this
   simpa using this
  have h5:cs0[i]?=some (.int .u32 k):=by simpa using h4
  rw[h5]
  have hk:(rj.map fun n=>(DataW.lit (.int .u32 n):DataW Unit))[i]?=some (.lit (.int .u32 k)):=by
   have hx1:(.agg (rj.map fun n=>.lit (.int .u32 n)):DataW Unit)=.agg (xs.map (·.1)):=Sl.symm.trans (congrArg Prod.fst hx)
   have hx1:=DataW.agg.inj hx1
   rw[hx1,List.getElem?_map,h2]
   simp[e2]
  rw[List.getElem?_map] at hk
  have hs:fi (i:Int)=rj.getD i 0:=rfl
  rw[hs,List.getD_eq_getElem?_getD]
  cases ht:rj[i]? with
  |none=>rw[ht] at hk;cases hk
  |some x=>
   rw[ht] at hk
   simp only[Option.map_some,zC,DataW.lit.injEq,Lit.int.injEq] at hk
   rw[hk.2]
   rfl
 exact ⟨⟨_,key⟩,key⟩
theorem K5 (os:Os)(args:Array Value):laidMetH Tryz.prog Cy ((World.doorLaid Tryz.prog 400 os).forCall (fun _ _=>0) ⟨#[],args,[]⟩).memory:=
 laidMetH_of_parts3 (fuel:=8) (laidMet_of_run' 8 (by kernel_rfl) (by kernel_rfl)) (by kernel_rfl) (by kernel_rfl)
section
variable {H:Type} {enc:TypeId×Value→H}
theorem nO {a:Assume}{C:Checked}{os:Os}{f:FuncId}{fn:Func}{s:OpenSpec}{k:(H:Type)→List (DataW H)→Bool}(hk:s.cond=some k){F:Stop.Interp}{conds:List PathCond}{apart fresh handsOn again:Bool}{laid:List (String×DataW Unit)}
  (own:ownKnob C.prog.godebug=none) (started:os.Started) (noInit:C.prog.inits.idxOf? f=none) (hfn:C.prog.funcs[f]?=some fn)
  (witness:∃(w:World) (tape:Tape) (i:Input),w.os=os∧(w.forCall tape i).Shaped C.prog∧i.vars=[]∧Input.okWide C.prog (w.forCall tape i) .any w.heap.size f i∧
   ((s.pre enc C.prog fn conds apart (w.forCall tape i).memory i.args∧laidMetH C.prog laid (w.forCall tape i).memory)∧sizedMet enc C.prog fn s apart (w.forCall tape i).memory i.args)∧a.holds C.prog (lone (Frame.enter C.prog f i.args .normal) [] (w.forCall tape i)))
  (contract:∀(W:World) (base:Nat) (args:Array Value) (ds gs:List (DataW H)) (before:List MemPlace),
   (∀(j:Nat) t v,fn.params[j]?=some t→args[j]?=some v→Value.okWide C.prog W .any base t v)→
   DataW.Whole enc C.prog fn.params.toList s.vars apart W args.toList ds gs before→k H (ds++gs)=true→laidMetH C.prog laid W→
   Calls C.prog f args W fun e W'=>∃v,e=.returned v∧(s.at F).post enc C.prog fn apart fresh handsOn again W args v W'):
  ReturnsInHanded a C os f .any (fun w args=>(s.pre enc C.prog fn conds apart w args∧laidMetH C.prog laid w)∧sizedMet enc C.prog fn s apart w args) ((s.at F).post enc C.prog fn apart fresh handsOn again):=by
 refine returnsInHanded_of_calls own started noInit witness ?_
 intro w tape i _ _ _ hok hpre hholds
 obtain ⟨_,_,_,fn',hfn',_,_,_,_,hval⟩:=hok
 have e:fn'=fn:=Option.some.inj (hfn'.symm.trans hfn)
 subst e
 obtain ⟨ds,gs,before,hw,hc,hkk⟩:=(OpenSpec.pre_some hk conds apart _ _).1 hpre.1.1
 have hw':=DataW.Whole.of_heap (w':=w.forCall tape i) (by rfl) hw
 refine (contract (w.forCall tape i) w.heap.size i.args ds gs before hval hw' hkk (hpre.1.2.of_heap (by rfl))).mono fun e W' ⟨v,he,hp⟩=>?_
 subst he
 exact ChangeSpec.post_blind hp
theorem AM {C:Checked}{os:Os}{f:FuncId}{fn:Func}{s:OpenSpec}{k:(H:Type)→List (DataW H)→Bool}(hk:s.cond=some k){apart:Bool}{laid:List (String×DataW Unit)}(w0:World)(args:Array Value)(fuel:Nat)(hos:w0.os=os)
  (hsh:(w0.forCall (fun _ _=>0) ⟨#[],args,[]⟩).Shaped C.prog)
  (hok:Input.okWideB C.prog (w0.forCall (fun _ _=>0) ⟨#[],args,[]⟩) f ⟨#[],args,[]⟩=true)
  {x:List (DataW H)×List (DataW H)×List MemPlace} (hx:DataW.whole enc C.prog (w0.forCall (fun _ _=>0) ⟨#[],args,[]⟩).memory fn.params.toList s.vars apart args.toList fuel=some x)
  (hkk:k H (x.1++x.2.1)=true)
  (hsz:s.bare.sizedB enc C.prog fn apart (w0.forCall (fun _ _=>0) ⟨#[],args,[]⟩).memory args fuel=true)
  (hl:laidMetH C.prog laid (w0.forCall (fun _ _=>0) ⟨#[],args,[]⟩).memory):
  ∃(w:World) (tape:Tape) (i:Input),w.os=os∧(w.forCall tape i).Shaped C.prog∧i.vars=[]∧Input.okWide C.prog (w.forCall tape i) .any w.heap.size f i∧
   ((s.pre enc C.prog fn [] apart (w.forCall tape i).memory i.args∧laidMetH C.prog laid (w.forCall tape i).memory)∧sizedMet enc C.prog fn s apart (w.forCall tape i).memory i.args)∧({}:Assume).holds C.prog (lone (Frame.enter C.prog f i.args .normal) [] (w.forCall tape i)):=
 ⟨w0,fun _ _=>0,⟨#[],args,[]⟩,hos,hsh,(Input.okWide_of_okWideB (base:=0) hok).1,(Input.okWide_of_okWideB hok).2,
  ⟨⟨(OpenSpec.pre_some hk [] apart _ _).2 ⟨x.1,x.2.1,x.2.2,DataW.Whole_of_whole hx,rfl,hkk⟩,hl⟩,sizedMet_of_sizedB hsz⟩,by
  simp only[Assume.holds]
  exact ⟨by simp,by simp,fun _=>Modest.zero,by simp,by simp⟩⟩
end
end
end Go.Proofs.YthpcdhgpplmneaaGreatDoor.Sym
