/- vint.PutAll, vint.Put. -/
import Derived.Test.YtcbcbjdobbgddaaDoorRows
import Derived.WalkKit
import Derived.ProofKit
import Derived.OpenShut
import Derived.JoinedCond
import Derived.ChangeStays
import Derived.DataReads
import Derived.Test.YtcbcbjdobbgddaaDoorQ3

set_option linter.unusedVariables false
set_option linter.unusedSimpArgs false
namespace Go.Proofs.YtcbcbjdobbgddaaDoor.Sym
open Go
open Go.IntKind (i8 i16 i32 i64 u8 u16 u32 u64)
noncomputable section
theorem HD:∀c:Nat,c<256→ir .u8 (c:Int) 128=(c:Int) % 128+128:=by decide +kernel
theorem JH {u:Int}:ir .u8 (IntKind.wrap .u8 u) 128=u % 128+128:=by
 have e:IntKind.wrap .u8 u=((u % 256).toNat:Int):=by simp[IntKind.wrap,IntKind.signed,IntKind.bits];omega
 rw[e,HD _ (by omega)]
 omega
abbrev Ld:Sh:=.dat (.sl 2 (.int .i64)) false false
abbrev dG:Io:=⟨[Ld],[],[],[dO],none⟩
def dp (vs:LI):LI:=vs.flatMap fun v=>am (ai v)
def lW (d:dG.In):Tr dG.Res:=.ite (decide (d.1.1.length≤100000000)) (.ret (.ret ((dp d.1.1,()),()))) .no
abbrev sf:List (Nat×Hc):=[(105,ah ll C9)]
def nm:Hd:=bV sf
abbrev cg:Lo:=⟨⟨(.any::cr (.one (.onl 5 (Ty.int u8) 7)::cr (.one (.hol (.int u64))::.any::.one (.hol (.sl 2 (Ty.int i64)))::.one hI::.one hI::an (di (cr []))))),[]⟩,[(.exit 2,⟨(.any::cr (.one (.onl 5 (Ty.int u8) 7)::cr (.one (.hol (.int u64))::.any::.one (.hol (.sl 2 (Ty.int i64)))::.one hI::.one hI::an (di (cr []))))),[]⟩)]⟩
abbrev cf:Lo:=⟨⟨(.any::cr (.one (.onl 5 (Ty.int u8) 7)::di (.one (.hol (.sl 2 (Ty.int i64)))::.one hI::.one hI::an (di (cr []))))),[]⟩,[(.exit 0,⟨(.any::cr (.one (.onl 5 (Ty.int u8) 7)::.any::an (fH (di [])))),[]⟩)]⟩
def fM (d:cg.st.den):Tr (aA cg.xs):=
 .ite (decide (d.1.1.length≤4294967000)) (.ret (.ret ((),((d.1.1++cY 10 d.1.2.1,(dv 10 d.1.2.1,(d.1.2.2.1,(d.1.2.2.2.1,(d.1.2.2.2.2.1,()))))),())))) .no
def fL (d:cf.st.den):Tr (aA cf.xs):=
 .ite (decide (d.1.1.length=0)&&(decide ((d.1.2.1.length:Int)=d.1.2.2.1)&&(decide (d.1.2.2.2.1=(0:Int))&&decide (d.1.2.1.length≤100000000)))) (.ret (.ret ((),((dp d.1.2.1,()),())))) .no
def fJ:Lp:=cb [(4,bg cf fL),(7,bg cg fM)]
def gY {R:Type}(h5:LI)(h6:Int)(h7:LI)(h8 h9:Int)(next:LI→Int→LI→Int→Int→Option R)(out:aA cg.xs→Option R):Option R:=bif decide (128≤h6) then bif decide (h5.length+[ir u8 (u8.wrap h6) 128].length≤4294967296) then next (h5++[ir u8 (u8.wrap h6) 128]) (dl u64 h6 7) (h7) (h8) (h9) else none else out (.ret ((),((h5,(h6,(h7,(h8,(h9,()))))),())))
def jL (n:Nat)(h5:LI)(h6:Int)(h7:LI)(h8 h9:Int):Option (aA cg.xs):=kC tt nm dr fJ 0 Tryd.f92 (KD Tryd.f92 (dD Tryd.f92 0) 0) n (cg.st.mk' ((h5,(h6,(h7,(h8,(h9,()))))),())) (cx cg.xs)
theorem oa (n:Nat)(h5:LI)(h6:Int)(h7:LI)(h8 h9:Int):jL (n+1) h5 h6 h7 h8 h9=gY h5 h6 h7 h8 h9 (jL n) some:=by kernel_rfl
def kO {R:Type}(h1 h2:LI)(h3 h4:Int)(next:LI→LI→Int→Int→Option R)(out:aA cf.xs→Option R):Option R:=bif decide (h4<h3) then bif decide (0≤h4)&&decide (h4<(↑h2.length:Int)) then (fM ((h1,(ai (h2.getD h4.toNat 0),(h2,(h3,(h4,()))))),())).run fun y=>match y with | .ret ((),((x20,x21,x22,x23,x24,()),()))=>(bif decide (x20.length+[u8.wrap x21].length≤4294967296) then next (x20++[u8.wrap x21]) (x22) (x23) (i64.wrap (x24+1)) else none) else none else out (.ret ((),((h1,()),())))
def jK (n:Nat)(h1 h2:LI)(h3 h4:Int):Option (aA cf.xs):=kC tt nm dr fJ 0 Tryd.f92 (dD Tryd.f92 0) n (cf.st.mk' ((h1,(h2,(h3,(h4,())))),())) (cx cf.xs)
theorem wT (n:Nat)(h1 h2:LI)(h3 h4:Int):jK (n+1) h1 h2 h3 h4=kO h1 h2 h3 h4 (jK n) some:=by kernel_rfl
theorem rf (l:LI)(a i:Int):∀(n k:Nat) (u:Int) (o:LI),0≤u→u<128 ^ n→u<18446744073709551616→n<k→o.length+n≤4294967296→
  jL k o u l a i=some (.ret ((),((o++cY n u,(dv n u,(l,(a,(i,()))))),()))):=by
 intro n
 induction n with
 |zero=>
  intro k u o h0 h1 h2 h3 h4
  obtain ⟨k,rfl⟩:∃m,k=m+1:=⟨k - 1,by omega⟩
  rw[oa]
  unfold gY
  have:¬ 128≤u:=by simp at h1;omega
  simp[this,dv,cY]
 |succ n ih=>
  intro k u o h0 h1 h2 h3 h4
  obtain ⟨k,rfl⟩:∃m,k=m+1:=⟨k - 1,by omega⟩
  rw[oa]
  unfold gY
  have e1:dl .u64 u 7=u / 128:=by
   show IntKind.wrap .u64 (u.fdiv (2 ^ 7))=_
   rw[Int.fdiv_eq_ediv_of_nonneg _ (by decide),bP] <;> omega
  rw[JH,e1]
  by_cases h:127<u
  ·rw[ih k (u / 128) _ (by omega) (by rw[Int.pow_succ] at h1;exact Int.ediv_lt_of_lt_mul (by omega) h1) (by omega) (by omega) (by simp;omega)]
   have h5:o.length+1≤4294967296:=by omega
   have h6:128≤u:=by omega
   simp[h,h5,h6,dv,cY]
  ·have h6:¬ 128≤u:=by omega
   simp[h,h6,dv,cY]
theorem w8:∀(n:Nat) (u:Int),(cY n u).length≤n:=by
 intro n
 induction n with
 |zero=>intro u;simp[cY]
 |succ n ih=>intro u;simp only[cY];split;have:=ih (u / 128);simp;omega;simp
theorem xi {v:Int}(hr:aS .i64 v):0≤ai v∧ai v<18446744073709551616:=by
 have hr:=o5.1 hr
 unfold ai;split <;> omega
theorem wZ (v:Int)(l:LI):dp (v::l)=cY 10 (ai v)++(dv 10 (ai v)::dp l):=by simp[dp,am]
theorem re (vs:LI)(hl:vs.length≤100000000)(hr:∀v∈vs,aS .i64 v):∀(k:Nat) (o:LI) (i:Nat),i≤vs.length→vs.length<i+k→o.length≤11*i→
  jK k o vs vs.length i=some (.ret ((),((o++dp (vs.drop i),()),()))):=by
 intro k
 induction k with
 |zero=>intro o i h1 h2;omega
 |succ k ih=>
  intro o i h1 h2 h3
  rw[wT]
  unfold kO
  by_cases hi:i<vs.length
  ·have hz:=xi (hr vs[i] (List.getElem_mem hi))
   obtain ⟨l1,l2⟩:=uI 10 (ai vs[i]) hz.1 (by have:=hz.2;omega)
   have h4:=w8 10 (ai vs[i])
   have h5:o.length≤4294967000:=by omega
   have h6:o.length+(cY 10 (ai vs[i])).length+1≤4294967296:=by omega
   have e4:i64.wrap ((i:Int)+1)=((i+1:Nat):Int):=by rw[ag] <;> omega
   rw[aa (by simpa using hi),aa (by simpa using hi),zE hi]
   simp only[zG,aR hi,fM,Tr.run_ite,Tr.run_ret,h5,decide_true,if_true,e4]
   rw[aa (by simp;omega),na (n:=dv 10 (ai vs[i])) l1 (by omega),ih _ (i+1) hi (by omega) (by simp;omega)]
   rw[wZ]
   simp
  ·rw[zI (by omega)]
   simp[hi,dp]
def nQ (a0:LI):Option dG.Res:=(fL (([],(a0,((↑a0.length:Int),(0,())))),())).run fun y=>match y with | .ret ((),((x30,()),()))=>(oR ((x30,()),()))
theorem yA (a0:LI):Io.run tt nm dr fJ dG Tryd.f92 ((a0,()),())=nQ a0:=by kernel_rfl
theorem jF:HcsOk prog sf:=.cons Jw .nil
theorem sN:HcOk prog 92 (ah dG lW):=by
 refine cq jF (lp:=fJ) (fn:=Tryd.f92) dG
  (.step (h0:=bg cf fL) (by kernel_rfl) (lI jF (lp:=fJ) (fn:=Tryd.f92)
   (.step (h0:=bg cg fM) (by kernel_rfl) (lI jF (lp:=fJ) (fn:=Tryd.f92) (.done (by kernel_rfl)) cg fM ?_) (.done (by kernel_rfl)))
   cf fL ?_) (.done (by kernel_rfl))) lW ?_
 ·rintro ⟨⟨(o:LI),(u:Int),(l:LI),(a:Int),(i:Int),⟨⟩⟩,⟨⟩⟩ y hw hy
  obtain ⟨hg,hy⟩:=Tr.guard hy
  have hg:o.length≤4294967000:=by simpa using hg
  have hr:=o6.1 (show aS .u64 u from hw.1.2.1)
  refine ⟨11,(rf l a i 10 11 u o hr.1 (by omega) (by omega) (by omega) (by omega)).trans ?_⟩
  rw[← hy];rfl
 ·rintro ⟨⟨(o:LI),(l:LI),(a:Int),(i:Int),⟨⟩⟩,⟨⟩⟩ y hw hy
  obtain ⟨hg,hy⟩:=Tr.guard hy
  simp only[zA,zB] at hg
  obtain ⟨h1,rfl,rfl,h2⟩:=hg
  have h1:o=[]:=List.length_eq_zero_iff.1 h1
  subst h1
  have h2:l.length≤100000000:=h2
  refine ⟨l.length+1,(re l h2 (fun v hv=>hw.1.2.1.2 v hv) (l.length+1) [] 0 (by omega) (by omega) (by simp)).trans ?_⟩
  rw[← hy];rfl
 ·rintro ⟨⟨(l:LI),⟨⟩⟩,⟨⟩⟩ out hw ho
  obtain ⟨hg,ho⟩:=Tr.guard ho
  cases ho
  refine (yA l).trans ?_
  have hg:l.length≤100000000:=by simpa using hg
  unfold nQ fL
  simp[Tr.run_ite,Tr.run_ret,hg]
abbrev iI:Io:=⟨[J6],[],[],[dO],none⟩
def uU (d:iI.In):Tr iI.Res:=.ret (.ret ((am (ai d.1.1),()),()))
abbrev DF:List (Nat×Hc):=[(92,ah dG lW)]
def I5:Hd:=bV DF
def EN:Lp:=cb []
def vh (a0:Int):Option iI.Res:=oR ((dp [a0],()),())
theorem HS (a0:Int):Io.run tt I5 dr EN iI Tryd.f65 ((a0,()),())=vh a0:=by kernel_rfl
theorem yp:HcOk prog 65 (ah iI uU):=by
 refine cq (cs:=DF) (.cons sN .nil) (lp:=EN) (fn:=Tryd.f65) iI (.done (by kernel_rfl)) uU ?_
 rintro ⟨⟨(v:Int),⟨⟩⟩,⟨⟩⟩ out hw ho
 cases ho
 refine (HS v).trans ?_
 unfold vh
 simp[dp]
abbrev sW:Ty:=.prod .bool (.prod bs .unit)
abbrev bm:Ty:=.prod .str (.prod sW .unit)
abbrev yV:Ty:=.sl 141 bm
abbrev KW:Ty:=.prod (.int .i64) (.prod (.int .i32) (.prod sW (.prod sW (.prod yV .unit))))
abbrev pY:Sh:=.dat sW true false
abbrev tD:Sh:=.dat KW true false
abbrev DU:Sh:=.dat yV false false
abbrev ce:Io:=⟨[pY,pY],[],[],[dB],none⟩
def gq (d:ce.In):Tr ce.Res:=.ret (.ret ((decide (d.1.1=d.1.2.1),()),()))
abbrev mj:List (Nat×Hc):=[(18,ah jH y9)]
def tN:Hd:=bV mj
def mB:Lp:=cb []
def jC (a0:Bool)(a1:LI)(a2:Bool)(a3:LI):Option ce.Res:=bif a0 == a2 then oR ((decide (a1=a3),()),()) else oR ((false,()),())
theorem rk (a0:Bool)(a1:LI)(a2:Bool)(a3:LI):Io.run tt tN dr mB ce Tryd.f80 (((a0,a1,()),(a2,a3,()),()),())=jC a0 a1 a2 a3:=by kernel_rfl
theorem mH:HcOk prog 80 (ah ce gq):=by
 refine cq (cs:=mj) (.cons E2 .nil) (lp:=mB) (fn:=Tryd.f80) ce (.done (by kernel_rfl)) gq ?_
 rintro ⟨⟨⟨(n:Bool),(b:LI),⟨⟩⟩,⟨(m:Bool),(c:LI),⟨⟩⟩,⟨⟩⟩,⟨⟩⟩ out hw ho
 cases ho
 refine (rk n b m c).trans ?_
 unfold jC
 show _=oR ((decide (((n,b,()):Bool×LI×Unit)=(m,c,())),()),())
 cases n <;> cases m <;> simp
abbrev q8:Type:=Bool×LI×Unit
abbrev bI:Type:=LI×q8×Unit
abbrev fQ:Type:=Int×Int×q8×q8×List bI×Unit
abbrev cl:Io:=⟨[DU,DU],[],[],[dB],none⟩
def iu (d:cl.In):Tr cl.Res:=.ret (.ret ((decide (d.1.1=d.1.2.1),()),()))
abbrev kG:List (Nat×Hc):=[(80,ah ce gq)]
def kH:Hd:=bV kG
abbrev bn:Lo:=⟨⟨(.one (.hol (.sl 141 (Ty.str.prod ((Ty.bool.prod ((Ty.sl 5 (Ty.int u8)).prod Ty.unit)).prod Ty.unit))))::.one (.hol (.sl 141 (Ty.str.prod ((Ty.bool.prod ((Ty.sl 5 (Ty.int u8)).prod Ty.unit)).prod Ty.unit))))::.any::cr (.one hI::an (an (di [])))),[]⟩,[(.ret,⟨(di (.one hL::.any::an (an (di [])))),[]⟩),(.exit 0,⟨(an (an (fH (cr [])))),[]⟩)]⟩
def cU (d:bn.st.den):Tr (aA bn.xs):=
 .ite (decide (d.1.2.2.1=(0:Int))&&decide (d.1.1.length=d.1.2.1.length)) (.ite (decide (d.1.1=d.1.2.1)) (.ret (.pan (.ret ((),((),()))))) (.ret (.ret ((),((false,()),()))))) .no
def fb:Lp:=cb [(5,bg bn cU)]
def gM {R:Type}(h2 h3:List bm.den)(h4:Int)(next:List bm.den→List bm.den→Int→Option R)(out:aA bn.xs→Option R):Option R:=bif decide (h4<(↑h2.length:Int)) then bif decide (0≤h4)&&decide (h4<(↑h2.length:Int)) then bif decide (0≤h4)&&decide (h4<(↑h3.length:Int)) then bif !decide ((h2.getD h4.toNat ([],(false,[],()),())).1=(h3.getD h4.toNat ([],(false,[],()),())).1) then out (.ret ((),((false,()),()))) else bif decide (0≤h4)&&decide (h4<(↑h2.length:Int)) then bif decide (0≤h4)&&decide (h4<(↑h3.length:Int)) then bif !decide (((h2.getD h4.toNat ([],(false,[],()),())).2.1.1,(h2.getD h4.toNat ([],(false,[],()),())).2.1.2.1,())=((h3.getD h4.toNat ([],(false,[],()),())).2.1.1,(h3.getD h4.toNat ([],(false,[],()),())).2.1.2.1,())) then out (.ret ((),((false,()),()))) else next (h2) (h3) (i64.wrap (h4+1)) else none else none else none else none else out (.pan (.ret ((),((),()))))
def fq (n:Nat)(h2 h3:List bm.den)(h4:Int):Option (aA bn.xs):=kC tt kH dr fb 0 Tryd.f81 (dD Tryd.f81 0) n (bn.st.mk' ((h2,(h3,(h4,()))),())) (cx bn.xs)
theorem oO (n:Nat)(h2 h3:List bm.den)(h4:Int):fq (n+1) h2 h3 h4=gM h2 h3 h4 (fq n) some:=by kernel_rfl
theorem oL (xs ys:List bI)(hl:xs.length=ys.length)(hb:xs.length≤maxLen):∀(k i:Nat),i≤xs.length→xs.length<i+k→
  fq k xs ys (i:Int)=if xs.drop i=ys.drop i then some (.pan (.ret ((),((),())))) else some (.ret ((),((false,()),()))):=by
 intro k
 induction k with
 |zero=>intro i h h';omega
 |succ k ih=>
  intro i hi h
  rw[oO]
  unfold gM
  by_cases h1:i<xs.length
  ·have h2:i<ys.length:=by omega
   rw[bH h1 hb,ih (i+1) h1 (by omega)]
   have e:(xs.drop i=ys.drop i)↔(xs[i]=ys[i]∧xs.drop (i+1)=ys.drop (i+1)):=by rw[zE h1,zE h2,List.cons.injEq]
   have e1:(xs.getD (i:Int).toNat ([],(false,[],()),()):bI)=xs[i]:=aR h1
   have e2:(ys.getD (i:Int).toNat ([],(false,[],()),()):bI)=ys[i]:=aR h2
   rw[← e1,← e2] at e
   generalize (xs.getD (i:Int).toNat ([],(false,[],()),()):bI)=x at *
   generalize (ys.getD (i:Int).toNat ([],(false,[],()),()):bI)=y at *
   obtain ⟨x1,⟨x2,x3,⟨⟩⟩,⟨⟩⟩:=x
   obtain ⟨y1,⟨y2,y3,⟨⟩⟩,⟨⟩⟩:=y
   by_cases he:x1=y1 <;> by_cases he2:x2=y2 <;> by_cases he3:x3=y3 <;> simp[h1,h2,he,he2,he3,e,cond_eq_ite]
  ·rw[zI (by omega),zI (by omega)]
   simp[h1]
def jf (a0 a1:List bm.den):Option cl.Res:=bif (↑a0.length:Int) != (↑a1.length:Int) then oR ((false,()),()) else (cU ((a0,(a1,(0,()))),())).run fun y=>match y with | .ret ((),((x10,()),()))=>(oR ((x10,()),())) | .pan (.ret ((),((),())))=>(oR ((true,()),()))
theorem qD (a0 a1:List bm.den):Io.run tt kH dr fb cl Tryd.f81 ((a0,a1,()),())=jf a0 a1:=by kernel_rfl
theorem ji:HcsOk prog kG:=.cons mH .nil
theorem rh:HcOk prog 81 (ah cl iu):=by
 refine cq ji (lp:=fb) (fn:=Tryd.f81) cl
  (.step (h0:=bg bn cU) (by kernel_rfl) (lI ji (lp:=fb) (fn:=Tryd.f81) (.done (by kernel_rfl)) bn cU ?_) (.done (by kernel_rfl))) iu ?_
 ·rintro ⟨⟨(xs:List bI),(ys:List bI),(i:Int),⟨⟩⟩,⟨⟩⟩ y hw hy
  obtain ⟨hg,hy⟩:=Tr.guard hy
  simp only[zA,zB] at hg
  obtain ⟨hi,hl⟩:=hg
  have hi:i=0:=hi
  have hl:xs.length=ys.length:=hl
  subst hi
  refine ⟨xs.length+1,(oL xs ys hl hw.1.1.1 _ 0 (by omega) (by omega)).trans ?_⟩
  rw[← hy]
  simp only[Tr.val_ite,zB,Tr.val_ret,List.drop_zero]
 ·rintro ⟨⟨(xs:List bI),(ys:List bI),⟨⟩⟩,⟨⟩⟩ out hw ho
  cases ho
  refine (qD xs ys).trans ?_
  unfold jf cU
  show _=oR ((decide (xs=ys),()),())
  by_cases hl:xs.length=ys.length
  ·by_cases he:xs=ys
   ·subst he;simp[Tr.run]
   ·simp[Tr.run,hl,he]
  ·have:xs≠ys:=fun e=>hl (by rw[e])
   have h2:(xs.length:Int)≠ys.length:=by omega
   simp[this,h2,cond_eq_ite]
def af (b:LI)(p:Int):Int×Int×Int:=(IntKind.wrap .i32 (ao (ac 5 15 b p).1),(ac 5 15 b p).2.1,(ac 5 15 b p).2.2)
def ae (b:LI)(p least:Int):q8×Int×Int:=
 if (af b p).2.2≠0 then ((false,[],()),0,(af b p).2.2)
 else if (af b p).1<least then ((false,[],()),0,5)
 else if (af b p).1<0 then ((true,[],()),(af b p).2.1,0)
 else if (b.length:Int) - (af b p).2.1<(af b p).1 then ((false,[],()),0,1)
 else ((false,(b.drop (af b p).2.1.toNat).take (af b p).1.toNat,()),(af b p).2.1+(af b p).1,0)
def aZ (b:LI):Nat→List bI→Int→List bI×Int×Int
 |0,out,p=>(out,p,0)
 |n+1,out,p=>
  if (ae b p 0).2.2≠0 then ([],0,(ae b p 0).2.2)
  else if (b7 (ae b p 0).1.2.1).2=false then ([],0,6)
  else if (ae b (ae b p 0).2.1 (-1)).2.2≠0 then ([],0,(ae b (ae b p 0).2.1 (-1)).2.2)
  else aZ b n (out++[((ae b p 0).1.2.1,(ae b (ae b p 0).2.1 (-1)).1,())]) (ae b (ae b p 0).2.1 (-1)).2.1
def aO (b:LI)(p:Int):List bI×Int×Int:=
 if (af b p).2.2≠0 then ([],0,(af b p).2.2)
 else if (af b p).1<0 then ([],0,5)
 else if 16<(af b p).1 then ([],0,9)
 else aZ b (af b p).1.toNat [] (af b p).2.1
def bj:fQ:=(0,0,(false,[],()),(false,[],()),[],())
def bD (b:LI):fQ×Int:=
 if b.length=0 then (bj,1)
 else if b.getD 0 0≠0 then (bj,71)
 else if (ac 10 1 b 1).2.2≠0 then (bj,(ac 10 1 b 1).2.2)
 else if (af b (ac 10 1 b 1).2.1).2.2≠0 then (bj,(af b (ac 10 1 b 1).2.1).2.2)
 else if (af b (ac 10 1 b 1).2.1).1<0 then (bj,72)
 else if (ae b (af b (ac 10 1 b 1).2.1).2.1 (-1)).2.2≠0 then (bj,(ae b (af b (ac 10 1 b 1).2.1).2.1 (-1)).2.2)
 else if (ae b (ae b (af b (ac 10 1 b 1).2.1).2.1 (-1)).2.1 (-1)).2.2≠0 then (bj,(ae b (ae b (af b (ac 10 1 b 1).2.1).2.1 (-1)).2.1 (-1)).2.2)
 else if (aO b (ae b (ae b (af b (ac 10 1 b 1).2.1).2.1 (-1)).2.1 (-1)).2.1).2.2≠0 then (bj,(aO b (ae b (ae b (af b (ac 10 1 b 1).2.1).2.1 (-1)).2.1 (-1)).2.1).2.2)
 else if (aO b (ae b (ae b (af b (ac 10 1 b 1).2.1).2.1 (-1)).2.1 (-1)).2.1).2.1<(b.length:Int) then (bj,2)
 else ((ao (ac 10 1 b 1).1,(af b (ac 10 1 b 1).2.1).1,(ae b (af b (ac 10 1 b 1).2.1).2.1 (-1)).1,(ae b (ae b (af b (ac 10 1 b 1).2.1).2.1 (-1)).2.1 (-1)).1,(aO b (ae b (ae b (af b (ac 10 1 b 1).2.1).2.1 (-1)).2.1 (-1)).2.1).1,()),0)
def ak (b:LI)(p:Int):fQ×Int×Int:=
 if (af b p).2.2≠0 then (bj,0,(af b p).2.2)
 else if (af b p).1<0 then (bj,0,5)
 else if 16384<(af b p).1 then (bj,0,4)
 else if (b.length:Int) - (af b p).2.1<(af b p).1 then (bj,0,1)
 else if (bD ((b.drop (af b p).2.1.toNat).take (af b p).1.toNat)).2≠0 then (bj,0,(bD ((b.drop (af b p).2.1.toNat).take (af b p).1.toNat)).2)
 else ((bD ((b.drop (af b p).2.1.toNat).take (af b p).1.toNat)).1,(af b p).2.1+(af b p).1,0)
theorem Tr.run_of_val {α R:Type}:∀{t:Tr α} {K:α→Option R} {a:α},t.val=some a→t.run K=K a
 |.ret a,K,b,h=>by cases h;rfl
 |.no,K,b,h=>by cases h
 |.ite c t e,K,b,h=>by
  cases c with
  |true=>exact Tr.run_of_val (t:=t) h
  |false=>exact Tr.run_of_val (t:=e) h
theorem mP {m:Nat}{t:Int}{b:LI}{p:Int}(h:(ac m t b p).2.2=0):0≤p∧p<(ac m t b p).2.1∧(ac m t b p).2.1≤b.length:=by
 unfold ac at h ⊢
 split
 ·rename_i h1
  rw[if_pos h1] at h
  cases h
 ·rename_i h1
  rw[if_neg h1] at h
  split
  ·rename_i h2
   have h3:=uJ m t (b.drop p.toNat) 0 h2
   simp only[List.length_drop] at h3
   generalize (cT m t (b.drop p.toNat) 0).1=k at h3 ⊢
   simp only
   omega
  ·rename_i h2
   rw[if_neg h2] at h
   exact absurd h h2
theorem ey {b:LI}{p:Int}(h:(af b p).2.2=0):0≤p∧p<(af b p).2.1∧(af b p).2.1≤b.length:=mP h
theorem fo {b:LI}{p:Int} : -2147483648≤(af b p).1∧(af b p).1≤2147483647:=by
 have:=bL .i32 (ao (ac 5 15 b p).1)
 simp[aS,IntKind.min,IntKind.max,IntKind.signed,IntKind.bits] at this
 exact this
abbrev JT:Ty:=.prod (.int .i64) .unit
abbrev nA:Option (Nat×Ty):=some (108,JT)
abbrev J7:List Sh:=[dL,dI]
abbrev dF:Io:=⟨[.ptr 0 0],[J7],[],[dI],nA⟩
def jt (d:dF.In):Tr dF.Res:=
 .ite (decide ((af d.2.1.1 d.2.1.2.1).2.2=0)) (.ret (.ret (((af d.2.1.1 d.2.1.2.1).1,()),((d.2.1.1,((af d.2.1.1 d.2.1.2.1).2.1,())),())))) (.ret (.pan ((af d.2.1.1 d.2.1.2.1).2.2,())))
abbrev se:List (Nat×Hc):=[(56,ah fj oP)]
def BX:Hd:=bV se
def sF:Lp:=cb []
def nP (a0:LI)(a1:Int):Option dF.Res:=bif (ac 5 15 a0 a1).2.2 != 0 then some (Out.pan ((ac 5 15 a0 a1).2.2,())) else oR ((i64.wrap (i32.wrap (ao (ac 5 15 a0 a1).1)),()),(a0,(ac 5 15 a0 a1).2.1,()),())
theorem yz (a0:LI)(a1:Int):Io.run tt BX dr sF dF Tryd.f76 (((),()),(a0,a1,()),())=nP a0 a1:=by kernel_rfl
theorem sM:HcOk prog 76 (ah dF jt):=by
 refine cq (cs:=se) (.cons wF .nil) (lp:=sF) (fn:=Tryd.f76) dF (.done (by kernel_rfl)) jt ?_
 rintro ⟨⟨⟨⟩,⟨⟩⟩,⟨⟨(b:LI),(p:Int),⟨⟩⟩,⟨⟩⟩⟩ out hw ho
 refine (yz b p).trans ?_
 rw[← ho]
 have hr:=@fo b p
 unfold nP jt
 change (bif (af b p).2.2 != 0 then some (Out.pan ((af b p).2.2,())) else oR ((i64.wrap (af b p).1,()),(b,(af b p).2.1,()),()))=_
 rw[ag (n:=(af b p).1) (by omega) (by omega)]
 simp only[Tr.val_ite,Tr.val_ret,zB]
 by_cases h:(af b p).2.2=0
 ·rw[ab (by simpa using h),if_pos h]
 ·rw[aa (by simpa using h),if_neg h]
abbrev fD:Io:=⟨[.ptr 0 0,dI],[J7],[],[dO],nA⟩
def pA (d:fD.In):Tr fD.Res:=
 .ite (decide ((0:Int)≤d.1.2.1)&&(decide (d.1.2.1≤(4294967296:Int))&&(decide ((0:Int)≤d.2.1.2.1)&&decide (d.2.1.2.1≤(d.2.1.1.length:Int)))))
  (.ite (decide ((d.2.1.1.length:Int) - d.2.1.2.1<d.1.2.1)) (.ret (.pan (1,()))) (.ret (.ret (((d.2.1.1.drop d.2.1.2.1.toNat).take d.1.2.1.toNat,()),((d.2.1.1,((d.2.1.2.1:Int)+d.1.2.1,())),()))))) .no
abbrev zR:List (Nat×Hc):=[(44,ah du lV)]
def GT:Hd:=bV zR
def AJ:Lp:=cb []
def rJ (a0:Int)(a1:LI)(a2:Int):Option fD.Res:=bif decide (i64.wrap ((↑a1.length:Int) - a2)<a0) then some (Out.pan (1,())) else bif decide (0≤i64.wrap (i64.wrap (a2+a0) - a0))&&(decide (i64.wrap (i64.wrap (a2+a0) - a0)≤i64.wrap (a2+a0))&&decide (i64.wrap (a2+a0)≤(↑a1.length:Int))) then bif decide ((List.drop (i64.wrap (i64.wrap (a2+a0) - a0)).toNat (List.take (i64.wrap (a2+a0)).toNat a1)).length≤4294967296) then oR ((List.drop (i64.wrap (i64.wrap (a2+a0) - a0)).toNat (List.take (i64.wrap (a2+a0)).toNat a1),()),(a1,i64.wrap (a2+a0),()),()) else none else none
theorem Fz (a0:Int)(a1:LI)(a2:Int):Io.run tt GT dr AJ fD Tryd.f75 (((),a0,()),(a1,a2,()),())=rJ a0 a1 a2:=by kernel_rfl
theorem ur:HcOk prog 75 (ah fD pA):=by
 refine cq (cs:=zR) (.cons qn .nil) (lp:=AJ) (fn:=Tryd.f75) fD (.done (by kernel_rfl)) pA ?_
 rintro ⟨⟨⟨⟩,(n:Int),⟨⟩⟩,⟨⟨(b:LI),(p:Int),⟨⟩⟩,⟨⟩⟩⟩ out hw ho
 obtain ⟨hg,ho⟩:=Tr.guard ho
 simp only[zA,zB] at hg
 have h0:0≤n:=hg.1
 have h1:n≤4294967296:=hg.2.1
 have h2:0≤p:=hg.2.2.1
 have h3:p≤b.length:=hg.2.2.2
 refine (Fz n b p).trans ?_
 rw[← ho]
 have hb:b.length≤maxLen:=hw.2.1.1.1
 rw[cc] at hb
 unfold rJ
 rw[ag (n:=(b.length:Int) - p) (by omega) (by omega)]
 simp only[Tr.val_ite,Tr.val_ret,zB]
 by_cases h:(b.length:Int) - p<n
 ·rw[aa (by simpa using h),if_pos h]
 ·rw[ab (by simpa using h),if_neg h,ag (n:=p+n) (by omega) (by omega),show p+n - n=p by omega,ag (n:=p) (by omega) (by omega)]
  rw[aa (by simp;omega),List.drop_take,show (p+n).toNat - p.toNat=n.toNat by omega,aa (by simp;omega)]
abbrev dT:Io:=⟨[.ptr 0 0,dI],[J7],[],[dI],nA⟩
def kd (d:dT.In):Tr dT.Res:=
 .ite (decide ((af d.2.1.1 d.2.1.2.1).2.2=0)) (.ite (decide ((af d.2.1.1 d.2.1.2.1).1<d.1.2.1)) (.ret (.pan (5,()))) (.ret (.ret (((af d.2.1.1 d.2.1.2.1).1,()),((d.2.1.1,((af d.2.1.1 d.2.1.2.1).2.1,())),())))))
  (.ret (.pan ((af d.2.1.1 d.2.1.2.1).2.2,())))
abbrev vB:List (Nat×Hc):=[(76,ah dF jt)]
def Ed:Hd:=bV vB
def wq:Lp:=cb []
def pK (a0:Int)(a1:LI)(a2:Int):Option dT.Res:=bif decide ((ac 5 15 a1 a2).2.2=0) then bif decide (i32.wrap (ao (ac 5 15 a1 a2).1)<a0) then some (Out.pan (5,())) else oR ((i32.wrap (ao (ac 5 15 a1 a2).1),()),(a1,(ac 5 15 a1 a2).2.1,()),()) else some (Out.pan ((ac 5 15 a1 a2).2.2,()))
theorem Cm (a0:Int)(a1:LI)(a2:Int):Io.run tt Ed dr wq dT Tryd.f78 (((),a0,()),(a1,a2,()),())=pK a0 a1 a2:=by kernel_rfl
theorem qm:HcOk prog 78 (ah dT kd):=by
 refine cq (cs:=vB) (.cons sM .nil) (lp:=wq) (fn:=Tryd.f78) dT (.done (by kernel_rfl)) kd ?_
 rintro ⟨⟨⟨⟩,(l:Int),⟨⟩⟩,⟨⟨(b:LI),(p:Int),⟨⟩⟩,⟨⟩⟩⟩ out hw ho
 refine (Cm l b p).trans ?_
 rw[← ho]
 unfold pK kd
 change (bif decide ((af b p).2.2=0) then bif decide ((af b p).1<l) then some (Out.pan (5,())) else oR (((af b p).1,()),(b,(af b p).2.1,()),()) else some (Out.pan ((af b p).2.2,())))=_
 simp only[Tr.val_ite,Tr.val_ret,cond_eq_ite]
abbrev gx:Io:=⟨[.ptr 0 0],[J7],[],[pY],nA⟩
def pz (d:gx.In):Tr gx.Res:=
 .ite (decide ((ae d.2.1.1 d.2.1.2.1 (-1)).2.2=0)) (.ret (.ret (((ae d.2.1.1 d.2.1.2.1 (-1)).1,()),((d.2.1.1,((ae d.2.1.1 d.2.1.2.1 (-1)).2.1,())),())))) (.ret (.pan ((ae d.2.1.1 d.2.1.2.1 (-1)).2.2,())))
abbrev zQ:List (Nat×Hc):=[(78,ah dT kd),(75,ah fD pA)]
def GS:Hd:=bV zQ
def AI:Lp:=cb []
def rH (a0:LI)(a1:Int):Option gx.Res:=bif decide ((ac 5 15 a0 a1).2.2=0) then bif decide (i32.wrap (ao (ac 5 15 a0 a1).1) < -1) then some (Out.pan (5,())) else bif decide (i32.wrap (ao (ac 5 15 a0 a1).1)<0) then oR (((true,[],()),()),(a0,(ac 5 15 a0 a1).2.1,()),()) else bif decide (0≤i32.wrap (ao (ac 5 15 a0 a1).1))&&(decide (i32.wrap (ao (ac 5 15 a0 a1).1)≤4294967296)&&(decide (0≤(ac 5 15 a0 a1).2.1)&&decide ((ac 5 15 a0 a1).2.1≤(↑a0.length:Int)))) then bif decide ((↑a0.length:Int) - (ac 5 15 a0 a1).2.1<i32.wrap (ao (ac 5 15 a0 a1).1)) then some (Out.pan (1,())) else oR (((false,List.take (i32.wrap (ao (ac 5 15 a0 a1).1)).toNat (List.drop (ac 5 15 a0 a1).2.1.toNat a0),()),()),(a0,(ac 5 15 a0 a1).2.1+i32.wrap (ao (ac 5 15 a0 a1).1),()),()) else none else some (Out.pan ((ac 5 15 a0 a1).2.2,()))
theorem Fx (a0:LI)(a1:Int):Io.run tt GS dr AI gx Tryd.f77 (((),()),(a0,a1,()),())=rH a0 a1:=by kernel_rfl
theorem Bd:HcOk prog 77 (ah gx pz):=by
 refine cq (cs:=zQ) (.cons qm (.cons ur .nil)) (lp:=AI) (fn:=Tryd.f77) gx (.done (by kernel_rfl)) pz ?_
 rintro ⟨⟨⟨⟩,⟨⟩⟩,⟨⟨(b:LI),(p:Int),⟨⟩⟩,⟨⟩⟩⟩ out hw ho
 refine (Fx b p).trans ?_
 rw[← ho]
 have hr:=@fo b p
 unfold rH pz
 simp only[Tr.val_ite,Tr.val_ret,zB]
 change (bif decide ((af b p).2.2=0) then bif decide ((af b p).1 < -1) then some (Out.pan (5,())) else bif decide ((af b p).1<0) then oR (((true,[],()),()),(b,(af b p).2.1,()),()) else
  bif decide (0≤(af b p).1)&&(decide ((af b p).1≤4294967296)&&(decide (0≤(af b p).2.1)&&decide ((af b p).2.1≤(b.length:Int)))) then bif decide ((b.length:Int) - (af b p).2.1<(af b p).1) then some (Out.pan (1,())) else
   oR (((false,List.take (af b p).1.toNat (List.drop (af b p).2.1.toNat b),()),()),(b,(af b p).2.1+(af b p).1,()),()) else none else some (Out.pan ((af b p).2.2,())))=_
 by_cases h0:(af b p).2.2=0
 rotate_left
 ·have e:ae b p (-1)=((false,[],()),0,(af b p).2.2):=by unfold ae;rw[if_pos h0]
  rw[e,ab (by simpa using h0),if_neg h0]
 have hk:=ey h0
 rw[aa (by simpa using h0)]
 by_cases h1:(af b p).1 < -1
 ·have e:ae b p (-1)=((false,[],()),0,5):=by unfold ae;rw[if_neg (by simpa using h0),if_pos h1]
  rw[e,aa (by simpa using h1)]
  rfl
 rw[ab (by simpa using h1)]
 by_cases h2:(af b p).1<0
 ·have e:ae b p (-1)=((true,[],()),(af b p).2.1,0):=by unfold ae;rw[if_neg (by simpa using h0),if_neg h1,if_pos h2]
  rw[e,aa (by simpa using h2)]
  rfl
 rw[ab (by simpa using h2),aa (by simp;omega)]
 by_cases h3:(b.length:Int) - (af b p).2.1<(af b p).1
 ·have e:ae b p (-1)=((false,[],()),0,1):=by unfold ae;rw[if_neg (by simpa using h0),if_neg h1,if_neg h2,if_pos h3]
  rw[e,aa (by simpa using h3)]
  rfl
 ·have e:ae b p (-1)=((false,(b.drop (af b p).2.1.toNat).take (af b p).1.toNat,()),(af b p).2.1+(af b p).1,0):=by unfold ae;rw[if_neg (by simpa using h0),if_neg h1,if_neg h2,if_neg h3]
  rw[e,ab (by simpa using h3)]
  rfl
def aI (b:LI)(p:Int):bI×Int×Int:=
 if (ae b p 0).2.2≠0 then (([],(false,[],()),()),0,(ae b p 0).2.2)
 else if (b7 (ae b p 0).1.2.1).2=false then (([],(false,[],()),()),0,6)
 else (((ae b p 0).1.2.1,(ae b (ae b p 0).2.1 (-1)).1,()),(ae b (ae b p 0).2.1 (-1)).2.1,(ae b (ae b p 0).2.1 (-1)).2.2)
abbrev Kk:Sh:=.dat bm true false
abbrev eN:Io:=⟨[.ptr 0 0],[J7],[],[Kk],nA⟩
def lU (d:eN.In):Tr eN.Res:=
 .ite (decide ((aI d.2.1.1 d.2.1.2.1).2.2=0)) (.ret (.ret (((aI d.2.1.1 d.2.1.2.1).1,()),((d.2.1.1,((aI d.2.1.1 d.2.1.2.1).2.1,())),())))) (.ret (.pan ((aI d.2.1.1 d.2.1.2.1).2.2,())))
abbrev sd:List (Nat×Hc):=[(78,ah dT kd),(75,ah fD pA),(96,ah jJ zf),(77,ah gx pz)]
def BW:Hd:=bV sd
def sE:Lp:=cb []
def nO (a0:LI)(a1:Int):Option eN.Res:=bif decide ((ac 5 15 a0 a1).2.2=0) then bif decide (i32.wrap (ao (ac 5 15 a0 a1).1)<0) then some (Out.pan (5,())) else bif decide (0≤i32.wrap (ao (ac 5 15 a0 a1).1))&&(decide (i32.wrap (ao (ac 5 15 a0 a1).1)≤4294967296)&&(decide (0≤(ac 5 15 a0 a1).2.1)&&decide ((ac 5 15 a0 a1).2.1≤(↑a0.length:Int)))) then bif decide ((↑a0.length:Int) - (ac 5 15 a0 a1).2.1<i32.wrap (ao (ac 5 15 a0 a1).1)) then some (Out.pan (1,())) else bif !(b7 (List.take (i32.wrap (ao (ac 5 15 a0 a1).1)).toNat (List.drop (ac 5 15 a0 a1).2.1.toNat a0))).2 then some (Out.pan (6,())) else bif decide ((ae a0 ((ac 5 15 a0 a1).2.1+i32.wrap (ao (ac 5 15 a0 a1).1)) (-1)).2.2=0) then oR (((List.take (i32.wrap (ao (ac 5 15 a0 a1).1)).toNat (List.drop (ac 5 15 a0 a1).2.1.toNat a0),((ae a0 ((ac 5 15 a0 a1).2.1+i32.wrap (ao (ac 5 15 a0 a1).1)) (-1)).1.1,(ae a0 ((ac 5 15 a0 a1).2.1+i32.wrap (ao (ac 5 15 a0 a1).1)) (-1)).1.2.1,()),()),()),(a0,(ae a0 ((ac 5 15 a0 a1).2.1+i32.wrap (ao (ac 5 15 a0 a1).1)) (-1)).2.1,()),()) else some (Out.pan ((ae a0 ((ac 5 15 a0 a1).2.1+i32.wrap (ao (ac 5 15 a0 a1).1)) (-1)).2.2,())) else none else some (Out.pan ((ac 5 15 a0 a1).2.2,()))
theorem yy (a0:LI)(a1:Int):Io.run tt BW dr sE eN Tryd.f79 (((),()),(a0,a1,()),())=nO a0 a1:=by kernel_rfl
theorem Ce:HcOk prog 79 (ah eN lU):=by
 refine cq (cs:=sd) (.cons qm (.cons ur (.cons Fe (.cons Bd .nil)))) (lp:=sE) (fn:=Tryd.f79) eN (.done (by kernel_rfl)) lU ?_
 rintro ⟨⟨⟨⟩,⟨⟩⟩,⟨⟨(b:LI),(p:Int),⟨⟩⟩,⟨⟩⟩⟩ out hw ho
 refine (yy b p).trans ?_
 rw[← ho]
 have hr:=@fo b p
 unfold nO lU
 simp only[Tr.val_ite,Tr.val_ret,zB]
 have hn:i32.wrap (ao (ac 5 15 b p).1)=(af b p).1:=rfl
 have hq:(ac 5 15 b p).2.1=(af b p).2.1:=rfl
 have he:(ac 5 15 b p).2.2=(af b p).2.2:=rfl
 rw[hn,hq,he]
 by_cases h0:(af b p).2.2=0
 rotate_left
 ·have e0:ae b p 0=((false,[],()),0,(af b p).2.2):=by unfold ae;rw[if_pos h0]
  have e:aI b p=(([],(false,[],()),()),0,(af b p).2.2):=by unfold aI;rw[e0,if_pos h0]
  rw[e,ab (by simpa using h0),if_neg h0]
 have hk:=ey h0
 rw[aa (by simpa using h0)]
 by_cases h2:(af b p).1<0
 ·have e0:ae b p 0=((false,[],()),0,5):=by unfold ae;rw[if_neg (by simpa using h0),if_pos h2]
  have e:aI b p=(([],(false,[],()),()),0,5):=by unfold aI;rw[e0];rfl
  rw[e,aa (by simpa using h2)]
  rfl
 rw[ab (by simpa using h2),aa (by simp;omega)]
 by_cases h3:(b.length:Int) - (af b p).2.1<(af b p).1
 ·have e0:ae b p 0=((false,[],()),0,1):=by unfold ae;rw[if_neg (by simpa using h0),if_neg h2,if_neg h2,if_pos h3]
  have e:aI b p=(([],(false,[],()),()),0,1):=by unfold aI;rw[e0];rfl
  rw[e,aa (by simpa using h3)]
  rfl
 have e0:ae b p 0=((false,(b.drop (af b p).2.1.toNat).take (af b p).1.toNat,()),(af b p).2.1+(af b p).1,0):=by unfold ae;rw[if_neg (by simpa using h0),if_neg h2,if_neg h2,if_neg h3]
 rw[ab (by simpa using h3)]
 by_cases h4:(b7 ((b.drop (af b p).2.1.toNat).take (af b p).1.toNat)).2=false
 ·have e:aI b p=(([],(false,[],()),()),0,6):=by
   unfold aI
   rw[e0,if_neg (by simp),if_pos h4]
  rw[e,h4]
  rfl
 have e:aI b p=(((b.drop (af b p).2.1.toNat).take (af b p).1.toNat,(ae b ((af b p).2.1+(af b p).1) (-1)).1,()),(ae b ((af b p).2.1+(af b p).1) (-1)).2.1,(ae b ((af b p).2.1+(af b p).1) (-1)).2.2):=by
  unfold aI
  rw[e0,if_neg (by simp),if_neg h4]
 rw[e,ab (by simpa using h4)]
 simp only[cond_eq_ite,zB]
abbrev li:Io:=⟨[.ptr 0 0],[J7],[],[tD],nA⟩
def xf (b:LI):Int:=(aO b (ae b (ae b (af b (ac 10 1 b 1).2.1).2.1 (-1)).2.1 (-1)).2.1).2.1
def C6 (d:li.In):Tr li.Res:=
 .ite (decide (d.2.1.2.1=(0:Int))) (.ite (decide ((bD d.2.1.1).2=0)) (.ret (.ret (((bD d.2.1.1).1,()),((d.2.1.1,(xf d.2.1.1,())),())))) (.ret (.pan ((bD d.2.1.1).2,())))) .no
abbrev tB:List (Nat×Hc):=[(76,ah dF jt),(78,ah dT kd),(75,ah fD pA),(71,ah jI ze),(77,ah gx pz),(79,ah eN lU)]
def Ee:Hd:=bV tB
abbrev dc:Lo:=⟨⟨(.one (.ptr 0 0)::.any::.one (.ptr 3 0)::.one (.ptr 4 0)::.any::an (an (an (fH (.one hI::.one hI::an (di (cr []))))))),[some [.hol (.sl 5 (Ty.int u8)),hI],none,none,some [hI,hJ,hL,.onl 5 (Ty.int u8) 1544,hL,.onl 5 (Ty.int u8) 1548,.onl 141 (Ty.str.prod ((Ty.bool.prod ((Ty.sl 5 (Ty.int u8)).prod Ty.unit)).prod Ty.unit)) 1550],some [hI,hJ,hL,.hol (.sl 5 (Ty.int u8)),hL,.hol (.sl 5 (Ty.int u8)),.onl 141 (Ty.str.prod ((Ty.bool.prod ((Ty.sl 5 (Ty.int u8)).prod Ty.unit)).prod Ty.unit)) 2062]]⟩,[(.panic 108 ((Ty.int i64).prod Ty.unit),⟨(.any::an (an (an (an (an (di [])))))),[]⟩),(.exit 0,⟨(.one (.ptr 0 0)::.any::.one (.ptr 3 0)::.one (.ptr 4 0)::.any::an (an (an (an (an []))))),[some [.hol (.sl 5 (Ty.int u8)),hI],none,none,some [hI,hJ,hL,.onl 5 (Ty.int u8) 1544,hL,.onl 5 (Ty.int u8) 1548,.onl 141 (Ty.str.prod ((Ty.bool.prod ((Ty.sl 5 (Ty.int u8)).prod Ty.unit)).prod Ty.unit)) 1550],some [hI,hJ,hL,.hol (.sl 5 (Ty.int u8)),hL,.hol (.sl 5 (Ty.int u8)),.onl 141 (Ty.str.prod ((Ty.bool.prod ((Ty.sl 5 (Ty.int u8)).prod Ty.unit)).prod Ty.unit)) 2062]]⟩)]⟩
def ju (d:dc.st.den):Tr (aA dc.xs):=
 .ite (decide (d.1.2.1=(0:Int))&&(decide ((0:Int)≤d.1.1)&&(decide (d.1.1≤(16:Int))&&decide (d.2.2.2.1.2.2.2.2.2.2.1=([]:List bI)))))
  (.ite (decide ((aZ d.2.1.1 (d.1.1:Int).toNat [] d.2.1.2.1).2.2=(0:Int)))
   (.ret (.pan (.ret ((),((),((d.2.1.1,((aZ d.2.1.1 (d.1.1:Int).toNat [] d.2.1.2.1).2.1,())),(d.2.2.1,((d.2.2.2.1.1,(d.2.2.2.1.2.1,(d.2.2.2.1.2.2.1,(d.2.2.2.1.2.2.2.1,(d.2.2.2.1.2.2.2.2.1,(d.2.2.2.1.2.2.2.2.2.1,((aZ d.2.1.1 (d.1.1:Int).toNat [] d.2.1.2.1).1,()))))))),()))))))))
   (.ret (.ret (((aZ d.2.1.1 (d.1.1:Int).toNat [] d.2.1.2.1).2.2,()),((),()))))) .no
def ug:Lp:=cb [(19,bg dc ju)]
def ov {R:Type}(h2 h3:Int)(h4:LI)(h5 h6 h7:Int)(h8:Bool)(h9:LI)(h10:Bool)(h11:LI)(h12:List (Ty.str.prod ((Ty.bool.prod ((Ty.sl 5 (Ty.int u8)).prod Ty.unit)).prod Ty.unit)).den)(h13 h14:Int)(h15:Bool)(h16:LI)(h17:Bool)(h18:LI)(h19:List (Ty.str.prod ((Ty.bool.prod ((Ty.sl 5 (Ty.int u8)).prod Ty.unit)).prod Ty.unit)).den)(next:Int→Int→LI→Int→Int→Int→Bool→LI→Bool→LI→List (Ty.str.prod ((Ty.bool.prod ((Ty.sl 5 (Ty.int u8)).prod Ty.unit)).prod Ty.unit)).den→Int→Int→Bool→LI→Bool→LI→List (Ty.str.prod ((Ty.bool.prod ((Ty.sl 5 (Ty.int u8)).prod Ty.unit)).prod Ty.unit)).den→Option R)(out:aA dc.xs→Option R):Option R:=bif decide (h3<h2) then bif decide ((aI h4 h5).2.2=0) then bif !([[Sh.dat (Ty.sl 5 (Ty.int u8)) false false,Sh.dat (Ty.int i64) false false]].length+3 == 1+69 || false)&&true&&decide (h19.length+[((aI h4 h5).1.1,((aI h4 h5).1.2.1.1,(aI h4 h5).1.2.1.2.1,()),())].length≤4294967296) then next (h2) (i64.wrap (h3+1)) (h4) ((aI h4 h5).2.1) (h6) (h7) (h8) (h9) (h10) (h11) (h12) (h13) (h14) (h15) (h16) (h17) (h18) (h19++[((aI h4 h5).1.1,((aI h4 h5).1.2.1.1,(aI h4 h5).1.2.1.2.1,()),())]) else none else out (.ret (((aI h4 h5).2.2,()),((),()))) else out (.pan (.ret ((),((),((h4,(h5,())),((h6,(h7,(h8,(h9,(h10,(h11,(h12,()))))))),((h13,(h14,(h15,(h16,(h17,(h18,(h19,()))))))),())))))))
def nv (n:Nat)(h2 h3:Int)(h4:LI)(h5 h6 h7:Int)(h8:Bool)(h9:LI)(h10:Bool)(h11:LI)(h12:List (Ty.str.prod ((Ty.bool.prod ((Ty.sl 5 (Ty.int u8)).prod Ty.unit)).prod Ty.unit)).den)(h13 h14:Int)(h15:Bool)(h16:LI)(h17:Bool)(h18:LI)(h19:List (Ty.str.prod ((Ty.bool.prod ((Ty.sl 5 (Ty.int u8)).prod Ty.unit)).prod Ty.unit)).den):Option (aA dc.xs):=kC tt Ee dr ug 1 Tryd.f57 (dD Tryd.f57 0) n (dc.st.mk' ((h2,(h3,())),((h4,(h5,())),((h6,(h7,(h8,(h9,(h10,(h11,(h12,()))))))),((h13,(h14,(h15,(h16,(h17,(h18,(h19,()))))))),()))))) (cx dc.xs)
theorem CE (n:Nat)(h2 h3:Int)(h4:LI)(h5 h6 h7:Int)(h8:Bool)(h9:LI)(h10:Bool)(h11:LI)(h12:List (Ty.str.prod ((Ty.bool.prod ((Ty.sl 5 (Ty.int u8)).prod Ty.unit)).prod Ty.unit)).den)(h13 h14:Int)(h15:Bool)(h16:LI)(h17:Bool)(h18:LI)(h19:List (Ty.str.prod ((Ty.bool.prod ((Ty.sl 5 (Ty.int u8)).prod Ty.unit)).prod Ty.unit)).den):nv (n+1) h2 h3 h4 h5 h6 h7 h8 h9 h10 h11 h12 h13 h14 h15 h16 h17 h18 h19=ov h2 h3 h4 h5 h6 h7 h8 h9 h10 h11 h12 h13 h14 h15 h16 h17 h18 h19 (nv n) some:=by kernel_rfl
theorem gV (b:LI)(m:Nat)(o:List bI)(p:Int):aZ b (m+1) o p=if (aI b p).2.2≠0 then ([],0,(aI b p).2.2) else aZ b m (o++[(aI b p).1]) (aI b p).2.1:=by
 rw[aZ]
 by_cases a1:(ae b p 0).2.2=0
 ·rw[if_neg (by simpa using a1)]
  by_cases a2:(b7 (ae b p 0).1.2.1).2=false
  ·have e:aI b p=(([],(false,[],()),()),0,6):=by unfold aI;rw[if_neg (by simpa using a1),if_pos a2]
   rw[if_pos a2,e]
   rfl
  ·have e:aI b p=(((ae b p 0).1.2.1,(ae b (ae b p 0).2.1 (-1)).1,()),(ae b (ae b p 0).2.1 (-1)).2.1,(ae b (ae b p 0).2.1 (-1)).2.2):=by unfold aI;rw[if_neg (by simpa using a1),if_neg a2]
   rw[if_neg a2,e]
 ·have e:aI b p=(([],(false,[],()),()),0,(ae b p 0).2.2):=by unfold aI;rw[if_pos a1]
  rw[if_pos a1,e,if_pos a1]
theorem av {α:Type}{a b:α}(h:a=b):¬ a≠b:=fun h'=>h' h
theorem EC (b:LI)(n:Int)(hn:0≤n)(hn':n≤16)(h6 h7:Int)(h8:Bool)(h9:LI)(h10:Bool)(h11:LI)(h12:List bI)(h13 h14:Int)(h15:Bool)(h16:LI)(h17:Bool)(h18:LI):∀(k m:Nat) (p:Int) (o:List bI) (i:Int),i+m=n→0≤i→m<k→o.length=i.toNat→
  nv k n i b p h6 h7 h8 h9 h10 h11 h12 h13 h14 h15 h16 h17 h18 o=if (aZ b m o p).2.2=0 then some (.pan (.ret ((),((),((b,((aZ b m o p).2.1,())),((h6,(h7,(h8,(h9,(h10,(h11,(h12,()))))))),((h13,(h14,(h15,(h16,(h17,(h18,((aZ b m o p).1,()))))))),()))))))) else some (.ret (((aZ b m o p).2.2,()),((),()))):=by
 intro k
 induction k with
 |zero=>intro m p o i h1 h2 h3;omega
 |succ k ih=>
  intro m p o i h1 h2 h3 h4
  rw[CE]
  unfold ov
  cases m with
  |zero=>
   rw[ab (by simp;omega),if_pos (by rfl)]
   rfl
  |succ m=>
   rw[aa (by simp;omega),gV]
   by_cases a1:(aI b p).2.2=0
   ·rw[aa (by simpa using a1),if_neg (av a1)]
    have hg:decide (o.length+[((aI b p).1.1,((aI b p).1.2.1.1,(aI b p).1.2.1.2.1,()),())].length≤4294967296)=true:=decide_eq_true (show o.length+1≤4294967296 by omega)
    rw[aa (by rw[zA];exact ⟨rfl,hg⟩),ag (n:=i+1) (by omega) (by omega)]
    exact ih m _ _ (i+1) (by omega) (by omega) (by omega) (by simp;omega)
   ·rw[ab (by simpa using a1),if_pos a1,if_neg a1]
def vg (a0:LI)(a1:Int):Option li.Res:=bif decide (0≤1)&&(decide (1≤4294967296)&&(decide (0≤a1)&&decide (a1≤(↑a0.length:Int)))) then bif decide ((↑a0.length:Int) - a1<1) then some (Out.pan (1,())) else bif decide (0≤0)&&decide (0<(↑(List.take (Int.toNat 1) (List.drop a1.toNat a0)).length:Int)) then bif (List.take (Int.toNat 1) (List.drop a1.toNat a0)).getD (Int.toNat 0) 0 != 0 then some (Out.pan (71,())) else bif (ac 10 1 a0 (a1+1)).2.2 != 0 then some (Out.pan ((ac 10 1 a0 (a1+1)).2.2,())) else bif decide ((ac 5 15 a0 (ac 10 1 a0 (a1+1)).2.1).2.2=0) then bif decide (i32.wrap (ao (ac 5 15 a0 (ac 10 1 a0 (a1+1)).2.1).1)<0) then some (Out.pan (72,())) else bif decide ((ae a0 (ac 5 15 a0 (ac 10 1 a0 (a1+1)).2.1).2.1 (-1)).2.2=0) then bif decide ((ae a0 (ae a0 (ac 5 15 a0 (ac 10 1 a0 (a1+1)).2.1).2.1 (-1)).2.1 (-1)).2.2=0) then bif decide ((ac 5 15 a0 (ae a0 (ae a0 (ac 5 15 a0 (ac 10 1 a0 (a1+1)).2.1).2.1 (-1)).2.1 (-1)).2.1).2.2=0) then bif decide (i32.wrap (ao (ac 5 15 a0 (ae a0 (ae a0 (ac 5 15 a0 (ac 10 1 a0 (a1+1)).2.1).2.1 (-1)).2.1 (-1)).2.1).1)<0) then some (Out.pan (5,())) else bif decide (16<i32.wrap (ao (ac 5 15 a0 (ae a0 (ae a0 (ac 5 15 a0 (ac 10 1 a0 (a1+1)).2.1).2.1 (-1)).2.1 (-1)).2.1).1)) then some (Out.pan (9,())) else (ju ((i32.wrap (ao (ac 5 15 a0 (ae a0 (ae a0 (ac 5 15 a0 (ac 10 1 a0 (a1+1)).2.1).2.1 (-1)).2.1 (-1)).2.1).1),(0,())),((a0,((ac 5 15 a0 (ae a0 (ae a0 (ac 5 15 a0 (ac 10 1 a0 (a1+1)).2.1).2.1 (-1)).2.1 (-1)).2.1).2.1,())),((0,(0,(false,([],(false,([],([],()))))))),((ao (ac 10 1 a0 (a1+1)).1,(i32.wrap (i32.wrap (ao (ac 5 15 a0 (ac 10 1 a0 (a1+1)).2.1).1)),((ae a0 (ac 5 15 a0 (ac 10 1 a0 (a1+1)).2.1).2.1 (-1)).1.1,((ae a0 (ac 5 15 a0 (ac 10 1 a0 (a1+1)).2.1).2.1 (-1)).1.2.1,((ae a0 (ae a0 (ac 5 15 a0 (ac 10 1 a0 (a1+1)).2.1).2.1 (-1)).2.1 (-1)).1.1,((ae a0 (ae a0 (ac 5 15 a0 (ac 10 1 a0 (a1+1)).2.1).2.1 (-1)).2.1 (-1)).1.2.1,([],()))))))),()))))).run fun y=>match y with | .ret ((x54,()),((),()))=>(some (Out.pan (x54,()))) | .pan (.ret ((),((),(x55,x56,()),(x57,x58,x59,x60,x61,x62,x63,()),(x64,x65,x66,x67,x68,x69,x70,()),())))=>(bif decide (x56<(↑x55.length:Int)) then some (Out.pan (2,())) else oR (((x64,x65,(x66,x67,()),(x68,x69,()),x70,()),()),(x55,x56,()),())) else some (Out.pan ((ac 5 15 a0 (ae a0 (ae a0 (ac 5 15 a0 (ac 10 1 a0 (a1+1)).2.1).2.1 (-1)).2.1 (-1)).2.1).2.2,())) else some (Out.pan ((ae a0 (ae a0 (ac 5 15 a0 (ac 10 1 a0 (a1+1)).2.1).2.1 (-1)).2.1 (-1)).2.2,())) else some (Out.pan ((ae a0 (ac 5 15 a0 (ac 10 1 a0 (a1+1)).2.1).2.1 (-1)).2.2,())) else some (Out.pan ((ac 5 15 a0 (ac 10 1 a0 (a1+1)).2.1).2.2,())) else none else none
theorem HP (a0:LI)(a1:Int):Io.run tt Ee dr ug li Tryd.f57 (((),()),(a0,a1,()),())=vg a0 a1:=by kernel_rfl
theorem Ju:HcOk prog 57 (ah li C6):=by
 have hcs:HcsOk prog tB:=.cons sM (.cons qm (.cons ur (.cons Fd (.cons Bd (.cons Ce .nil)))))
 refine cq (cs:=tB) hcs (lp:=ug) (fn:=Tryd.f57) li
  (.step (h0:=bg dc ju) (by kernel_rfl) (lI (cs:=tB) hcs (lp:=ug) (fn:=Tryd.f57) (.done (by kernel_rfl)) dc ju ?_) (.done (by kernel_rfl))) C6 ?_
 ·rintro ⟨⟨(n:Int),(i:Int),⟨⟩⟩,⟨(b:LI),(p:Int),⟨⟩⟩,⟨(h6:Int),(h7:Int),(h8:Bool),(h9:LI),(h10:Bool),(h11:LI),(h12:List bI),⟨⟩⟩,⟨(h13:Int),(h14:Int),(h15:Bool),(h16:LI),(h17:Bool),(h18:LI),(o:List bI),⟨⟩⟩,⟨⟩⟩ y hw hy
  obtain ⟨hg,hy⟩:=Tr.guard hy
  simp only[zA,zB] at hg
  obtain ⟨hi,h0,hs,ho⟩:=hg
  have hi:i=0:=hi
  have h0:0≤n:=h0
  have hs:n≤16:=hs
  have ho:o=[]:=ho
  subst hi ho
  refine ⟨n.toNat+1,(EC b n h0 hs h6 h7 h8 h9 h10 h11 h12 h13 h14 h15 h16 h17 h18 _ n.toNat p [] 0 (by omega) (by omega) (by omega) rfl).trans ?_⟩
  rw[← hy]
  simp only[Tr.val_ite,zB,Tr.val_ret]
 ·rintro ⟨⟨⟨⟩,⟨⟩⟩,⟨⟨(b:LI),(p:Int),⟨⟩⟩,⟨⟩⟩⟩ out hw ho
  obtain ⟨hg,ho⟩:=Tr.guard ho
  have hg:p=0:=by simpa using hg
  subst hg
  refine (HP b 0).trans ?_
  rw[← ho]
  simp only[Tr.val_ite,Tr.val_ret,zB]
  unfold vg
  rw[aa (by simp)]
  by_cases h0:b.length=0
  ·have e:bD b=(bj,1):=by unfold bD;rw[if_pos h0]
   rw[e,aa (by simp;omega)]
   rfl
  rw[ab (by simp;omega)]
  obtain ⟨c,l,rfl⟩:∃c l,b=c::l:=by
   cases b with
   |nil=>exact absurd rfl h0
   |cons c l=>exact ⟨c,l,rfl⟩
  rw[aa (by simp)]
  by_cases h1:c=0
  rotate_left
  ·have e:bD (c::l)=(bj,71):=by unfold bD;rw[if_neg h0,if_pos (by simpa using h1)]
   rw[e,aa (by simpa using h1)]
   rfl
  have h1':(c::l).getD 0 0=0:=h1
  rw[ab (by simpa using h1)]
  generalize hb:c::l=b at *
  have hz:(0:Int)+1=1:=rfl
  rw[hz]
  by_cases h2:(ac 10 1 b 1).2.2=0
  rotate_left
  ·have e:bD b=(bj,(ac 10 1 b 1).2.2):=by unfold bD;rw[if_neg h0,if_neg (by simpa using h1'),if_pos h2]
   rw[e,aa (by simpa using h2),if_neg h2]
  rw[ab (by simpa using h2)]
  have hr:=@fo b
  have hE:xf b=(aO b (ae b (ae b (af b (ac 10 1 b 1).2.1).2.1 (-1)).2.1 (-1)).2.1).2.1:=rfl
  generalize hq1:(ac 10 1 b 1).2.1=q1 at *
  have eR:bD b=if (af b q1).2.2≠0 then (bj,(af b q1).2.2) else if (af b q1).1<0 then (bj,72) else if (ae b (af b q1).2.1 (-1)).2.2≠0 then (bj,(ae b (af b q1).2.1 (-1)).2.2) else
   if (ae b (ae b (af b q1).2.1 (-1)).2.1 (-1)).2.2≠0 then (bj,(ae b (ae b (af b q1).2.1 (-1)).2.1 (-1)).2.2) else
   if (aO b (ae b (ae b (af b q1).2.1 (-1)).2.1 (-1)).2.1).2.2≠0 then (bj,(aO b (ae b (ae b (af b q1).2.1 (-1)).2.1 (-1)).2.1).2.2) else
   if (aO b (ae b (ae b (af b q1).2.1 (-1)).2.1 (-1)).2.1).2.1<(b.length:Int) then (bj,2) else
   ((ao (ac 10 1 b 1).1,(af b q1).1,(ae b (af b q1).2.1 (-1)).1,(ae b (ae b (af b q1).2.1 (-1)).2.1 (-1)).1,(aO b (ae b (ae b (af b q1).2.1 (-1)).2.1 (-1)).2.1).1,()),0):=by
   unfold bD;rw[if_neg h0,if_neg (by simpa using h1'),if_neg (by simpa using h2),hq1]
  have hn:∀p,i32.wrap (ao (ac 5 15 b p).1)=(af b p).1:=fun _=>rfl
  have hq:∀p,(ac 5 15 b p).2.1=(af b p).2.1:=fun _=>rfl
  have he:∀p,(ac 5 15 b p).2.2=(af b p).2.2:=fun _=>rfl
  have hw32:i32.wrap (af b q1).1=(af b q1).1:=bU (k:=.i32) (bL _ _)
  simp only[hn,hq,he]
  rw[eR,hE,hw32]
  by_cases c1:(af b q1).2.2=0
  rotate_left
  ·rw[ab (by simpa using c1),if_pos c1,if_neg c1]
  rw[aa (by simpa using c1),if_neg (av c1)]
  by_cases c2:(af b q1).1<0
  ·rw[aa (by simpa using c2),if_pos c2];rfl
  rw[ab (by simpa using c2),if_neg c2]
  generalize hT1:ae b (af b q1).2.1 (-1)=T1
  by_cases c3:T1.2.2=0
  rotate_left
  ·rw[ab (by simpa using c3),if_pos c3,if_neg c3]
  rw[aa (by simpa using c3),if_neg (av c3)]
  generalize hT2:ae b T1.2.1 (-1)=T2
  by_cases c4:T2.2.2=0
  rotate_left
  ·rw[ab (by simpa using c4),if_pos c4,if_neg c4]
  rw[aa (by simpa using c4),if_neg (av c4)]
  by_cases c5:(af b T2.2.1).2.2=0
  rotate_left
  ·have eH:aO b T2.2.1=([],0,(af b T2.2.1).2.2):=by unfold aO;rw[if_pos c5]
   rw[ab (by simpa using c5),eH,if_pos c5,if_neg c5]
  rw[aa (by simpa using c5)]
  by_cases c6:(af b T2.2.1).1<0
  ·have eH:aO b T2.2.1=([],0,5):=by unfold aO;rw[if_neg (av c5),if_pos c6]
   rw[aa (by simpa using c6),eH];rfl
  rw[ab (by simpa using c6)]
  by_cases c7:16<(af b T2.2.1).1
  ·have eH:aO b T2.2.1=([],0,9):=by unfold aO;rw[if_neg (av c5),if_neg c6,if_pos c7]
   rw[aa (by simpa using c7),eH];rfl
  have eH:aO b T2.2.1=aZ b (af b T2.2.1).1.toNat [] (af b T2.2.1).2.1:=by unfold aO;rw[if_neg (av c5),if_neg c6,if_neg c7]
  rw[ab (by simpa using c7),eH]
  unfold ju
  simp only[Tr.run_ite,Tr.run_ret]
  have hgd:(decide True&&(decide ((0:Int)≤(af b T2.2.1).1)&&(decide ((af b T2.2.1).1≤(16:Int))&&decide True)))=true:=by
   simp only[zA,zB]
   exact ⟨trivial,by omega,by omega,trivial⟩
  rw[if_pos hgd]
  generalize aZ b (af b T2.2.1).1.toNat [] (af b T2.2.1).2.1=r
  by_cases c8:r.2.2=0
  ·rw[if_pos (decide_eq_true c8),if_neg (av c8)]
   by_cases c9:r.2.1<(b.length:Int)
   ·simp only[c9,decide_true,cond_true,if_true]
    rfl
   ·simp only[c9,decide_false,cond_false,if_false]
    rfl
  ·rw[if_neg (by simpa using c8),if_pos c8,if_neg c8]
abbrev lf:Io:=⟨[dL,dI],[],[],[tD,dI,dI],none⟩
def C3 (d:lf.In):Tr lf.Res:=.ret (.ret (((ak d.1.1 d.1.2.1).1,(ak d.1.1 d.1.2.1).2.1,(ak d.1.1 d.1.2.1).2.2,()),()))
abbrev DB:List (Nat×Hc):=[(56,ah fj oP),(57,ah li C6)]
def I0:Hd:=bV DB
def EI:Lp:=cb []
def ve (a0:LI)(a1:Int):Option lf.Res:=bif (ac 5 15 a0 a1).2.2 != 0 then oR (((0,0,(false,[],()),(false,[],()),[],()),0,(ac 5 15 a0 a1).2.2,()),()) else bif decide (i32.wrap (ao (ac 5 15 a0 a1).1)<0) then oR (((0,0,(false,[],()),(false,[],()),[],()),0,5,()),()) else bif decide (16384<i32.wrap (ao (ac 5 15 a0 a1).1)) then oR (((0,0,(false,[],()),(false,[],()),[],()),0,4,()),()) else bif decide (i64.wrap ((↑a0.length:Int) - (ac 5 15 a0 a1).2.1)<i64.wrap (i32.wrap (ao (ac 5 15 a0 a1).1))) then oR (((0,0,(false,[],()),(false,[],()),[],()),0,1,()),()) else bif decide (0≤(ac 5 15 a0 a1).2.1)&&(decide ((ac 5 15 a0 a1).2.1≤i64.wrap ((ac 5 15 a0 a1).2.1+i64.wrap (i32.wrap (ao (ac 5 15 a0 a1).1))))&&(decide (i64.wrap ((ac 5 15 a0 a1).2.1+i64.wrap (i32.wrap (ao (ac 5 15 a0 a1).1)))≤i64.wrap ((ac 5 15 a0 a1).2.1+i64.wrap (i32.wrap (ao (ac 5 15 a0 a1).1))))&&decide (i64.wrap ((ac 5 15 a0 a1).2.1+i64.wrap (i32.wrap (ao (ac 5 15 a0 a1).1)))≤(↑a0.length:Int)))) then bif decide ((bD (List.drop (ac 5 15 a0 a1).2.1.toNat (List.take (i64.wrap ((ac 5 15 a0 a1).2.1+i64.wrap (i32.wrap (ao (ac 5 15 a0 a1).1)))).toNat a0))).2=0) then oR ((((bD (List.drop (ac 5 15 a0 a1).2.1.toNat (List.take (i64.wrap ((ac 5 15 a0 a1).2.1+i64.wrap (i32.wrap (ao (ac 5 15 a0 a1).1)))).toNat a0))).1.1,(bD (List.drop (ac 5 15 a0 a1).2.1.toNat (List.take (i64.wrap ((ac 5 15 a0 a1).2.1+i64.wrap (i32.wrap (ao (ac 5 15 a0 a1).1)))).toNat a0))).1.2.1,((bD (List.drop (ac 5 15 a0 a1).2.1.toNat (List.take (i64.wrap ((ac 5 15 a0 a1).2.1+i64.wrap (i32.wrap (ao (ac 5 15 a0 a1).1)))).toNat a0))).1.2.2.1.1,(bD (List.drop (ac 5 15 a0 a1).2.1.toNat (List.take (i64.wrap ((ac 5 15 a0 a1).2.1+i64.wrap (i32.wrap (ao (ac 5 15 a0 a1).1)))).toNat a0))).1.2.2.1.2.1,()),((bD (List.drop (ac 5 15 a0 a1).2.1.toNat (List.take (i64.wrap ((ac 5 15 a0 a1).2.1+i64.wrap (i32.wrap (ao (ac 5 15 a0 a1).1)))).toNat a0))).1.2.2.2.1.1,(bD (List.drop (ac 5 15 a0 a1).2.1.toNat (List.take (i64.wrap ((ac 5 15 a0 a1).2.1+i64.wrap (i32.wrap (ao (ac 5 15 a0 a1).1)))).toNat a0))).1.2.2.2.1.2.1,()),(bD (List.drop (ac 5 15 a0 a1).2.1.toNat (List.take (i64.wrap ((ac 5 15 a0 a1).2.1+i64.wrap (i32.wrap (ao (ac 5 15 a0 a1).1)))).toNat a0))).1.2.2.2.2.1,()),i64.wrap ((ac 5 15 a0 a1).2.1+i64.wrap (i32.wrap (ao (ac 5 15 a0 a1).1))),0,()),()) else oR (((0,0,(false,[],()),(false,[],()),[],()),0,(bD (List.drop (ac 5 15 a0 a1).2.1.toNat (List.take (i64.wrap ((ac 5 15 a0 a1).2.1+i64.wrap (i32.wrap (ao (ac 5 15 a0 a1).1)))).toNat a0))).2,()),()) else none
theorem HM (a0:LI)(a1:Int):Io.runD tt I0 dr EI 64 128 lf Tryd.f28 55 Tryd.f55 11 ((a0,a1,()),())=ve a0 a1:=by kernel_rfl
theorem Jr:HcOk prog 28 (ah lf C3):=by
 have htt:=dy Tryd.prog 400
 have hcs:HcsOk prog DB:=.cons wF (.cons Ju .nil)
 refine vM (P:=prog) htt hm (gS hcs) (dj htt) (fn:=Tryd.f28) (by kernel_rfl) (by kernel_rfl) lf (kb2:=64) (kbG:=128) (by decide) (by decide)
  (i1:=1) (ops1:=gg (ja (gj (aV Tryd.f28)))) (by kernel_rfl) rfl (by kernel_rfl)
  (o1:=((gg (ja (gj (aV Tryd.f28))))[1]?).getD default) (t:=11) (aT:=#[]) (by kernel_rfl) (by kernel_rfl) (by kernel_rfl) (by kernel_rfl) (lp:=EI) (by kernel_rfl) (ku (by kernel_rfl))
  (g:=55) (gfn:=Tryd.f55) (i2:=0) (gops:=gg (ja (aV Tryd.f55))) (grest:=gj (aV Tryd.f55))
  (by kernel_rfl) (by kernel_rfl) (by kernel_rfl) rfl rfl (by kernel_rfl) (oo:=((gg (ja (aV Tryd.f55)))[0]?).getD default) (by kernel_rfl) (by kernel_rfl) (by kernel_rfl) (by kernel_rfl) (by kernel_rfl) C3 ?_
 rintro ⟨⟨(b:LI),(p:Int),⟨⟩⟩,⟨⟩⟩ out hw ho
 cases ho
 refine (HM b p).trans ?_
 have hb:b.length≤maxLen:=hw.1.1.1
 rw[cc] at hb
 show _=oR (((ak b p).1,(ak b p).2.1,(ak b p).2.2,()),())
 have hr:=@fo b p
 unfold ve
 by_cases h0:(af b p).2.2=0
 rotate_left
 ·have h0':(ac 5 15 b p).2.2≠0:=h0
  have e:ak b p=(bj,0,(ac 5 15 b p).2.2):=by unfold ak;rw[if_pos h0];rfl
  rw[e,aa (by simpa using h0')]
  rfl
 have hk:=ey h0
 have h0':(ac 5 15 b p).2.2=0:=h0
 rw[ab (by simpa using h0')]
 generalize hq:(ac 5 15 b p).2.1=q
 generalize hn:IntKind.wrap .i32 (ao (ac 5 15 b p).1)=n
 have hq:(af b p).2.1=q:=hq
 have hn:(af b p).1=n:=hn
 have e0:ak b p=if n<0 then (bj,0,5) else if 16384<n then (bj,0,4) else if (b.length:Int) - q<n then (bj,0,1)
   else if (bD ((b.drop q.toNat).take n.toNat)).2≠0 then (bj,0,(bD ((b.drop q.toNat).take n.toNat)).2)
   else ((bD ((b.drop q.toNat).take n.toNat)).1,q+n,0):=by unfold ak;rw[if_neg (by simpa using h0),hq,hn]
 rw[e0]
 rw[hq] at hk
 rw[hn] at hr
 by_cases h1:n<0
 ·rw[aa (by simpa using h1),if_pos h1]
  rfl
 rw[ab (by simpa using h1),if_neg h1]
 by_cases h2:16384<n
 ·rw[aa (by simpa using h2),if_pos h2]
  rfl
 rw[ab (by simpa using h2),if_neg h2,ag (n:=(b.length:Int) - q) (by omega) (by omega),ag (n:=n) (by omega) (by omega)]
 by_cases h3:(b.length:Int) - q<n
 ·rw[aa (by simpa using h3),if_pos h3]
  rfl
 rw[ab (by simpa using h3),if_neg h3,ag (n:=q+n) (by omega) (by omega),aa (by simp;omega),List.drop_take,show (q+n).toNat - q.toNat=n.toNat by omega]
 generalize bD ((b.drop q.toNat).take n.toNat)=r
 by_cases h4:r.2=0
 ·rw[aa (by simpa using h4),if_neg (av h4)]
 ·rw[ab (by simpa using h4),if_pos h4]
  rfl
def bi (b:q8):Bool:=b.1&&decide ((0:Int)<(b.2.1.length:Int))
def aq (b:q8):LI:=if b.1=true then am (ai (-1)) else am (ai b.2.1.length)++b.2.1
def gK (h:bI):LI:=am (ai h.1.length)++(h.1++aq h.2.1)
def az (hs:List bI):LI:=hs.flatMap gK
def aG (r:fQ):LI:=0::(am (ai r.1)++(am (ai r.2.1)++(aq r.2.2.1++(aq r.2.2.2.1++(am (ai r.2.2.2.2.1.length)++az r.2.2.2.2.1)))))
def aW:List bI→Int
 |[]=>0
 |h::hs=>if (b7 h.1).2=false then 6 else if bi h.2.1=true then 70 else aW hs
def cL (r:fQ):Int:=
 if r.2.1<0 then 72 else if bi r.2.2.1=true∨bi r.2.2.2.1=true then 70 else if 16<(r.2.2.2.2.1.length:Int) then 9 else aW r.2.2.2.2.1
def au (r:fQ):Int:=if cL r≠0 then cL r else if 16384<((aG r).length:Int) then 4 else 0
def cJ (r:fQ):LI×Int:=if au r=0 then (aG r,0) else ([],au r)
def aK (r:fQ):LI×Int:=if au r=0 then (am (ai (aG r).length)++aG r,0) else ([],au r)
def cS (r:fQ):Bool:=decide ((aG r).length≤4294967000)
theorem nK (u:Int):(am u).length≤11:=by
 unfold am
 have:=w8 10 u
 simp only[zH,zN,List.length_nil]
 omega
abbrev lh:Io:=⟨[pY],[],[],[dB],none⟩
def C5 (d:lh.In):Tr lh.Res:=.ret (.ret ((bi d.1.1,()),()))
abbrev DD:List (Nat×Hc):=[]
def I2:Hd:=bV DD
def EK:Lp:=cb []
def Dl (a0:Bool)(a1:LI):Option lh.Res:=bif a0 then oR ((decide (0<(↑a1.length:Int)),()),()) else oR ((false,()),())
theorem HO (a0:Bool)(a1:LI):Io.run tt I2 dr EK lh Tryd.f108 (((a0,a1,()),()),())=Dl a0 a1:=by kernel_rfl
theorem Jt:HcOk prog 108 (ah lh C5):=by
 refine cq (cs:=DD) .nil (lp:=EK) (fn:=Tryd.f108) lh (.done (by kernel_rfl)) C5 ?_
 rintro ⟨⟨⟨(n:Bool),(b:LI),⟨⟩⟩,⟨⟩⟩,⟨⟩⟩ out hw ho
 cases ho
 refine (HO n b).trans ?_
 cases n <;> rfl
abbrev fW:Io:=⟨[tD],[],[],[dI],none⟩
def s7 (d:fW.In):Tr fW.Res:=.ret (.ret ((cL d.1.1,()),()))
abbrev mi:List (Nat×Hc):=[(108,ah lh C5),(96,ah jJ zf)]
def v5:Hd:=bV mi
abbrev cG:Lo:=⟨⟨(an (fH (cr (.one (.hol (.sl 141 (Ty.str.prod ((Ty.bool.prod ((Ty.sl 5 (Ty.int u8)).prod Ty.unit)).prod Ty.unit))))::.one hI::.one hI::an [])))),[]⟩,[(.ret,⟨(cr (.one hI::an (an (fH (cr []))))),[]⟩),(.exit 1,⟨(.any::an (an (fH (di [])))),[]⟩)]⟩
def hY (d:cG.st.den):Tr (aA cG.xs):=
 .ite (decide (d.1.2.2.1=(0:Int))&&decide (d.1.2.1=(d.1.1.length:Int))) (.ite (decide (aW d.1.1=(0:Int))) (.ret (.pan (.ret ((),((),()))))) (.ret (.ret ((),((aW d.1.1,()),()))))) .no
def mA:Lp:=cb [(9,bg cG hY)]
def mY {R:Type}(h7:List bm.den)(h8 h9:Int)(next:List bm.den→Int→Int→Option R)(out:aA cG.xs→Option R):Option R:=bif decide (h9<h8) then bif decide (0≤h9)&&decide (h9<(↑h7.length:Int)) then bif !(b7 (h7.getD h9.toNat ([],(false,[],()),())).1).2 then out (.ret ((),((6,()),()))) else bif bi ((h7.getD h9.toNat ([],(false,[],()),())).2.1.1,(h7.getD h9.toNat ([],(false,[],()),())).2.1.2.1,()) then out (.ret ((),((70,()),()))) else next (h7) (h8) (i64.wrap (h9+1)) else none else out (.pan (.ret ((),((),()))))
def lF (n:Nat)(h7:List bm.den)(h8 h9:Int):Option (aA cG.xs):=kC tt v5 dr mA 0 Tryd.f101 (dD Tryd.f101 0) n (cG.st.mk' ((h7,(h8,(h9,()))),())) (cx cG.xs)
theorem yJ (n:Nat)(h7:List bm.den)(h8 h9:Int):lF (n+1) h7 h8 h9=mY h7 h8 h9 (lF n) some:=by kernel_rfl
theorem yj (hs:List bI)(hm:hs.length≤maxLen):∀(k i:Nat),i≤hs.length→hs.length<i+k→
  lF k hs (hs.length:Int) (i:Int)=if aW (hs.drop i)=0 then some (.pan (.ret ((),((),())))) else some (.ret ((),((aW (hs.drop i),()),()))):=by
 intro k
 induction k with
 |zero=>intro i h1 h2;omega
 |succ k ih=>
  intro i h1 h2
  rw[yJ]
  unfold mY
  by_cases h3:i<hs.length
  ·have e:(hs.getD (i:Int).toNat ([],(false,[],()),()):bI)=hs[i]:=aR h3
   rw[zE h3,← e,bH h3 hm]
   generalize (hs.getD (i:Int).toNat ([],(false,[],()),()):bI)=x
   obtain ⟨x1,⟨x2,x3,⟨⟩⟩,⟨⟩⟩:=x
   rw[aa (by simpa using h3),aa (by simp[h3])]
   by_cases h4:(b7 x1).2=false
   ·have eE:aW ((x1,(x2,x3,()),())::hs.drop (i+1))=6:=by unfold aW;rw[if_pos h4]
    rw[eE,aa (by simpa using h4)]
    rfl
   ·rw[ab (by simpa using h4)]
    by_cases h5:bi (x2,x3,())=true
    ·have eE:aW ((x1,(x2,x3,()),())::hs.drop (i+1))=70:=by unfold aW;rw[if_neg h4,if_pos h5]
     rw[eE,aa h5]
     rfl
    ·have eE:aW ((x1,(x2,x3,()),())::hs.drop (i+1))=aW (hs.drop (i+1)):=by rw[aW,if_neg h4,if_neg h5]
     rw[eE,ab (by simpa using h5)]
     exact ih (i+1) h3 (by omega)
  ·rw[zI (by omega)]
   rw[ab (by simpa using h3)]
   rfl
def pL (a0 a1:Int)(a2:Bool)(a3:LI)(a4:Bool)(a5:LI)(a6:List bm.den):Option fW.Res:=bif decide (a1<0) then oR ((72,()),()) else bif bi (a2,a3,()) then oR ((70,()),()) else bif bi (a4,a5,()) then oR ((70,()),()) else bif decide (16<(↑a6.length:Int)) then oR ((9,()),()) else (hY ((a6,((↑a6.length:Int),(0,()))),())).run fun y=>match y with | .ret ((),((x15,()),()))=>(oR ((x15,()),())) | .pan (.ret ((),((),())))=>(oR ((0,()),()))
theorem Cn (a0 a1:Int)(a2:Bool)(a3:LI)(a4:Bool)(a5:LI)(a6:List bm.den):Io.run tt v5 dr mA fW Tryd.f101 (((a0,a1,(a2,a3,()),(a4,a5,()),a6,()),()),())=pL a0 a1 a2 a3 a4 a5 a6:=by kernel_rfl
theorem E9:HcOk prog 101 (ah fW s7):=by
 have hcs:HcsOk prog mi:=.cons Jt (.cons Fe .nil)
 refine cq (cs:=mi) hcs (lp:=mA) (fn:=Tryd.f101) fW
  (.step (h0:=bg cG hY) (by kernel_rfl) (lI (cs:=mi) hcs (lp:=mA) (fn:=Tryd.f101) (.done (by kernel_rfl)) cG hY ?_) (.done (by kernel_rfl))) s7 ?_
 ·rintro ⟨⟨(hs:List bI),(n:Int),(i:Int),⟨⟩⟩,⟨⟩⟩ y hw hy
  obtain ⟨hg,hy⟩:=Tr.guard hy
  simp only[zA,zB] at hg
  obtain ⟨hi,hn⟩:=hg
  have hi:i=0:=hi
  have hn:n=hs.length:=hn
  subst hi hn
  refine ⟨hs.length+1,(yj hs hw.1.1.1 _ 0 (by omega) (by omega)).trans ?_⟩
  rw[← hy]
  simp only[Tr.val_ite,zB,Tr.val_ret,List.drop_zero]
 ·rintro ⟨⟨⟨(a0:Int),(a1:Int),⟨(a2:Bool),(a3:LI),⟨⟩⟩,⟨(a4:Bool),(a5:LI),⟨⟩⟩,(a6:List bI),⟨⟩⟩,⟨⟩⟩,⟨⟩⟩ out hw ho
  cases ho
  refine (Cn a0 a1 a2 a3 a4 a5 a6).trans ?_
  unfold pL hY
  show _=oR ((cL (a0,a1,(a2,a3,()),(a4,a5,()),a6,()),()),())
  unfold cL
  simp only[Tr.run_ite,Tr.run_ret]
  by_cases h1:a1<0
  ·rw[aa (by simpa using h1),if_pos h1]
  rw[ab (by simpa using h1),if_neg h1]
  by_cases h2:bi (a2,a3,())=true
  ·rw[aa h2,if_pos (.inl h2)]
  rw[ab (by simpa using h2)]
  by_cases h3:bi (a4,a5,())=true
  ·rw[aa h3,if_pos (.inr h3)]
  rw[ab (by simpa using h3),if_neg (show ¬(bi (a2,a3,())=true∨bi (a4,a5,())=true) from fun h=>h.elim h2 h3)]
  by_cases h4:16<(a6.length:Int)
  ·rw[aa (by simpa using h4),if_pos h4]
  rw[ab (by simpa using h4),if_neg h4]
  rw[if_pos (by simp)]
  by_cases h5:aW a6=0
  ·rw[if_pos (decide_eq_true h5),h5]
  ·rw[if_neg (by simpa using h5)]
abbrev fX:Io:=⟨[dO,pY],[],[],[dO],none⟩
def s8 (d:fX.In):Tr fX.Res:=.ite (decide (d.1.1.length+(aq d.1.2.1).length≤4294967296)) (.ret (.ret ((d.1.1++aq d.1.2.1,()),()))) .no
abbrev vC:List (Nat×Hc):=[(65,ah iI uU)]
def Ef:Hd:=bV vC
def wr:Lp:=cb []
def pM (a0:LI)(a1:Bool)(a2:LI):Option fX.Res:=bif a1 then bif decide (a0.length+(am (ai (-1))).length≤4294967296) then oR ((a0++am (ai (-1)),()),()) else none else bif decide (a0.length+(am (ai (↑a2.length:Int))).length≤4294967296) then bif decide ((a0++am (ai (↑a2.length:Int))).length+a2.length≤4294967296) then oR ((a0++am (ai (↑a2.length:Int))++a2,()),()) else none else none
theorem Co (a0:LI)(a1:Bool)(a2:LI):Io.run tt Ef dr wr fX Tryd.f102 ((a0,(a1,a2,()),()),())=pM a0 a1 a2:=by kernel_rfl
theorem Fa:HcOk prog 102 (ah fX s8):=by
 refine cq (cs:=vC) (.cons yp .nil) (lp:=wr) (fn:=Tryd.f102) fX (.done (by kernel_rfl)) s8 ?_
 rintro ⟨⟨(o:LI),⟨(n:Bool),(b:LI),⟨⟩⟩,⟨⟩⟩,⟨⟩⟩ out hw ho
 obtain ⟨hg,ho⟩:=Tr.guard ho
 have hg:o.length+(aq (n,b,())).length≤4294967296:=by simpa using hg
 cases ho
 refine (Co o n b).trans ?_
 show _=oR ((o++aq (n,b,()),()),())
 unfold pM
 cases n with
 |true=>
  have e:aq (true,b,())=am (ai (-1)):=rfl
  rw[e] at hg ⊢
  rw[aa rfl,aa (by simpa using hg)]
 |false=>
  have e:aq (false,b,())=am (ai b.length)++b:=rfl
  rw[e] at hg ⊢
  simp only[zH] at hg
  rw[ab rfl,aa (by simp;omega),aa (by simp;omega),zK]
abbrev iG:Io:=⟨[tD],[],[],[dO,dI],none⟩
def xr (d:iG.In):Tr iG.Res:=.ite (cS d.1.1) (.ret (.ret (((cJ d.1.1).1,(cJ d.1.1).2,()),()))) .no
abbrev oX:List (Nat×Hc):=[(101,ah fW s7),(92,ah dG lW),(65,ah iI uU),(102,ah fX s8)]
def Aq:Hd:=bV oX
abbrev cF:Lo:=⟨⟨(.any::di (.one (.onl 5 (Ty.int u8) 11)::.any::an (fH (di (cr (.one (.hol (.sl 141 (Ty.str.prod ((Ty.bool.prod ((Ty.sl 5 (Ty.int u8)).prod Ty.unit)).prod Ty.unit))))::.one hI::.one hI::an (di (cr [])))))))),[]⟩,[(.exit 0,⟨(.any::di (.one (.onl 5 (Ty.int u8) 11)::an (an (an (fH []))))),[]⟩)]⟩
def hC (d:cF.st.den):Tr (aA cF.xs):=
 .ite (decide (d.1.2.2.2.1=(0:Int))&&(decide (d.1.2.2.1=(d.1.2.1.length:Int))&&decide (d.1.1.length+(az d.1.2.1).length≤4294967296))) (.ret (.ret ((),((d.1.1++az d.1.2.1,()),())))) .no
def pd:Lp:=cb [(10,bg cF hC)]
def mX {R:Type}(h7:LI)(h8:List bm.den)(h9 h10:Int)(next:LI→List bm.den→Int→Int→Option R)(out:aA cF.xs→Option R):Option R:=bif decide (h10<h9) then bif decide (0≤h10)&&decide (h10<(↑h8.length:Int)) then bif decide (h7.length+(am (ai (↑(List.length (h8.getD h10.toNat ([],(false,[],()),())).1):Int))).length≤4294967296) then bif decide ((h7++am (ai (↑(List.length (h8.getD h10.toNat ([],(false,[],()),())).1):Int))).length+List.length (h8.getD h10.toNat ([],(false,[],()),())).1≤4294967296) then bif decide ((h7++am (ai (↑(List.length (h8.getD h10.toNat ([],(false,[],()),())).1):Int))++(h8.getD h10.toNat ([],(false,[],()),())).1).length+(aq ((h8.getD h10.toNat ([],(false,[],()),())).2.1.1,(h8.getD h10.toNat ([],(false,[],()),())).2.1.2.1,())).length≤4294967296) then next (h7++am (ai (↑(List.length (h8.getD h10.toNat ([],(false,[],()),())).1):Int))++(h8.getD h10.toNat ([],(false,[],()),())).1++aq ((h8.getD h10.toNat ([],(false,[],()),())).2.1.1,(h8.getD h10.toNat ([],(false,[],()),())).2.1.2.1,())) (h8) (h9) (i64.wrap (h10+1)) else none else none else none else none else out (.ret ((),((h7,()),())))
def lE (n:Nat)(h7:LI)(h8:List bm.den)(h9 h10:Int):Option (aA cF.xs):=kC tt Aq dr pd 0 Tryd.f86 (dD Tryd.f86 0) n (cF.st.mk' ((h7,(h8,(h9,(h10,())))),())) (cx cF.xs)
theorem yI (n:Nat)(h7:LI)(h8:List bm.den)(h9 h10:Int):lE (n+1) h7 h8 h9 h10=mX h7 h8 h9 h10 (lE n) some:=by kernel_rfl
theorem B6 (hs:List bI)(hm:hs.length≤maxLen):∀(k i:Nat) (o:LI),i≤hs.length→hs.length<i+k→o.length+(az (hs.drop i)).length≤4294967296→
  lE k o hs (hs.length:Int) (i:Int)=some (.ret ((),((o++az (hs.drop i),()),()))):=by
 intro k
 induction k with
 |zero=>intro i o h1 h2;omega
 |succ k ih=>
  intro i o h1 h2 h3
  rw[yI]
  unfold mX
  by_cases h4:i<hs.length
  ·have e:(hs.getD (i:Int).toNat ([],(false,[],()),()):bI)=hs[i]:=aR h4
   rw[zE h4,← e] at h3 ⊢
   rw[bH h4 hm]
   generalize (hs.getD (i:Int).toNat ([],(false,[],()),()):bI)=x at *
   obtain ⟨x1,⟨x2,x3,⟨⟩⟩,⟨⟩⟩:=x
   have eW:az ((x1,(x2,x3,()),())::hs.drop (i+1))=am (ai x1.length)++(x1++aq (x2,x3,()))++az (hs.drop (i+1)):=by simp[az,gK]
   rw[eW] at h3 ⊢
   simp only[zH] at h3
   rw[aa (by simpa using h4),aa (by simp[h4]),aa (by simp;omega),aa (by simp;omega),aa (by simp;omega)]
   refine (ih (i+1) _ h4 (by omega) (by simp only[zH];omega)).trans ?_
   simp only[zK]
  ·rw[zI (by omega)]
   rw[ab (by simpa using h4)]
   simp[az]
def rI (a0 a1:Int)(a2:Bool)(a3:LI)(a4:Bool)(a5:LI)(a6:List bm.den):Option iG.Res:=bif cL (a0,a1,(a2,a3,()),(a4,a5,()),a6,()) != 0 then oR (([],cL (a0,a1,(a2,a3,()),(a4,a5,()),a6,()),()),()) else bif decide ([0].length+(dp [a0,i64.wrap a1]).length≤4294967296) then bif decide (([0]++dp [a0,i64.wrap a1]).length+(aq (a2,a3,())).length≤4294967296) then bif decide (List.length ([0]++dp [a0,i64.wrap a1]++aq (a2,a3,()))+(aq (a4,a5,())).length≤4294967296) then bif decide (List.length ([0]++dp [a0,i64.wrap a1]++aq (a2,a3,())++aq (a4,a5,()))+(am (ai (↑a6.length:Int))).length≤4294967296) then (hC (([0]++dp [a0,i64.wrap a1]++aq (a2,a3,())++aq (a4,a5,())++am (ai (↑a6.length:Int)),(a6,((↑a6.length:Int),(0,())))),())).run fun y=>match y with | .ret ((),((x16,()),()))=>(bif decide (16384<(↑x16.length:Int)) then oR (([],4,()),()) else oR ((x16,0,()),())) else none else none else none else none
theorem Fy (a0 a1:Int)(a2:Bool)(a3:LI)(a4:Bool)(a5:LI)(a6:List bm.den):Io.run tt Aq dr pd iG Tryd.f86 (((a0,a1,(a2,a3,()),(a4,a5,()),a6,()),()),())=rI a0 a1 a2 a3 a4 a5 a6:=by kernel_rfl
theorem Hp:HcOk prog 86 (ah iG xr):=by
 have hcs:HcsOk prog oX:=.cons E9 (.cons sN (.cons yp (.cons Fa .nil)))
 refine cq (cs:=oX) hcs (lp:=pd) (fn:=Tryd.f86) iG
  (.step (h0:=bg cF hC) (by kernel_rfl) (lI (cs:=oX) hcs (lp:=pd) (fn:=Tryd.f86) (.done (by kernel_rfl)) cF hC ?_) (.done (by kernel_rfl))) xr ?_
 ·rintro ⟨⟨(o:LI),(hs:List bI),(n:Int),(i:Int),⟨⟩⟩,⟨⟩⟩ y hw hy
  obtain ⟨hg,hy⟩:=Tr.guard hy
  simp only[zA,zB] at hg
  obtain ⟨hi,hn,hl⟩:=hg
  have hi:i=0:=hi
  have hn:n=hs.length:=hn
  subst hi hn
  refine ⟨hs.length+1,(B6 hs hw.1.2.1.1 _ 0 o (by omega) (by omega) hl).trans ?_⟩
  rw[← hy]
  rfl
 ·rintro ⟨⟨⟨(a0:Int),(a1:Int),⟨(a2:Bool),(a3:LI),⟨⟩⟩,⟨(a4:Bool),(a5:LI),⟨⟩⟩,(a6:List bI),⟨⟩⟩,⟨⟩⟩,⟨⟩⟩ out hw ho
  obtain ⟨hg,ho⟩:=Tr.guard ho
  cases ho
  refine (Fy a0 a1 a2 a3 a4 a5 a6).trans ?_
  have ha1:aS .i32 a1:=hw.1.1.2.1
  have ha1 : -2147483648≤a1∧a1≤2147483647:=by simpa [aS,IntKind.min,IntKind.max,IntKind.signed,IntKind.bits] using ha1
  have hg:(aG (a0,a1,(a2,a3,()),(a4,a5,()),a6,())).length≤4294967000:=of_decide_eq_true hg
  show _=oR (((cJ (a0,a1,(a2,a3,()),(a4,a5,()),a6,())).1,(cJ (a0,a1,(a2,a3,()),(a4,a5,()),a6,())).2,()),())
  have eb:aG (a0,a1,(a2,a3,()),(a4,a5,()),a6,())=[0]++dp [a0,a1]++aq (a2,a3,())++aq (a4,a5,())++am (ai a6.length)++az a6:=by
   simp[aG,dp]
  have hl:=hg
  rw[eb] at hl
  simp only[zH] at hl
  unfold rI cJ
  rw[ag (n:=a1) (by omega) (by omega)]
  generalize hr:((a0,a1,(a2,a3,()),(a4,a5,()),a6,()):fQ)=r at *
  by_cases h1:cL r=0
  rotate_left
  ·have ec:au r=cL r:=by unfold au;rw[if_pos h1]
   rw[aa (by simpa using h1),ec,if_neg h1]
  have ec:au r=if 16384<((aG r).length:Int) then 4 else 0:=by unfold au;rw[if_neg (av h1)]
  rw[ab (by simpa using h1),aa (by simp;omega),aa (by simp;omega),aa (by simp;omega),aa (by simp;omega)]
  unfold hC
  simp only[Tr.run_ite,Tr.run_ret]
  rw[if_pos (by simp;omega),← eb,ec]
  by_cases h2:16384<((aG r).length:Int)
  ·rw[aa (by simpa using h2),if_pos h2]
   rfl
  ·rw[ab (by simpa using h2),if_neg h2]
   rfl
abbrev lg:Io:=⟨[tD],[],[],[dO,dI],none⟩
def C4 (d:lg.In):Tr lg.Res:=.ite (cS d.1.1) (.ret (.ret (((aK d.1.1).1,(aK d.1.1).2,()),()))) .no
abbrev DC:List (Nat×Hc):=[(86,ah iG xr),(65,ah iI uU)]
def I1:Hd:=bV DC
def EJ:Lp:=cb []
def vf (a0 a1:Int)(a2:Bool)(a3:LI)(a4:Bool)(a5:LI)(a6:List bm.den):Option lg.Res:=bif cS (a0,a1,(a2,a3,()),(a4,a5,()),a6,()) then bif (cJ (a0,a1,(a2,a3,()),(a4,a5,()),a6,())).2 != 0 then oR (([],(cJ (a0,a1,(a2,a3,()),(a4,a5,()),a6,())).2,()),()) else bif decide ((am (ai (↑(cJ (a0,a1,(a2,a3,()),(a4,a5,()),a6,())).1.length:Int))).length+(cJ (a0,a1,(a2,a3,()),(a4,a5,()),a6,())).1.length≤4294967296) then oR ((am (ai (↑(cJ (a0,a1,(a2,a3,()),(a4,a5,()),a6,())).1.length:Int))++(cJ (a0,a1,(a2,a3,()),(a4,a5,()),a6,())).1,0,()),()) else none else none
theorem HN (a0 a1:Int)(a2:Bool)(a3:LI)(a4:Bool)(a5:LI)(a6:List bm.den):Io.run tt I1 dr EJ lg Tryd.f62 (((a0,a1,(a2,a3,()),(a4,a5,()),a6,()),()),())=vf a0 a1 a2 a3 a4 a5 a6:=by kernel_rfl
theorem Js:HcOk prog 62 (ah lg C4):=by
 refine cq (cs:=DC) (.cons Hp (.cons yp .nil)) (lp:=EJ) (fn:=Tryd.f62) lg (.done (by kernel_rfl)) C4 ?_
 rintro ⟨⟨⟨(a0:Int),(a1:Int),⟨(a2:Bool),(a3:LI),⟨⟩⟩,⟨(a4:Bool),(a5:LI),⟨⟩⟩,(a6:List bI),⟨⟩⟩,⟨⟩⟩,⟨⟩⟩ out hw ho
 obtain ⟨hg,ho⟩:=Tr.guard ho
 cases ho
 refine (HN a0 a1 a2 a3 a4 a5 a6).trans ?_
 show _=oR (((aK (a0,a1,(a2,a3,()),(a4,a5,()),a6,())).1,(aK (a0,a1,(a2,a3,()),(a4,a5,()),a6,())).2,()),())
 have hg:cS (a0,a1,(a2,a3,()),(a4,a5,()),a6,())=true:=hg
 unfold vf
 generalize ((a0,a1,(a2,a3,()),(a4,a5,()),a6,()):fQ)=r at *
 have hl:(aG r).length≤4294967000:=of_decide_eq_true hg
 rw[aa hg]
 by_cases h1:au r=0
 ·have e1:cJ r=(aG r,0):=by unfold cJ;rw[if_pos h1]
  have e2:aK r=(am (ai (aG r).length)++aG r,0):=by unfold aK;rw[if_pos h1]
  have:=nK (ai (aG r).length)
  rw[e1,e2]
  rw[ab (by rfl),aa (by simp;omega)]
 ·have e1:cJ r=([],au r):=by unfold cJ;rw[if_neg h1]
  have e2:aK r=([],au r):=by unfold aK;rw[if_neg h1]
  rw[e1,e2,aa (by simpa using h1)]
end
end Go.Proofs.YtcbcbjdobbgddaaDoor.Sym
namespace Go.Proofs.YtcbcbjdobbgddaaDoor.Sym
open Go
open Go.ChangeShapes Go.WideShapes Go.ChangeAt Go.RowKit
def dn (P:Program):Ty→(TypeId ⊕ (List Field×Nat))→Bool
 |.int k,.inl t=>match P.underlying t with
  |some (.int k')=>decide (k'=k)
  |_=>false
 |.bool,.inl t=>match P.underlying t with
  |some .bool=>true
  |_=>false
 |.str,.inl t=>match P.underlying t with
  |some .string=>true
  |_=>false
 |.sl e ty,.inl t=>match P.underlying t with
  |some (.slice e')=>(e' == e)&&(dn P ty (.inl e)&&((P.cellsOf e == ty.size)&&!(ty.size == 0)))
  |_=>false
 |.prod a b,.inl t=>match P.underlying t with
  |some (.struct fs)=>(P.cellsOf t == a.size+b.size)&&match fs.toList with
   |f::fs'=>(f.offset == 0)&&((P.cellsOf f.type == a.size)&&(dn P a (.inl f.type)&&dn P b (.inr (fs',a.size))))
   |[]=>false
  |_=>false
 |.unit,.inr ([],_)=>true
 |.prod a b,.inr (f::fs,off)=>(f.offset == off)&&((P.cellsOf f.type == a.size)&&(dn P a (.inl f.type)&&dn P b (.inr (fs,off+a.size))))
 |_,_=>false
def vO:(t:Ty)→t.den→Nat
 |.int _,_=>1
 |.bool,_=>1
 |.str,s=>List.length (α:=Int) s+1
 |.sl _ t,xs=>(List.map (vO t) xs).sum+1
 |.unit,_=>0
 |.prod a b,x=>vO a x.1+vO b x.2
 |.tree _ _,_=>0
def S0 (W:World)(b o:Nat):Prop:=∃v,W.cell? ⟨b,o,none⟩=some v
section
variable {P:Program} {W:World} {H:Type} {enc:TypeId×Value→H} {sp:Nat→Bool} {held:Bool}
theorem Dt {a:Addr}{n:Nat}{cs:List Value}(h:W.cells? 0 a n=some cs)(hn:0<n):a.spot=none∧cs.length=n∧At (S0 W) W a.block a.off cs:=by
 simp only[World.cells?,Nat.zero_le,if_true] at h
 have hl:=mapM_some_length h
 rw[List.length_range] at hl
 have hg:∀i,i<n→W.cell? (a.add i)=cs[i]?:=fun i hi=>mapM_some_get h i i (by simp[hi])
 have hsp:a.spot=none:=by
  have h0:=hg 0 hn
  rw[List.getElem?_eq_getElem (by omega)] at h0
  unfold World.cell? at h0
  split at h0
  ·split at h0
   ·cases h0
   ·rename_i hs
    cases e:a.spot with
    |none=>rfl
    |some x=>simp[Addr.add,e] at hs
  ·cases h0
 refine ⟨hsp,hl,fun j v hv=>?_⟩
 have hj:j<n:=by rw[← hl];exact (List.getElem?_eq_some_iff.1 hv).1
 have:=hg j hj
 rw[hv] at this
 have e:a.add j=⟨a.block,a.off+j,none⟩:=by
  obtain ⟨b,o,s⟩:=a
  simp only at hsp
  subst hsp
  exact Addr.add_plain ..
 rw[e] at this
 exact ⟨⟨v,this⟩,this⟩
theorem m8 (ub:DataW H→Nat)(uba:List (DataW H)→Nat)(u1:∀l,1≤ub (.lit l))(u2:∀bs,bs.length+1≤ub (.lit (.string bs)))(u3:1≤ub .nil)(u4:∀es ss,uba es+1≤ub (.slice es ss))(u5:∀ps,uba ps≤ub (.agg ps))
  (u6:∀d ds,uba (d::ds)=ub d+uba ds) (u7:uba []=0):
  ∀(ty:Ty),(∀(t:TypeId),dn P ty (.inl t)=true→∀(fuel:Nat) (cs:List Value) (x:DataW H×List MemPlace),DataW.trod enc P W 0 sp held fuel t cs=some x→∃y:ty.den,Rt (S0 W) W ty y cs∧vO ty y≤ub x.1)∧
   (∀(fs:List Field) (off:Nat),dn P ty (.inr (fs,off))=true→∀(fuel:Nat) (cs:List Value) (xs:List (DataW H×List MemPlace)),fs.mapM (fun f=>DataW.trod enc P W 0 sp held fuel f.type ((cs.drop f.offset).take (P.cellsOf f.type)))=some xs→
    (cs.drop off).length=ty.size→∃y:ty.den,Rt (S0 W) W ty y (cs.drop off)∧vO ty y≤uba (xs.map (·.1)))
 |.int k=>by
  refine ⟨fun t ht fuel cs x h=>?_,fun fs off ht=>by cases fs <;> simp[dn] at ht⟩
  simp only[dn] at ht
  split at ht
  ·rename_i k' hu
   have ht:=of_decide_eq_true ht
   subst ht
   obtain ⟨n2,rfl,rfl,hw⟩:=DataW.trod_int hu h
   refine ⟨n2,⟨rfl,?_⟩,u1 _⟩
   simpa [Lit.wf,aS] using hw
  ·cases ht
 |.bool=>by
  refine ⟨fun t ht fuel cs x h=>?_,fun fs off ht=>by cases fs <;> simp[dn] at ht⟩
  simp only[dn] at ht
  split at ht
  ·rename_i hu
   obtain ⟨b,rfl,rfl⟩:=DataW.trod_bool hu h
   exact ⟨b,rfl,u1 _⟩
  ·cases ht
 |.str=>by
  refine ⟨fun t ht fuel cs x h=>?_,fun fs off ht=>by cases fs <;> simp[dn] at ht⟩
  simp only[dn] at ht
  split at ht
  ·rename_i hu
   obtain ⟨s,rfl,rfl,hl⟩:=DataW.trod_string hu h
   refine ⟨gN s,⟨by rw[jQ],oC s,?_⟩,?_⟩
   ·have:(gN s).length=s.size:=by rw[← bO,jQ]
    rw[this];exact hl
   ·have:(gN s).length=s.data.toList.length:=by unfold gN;exact List.length_map _
    show (gN s).length+1≤_
    rw[this]
    exact u2 _
  ·cases ht
 |.unit=>by
  refine ⟨fun t ht=>by simp[dn] at ht,fun fs off ht fuel cs xs h hl=>?_⟩
  refine ⟨(),?_,Nat.zero_le _⟩
  exact zF hl
 |.sl e ty=>by
  refine ⟨fun t ht fuel cs x h=>?_,fun fs off ht=>by cases fs <;> simp[dn] at ht⟩
  simp only[dn] at ht
  split at ht
  ·rename_i e' hu
   simp only[zA,beq_iff_eq,Bool.not_eq_true',beq_eq_false_iff_ne] at ht
   obtain ⟨rfl,hT,hsz,hpos⟩:=ht
   have ih:=(m8 ub uba u1 u2 u3 u4 u5 u6 u7 ty).1 e' hT
   rcases DataW.trod_slice hu h with ⟨rfl,rfl⟩ | ⟨a,len,cap,elems,rest,n,_,rfl,rfl,hb,hl,hm,hlen,hel,_,_⟩
   ·exact ⟨[],⟨none,0,rfl,Nat.le_refl _,Nat.zero_le _,fun h=>absurd rfl h⟩,u3⟩
   ·have each:∀i,i<len→∃y:ty.den,(∃c,Rt (S0 W) W ty y c∧(i=0→a.spot=none)∧At (S0 W) W a.block (a.off+i*ty.size) c)∧∃d,elems[i]?=some d∧vO ty y≤ub d.1:=by
     intro i hi
     have h1:=hel i hi
     rw[List.getElem?_eq_getElem (by omega)] at h1
     obtain ⟨c,hc,hd⟩:=Option.bind_eq_some_iff.1 h1
     obtain ⟨y,hy,hs⟩:=ih _ _ _ hd
     rw[hsz] at hc
     obtain ⟨h2,h3,h4⟩:=Dt hc (by omega)
     have e1:(a.add (i*ty.size)).block=a.block:=by unfold Addr.add;split <;> rfl
     have e2:(a.add (i*ty.size)).off=a.off+i*ty.size:=by
      unfold Addr.add
      split
      ·rename_i h0;rw[h0];rfl
      ·rfl
     rw[e1,e2] at h4
     refine ⟨y,⟨c,hy,fun h0=>?_,h4⟩,elems[i],by simp,hs⟩
     subst h0
     simpa [Addr.add] using h2
    have mk:∀m,m≤len→∃ys:List ty.den,ys.length=m∧(∀i y,ys[i]?=some y→∃c,Rt (S0 W) W ty y c∧(i=0→a.spot=none)∧At (S0 W) W a.block (a.off+i*ty.size) c)∧(ys.map (vO ty)).sum≤uba ((elems.take m).map (·.1)):=by
     intro m
     induction m with
     |zero=>intro _;exact ⟨[],rfl,fun i y h=>by simp at h,by simp⟩
     |succ m ihm=>
      intro hm'
      obtain ⟨ys,g1,g2,g3⟩:=ihm (by omega)
      obtain ⟨y,g4,d,g5,g6⟩:=each m (by omega)
      refine ⟨ys++[y],by simp[g1],fun i z hz=>?_,?_⟩
      ·rw[List.getElem?_append] at hz
       split at hz
       ·exact g2 i z hz
       ·rename_i hlt
        have:i=m:=by
         have:=(List.getElem?_eq_some_iff.1 hz).1
         simp at this;omega
        subst this
        simp[g1] at hz
        subst hz
        exact g4
      ·have hap:∀(xs bs:List (DataW H)),uba (xs++bs)=uba xs+uba bs:=by
        intro xs bs
        induction xs with
        |nil=>simp[u7]
        |cons c xs ih=>rw[List.cons_append,u6,u6,ih];omega
       rw[List.take_add_one,g5]
       simp only[List.map_append,List.sum_append,hap,Option.toList,zL,List.map_nil,List.sum_cons,List.sum_nil,u6,u7]
       omega
    obtain ⟨ys,g1,g2,g3⟩:=mk len (Nat.le_refl _)
    refine ⟨ys,⟨some a,cap,by rw[g1],by omega,hm,fun hne=>?_⟩,?_⟩
    ·have h0:0<ys.length:=List.length_pos_iff.2 hne
     obtain ⟨c,_,hsp,_⟩:=g2 0 ys[0] (by simp)
     have hsp:=hsp rfl
     refine ⟨a.block,a.off,?_,fun i y hy=>?_⟩
     ·obtain ⟨b,o,s⟩:=a
      simp only at hsp
      rw[hsp]
     ·obtain ⟨c,hc,_,hat⟩:=g2 i y hy
      exact ⟨c,hc,hat⟩
    ·rw[List.take_of_length_le (by omega)] at g3
     show (ys.map (vO ty)).sum+1≤_
     exact Nat.le_trans (by omega) (u4 _ _)
  ·cases ht
 |.tree a e=>⟨fun t ht=>by simp[dn] at ht,fun fs off ht=>by cases fs <;> simp[dn] at ht⟩
 |.prod a b=>by
  have step:∀(f:Field) (fs:List Field) (off:Nat),((f.offset == off)&&((P.cellsOf f.type == a.size)&&(dn P a (.inl f.type)&&dn P b (.inr (fs,off+a.size)))))=true→
    ∀(fuel:Nat) (cs:List Value) (xs:List (DataW H×List MemPlace)),(f::fs).mapM (fun f=>DataW.trod enc P W 0 sp held fuel f.type ((cs.drop f.offset).take (P.cellsOf f.type)))=some xs→
    (cs.drop off).length=a.size+b.size→∃y:a.den×b.den,Rt (S0 W) W (.prod a b) y (cs.drop off)∧vO a y.1+vO b y.2≤uba (xs.map (·.1)):=by
   intro f fs off ht fuel cs xs h hl
   simp only[zA,beq_iff_eq] at ht
   obtain ⟨rfl,hs,hA,hB⟩:=ht
   simp only[List.mapM_cons,Option.bind_eq_bind,Option.bind_eq_some_iff] at h
   obtain ⟨x0,h0,xs',h1,h2⟩:=h
   simp only[Option.pure_def,zC] at h2
   subst h2
   rw[hs] at h0
   obtain ⟨y1,hy1,hd1⟩:=(m8 ub uba u1 u2 u3 u4 u5 u6 u7 a).1 f.type hA _ _ _ h0
   have hl2:(cs.drop (f.offset+a.size)).length=b.size:=by
    simp only[List.length_drop] at hl ⊢
    omega
   obtain ⟨y2,hy2,hd2⟩:=(m8 ub uba u1 u2 u3 u4 u5 u6 u7 b).2 fs _ hB _ _ _ h1 hl2
   refine ⟨(y1,y2),⟨_,_,?_,hy1,hy2⟩,?_⟩
   ·rw[← List.drop_drop,List.take_append_drop]
   ·simp only[zL,u6]
    omega
  refine ⟨fun t ht fuel cs x h=>?_,fun fs off ht fuel cs xs h hl=>?_⟩
  ·simp only[dn] at ht
   split at ht
   ·rename_i fs hu
    simp only[zA,beq_iff_eq] at ht
    obtain ⟨hsz,ht⟩:=ht
    split at ht
    ·rename_i f fs' hfs
     cases fuel with
     |zero=>simp[DataW.trod] at h
     |succ n=>
      unfold DataW.trod at h
      rw[hu] at h
      simp only at h
      split at h
      ·rename_i hlen
       obtain ⟨xs,hxs,rfl⟩:=Option.map_eq_some_iff.1 h
       rw[hfs] at hxs
       obtain ⟨y,hy,hd⟩:=step f fs' 0 (by simpa using ht) n cs xs hxs (by simpa [hsz] using hlen)
       exact ⟨y,by simpa using hy,Nat.le_trans hd (u5 _)⟩
      ·cases h
    ·cases ht
   ·cases ht
  ·cases fs with
   |nil=>simp[dn] at ht
   |cons f fs=>exact step f fs off (by simpa only [dn] using ht) fuel cs xs h hl
theorem Kl {ty:Ty}{t:TypeId}(ht:dn P ty (.inl t)=true){fuel:Nat}{cs:List Value}{d:DataW H}{ps:List MemPlace}(h:DataW.trod enc P W 0 sp held fuel t cs=some (d,ps)):∃y:ty.den,Rt (S0 W) W ty y cs∧vO ty y≤Rows.uptoBulk d:=
 (m8 Rows.uptoBulk Rows.uptoBulkAll (fun l=>by cases l <;> simp[Rows.uptoBulk]) (fun bs=>by simp[Rows.uptoBulk]) (by simp[Rows.uptoBulk]) (fun es ss=>by simp[Rows.uptoBulk]) (fun ps=>by simp[Rows.uptoBulk]) (fun d ds=>by simp[Rows.uptoBulkAll]) (by simp[Rows.uptoBulkAll]) ty).1 t ht fuel cs _ h
theorem nW {t:Ty}(hp:∀x:t.den,1≤vO t x):∀xs:List t.den,xs.length≤(xs.map (vO t)).sum
 |[]=>by simp
 |x::xs=>by
  have:=nW hp xs
  have:=hp x
  simp only[zN,zL,List.sum_cons]
  omega
theorem GF {e:Nat}{k:IntKind}(xs:(Ty.sl e (.int k)).den):List.length xs≤vO (.sl e (.int k)) xs:=by
 have:=nW (t:=.int k) (fun _=>Nat.le_refl 1) xs
 show _≤(List.map (vO (.int k)) xs).sum+1
 exact Nat.le_trans this (Nat.le_succ _)
def G0 (W:World):Gh:=⟨S0 W,fun _=>none,fun _=>none⟩
def F0 (W:World):Fra:=⟨W,fun _=>False,S0 W,fun _=>none⟩
theorem KH (h:∀g,Ik g=false)(W:World):ii (S0 W) W:=fun g i hg _=>absurd hg (by rw[h g];decide)
theorem KU (W:World)(htab:ii (S0 W) W):Rel (F0 W) (G0 W) ⟨[],[],[]⟩ #[] [] W where
 tm:=trivial
 stk:=trivial
 ob:=fun k cs h=>by simp at h
 gh:=⟨fun _ _ h=>(by cases h),fun _ _ _ h=>(by cases h),fun _ _ _ h=>(by cases h),fun _ _ _ _ _ h=>(by cases h),fun b o h=>(by
   obtain ⟨v,h⟩:=h
   unfold World.cell? at h
   split at h
   ·rename_i e
    exact (Array.getElem?_eq_some_iff.1 e).1
   ·cases h),⟨rfl,rfl,rfl,Nat.le_refl _,fun _ _ _=>rfl⟩,fun _ _ h=>h,fun _ _ h=>.inl h,fun _ _ _=>rfl,fun _ _ h=>(by cases h),htab⟩
def B4 (oc:Oc)(A:AS):Option Unit:=match oc with
 |.ret (.one (.bool true)) _=>some ()
 |_=>none
theorem B5 {f:Nat}{io:Io}{Fn:io.In→Tr io.Res}(hok:HcOk P f (ah io Fn)){args:List V}{vals:Array Value}(hargs:All2 (Rv (G0 W) W) args vals.toList)(hrun:ah io Fn Unit args 1 ⟨[],[],[]⟩ B4=some ())(htab:ii (S0 W) W:=by exact KH (fun _=>rfl) _):
  Calls P f vals W fun e w'=>e=.returned (.bool true)∧w'.os=W.os∧w'.output=W.output∧∀i,i<W.heap.size→w'.heap[i]?=W.heap[i]?:=by
 refine (hok Unit args 1 _ B4 () (F0 W) (G0 W) #[] [] W vals (fun _=>rfl) hrun (KU W htab) hargs).2.mono ?_
 rintro e w' ⟨G',A',v,u,R',hv,h⟩
 have hfr:=R'.gh.fr
 refine ⟨?_,hfr.os,hfr.output,fun i hi=>hfr.block i hi (fun h=>h)⟩
 rcases h with ⟨rfl,ks,_,hk⟩ | ⟨rfl,hk⟩
 ·unfold B4 at hk
  split at hk
  ·rename_i e
   cases e
   rw[show u=.bool true from hv]
  ·cases hk
 ·cases hk
def Di (ty:Ty)(y:ty.den):V:=bif ty.isProd then .agg (m7 ty y) else match m7 ty y with
 |[c]=>.one c
 |_=>.any
theorem xG {G:Gh}{ty:Ty}{y:ty.den}{v:Value}(h:Rt G.S W ty y v.cells.toList)(hp:ty.isProd=true→∃vs,v=.agg vs)(hn:ty.isProd=false→v.cells = #[v]):Rv G W (Di ty y) v:=by
 have hs:=b9 (G:=G) (w:=W) ty y _ h
 unfold Di
 cases hb:ty.isProd with
 |true=>
  obtain ⟨vs,rfl⟩:=hp hb
  exact ⟨vs,rfl,hs⟩
 |false=>
  rw[hn hb] at hs
  simp only[cond_false]
  split
  ·rename_i c e
   rw[e] at hs
   exact hs.1
  ·trivial
theorem BE {ty:Ty}{t:TypeId}(ht:dn P ty (.inl t)=true){r:Reach}{base:Nat}{v:Value}(hval:Value.okWide P W r base t v):(ty.isProd=true→∃vs,v=.agg vs)∧(ty.isProd=false→v.cells = #[v]):=by
 cases ty with
 |tree a e=>simp[dn] at ht
 |int k=>
  refine ⟨fun h=>(by cases h),fun _=>?_⟩
  simp only[dn] at ht
  split at ht
  ·rename_i k' hu
   cases v <;> simp[Value.okWide,hu,Cell.okWide,Cell.ok] at hval <;> rfl
  ·cases ht
 |bool=>
  refine ⟨fun h=>(by cases h),fun _=>?_⟩
  simp only[dn] at ht
  split at ht
  ·rename_i hu
   cases v <;> simp[Value.okWide,hu,Cell.okWide,Cell.ok] at hval <;> rfl
  ·cases ht
 |str=>
  refine ⟨fun h=>(by cases h),fun _=>?_⟩
  simp only[dn] at ht
  split at ht
  ·rename_i hu
   cases v <;> simp[Value.okWide,hu,Cell.okWide,Cell.ok] at hval <;> rfl
  ·cases ht
 |sl e ty=>
  refine ⟨fun h=>(by cases h),fun _=>?_⟩
  simp only[dn] at ht
  split at ht
  ·rename_i e' hu
   cases v <;> simp[Value.okWide,hu,Cell.okWide,Cell.ok] at hval <;> rfl
  ·cases ht
 |unit=>simp[dn] at ht
 |prod a b=>
  refine ⟨fun _=>?_,fun h=>(by cases h)⟩
  simp only[dn] at ht
  split at ht
  ·rename_i fs hu
   simp only[Value.okWide,hu] at hval
   obtain ⟨cs,rfl,_⟩:=hval
   exact ⟨cs,rfl⟩
  ·cases ht
def pq (P:Program):Bool:=(List.range P.types.size).all fun t=>match P.underlying t with
 |some (.slice e)=>decide (0<P.cellsOf e)
 |_=>true
theorem rx (hl:laidOutB P=true)(hm:mapsRowed P=true)(hs:pq P=true){W':World}(hk:∀i,i<W.heap.size→W'.heap[i]?=W.heap[i]?):∀{ts:List TypeId} {vs:List Value} {ds:List (DataW H)} {ps:List MemPlace},
  (∀t∈ts,t<P.types.size)→DataW.TrodAll enc P W 0 (fun _=>true) true ts vs ds ps→(∀p∈ps,sp p.block=true)→DataW.TrodAll enc P W' 0 sp true ts vs ds ps
 |[],[],[],_,_,h,_=>h
 |t::ts,v::vs,d::ds,ps,hT,⟨p,q,⟨fuel,h1⟩,h2,e⟩,hsp=>by
  refine ⟨p,q,⟨fuel,DataW.trod_stays (kids_rows hl hm) (fun {t e} ht hu=>?_) (fun h=>(by cases h)) (hT t (by simp)) h1 (fun x hx=>?_) fun x hx=>hsp x (by rw[e];exact List.mem_append_left _ hx)⟩,
   rx hl hm hs hk (fun t ht=>hT t (by simp[ht])) h2 (fun x hx=>hsp x (by rw[e];exact List.mem_append_right _ hx)),e⟩
  ·have:=List.all_eq_true.1 hs t (by simpa using ht)
   rw[hu] at this
   exact of_decide_eq_true this
  ·have hb:=DataW.trod_lt _ _ _ _ h1 x hx
   cases x with
   |cell b off=>simp[World.sameAt,World.cell?,hk b hb]
   |map b=>exact hk b hb
 |[],[],_::_,_,_,h,_=>h.elim
 |[],_::_,_,_,_,h,_=>h.elim
 |_::_,[],_,_,_,h,_=>h.elim
 |_::_,_::_,[],_,_,h,_=>h.elim
theorem Fm {f:Func}{s:ChangeSpec}{apart fresh handsOn again:Bool}{W':World}{args:Array Value}{ds gs:List (DataW H)}{before:List MemPlace}
  (hl:laidOutB P=true) (hm:mapsRowed P=true) (hs:pq P=true) (hT:∀t∈f.params.toList,t<P.types.size) {tb:TypeId} (hr:f.resultTypes = #[tb]) (htb:P.underlying tb=some .bool) (hv:s.vars=[])
  (hW:DataW.Whole enc P f.params.toList s.vars apart W args.toList ds gs before) (hfn:s.fn H (ds++gs)={ results:=[.lit (.bool true)],args:=ds })
  (hos:W'.os=W.os) (hout:W'.output=W.output) (hk:∀i,i<W.heap.size→W'.heap[i]?=W.heap[i]?):s.post enc P f apart fresh handsOn again W args (.bool true) W':=by
 have hlt:=hW.lt
 obtain ⟨p,q,hA,hV,hpq,hfz,hnd⟩:=id hW
 rw[hv] at hV
 obtain ⟨rfl,rfl⟩:=trodVars_none hV
 rw[List.append_nil] at hpq
 subst hpq
 have hres:∀(b:Nat) (sp:Nat→Bool) (hd:Bool),DataW.TrodAll enc P W' b sp hd f.resultTypes.toList ((Value.bool true).resultList f.resultTypes.size) [.lit (.bool true)] []:=by
  intro b sp hd
  rw[hr]
  exact trodAll_cons_mk (shut_bool htb _) trodAll_mk0
 have hargs:∀sp:Nat→Bool,(∀x∈before,sp x.block=true)→DataW.TrodAll enc P W' 0 sp true f.params.toList args.toList ds before:=
  fun sp hsp=>rx hl hm hs hk hT hA hsp
 have hvars:∀sp:Nat→Bool,DataW.TrodVars enc P W' sp s.vars [] []:=by
  intro sp
  rw[hv]
  rfl
 have hold:∀x∈before,(fun b=>decide (b<W.heap.size)) x.block=true:=fun x hx=>by simpa using hlt x hx
 have hkept:∀may:MemPlace→Prop,W.keptBut W' may:=fun may=>⟨hos,hout,fun i hi=>by
  rw[hk i hi]
  cases h:W.heap[i]? with
  |none=>rfl
  |some o=>cases o <;> simp⟩
 refine ⟨ds,[],before,[],before,[],hW,by rw[hfn];exact hres _ _ _,by rw[hfn];exact hargs _ hold,by rw[hfn];exact hvars _,hkept _,fun _=>?_⟩
 refine ⟨ok_one hr rfl (okWide_bool_mk htb true),[.lit (.bool true)]++ds,[],[]++before,⟨[]++before,[],trodAll_append (hargs _ fun _ _=>rfl) (hres _ _ _),hvars _,by simp,fun b off hx=>?_,fun ha=>by simpa using hnd ha⟩,fun x hx _=>by simpa using hx⟩
 have hx:MemPlace.cell b off∈before:=by simpa using hx
 rw[← hfz b off hx]
 simp[World.frozen?,hk b (hlt _ hx)]
@[reducible] def nb:List Ty→Type
 |[]=>Unit
 |t::ts=>t.den×nb ts
def zl:(tys:List Ty)→nb tys→List V
 |[],_=>[]
 |t::ts,y=>Di t y.1::zl ts y.2
def DZ:(tys:List Ty)→nb tys→Nat
 |[],_=>0
 |t::ts,y=>vO t y.1+DZ ts y.2
def K0:(tys:List Ty)→nb tys→Prop
 |[],_=>True
 |t::ts,y=>t.wf y.1∧K0 ts y.2
def Hm (P:Program):List Ty→List TypeId→Bool
 |[],[]=>true
 |ty::tys,t::ts=>dn P ty (.inl t)&&Hm P tys ts
 |_,_=>false
theorem uW {r:Reach}{base:Nat}:∀(tys:List Ty) (ts:List TypeId),Hm P tys ts=true→∀{vs:List Value} {ds:List (DataW H)} {ps:List MemPlace},DataW.TrodAll enc P W 0 sp held ts vs ds ps→
  (∀(j:Nat) t v,ts[j]?=some t→vs[j]?=some v→Value.okWide P W r base t v)→
  ∃ys:nb tys,All2 (Rv (G0 W) W) (zl tys ys) vs∧DZ tys ys≤Rows.uptoBulkAll ds∧K0 tys ys∧ds.length=tys.length
 |[],[],_,[],[],_,_,_=>⟨(),trivial,Nat.zero_le _,trivial,rfl⟩
 |ty::tys,t::ts,ht,v::vs,d::ds,_,⟨p,q,⟨fuel,h1⟩,h2,_⟩,hv=>by
  simp only[Hm,zA] at ht
  obtain ⟨y,hy,hs⟩:=Kl ht.1 h1
  obtain ⟨k1,k2⟩:=BE ht.1 (hv 0 t v rfl rfl)
  obtain ⟨ys,g1,g2,g3,g4⟩:=uW tys ts ht.2 h2 fun j t' v' e1 e2=>hv (j+1) t' v' (by simpa using e1) (by simpa using e2)
  refine ⟨(y,ys),⟨xG hy k1 k2,g1⟩,?_,⟨Rt.wf ty y _ hy,g3⟩,by simp[g4]⟩
  simp only[DZ,Rows.uptoBulkAll]
  omega
 |[],[],_,[],_::_,_,h,_=>h.elim
 |[],[],_,_::_,_,_,h,_=>h.elim
 |_::_,_::_,_,[],_,_,h,_=>h.elim
 |_::_,_::_,_,_::_,[],_,h,_=>h.elim
 |[],_::_,h,_,_,_,_,_=>by cases h
 |_::_,[],h,_,_,_,_,_=>by cases h
theorem t4 {fn:Func}{f:Nat}{io:Io}{Fn:io.In→Tr io.Res}(hok:HcOk P f (ah io Fn)){s:ChangeSpec}(tys:List Ty)(hts:Hm P tys fn.params.toList=true)
  (hl:laidOutB P=true) (hm:mapsRowed P=true) (hs:pq P=true) (hT:∀t∈fn.params.toList,t<P.types.size) {tb:TypeId} (hr:fn.resultTypes = #[tb]) (htb:P.underlying tb=some .bool) (hv:s.vars=[])
  (hfn:∀ds:List (DataW H),ds.length=tys.length→s.fn H ds={ results:=[.lit (.bool true)],args:=ds })
  (hrun:∀ys:nb tys,DZ tys ys≤1048576→K0 tys ys→ah io Fn Unit (zl tys ys) 1 ⟨[],[],[]⟩ B4=some ())
  (base:Nat) (args:Array Value) (ds gs:List (DataW H)) (before:List MemPlace)
  (hval:∀(j:Nat) t v,fn.params[j]?=some t→args[j]?=some v→Value.okWide P W .any base t v)
  (hW:DataW.Whole enc P fn.params.toList s.vars false W args.toList ds gs before) (hk:Rows.uptoSmall H (ds++gs)=true) (htab:ii (S0 W) W:=by exact KH (fun _=>rfl) _):
  Calls P f args W fun e W'=>∃v,e=.returned v∧s.post enc P fn false true false false W args v W':=by
 have hW':=hW
 obtain ⟨p,q,hA,hV,_,_,_⟩:=hW
 rw[hv] at hV
 obtain ⟨rfl,rfl⟩:=trodVars_none hV
 obtain ⟨ys,g1,g2,g3,g4⟩:=uW tys fn.params.toList hts hA fun j t v e1 e2=>hval j t v (by simpa using e1) (by simpa using e2)
 have hb:Rows.uptoBulkAll ds≤1048576:=by simpa [Rows.uptoSmall] using hk
 refine (B5 hok (vals:=args) (args:=zl tys ys) g1 (hrun ys (by omega) g3) htab).mono ?_
 rintro e W' ⟨rfl,hos,hout,hkeep⟩
 exact ⟨_,rfl,Fm hl hm hs hT hr htb hv hW' (by rw[List.append_nil];exact hfn ds g4) hos hout hkeep⟩
end
end Go.Proofs.YtcbcbjdobbgddaaDoor.Sym
namespace Go.Proofs.YtcbcbjdobbgddaaDoor.Sym
open Go
noncomputable section
section
variable {P:Program} {tt:TT}
end
end
end Go.Proofs.YtcbcbjdobbgddaaDoor.Sym
namespace Go.Proofs.YtcbcbjdobbgddaaDoor.Sym
open Go
def Ty.flatB:Ty→Bool
 |.sl _ _=>false
 |.tree _ _=>false
 |.prod a b=>a.flatB&&b.flatB
 |_=>true
theorem Rt.flat {S S':Nat→Nat→Prop}{w w':World}:∀(t:Ty) (x:t.den) (cs:List Value),t.flatB=true→Rt S w t x cs→Rt S' w' t x cs
 |.int _,_,_,_,h=>h
 |.bool,_,_,_,h=>h
 |.str,_,_,_,h=>h
 |.unit,_,_,_,h=>h
 |.prod a b,_,_,hf,⟨c1,c2,e,h1,h2⟩=>by
  simp only[Ty.flatB,zA] at hf
  exact ⟨c1,c2,e,Rt.flat a _ _ hf.1 h1,Rt.flat b _ _ hf.2 h2⟩
 |.sl _ _,_,_,hf,_=>by cases hf
 |.tree _ _,_,_,hf,_=>by cases hf
noncomputable section
structure Grown (w w':World):Prop where
 os:w'.os=w.os
 tape:w'.tape=w.tape
 output:w'.output=w.output
 size:w.heap.size≤w'.heap.size
 old:∀k,k<w.heap.size→w'.heap[k]?=w.heap[k]?
theorem Grown.cell {w w':World}(g:Grown w w'){b o:Nat}(hb:b<w.heap.size):w'.cell? ⟨b,o,none⟩=w.cell? ⟨b,o,none⟩:=by
 simp[World.cell?,g.old b hb]
section
variable {F:Fra} {G:Gh} {w w':World}
def Gh.owned (G:Gh)(i:Nat)(o:Option Nat):Gh:=⟨G.S,G.mu,fun j=>if j=i then o.map (·,0) else G.ow j⟩
variable {G':Gh}
def OwnsTo (G' H:Gh)(l:List Nat):Prop:=∀j∈l,j≠0∧∀b n,G'.ow j=some (b,n)→H.ow j=some (b,0)
theorem OwnsTo.l {H:Gh}{l l':List Nat}(h:OwnsTo G' H (l++l')):OwnsTo G' H l:=fun j hj=>h j (List.mem_append_left _ hj)
theorem OwnsTo.r {H:Gh}{l l':List Nat}(h:OwnsTo G' H (l++l')):OwnsTo G' H l':=fun j hj=>h j (List.mem_append_right _ hj)
end
end
end Go.Proofs.YtcbcbjdobbgddaaDoor.Sym
namespace Go.Proofs.YtcbcbjdobbgddaaDoor.Sym
open Go
noncomputable section
theorem Av {w:World}{b:Nat}{o:Obj}(h:w.heap[b]?=some o):b<w.heap.size:=(Array.getElem?_eq_some_iff.1 h).1
theorem Grown.refl (w:World):Grown w w:=⟨rfl,rfl,rfl,Nat.le_refl _,fun _ _=>rfl⟩
end
end Go.Proofs.YtcbcbjdobbgddaaDoor.Sym
namespace Go.Proofs.YtcbcbjdobbgddaaDoor.Sym
open Go
open Go.IntKind (i8 i16 i32 i64 u8 u16 u32 u64)
noncomputable section
abbrev Hl:List Sh:=[dO,dI]
abbrev KN:Sh:=.dat (.int .i16) false false
abbrev GD:Sh:=.dat (.int .i32) false false
abbrev Kj:Sh:=.dat (.int .u64) false false
def ap (v:Int):Nat→LI
 |0=>[]
 |n+1=>(v / 256 ^ n) % 256::ap v n
theorem be (v:Int):∀n,(ap v n).length=n
 |0=>rfl
 |n+1=>by rw[ap,zN,be v n]
def b8 (b:LI)(most v:Int)(n:Nat):Int×LI:=if most - b.length<n then (10,b) else (0,b++ap v n)
def cA (b:LI)(most:Int):Bool:=decide (b.length≤4294960000)&&(decide (0≤most)&&decide (most≤(1048576:Int)))
abbrev gE:Io:=⟨[.ptr 0 0],[Hl],[],[dI],none⟩
def tn (d:gE.In):Tr gE.Res:=.ret (.ret ((i64.wrap (d.2.1.2.1 - d.2.1.1.length),()),((d.2.1.1,(d.2.1.2.1,())),())))
abbrev Af:List (Nat×Hc):=[]
def Ha:Hd:=bV Af
def AX:Lp:=cb []
def BI (a0:LI)(a1:Int):Option gE.Res:=oR ((i64.wrap (a1 - (↑a0.length:Int)),()),(a0,a1,()),())
theorem FP (a0:LI)(a1:Int):Io.run tt Ha dr AX gE Tryd.f67 (((),()),(a0,a1,()),())=BI a0 a1:=by kernel_rfl
theorem Bj:HcOk prog 67 (ah gE tn):=by
 refine cq (cs:=Af) HcsOk.nil (lp:=AX) (fn:=Tryd.f67) gE (.done (by kernel_rfl)) tn ?_
 rintro ⟨⟨⟨⟩,⟨⟩⟩,⟨⟨(b:LI),(m:Int),⟨⟩⟩,⟨⟩⟩⟩ out hw ho
 rw[← ho]
 exact FP b m
abbrev cP:Io:=⟨[.ptr 0 0,Kj,dI],[Hl],[],[dI],none⟩
def ie (d:cP.In):Tr cP.Res:=
 .ite (cA d.2.1.1 d.2.1.2.1&&(decide ((0:Int)≤d.1.2.2.1)&&decide (d.1.2.2.1≤(8:Int)))) (.ret (.ret (((b8 d.2.1.1 d.2.1.2.1 d.1.2.1 d.1.2.2.1.toNat).1,()),(((b8 d.2.1.1 d.2.1.2.1 d.1.2.1 d.1.2.2.1.toNat).2,(d.2.1.2.1,())),())))) .no
abbrev sj:List (Nat×Hc):=[(67,ah gE tn)]
def sy:Hd:=bV sj
abbrev ci:Lo:=⟨⟨(.one (.ptr 0 0)::.one (.hol (.int u64))::.any::di (.one hI::an (fH []))),[some [.onl 5 (Ty.int u8) 2,hI]]⟩,[(.exit 0,⟨(an (an ([]))),[some [.onl 5 (Ty.int u8) 2,hI]]⟩)]⟩
def fO (d:ci.st.den):Tr (aA ci.xs):=
 .ite (decide (-1≤d.1.2.1)&&(decide (d.1.2.1≤7)&&decide (d.2.1.1.length≤4294960000))) (.ret (.ret ((),((),((d.2.1.1++ap d.1.1 (d.1.2.1+1).toNat,(d.2.1.2.1,())),()))))) .no
def km:Lp:=cb [(5,bg ci fO)]
def kP {R:Type}(h4 h5:Int)(h6:LI)(h7:Int)(next:Int→Int→LI→Int→Option R)(out:aA ci.xs→Option R):Option R:=bif decide (0≤h5) then bif decide (0≤i64.wrap (8*h5)) then bif !(0 == 1+29 || false)&&true&&decide (h6.length+[u8.wrap (dl u64 h4 (i64.wrap (8*h5)))].length≤4294967296) then next (h4) (i64.wrap (h5 - 1)) (h6++[u8.wrap (dl u64 h4 (i64.wrap (8*h5)))]) (h7) else none else none else out (.ret ((),((),((h6,(h7,())),()))))
def jO (n:Nat)(h4 h5:Int)(h6:LI)(h7:Int):Option (aA ci.xs):=kC tt sy dr km 1 Tryd.f66 (dD Tryd.f66 0) n (ci.st.mk' ((h4,(h5,())),((h6,(h7,())),()))) (cx ci.xs)
theorem wW (n:Nat)(h4 h5:Int)(h6:LI)(h7:Int):jO (n+1) h4 h5 h6 h7=kP h4 h5 h6 h7 (jO n) some:=by kernel_rfl
theorem FW {v:Int}(h0:0≤v)(h1:v≤18446744073709551615){i:Nat}(hi:i≤7):u8.wrap (dl .u64 v (i64.wrap (8*(i:Int))))=(v / 256 ^ i) % 256:=by
 rw[ag (n:=8*(i:Int)) (by omega) (by omega)]
 unfold dl
 have e:min (8*(i:Int)).toNat (u64).bits=8*i:=by
  show min (8*(i:Int)).toNat 64=8*i
  omega
 rw[e]
 have e2:(2:Int) ^ (8*i)=256 ^ i:=by rw[Int.pow_mul];rfl
 have hp:(0:Int)<256 ^ i:=Int.pow_pos (by decide)
 rw[e2,Int.fdiv_eq_ediv_of_nonneg _ (Int.le_of_lt hp)]
 have h3:0≤v / 256 ^ i:=Int.ediv_nonneg h0 (Int.le_of_lt hp)
 have h4:v / 256 ^ i≤v:=Int.ediv_le_self _ h0
 rw[bU (k:=.u64) (by simp[aS,IntKind.min,IntKind.max,IntKind.signed,IntKind.bits];omega)]
 simp[IntKind.wrap,IntKind.signed,IntKind.bits]
theorem wk {v:Int}(h0:0≤v)(h1:v≤18446744073709551615)(most:Int):∀(k m:Nat) (b:LI),m<k→m≤8→b.length+m≤4294967296→
  jO k v ((m:Int) - 1) b most=some (.ret ((),((),((b++ap v m,(most,())),())))):=by
 intro k
 induction k with
 |zero=>intro m b h;omega
 |succ k ih=>
  intro m b h2 h3 h4
  rw[wW]
  unfold kP
  cases m with
  |zero=>simp[ap]
  |succ m=>
   have e:((m+1:Nat):Int) - 1=(m:Int):=by omega
   rw[e,aa (by simp),ag (n:=(m:Int) - 1) (by omega) (by omega),FW h0 h1 (by omega),ag (n:=8*(m:Int)) (by omega) (by omega),aa (by simp;omega),aa (by simp;omega),ih m _ (by omega) (by omega) (by simp;omega)]
   simp[ap]
def nT (a0 a1:Int)(a2:LI)(a3:Int):Option cP.Res:=bif decide (i64.wrap (a3 - (↑a2.length:Int))<a1) then oR ((10,()),(a2,a3,()),()) else (fO ((a0,(i64.wrap (a1 - 1),())),((a2,(a3,())),()))).run fun y=>match y with | .ret ((),((),(x14,x15,()),()))=>(oR ((0,()),(x14,x15,()),()))
theorem yE (a0 a1:Int)(a2:LI)(a3:Int):Io.run tt sy dr km cP Tryd.f66 (((),a0,a1,()),(a2,a3,()),())=nT a0 a1 a2 a3:=by kernel_rfl
theorem n3:HcsOk prog sj:=.cons Bj .nil
theorem kv:HcOk prog 66 (ah cP ie):=by
 refine cq n3 (lp:=km) (fn:=Tryd.f66) cP (.step (h0:=bg ci fO) (by kernel_rfl) (lI n3 (lp:=km) (fn:=Tryd.f66) (.done (by kernel_rfl)) ci fO ?_) (.done (by kernel_rfl))) ie ?_
 ·rintro ⟨⟨(v:Int),(i:Int),⟨⟩⟩,⟨⟨(b:LI),(m:Int),⟨⟩⟩,⟨⟩⟩⟩ y hw hy
  obtain ⟨hg,hy⟩:=Tr.guard hy
  simp only[zA,zB] at hg
  have hv:aS .u64 v:=hw.1.1
  simp[aS,IntKind.min,IntKind.max,IntKind.signed,IntKind.bits] at hv
  have g1:(-1:Int)≤i:=hg.1
  have g2:i≤(7:Int):=hg.2.1
  have g3:b.length≤4294960000:=hg.2.2
  obtain ⟨n,hn⟩:∃n:Nat,i=(n:Int) - 1:=⟨(i+1).toNat,by omega⟩
  subst hn
  refine ⟨10,(wk hv.1 (by omega) m 10 n b (by omega) (by omega) (by omega)).trans ?_⟩
  rw[← hy,show ((n:Int) - 1+1).toNat=n by omega];rfl
 ·rintro ⟨⟨⟨⟩,(v:Int),(n:Int),⟨⟩⟩,⟨⟨(b:LI),(m:Int),⟨⟩⟩,⟨⟩⟩⟩ out hw ho
  obtain ⟨hg,ho⟩:=Tr.guard ho
  simp only[cA,zA,zB] at hg
  obtain ⟨⟨h1,h2,h3⟩,h4,h5⟩:=hg
  have h4:(0:Int)≤n:=h4
  have h5:n≤(8:Int):=h5
  cases ho
  refine (yE v n b m).trans ?_
  unfold nT fO
  simp only
  rw[ag (n:=m - (b.length:Int)) (by omega) (by omega),ag (n:=n - 1) (by omega) (by omega),show n - 1+1=n by omega]
  unfold b8
  by_cases hl:m - (b.length:Int)<n
  ·rw[aa (by simpa using hl),if_pos (by omega)]
  ·rw[ab (by simpa using hl),if_neg (by omega)]
   have:(decide (-1≤n - 1)&&(decide (n - 1≤7)&&decide (b.length≤4294960000)))=true:=by simp;omega
   rw[this]
   rfl
theorem mL (v:Int){n:Nat}(h:n≤8):ap (u64.wrap v) n=ap v n:=by
 have e:u64.wrap v=v % 18446744073709551616:=by simp[IntKind.wrap,IntKind.signed,IntKind.bits]
 rw[e]
 have key:∀k:Nat,k<8→(v % 18446744073709551616 / 256 ^ k) % 256=(v / 256 ^ k) % 256:=by
  intro k hk
  match k,hk with
  |0,_=>omega
  |1,_=>omega
  |2,_=>omega
  |3,_=>omega
  |4,_=>omega
  |5,_=>omega
  |6,_=>omega
  |7,_=>omega
 induction n with
 |zero=>rfl
 |succ n ih=>rw[ap,ap,key n (by omega),ih (by omega)]
abbrev lx:Io:=⟨[.ptr 0 0,KN],[Hl],[],[dI],none⟩
def zh (d:lx.In):Tr lx.Res:=
 .ite (cA d.2.1.1 d.2.1.2.1) (.ret (.ret (((b8 d.2.1.1 d.2.1.2.1 d.1.2.1 2).1,()),(((b8 d.2.1.1 d.2.1.2.1 d.1.2.1 2).2,(d.2.1.2.1,())),())))) .no
abbrev DO:List (Nat×Hc):=[(66,ah cP ie)]
def Jb:Hd:=bV DO
def ET:Lp:=cb []
def vq (a0:Int)(a1:LI)(a2:Int):Option lx.Res:=bif cA a1 a2&&(decide (0≤2)&&decide (2≤8)) then oR (((b8 a1 a2 (u64.wrap a0) (Int.toNat 2)).1,()),((b8 a1 a2 (u64.wrap a0) (Int.toNat 2)).2,a2,()),()) else none
theorem H7 (a0:Int)(a1:LI)(a2:Int):Io.run tt Jb dr ET lx Tryd.f39 (((),a0,()),(a1,a2,()),())=vq a0 a1 a2:=by kernel_rfl
theorem JB:HcOk prog 39 (ah lx zh):=by
 refine cq (cs:=DO) (.cons kv .nil) (lp:=ET) (fn:=Tryd.f39) lx (.done (by kernel_rfl)) zh ?_
 rintro ⟨⟨⟨⟩,(v:Int),⟨⟩⟩,⟨⟨(b:LI),(m:Int),⟨⟩⟩,⟨⟩⟩⟩ out hw ho
 obtain ⟨hg,ho⟩:=Tr.guard ho
 have hg:cA b m=true:=hg
 cases ho
 refine (H7 v b m).trans ?_
 unfold vq
 have e:b8 b m (u64.wrap v) 2=b8 b m v 2:=by unfold b8;rw[mL v (by decide)]
 simp[hg,e]
abbrev ly:Io:=⟨[.ptr 0 0,GD],[Hl],[],[dI],none⟩
def zi (d:ly.In):Tr ly.Res:=
 .ite (cA d.2.1.1 d.2.1.2.1) (.ret (.ret (((b8 d.2.1.1 d.2.1.2.1 d.1.2.1 4).1,()),(((b8 d.2.1.1 d.2.1.2.1 d.1.2.1 4).2,(d.2.1.2.1,())),())))) .no
abbrev DP:List (Nat×Hc):=[(66,ah cP ie)]
def Jc:Hd:=bV DP
def EU:Lp:=cb []
def vr (a0:Int)(a1:LI)(a2:Int):Option ly.Res:=bif cA a1 a2&&(decide (0≤4)&&decide (4≤8)) then oR (((b8 a1 a2 (u64.wrap a0) (Int.toNat 4)).1,()),((b8 a1 a2 (u64.wrap a0) (Int.toNat 4)).2,a2,()),()) else none
theorem H8 (a0:Int)(a1:LI)(a2:Int):Io.run tt Jc dr EU ly Tryd.f37 (((),a0,()),(a1,a2,()),())=vr a0 a1 a2:=by kernel_rfl
theorem JC:HcOk prog 37 (ah ly zi):=by
 refine cq (cs:=DP) (.cons kv .nil) (lp:=EU) (fn:=Tryd.f37) ly (.done (by kernel_rfl)) zi ?_
 rintro ⟨⟨⟨⟩,(v:Int),⟨⟩⟩,⟨⟨(b:LI),(m:Int),⟨⟩⟩,⟨⟩⟩⟩ out hw ho
 obtain ⟨hg,ho⟩:=Tr.guard ho
 have hg:cA b m=true:=hg
 cases ho
 refine (H8 v b m).trans ?_
 unfold vr
 have e:b8 b m (u64.wrap v) 4=b8 b m v 4:=by unfold b8;rw[mL v (by decide)]
 simp[hg,e]
abbrev lz:Io:=⟨[.ptr 0 0,.dat (.int .i64) false false],[Hl],[],[dI],none⟩
def zj (d:lz.In):Tr lz.Res:=
 .ite (cA d.2.1.1 d.2.1.2.1) (.ret (.ret (((b8 d.2.1.1 d.2.1.2.1 d.1.2.1 8).1,()),(((b8 d.2.1.1 d.2.1.2.1 d.1.2.1 8).2,(d.2.1.2.1,())),())))) .no
abbrev DQ:List (Nat×Hc):=[(66,ah cP ie)]
def Jd:Hd:=bV DQ
def EV:Lp:=cb []
def vt (a0:Int)(a1:LI)(a2:Int):Option lz.Res:=bif cA a1 a2&&(decide (0≤8)&&decide (8≤8)) then oR (((b8 a1 a2 (u64.wrap a0) (Int.toNat 8)).1,()),((b8 a1 a2 (u64.wrap a0) (Int.toNat 8)).2,a2,()),()) else none
theorem H9 (a0:Int)(a1:LI)(a2:Int):Io.run tt Jd dr EV lz Tryd.f36 (((),a0,()),(a1,a2,()),())=vt a0 a1 a2:=by kernel_rfl
theorem JD:HcOk prog 36 (ah lz zj):=by
 refine cq (cs:=DQ) (.cons kv .nil) (lp:=EV) (fn:=Tryd.f36) lz (.done (by kernel_rfl)) zj ?_
 rintro ⟨⟨⟨⟩,(v:Int),⟨⟩⟩,⟨⟨(b:LI),(m:Int),⟨⟩⟩,⟨⟩⟩⟩ out hw ho
 obtain ⟨hg,ho⟩:=Tr.guard ho
 have hg:cA b m=true:=hg
 cases ho
 refine (H9 v b m).trans ?_
 unfold vt
 have e:b8 b m (u64.wrap v) 8=b8 b m v 8:=by unfold b8;rw[mL v (by decide)]
 simp[hg,e]
abbrev lA:Io:=⟨[dI],[],[Hl],[.ptr 0 0],none⟩
def Iz (d:lA.In):Tr lA.Res:=.ret (.ret (((),()),((([]:LI),(mR (eJ d.1.1 0) 1048576,())),())))
abbrev DR:List (Nat×Hc):=[]
def Je:Hd:=bV DR
def EW:Lp:=cb []
def Do (a0:Int):Option lA.Res:=oR (((),()),([],mR (eJ a0 0) 1048576,()),())
theorem Ia (a0:Int):Io.run tt Je dr EW lA Tryd.f35 ((a0,()),())=Do a0:=by kernel_rfl
theorem JE:HcOk prog 35 (ah lA Iz):=by
 refine cq (cs:=DR) HcsOk.nil (lp:=EW) (fn:=Tryd.f35) lA (.done (by kernel_rfl)) Iz ?_
 rintro ⟨⟨(m:Int),⟨⟩⟩,⟨⟩⟩ out hw ho
 rw[← ho]
 exact Ia m
abbrev gd:Io:=⟨[.ptr 0 0],[Hl],[],[dO],none⟩
def tl (d:gd.In):Tr gd.Res:=.ite (decide (d.2.1.1.length≤4294967296)) (.ret (.ret ((d.2.1.1,()),((d.2.1.1,(d.2.1.2.1,())),())))) .no
abbrev vJ:List (Nat×Hc):=[(44,ah du lV)]
def Ep:Hd:=bV vJ
def wy:Lp:=cb []
def xO (a0:LI)(a1:Int):Option gd.Res:=bif decide (a0.length≤4294967296) then oR ((a0,()),(a0,a1,()),()) else none
theorem Cx (a0:LI)(a1:Int):Io.run tt Ep dr wy gd Tryd.f43 (((),()),(a0,a1,()),())=xO a0 a1:=by kernel_rfl
theorem Fj:HcOk prog 43 (ah gd tl):=by
 refine cq (cs:=vJ) (.cons qn .nil) (lp:=wy) (fn:=Tryd.f43) gd (.done (by kernel_rfl)) tl ?_
 rintro ⟨⟨⟨⟩,⟨⟩⟩,⟨⟨(b:LI),(m:Int),⟨⟩⟩,⟨⟩⟩⟩ out hw ho
 obtain ⟨hg,ho⟩:=Tr.guard ho
 cases ho
 exact (Cx b m).trans (aa hg _ _)
def bk:List (LI)→Nat
 |[]=>0
 |p::ps=>p.length+bk ps
def eZ:List (LI)→LI
 |[]=>[]
 |p::ps=>p++eZ ps
def qJ (b:LI)(most:Int)(ps:List (LI)):Int×LI:=if most - b.length<bk ps then (10,b) else (0,b++eZ ps)
abbrev lB:Io:=⟨[.ptr 0 0,.dat (.sl 22 bs) false false],[Hl],[],[dI],none⟩
def zk (d:lB.In):Tr lB.Res:=
 .ite (cA d.2.1.1 d.2.1.2.1&&decide (bk d.1.2.1≤4294960000)) (.ret (.ret (((qJ d.2.1.1 d.2.1.2.1 d.1.2.1).1,()),(((qJ d.2.1.1 d.2.1.2.1 d.1.2.1).2,(d.2.1.2.1,())),())))) .no
abbrev DS:List (Nat×Hc):=[(67,ah gE tn)]
def xZ:Hd:=bV DS
abbrev eo:Lo:=⟨⟨(.one (.ptr 0 0)::.one (.hol (.sl 22 (Ty.sl 5 (Ty.int u8))))::.any::cr (.one hI::di (.one (.hol (.sl 22 (Ty.sl 5 (Ty.int u8))))::.one hI::.one hI::an (fH (di []))))),[some [.onl 5 (Ty.int u8) 2,hI]]⟩,[(.exit 0,⟨(.one (.ptr 0 0)::.one (.hol (.sl 22 (Ty.sl 5 (Ty.int u8))))::.any::cr (.one hI::.any::an (an (cr [])))),[some [.onl 5 (Ty.int u8) 2,hI]]⟩)]⟩
abbrev dg:Lo:=⟨⟨(.one (.ptr 0 0)::an (fH (.one (.hol (.sl 22 (Ty.sl 5 (Ty.int u8))))::.one hI::.one hI::.any::fH (di [])))),[some [.onl 5 (Ty.int u8) 2,hI]]⟩,[(.exit 2,⟨(.any::an (an (fH []))),[some [.onl 5 (Ty.int u8) 2,hI]]⟩)]⟩
def l3 (d:eo.st.den):Tr (aA eo.xs):=
 .ite (decide (d.1.2.1=0)&&(decide (d.1.2.2.2.2.1=0)&&(decide (d.1.2.2.2.1=(d.1.2.2.1.length:Int))&&decide (bk d.1.2.2.1≤4294960000)))) (.ret (.ret ((),((d.1.1,((bk d.1.2.2.1:Int),())),(d.2.1,()))))) .no
def jy (d:dg.st.den):Tr (aA dg.xs):=
 .ite (decide (d.1.2.2.1=0)&&(decide (d.1.2.1=(d.1.1.length:Int))&&decide (d.2.1.1.length+bk d.1.1≤4294967296))) (.ret (.ret ((),((),((d.2.1.1++eZ d.1.1,(d.2.1.2.1,())),()))))) .no
def nB:Lp:=cb [(4,bg eo l3),(11,bg dg jy)]
def qV {R:Type}(h3:List bs.den)(h4:Int)(h5:List bs.den)(h6 h7:Int)(h8:LI)(h9:Int)(next:List bs.den→Int→List bs.den→Int→Int→LI→Int→Option R)(out:aA eo.xs→Option R):Option R:=bif decide (h7<h6) then bif decide (0≤h7)&&decide (h7<(↑h5.length:Int)) then next (h3) (i64.wrap (h4+(↑(List.length (h5.getD h7.toNat [])):Int))) (h5) (h6) (i64.wrap (h7+1)) (h8) (h9) else none else out (.ret ((),((h3,(h4,())),((h8,(h9,())),()))))
def qi (n:Nat)(h3:List bs.den)(h4:Int)(h5:List bs.den)(h6 h7:Int)(h8:LI)(h9:Int):Option (aA eo.xs):=kC tt xZ dr nB 1 Tryd.f40 (dD Tryd.f40 0) n (eo.st.mk' ((h3,(h4,(h5,(h6,(h7,()))))),((h8,(h9,())),()))) (cx eo.xs)
theorem F3 (n:Nat)(h3:List bs.den)(h4:Int)(h5:List bs.den)(h6 h7:Int)(h8:LI)(h9:Int):qi (n+1) h3 h4 h5 h6 h7 h8 h9=qV h3 h4 h5 h6 h7 h8 h9 (qi n) some:=by kernel_rfl
def oA {R:Type}(h25:List (Ty.sl 5 (Ty.int u8)).den)(h26 h27:Int)(h28:LI)(h29:Int)(next:List (Ty.sl 5 (Ty.int u8)).den→Int→Int→LI→Int→Option R)(out:aA dg.xs→Option R):Option R:=bif decide (h27<h26) then bif decide (0≤h27)&&decide (h27<(↑h25.length:Int)) then bif decide (h28.length+List.length (h25.getD h27.toNat [])≤4294967296) then next (h25) (h26) (i64.wrap (h27+1)) (h28++h25.getD h27.toNat []) (h29) else none else none else out (.ret ((),((),((h28,(h29,())),()))))
def nz (n:Nat)(h25:List (Ty.sl 5 (Ty.int u8)).den)(h26 h27:Int)(h28:LI)(h29:Int):Option (aA dg.xs):=kC tt xZ dr nB 1 Tryd.f40 (dD Tryd.f40 1) n (dg.st.mk' ((h25,(h26,(h27,()))),((h28,(h29,())),()))) (cx dg.xs)
theorem CI (n:Nat)(h25:List (Ty.sl 5 (Ty.int u8)).den)(h26 h27:Int)(h28:LI)(h29:Int):nz (n+1) h25 h26 h27 h28 h29=oA h25 h26 h27 h28 h29 (nz n) some:=by kernel_rfl
theorem kN {ps:List (LI)}{i:Nat}(h:i<ps.length):bk (ps.drop i)=ps[i].length+bk (ps.drop (i+1)):=by rw[zE h];rfl
theorem w9 {ps:List (LI)}{i:Nat}(h:i<ps.length):eZ (ps.drop i)=ps[i]++eZ (ps.drop (i+1)):=by rw[zE h];rfl
theorem yl (ps0 ps:List (LI))(b:LI)(m:Int)(hl:ps.length≤maxLen):∀(k i s:Nat),ps.length<i+k→i≤ps.length→s+bk (ps.drop i)≤4294960000→
  qi k ps0 s ps (ps.length:Int) i b m=some (.ret ((),((ps0,(((s+bk (ps.drop i):Nat):Int),())),((b,(m,())),())))):=by
 intro k
 induction k with
 |zero=>intro i s h;omega
 |succ k ih=>
  intro i s h1 h2 h3
  rw[F3]
  unfold qV
  by_cases hi:i<ps.length
  ·rw[kN hi] at h3 ⊢
   have e:List.getD ps (i:Int).toNat []=ps[i]:=by simp only[zG,aR hi]
   rw[aa (by simpa using hi),aa (by simpa using hi),e,bH hi hl,ag (n:=(s:Int)+(List.length (α:=Int) ps[i]:Int)) (by omega) (by omega)]
   have e2:(s:Int)+(List.length (α:=Int) ps[i]:Int)=((s+ps[i].length:Nat):Int):=by omega
   rw[e2,ih (i+1) (s+ps[i].length) (by omega) (by omega) (by omega),Nat.add_assoc]
  ·rw[ab (by simp;omega),zI (by omega)]
   rfl
theorem wj (ps:List (LI))(m:Int)(hl:ps.length≤maxLen):∀(k i:Nat) (b:LI),ps.length<i+k→i≤ps.length→b.length+bk (ps.drop i)≤4294967296→
  nz k ps (ps.length:Int) i b m=some (.ret ((),((),((b++eZ (ps.drop i),(m,())),())))):=by
 intro k
 induction k with
 |zero=>intro i b h;omega
 |succ k ih=>
  intro i b h1 h2 h3
  rw[CI]
  unfold oA
  by_cases hi:i<ps.length
  ·rw[kN hi] at h3
   rw[w9 hi]
   have e:List.getD ps (i:Int).toNat []=ps[i]:=by simp only[zG,aR hi]
   rw[aa (by simpa using hi),aa (by simpa using hi),e,bH hi hl,aa (by simp;omega),ih (i+1) _ (by omega) (by omega) (by simp;omega),zK]
  ·rw[ab (by simp;omega),zI (by omega)]
   simp[eZ]
def vu (a0:List bs.den)(a1:LI)(a2:Int):Option lB.Res:=(l3 ((a0,(0,(a0,((↑a0.length:Int),(0,()))))),((a1,(a2,())),()))).run fun y=>match y with | .ret ((),((x21,x22,()),(x23,x24,()),()))=>(bif decide (i64.wrap (x24 - (↑x23.length:Int))<x22) then oR ((10,()),(x23,x24,()),()) else (jy ((x21,((↑x21.length:Int),(0,()))),((x23,(x24,())),()))).run fun y=>match y with | .ret ((),((),(x37,x38,()),()))=>(oR ((0,()),(x37,x38,()),())))
theorem Ib (a0:List bs.den)(a1:LI)(a2:Int):Io.run tt xZ dr nB lB Tryd.f40 (((),a0,()),(a1,a2,()),())=vu a0 a1 a2:=by kernel_rfl
theorem p6:HcsOk prog DS:=.cons Bj .nil
theorem JF:HcOk prog 40 (ah lB zk):=by
 refine cq p6 (lp:=nB) (fn:=Tryd.f40) lB (.step (h0:=bg eo l3) (by kernel_rfl) (lI p6 (lp:=nB) (fn:=Tryd.f40) (.done (by kernel_rfl)) eo l3 ?_) (.step (h0:=bg dg jy) (by kernel_rfl) (lI p6 (lp:=nB) (fn:=Tryd.f40) (.done (by kernel_rfl)) dg jy ?_) (.done (by kernel_rfl)))) zk ?_
 ·rintro ⟨⟨ps0,s,ps,n,i,⟨⟩⟩,⟨⟨b,m,⟨⟩⟩,⟨⟩⟩⟩ y hw hy
  obtain ⟨hg,hy⟩:=Tr.guard hy
  simp only[zA,zB] at hg
  obtain ⟨rfl,rfl,rfl,h4⟩:=hg
  refine ⟨ps.length+1,(yl ps0 ps b m hw.1.2.2.1.1 _ 0 0 (by omega) (by omega) (by simpa using h4)).trans ?_⟩
  rw[← hy,Nat.zero_add];rfl
 ·rintro ⟨⟨ps,n,i,⟨⟩⟩,⟨⟨b,m,⟨⟩⟩,⟨⟩⟩⟩ y hw hy
  obtain ⟨hg,hy⟩:=Tr.guard hy
  simp only[zA,zB] at hg
  obtain ⟨rfl,rfl,h4⟩:=hg
  refine ⟨ps.length+1,(wj ps m hw.1.1.1 _ 0 b (by omega) (by omega) (by simpa using h4)).trans ?_⟩
  rw[← hy];rfl
 ·rintro ⟨⟨⟨⟩,(ps:List (LI)),⟨⟩⟩,⟨⟨(b:LI),(m:Int),⟨⟩⟩,⟨⟩⟩⟩ out hw ho
  obtain ⟨hg,ho⟩:=Tr.guard ho
  simp only[cA,zA,zB] at hg
  obtain ⟨⟨h1,h2,h3⟩,h4⟩:=hg
  have h4:bk ps≤4294960000:=h4
  cases ho
  refine (Ib ps b m).trans ?_
  unfold vu
  have c1:(decide ((0:Int)=0)&&(decide ((0:Int)=0)&&(decide ((ps.length:Int)=(ps.length:Int))&&decide (bk ps≤4294960000))))=true:=by simp;omega
  have e1:l3 ((ps,(0,(ps,((ps.length:Int),(0,()))))),((b,(m,())),()))=.ite true (.ret (.ret ((),((ps,((bk ps:Int),())),((b,(m,())),()))))) .no:=congrArg (fun c=>Tr.ite c _ _) c1
  rw[e1]
  simp only[Tr.run,cond_true]
  rw[ag (n:=m - (b.length:Int)) (by omega) (by omega)]
  unfold qJ
  by_cases hl:m - (b.length:Int)<(bk ps:Int)
  ·rw[aa (by simpa using hl),if_pos hl]
  ·rw[ab (by simpa using hl),if_neg hl]
   have c2:(decide ((0:Int)=0)&&(decide ((ps.length:Int)=(ps.length:Int))&&decide (b.length+bk ps≤4294967296)))=true:=by simp;omega
   have e2:jy ((ps,((ps.length:Int),(0,()))),((b,(m,())),()))=.ite true (.ret (.ret ((),((),((b++eZ ps,(m,())),()))))) .no:=congrArg (fun c=>Tr.ite c _ _) c2
   rw[e2]
   rfl
abbrev IL:List Sh:=[dL,dI]
abbrev oI:Sh:=.dat (.int .i64) false false
def aC (l:LI):Int:=l.foldl (fun v c=>v*256+c) 0
def bE (b:LI)(p:Int)(n:Nat):Int×(Int×Int):=if (b.length:Int) - p<n then (0,(p,1)) else (aC ((b.drop p.toNat).take n),(p+n,0))
def co (b:LI)(p:Int):Bool:=decide (b.length≤4294960000)&&(decide (0≤p)&&decide (p≤(b.length:Int)))
def lN (b:LI)(p n:Int):Int×Int:=if n<0 then (p,3) else if (b.length:Int) - p<n then (p,1) else (p+n,0)
abbrev fk:Io:=⟨[.ptr 0 0],[IL],[],[dI],none⟩
def oQ (d:fk.In):Tr fk.Res:=.ret (.ret ((i64.wrap ((d.2.1.1.length:Int) - d.2.1.2.1),()),((d.2.1.1,(d.2.1.2.1,())),())))
abbrev vG:List (Nat×Hc):=[]
def Em:Hd:=bV vG
def wv:Lp:=cb []
def xN (a0:LI)(a1:Int):Option fk.Res:=oR ((i64.wrap ((↑a0.length:Int) - a1),()),(a0,a1,()),())
theorem Cu (a0:LI)(a1:Int):Io.run tt Em dr wv fk Tryd.f69 (((),()),(a0,a1,()),())=xN a0 a1:=by kernel_rfl
theorem wG:HcOk prog 69 (ah fk oQ):=by
 refine cq (cs:=vG) HcsOk.nil (lp:=wv) (fn:=Tryd.f69) fk (.done (by kernel_rfl)) oQ ?_
 rintro ⟨⟨⟨⟩,⟨⟩⟩,⟨⟨(b:LI),(p:Int),⟨⟩⟩,⟨⟩⟩⟩ out hw ho
 rw[← ho]
 exact Cu b p
abbrev cm:Io:=⟨[.ptr 0 0,dI],[IL],[],[Kj,dI],none⟩
def fI (d:cm.In):Tr cm.Res:=
 .ite (co d.2.1.1 d.2.1.2.1&&(decide ((0:Int)≤d.1.2.1)&&decide (d.1.2.1≤(8:Int)))) (.ret (.ret (((bE d.2.1.1 d.2.1.2.1 d.1.2.1.toNat).1,((bE d.2.1.1 d.2.1.2.1 d.1.2.1.toNat).2.2,())),((d.2.1.1,((bE d.2.1.1 d.2.1.2.1 d.1.2.1.toNat).2.1,())),())))) .no
abbrev pX:List (Nat×Hc):=[(69,ah fk oQ)]
def p7:Hd:=bV pX
abbrev bQ:Lo:=⟨⟨(.one (.ptr 0 0)::.one hI::di (.one (.hol (.int u64))::an (di (.one (.hol (.sl 5 (Ty.int u8)))::.one hI::.one hI::an (cr []))))),[some [.hol (.sl 5 (Ty.int u8)),hI]]⟩,[(.exit 0,⟨(.one (.ptr 0 0)::.one hI::di (.one (.hol (.int u64))::.any::an (an (fH [])))),[some [.hol (.sl 5 (Ty.int u8)),hI]]⟩)]⟩
def fg (d:bQ.st.den):Tr (aA bQ.xs):=
 .ite (decide (d.1.2.1=0)&&(decide (d.1.2.2.2.2.1=0)&&(decide (d.1.2.2.2.1=(d.1.2.2.1.length:Int))&&decide (d.1.2.2.1.length≤8)))) (.ret (.ret ((),((d.1.1,(aC d.1.2.2.1,())),(d.2.1,()))))) .no
def iV:Lp:=cb [(6,bg bQ fg)]
def j8 {R:Type}(h3 h4:Int)(h5:LI)(h6 h7:Int)(h8:LI)(h9:Int)(next:Int→Int→LI→Int→Int→LI→Int→Option R)(out:aA bQ.xs→Option R):Option R:=bif decide (h7<h6) then bif decide (0≤h7)&&decide (h7<(↑h5.length:Int)) then next (h3) (ir u64 (dM u64 h4 8) (u64.wrap (h5.getD h7.toNat 0))) (h5) (h6) (i64.wrap (h7+1)) (h8) (h9) else none else out (.ret ((),((h3,(h4,())),((h8,(h9,())),()))))
def iU (n:Nat)(h3 h4:Int)(h5:LI)(h6 h7:Int)(h8:LI)(h9:Int):Option (aA bQ.xs):=kC tt p7 dr iV 1 Tryd.f45 (dD Tryd.f45 0) n (bQ.st.mk' ((h3,(h4,(h5,(h6,(h7,()))))),((h8,(h9,())),()))) (cx bQ.xs)
theorem uD (n:Nat)(h3 h4:Int)(h5:LI)(h6 h7:Int)(h8:LI)(h9:Int):iU (n+1) h3 h4 h5 h6 h7 h8 h9=j8 h3 h4 h5 h6 h7 h8 h9 (iU n) some:=by kernel_rfl
theorem HE {v c:Int}(h0:0≤v)(h1:v<72057594037927936)(h2:0≤c)(h3:c≤255):ir .u64 (dM .u64 v 8) (u64.wrap c)=v*256+c:=by
 have e1:dM .u64 v 8=v*256:=by
  show IntKind.wrap .u64 (v*2 ^ 8)=_
  rw[show v*2 ^ 8=v*256 by omega]
  exact bU (k:=.u64) (by simp[aS,IntKind.min,IntKind.max,IntKind.signed,IntKind.bits];omega)
 have e0:u64.wrap c=c:=bU (k:=.u64) (by simp[aS,IntKind.min,IntKind.max,IntKind.signed,IntKind.bits];omega)
 rw[e1,e0]
 obtain ⟨v,rfl⟩:=aN h0
 obtain ⟨c,rfl⟩:=aN h2
 have e4:=Nat.two_pow_add_eq_or_of_lt (show c<2 ^ 8 by omega) v
 show IntKind.wrap .u64 ((BitVec.ofInt 64 ((v:Int)*256) ||| BitVec.ofInt 64 (c:Int)).toNat:Int)=_
 have e2:(BitVec.ofInt 64 (c:Int)).toNat=c:=by rw[BitVec.toNat_ofInt];omega
 have e3:(BitVec.ofInt 64 ((v:Int)*256)).toNat=2 ^ 8*v:=by rw[BitVec.toNat_ofInt];omega
 rw[BitVec.toNat_or,e2,e3,← e4]
 refine (bU (k:=.u64) ?_).trans ?_
 ·simp[aS,IntKind.min,IntKind.max,IntKind.signed,IntKind.bits];omega
 ·omega
theorem uF (l:LI)(c:Int):aC (l++[c])=aC l*256+c:=by simp[aC]
theorem p5:∀(l:LI) (v:Int),(∀c∈l,0≤c∧c≤255)→0≤v→0≤l.foldl (fun v c=>v*256+c) v∧l.foldl (fun v c=>v*256+c) v<(v+1)*256 ^ l.length
 |[],v,_,h0=>⟨h0,by simp;omega⟩
 |c::l,v,h,h0=>by
  obtain ⟨h3,h4⟩:=h c (by simp)
  obtain ⟨h1,h2⟩:=p5 l (v*256+c) (fun d hd=>h d (by simp[hd])) (by omega)
  refine ⟨h1,Int.lt_of_lt_of_le h2 ?_⟩
  rw[zN,Int.pow_succ,Int.mul_comm (256 ^ l.length) 256,← Int.mul_assoc]
  exact Int.mul_le_mul_of_nonneg_right (by omega) (Int.le_of_lt (Int.pow_pos (by decide)))
theorem od (l:LI)(h:∀c∈l,0≤c∧c≤255):0≤aC l∧aC l<256 ^ l.length:=by
 have:=p5 l 0 h (Int.le_refl _)
 simpa [aC] using this
theorem t6 (n:Int)(l b:LI)(p:Int)(hl:l.length≤8)(hr:∀c∈l,0≤c∧c≤255):∀(k i:Nat),l.length<i+k→i≤l.length→
  iU k n (aC (l.take i)) l (l.length:Int) i b p=some (.ret ((),((n,(aC l,())),((b,(p,())),())))):=by
 intro k
 induction k with
 |zero=>intro i h;omega
 |succ k ih=>
  intro i h1 h2
  rw[uD]
  unfold j8
  by_cases hi:i<l.length
  ·have hc:=hr l[i] (List.getElem_mem hi)
   have hb:=od (l.take i) fun c hc=>hr c (List.mem_of_mem_take hc)
   have hlt:(256:Int) ^ (l.take i).length≤72057594037927936:=by
    rw[List.length_take,show min i l.length=i by omega]
    have hi7:i≤7:=by omega
    match i,hi7 with
    |0,_=>decide
    |1,_=>decide
    |2,_=>decide
    |3,_=>decide
    |4,_=>decide
    |5,_=>decide
    |6,_=>decide
    |7,_=>decide
   have e1:List.getD l (i:Int).toNat 0=l[i]:=by simp only[zG,aR hi]
   rw[aa (by simpa using hi),aa (by simpa using hi),e1,HE hb.1 (by omega) hc.1 hc.2,← uF,← List.take_succ_eq_append_getElem hi,bH hi (by rw[cc];omega),ih (i+1) (by omega) (by omega)]
  ·rw[ab (by simp;omega),List.take_of_length_le (by omega)]
def mb (a0:Int)(a1:LI)(a2:Int):Option cm.Res:=bif decide (i64.wrap ((↑a1.length:Int) - a2)<a0) then oR ((0,1,()),(a1,a2,()),()) else bif decide (0≤a2)&&(decide (a2≤i64.wrap (a2+a0))&&decide (i64.wrap (a2+a0)≤(↑a1.length:Int))) then (fg ((a0,(0,(List.drop a2.toNat (List.take (i64.wrap (a2+a0)).toNat a1),((↑(List.drop a2.toNat (List.take (i64.wrap (a2+a0)).toNat a1)).length:Int),(0,()))))),((a1,(a2,())),()))).run fun y=>match y with | .ret ((),((x21,x22,()),(x23,x24,()),()))=>(oR ((x22,0,()),(x23,i64.wrap (x24+x21),()),())) else none
theorem wQ (a0:Int)(a1:LI)(a2:Int):Io.run tt p7 dr iV cm Tryd.f45 (((),a0,()),(a1,a2,()),())=mb a0 a1 a2:=by kernel_rfl
theorem dN {b:LI}(h:Ty.wf bs b):∀c∈b,0≤c∧c≤255:=fun c hc=>by
 have:=h.2 c hc
 simpa [Ty.wf,aS,IntKind.min,IntKind.max,IntKind.signed,IntKind.bits] using this
theorem mt:HcsOk prog pX:=.cons wG .nil
theorem iY:HcOk prog 45 (ah cm fI):=by
 refine cq mt (lp:=iV) (fn:=Tryd.f45) cm (.step (h0:=bg bQ fg) (by kernel_rfl) (lI mt (lp:=iV) (fn:=Tryd.f45) (.done (by kernel_rfl)) bQ fg ?_) (.done (by kernel_rfl))) fI ?_
 ·rintro ⟨⟨(n:Int),(v:Int),(l:LI),(m:Int),(i:Int),⟨⟩⟩,⟨⟨(b:LI),(p:Int),⟨⟩⟩,⟨⟩⟩⟩ y hw hy
  obtain ⟨hg,hy⟩:=Tr.guard hy
  simp only[zA,zB] at hg
  obtain ⟨rfl,rfl,rfl,h4⟩:=hg
  refine ⟨l.length+1,(t6 n l b p h4 (dN hw.1.2.2.1) _ 0 (by omega) (by omega)).trans ?_⟩
  rw[← hy];rfl
 ·rintro ⟨⟨⟨⟩,(n:Int),⟨⟩⟩,⟨⟨(b:LI),(p:Int),⟨⟩⟩,⟨⟩⟩⟩ out hw ho
  obtain ⟨hg,ho⟩:=Tr.guard ho
  simp only[co,zA,zB] at hg
  obtain ⟨⟨h1,h2,h3⟩,h4,h5⟩:=hg
  have h1:b.length≤4294960000:=h1
  have h2:(0:Int)≤p:=h2
  have h3:p≤(b.length:Int):=h3
  have h4:(0:Int)≤n:=h4
  have h5:n≤(8:Int):=h5
  cases ho
  refine (wQ n b p).trans ?_
  show _=oR (((bE b p n.toNat).1,((bE b p n.toNat).2.2,())),((b,((bE b p n.toNat).2.1,())),()))
  unfold mb
  rw[ag (n:=(b.length:Int) - p) (by omega) (by omega),ag (n:=p+n) (by omega) (by omega)]
  unfold bE
  by_cases hl:(b.length:Int) - p<n
  ·rw[aa (by simpa using hl),if_pos (by omega)]
  ·have e0:List.drop p.toNat (List.take (p+n).toNat b)=(b.drop p.toNat).take n.toNat:=by rw[List.drop_take,show (p+n).toNat - p.toNat=n.toNat by omega]
   rw[ab (by simpa using hl),if_neg (by omega),aa (by simp;omega),e0]
   have hl8:((b.drop p.toNat).take n.toNat).length≤8:=by simp;omega
   have e1:fg ((n,(0,((b.drop p.toNat).take n.toNat,((((b.drop p.toNat).take n.toNat).length:Int),(0,()))))),((b,(p,())),()))=.ite true (.ret (.ret ((),((n,(aC ((b.drop p.toNat).take n.toNat),())),((b,(p,())),()))))) .no:=
    congrArg (fun c=>Tr.ite c _ _) (show (decide ((0:Int)=0)&&(decide ((0:Int)=0)&&(decide ((((b.drop p.toNat).take n.toNat).length:Int)=(((b.drop p.toNat).take n.toNat).length:Int))&&decide (((b.drop p.toNat).take n.toNat).length≤8))))=true by simp;omega)
   rw[e1]
   simp only[Tr.run,cond_true]
   rw[ag (n:=p+n) (by omega) (by omega),show ((n.toNat:Nat):Int)=n by omega]
abbrev iN:Io:=⟨[.ptr 0 0],[IL],[],[KN,dI],none⟩
def tf (d:iN.In):Tr iN.Res:=
 .ite (co d.2.1.1 d.2.1.2.1) (.ret (.ret ((i16.wrap (bE d.2.1.1 d.2.1.2.1 2).1,((bE d.2.1.1 d.2.1.2.1 2).2.2,())),((d.2.1.1,((bE d.2.1.1 d.2.1.2.1 2).2.1,())),())))) .no
abbrev zX:List (Nat×Hc):=[(45,ah cm fI)]
def GZ:Hd:=bV zX
def AP:Lp:=cb []
def rR (a0:LI)(a1:Int):Option iN.Res:=bif co a0 a1&&(decide (0≤2)&&decide (2≤8)) then oR ((i16.wrap (bE a0 a1 (Int.toNat 2)).1,(bE a0 a1 (Int.toNat 2)).2.2,()),(a0,(bE a0 a1 (Int.toNat 2)).2.1,()),()) else none
theorem FH (a0:LI)(a1:Int):Io.run tt GZ dr AP iN Tryd.f50 (((),()),(a0,a1,()),())=rR a0 a1:=by kernel_rfl
theorem Hv:HcOk prog 50 (ah iN tf):=by
 refine cq (cs:=zX) (.cons iY .nil) (lp:=AP) (fn:=Tryd.f50) iN (.done (by kernel_rfl)) tf ?_
 rintro ⟨⟨⟨⟩,⟨⟩⟩,⟨⟨(b:LI),(p:Int),⟨⟩⟩,⟨⟩⟩⟩ out hw ho
 obtain ⟨hg,ho⟩:=Tr.guard ho
 have hg:co b p=true:=hg
 cases ho
 refine (FH b p).trans ?_
 unfold rR
 rw[aa (by simp[hg])]
 rfl
abbrev gB:Io:=⟨[.ptr 0 0],[IL],[],[GD,dI],none⟩
def pB (d:gB.In):Tr gB.Res:=
 .ite (co d.2.1.1 d.2.1.2.1) (.ret (.ret ((i32.wrap (bE d.2.1.1 d.2.1.2.1 4).1,((bE d.2.1.1 d.2.1.2.1 4).2.2,())),((d.2.1.1,((bE d.2.1.1 d.2.1.2.1 4).2.1,())),())))) .no
abbrev zY:List (Nat×Hc):=[(45,ah cm fI)]
def G4:Hd:=bV zY
def AQ:Lp:=cb []
def rS (a0:LI)(a1:Int):Option gB.Res:=bif co a0 a1&&(decide (0≤4)&&decide (4≤8)) then oR ((i32.wrap (bE a0 a1 (Int.toNat 4)).1,(bE a0 a1 (Int.toNat 4)).2.2,()),(a0,(bE a0 a1 (Int.toNat 4)).2.1,()),()) else none
theorem FI (a0:LI)(a1:Int):Io.run tt G4 dr AQ gB Tryd.f21 (((),()),(a0,a1,()),())=rS a0 a1:=by kernel_rfl
theorem Bg:HcOk prog 21 (ah gB pB):=by
 refine cq (cs:=zY) (.cons iY .nil) (lp:=AQ) (fn:=Tryd.f21) gB (.done (by kernel_rfl)) pB ?_
 rintro ⟨⟨⟨⟩,⟨⟩⟩,⟨⟨(b:LI),(p:Int),⟨⟩⟩,⟨⟩⟩⟩ out hw ho
 obtain ⟨hg,ho⟩:=Tr.guard ho
 have hg:co b p=true:=hg
 cases ho
 refine (FI b p).trans ?_
 unfold rS
 rw[aa (by simp[hg])]
 rfl
abbrev iO:Io:=⟨[.ptr 0 0],[IL],[],[oI,dI],none⟩
def tg (d:iO.In):Tr iO.Res:=
 .ite (co d.2.1.1 d.2.1.2.1) (.ret (.ret ((i64.wrap (bE d.2.1.1 d.2.1.2.1 8).1,((bE d.2.1.1 d.2.1.2.1 8).2.2,())),((d.2.1.1,((bE d.2.1.1 d.2.1.2.1 8).2.1,())),())))) .no
abbrev zZ:List (Nat×Hc):=[(45,ah cm fI)]
def G5:Hd:=bV zZ
def AR:Lp:=cb []
def rT (a0:LI)(a1:Int):Option iO.Res:=bif co a0 a1&&(decide (0≤8)&&decide (8≤8)) then oR ((i64.wrap (bE a0 a1 (Int.toNat 8)).1,(bE a0 a1 (Int.toNat 8)).2.2,()),(a0,(bE a0 a1 (Int.toNat 8)).2.1,()),()) else none
theorem FJ (a0:LI)(a1:Int):Io.run tt G5 dr AR iO Tryd.f47 (((),()),(a0,a1,()),())=rT a0 a1:=by kernel_rfl
theorem Hw:HcOk prog 47 (ah iO tg):=by
 refine cq (cs:=zZ) (.cons iY .nil) (lp:=AR) (fn:=Tryd.f47) iO (.done (by kernel_rfl)) tg ?_
 rintro ⟨⟨⟨⟩,⟨⟩⟩,⟨⟨(b:LI),(p:Int),⟨⟩⟩,⟨⟩⟩⟩ out hw ho
 obtain ⟨hg,ho⟩:=Tr.guard ho
 have hg:co b p=true:=hg
 cases ho
 refine (FJ b p).trans ?_
 unfold rT
 rw[aa (by simp[hg])]
 rfl
abbrev ga:Io:=⟨[.ptr 0 0,dI],[IL],[],[dI],none⟩
def oS (d:ga.In):Tr ga.Res:=
 .ite (co d.2.1.1 d.2.1.2.1) (.ret (.ret (((lN d.2.1.1 d.2.1.2.1 d.1.2.1).2,()),((d.2.1.1,((lN d.2.1.1 d.2.1.2.1 d.1.2.1).1,())),())))) .no
abbrev vH:List (Nat×Hc):=[(69,ah fk oQ)]
def En:Hd:=bV vH
def ww:Lp:=cb []
def pQ (a0:Int)(a1:LI)(a2:Int):Option ga.Res:=bif decide (a0<0) then oR ((3,()),(a1,a2,()),()) else bif decide (i64.wrap ((↑a1.length:Int) - a2)<a0) then oR ((1,()),(a1,a2,()),()) else oR ((0,()),(a1,i64.wrap (a2+a0),()),())
theorem Cv (a0:Int)(a1:LI)(a2:Int):Io.run tt En dr ww ga Tryd.f48 (((),a0,()),(a1,a2,()),())=pQ a0 a1 a2:=by kernel_rfl
theorem Fh:HcOk prog 48 (ah ga oS):=by
 refine cq (cs:=vH) (.cons wG .nil) (lp:=ww) (fn:=Tryd.f48) ga (.done (by kernel_rfl)) oS ?_
 rintro ⟨⟨⟨⟩,(n:Int),⟨⟩⟩,⟨⟨(b:LI),(p:Int),⟨⟩⟩,⟨⟩⟩⟩ out hw ho
 obtain ⟨hg,ho⟩:=Tr.guard ho
 simp only[co,zA,zB] at hg
 obtain ⟨h1,h2,h3⟩:=hg
 have h1:b.length≤4294960000:=h1
 have h2:(0:Int)≤p:=h2
 have h3:p≤(b.length:Int):=h3
 cases ho
 refine (Cv n b p).trans ?_
 unfold pQ lN
 rw[ag (n:=(b.length:Int) - p) (by omega) (by omega)]
 by_cases h4:n<0
 ·rw[aa (by simpa using h4),if_pos h4]
 ·rw[ab (by simpa using h4),if_neg h4]
  by_cases h5:(b.length:Int) - p<n
  ·rw[aa (by simpa using h5),if_pos h5]
  ·rw[ab (by simpa using h5),if_neg h5,ag (n:=p+n) (by omega) (by omega)]
abbrev gC:Io:=⟨[dL],[],[IL],[.ptr 0 0],none⟩
def th (d:gC.In):Tr gC.Res:=.ite (decide (d.1.1.length≤4294967296)) (.ret (.ret (((),()),((d.1.1,(0,())),())))) .no
abbrev z7:List (Nat×Hc):=[(44,ah du lV)]
def G6:Hd:=bV z7
def AT:Lp:=cb []
def BH (a0:LI):Option gC.Res:=bif decide (a0.length≤4294967296) then oR (((),()),(a0,0,()),()) else none
theorem FK (a0:LI):Io.run tt G6 dr AT gC Tryd.f20 ((a0,()),())=BH a0:=by kernel_rfl
theorem Bh:HcOk prog 20 (ah gC th):=by
 refine cq (cs:=z7) (.cons qn .nil) (lp:=AT) (fn:=Tryd.f20) gC (.done (by kernel_rfl)) th ?_
 rintro ⟨⟨(b:LI),⟨⟩⟩,⟨⟩⟩ out hw ho
 obtain ⟨hg,ho⟩:=Tr.guard ho
 cases ho
 exact (FK b).trans (aa hg _ _)
end
end Go.Proofs.YtcbcbjdobbgddaaDoor.Sym
namespace Go.Proofs.YtcbcbjdobbgddaaDoor.Sym
open Go
noncomputable section
def dK (l:LI):Int:=match l with
 |[]=>0
 |c::l=>l.foldl (fun v c=>v*256+c) (if 128≤c then c - 256 else c)
end
end Go.Proofs.YtcbcbjdobbgddaaDoor.Sym
namespace Go.Proofs.YtcbcbjdobbgddaaDoor.Sym
open Go
open Go.IntKind (i8 i16 i32 i64 u8 u16 u32 u64)
noncomputable section
abbrev IS:Sh:=.dat (.int .u32) false false
def jn (s:Nat):Nat:=if s % 2=1 then (s / 2) ^^^ 2197175160 else s / 2
theorem mU {s:Nat}(h:s<4294967296):jn s<4294967296:=by
 unfold jn
 split
 ·exact Nat.xor_lt_two_pow (n:=32) (by omega) (by omega)
 ·omega
theorem Gr (a b p:Nat):(a ^^^ p) ^^^ (b ^^^ p)=a ^^^ b:=by
 rw[Nat.xor_assoc,← Nat.xor_assoc p b p,Nat.xor_comm p b,Nat.xor_assoc b p p,Nat.xor_self,Nat.xor_zero]
theorem kA (a b:Nat):jn (a ^^^ b)=jn a ^^^ jn b:=by
 have h1:(a ^^^ b) / 2=a / 2 ^^^ b / 2:=Nat.xor_div_two
 have h2:(a ^^^ b) % 2=1↔¬(a % 2=1↔b % 2=1):=Nat.xor_mod_two_eq_one
 unfold jn
 rw[h1]
 by_cases ha:a % 2=1
 ·by_cases hb:b % 2=1
  ·rw[if_neg (by rw[h2];simp[ha,hb]),if_pos ha,if_pos hb,Gr]
  ·rw[if_pos (by rw[h2];simp[ha,hb]),if_pos ha,if_neg hb,Nat.xor_assoc,Nat.xor_comm (b / 2),← Nat.xor_assoc]
 ·by_cases hb:b % 2=1
  ·rw[if_pos (by rw[h2];simp[ha,hb]),if_neg ha,if_pos hb,Nat.xor_assoc]
  ·rw[if_neg (by rw[h2];simp[ha,hb]),if_neg ha,if_neg hb]
theorem kz (m:Nat):jn (2*m)=m:=by
 unfold jn
 rw[if_neg (by omega)]
 omega
def gL (s:Nat):Nat:=jn (jn (jn (jn s)))
theorem CS (a b:Nat):gL (a ^^^ b)=gL a ^^^ gL b:=by unfold gL;rw[kA,kA,kA,kA]
theorem Gf (q:Nat):gL (16*q)=q:=by
 unfold gL
 rw[show 16*q=2*(2*(2*(2*q))) by omega,kz,kz,kz,kz]
theorem mT {s:Nat}(h:s<4294967296):gL s<4294967296:=mU (mU (mU (mU h)))
theorem Ii (s:Nat):s=(16*(s / 16)) ^^^ (s % 16):=by
 refine Nat.eq_of_testBit_eq fun i=>?_
 rw[Nat.testBit_xor,show 16*(s / 16)=2 ^ 4*(s / 2 ^ 4) by rfl,Nat.testBit_two_pow_mul,Nat.testBit_div_two_pow,show s % 16=s % 2 ^ 4 by rfl,Nat.testBit_mod_two_pow]
 by_cases h:4≤i
 ·have h':¬ i<4:=by omega
  simp[h,h',show i - 4+4=i by omega]
 ·have h':i<4:=by omega
  simp[h,h']
theorem Gg (s:Nat):gL s=(s / 16) ^^^ gL (s % 16):=by
 conv=>lhs;rw[Ii s]
 rw[CS,Gf]
def By (s:Nat):Nat:=gL (gL s)
theorem xk {s:Nat}(h:s<4294967296):By s<4294967296:=mT (mT h)
def GC:LI→Nat→Nat
 |[],s=>s
 |x::l,s=>GC l (By (s ^^^ x.toNat))
theorem ka {s:Nat}(h:s<4294967296){x:Int}(hx:x≤255):s ^^^ x.toNat<4294967296:=Nat.xor_lt_two_pow (n:=32) h (by omega)
theorem tz:∀{l:LI} {s:Nat},(∀c∈l,0≤c∧c≤255)→s<4294967296→GC l s<4294967296
 |[],_,_,h=>h
 |x::l,_,hl,h=>tz (l:=l) (fun c hc=>hl c (by simp[hc])) (xk (ka h (hl x (by simp)).2))
@[irreducible] def cX (c:Int)(b:LI):Int:=((GC b (c.toNat ^^^ 4294967295) ^^^ 4294967295:Nat):Int)
@[irreducible] def om (b:LI)(s:Int):Int:=((GC b s.toNat:Nat):Int)
theorem uR {x y:Nat}(hx:x<4294967296)(hy:y<4294967296):cB .u32 (x:Int) (y:Int)=((x ^^^ y:Nat):Int):=by
 have e1:(BitVec.ofInt 32 (x:Int)).toNat=x:=by rw[BitVec.toNat_ofInt];omega
 have e2:(BitVec.ofInt 32 (y:Int)).toNat=y:=by rw[BitVec.toNat_ofInt];omega
 show IntKind.wrap .u32 ((BitVec.ofInt 32 (x:Int) ^^^ BitVec.ofInt 32 (y:Int)).toNat:Int)=_
 rw[BitVec.toNat_xor,e1,e2]
 have:=Nat.xor_lt_two_pow (n:=32) hx hy
 exact bU (k:=.u32) (by simp[aS,IntKind.min,IntKind.max,IntKind.signed,IntKind.bits];omega)
theorem A7 {x:Nat}(hx:x<4294967296):qI .u32 (x:Int)=((x ^^^ 4294967295:Nat):Int):=by
 have:=uR (x:=4294967295) (y:=x) (by omega) hx
 rw[Nat.xor_comm] at this
 exact this
theorem nc {x:Nat}(hx:x<4294967296):dk .u32 (x:Int) 15=((x % 16:Nat):Int):=by
 have e1:(BitVec.ofInt 32 (x:Int)).toNat=x:=by rw[BitVec.toNat_ofInt];omega
 show IntKind.wrap .u32 ((BitVec.ofInt 32 (x:Int) &&& BitVec.ofInt 32 15).toNat:Int)=_
 rw[BitVec.toNat_and,e1,show (BitVec.ofInt 32 15).toNat=2 ^ 4 - 1 by decide,Nat.and_two_pow_sub_one_eq_mod]
 exact bU (k:=.u32) (by simp[aS,IntKind.min,IntKind.max,IntKind.signed,IntKind.bits];omega)
theorem FV {x:Nat}(hx:x<4294967296):dl .u32 (x:Int) 4=((x / 16:Nat):Int):=by
 show IntKind.wrap .u32 ((x:Int).fdiv (2 ^ 4))=_
 rw[Int.fdiv_eq_ediv_of_nonneg _ (by decide)]
 rw[show (x:Int) / 2 ^ 4=((x / 16:Nat):Int) by omega]
 exact bU (k:=.u32) (by simp[aS,IntKind.min,IntKind.max,IntKind.signed,IntKind.bits];omega)
theorem CU {r:Nat}(h:r<16):dA (r:Int)=(gL r:Int):=
 (show ∀r:Nat,r<16→dA (r:Int)=(gL r:Int) by decide +kernel) r h
theorem Dp {b:LI}(h:Ty.wf bs b):∀c∈b,0≤c∧c≤255:=fun c hc=>by
 have:=h.2 c hc
 simpa [Ty.wf,aS,IntKind.min,IntKind.max,IntKind.signed,IntKind.bits] using this
theorem Bz {s:Int}(h:aS .u32 s):∃n:Nat,s=(n:Int)∧n<4294967296:=by
 simp[aS,IntKind.min,IntKind.max,IntKind.signed,IntKind.bits] at h
 exact ⟨s.toNat,by omega,by omega⟩
theorem xm {s:Nat}(hs:s<4294967296):cB .u32 (dl .u32 (s:Int) 4) (dA (dk .u32 (s:Int) 15))=(gL s:Int):=by
 have hr:s % 16<16:=by omega
 rw[nc hs,FV hs,CU hr,uR (by omega) (mT (by omega)),← Gg]
theorem yP {b:LI}(hb:∀c∈b,0≤c∧c≤255){i:Nat}(h:i<b.length){n:Nat}(hn:n<4294967296):om (b.drop i) (n:Int)=om (b.drop (i+1)) ((By (n ^^^ (b[i]).toNat):Nat):Int)∧By (n ^^^ (b[i]).toNat)<4294967296:=by
 refine ⟨?_,xk (ka hn (hb b[i] (List.getElem_mem h)).2)⟩
 rw[zE h]
 unfold om
 rw[zG,zG]
 rfl
theorem J1 {b:LI}(hb:∀c∈b,0≤c∧c≤255){i:Nat}(h:i<b.length){n:Nat}(hn:n<4294967296):cB .u32 (n:Int) (u32.wrap (List.getD b (i:Int).toNat 0))=((n ^^^ (b[i]).toNat:Nat):Int):=by
 have hc:=hb b[i] (List.getElem_mem h)
 have e:List.getD b (i:Int).toNat 0=((b[i].toNat:Nat):Int):=by
  rw[zG,aR h]
  omega
 rw[e,bU (k:=.u32) (by simp[aS,IntKind.min,IntKind.max,IntKind.signed,IntKind.bits];omega)]
 exact uR hn (by omega)
abbrev ld:Io:=⟨[IS,dL],[],[],[IS],none⟩
def C1 (d:ld.In):Tr ld.Res:=.ret (.ret ((cX d.1.1 d.1.2.1,()),()))
abbrev xS:List (Nat×Hc):=[]
def Ec:Hd:=bV xS
abbrev d7:Lo:=⟨⟨(.any::di (.one (.hol (.int u32))::di (.one (.hol (.sl 5 (Ty.int u8)))::.one hI::.one hI::an (fH [])))),[]⟩,[(.exit 0,⟨(.any::di (.one (.hol (.int u32))::.any::an (fH (di (cr []))))),[]⟩)]⟩
def lT (d:d7.st.den):Tr (aA d7.xs):=.ite (decide (d.1.2.2.2.1=0)&&decide (d.1.2.2.1=(d.1.2.1.length:Int))) (.ret (.ret ((),((om d.1.2.1 d.1.1,()),())))) .no
def uf:Lp:=cb [(4,bg d7 lT)]
def qS {R:Type}(h2:Int)(h3:LI)(h4 h5:Int)(next:Int→LI→Int→Int→Option R)(out:aA d7.xs→Option R):Option R:=bif decide (h5<h4) then bif decide (0≤h5)&&decide (h5<(↑h3.length:Int)) then bif decide (0≤dk u32 (cB u32 h2 (u32.wrap (h3.getD h5.toNat 0))) 15)&&decide (dk u32 (cB u32 h2 (u32.wrap (h3.getD h5.toNat 0))) 15<(↑16:Int)) then bif decide (0≤dk u32 (cB u32 (dl u32 (cB u32 h2 (u32.wrap (h3.getD h5.toNat 0))) 4) (dA (dk u32 (cB u32 h2 (u32.wrap (h3.getD h5.toNat 0))) 15))) 15)&&decide (dk u32 (cB u32 (dl u32 (cB u32 h2 (u32.wrap (h3.getD h5.toNat 0))) 4) (dA (dk u32 (cB u32 h2 (u32.wrap (h3.getD h5.toNat 0))) 15))) 15<(↑16:Int)) then next (cB u32 (dl u32 (cB u32 (dl u32 (cB u32 h2 (u32.wrap (h3.getD h5.toNat 0))) 4) (dA (dk u32 (cB u32 h2 (u32.wrap (h3.getD h5.toNat 0))) 15))) 4) (dA (dk u32 (cB u32 (dl u32 (cB u32 h2 (u32.wrap (h3.getD h5.toNat 0))) 4) (dA (dk u32 (cB u32 h2 (u32.wrap (h3.getD h5.toNat 0))) 15))) 15))) (h3) (h4) (i64.wrap (h5+1)) else none else none else none else out (.ret ((),((h2,()),())))
def qf (n:Nat)(h2:Int)(h3:LI)(h4 h5:Int):Option (aA d7.xs):=kC tt Ec dr uf 0 Tryd.f68 (dD Tryd.f68 0) n (d7.st.mk' ((h2,(h3,(h4,(h5,())))),())) (cx d7.xs)
theorem FZ (n:Nat)(h2:Int)(h3:LI)(h4 h5:Int):qf (n+1) h2 h3 h4 h5=qS h2 h3 h4 h5 (qf n) some:=by kernel_rfl
theorem yi {b:LI}(hb:∀c∈b,0≤c∧c≤255)(hl:b.length≤maxLen):∀(k i n:Nat),b.length<i+k→i≤b.length→n<4294967296→qf k n b (b.length:Int) i=some (.ret ((),((om (b.drop i) n,()),()))):=by
 intro k
 induction k with
 |zero=>intro i n h;omega
 |succ k ih=>
  intro i n h1 h2 h3
  rw[FZ]
  unfold qS
  by_cases hi:i<b.length
  ·refine bT (by simpa using hi) ?_
   refine bT (by simpa using hi) ?_
   obtain ⟨e1,e2⟩:=yP hb hi h3
   have h4:=ka h3 (hb b[i] (List.getElem_mem hi)).2
   have h5:=mT h4
   rw[J1 hb hi h3,e1]
   refine (aa ?_ _ _).trans ?_
   ·rw[nc h4];simp;omega
   rw[xm h4]
   refine (aa ?_ _ _).trans ?_
   ·rw[nc h5];simp;omega
   rw[xm h5,bH hi hl]
   exact ih (i+1) _ (by omega) (by omega) e2
  ·refine bF (by simp;omega) ?_
   rw[zI (by omega)]
   unfold om
   rw[zG]
   rfl
def vd (a0:Int)(a1:LI):Option ld.Res:=(lT ((qI u32 a0,(a1,((↑a1.length:Int),(0,())))),())).run fun y=>match y with | .ret ((),((x11,()),()))=>(oR ((qI u32 x11,()),()))
theorem HL (a0:Int)(a1:LI):Io.run tt Ec dr uf ld Tryd.f68 ((a0,a1,()),())=vd a0 a1:=by kernel_rfl
theorem Ji:HcOk prog 68 (ah ld C1):=by
 refine cq (cs:=xS) HcsOk.nil (lp:=uf) (fn:=Tryd.f68) ld (.step (h0:=bg d7 lT) (by kernel_rfl) (lI (cs:=xS) HcsOk.nil (lp:=uf) (fn:=Tryd.f68) (.done (by kernel_rfl)) d7 lT ?_) (.done (by kernel_rfl))) C1 ?_
 ·rintro ⟨⟨(s:Int),(b:LI),(m:Int),(i:Int),⟨⟩⟩,⟨⟩⟩ y hw hy
  obtain ⟨hg,hy⟩:=Tr.guard hy
  simp only[zA,zB] at hg
  obtain ⟨rfl,rfl⟩:=hg
  obtain ⟨n,rfl,hn⟩:=Bz hw.1.1
  refine ⟨b.length+1,(yi (Dp hw.1.2.1) hw.1.2.1.1 (b.length+1) 0 n (show b.length<0+(b.length+1) by omega) (Nat.zero_le _) hn).trans ?_⟩
  rw[← hy];rfl
 ·rintro ⟨⟨(c:Int),(b:LI),⟨⟩⟩,⟨⟩⟩ out hw ho
  cases ho
  refine (HL c b).trans ?_
  obtain ⟨n,rfl,hn⟩:=Bz hw.1.1
  unfold vd lT
  refine bT (by simp) ?_
  show oR ((qI .u32 (om b (qI .u32 (n:Int))),()),())=oR ((cX (n:Int) b,()),())
  have h1:=Nat.xor_lt_two_pow (n:=32) hn (show 4294967295<2 ^ 32 by decide)
  have h2:=tz (Dp hw.1.2.1) h1
  rw[A7 hn]
  unfold om cX
  rw[zG,zG,A7 h2]
def nJ:List (LI)→Int→Int
 |[],c=>c
 |p::ps,c=>nJ ps (cX c p)
abbrev gv:Io:=⟨[.dat (.sl 22 bs) false false],[],[],[IS],none⟩
def s6 (d:gv.In):Tr gv.Res:=.ret (.ret ((nJ d.1.1 0,()),()))
abbrev zP:List (Nat×Hc):=[(68,ah ld C1)]
def Ap:Hd:=bV zP
abbrev db:Lo:=⟨⟨(.any::cr (.one (.hol (.int u32))::cr (.one (.hol (.sl 22 (Ty.sl 5 (Ty.int u8))))::.one hI::.one hI::fH []))),[]⟩,[(.exit 0,⟨(.any::cr (.one (.hol (.int u32))::.any::fH (di []))),[]⟩)]⟩
def jr (d:db.st.den):Tr (aA db.xs):=.ite (decide (d.1.2.2.2.1=0)&&decide (d.1.2.2.1=(d.1.2.1.length:Int))) (.ret (.ret ((),((nJ d.1.2.1 d.1.1,()),())))) .no
def pb:Lp:=cb [(4,bg db jr)]
def ou {R:Type}(h1:Int)(h2:List bs.den)(h3 h4:Int)(next:Int→List bs.den→Int→Int→Option R)(out:aA db.xs→Option R):Option R:=bif decide (h4<h3) then bif decide (0≤h4)&&decide (h4<(↑h2.length:Int)) then next (cX h1 (h2.getD h4.toNat [])) (h2) (h3) (i64.wrap (h4+1)) else none else out (.ret ((),((h1,()),())))
def nu (n:Nat)(h1:Int)(h2:List bs.den)(h3 h4:Int):Option (aA db.xs):=kC tt Ap dr pb 0 Tryd.f42 (dD Tryd.f42 0) n (db.st.mk' ((h1,(h2,(h3,(h4,())))),())) (cx db.xs)
theorem CD (n:Nat)(h1:Int)(h2:List bs.den)(h3 h4:Int):nu (n+1) h1 h2 h3 h4=ou h1 h2 h3 h4 (nu n) some:=by kernel_rfl
theorem wh (ps:List (LI))(hl:ps.length≤maxLen):∀(k i:Nat) (c:Int),ps.length<i+k→i≤ps.length→nu k c ps (ps.length:Int) i=some (.ret ((),((nJ (ps.drop i) c,()),()))):=by
 intro k
 induction k with
 |zero=>intro i c h;omega
 |succ k ih=>
  intro i c h1 h2
  rw[CD]
  unfold ou
  by_cases hi:i<ps.length
  ·refine bT (by simpa using hi) ?_
   refine bT (by simpa using hi) ?_
   have e:List.getD ps (i:Int).toNat []=ps[i]:=by simp only[zG,aR hi]
   rw[e,bH hi hl,zE hi]
   exact ih (i+1) _ (by omega) (by omega)
  ·refine bF (by simp;omega) ?_
   rw[zI (by omega)]
   rfl
def rG (a0:List bs.den):Option gv.Res:=(jr ((0,(a0,((↑a0.length:Int),(0,())))),())).run fun y=>match y with | .ret ((),((x10,()),()))=>(oR ((x10,()),()))
theorem Fw (a0:List bs.den):Io.run tt Ap dr pb gv Tryd.f42 ((a0,()),())=rG a0:=by kernel_rfl
theorem su:HcsOk prog zP:=.cons Ji .nil
theorem Bc:HcOk prog 42 (ah gv s6):=by
 refine cq su (lp:=pb) (fn:=Tryd.f42) gv (.step (h0:=bg db jr) (by kernel_rfl) (lI su (lp:=pb) (fn:=Tryd.f42) (.done (by kernel_rfl)) db jr ?_) (.done (by kernel_rfl))) s6 ?_
 ·rintro ⟨⟨(c:Int),(ps:List (LI)),(m:Int),(i:Int),⟨⟩⟩,⟨⟩⟩ y hw hy
  obtain ⟨hg,hy⟩:=Tr.guard hy
  simp only[zA,zB] at hg
  obtain ⟨rfl,rfl⟩:=hg
  refine ⟨ps.length+1,(wh ps hw.1.2.1.1 (ps.length+1) 0 c (by omega) (by omega)).trans ?_⟩
  rw[← hy];rfl
 ·rintro ⟨⟨(ps:List (LI)),⟨⟩⟩,⟨⟩⟩ out hw ho
  cases ho
  refine (Fw ps).trans ?_
  unfold rG jr
  refine bT (by simp) ?_
  rfl
abbrev KX:Ty:=.prod bs (.prod (.int .i64) (.prod (.int .i64) .unit))
abbrev GE:Sh:=.dat KX true false
abbrev J4:Type:=LI×Int×Int×Unit
def kx:J4:=([],0,0,())
def bC (b:LI):J4×Int×Int:=
 if b.getD 0 0<128 then (if (b.length:Int)<b.getD 0 0+2 then (kx,0,1) else (((b.drop 1).take (b.getD 0 0+1).toNat,0,0,()),b.getD 0 0+2,0))
 else if (b.length:Int)<3 then (kx,0,1)
 else if b.getD 1 0*256+b.getD 2 0<1∨4096<b.getD 1 0*256+b.getD 2 0 then (kx,0,50)
 else (([],b.getD 1 0*256+b.getD 2 0,b.getD 0 0 - 124,()),3,0)
def kL (t:J4):Bool:=if t.2.1≠0 then true else decide (t.2.2.1≠0)
def jl (t:J4):Bool:=
 if kL t=true then decide (0<t.1.length) || (decide (t.2.1<1) || (decide (4096<t.2.1) || (decide (t.2.2.1<4) || decide (131<t.2.2.1))))
 else decide (t.1.length<1) || decide (128<t.1.length)
def jb (d:Nat):Nat→LI→LI
 |0,out=>out
 |n+1,out=>jb d n (out++[out.getD (out.length - d) 0])
def bR (out:LI)(t:J4)(most:Int):LI×Int:=
 if jl t=true∨(out.length:Int)<t.2.1 then ([],50)
 else if most<(out.length:Int)+t.1.length+t.2.2.1 then ([],4)
 else (jb t.2.1.toNat t.2.2.1.toNat (out++t.1),0)
def cw:Nat→LI→LI→Int→LI×Int
 |0,_,out,_=>(out,0)
 |k+1,b,out,m=>
  if b=[] then (out,0)
  else if (bC b).2.2≠0 then ([],(bC b).2.2)
  else if (bR out (bC b).1 m).2≠0 then ([],(bR out (bC b).1 m).2)
  else cw k (b.drop (bC b).2.1.toNat) (bR out (bC b).1 m).1 m
def bv (m:Int):Int:=mR (eJ m 0) 32768
def aL (b:LI)(most:Int):LI×Int:=if b=[] then ([],0) else cw (b.length+1) b [] (bv most)
theorem F9 {b:LI}(hb:∀c∈b,0≤c∧c≤255)(h:(bC b).2.2=0)(hne:b≠[]):2≤(bC b).2.1∧(bC b).2.1≤b.length:=by
 have h0:0≤b.getD 0 0:=by
  cases b with
  |nil=>exact absurd rfl hne
  |cons x l=>exact (hb x (by simp)).1
 unfold bC at h ⊢
 split
 ·rename_i h1
  rw[if_pos h1] at h
  split
  ·rename_i h2;rw[if_pos h2] at h;cases h
  ·simp only;omega
 ·rename_i h1
  rw[if_neg h1] at h
  split
  ·rename_i h2;rw[if_pos h2] at h;cases h
  ·rename_i h2
   rw[if_neg h2] at h
   split
   ·rename_i h3;rw[if_pos h3] at h;cases h
   ·simp only;omega
theorem zr {b:LI}(h:Ty.wf bs b)(i:Nat):0≤b.getD i 0∧b.getD i 0≤255:=by
 rw[List.getD_eq_getElem?_getD]
 cases e:b[i]? with
 |none=>exact ⟨by decide,by decide⟩
 |some x=>exact dN h x (List.mem_of_getElem? e)
theorem JJ {v c:Int}(h0:0≤v)(h1:v≤255)(h2:0≤c)(h3:c≤255):ir .i64 (dM .i64 v 8) c=v*256+c:=by
 have e1:dM .i64 v 8=v*256:=by
  show IntKind.wrap .i64 (v*2 ^ 8)=_
  rw[show v*2 ^ 8=v*256 by omega]
  exact ag (by omega) (by omega)
 rw[e1]
 obtain ⟨v,rfl⟩:=aN h0
 obtain ⟨c,rfl⟩:=aN h2
 have e4:=Nat.two_pow_add_eq_or_of_lt (show c<2 ^ 8 by omega) v
 show IntKind.wrap .i64 ((BitVec.ofInt 64 ((v:Int)*256) ||| BitVec.ofInt 64 (c:Int)).toNat:Int)=_
 have e2:(BitVec.ofInt 64 (c:Int)).toNat=c:=by rw[BitVec.toNat_ofInt];omega
 have e3:(BitVec.ofInt 64 ((v:Int)*256)).toNat=2 ^ 8*v:=by rw[BitVec.toNat_ofInt];omega
 rw[BitVec.toNat_or,e2,e3,← e4]
 rw[ag (by omega) (by omega)]
 omega
theorem Et {lit:LI}{d len:Int}(h:jl (lit,d,len,())=false):(0≤len∧len≤131∧lit.length≤128)∧(len=0∧d=0∧1≤lit.length∨lit.length=0∧1≤d∧d≤4096∧4≤len):=by
 have e:jl (lit,d,len,())=if kL (lit,d,len,())=true then decide (0<lit.length) || (decide (d<1) || (decide (4096<d) || (decide (len<4) || decide (131<len)))) else decide (lit.length<1) || decide (128<lit.length):=rfl
 have e2:kL (lit,d,len,())=if d≠0 then true else decide (len≠0):=rfl
 rw[e] at h
 split at h
 ·simp only[Bool.or_eq_false_iff,decide_eq_false_iff_not] at h
  omega
 ·rename_i h2
  rw[e2] at h2
  simp only[Bool.or_eq_false_iff,decide_eq_false_iff_not] at h
  split at h2
  ·exact absurd rfl h2
  ·rename_i h3
   simp only[zB] at h2
   omega
theorem qH (d:Nat):∀(n:Nat) (out:LI),(jb d n out).length=out.length+n
 |0,_=>rfl
 |n+1,out=>by rw[jb,qH d n];simp;omega
theorem CM (b:LI):(bC b).1.1.length≤b.length:=by
 unfold bC
 split
 ·split
  ·simp[kx]
  ·simp;omega
 ·split
  ·simp[kx]
  ·split
   ·simp[kx]
   ·simp
theorem qF (m:Int):0≤bv m∧bv m≤32768:=by
 unfold bv mR eJ
 split <;> split <;> omega
theorem qG {out:LI}{t:J4}{m:Int}(h:(bR out t m).2=0):((bR out t m).1.length:Int)≤m:=by
 obtain ⟨lit,d,len,⟨⟩⟩:=t
 unfold bR at h ⊢
 split
 ·rename_i h1;rw[if_pos h1] at h;cases h
 ·rename_i h1
  rw[if_neg h1] at h
  have hi:jl (lit,d,len,())=false:=by
   cases e:jl (lit,d,len,()) with
   |false=>rfl
   |true=>exact absurd (.inl e) h1
  obtain ⟨i1,i2⟩:=Et hi
  split
  ·rename_i h2;rw[if_pos h2] at h;cases h
  ·rename_i h2
   have h2:¬ m<(out.length:Int)+lit.length+len:=h2
   show ((jb d.toNat len.toNat (out++lit)).length:Int)≤m
   rw[qH,zH]
   omega
theorem lM:∀(k:Nat) (b out:LI) (m:Int),(cw k b out m).2≠0→(cw k b out m).1=[]
 |0,_,_,_,h=>absurd rfl h
 |k+1,b,out,m,h=>by
  unfold cw at h ⊢
  split
  ·rename_i h1;rw[if_pos h1] at h;exact absurd rfl h
  ·rename_i h1
   rw[if_neg h1] at h
   split
   ·rfl
   ·rename_i h2
    rw[if_neg h2] at h
    split
    ·rfl
    ·rename_i h3
     rw[if_neg h3] at h
     exact lM k _ _ _ h
theorem sQ:∀(k:Nat) (b out:LI) (m:Int),(out.length:Int)≤m→((cw k b out m).1.length:Int)≤m
 |0,_,_,_,h=>h
 |k+1,b,out,m,h=>by
  have h0:((([]:LI),(0:Int)).1.length:Int)≤m:=by simp;omega
  unfold cw
  split
  ·exact h
  ·split
   ·simp;omega
   ·split
    ·simp;omega
    ·rename_i h3
     exact sQ k _ _ _ (qG (by simpa using h3))
theorem gH (b:LI)(m:Int):aL b m=cw (b.length+1) b [] (bv m):=by
 unfold aL
 split
 ·rename_i h
  subst h
  rfl
 ·rfl
def cO (b:LI):LI×Int:=
 if (ac 10 1 b 0).2.2≠0 then ([],(ac 10 1 b 0).2.2)
 else if ao (ac 10 1 b 0).1<0 then ([],5)
 else if 32768<ao (ac 10 1 b 0).1 then ([],4)
 else if (aL (b.drop (ac 10 1 b 0).2.1.toNat) (ao (ac 10 1 b 0).1)).2=4∨(aL (b.drop (ac 10 1 b 0).2.1.toNat) (ao (ac 10 1 b 0).1)).2=0∧((aL (b.drop (ac 10 1 b 0).2.1.toNat) (ao (ac 10 1 b 0).1)).1.length:Int)<ao (ac 10 1 b 0).1 then ([],60)
 else if (aL (b.drop (ac 10 1 b 0).2.1.toNat) (ao (ac 10 1 b 0).1)).2≠0 then ([],(aL (b.drop (ac 10 1 b 0).2.1.toNat) (ao (ac 10 1 b 0).1)).2)
 else ((aL (b.drop (ac 10 1 b 0).2.1.toNat) (ao (ac 10 1 b 0).1)).1,0)
abbrev iP:Io:=⟨[GE],[],[],[dB],none⟩
def xz (d:iP.In):Tr iP.Res:=.ret (.ret ((kL d.1.1,()),()))
abbrev z8:List (Nat×Hc):=[]
def G7:Hd:=bV z8
def AU:Lp:=cb []
def rU (a0:LI)(a1 a2:Int):Option iP.Res:=bif a1 != 0 then oR ((true,()),()) else oR ((a2 != 0,()),())
theorem FL (a0:LI)(a1 a2:Int):Io.run tt G7 dr AU iP Tryd.f91 (((a0,a1,a2,()),()),())=rU a0 a1 a2:=by kernel_rfl
theorem Hx:HcOk prog 91 (ah iP xz):=by
 refine cq (cs:=z8) HcsOk.nil (lp:=AU) (fn:=Tryd.f91) iP (.done (by kernel_rfl)) xz ?_
 rintro ⟨⟨⟨(a0:LI),(a1:Int),(a2:Int),⟨⟩⟩,⟨⟩⟩,⟨⟩⟩ out hw ho
 cases ho
 refine (FL a0 a1 a2).trans ?_
 show _=oR ((kL (a0,a1,a2,()),()),())
 unfold rU
 show _=oR (((if a1≠0 then true else decide (a2≠0)),()),())
 by_cases h1:a1=0
 ·refine bF (by simp[h1]) ?_
  rw[if_neg (by simp[h1])]
  by_cases h2:a2=0 <;> simp[h2]
 ·refine bT (by simp[h1]) ?_
  rw[if_pos h1]
abbrev gD:Io:=⟨[GE],[],[],[dB],none⟩
def tk (d:gD.In):Tr gD.Res:=.ret (.ret ((jl d.1.1,()),()))
abbrev Ab:List (Nat×Hc):=[(91,ah iP xz)]
def G8:Hd:=bV Ab
def AV:Lp:=cb []
def rW (a0:LI)(a1 a2:Int):Option gD.Res:=bif !kL (a0,a1,a2,()) then bif decide ((↑a0.length:Int)<1) then oR ((true,()),()) else oR ((decide (128<(↑a0.length:Int)),()),()) else bif decide (0<(↑a0.length:Int)) then oR ((true,()),()) else bif decide (a1<1) then oR ((true,()),()) else bif decide (4096<a1) then oR ((true,()),()) else bif decide (a2<4) then oR ((true,()),()) else oR ((decide (131<a2),()),())
theorem FN (a0:LI)(a1 a2:Int):Io.run tt G8 dr AV gD Tryd.f90 (((a0,a1,a2,()),()),())=rW a0 a1 a2:=by kernel_rfl
theorem Bi:HcOk prog 90 (ah gD tk):=by
 refine cq (cs:=Ab) (.cons Hx .nil) (lp:=AV) (fn:=Tryd.f90) gD (.done (by kernel_rfl)) tk ?_
 rintro ⟨⟨⟨(a0:LI),(a1:Int),(a2:Int),⟨⟩⟩,⟨⟩⟩,⟨⟩⟩ out hw ho
 cases ho
 refine (FN a0 a1 a2).trans ?_
 show _=oR ((jl (a0,a1,a2,()),()),())
 unfold rW
 have e:jl (a0,a1,a2,())=if kL (a0,a1,a2,())=true then decide (0<a0.length) || (decide (a1<1) || (decide (4096<a1) || (decide (a2<4) || decide (131<a2)))) else decide (a0.length<1) || decide (128<a0.length):=rfl
 rw[e]
 cases kL (a0,a1,a2,()) with
 |false=>
  refine (aa rfl _ _).trans ?_
  rw[if_neg (by decide)]
  by_cases h:a0.length<1
  ·refine bT (by simp;omega) ?_
   simp[h]
  ·refine bF (decide_eq_false (show ¬((a0.length:Int)<1) by omega)) ?_
   have e2:decide (128<(a0.length:Int))=decide (128<a0.length):=by by_cases h2:128<a0.length <;> simp[h2] <;> omega
   simp only[h,decide_false,Bool.false_or,e2]
 |true=>
  refine (ab rfl _ _).trans ?_
  rw[if_pos rfl]
  by_cases h:0<a0.length
  ·refine bT (by simp;omega) ?_
   simp[h]
  ·refine bF (decide_eq_false (show ¬(0<(a0.length:Int)) by omega)) ?_
   by_cases h1:a1<1
   ·refine bT (by simpa using h1) ?_
    simp[h1]
   ·refine bF (by simpa using h1) ?_
    by_cases h2:4096<a1
    ·refine bT (by simpa using h2) ?_
     simp[h2]
    ·refine bF (by simpa using h2) ?_
     by_cases h3:a2<4
     ·refine bT (by simpa using h3) ?_
      simp[h3]
     ·refine bF (by simpa using h3) ?_
      simp only[h,h1,h2,h3,decide_false,Bool.false_or]
abbrev iR:Io:=⟨[dL],[],[],[GE,dI,dI],none⟩
def xB (d:iR.In):Tr iR.Res:=.ite (decide (1≤d.1.1.length)) (.ret (.ret (((bC d.1.1).1,(bC d.1.1).2.1,(bC d.1.1).2.2,()),()))) .no
abbrev Ac:List (Nat×Hc):=[(90,ah gD tk)]
def G9:Hd:=bV Ac
def AW:Lp:=cb []
def rX (a0:LI):Option iR.Res:=bif decide (0≤0)&&decide (0<(↑a0.length:Int)) then bif decide (i64.wrap (a0.getD (Int.toNat 0) 0)<128) then bif decide ((↑a0.length:Int)<i64.wrap (i64.wrap (a0.getD (Int.toNat 0) 0)+2)) then oR ((([],0,0,()),0,1,()),()) else bif decide (0≤1)&&(decide (1≤i64.wrap (i64.wrap (a0.getD (Int.toNat 0) 0)+2))&&decide (i64.wrap (i64.wrap (a0.getD (Int.toNat 0) 0)+2)≤(↑a0.length:Int))) then oR (((List.drop (Int.toNat 1) (List.take (i64.wrap (i64.wrap (a0.getD (Int.toNat 0) 0)+2)).toNat a0),0,0,()),i64.wrap (i64.wrap (a0.getD (Int.toNat 0) 0)+2),0,()),()) else none else bif decide ((↑a0.length:Int)<3) then oR ((([],0,0,()),0,1,()),()) else bif decide (0≤1)&&decide (1<(↑a0.length:Int)) then bif decide (0≤2)&&decide (2<(↑a0.length:Int)) then bif jl ([],ir i64 (dM i64 (i64.wrap (a0.getD (Int.toNat 1) 0)) 8) (i64.wrap (a0.getD (Int.toNat 2) 0)),i64.wrap (i64.wrap (i64.wrap (a0.getD (Int.toNat 0) 0) - 128)+4),()) then oR ((([],0,0,()),0,50,()),()) else oR ((([],ir i64 (dM i64 (i64.wrap (a0.getD (Int.toNat 1) 0)) 8) (i64.wrap (a0.getD (Int.toNat 2) 0)),i64.wrap (i64.wrap (i64.wrap (a0.getD (Int.toNat 0) 0) - 128)+4),()),3,0,()),()) else none else none else none
theorem FO (a0:LI):Io.run tt G9 dr AW iR Tryd.f93 ((a0,()),())=rX a0:=by kernel_rfl
theorem Hz:HcOk prog 93 (ah iR xB):=by
 refine cq (cs:=Ac) (.cons Bi .nil) (lp:=AW) (fn:=Tryd.f93) iR (.done (by kernel_rfl)) xB ?_
 rintro ⟨⟨(b:LI),⟨⟩⟩,⟨⟩⟩ out hw ho
 obtain ⟨hg,ho⟩:=Tr.guard ho
 have hg:1≤b.length:=of_decide_eq_true hg
 cases ho
 refine (FO b).trans ?_
 show _=oR (((bC b).1,(bC b).2.1,(bC b).2.2,()),())
 have hb:Ty.wf bs b:=hw.1.1
 have hbl:b.length≤maxLen:=hb.1
 rw[cc] at hbl
 have c0:=zr hb 0
 have c1:=zr hb 1
 have c2:=zr hb 2
 unfold rX
 simp only[show Int.toNat 0=0 from rfl,show Int.toNat 1=1 from rfl,show Int.toNat 2=2 from rfl]
 refine bT (by simp;omega) ?_
 have w0:i64.wrap (b.getD 0 0)=b.getD 0 0:=ag (by omega) (by omega)
 have w1:i64.wrap (b.getD 1 0)=b.getD 1 0:=ag (by omega) (by omega)
 have w2:i64.wrap (b.getD 2 0)=b.getD 2 0:=ag (by omega) (by omega)
 rw[w0,w1,w2,JJ c1.1 c1.2 c2.1 c2.2,ag (n:=b.getD 0 0+2) (by omega) (by omega),ag (n:=b.getD 0 0 - 128) (by omega) (by omega),ag (n:=b.getD 0 0 - 128+4) (by omega) (by omega),show b.getD 0 0 - 128+4=b.getD 0 0 - 124 by omega]
 unfold bC
 generalize b.getD 0 0=c at *
 generalize b.getD 1 0=x at *
 generalize b.getD 2 0=y at *
 by_cases h1:c<128
 ·refine bT (by simpa using h1) ?_
  rw[if_pos h1]
  by_cases h2:(b.length:Int)<c+2
  ·refine bT (by simpa using h2) ?_
   rw[if_pos h2]
   rfl
  ·refine bF (by simpa using h2) ?_
   refine bT (by simp;omega) ?_
   rw[if_neg h2,List.drop_take,show (c+2).toNat - 1=(c+1).toNat by omega]
 ·refine bF (by simpa using h1) ?_
  rw[if_neg h1]
  by_cases h2:(b.length:Int)<3
  ·refine bT (by simpa using h2) ?_
   rw[if_pos h2]
   rfl
  ·refine bF (by simpa using h2) ?_
   refine bT (by simp;omega) ?_
   refine bT (by simp;omega) ?_
   rw[if_neg h2]
   have hi:jl ([],x*256+y,c - 124,())=decide (x*256+y<1∨4096<x*256+y):=by
    have hc:kL ([],x*256+y,c - 124,())=true:=by
     show (if x*256+y≠0 then true else decide (c - 124≠0))=true
     split
     ·rfl
     ·exact decide_eq_true (by omega)
    show (if kL ([],x*256+y,c - 124,())=true then decide (0<0) || (decide (x*256+y<1) || (decide (4096<x*256+y) || (decide (c - 124<4) || decide (131<c - 124)))) else _)=_
    rw[if_pos hc]
    have g1:decide (c - 124<4)=false:=decide_eq_false (by omega)
    have g2:decide (131<c - 124)=false:=decide_eq_false (by omega)
    rw[g1,g2]
    simp
   by_cases h3:x*256+y<1∨4096<x*256+y
   ·refine bT (by rw[hi];exact decide_eq_true h3) ?_
    rw[if_pos h3]
    rfl
   ·refine bF (by rw[hi];exact decide_eq_false h3) ?_
    rw[if_neg h3]
abbrev eU:Io:=⟨[dO,GE,dI],[],[],[dO,dI],none⟩
def pE (d:eU.In):Tr eU.Res:=.ite (decide (d.1.1.length≤4294960000)&&(decide (d.1.2.1.1.length≤4294960000)&&decide ((d.1.2.2.1:Int)≤(32768:Int)))) (.ret (.ret (((bR d.1.1 d.1.2.1 d.1.2.2.1).1,(bR d.1.1 d.1.2.1 d.1.2.2.1).2,()),()))) .no
abbrev si:List (Nat×Hc):=[(90,ah gD tk)]
def sx:Hd:=bV si
abbrev ch:Lo:=⟨⟨(.one (.onl 5 (Ty.int u8) 1)::.any::cr (.one (.ptr 4 0)::an (fH (di (.one hI::.one hI::fH (di (cr []))))))),[none,none,none,none,some [.hol (.sl 5 (Ty.int u8)),hI,hI]]⟩,[(.exit 0,⟨(.one (.onl 5 (Ty.int u8) 1)::an (an (an []))),[]⟩)]⟩
def fN (d:ch.st.den):Tr (aA ch.xs):=
 .ite (decide (d.1.2.2.1=0)&&(decide ((0:Int)≤d.1.2.1)&&((decide (d.1.2.1=0) || (decide ((1:Int)≤d.2.1.2.1)&&decide (d.2.1.2.1≤(d.1.1.length:Int))))&&decide ((d.1.1.length:Int)+d.1.2.1≤4294967296)))) (.ret (.ret ((),((jb d.2.1.2.1.toNat d.1.2.1.toNat d.1.1,()),())))) .no
def kl:Lp:=cb [(8,bg ch fN)]
def ff {R:Type}(h5:LI)(h6 h7:Int)(h8:LI)(h9 h10:Int)(next:LI→Int→Int→LI→Int→Int→Option R)(out:aA ch.xs→Option R):Option R:=bif decide (h7<h6) then bif decide (0≤i64.wrap ((↑h5.length:Int) - h9))&&decide (i64.wrap ((↑h5.length:Int) - h9)<(↑h5.length:Int)) then bif decide (h5.length+1≤4294967296) then next (h5++[h5.getD (i64.wrap ((↑h5.length:Int) - h9)).toNat 0]) (h6) (i64.wrap (h7+1)) (h8) (h9) (h10) else none else none else out (.ret ((),((h5,()),())))
def gG (n:Nat)(h5:LI)(h6 h7:Int)(h8:LI)(h9 h10:Int):Option (aA ch.xs):=kC tt sx dr kl 0 Tryd.f94 (dD Tryd.f94 0) n (ch.st.mk' ((h5,(h6,(h7,()))),((h8,(h9,(h10,()))),()))) (cx ch.xs)
theorem j3 (n:Nat)(h5:LI)(h6 h7:Int)(h8:LI)(h9 h10:Int):gG (n+1) h5 h6 h7 h8 h9 h10=ff h5 h6 h7 h8 h9 h10 (gG n) some:=by kernel_rfl
theorem rg (lit:LI)(len:Int){d:Nat}:∀(m k i:Nat) (out:LI),m<k→(m=0∨1≤d∧d≤out.length)→out.length+m≤4294967296→i+m≤4294967296→
  gG k out ((i+m:Nat):Int) i lit d len=some (.ret ((),((jb d m out,()),()))):=by
 intro m
 induction m with
 |zero=>
  intro k i out h1 h2 h3 h4
  obtain ⟨k,rfl⟩:∃j,k=j+1:=⟨k - 1,by omega⟩
  rw[j3]
  unfold ff
  refine bF (by simp) ?_
  rfl
 |succ m ih=>
  intro k i out h1 h2 h3 h4
  obtain ⟨k,rfl⟩:∃j,k=j+1:=⟨k - 1,by omega⟩
  rw[j3]
  unfold ff
  have h2:1≤d∧d≤out.length:=by rcases h2 with h | h;omega;exact h
  rw[ag (n:=(out.length:Int) - (d:Int)) (by omega) (by omega),ag (n:=(i:Int)+1) (by omega) (by omega),show ((out.length:Int) - (d:Int)).toNat=out.length - d by omega]
  refine bT (by simp;omega) ?_
  refine bT (by simp;omega) ?_
  refine bT (by simp;omega) ?_
  have:=ih k (i+1) (out++[out.getD (out.length - d) 0]) (by omega) (.inr ⟨h2.1,by simp;omega⟩) (by simp;omega) (by omega)
  rw[show ((i+1+m:Nat):Int)=((i+(m+1):Nat):Int) by omega] at this
  exact this
def nS (a0 a1:LI)(a2 a3 a4:Int):Option eU.Res:=bif jl (a1,a2,a3,()) then oR (([],50,()),()) else bif decide ((↑a0.length:Int)<a2) then oR (([],50,()),()) else bif decide (a4<i64.wrap (i64.wrap ((↑a0.length:Int)+(↑a1.length:Int))+a3)) then oR (([],4,()),()) else bif decide (a0.length+a1.length≤4294967296) then (fN ((a0++a1,(a3,(0,()))),((a1,(a2,(a3,()))),()))).run fun y=>match y with | .ret ((),((x18,()),()))=>(oR ((x18,0,()),())) else none
theorem yD (a0 a1:LI)(a2 a3 a4:Int):Io.run tt sx dr kl eU Tryd.f94 ((a0,(a1,a2,a3,()),a4,()),())=nS a0 a1 a2 a3 a4:=by kernel_rfl
theorem nZ:HcsOk prog si:=.cons Bi .nil
theorem Ch:HcOk prog 94 (ah eU pE):=by
 refine cq nZ (lp:=kl) (fn:=Tryd.f94) eU (.step (h0:=bg ch fN) (by kernel_rfl) (lI nZ (lp:=kl) (fn:=Tryd.f94) (.done (by kernel_rfl)) ch fN ?_) (.done (by kernel_rfl))) pE ?_
 ·rintro ⟨⟨(out:LI),(n:Int),(i:Int),⟨⟩⟩,⟨⟨(lit:LI),(d:Int),(len:Int),⟨⟩⟩,⟨⟩⟩⟩ y hw hy
  obtain ⟨hg,hy⟩:=Tr.guard hy
  simp only[zA,Bool.or_eq_true,zB] at hg
  obtain ⟨h1,h2,h3,h4⟩:=hg
  have h1:i=0:=h1
  have h2:0≤n:=h2
  have h3:n=0∨1≤d∧d≤(out.length:Int):=h3
  have h4:(out.length:Int)+n≤4294967296:=h4
  subst h1
  obtain ⟨m,rfl⟩:=aN h2
  rcases h3 with h3 | h3
  ·have h3:m=0:=by omega
   subst h3
   refine ⟨1,?_⟩
   rw[← hy]
   show gG (0+1) out ((0:Nat):Int) 0 lit d len=_
   rw[j3]
   unfold ff
   exact ab (by simp) _ _
  ·obtain ⟨d,rfl⟩:=aN (show 0≤d by omega)
   have:=rg lit len (d:=d) m (m+1) 0 out (by omega) (.inr ⟨by omega,by omega⟩) (by omega) (by omega)
   rw[Nat.zero_add] at this
   refine ⟨m+1,this.trans ?_⟩
   rw[← hy];rfl
 ·rintro ⟨⟨(out:LI),⟨(lit:LI),(d:Int),(len:Int),⟨⟩⟩,(m:Int),⟨⟩⟩,⟨⟩⟩ o hw ho
  obtain ⟨hg,ho⟩:=Tr.guard ho
  simp only[zA,zB] at hg
  obtain ⟨h1,h2,h3⟩:=hg
  have h1:out.length≤4294960000:=h1
  have h2:lit.length≤4294960000:=h2
  have h3:m≤(32768:Int):=h3
  cases ho
  refine (yD out lit d len m).trans ?_
  show _=oR (((bR out (lit,d,len,()) m).1,(bR out (lit,d,len,()) m).2,()),())
  unfold nS bR
  cases hi:jl (lit,d,len,()) with
  |true=>
   refine (aa rfl _ _).trans ?_
   rw[if_pos (.inl rfl)]
  |false=>
   obtain ⟨i1,i2⟩:=Et hi
   refine (ab rfl _ _).trans ?_
   by_cases h4:(out.length:Int)<d
   ·refine bT (by simpa using h4) ?_
    rw[if_pos (.inr h4)]
   ·refine bF (by simpa using h4) ?_
    rw[if_neg (by rintro (h | h);cases h;exact h4 h),ag (n:=(out.length:Int)+(lit.length:Int)) (by omega) (by omega),ag (n:=(out.length:Int)+(lit.length:Int)+len) (by omega) (by omega)]
    by_cases h5:m<(out.length:Int)+(lit.length:Int)+len
    ·refine bT (by simpa using h5) ?_
     rw[if_pos h5]
    ·refine bF (by simpa using h5) ?_
     refine bT (by simp;omega) ?_
     rw[if_neg h5]
     have hg:(decide ((0:Int)=0)&&(decide ((0:Int)≤len)&&((decide (len=0) || (decide ((1:Int)≤d)&&decide (d≤((out++lit).length:Int))))&&decide (((out++lit).length:Int)+len≤4294967296))))=true:=by
      simp only[zA,Bool.or_eq_true,zB,zH]
      refine ⟨trivial,i1.1,?_,by omega⟩
      rcases i2 with h | h
      ·exact .inl h.1
      ·exact .inr ⟨h.2.1,by omega⟩
     have e:fN ((out++lit,(len,(0,()))),((lit,(d,(len,()))),()))=.ite true (.ret (.ret ((),((jb d.toNat len.toNat (out++lit),()),())))) .no:=congrArg (fun c=>Tr.ite c _ _) hg
     rw[e]
     rfl
abbrev eQ:Io:=⟨[dI],[],[],[dI],none⟩
def pD (d:eQ.In):Tr eQ.Res:=.ret (.ret ((bv d.1.1,()),()))
abbrev sh:List (Nat×Hc):=[]
def BZ:Hd:=bV sh
def sH:Lp:=cb []
def vp (a0:Int):Option eQ.Res:=oR ((mR (eJ a0 0) 32768,()),())
theorem yC (a0:Int):Io.run tt BZ dr sH eQ Tryd.f95 ((a0,()),())=vp a0:=by kernel_rfl
theorem Cg:HcOk prog 95 (ah eQ pD):=by
 refine cq (cs:=sh) HcsOk.nil (lp:=sH) (fn:=Tryd.f95) eQ (.done (by kernel_rfl)) pD ?_
 rintro ⟨⟨(m:Int),⟨⟩⟩,⟨⟩⟩ out hw ho
 cases ho
 exact yC m
abbrev iQ:Io:=⟨[dL,dI],[],[],[dO,dI],none⟩
def xA (d:iQ.In):Tr iQ.Res:=.ite (decide (d.1.1.length≤4294960000)) (.ret (.ret (((aL d.1.1 d.1.2.1).1,(aL d.1.1 d.1.2.1).2,()),()))) .no
abbrev z9:List (Nat×Hc):=[(93,ah iR xB),(95,ah eQ pD),(94,ah eU pE)]
def Au:Hd:=bV z9
abbrev df:Lo:=⟨⟨(.one (.hol (.sl 5 (Ty.int u8)))::.one hI::di (.one (.onl 5 (Ty.int u8) 13)::.any::an (fH (di (cr []))))),[]⟩,[(.ret,⟨(di (.one (.onl 5 (Ty.int u8) 9)::.one hI::an (an ([])))),[]⟩),(.exit 0,⟨(di (cr (.one (.onl 5 (Ty.int u8) 13)::.any::an (fH (di (cr [])))))),[]⟩)]⟩
def jx (d:df.st.den):Tr (aA df.xs):=
 .ite (decide (d.1.1.length≤4294960000)&&decide (d.1.2.2.1.length≤32768)) (.ite (decide ((cw (d.1.1.length+1) d.1.1 d.1.2.2.1 (bv d.1.2.1)).2=0)) (.ret (.pan (.ret ((),(((cw (d.1.1.length+1) d.1.1 d.1.2.2.1 (bv d.1.2.1)).1,()),()))))) (.ret (.ret ((),(([],(cw (d.1.1.length+1) d.1.1 d.1.2.2.1 (bv d.1.2.1)).2,()),()))))) .no
def pi:Lp:=cb [(3,bg df jx)]
def oz {R:Type}(h2:LI)(h3:Int)(h4:LI)(next:LI→Int→LI→Option R)(out:aA df.xs→Option R):Option R:=bif decide (0<(↑h2.length:Int)) then bif decide (1≤h2.length) then bif (bC h2).2.2 != 0 then out (.ret ((),(([],((bC h2).2.2,())),()))) else bif decide (h4.length≤4294960000)&&(decide (List.length (bC h2).1.1≤4294960000)&&decide (bv h3≤32768)) then bif (bR h4 (bC h2).1 (bv h3)).2 != 0 then out (.ret ((),(([],((bR h4 (bC h2).1 (bv h3)).2,())),()))) else bif decide (0≤(bC h2).2.1)&&(decide ((bC h2).2.1≤(↑h2.length:Int))&&decide ((↑h2.length:Int)≤(↑h2.length:Int))) then next (List.drop (bC h2).2.1.toNat (List.take (↑h2.length:Int).toNat h2)) (h3) ((bR h4 (bC h2).1 (bv h3)).1) else none else none else none else out (.pan (.ret ((),((h4,()),()))))
def ny (n:Nat)(h2:LI)(h3:Int)(h4:LI):Option (aA df.xs):=kC tt Au dr pi 0 Tryd.f72 (dD Tryd.f72 0) n (df.st.mk' ((h2,(h3,(h4,()))),())) (cx df.xs)
theorem CH (n:Nat)(h2:LI)(h3:Int)(h4:LI):ny (n+1) h2 h3 h4=oz h2 h3 h4 (ny n) some:=by kernel_rfl
theorem wi (m:Int):∀(k:Nat) (b out:LI),(∀c∈b,0≤c∧c≤255)→b.length<k→b.length≤4294960000→out.length≤32768→
  ny k b m out=if (cw k b out (bv m)).2=0 then some (.pan (.ret ((),(((cw k b out (bv m)).1,()),())))) else some (.ret ((),(([],((cw k b out (bv m)).2,())),()))):=by
 intro k
 induction k with
 |zero=>intro b out _ h;omega
 |succ k ih=>
  intro b out hb h1 h2 h3
  rw[CH]
  unfold oz
  by_cases hne:b=[]
  ·subst hne
   refine (ab rfl _ _).trans ?_
   rfl
  ·have hp:0<b.length:=List.length_pos_iff.2 hne
   have e:cw (k+1) b out (bv m)=if (bC b).2.2≠0 then ([],(bC b).2.2) else if (bR out (bC b).1 (bv m)).2≠0 then ([],(bR out (bC b).1 (bv m)).2) else cw k (b.drop (bC b).2.1.toNat) (bR out (bC b).1 (bv m)).1 (bv m):=by
    rw[cw,if_neg hne]
   have hlit:=CM b
   have hbd:=qF m
   refine bT (by simpa using hp) ?_
   refine bT (by simp;omega) ?_
   rw[e]
   by_cases h4:(bC b).2.2=0
   ·have ho:=F9 hb h4 hne
    refine bF (by simpa using h4) ?_
    refine bT (by simp only[zA,zB];omega) ?_
    rw[if_neg (av h4)]
    by_cases h5:(bR out (bC b).1 (bv m)).2=0
    ·have hle:=qG h5
     refine bF (by simpa using h5) ?_
     refine bT (by simp only[zA,zB];omega) ?_
     rw[if_neg (av h5),zG,List.take_length]
     exact ih _ _ (fun c hc=>hb c (List.mem_of_mem_drop hc)) (by simp;omega) (by simp;omega) (by omega)
    ·refine bT (by simpa using h5) ?_
     rw[if_pos h5,if_neg h5]
   ·refine bT (by simpa using h4) ?_
    rw[if_pos h4,if_neg h4]
def rV (a0:LI)(a1:Int):Option iQ.Res:=(jx ((a0,(a1,([],()))),())).run fun y=>match y with | .ret ((),((x13,x14,()),()))=>(oR ((x13,x14,()),())) | .pan (.ret ((),((x15,()),())))=>(oR ((x15,0,()),()))
theorem FM (a0:LI)(a1:Int):Io.run tt Au dr pi iQ Tryd.f72 ((a0,a1,()),())=rV a0 a1:=by kernel_rfl
theorem sw:HcsOk prog z9:=.cons Hz (.cons Cg (.cons Ch .nil))
theorem Hy:HcOk prog 72 (ah iQ xA):=by
 refine cq sw (lp:=pi) (fn:=Tryd.f72) iQ (.step (h0:=bg df jx) (by kernel_rfl) (lI sw (lp:=pi) (fn:=Tryd.f72) (.done (by kernel_rfl)) df jx ?_) (.done (by kernel_rfl))) xA ?_
 ·rintro ⟨⟨(b:LI),(m:Int),(out:LI),⟨⟩⟩,⟨⟩⟩ y hw hy
  obtain ⟨hg,hy⟩:=Tr.guard hy
  simp only[zA,zB] at hg
  refine ⟨b.length+1,(wi m (b.length+1) b out (dN hw.1.1) (by omega) hg.1 hg.2).trans ?_⟩
  rw[← hy]
  simp only[Tr.val_ite,zB,Tr.val_ret]
 ·rintro ⟨⟨(b:LI),(m:Int),⟨⟩⟩,⟨⟩⟩ o hw ho
  obtain ⟨hg,ho⟩:=Tr.guard ho
  have hg:b.length≤4294960000:=of_decide_eq_true hg
  cases ho
  refine (FM b m).trans ?_
  show _=oR (((aL b m).1,(aL b m).2,()),())
  unfold rV jx
  rw[gH]
  refine bT (by simp only[zA,zB];exact ⟨hg,by simp⟩) ?_
  by_cases h:(cw (b.length+1) b [] (bv m)).2=0
  ·refine bT (decide_eq_true h) ?_
   rw[h]
   rfl
  ·refine bF (decide_eq_false h) ?_
   rw[lM _ _ _ _ h]
   rfl
theorem BU (b:LI)(p i:Nat):(b.drop p).getD i 0=b.getD (p+i) 0:=by rw[List.getD_eq_getElem?_getD,List.getD_eq_getElem?_getD,List.getElem?_drop]
abbrev iJ:Io:=⟨[dL,dI],[],[],[dO,dI],none⟩
def xu (d:iJ.In):Tr iJ.Res:=.ite (decide ((d.1.2.1:Int)=(32768:Int))&&decide (d.1.1.length≤4294960000)) (.ret (.ret (((cO d.1.1).1,(cO d.1.1).2,()),()))) .no
abbrev zU:List (Nat×Hc):=[(71,ah jI ze),(72,ah iQ xA)]
def GW:Hd:=bV zU
def AM:Lp:=cb []
def rM (a0:LI)(a1:Int):Option iJ.Res:=bif (ac 10 1 a0 0).2.2 != 0 then oR (([],(ac 10 1 a0 0).2.2,()),()) else bif decide (ao (ac 10 1 a0 0).1<0) then oR (([],5,()),()) else bif decide (eJ a1 0<ao (ac 10 1 a0 0).1) then oR (([],4,()),()) else bif decide (32768<ao (ac 10 1 a0 0).1) then oR (([],4,()),()) else bif decide (0≤(ac 10 1 a0 0).2.1)&&(decide ((ac 10 1 a0 0).2.1≤(↑a0.length:Int))&&decide ((↑a0.length:Int)≤(↑a0.length:Int))) then bif decide ((List.drop (ac 10 1 a0 0).2.1.toNat (List.take (↑a0.length:Int).toNat a0)).length≤4294960000) then bif (aL (List.drop (ac 10 1 a0 0).2.1.toNat (List.take (↑a0.length:Int).toNat a0)) (ao (ac 10 1 a0 0).1)).2 == 4 then bif (aL (List.drop (ac 10 1 a0 0).2.1.toNat (List.take (↑a0.length:Int).toNat a0)) (ao (ac 10 1 a0 0).1)).2 == 4 then oR (([],60,()),()) else bif (aL (List.drop (ac 10 1 a0 0).2.1.toNat (List.take (↑a0.length:Int).toNat a0)) (ao (ac 10 1 a0 0).1)).2 != 0 then oR (([],(aL (List.drop (ac 10 1 a0 0).2.1.toNat (List.take (↑a0.length:Int).toNat a0)) (ao (ac 10 1 a0 0).1)).2,()),()) else oR (((aL (List.drop (ac 10 1 a0 0).2.1.toNat (List.take (↑a0.length:Int).toNat a0)) (ao (ac 10 1 a0 0).1)).1,0,()),()) else bif (aL (List.drop (ac 10 1 a0 0).2.1.toNat (List.take (↑a0.length:Int).toNat a0)) (ao (ac 10 1 a0 0).1)).2 == 0 then bif decide ((↑(aL (List.drop (ac 10 1 a0 0).2.1.toNat (List.take (↑a0.length:Int).toNat a0)) (ao (ac 10 1 a0 0).1)).1.length:Int)<ao (ac 10 1 a0 0).1) then oR (([],60,()),()) else bif (aL (List.drop (ac 10 1 a0 0).2.1.toNat (List.take (↑a0.length:Int).toNat a0)) (ao (ac 10 1 a0 0).1)).2 != 0 then oR (([],(aL (List.drop (ac 10 1 a0 0).2.1.toNat (List.take (↑a0.length:Int).toNat a0)) (ao (ac 10 1 a0 0).1)).2,()),()) else oR (((aL (List.drop (ac 10 1 a0 0).2.1.toNat (List.take (↑a0.length:Int).toNat a0)) (ao (ac 10 1 a0 0).1)).1,0,()),()) else bif (aL (List.drop (ac 10 1 a0 0).2.1.toNat (List.take (↑a0.length:Int).toNat a0)) (ao (ac 10 1 a0 0).1)).2 != 0 then oR (([],(aL (List.drop (ac 10 1 a0 0).2.1.toNat (List.take (↑a0.length:Int).toNat a0)) (ao (ac 10 1 a0 0).1)).2,()),()) else oR (((aL (List.drop (ac 10 1 a0 0).2.1.toNat (List.take (↑a0.length:Int).toNat a0)) (ao (ac 10 1 a0 0).1)).1,0,()),()) else none else none
theorem FC (a0:LI)(a1:Int):Io.run tt GW dr AM iJ Tryd.f54 ((a0,a1,()),())=rM a0 a1:=by kernel_rfl
theorem Hs:HcOk prog 54 (ah iJ xu):=by
 refine cq (cs:=zU) (.cons Fd (.cons Hy .nil)) (lp:=AM) (fn:=Tryd.f54) iJ (.done (by kernel_rfl)) xu ?_
 rintro ⟨⟨(b:LI),(most:Int),⟨⟩⟩,⟨⟩⟩ o hw ho
 obtain ⟨hg,ho⟩:=Tr.guard ho
 simp only[zA,zB] at hg
 obtain ⟨h0,hl⟩:=hg
 have h0:most=32768:=h0
 have hl:b.length≤4294960000:=hl
 subst h0
 cases ho
 refine (FC b 32768).trans ?_
 show _=oR (((cO b).1,(cO b).2,()),())
 unfold rM cO
 have hk:=@mP 10 1 b 0
 generalize hge:ac 10 1 b 0=g at *
 obtain ⟨u,q,e⟩:=g
 simp only at hk ⊢
 by_cases h1:e=0
 rotate_left
 ·refine bT (by simpa using h1) ?_
  rw[if_pos h1]
 subst h1
 have hk:=hk rfl
 obtain ⟨q,rfl⟩:=aN (show 0≤q by omega)
 refine (ab rfl _ _).trans ?_
 rw[if_neg (av rfl)]
 generalize ao u=n
 by_cases h2:n<0
 ·refine bT (decide_eq_true h2) ?_
  rw[if_pos h2]
 refine bF (decide_eq_false h2) ?_
 rw[if_neg h2]
 by_cases h3:32768<n
 ·refine bT (decide_eq_true (show eJ 32768 0<n from h3)) ?_
  rw[if_pos h3]
 refine bF (decide_eq_false (show ¬ eJ 32768 0<n from h3)) ?_
 refine bF (decide_eq_false h3) ?_
 rw[if_neg h3]
 have hx:=gH (b.drop q) n
 rw[zG,zG,List.take_length]
 refine bT (by simp only[zA,zB];omega) ?_
 refine bT (decide_eq_true (by simp;omega)) ?_
 have hx1:(aL (b.drop q) n).2≠0→(aL (b.drop q) n).1=[]:=by rw[hx];exact lM _ _ _ _
 clear hx
 generalize aL (b.drop q) n=x at *
 obtain ⟨o,f⟩:=x
 simp only at hx1 ⊢
 by_cases h4:f=4
 ·subst h4
  refine (aa rfl _ _).trans ?_
  rw[if_pos (.inl rfl)]
  all_goals rfl
 refine bF (by simpa using h4) ?_
 by_cases h5:f=0
 ·subst h5
  refine (aa rfl _ _).trans ?_
  by_cases h6:(o.length:Int)<n
  ·refine bT (decide_eq_true h6) ?_
   rw[if_pos (.inr ⟨rfl,h6⟩)]
  ·refine bF (decide_eq_false h6) ?_
   rw[if_neg (by rintro (h | h);cases h;exact h6 h.2),if_neg (av rfl)]
   all_goals rfl
 ·refine bF (by simpa using h5) ?_
  rw[if_neg (by rintro (h | h);exact h4 h;exact h5 h.1),if_pos h5]
  exact aa (by simpa using h5) _ _
abbrev bc:Ty:=.prod (.int .i64) (.prod sW (.prod sW (.prod yV .unit)))
abbrev IN:Ty:=.sl 70 bc
abbrev KE:Ty:=.prod (.int .i64) (.prod (.int .i32) (.prod (.int .i64) (.prod (.int .i16) (.prod (.int .i32) (.prod IN .unit)))))
abbrev KF:Ty:=.prod (.int .i64) (.prod (.int .i64) (.prod (.int .i32) (.prod .bool (.prod (.int .i64) (.prod (.int .i64) (.prod (.int .i64) (.prod (.int .i64) (.prod (.int .i16) (.prod (.int .i32) .unit)))))))))
abbrev bd:Type:=Int×q8×q8×List bI×Unit
abbrev dm:Type:=Int×Int×Int×Int×Int×List bd×Unit
abbrev rq:Type:=Int×Int×Int×Bool×Int×Int×Int×Int×Int×Int×Unit
abbrev IT:Sh:=.dat bc true false
abbrev DV:Sh:=.dat IN false false
abbrev q9:Sh:=.dat KE true false
abbrev IF:Sh:=.dat KF true false
def pr:dm:=(0,0,0,0,0,[],())
def cZ:rq:=(0,0,0,false,0,0,0,0,0,0,())
def pu:bd:=(0,(false,[],()),(false,[],()),[],())
def aY (base:Int):Bool:=decide (base<0) || decide (4611686018427387648<base)
def aQ (pid ep sq:Int):Bool:=if pid = -1∧ep = -1∧sq = -1∨0≤pid∧0≤ep∧0≤sq then false else true
def aB (n:Int):Bool:=if -9223372036854775808≤n∧n≤9223372036854775807 then true else false
def aj (rs:List bd):Int:=match rs with
 |[]=>0
 |r::_=>r.1
def aM (f:Int)(i:Nat)(r:bd):fQ:=(r.1 - f,(i:Int),r.2.1,r.2.2.1,r.2.2.2.1,())
def ay (f:Int):List bd→Nat→LI→LI×Int
 |[],_,out=>(out,0)
 |r::rs,i,out=>
  if aB (r.1 - f)=false then ([],86)
  else if au (aM f i r)≠0 then ([],au (aM f i r))
  else ay f rs (i+1) (out++(aK (aM f i r)).1)
def aE (rs:List bd):LI×Int:=
 if (ay (aj rs) rs 0 []).2≠0 then ([],(ay (aj rs) rs 0 []).2)
 else if 32768<((ay (aj rs) rs 0 []).1.length:Int) then ([],4)
 else ((ay (aj rs) rs 0 []).1,0)
def ar (b:dm):Int:=
 if aY b.1=true then 80
 else if aQ b.2.2.1 b.2.2.2.1 b.2.2.2.2.1=true then 84
 else if b.2.2.2.2.2.1=[] then 85
 else if 256<(b.2.2.2.2.2.1.length:Int) then 9
 else (aE b.2.2.2.2.2.1).2
def ct (b:dm):LI×Int:=if ar b≠0 then ([],ar b) else ((aE b.2.2.2.2.2.1).1,0)
def gI:List bd→Int→Int
 |[],t=>t
 |r::rs,t=>gI rs (eJ t r.1)
def cR (rs:List bd):Int:=match rs with
 |[]=>-9223372036854775808
 |r::rs=>gI rs r.1
def ba (b:dm)(attrs:Int)(blk:LI):LI:=
 ap attrs 2++(ap ((b.2.2.2.2.2.1.length:Int) - 1) 4++(ap (aj b.2.2.2.2.2.1) 8++(ap (cR b.2.2.2.2.2.1) 8++(ap b.2.2.1 8++(ap b.2.2.2.1 2++(ap b.2.2.2.2.1 4++(ap (b.2.2.2.2.2.1.length:Int) 4++blk)))))))
def bY (b:dm)(attrs:Int)(blk:LI):LI:=
 ap b.1 8++(ap (49+(blk.length:Int)) 4++(ap b.2.1 4++([2]++(ap (cX 0 (ba b attrs blk)) 4++ba b attrs blk))))
def dq (b:dm):LI×Int:=if ar b≠0 then ([],ar b) else (bY b 0 (aE b.2.2.2.2.2.1).1,0)
def aw (b:LI)(p n:Nat):Int:=dK ((b.drop p).take n)
def aP (b:LI)(p:Int):Int×Int:=
 if p<0∨(b.length:Int)<p then (0,3)
 else if (b.length:Int) - p<12 then (0,1)
 else if aw b (p.toNat+8) 4<49 then (0,5)
 else if 35988<aw b (p.toNat+8) 4 then (0,4)
 else if (b.length:Int) - p - 12<aw b (p.toNat+8) 4 then (0,1)
 else (aw b (p.toNat+8) 4+12,0)
def ez (b:LI):Bool:=if (b.drop 17).take 4=ap (cX 0 (b.drop 21)) 4 then true else false
def gW (b:LI):rq:=(aw b 0 8,(b.length:Int),aw b 12 4,decide (b.getD 22 0=1),aw b 57 4,aw b 27 8,aw b 35 8,aw b 43 8,aw b 51 2,aw b 53 4,())
def bh (b:LI)(summing:Bool):Int:=
 if (b.length:Int)<61 then 1
 else if (aP b 0).2≠0 then (aP b 0).2
 else if (aP b 0).1<(b.length:Int) then 2
 else if b.getD 16 0≠2 then 81
 else if summing=true∧ez b=false then 82
 else if aY (aw b 0 8)=true then 80
 else if b.getD 21 0≠0∨1<b.getD 22 0 then 83
 else if aQ (aw b 43 8) (aw b 51 2) (aw b 53 4)=true then 84
 else if aw b 57 4<1 then 85
 else if 256<aw b 57 4 then 9
 else if aw b 23 4≠aw b 57 4 - 1 then 72
 else 0
def al (b:LI)(summing:Bool):rq×Int:=if bh b summing≠0 then (cZ,bh b summing) else (gW b,0)
def aD (blk:LI)(f:Int):Nat→Nat→Int→List bd→List bd×Int×Int
 |0,_,p,out=>(out,p,0)
 |n+1,i,p,out=>
  if (ak blk p).2.2≠0 then ([],0,(ak blk p).2.2)
  else if (ak blk p).1.2.1≠(i:Int) then ([],0,72)
  else if i=0∧(ak blk p).1.1≠0∨aB (f+(ak blk p).1.1)=false then ([],0,86)
  else aD blk f n (i+1) (ak blk p).2.1 (out++[(f+(ak blk p).1.1,(ak blk p).1.2.2.1,(ak blk p).1.2.2.2.1,(ak blk p).1.2.2.2.2.1,())])
def qK (blk:LI)(f l:Int)(n:Nat):List bd×Int:=
 if (aD blk f n 0 0 []).2.2≠0 then ([],(aD blk f n 0 0 []).2.2)
 else if (aD blk f n 0 0 []).2.1<(blk.length:Int) then ([],2)
 else if cR (aD blk f n 0 0 []).1≠l then ([],86)
 else ((aD blk f n 0 0 []).1,0)
def aF (b:LI)(packed:Bool):LI×Int:=
 if packed=true then cO (b.drop 61) else if 32768<((b.drop 61).length:Int) then ([],4) else (b.drop 61,0)
def eY (b:LI):List bd×Int:=
 if bh b true≠0 then ([],bh b true)
 else if (aF b (decide (b.getD 22 0=1))).2≠0 then ([],(aF b (decide (b.getD 22 0=1))).2)
 else qK (aF b (decide (b.getD 22 0=1))).1 (aw b 27 8) (aw b 35 8) (aw b 57 4).toNat
def aH (b:LI):dm×Int:=
 if (eY b).2≠0 then (pr,(eY b).2) else ((aw b 0 8,aw b 12 4,aw b 43 8,aw b 51 2,aw b 53 4,(eY b).1,()),0)
abbrev d8:Sh:=.dat (.int .i8) false false
abbrev qb:Io:=⟨[.ptr 0 0,d8],[Hl],[],[dI],none⟩
def Gu (d:qb.In):Tr qb.Res:=
 .ite (cA d.2.1.1 d.2.1.2.1) (.ret (.ret (((b8 d.2.1.1 d.2.1.2.1 d.1.2.1 1).1,()),(((b8 d.2.1.1 d.2.1.2.1 d.1.2.1 1).2,(d.2.1.2.1,())),())))) .no
abbrev IE:List (Nat×Hc):=[(66,ah cP ie)]
def Ko:Hd:=bV IE
def IK:Lp:=cb []
def zq (a0:Int)(a1:LI)(a2:Int):Option qb.Res:=bif cA a1 a2&&(decide (0≤1)&&decide (1≤8)) then oR (((b8 a1 a2 (u64.wrap a0) (Int.toNat 1)).1,()),((b8 a1 a2 (u64.wrap a0) (Int.toNat 1)).2,a2,()),()) else none
theorem JM (a0:Int)(a1:LI)(a2:Int):Io.run tt Ko dr IK qb Tryd.f38 (((),a0,()),(a1,a2,()),())=zq a0 a1 a2:=by kernel_rfl
theorem Kx:HcOk prog 38 (ah qb Gu):=by
 refine cq (cs:=IE) (.cons kv .nil) (lp:=IK) (fn:=Tryd.f38) qb (.done (by kernel_rfl)) Gu ?_
 rintro ⟨⟨⟨⟩,(v:Int),⟨⟩⟩,⟨⟨(b:LI),(m:Int),⟨⟩⟩,⟨⟩⟩⟩ out hw ho
 obtain ⟨hg,ho⟩:=Tr.guard ho
 have hg:cA b m=true:=hg
 cases ho
 refine (JM v b m).trans ?_
 unfold zq
 have e:b8 b m (u64.wrap v) 1=b8 b m v 1:=by unfold b8;rw[mL v (by decide)]
 simp[hg,e]
abbrev lw:Io:=⟨[.ptr 0 0],[IL],[],[d8,dI],none⟩
def zg (d:lw.In):Tr lw.Res:=
 .ite (co d.2.1.1 d.2.1.2.1) (.ret (.ret ((i8.wrap (bE d.2.1.1 d.2.1.2.1 1).1,((bE d.2.1.1 d.2.1.2.1 1).2.2,())),((d.2.1.1,((bE d.2.1.1 d.2.1.2.1 1).2.1,())),())))) .no
abbrev DN:List (Nat×Hc):=[(45,ah cm fI)]
def Ja:Hd:=bV DN
def ES:Lp:=cb []
def vo (a0:LI)(a1:Int):Option lw.Res:=bif co a0 a1&&(decide (0≤1)&&decide (1≤8)) then oR ((i8.wrap (bE a0 a1 (Int.toNat 1)).1,(bE a0 a1 (Int.toNat 1)).2.2,()),(a0,(bE a0 a1 (Int.toNat 1)).2.1,()),()) else none
theorem H0 (a0:LI)(a1:Int):Io.run tt Ja dr ES lw Tryd.f49 (((),()),(a0,a1,()),())=vo a0 a1:=by kernel_rfl
theorem JA:HcOk prog 49 (ah lw zg):=by
 refine cq (cs:=DN) (.cons iY .nil) (lp:=ES) (fn:=Tryd.f49) lw (.done (by kernel_rfl)) zg ?_
 rintro ⟨⟨⟨⟩,⟨⟩⟩,⟨⟨(b:LI),(p:Int),⟨⟩⟩,⟨⟩⟩⟩ out hw ho
 obtain ⟨hg,ho⟩:=Tr.guard ho
 have hg:co b p=true:=hg
 cases ho
 refine (H0 b p).trans ?_
 unfold vo
 rw[aa (by simp[hg])]
 rfl
end
end Go.Proofs.YtcbcbjdobbgddaaDoor.Sym
