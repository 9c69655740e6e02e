/- leatref07: take, heads, row, Get. -/
import Derived.Test.YthpcdhgpplmneaaDoorRows
import Derived.WalkKit
import Derived.ProofKit
import Derived.OpenShut
import Derived.JoinedCond
import Derived.ChangeStays
import Derived.DataReads
import Derived.Test.YthpcdhgpplmneaaDoorQ3

set_option linter.unusedVariables false
set_option linter.unusedSimpArgs false
namespace Go.Proofs.YthpcdhgpplmneaaDoor.Sym
open Go
open Go.IntKind (i8 i16 i32 i64 u8 u16 u32 u64)
noncomputable section
def ag (b:LI)(p:Int):Int×Int×Int:=(IntKind.wrap .i32 (al (ab 5 15 b p).1),(ab 5 15 b p).2.1,(ab 5 15 b p).2.2)
def ae (b:LI)(p least:Int):wR×Int×Int:=
 if (ag b p).2.2≠0 then ((false,[],()),0,(ag b p).2.2)
 else if (ag b p).1<least then ((false,[],()),0,5)
 else if (ag b p).1<0 then ((true,[],()),(ag b p).2.1,0)
 else if (b.length:Int) - (ag b p).2.1<(ag b p).1 then ((false,[],()),0,1)
 else ((false,(b.drop (ag b p).2.1.toNat).take (ag b p).1.toNat,()),(ag b p).2.1+(ag b p).1,0)
def aX (b:LI):Nat→List d0→Int→List d0×Int×Int
 |0,out,p=>(out,p,0)
 |n+1,out,p=>
  if (ae b p 0).2.2≠0 then ([],0,(ae b p 0).2.2)
  else if (cw (ae b p 0).1.2.1).2=false then ([],0,6)
  else if (ae b (ae b p 0).2.1 (-1)).2.2≠0 then ([],0,(ae b (ae b p 0).2.1 (-1)).2.2)
  else aX b n (out++[((ae b p 0).1.2.1,(ae b (ae b p 0).2.1 (-1)).1,())]) (ae b (ae b p 0).2.1 (-1)).2.1
def aO (b:LI)(p:Int):List d0×Int×Int:=
 if (ag b p).2.2≠0 then ([],0,(ag b p).2.2)
 else if (ag b p).1<0 then ([],0,5)
 else if 16<(ag b p).1 then ([],0,9)
 else aX b (ag b p).1.toNat [] (ag b p).2.1
def aY:mT:=(0,0,(false,[],()),(false,[],()),[],())
def bv (b:LI):mT×Int:=
 if b.length=0 then (aY,1)
 else if b.getD 0 0≠0 then (aY,71)
 else if (ab 10 1 b 1).2.2≠0 then (aY,(ab 10 1 b 1).2.2)
 else if (ag b (ab 10 1 b 1).2.1).2.2≠0 then (aY,(ag b (ab 10 1 b 1).2.1).2.2)
 else if (ag b (ab 10 1 b 1).2.1).1<0 then (aY,72)
 else if (ae b (ag b (ab 10 1 b 1).2.1).2.1 (-1)).2.2≠0 then (aY,(ae b (ag b (ab 10 1 b 1).2.1).2.1 (-1)).2.2)
 else if (ae b (ae b (ag b (ab 10 1 b 1).2.1).2.1 (-1)).2.1 (-1)).2.2≠0 then (aY,(ae b (ae b (ag b (ab 10 1 b 1).2.1).2.1 (-1)).2.1 (-1)).2.2)
 else if (aO b (ae b (ae b (ag b (ab 10 1 b 1).2.1).2.1 (-1)).2.1 (-1)).2.1).2.2≠0 then (aY,(aO b (ae b (ae b (ag b (ab 10 1 b 1).2.1).2.1 (-1)).2.1 (-1)).2.1).2.2)
 else if (aO b (ae b (ae b (ag b (ab 10 1 b 1).2.1).2.1 (-1)).2.1 (-1)).2.1).2.1<(b.length:Int) then (aY,2)
 else ((al (ab 10 1 b 1).1,(ag b (ab 10 1 b 1).2.1).1,(ae b (ag b (ab 10 1 b 1).2.1).2.1 (-1)).1,(ae b (ae b (ag b (ab 10 1 b 1).2.1).2.1 (-1)).2.1 (-1)).1,(aO b (ae b (ae b (ag b (ab 10 1 b 1).2.1).2.1 (-1)).2.1 (-1)).2.1).1,()),0)
def ak (b:LI)(p:Int):mT×Int×Int:=
 if (ag b p).2.2≠0 then (aY,0,(ag b p).2.2)
 else if (ag b p).1<0 then (aY,0,5)
 else if 16384<(ag b p).1 then (aY,0,4)
 else if (b.length:Int) - (ag b p).2.1<(ag b p).1 then (aY,0,1)
 else if (bv ((b.drop (ag b p).2.1.toNat).take (ag b p).1.toNat)).2≠0 then (aY,0,(bv ((b.drop (ag b p).2.1.toNat).take (ag b p).1.toNat)).2)
 else ((bv ((b.drop (ag b p).2.1.toNat).take (ag b p).1.toNat)).1,(ag b p).2.1+(ag b p).1,0)
theorem Tr.run_of_val {α R:Type}:∀{t:Tr α} {K:α→Option R} {a:α},t.val=some a→t.run K=K a
 |.ret a,K,b,h=>by cases h;rfl
 |.no,K,b,h=>by cases h
 |.ite c t e,K,b,h=>by
  cases c with
  |true=>exact Tr.run_of_val (t:=t) h
  |false=>exact Tr.run_of_val (t:=e) h
theorem nM {m:Nat}{t:Int}{b:LI}{p:Int}(h:(ab m t b p).2.2=0):0≤p∧p<(ab m t b p).2.1∧(ab m t b p).2.1≤b.length:=by
 unfold ab at h ⊢
 split
 ·rename_i h1
  rw[if_pos h1] at h
  cases h
 ·rename_i h1
  rw[if_neg h1] at h
  split
  ·rename_i h2
   have h3:=wF m t (b.drop p.toNat) 0 h2
   simp only[List.length_drop] at h3
   generalize (cX m t (b.drop p.toNat) 0).1=k at h3 ⊢
   simp only
   omega
  ·rename_i h2
   rw[if_neg h2] at h
   exact absurd h h2
theorem eD {b:LI}{p:Int}(h:(ag b p).2.2=0):0≤p∧p<(ag b p).2.1∧(ag b p).2.1≤b.length:=nM h
theorem fE {b:LI}{p:Int} : -2147483648≤(ag b p).1∧(ag b p).1≤2147483647:=by
 have:=bJ .i32 (al (ab 5 15 b p).1)
 simp[bu,IntKind.min,IntKind.max,IntKind.signed,IntKind.bits] at this
 exact this
abbrev KL:Ty:=.prod (.int .i64) .unit
abbrev oT:Option (Nat×Ty):=some (112,KL)
abbrev KY:List Sh:=[dL,dI]
abbrev dW:Io:=⟨[.ptr 0 0],[KY],[],[dI],oT⟩
def kd (d:dW.In):Tr dW.Res:=
 .ite (decide ((ag d.2.1.1 d.2.1.2.1).2.2=0)) (.ret (.ret (((ag d.2.1.1 d.2.1.2.1).1,()),((d.2.1.1,((ag d.2.1.1 d.2.1.2.1).2.1,())),())))) (.ret (.pan ((ag d.2.1.1 d.2.1.2.1).2.2,())))
abbrev ua:List (Nat×Hc):=[(57,ah fz pZ)]
def DE:Hd:=b8 ua
def uu:Lp:=cp []
def pj (a0:LI)(a1:Int):Option dW.Res:=bif (ab 5 15 a0 a1).2.2 != 0 then some (Out.pan ((ab 5 15 a0 a1).2.2,())) else oR ((i64.wrap (i32.wrap (al (ab 5 15 a0 a1).1)),()),(a0,(ab 5 15 a0 a1).2.1,()),())
theorem AL (a0:LI)(a1:Int):Io.run tt DE dr uu dW Tryd.f78 (((),()),(a0,a1,()),())=pj a0 a1:=by kernel_rfl
theorem uD:HcOk prog 78 (ah dW kd):=by
 refine cx (cs:=ua) (.cons yE .nil) (lp:=uu) (fn:=Tryd.f78) dW (.done (by kernel_rfl)) kd ?_
 rintro ⟨⟨⟨⟩,⟨⟩⟩,⟨⟨(b:LI),(p:Int),⟨⟩⟩,⟨⟩⟩⟩ out hw ho
 refine (AL b p).trans ?_
 rw[← ho]
 have hr:=@fE b p
 unfold pj kd
 change (bif (ag b p).2.2 != 0 then some (Out.pan ((ag b p).2.2,())) else oR ((i64.wrap (ag b p).1,()),(b,(ag b p).2.1,()),()))=_
 rw[af (n:=(ag b p).1) (by omega) (by omega)]
 simp only[Tr.val_ite,Tr.val_ret,zB]
 by_cases h:(ag b p).2.2=0
 ·rw[ac (by simpa using h),if_pos h]
 ·rw[aa (by simpa using h),if_neg h]
abbrev fS:Io:=⟨[.ptr 0 0,dI],[KY],[],[dO],oT⟩
def qE (d:fS.In):Tr fS.Res:=
 .ite (decide ((0:Int)≤d.1.2.1)&&(decide (d.1.2.1≤(4294967296:Int))&&(decide ((0:Int)≤d.2.1.2.1)&&decide (d.2.1.2.1≤(d.2.1.1.length:Int)))))
  (.ite (decide ((d.2.1.1.length:Int) - d.2.1.2.1<d.1.2.1)) (.ret (.pan (1,()))) (.ret (.ret (((d.2.1.1.drop d.2.1.2.1.toNat).take d.1.2.1.toNat,()),((d.2.1.1,((d.2.1.2.1:Int)+d.1.2.1,())),()))))) .no
abbrev BG:List (Nat×Hc):=[(40,ah dF mP)]
def Iv:Hd:=b8 BG
def Ct:Lp:=cp []
def tC (a0:Int)(a1:LI)(a2:Int):Option fS.Res:=bif decide (i64.wrap ((↑a1.length:Int) - a2)<a0) then some (Out.pan (1,())) else bif decide (0≤i64.wrap (i64.wrap (a2+a0) - a0))&&(decide (i64.wrap (i64.wrap (a2+a0) - a0)≤i64.wrap (a2+a0))&&decide (i64.wrap (a2+a0)≤(↑a1.length:Int))) then bif decide ((List.drop (i64.wrap (i64.wrap (a2+a0) - a0)).toNat (List.take (i64.wrap (a2+a0)).toNat a1)).length≤4294967296) then oR ((List.drop (i64.wrap (i64.wrap (a2+a0) - a0)).toNat (List.take (i64.wrap (a2+a0)).toNat a1),()),(a1,i64.wrap (a2+a0),()),()) else none else none
theorem G7 (a0:Int)(a1:LI)(a2:Int):Io.run tt Iv dr Ct fS Tryd.f77 (((),a0,()),(a1,a2,()),())=tC a0 a1 a2:=by kernel_rfl
theorem wl:HcOk prog 77 (ah fS qE):=by
 refine cx (cs:=BG) (.cons rT .nil) (lp:=Ct) (fn:=Tryd.f77) fS (.done (by kernel_rfl)) qE ?_
 rintro ⟨⟨⟨⟩,(n:Int),⟨⟩⟩,⟨⟨(b:LI),(p:Int),⟨⟩⟩,⟨⟩⟩⟩ out hw ho
 obtain ⟨hg,ho⟩:=Tr.guard ho
 simp only[zA,zB] at hg
 have h0:0≤n:=hg.1
 have h1:n≤4294967296:=hg.2.1
 have h2:0≤p:=hg.2.2.1
 have h3:p≤b.length:=hg.2.2.2
 refine (G7 n b p).trans ?_
 rw[← ho]
 have hb:b.length≤maxLen:=hw.2.1.1.1
 rw[bq] at hb
 unfold tC
 rw[af (n:=(b.length:Int) - p) (by omega) (by omega)]
 simp only[Tr.val_ite,Tr.val_ret,zB]
 by_cases h:(b.length:Int) - p<n
 ·rw[aa (by simpa using h),if_pos h]
 ·rw[ac (by simpa using h),if_neg h,af (n:=p+n) (by omega) (by omega),show p+n - n=p by omega,af (n:=p) (by omega) (by omega)]
  rw[aa (by simp;omega),List.drop_take,show (p+n).toNat - p.toNat=n.toNat by omega,aa (by simp;omega)]
abbrev ee:Io:=⟨[.ptr 0 0,dI],[KY],[],[dI],oT⟩
def kY (d:ee.In):Tr ee.Res:=
 .ite (decide ((ag d.2.1.1 d.2.1.2.1).2.2=0)) (.ite (decide ((ag d.2.1.1 d.2.1.2.1).1<d.1.2.1)) (.ret (.pan (5,()))) (.ret (.ret (((ag d.2.1.1 d.2.1.2.1).1,()),((d.2.1.1,((ag d.2.1.1 d.2.1.2.1).2.1,())),())))))
  (.ret (.pan ((ag d.2.1.1 d.2.1.2.1).2.2,())))
abbrev xy:List (Nat×Hc):=[(78,ah dW kd)]
def FU:Hd:=b8 xy
def yv:Lp:=cp []
def qW (a0:Int)(a1:LI)(a2:Int):Option ee.Res:=bif decide ((ab 5 15 a1 a2).2.2=0) then bif decide (i32.wrap (al (ab 5 15 a1 a2).1)<a0) then some (Out.pan (5,())) else oR ((i32.wrap (al (ab 5 15 a1 a2).1),()),(a1,(ab 5 15 a1 a2).2.1,()),()) else some (Out.pan ((ab 5 15 a1 a2).2.2,()))
theorem Eb (a0:Int)(a1:LI)(a2:Int):Io.run tt FU dr yv ee Tryd.f80 (((),a0,()),(a1,a2,()),())=qW a0 a1 a2:=by kernel_rfl
theorem rS:HcOk prog 80 (ah ee kY):=by
 refine cx (cs:=xy) (.cons uD .nil) (lp:=yv) (fn:=Tryd.f80) ee (.done (by kernel_rfl)) kY ?_
 rintro ⟨⟨⟨⟩,(l:Int),⟨⟩⟩,⟨⟨(b:LI),(p:Int),⟨⟩⟩,⟨⟩⟩⟩ out hw ho
 refine (Eb l b p).trans ?_
 rw[← ho]
 unfold qW kY
 change (bif decide ((ag b p).2.2=0) then bif decide ((ag b p).1<l) then some (Out.pan (5,())) else oR (((ag b p).1,()),(b,(ag b p).2.1,()),()) else some (Out.pan ((ag b p).2.2,())))=_
 simp only[Tr.val_ite,Tr.val_ret,cond_eq_ite]
abbrev gW:Io:=⟨[.ptr 0 0],[KY],[],[Fx],oT⟩
def qD (d:gW.In):Tr gW.Res:=
 .ite (decide ((ae d.2.1.1 d.2.1.2.1 (-1)).2.2=0)) (.ret (.ret (((ae d.2.1.1 d.2.1.2.1 (-1)).1,()),((d.2.1.1,((ae d.2.1.1 d.2.1.2.1 (-1)).2.1,())),())))) (.ret (.pan ((ae d.2.1.1 d.2.1.2.1 (-1)).2.2,())))
abbrev BF:List (Nat×Hc):=[(80,ah ee kY),(77,ah fS qE)]
def Iu:Hd:=b8 BF
def Cs:Lp:=cp []
def tB (a0:LI)(a1:Int):Option gW.Res:=bif decide ((ab 5 15 a0 a1).2.2=0) then bif decide (i32.wrap (al (ab 5 15 a0 a1).1) < -1) then some (Out.pan (5,())) else bif decide (i32.wrap (al (ab 5 15 a0 a1).1)<0) then oR (((true,[],()),()),(a0,(ab 5 15 a0 a1).2.1,()),()) else bif decide (0≤i32.wrap (al (ab 5 15 a0 a1).1))&&(decide (i32.wrap (al (ab 5 15 a0 a1).1)≤4294967296)&&(decide (0≤(ab 5 15 a0 a1).2.1)&&decide ((ab 5 15 a0 a1).2.1≤(↑a0.length:Int)))) then bif decide ((↑a0.length:Int) - (ab 5 15 a0 a1).2.1<i32.wrap (al (ab 5 15 a0 a1).1)) then some (Out.pan (1,())) else oR (((false,List.take (i32.wrap (al (ab 5 15 a0 a1).1)).toNat (List.drop (ab 5 15 a0 a1).2.1.toNat a0),()),()),(a0,(ab 5 15 a0 a1).2.1+i32.wrap (al (ab 5 15 a0 a1).1),()),()) else none else some (Out.pan ((ab 5 15 a0 a1).2.2,()))
theorem G6 (a0:LI)(a1:Int):Io.run tt Iu dr Cs gW Tryd.f79 (((),()),(a0,a1,()),())=tB a0 a1:=by kernel_rfl
theorem CP:HcOk prog 79 (ah gW qD):=by
 refine cx (cs:=BF) (.cons rS (.cons wl .nil)) (lp:=Cs) (fn:=Tryd.f79) gW (.done (by kernel_rfl)) qD ?_
 rintro ⟨⟨⟨⟩,⟨⟩⟩,⟨⟨(b:LI),(p:Int),⟨⟩⟩,⟨⟩⟩⟩ out hw ho
 refine (G6 b p).trans ?_
 rw[← ho]
 have hr:=@fE b p
 unfold tB qD
 simp only[Tr.val_ite,Tr.val_ret,zB]
 change (bif decide ((ag b p).2.2=0) then bif decide ((ag b p).1 < -1) then some (Out.pan (5,())) else bif decide ((ag b p).1<0) then oR (((true,[],()),()),(b,(ag b p).2.1,()),()) else
  bif decide (0≤(ag b p).1)&&(decide ((ag b p).1≤4294967296)&&(decide (0≤(ag b p).2.1)&&decide ((ag b p).2.1≤(b.length:Int)))) then bif decide ((b.length:Int) - (ag b p).2.1<(ag b p).1) then some (Out.pan (1,())) else
   oR (((false,List.take (ag b p).1.toNat (List.drop (ag b p).2.1.toNat b),()),()),(b,(ag b p).2.1+(ag b p).1,()),()) else none else some (Out.pan ((ag b p).2.2,())))=_
 by_cases h0:(ag b p).2.2=0
 rotate_left
 ·have e:ae b p (-1)=((false,[],()),0,(ag b p).2.2):=by unfold ae;rw[if_pos h0]
  rw[e,ac (by simpa using h0),if_neg h0]
 have hk:=eD h0
 rw[aa (by simpa using h0)]
 by_cases h1:(ag b p).1 < -1
 ·have e:ae b p (-1)=((false,[],()),0,5):=by unfold ae;rw[if_neg (by simpa using h0),if_pos h1]
  rw[e,aa (by simpa using h1)]
  rfl
 rw[ac (by simpa using h1)]
 by_cases h2:(ag b p).1<0
 ·have e:ae b p (-1)=((true,[],()),(ag b p).2.1,0):=by unfold ae;rw[if_neg (by simpa using h0),if_neg h1,if_pos h2]
  rw[e,aa (by simpa using h2)]
  rfl
 rw[ac (by simpa using h2),aa (by simp;omega)]
 by_cases h3:(b.length:Int) - (ag b p).2.1<(ag b p).1
 ·have e:ae b p (-1)=((false,[],()),0,1):=by unfold ae;rw[if_neg (by simpa using h0),if_neg h1,if_neg h2,if_pos h3]
  rw[e,aa (by simpa using h3)]
  rfl
 ·have e:ae b p (-1)=((false,(b.drop (ag b p).2.1.toNat).take (ag b p).1.toNat,()),(ag b p).2.1+(ag b p).1,0):=by unfold ae;rw[if_neg (by simpa using h0),if_neg h1,if_neg h2,if_neg h3]
  rw[e,ac (by simpa using h3)]
  rfl
def aL (b:LI)(p:Int):d0×Int×Int:=
 if (ae b p 0).2.2≠0 then (([],(false,[],()),()),0,(ae b p 0).2.2)
 else if (cw (ae b p 0).1.2.1).2=false then (([],(false,[],()),()),0,6)
 else (((ae b p 0).1.2.1,(ae b (ae b p 0).2.1 (-1)).1,()),(ae b (ae b p 0).2.1 (-1)).2.1,(ae b (ae b p 0).2.1 (-1)).2.2)
abbrev Lc:Sh:=.dat eY true false
abbrev fb:Io:=⟨[.ptr 0 0],[KY],[],[Lc],oT⟩
def mO (d:fb.In):Tr fb.Res:=
 .ite (decide ((aL d.2.1.1 d.2.1.2.1).2.2=0)) (.ret (.ret (((aL d.2.1.1 d.2.1.2.1).1,()),((d.2.1.1,((aL d.2.1.1 d.2.1.2.1).2.1,())),())))) (.ret (.pan ((aL d.2.1.1 d.2.1.2.1).2.2,())))
abbrev t9:List (Nat×Hc):=[(80,ah ee kY),(77,ah fS qE),(103,ah mg EY),(79,ah gW qD)]
def DD:Hd:=b8 t9
def ut:Lp:=cp []
def pi (a0:LI)(a1:Int):Option fb.Res:=bif decide ((ab 5 15 a0 a1).2.2=0) then bif decide (i32.wrap (al (ab 5 15 a0 a1).1)<0) then some (Out.pan (5,())) else bif decide (0≤i32.wrap (al (ab 5 15 a0 a1).1))&&(decide (i32.wrap (al (ab 5 15 a0 a1).1)≤4294967296)&&(decide (0≤(ab 5 15 a0 a1).2.1)&&decide ((ab 5 15 a0 a1).2.1≤(↑a0.length:Int)))) then bif decide ((↑a0.length:Int) - (ab 5 15 a0 a1).2.1<i32.wrap (al (ab 5 15 a0 a1).1)) then some (Out.pan (1,())) else bif !(cw (List.take (i32.wrap (al (ab 5 15 a0 a1).1)).toNat (List.drop (ab 5 15 a0 a1).2.1.toNat a0))).2 then some (Out.pan (6,())) else bif decide ((ae a0 ((ab 5 15 a0 a1).2.1+i32.wrap (al (ab 5 15 a0 a1).1)) (-1)).2.2=0) then oR (((List.take (i32.wrap (al (ab 5 15 a0 a1).1)).toNat (List.drop (ab 5 15 a0 a1).2.1.toNat a0),((ae a0 ((ab 5 15 a0 a1).2.1+i32.wrap (al (ab 5 15 a0 a1).1)) (-1)).1.1,(ae a0 ((ab 5 15 a0 a1).2.1+i32.wrap (al (ab 5 15 a0 a1).1)) (-1)).1.2.1,()),()),()),(a0,(ae a0 ((ab 5 15 a0 a1).2.1+i32.wrap (al (ab 5 15 a0 a1).1)) (-1)).2.1,()),()) else some (Out.pan ((ae a0 ((ab 5 15 a0 a1).2.1+i32.wrap (al (ab 5 15 a0 a1).1)) (-1)).2.2,())) else none else some (Out.pan ((ab 5 15 a0 a1).2.2,()))
theorem AK (a0:LI)(a1:Int):Io.run tt DD dr ut fb Tryd.f81 (((),()),(a0,a1,()),())=pi a0 a1:=by kernel_rfl
theorem DV:HcOk prog 81 (ah fb mO):=by
 refine cx (cs:=t9) (.cons rS (.cons wl (.cons Kx (.cons CP .nil)))) (lp:=ut) (fn:=Tryd.f81) fb (.done (by kernel_rfl)) mO ?_
 rintro ⟨⟨⟨⟩,⟨⟩⟩,⟨⟨(b:LI),(p:Int),⟨⟩⟩,⟨⟩⟩⟩ out hw ho
 refine (AK b p).trans ?_
 rw[← ho]
 have hr:=@fE b p
 unfold pi mO
 simp only[Tr.val_ite,Tr.val_ret,zB]
 have hn:i32.wrap (al (ab 5 15 b p).1)=(ag b p).1:=rfl
 have hq:(ab 5 15 b p).2.1=(ag b p).2.1:=rfl
 have he:(ab 5 15 b p).2.2=(ag b p).2.2:=rfl
 rw[hn,hq,he]
 by_cases h0:(ag b p).2.2=0
 rotate_left
 ·have e0:ae b p 0=((false,[],()),0,(ag b p).2.2):=by unfold ae;rw[if_pos h0]
  have e:aL b p=(([],(false,[],()),()),0,(ag b p).2.2):=by unfold aL;rw[e0,if_pos h0]
  rw[e,ac (by simpa using h0),if_neg h0]
 have hk:=eD h0
 rw[aa (by simpa using h0)]
 by_cases h2:(ag b p).1<0
 ·have e0:ae b p 0=((false,[],()),0,5):=by unfold ae;rw[if_neg (by simpa using h0),if_pos h2]
  have e:aL b p=(([],(false,[],()),()),0,5):=by unfold aL;rw[e0];rfl
  rw[e,aa (by simpa using h2)]
  rfl
 rw[ac (by simpa using h2),aa (by simp;omega)]
 by_cases h3:(b.length:Int) - (ag b p).2.1<(ag b p).1
 ·have e0:ae b p 0=((false,[],()),0,1):=by unfold ae;rw[if_neg (by simpa using h0),if_neg h2,if_neg h2,if_pos h3]
  have e:aL b p=(([],(false,[],()),()),0,1):=by unfold aL;rw[e0];rfl
  rw[e,aa (by simpa using h3)]
  rfl
 have e0:ae b p 0=((false,(b.drop (ag b p).2.1.toNat).take (ag b p).1.toNat,()),(ag b p).2.1+(ag b p).1,0):=by unfold ae;rw[if_neg (by simpa using h0),if_neg h2,if_neg h2,if_neg h3]
 rw[ac (by simpa using h3)]
 by_cases h4:(cw ((b.drop (ag b p).2.1.toNat).take (ag b p).1.toNat)).2=false
 ·have e:aL b p=(([],(false,[],()),()),0,6):=by
   unfold aL
   rw[e0,if_neg (by simp),if_pos h4]
  rw[e,h4]
  rfl
 have e:aL b p=(((b.drop (ag b p).2.1.toNat).take (ag b p).1.toNat,(ae b ((ag b p).2.1+(ag b p).1) (-1)).1,()),(ae b ((ag b p).2.1+(ag b p).1) (-1)).2.1,(ae b ((ag b p).2.1+(ag b p).1) (-1)).2.2):=by
  unfold aL
  rw[e0,if_neg (by simp),if_neg h4]
 rw[e,ac (by simpa using h4)]
 simp only[cond_eq_ite,zB]
abbrev me:Io:=⟨[.ptr 0 0],[KY],[],[Dw],oT⟩
def y9 (b:LI):Int:=(aO b (ae b (ae b (ag b (ab 10 1 b 1).2.1).2.1 (-1)).2.1 (-1)).2.1).2.1
def EW (d:me.In):Tr me.Res:=
 .ite (decide (d.2.1.2.1=(0:Int))) (.ite (decide ((bv d.2.1.1).2=0)) (.ret (.ret (((bv d.2.1.1).1,()),((d.2.1.1,(y9 d.2.1.1,())),())))) (.ret (.pan ((bv d.2.1.1).2,())))) .no
abbrev vr:List (Nat×Hc):=[(78,ah dW kd),(80,ah ee kY),(77,ah fS qE),(73,ah kv Bo),(79,ah gW qD),(81,ah fb mO)]
def FV:Hd:=b8 vr
abbrev dj:Lo:=⟨⟨(.one (.ptr 0 0)::.any::.one (.ptr 3 0)::.one (.ptr 4 0)::.any::ai (ai (ai (dZ (.one hI::.one hI::ai (b9 (bN []))))))),[some [.hol (.sl 5 (Ty.int u8)),hI],none,none,some [hI,hJ,hL,.onl 5 (Ty.int u8) 1544,hL,.onl 5 (Ty.int u8) 1548,.onl 149 (Ty.str.prod ((Ty.bool.prod ((Ty.sl 5 (Ty.int u8)).prod Ty.unit)).prod Ty.unit)) 1550],some [hI,hJ,hL,.hol (.sl 5 (Ty.int u8)),hL,.hol (.sl 5 (Ty.int u8)),.onl 149 (Ty.str.prod ((Ty.bool.prod ((Ty.sl 5 (Ty.int u8)).prod Ty.unit)).prod Ty.unit)) 2062]]⟩,[(.panic 112 ((Ty.int i64).prod Ty.unit),⟨(.any::ai (ai (ai (ai (ai (b9 [])))))),[]⟩),(.exit 0,⟨(.one (.ptr 0 0)::.any::.one (.ptr 3 0)::.one (.ptr 4 0)::.any::ai (ai (ai (ai (ai []))))),[some [.hol (.sl 5 (Ty.int u8)),hI],none,none,some [hI,hJ,hL,.onl 5 (Ty.int u8) 1544,hL,.onl 5 (Ty.int u8) 1548,.onl 149 (Ty.str.prod ((Ty.bool.prod ((Ty.sl 5 (Ty.int u8)).prod Ty.unit)).prod Ty.unit)) 1550],some [hI,hJ,hL,.hol (.sl 5 (Ty.int u8)),hL,.hol (.sl 5 (Ty.int u8)),.onl 149 (Ty.str.prod ((Ty.bool.prod ((Ty.sl 5 (Ty.int u8)).prod Ty.unit)).prod Ty.unit)) 2062]]⟩)]⟩
def ke (d:dj.st.den):Tr (am dj.xs):=
 .ite (decide (d.1.2.1=(0:Int))&&(decide ((0:Int)≤d.1.1)&&(decide (d.1.1≤(16:Int))&&decide (d.2.2.2.1.2.2.2.2.2.2.1=([]:List d0)))))
  (.ite (decide ((aX d.2.1.1 (d.1.1:Int).toNat [] d.2.1.2.1).2.2=(0:Int)))
   (.ret (.pan (.ret ((),((),((d.2.1.1,((aX d.2.1.1 (d.1.1:Int).toNat [] d.2.1.2.1).2.1,())),(d.2.2.1,((d.2.2.2.1.1,(d.2.2.2.1.2.1,(d.2.2.2.1.2.2.1,(d.2.2.2.1.2.2.2.1,(d.2.2.2.1.2.2.2.2.1,(d.2.2.2.1.2.2.2.2.2.1,((aX d.2.1.1 (d.1.1:Int).toNat [] d.2.1.2.1).1,()))))))),()))))))))
   (.ret (.ret (((aX d.2.1.1 (d.1.1:Int).toNat [] d.2.1.2.1).2.2,()),((),()))))) .no
def v7:Lp:=cp [(19,aC dj ke)]
def pK {R:Type}(h2 h3:Int)(h4:LI)(h5 h6 h7:Int)(h8:Bool)(h9:LI)(h10:Bool)(h11:LI)(h12:List (Ty.str.prod ((Ty.bool.prod ((Ty.sl 5 (Ty.int u8)).prod Ty.unit)).prod Ty.unit)).den)(h13 h14:Int)(h15:Bool)(h16:LI)(h17:Bool)(h18:LI)(h19:List (Ty.str.prod ((Ty.bool.prod ((Ty.sl 5 (Ty.int u8)).prod Ty.unit)).prod Ty.unit)).den)(next:Int→Int→LI→Int→Int→Int→Bool→LI→Bool→LI→List (Ty.str.prod ((Ty.bool.prod ((Ty.sl 5 (Ty.int u8)).prod Ty.unit)).prod Ty.unit)).den→Int→Int→Bool→LI→Bool→LI→List (Ty.str.prod ((Ty.bool.prod ((Ty.sl 5 (Ty.int u8)).prod Ty.unit)).prod Ty.unit)).den→Option R)(out:am dj.xs→Option R):Option R:=bif decide (h3<h2) then bif decide ((aL h4 h5).2.2=0) then bif !([[Sh.dat (Ty.sl 5 (Ty.int u8)) false false,Sh.dat (Ty.int i64) false false]].length+3 == 1+69 || false)&&true&&decide (h19.length+[((aL h4 h5).1.1,((aL h4 h5).1.2.1.1,(aL h4 h5).1.2.1.2.1,()),())].length≤4294967296) then next (h2) (i64.wrap (h3+1)) (h4) ((aL h4 h5).2.1) (h6) (h7) (h8) (h9) (h10) (h11) (h12) (h13) (h14) (h15) (h16) (h17) (h18) (h19++[((aL h4 h5).1.1,((aL h4 h5).1.2.1.1,(aL h4 h5).1.2.1.2.1,()),())]) else none else out (.ret (((aL h4 h5).2.2,()),((),()))) else out (.pan (.ret ((),((),((h4,(h5,())),((h6,(h7,(h8,(h9,(h10,(h11,(h12,()))))))),((h13,(h14,(h15,(h16,(h17,(h18,(h19,()))))))),())))))))
def oM (n:Nat)(h2 h3:Int)(h4:LI)(h5 h6 h7:Int)(h8:Bool)(h9:LI)(h10:Bool)(h11:LI)(h12:List (Ty.str.prod ((Ty.bool.prod ((Ty.sl 5 (Ty.int u8)).prod Ty.unit)).prod Ty.unit)).den)(h13 h14:Int)(h15:Bool)(h16:LI)(h17:Bool)(h18:LI)(h19:List (Ty.str.prod ((Ty.bool.prod ((Ty.sl 5 (Ty.int u8)).prod Ty.unit)).prod Ty.unit)).den):Option (am dj.xs):=gO tt FV dr v7 1 Tryd.f58 (ct Tryd.f58 0) n (dj.st.mk' ((h2,(h3,())),((h4,(h5,())),((h6,(h7,(h8,(h9,(h10,(h11,(h12,()))))))),((h13,(h14,(h15,(h16,(h17,(h18,(h19,()))))))),()))))) (bE dj.xs)
theorem Es (n:Nat)(h2 h3:Int)(h4:LI)(h5 h6 h7:Int)(h8:Bool)(h9:LI)(h10:Bool)(h11:LI)(h12:List (Ty.str.prod ((Ty.bool.prod ((Ty.sl 5 (Ty.int u8)).prod Ty.unit)).prod Ty.unit)).den)(h13 h14:Int)(h15:Bool)(h16:LI)(h17:Bool)(h18:LI)(h19:List (Ty.str.prod ((Ty.bool.prod ((Ty.sl 5 (Ty.int u8)).prod Ty.unit)).prod Ty.unit)).den):oM (n+1) h2 h3 h4 h5 h6 h7 h8 h9 h10 h11 h12 h13 h14 h15 h16 h17 h18 h19=pK h2 h3 h4 h5 h6 h7 h8 h9 h10 h11 h12 h13 h14 h15 h16 h17 h18 h19 (oM n) some:=by kernel_rfl
theorem lN (b:LI)(m:Nat)(o:List d0)(p:Int):aX b (m+1) o p=if (aL b p).2.2≠0 then ([],0,(aL b p).2.2) else aX b m (o++[(aL b p).1]) (aL b p).2.1:=by
 rw[aX]
 by_cases a1:(ae b p 0).2.2=0
 ·rw[if_neg (by simpa using a1)]
  by_cases a2:(cw (ae b p 0).1.2.1).2=false
  ·have e:aL b p=(([],(false,[],()),()),0,6):=by unfold aL;rw[if_neg (by simpa using a1),if_pos a2]
   rw[if_pos a2,e]
   rfl
  ·have e:aL b p=(((ae b p 0).1.2.1,(ae b (ae b p 0).2.1 (-1)).1,()),(ae b (ae b p 0).2.1 (-1)).2.1,(ae b (ae b p 0).2.1 (-1)).2.2):=by unfold aL;rw[if_neg (by simpa using a1),if_neg a2]
   rw[if_neg a2,e]
 ·have e:aL b p=(([],(false,[],()),()),0,(ae b p 0).2.2):=by unfold aL;rw[if_pos a1]
  rw[if_pos a1,e,if_pos a1]
theorem aD {α:Type}{a b:α}(h:a=b):¬ a≠b:=fun h'=>h' h
theorem Gd (b:LI)(n:Int)(hn:0≤n)(hn':n≤16)(h6 h7:Int)(h8:Bool)(h9:LI)(h10:Bool)(h11:LI)(h12:List d0)(h13 h14:Int)(h15:Bool)(h16:LI)(h17:Bool)(h18:LI):∀(k m:Nat) (p:Int) (o:List d0) (i:Int),i+m=n→0≤i→m<k→o.length=i.toNat→
  oM k n i b p h6 h7 h8 h9 h10 h11 h12 h13 h14 h15 h16 h17 h18 o=if (aX b m o p).2.2=0 then some (.pan (.ret ((),((),((b,((aX b m o p).2.1,())),((h6,(h7,(h8,(h9,(h10,(h11,(h12,()))))))),((h13,(h14,(h15,(h16,(h17,(h18,((aX b m o p).1,()))))))),()))))))) else some (.ret (((aX b m o p).2.2,()),((),()))):=by
 intro k
 induction k with
 |zero=>intro m p o i h1 h2 h3;omega
 |succ k ih=>
  intro m p o i h1 h2 h3 h4
  rw[Es]
  unfold pK
  cases m with
  |zero=>
   rw[ac (by simp;omega),if_pos (by rfl)]
   rfl
  |succ m=>
   rw[aa (by simp;omega),lN]
   by_cases a1:(aL b p).2.2=0
   ·rw[aa (by simpa using a1),if_neg (aD a1)]
    have hg:decide (o.length+[((aL b p).1.1,((aL b p).1.2.1.1,(aL b p).1.2.1.2.1,()),())].length≤4294967296)=true:=decide_eq_true (show o.length+1≤4294967296 by omega)
    rw[aa (by rw[zA];exact ⟨rfl,hg⟩),af (n:=i+1) (by omega) (by omega)]
    exact ih m _ _ (i+1) (by omega) (by omega) (by omega) (by simp;omega)
   ·rw[ac (by simpa using a1),if_pos a1,if_neg a1]
def xc (a0:LI)(a1:Int):Option me.Res:=bif decide (0≤1)&&(decide (1≤4294967296)&&(decide (0≤a1)&&decide (a1≤(↑a0.length:Int)))) then bif decide ((↑a0.length:Int) - a1<1) then some (Out.pan (1,())) else bif decide (0≤0)&&decide (0<(↑(List.take (Int.toNat 1) (List.drop a1.toNat a0)).length:Int)) then bif (List.take (Int.toNat 1) (List.drop a1.toNat a0)).getD (Int.toNat 0) 0 != 0 then some (Out.pan (71,())) else bif (ab 10 1 a0 (a1+1)).2.2 != 0 then some (Out.pan ((ab 10 1 a0 (a1+1)).2.2,())) else bif decide ((ab 5 15 a0 (ab 10 1 a0 (a1+1)).2.1).2.2=0) then bif decide (i32.wrap (al (ab 5 15 a0 (ab 10 1 a0 (a1+1)).2.1).1)<0) then some (Out.pan (72,())) else bif decide ((ae a0 (ab 5 15 a0 (ab 10 1 a0 (a1+1)).2.1).2.1 (-1)).2.2=0) then bif decide ((ae a0 (ae a0 (ab 5 15 a0 (ab 10 1 a0 (a1+1)).2.1).2.1 (-1)).2.1 (-1)).2.2=0) then bif decide ((ab 5 15 a0 (ae a0 (ae a0 (ab 5 15 a0 (ab 10 1 a0 (a1+1)).2.1).2.1 (-1)).2.1 (-1)).2.1).2.2=0) then bif decide (i32.wrap (al (ab 5 15 a0 (ae a0 (ae a0 (ab 5 15 a0 (ab 10 1 a0 (a1+1)).2.1).2.1 (-1)).2.1 (-1)).2.1).1)<0) then some (Out.pan (5,())) else bif decide (16<i32.wrap (al (ab 5 15 a0 (ae a0 (ae a0 (ab 5 15 a0 (ab 10 1 a0 (a1+1)).2.1).2.1 (-1)).2.1 (-1)).2.1).1)) then some (Out.pan (9,())) else (ke ((i32.wrap (al (ab 5 15 a0 (ae a0 (ae a0 (ab 5 15 a0 (ab 10 1 a0 (a1+1)).2.1).2.1 (-1)).2.1 (-1)).2.1).1),(0,())),((a0,((ab 5 15 a0 (ae a0 (ae a0 (ab 5 15 a0 (ab 10 1 a0 (a1+1)).2.1).2.1 (-1)).2.1 (-1)).2.1).2.1,())),((0,(0,(false,([],(false,([],([],()))))))),((al (ab 10 1 a0 (a1+1)).1,(i32.wrap (i32.wrap (al (ab 5 15 a0 (ab 10 1 a0 (a1+1)).2.1).1)),((ae a0 (ab 5 15 a0 (ab 10 1 a0 (a1+1)).2.1).2.1 (-1)).1.1,((ae a0 (ab 5 15 a0 (ab 10 1 a0 (a1+1)).2.1).2.1 (-1)).1.2.1,((ae a0 (ae a0 (ab 5 15 a0 (ab 10 1 a0 (a1+1)).2.1).2.1 (-1)).2.1 (-1)).1.1,((ae a0 (ae a0 (ab 5 15 a0 (ab 10 1 a0 (a1+1)).2.1).2.1 (-1)).2.1 (-1)).1.2.1,([],()))))))),()))))).run fun y=>match y with | .ret ((x54,()),((),()))=>(some (Out.pan (x54,()))) | .pan (.ret ((),((),(x55,x56,()),(x57,x58,x59,x60,x61,x62,x63,()),(x64,x65,x66,x67,x68,x69,x70,()),())))=>(bif decide (x56<(↑x55.length:Int)) then some (Out.pan (2,())) else oR (((x64,x65,(x66,x67,()),(x68,x69,()),x70,()),()),(x55,x56,()),())) else some (Out.pan ((ab 5 15 a0 (ae a0 (ae a0 (ab 5 15 a0 (ab 10 1 a0 (a1+1)).2.1).2.1 (-1)).2.1 (-1)).2.1).2.2,())) else some (Out.pan ((ae a0 (ae a0 (ab 5 15 a0 (ab 10 1 a0 (a1+1)).2.1).2.1 (-1)).2.1 (-1)).2.2,())) else some (Out.pan ((ae a0 (ab 5 15 a0 (ab 10 1 a0 (a1+1)).2.1).2.1 (-1)).2.2,())) else some (Out.pan ((ab 5 15 a0 (ab 10 1 a0 (a1+1)).2.1).2.2,())) else none else none
theorem Jr (a0:LI)(a1:Int):Io.run tt FV dr v7 me Tryd.f58 (((),()),(a0,a1,()),())=xc a0 a1:=by kernel_rfl
theorem Kv:HcOk prog 58 (ah me EW):=by
 have hcs:HcsOk prog vr:=.cons uD (.cons rS (.cons wl (.cons GE (.cons CP (.cons DV .nil)))))
 refine cx (cs:=vr) hcs (lp:=v7) (fn:=Tryd.f58) me
  (.step (h0:=aC dj ke) (by kernel_rfl) (iB (cs:=vr) hcs (lp:=v7) (fn:=Tryd.f58) (.done (by kernel_rfl)) dj ke ?_) (.done (by kernel_rfl))) EW ?_
 ·rintro ⟨⟨(n:Int),(i:Int),⟨⟩⟩,⟨(b:LI),(p:Int),⟨⟩⟩,⟨(h6:Int),(h7:Int),(h8:Bool),(h9:LI),(h10:Bool),(h11:LI),(h12:List d0),⟨⟩⟩,⟨(h13:Int),(h14:Int),(h15:Bool),(h16:LI),(h17:Bool),(h18:LI),(o:List d0),⟨⟩⟩,⟨⟩⟩ y hw hy
  obtain ⟨hg,hy⟩:=Tr.guard hy
  simp only[zA,zB] at hg
  obtain ⟨hi,h0,hs,ho⟩:=hg
  have hi:i=0:=hi
  have h0:0≤n:=h0
  have hs:n≤16:=hs
  have ho:o=[]:=ho
  subst hi ho
  refine ⟨n.toNat+1,(Gd b n h0 hs h6 h7 h8 h9 h10 h11 h12 h13 h14 h15 h16 h17 h18 _ n.toNat p [] 0 (by omega) (by omega) (by omega) rfl).trans ?_⟩
  rw[← hy]
  simp only[Tr.val_ite,zB,Tr.val_ret]
 ·rintro ⟨⟨⟨⟩,⟨⟩⟩,⟨⟨(b:LI),(p:Int),⟨⟩⟩,⟨⟩⟩⟩ out hw ho
  obtain ⟨hg,ho⟩:=Tr.guard ho
  have hg:p=0:=by simpa using hg
  subst hg
  refine (Jr b 0).trans ?_
  rw[← ho]
  simp only[Tr.val_ite,Tr.val_ret,zB]
  unfold xc
  rw[aa (by simp)]
  by_cases h0:b.length=0
  ·have e:bv b=(aY,1):=by unfold bv;rw[if_pos h0]
   rw[e,aa (by simp;omega)]
   rfl
  rw[ac (by simp;omega)]
  obtain ⟨c,l,rfl⟩:∃c l,b=c::l:=by
   cases b with
   |nil=>exact absurd rfl h0
   |cons c l=>exact ⟨c,l,rfl⟩
  rw[aa (by simp)]
  by_cases h1:c=0
  rotate_left
  ·have e:bv (c::l)=(aY,71):=by unfold bv;rw[if_neg h0,if_pos (by simpa using h1)]
   rw[e,aa (by simpa using h1)]
   rfl
  have h1':(c::l).getD 0 0=0:=h1
  rw[ac (by simpa using h1)]
  generalize hb:c::l=b at *
  have hz:(0:Int)+1=1:=rfl
  rw[hz]
  by_cases h2:(ab 10 1 b 1).2.2=0
  rotate_left
  ·have e:bv b=(aY,(ab 10 1 b 1).2.2):=by unfold bv;rw[if_neg h0,if_neg (by simpa using h1'),if_pos h2]
   rw[e,aa (by simpa using h2),if_neg h2]
  rw[ac (by simpa using h2)]
  have hr:=@fE b
  have hE:y9 b=(aO b (ae b (ae b (ag b (ab 10 1 b 1).2.1).2.1 (-1)).2.1 (-1)).2.1).2.1:=rfl
  generalize hq1:(ab 10 1 b 1).2.1=q1 at *
  have eR:bv b=if (ag b q1).2.2≠0 then (aY,(ag b q1).2.2) else if (ag b q1).1<0 then (aY,72) else if (ae b (ag b q1).2.1 (-1)).2.2≠0 then (aY,(ae b (ag b q1).2.1 (-1)).2.2) else
   if (ae b (ae b (ag b q1).2.1 (-1)).2.1 (-1)).2.2≠0 then (aY,(ae b (ae b (ag b q1).2.1 (-1)).2.1 (-1)).2.2) else
   if (aO b (ae b (ae b (ag b q1).2.1 (-1)).2.1 (-1)).2.1).2.2≠0 then (aY,(aO b (ae b (ae b (ag b q1).2.1 (-1)).2.1 (-1)).2.1).2.2) else
   if (aO b (ae b (ae b (ag b q1).2.1 (-1)).2.1 (-1)).2.1).2.1<(b.length:Int) then (aY,2) else
   ((al (ab 10 1 b 1).1,(ag b q1).1,(ae b (ag b q1).2.1 (-1)).1,(ae b (ae b (ag b q1).2.1 (-1)).2.1 (-1)).1,(aO b (ae b (ae b (ag b q1).2.1 (-1)).2.1 (-1)).2.1).1,()),0):=by
   unfold bv;rw[if_neg h0,if_neg (by simpa using h1'),if_neg (by simpa using h2),hq1]
  have hn:∀p,i32.wrap (al (ab 5 15 b p).1)=(ag b p).1:=fun _=>rfl
  have hq:∀p,(ab 5 15 b p).2.1=(ag b p).2.1:=fun _=>rfl
  have he:∀p,(ab 5 15 b p).2.2=(ag b p).2.2:=fun _=>rfl
  have hw32:i32.wrap (ag b q1).1=(ag b q1).1:=bG (k:=.i32) (bJ _ _)
  simp only[hn,hq,he]
  rw[eR,hE,hw32]
  by_cases c1:(ag b q1).2.2=0
  rotate_left
  ·rw[ac (by simpa using c1),if_pos c1,if_neg c1]
  rw[aa (by simpa using c1),if_neg (aD c1)]
  by_cases c2:(ag b q1).1<0
  ·rw[aa (by simpa using c2),if_pos c2];rfl
  rw[ac (by simpa using c2),if_neg c2]
  generalize hT1:ae b (ag b q1).2.1 (-1)=T1
  by_cases c3:T1.2.2=0
  rotate_left
  ·rw[ac (by simpa using c3),if_pos c3,if_neg c3]
  rw[aa (by simpa using c3),if_neg (aD c3)]
  generalize hT2:ae b T1.2.1 (-1)=T2
  by_cases c4:T2.2.2=0
  rotate_left
  ·rw[ac (by simpa using c4),if_pos c4,if_neg c4]
  rw[aa (by simpa using c4),if_neg (aD c4)]
  by_cases c5:(ag b T2.2.1).2.2=0
  rotate_left
  ·have eH:aO b T2.2.1=([],0,(ag b T2.2.1).2.2):=by unfold aO;rw[if_pos c5]
   rw[ac (by simpa using c5),eH,if_pos c5,if_neg c5]
  rw[aa (by simpa using c5)]
  by_cases c6:(ag b T2.2.1).1<0
  ·have eH:aO b T2.2.1=([],0,5):=by unfold aO;rw[if_neg (aD c5),if_pos c6]
   rw[aa (by simpa using c6),eH];rfl
  rw[ac (by simpa using c6)]
  by_cases c7:16<(ag b T2.2.1).1
  ·have eH:aO b T2.2.1=([],0,9):=by unfold aO;rw[if_neg (aD c5),if_neg c6,if_pos c7]
   rw[aa (by simpa using c7),eH];rfl
  have eH:aO b T2.2.1=aX b (ag b T2.2.1).1.toNat [] (ag b T2.2.1).2.1:=by unfold aO;rw[if_neg (aD c5),if_neg c6,if_neg c7]
  rw[ac (by simpa using c7),eH]
  unfold ke
  simp only[Tr.run_ite,Tr.run_ret]
  have hgd:(decide True&&(decide ((0:Int)≤(ag b T2.2.1).1)&&(decide ((ag b T2.2.1).1≤(16:Int))&&decide True)))=true:=by
   simp only[zA,zB]
   exact ⟨trivial,by omega,by omega,trivial⟩
  rw[if_pos hgd]
  generalize aX b (ag b T2.2.1).1.toNat [] (ag b T2.2.1).2.1=r
  by_cases c8:r.2.2=0
  ·rw[if_pos (decide_eq_true c8),if_neg (aD c8)]
   by_cases c9:r.2.1<(b.length:Int)
   ·simp only[c9,decide_true,cond_true,if_true]
    rfl
   ·simp only[c9,decide_false,cond_false,if_false]
    rfl
  ·rw[if_neg (by simpa using c8),if_pos c8,if_neg c8]
abbrev mc:Io:=⟨[dL,dI],[],[],[Dw,dI,dI],none⟩
def EV (d:mc.In):Tr mc.Res:=.ret (.ret (((ak d.1.1 d.1.2.1).1,(ak d.1.1 d.1.2.1).2.1,(ak d.1.1 d.1.2.1).2.2,()),()))
abbrev Fl:List (Nat×Hc):=[(57,ah fz pZ),(58,ah me EW)]
def Ke:Hd:=b8 Fl
def Gi:Lp:=cp []
def w9 (a0:LI)(a1:Int):Option mc.Res:=bif (ab 5 15 a0 a1).2.2 != 0 then oR (((0,0,(false,[],()),(false,[],()),[],()),0,(ab 5 15 a0 a1).2.2,()),()) else bif decide (i32.wrap (al (ab 5 15 a0 a1).1)<0) then oR (((0,0,(false,[],()),(false,[],()),[],()),0,5,()),()) else bif decide (16384<i32.wrap (al (ab 5 15 a0 a1).1)) then oR (((0,0,(false,[],()),(false,[],()),[],()),0,4,()),()) else bif decide (i64.wrap ((↑a0.length:Int) - (ab 5 15 a0 a1).2.1)<i64.wrap (i32.wrap (al (ab 5 15 a0 a1).1))) then oR (((0,0,(false,[],()),(false,[],()),[],()),0,1,()),()) else bif decide (0≤(ab 5 15 a0 a1).2.1)&&(decide ((ab 5 15 a0 a1).2.1≤i64.wrap ((ab 5 15 a0 a1).2.1+i64.wrap (i32.wrap (al (ab 5 15 a0 a1).1))))&&(decide (i64.wrap ((ab 5 15 a0 a1).2.1+i64.wrap (i32.wrap (al (ab 5 15 a0 a1).1)))≤i64.wrap ((ab 5 15 a0 a1).2.1+i64.wrap (i32.wrap (al (ab 5 15 a0 a1).1))))&&decide (i64.wrap ((ab 5 15 a0 a1).2.1+i64.wrap (i32.wrap (al (ab 5 15 a0 a1).1)))≤(↑a0.length:Int)))) then bif decide ((bv (List.drop (ab 5 15 a0 a1).2.1.toNat (List.take (i64.wrap ((ab 5 15 a0 a1).2.1+i64.wrap (i32.wrap (al (ab 5 15 a0 a1).1)))).toNat a0))).2=0) then oR ((((bv (List.drop (ab 5 15 a0 a1).2.1.toNat (List.take (i64.wrap ((ab 5 15 a0 a1).2.1+i64.wrap (i32.wrap (al (ab 5 15 a0 a1).1)))).toNat a0))).1.1,(bv (List.drop (ab 5 15 a0 a1).2.1.toNat (List.take (i64.wrap ((ab 5 15 a0 a1).2.1+i64.wrap (i32.wrap (al (ab 5 15 a0 a1).1)))).toNat a0))).1.2.1,((bv (List.drop (ab 5 15 a0 a1).2.1.toNat (List.take (i64.wrap ((ab 5 15 a0 a1).2.1+i64.wrap (i32.wrap (al (ab 5 15 a0 a1).1)))).toNat a0))).1.2.2.1.1,(bv (List.drop (ab 5 15 a0 a1).2.1.toNat (List.take (i64.wrap ((ab 5 15 a0 a1).2.1+i64.wrap (i32.wrap (al (ab 5 15 a0 a1).1)))).toNat a0))).1.2.2.1.2.1,()),((bv (List.drop (ab 5 15 a0 a1).2.1.toNat (List.take (i64.wrap ((ab 5 15 a0 a1).2.1+i64.wrap (i32.wrap (al (ab 5 15 a0 a1).1)))).toNat a0))).1.2.2.2.1.1,(bv (List.drop (ab 5 15 a0 a1).2.1.toNat (List.take (i64.wrap ((ab 5 15 a0 a1).2.1+i64.wrap (i32.wrap (al (ab 5 15 a0 a1).1)))).toNat a0))).1.2.2.2.1.2.1,()),(bv (List.drop (ab 5 15 a0 a1).2.1.toNat (List.take (i64.wrap ((ab 5 15 a0 a1).2.1+i64.wrap (i32.wrap (al (ab 5 15 a0 a1).1)))).toNat a0))).1.2.2.2.2.1,()),i64.wrap ((ab 5 15 a0 a1).2.1+i64.wrap (i32.wrap (al (ab 5 15 a0 a1).1))),0,()),()) else oR (((0,0,(false,[],()),(false,[],()),[],()),0,(bv (List.drop (ab 5 15 a0 a1).2.1.toNat (List.take (i64.wrap ((ab 5 15 a0 a1).2.1+i64.wrap (i32.wrap (al (ab 5 15 a0 a1).1)))).toNat a0))).2,()),()) else none
theorem Jq (a0:LI)(a1:Int):Io.runD tt Ke dr Gi 64 128 mc Tryd.f29 56 Tryd.f56 11 ((a0,a1,()),())=w9 a0 a1:=by kernel_rfl
theorem Ku:HcOk prog 29 (ah mc EV):=by
 have htt:=fW Tryd.prog 400
 have hcs:HcsOk prog Fl:=.cons yE (.cons Kv .nil)
 refine xI (P:=prog) htt hm (rB hcs) (iZ htt) (fn:=Tryd.f29) (by kernel_rfl) (by kernel_rfl) mc (kb2:=64) (kbG:=128) (by decide) (by decide)
  (i1:=1) (ops1:=iE (j5 (gP (bA Tryd.f29)))) (by kernel_rfl) rfl (by kernel_rfl)
  (o1:=((iE (j5 (gP (bA Tryd.f29))))[1]?).getD default) (t:=11) (aT:=#[]) (by kernel_rfl) (by kernel_rfl) (by kernel_rfl) (by kernel_rfl) (lp:=Gi) (by kernel_rfl) (lq (by kernel_rfl))
  (g:=56) (gfn:=Tryd.f56) (i2:=0) (gops:=iE (j5 (bA Tryd.f56))) (grest:=gP (bA Tryd.f56))
  (by kernel_rfl) (by kernel_rfl) (by kernel_rfl) rfl rfl (by kernel_rfl) (oo:=((iE (j5 (bA Tryd.f56)))[0]?).getD default) (by kernel_rfl) (by kernel_rfl) (by kernel_rfl) (by kernel_rfl) (by kernel_rfl) EV ?_
 rintro ⟨⟨(b:LI),(p:Int),⟨⟩⟩,⟨⟩⟩ out hw ho
 cases ho
 refine (Jq b p).trans ?_
 have hb:b.length≤maxLen:=hw.1.1.1
 rw[bq] at hb
 show _=oR (((ak b p).1,(ak b p).2.1,(ak b p).2.2,()),())
 have hr:=@fE b p
 unfold w9
 by_cases h0:(ag b p).2.2=0
 rotate_left
 ·have h0':(ab 5 15 b p).2.2≠0:=h0
  have e:ak b p=(aY,0,(ab 5 15 b p).2.2):=by unfold ak;rw[if_pos h0];rfl
  rw[e,aa (by simpa using h0')]
  rfl
 have hk:=eD h0
 have h0':(ab 5 15 b p).2.2=0:=h0
 rw[ac (by simpa using h0')]
 generalize hq:(ab 5 15 b p).2.1=q
 generalize hn:IntKind.wrap .i32 (al (ab 5 15 b p).1)=n
 have hq:(ag b p).2.1=q:=hq
 have hn:(ag b p).1=n:=hn
 have e0:ak b p=if n<0 then (aY,0,5) else if 16384<n then (aY,0,4) else if (b.length:Int) - q<n then (aY,0,1)
   else if (bv ((b.drop q.toNat).take n.toNat)).2≠0 then (aY,0,(bv ((b.drop q.toNat).take n.toNat)).2)
   else ((bv ((b.drop q.toNat).take n.toNat)).1,q+n,0):=by unfold ak;rw[if_neg (by simpa using h0),hq,hn]
 rw[e0]
 rw[hq] at hk
 rw[hn] at hr
 by_cases h1:n<0
 ·rw[aa (by simpa using h1),if_pos h1]
  rfl
 rw[ac (by simpa using h1),if_neg h1]
 by_cases h2:16384<n
 ·rw[aa (by simpa using h2),if_pos h2]
  rfl
 rw[ac (by simpa using h2),if_neg h2,af (n:=(b.length:Int) - q) (by omega) (by omega),af (n:=n) (by omega) (by omega)]
 by_cases h3:(b.length:Int) - q<n
 ·rw[aa (by simpa using h3),if_pos h3]
  rfl
 rw[ac (by simpa using h3),if_neg h3,af (n:=q+n) (by omega) (by omega),aa (by simp;omega),List.drop_take,show (q+n).toNat - q.toNat=n.toNat by omega]
 generalize bv ((b.drop q.toNat).take n.toNat)=r
 by_cases h4:r.2=0
 ·rw[aa (by simpa using h4),if_neg (aD h4)]
 ·rw[ac (by simpa using h4),if_pos h4]
  rfl
end
end Go.Proofs.YthpcdhgpplmneaaDoor.Sym
namespace Go.Proofs.YthpcdhgpplmneaaDoor.Sym
open Go
noncomputable section
def eC (b:wR):Bool:=b.1&&decide ((0:Int)<(b.2.1.length:Int))
def bm (b:wR):LI:=if b.1=true then ar (ap (-1)) else ar (ap b.2.1.length)++b.2.1
def wH (h:d0):LI:=ar (ap h.1.length)++(h.1++bm h.2.1)
def bM (hs:List d0):LI:=hs.flatMap wH
def bR (r:mT):LI:=0::(ar (ap r.1)++(ar (ap r.2.1)++(bm r.2.2.1++(bm r.2.2.2.1++(ar (ap r.2.2.2.2.1.length)++bM r.2.2.2.2.1)))))
def cS:List d0→Int
 |[]=>0
 |h::hs=>if (cw h.1).2=false then 6 else if eC h.2.1=true then 70 else cS hs
def qu (r:mT):Int:=
 if r.2.1<0 then 72 else if eC r.2.2.1=true∨eC r.2.2.2.1=true then 70 else if 16<(r.2.2.2.2.1.length:Int) then 9 else cS r.2.2.2.2.1
def aS (r:mT):Int:=if qu r≠0 then qu r else if 16384<((bR r).length:Int) then 4 else 0
def bS (r:mT):LI×Int:=if aS r=0 then (ar (ap (bR r).length)++bR r,0) else ([],aS r)
def fm (r:mT):Bool:=decide ((bR r).length≤4294967000)
theorem lw (u:Int):(ar u).length≤11:=by
 unfold ar
 have:=HJ 10 u
 simp only[zH,zN,List.length_nil]
 omega
end
end Go.Proofs.YthpcdhgpplmneaaDoor.Sym
namespace Go.Proofs.YthpcdhgpplmneaaDoor.Sym
open Go
open Go.ChangeShapes Go.WideShapes Go.ChangeAt Go.RowKit
def dA (P:Program):Ty→(TypeId ⊕ (List Field×Nat))→Bool
 |.int k,.inl t=>match P.underlying t with
  |some (.int k')=>decide (k'=k)
  |_=>false
 |.bool,.inl t=>match P.underlying t with
  |some .bool=>true
  |_=>false
 |.str,.inl t=>match P.underlying t with
  |some .string=>true
  |_=>false
 |.sl e ty,.inl t=>match P.underlying t with
  |some (.slice e')=>(e' == e)&&(dA P ty (.inl e)&&((P.cellsOf e == ty.size)&&!(ty.size == 0)))
  |_=>false
 |.prod a b,.inl t=>match P.underlying t with
  |some (.struct fs)=>(P.cellsOf t == a.size+b.size)&&match fs.toList with
   |f::fs'=>(f.offset == 0)&&((P.cellsOf f.type == a.size)&&(dA P a (.inl f.type)&&dA P b (.inr (fs',a.size))))
   |[]=>false
  |_=>false
 |.unit,.inr ([],_)=>true
 |.prod a b,.inr (f::fs,off)=>(f.offset == off)&&((P.cellsOf f.type == a.size)&&(dA P a (.inl f.type)&&dA P b (.inr (fs,off+a.size))))
 |_,_=>false
def xK:(t:Ty)→t.den→Nat
 |.int _,_=>1
 |.bool,_=>1
 |.str,s=>List.length (α:=Int) s+1
 |.sl _ t,xs=>(List.map (xK t) xs).sum+1
 |.unit,_=>0
 |.prod a b,x=>xK a x.1+xK b x.2
 |.tree _ _,_=>0
def S0 (W:World)(b o:Nat):Prop:=∃v,W.cell? ⟨b,o,none⟩=some v
section
variable {P:Program} {W:World} {H:Type} {enc:TypeId×Value→H} {sp:Nat→Bool} {held:Bool}
theorem Fg {a:Addr}{n:Nat}{cs:List Value}(h:W.cells? 0 a n=some cs)(hn:0<n):a.spot=none∧cs.length=n∧At (S0 W) W a.block a.off cs:=by
 simp only[World.cells?,Nat.zero_le,if_true] at h
 have hl:=mapM_some_length h
 rw[List.length_range] at hl
 have hg:∀i,i<n→W.cell? (a.add i)=cs[i]?:=fun i hi=>mapM_some_get h i i (by simp[hi])
 have hsp:a.spot=none:=by
  have h0:=hg 0 hn
  rw[List.getElem?_eq_getElem (by omega)] at h0
  unfold World.cell? at h0
  split at h0
  ·split at h0
   ·cases h0
   ·rename_i hs
    cases e:a.spot with
    |none=>rfl
    |some x=>simp[Addr.add,e] at hs
  ·cases h0
 refine ⟨hsp,hl,fun j v hv=>?_⟩
 have hj:j<n:=by rw[← hl];exact (List.getElem?_eq_some_iff.1 hv).1
 have:=hg j hj
 rw[hv] at this
 have e:a.add j=⟨a.block,a.off+j,none⟩:=by
  obtain ⟨b,o,s⟩:=a
  simp only at hsp
  subst hsp
  exact Addr.add_plain ..
 rw[e] at this
 exact ⟨⟨v,this⟩,this⟩
theorem od (ub:DataW H→Nat)(uba:List (DataW H)→Nat)(u1:∀l,1≤ub (.lit l))(u2:∀bs,bs.length+1≤ub (.lit (.string bs)))(u3:1≤ub .nil)(u4:∀es ss,uba es+1≤ub (.slice es ss))(u5:∀ps,uba ps≤ub (.agg ps))
  (u6:∀d ds,uba (d::ds)=ub d+uba ds) (u7:uba []=0):
  ∀(ty:Ty),(∀(t:TypeId),dA P ty (.inl t)=true→∀(fuel:Nat) (cs:List Value) (x:DataW H×List MemPlace),DataW.trod enc P W 0 sp held fuel t cs=some x→∃y:ty.den,Rt (S0 W) W ty y cs∧xK ty y≤ub x.1)∧
   (∀(fs:List Field) (off:Nat),dA P ty (.inr (fs,off))=true→∀(fuel:Nat) (cs:List Value) (xs:List (DataW H×List MemPlace)),fs.mapM (fun f=>DataW.trod enc P W 0 sp held fuel f.type ((cs.drop f.offset).take (P.cellsOf f.type)))=some xs→
    (cs.drop off).length=ty.size→∃y:ty.den,Rt (S0 W) W ty y (cs.drop off)∧xK ty y≤uba (xs.map (·.1)))
 |.int k=>by
  refine ⟨fun t ht fuel cs x h=>?_,fun fs off ht=>by cases fs <;> simp[dA] at ht⟩
  simp only[dA] at ht
  split at ht
  ·rename_i k' hu
   have ht:=of_decide_eq_true ht
   subst ht
   obtain ⟨n2,rfl,rfl,hw⟩:=DataW.trod_int hu h
   refine ⟨n2,⟨rfl,?_⟩,u1 _⟩
   simpa [Lit.wf,bu] using hw
  ·cases ht
 |.bool=>by
  refine ⟨fun t ht fuel cs x h=>?_,fun fs off ht=>by cases fs <;> simp[dA] at ht⟩
  simp only[dA] at ht
  split at ht
  ·rename_i hu
   obtain ⟨b,rfl,rfl⟩:=DataW.trod_bool hu h
   exact ⟨b,rfl,u1 _⟩
  ·cases ht
 |.str=>by
  refine ⟨fun t ht fuel cs x h=>?_,fun fs off ht=>by cases fs <;> simp[dA] at ht⟩
  simp only[dA] at ht
  split at ht
  ·rename_i hu
   obtain ⟨s,rfl,rfl,hl⟩:=DataW.trod_string hu h
   refine ⟨iv s,⟨by rw[kC],pR s,?_⟩,?_⟩
   ·have:(iv s).length=s.size:=by rw[← bI,kC]
    rw[this];exact hl
   ·have:(iv s).length=s.data.toList.length:=by unfold iv;exact List.length_map _
    show (iv s).length+1≤_
    rw[this]
    exact u2 _
  ·cases ht
 |.unit=>by
  refine ⟨fun t ht=>by simp[dA] at ht,fun fs off ht fuel cs xs h hl=>?_⟩
  refine ⟨(),?_,Nat.zero_le _⟩
  exact zF hl
 |.sl e ty=>by
  refine ⟨fun t ht fuel cs x h=>?_,fun fs off ht=>by cases fs <;> simp[dA] at ht⟩
  simp only[dA] at ht
  split at ht
  ·rename_i e' hu
   simp only[zA,beq_iff_eq,Bool.not_eq_true',beq_eq_false_iff_ne] at ht
   obtain ⟨rfl,hT,hsz,hpos⟩:=ht
   have ih:=(od ub uba u1 u2 u3 u4 u5 u6 u7 ty).1 e' hT
   rcases DataW.trod_slice hu h with ⟨rfl,rfl⟩ | ⟨a,len,cap,elems,rest,n,_,rfl,rfl,hb,hl,hm,hlen,hel,_,_⟩
   ·exact ⟨[],⟨none,0,rfl,Nat.le_refl _,Nat.zero_le _,fun h=>absurd rfl h⟩,u3⟩
   ·have each:∀i,i<len→∃y:ty.den,(∃c,Rt (S0 W) W ty y c∧(i=0→a.spot=none)∧At (S0 W) W a.block (a.off+i*ty.size) c)∧∃d,elems[i]?=some d∧xK ty y≤ub d.1:=by
     intro i hi
     have h1:=hel i hi
     rw[List.getElem?_eq_getElem (by omega)] at h1
     obtain ⟨c,hc,hd⟩:=Option.bind_eq_some_iff.1 h1
     obtain ⟨y,hy,hs⟩:=ih _ _ _ hd
     rw[hsz] at hc
     obtain ⟨h2,h3,h4⟩:=Fg hc (by omega)
     have e1:(a.add (i*ty.size)).block=a.block:=by unfold Addr.add;split <;> rfl
     have e2:(a.add (i*ty.size)).off=a.off+i*ty.size:=by
      unfold Addr.add
      split
      ·rename_i h0;rw[h0];rfl
      ·rfl
     rw[e1,e2] at h4
     refine ⟨y,⟨c,hy,fun h0=>?_,h4⟩,elems[i],by simp,hs⟩
     subst h0
     simpa [Addr.add] using h2
    have mk:∀m,m≤len→∃ys:List ty.den,ys.length=m∧(∀i y,ys[i]?=some y→∃c,Rt (S0 W) W ty y c∧(i=0→a.spot=none)∧At (S0 W) W a.block (a.off+i*ty.size) c)∧(ys.map (xK ty)).sum≤uba ((elems.take m).map (·.1)):=by
     intro m
     induction m with
     |zero=>intro _;exact ⟨[],rfl,fun i y h=>by simp at h,by simp⟩
     |succ m ihm=>
      intro hm'
      obtain ⟨ys,g1,g2,g3⟩:=ihm (by omega)
      obtain ⟨y,g4,d,g5,g6⟩:=each m (by omega)
      refine ⟨ys++[y],by simp[g1],fun i z hz=>?_,?_⟩
      ·rw[List.getElem?_append] at hz
       split at hz
       ·exact g2 i z hz
       ·rename_i hlt
        have:i=m:=by
         have:=(List.getElem?_eq_some_iff.1 hz).1
         simp at this;omega
        subst this
        simp[g1] at hz
        subst hz
        exact g4
      ·have hap:∀(xs bs:List (DataW H)),uba (xs++bs)=uba xs+uba bs:=by
        intro xs bs
        induction xs with
        |nil=>simp[u7]
        |cons c xs ih=>rw[List.cons_append,u6,u6,ih];omega
       rw[List.take_add_one,g5]
       simp only[List.map_append,List.sum_append,hap,Option.toList,zL,List.map_nil,List.sum_cons,List.sum_nil,u6,u7]
       omega
    obtain ⟨ys,g1,g2,g3⟩:=mk len (Nat.le_refl _)
    refine ⟨ys,⟨some a,cap,by rw[g1],by omega,hm,fun hne=>?_⟩,?_⟩
    ·have h0:0<ys.length:=List.length_pos_iff.2 hne
     obtain ⟨c,_,hsp,_⟩:=g2 0 ys[0] (by simp)
     have hsp:=hsp rfl
     refine ⟨a.block,a.off,?_,fun i y hy=>?_⟩
     ·obtain ⟨b,o,s⟩:=a
      simp only at hsp
      rw[hsp]
     ·obtain ⟨c,hc,_,hat⟩:=g2 i y hy
      exact ⟨c,hc,hat⟩
    ·rw[List.take_of_length_le (by omega)] at g3
     show (ys.map (xK ty)).sum+1≤_
     exact Nat.le_trans (by omega) (u4 _ _)
  ·cases ht
 |.tree a e=>⟨fun t ht=>by simp[dA] at ht,fun fs off ht=>by cases fs <;> simp[dA] at ht⟩
 |.prod a b=>by
  have step:∀(f:Field) (fs:List Field) (off:Nat),((f.offset == off)&&((P.cellsOf f.type == a.size)&&(dA P a (.inl f.type)&&dA P b (.inr (fs,off+a.size)))))=true→
    ∀(fuel:Nat) (cs:List Value) (xs:List (DataW H×List MemPlace)),(f::fs).mapM (fun f=>DataW.trod enc P W 0 sp held fuel f.type ((cs.drop f.offset).take (P.cellsOf f.type)))=some xs→
    (cs.drop off).length=a.size+b.size→∃y:a.den×b.den,Rt (S0 W) W (.prod a b) y (cs.drop off)∧xK a y.1+xK b y.2≤uba (xs.map (·.1)):=by
   intro f fs off ht fuel cs xs h hl
   simp only[zA,beq_iff_eq] at ht
   obtain ⟨rfl,hs,hA,hB⟩:=ht
   simp only[List.mapM_cons,Option.bind_eq_bind,Option.bind_eq_some_iff] at h
   obtain ⟨x0,h0,xs',h1,h2⟩:=h
   simp only[Option.pure_def,zC] at h2
   subst h2
   rw[hs] at h0
   obtain ⟨y1,hy1,hd1⟩:=(od ub uba u1 u2 u3 u4 u5 u6 u7 a).1 f.type hA _ _ _ h0
   have hl2:(cs.drop (f.offset+a.size)).length=b.size:=by
    simp only[List.length_drop] at hl ⊢
    omega
   obtain ⟨y2,hy2,hd2⟩:=(od ub uba u1 u2 u3 u4 u5 u6 u7 b).2 fs _ hB _ _ _ h1 hl2
   refine ⟨(y1,y2),⟨_,_,?_,hy1,hy2⟩,?_⟩
   ·rw[← List.drop_drop,List.take_append_drop]
   ·simp only[zL,u6]
    omega
  refine ⟨fun t ht fuel cs x h=>?_,fun fs off ht fuel cs xs h hl=>?_⟩
  ·simp only[dA] at ht
   split at ht
   ·rename_i fs hu
    simp only[zA,beq_iff_eq] at ht
    obtain ⟨hsz,ht⟩:=ht
    split at ht
    ·rename_i f fs' hfs
     cases fuel with
     |zero=>simp[DataW.trod] at h
     |succ n=>
      unfold DataW.trod at h
      rw[hu] at h
      simp only at h
      split at h
      ·rename_i hlen
       obtain ⟨xs,hxs,rfl⟩:=Option.map_eq_some_iff.1 h
       rw[hfs] at hxs
       obtain ⟨y,hy,hd⟩:=step f fs' 0 (by simpa using ht) n cs xs hxs (by simpa [hsz] using hlen)
       exact ⟨y,by simpa using hy,Nat.le_trans hd (u5 _)⟩
      ·cases h
    ·cases ht
   ·cases ht
  ·cases fs with
   |nil=>simp[dA] at ht
   |cons f fs=>exact step f fs off (by simpa only [dA] using ht) fuel cs xs h hl
theorem Lg {ty:Ty}{t:TypeId}(ht:dA P ty (.inl t)=true){fuel:Nat}{cs:List Value}{d:DataW H}{ps:List MemPlace}(h:DataW.trod enc P W 0 sp held fuel t cs=some (d,ps)):∃y:ty.den,Rt (S0 W) W ty y cs∧xK ty y≤Rows.uptoBulk d:=
 (od Rows.uptoBulk Rows.uptoBulkAll (fun l=>by cases l <;> simp[Rows.uptoBulk]) (fun bs=>by simp[Rows.uptoBulk]) (by simp[Rows.uptoBulk]) (fun es ss=>by simp[Rows.uptoBulk]) (fun ps=>by simp[Rows.uptoBulk]) (fun d ds=>by simp[Rows.uptoBulkAll]) (by simp[Rows.uptoBulkAll]) ty).1 t ht fuel cs _ h
theorem pr {t:Ty}(hp:∀x:t.den,1≤xK t x):∀xs:List t.den,xs.length≤(xs.map (xK t)).sum
 |[]=>by simp
 |x::xs=>by
  have:=pr hp xs
  have:=hp x
  simp only[zN,zL,List.sum_cons]
  omega
theorem Ih {e:Nat}{k:IntKind}(xs:(Ty.sl e (.int k)).den):List.length xs≤xK (.sl e (.int k)) xs:=by
 have:=pr (t:=.int k) (fun _=>Nat.le_refl 1) xs
 show _≤(List.map (xK (.int k)) xs).sum+1
 exact Nat.le_trans this (Nat.le_succ _)
def G0 (W:World):Gh:=⟨S0 W,fun _=>none,fun _=>none⟩
def F0 (W:World):Fra:=⟨W,fun _=>False,S0 W,fun _=>none⟩
theorem Lz (h:∀g,JK g=false)(W:World):mU (S0 W) W:=fun g i hg _=>absurd hg (by rw[h g];decide)
theorem LQ (W:World)(htab:mU (S0 W) W):Rel (F0 W) (G0 W) ⟨[],[],[]⟩ #[] [] W where
 tm:=trivial
 stk:=trivial
 ob:=fun k cs h=>by simp at h
 gh:=⟨fun _ _ h=>(by cases h),fun _ _ _ h=>(by cases h),fun _ _ _ h=>(by cases h),fun _ _ _ _ _ h=>(by cases h),fun b o h=>(by
   obtain ⟨v,h⟩:=h
   unfold World.cell? at h
   split at h
   ·rename_i e
    exact (Array.getElem?_eq_some_iff.1 e).1
   ·cases h),⟨rfl,rfl,rfl,Nat.le_refl _,fun _ _ _=>rfl⟩,fun _ _ h=>h,fun _ _ h=>.inl h,fun _ _ _=>rfl,fun _ _ h=>(by cases h),htab⟩
def DK (oc:Oc)(A:AS):Option Unit:=match oc with
 |.ret (.one (.bool true)) _=>some ()
 |_=>none
theorem DL {f:Nat}{io:Io}{Fn:io.In→Tr io.Res}(hok:HcOk P f (ah io Fn)){args:List V}{vals:Array Value}(hargs:All2 (Rv (G0 W) W) args vals.toList)(hrun:ah io Fn Unit args 1 ⟨[],[],[]⟩ DK=some ())(htab:mU (S0 W) W:=by exact Lz (fun _=>rfl) _):
  Calls P f vals W fun e w'=>e=.returned (.bool true)∧w'.os=W.os∧w'.output=W.output∧∀i,i<W.heap.size→w'.heap[i]?=W.heap[i]?:=by
 refine (hok Unit args 1 _ DK () (F0 W) (G0 W) #[] [] W vals (fun _=>rfl) hrun (LQ W htab) hargs).2.mono ?_
 rintro e w' ⟨G',A',v,u,R',hv,h⟩
 have hfr:=R'.gh.fr
 refine ⟨?_,hfr.os,hfr.output,fun i hi=>hfr.block i hi (fun h=>h)⟩
 rcases h with ⟨rfl,ks,_,hk⟩ | ⟨rfl,hk⟩
 ·unfold DK at hk
  split at hk
  ·rename_i e
   cases e
   rw[show u=.bool true from hv]
  ·cases hk
 ·cases hk
def z8 (ty:Ty)(y:ty.den):V:=bif ty.isProd then .agg (oa ty y) else match oa ty y with
 |[c]=>.one c
 |_=>.any
theorem z9 {G:Gh}{ty:Ty}{y:ty.den}{v:Value}(h:Rt G.S W ty y v.cells.toList)(hp:ty.isProd=true→∃vs,v=.agg vs)(hn:ty.isProd=false→v.cells = #[v]):Rv G W (z8 ty y) v:=by
 have hs:=bZ (G:=G) (w:=W) ty y _ h
 unfold z8
 cases hb:ty.isProd with
 |true=>
  obtain ⟨vs,rfl⟩:=hp hb
  exact ⟨vs,rfl,hs⟩
 |false=>
  rw[hn hb] at hs
  simp only[cond_false]
  split
  ·rename_i c e
   rw[e] at hs
   exact hs.1
  ·trivial
theorem Dj {ty:Ty}{t:TypeId}(ht:dA P ty (.inl t)=true){r:Reach}{base:Nat}{v:Value}(hval:Value.okWide P W r base t v):(ty.isProd=true→∃vs,v=.agg vs)∧(ty.isProd=false→v.cells = #[v]):=by
 cases ty with
 |tree a e=>simp[dA] at ht
 |int k=>
  refine ⟨fun h=>(by cases h),fun _=>?_⟩
  simp only[dA] at ht
  split at ht
  ·rename_i k' hu
   cases v <;> simp[Value.okWide,hu,Cell.okWide,Cell.ok] at hval <;> rfl
  ·cases ht
 |bool=>
  refine ⟨fun h=>(by cases h),fun _=>?_⟩
  simp only[dA] at ht
  split at ht
  ·rename_i hu
   cases v <;> simp[Value.okWide,hu,Cell.okWide,Cell.ok] at hval <;> rfl
  ·cases ht
 |str=>
  refine ⟨fun h=>(by cases h),fun _=>?_⟩
  simp only[dA] at ht
  split at ht
  ·rename_i hu
   cases v <;> simp[Value.okWide,hu,Cell.okWide,Cell.ok] at hval <;> rfl
  ·cases ht
 |sl e ty=>
  refine ⟨fun h=>(by cases h),fun _=>?_⟩
  simp only[dA] at ht
  split at ht
  ·rename_i e' hu
   cases v <;> simp[Value.okWide,hu,Cell.okWide,Cell.ok] at hval <;> rfl
  ·cases ht
 |unit=>simp[dA] at ht
 |prod a b=>
  refine ⟨fun _=>?_,fun h=>(by cases h)⟩
  simp only[dA] at ht
  split at ht
  ·rename_i fs hu
   simp only[Value.okWide,hu] at hval
   obtain ⟨cs,rfl,_⟩:=hval
   exact ⟨cs,rfl⟩
  ·cases ht
def qs (P:Program):Bool:=(List.range P.types.size).all fun t=>match P.underlying t with
 |some (.slice e)=>decide (0<P.cellsOf e)
 |_=>true
theorem th (hl:laidOutB P=true)(hm:mapsRowed P=true)(hs:qs P=true){W':World}(hk:∀i,i<W.heap.size→W'.heap[i]?=W.heap[i]?):∀{ts:List TypeId} {vs:List Value} {ds:List (DataW H)} {ps:List MemPlace},
  (∀t∈ts,t<P.types.size)→DataW.TrodAll enc P W 0 (fun _=>true) true ts vs ds ps→(∀p∈ps,sp p.block=true)→DataW.TrodAll enc P W' 0 sp true ts vs ds ps
 |[],[],[],_,_,h,_=>h
 |t::ts,v::vs,d::ds,ps,hT,⟨p,q,⟨fuel,h1⟩,h2,e⟩,hsp=>by
  refine ⟨p,q,⟨fuel,DataW.trod_stays (kids_rows hl hm) (fun {t e} ht hu=>?_) (fun h=>(by cases h)) (hT t (by simp)) h1 (fun x hx=>?_) fun x hx=>hsp x (by rw[e];exact List.mem_append_left _ hx)⟩,
   th hl hm hs hk (fun t ht=>hT t (by simp[ht])) h2 (fun x hx=>hsp x (by rw[e];exact List.mem_append_right _ hx)),e⟩
  ·have:=List.all_eq_true.1 hs t (by simpa using ht)
   rw[hu] at this
   exact of_decide_eq_true this
  ·have hb:=DataW.trod_lt _ _ _ _ h1 x hx
   cases x with
   |cell b off=>simp[World.sameAt,World.cell?,hk b hb]
   |map b=>exact hk b hb
 |[],[],_::_,_,_,h,_=>h.elim
 |[],_::_,_,_,_,h,_=>h.elim
 |_::_,[],_,_,_,h,_=>h.elim
 |_::_,_::_,[],_,_,h,_=>h.elim
theorem GP {f:Func}{s:ChangeSpec}{apart fresh handsOn again:Bool}{W':World}{args:Array Value}{ds gs:List (DataW H)}{before:List MemPlace}
  (hl:laidOutB P=true) (hm:mapsRowed P=true) (hs:qs P=true) (hT:∀t∈f.params.toList,t<P.types.size) {tb:TypeId} (hr:f.resultTypes = #[tb]) (htb:P.underlying tb=some .bool) (hv:s.vars=[])
  (hW:DataW.Whole enc P f.params.toList s.vars apart W args.toList ds gs before) (hfn:s.fn H (ds++gs)={ results:=[.lit (.bool true)],args:=ds })
  (hos:W'.os=W.os) (hout:W'.output=W.output) (hk:∀i,i<W.heap.size→W'.heap[i]?=W.heap[i]?):s.post enc P f apart fresh handsOn again W args (.bool true) W':=by
 have hlt:=hW.lt
 obtain ⟨p,q,hA,hV,hpq,hfz,hnd⟩:=id hW
 rw[hv] at hV
 obtain ⟨rfl,rfl⟩:=trodVars_none hV
 rw[List.append_nil] at hpq
 subst hpq
 have hres:∀(b:Nat) (sp:Nat→Bool) (hd:Bool),DataW.TrodAll enc P W' b sp hd f.resultTypes.toList ((Value.bool true).resultList f.resultTypes.size) [.lit (.bool true)] []:=by
  intro b sp hd
  rw[hr]
  exact trodAll_cons_mk (shut_bool htb _) trodAll_mk0
 have hargs:∀sp:Nat→Bool,(∀x∈before,sp x.block=true)→DataW.TrodAll enc P W' 0 sp true f.params.toList args.toList ds before:=
  fun sp hsp=>th hl hm hs hk hT hA hsp
 have hvars:∀sp:Nat→Bool,DataW.TrodVars enc P W' sp s.vars [] []:=by
  intro sp
  rw[hv]
  rfl
 have hold:∀x∈before,(fun b=>decide (b<W.heap.size)) x.block=true:=fun x hx=>by simpa using hlt x hx
 have hkept:∀may:MemPlace→Prop,W.keptBut W' may:=fun may=>⟨hos,hout,fun i hi=>by
  rw[hk i hi]
  cases h:W.heap[i]? with
  |none=>rfl
  |some o=>cases o <;> simp⟩
 refine ⟨ds,[],before,[],before,[],hW,by rw[hfn];exact hres _ _ _,by rw[hfn];exact hargs _ hold,by rw[hfn];exact hvars _,hkept _,fun _=>?_⟩
 refine ⟨ok_one hr rfl (okWide_bool_mk htb true),[.lit (.bool true)]++ds,[],[]++before,⟨[]++before,[],trodAll_append (hargs _ fun _ _=>rfl) (hres _ _ _),hvars _,by simp,fun b off hx=>?_,fun ha=>by simpa using hnd ha⟩,fun x hx _=>by simpa using hx⟩
 have hx:MemPlace.cell b off∈before:=by simpa using hx
 rw[← hfz b off hx]
 simp[World.frozen?,hk b (hlt _ hx)]
@[reducible] def og:List Ty→Type
 |[]=>Unit
 |t::ts=>t.den×og ts
def Bq:(tys:List Ty)→og tys→List V
 |[],_=>[]
 |t::ts,y=>z8 t y.1::Bq ts y.2
def FB:(tys:List Ty)→og tys→Nat
 |[],_=>0
 |t::ts,y=>xK t y.1+FB ts y.2
def LU:(tys:List Ty)→og tys→Prop
 |[],_=>True
 |t::ts,y=>t.wf y.1∧LU ts y.2
def IT (P:Program):List Ty→List TypeId→Bool
 |[],[]=>true
 |ty::tys,t::ts=>dA P ty (.inl t)&&IT P tys ts
 |_,_=>false
theorem wV {r:Reach}{base:Nat}:∀(tys:List Ty) (ts:List TypeId),IT P tys ts=true→∀{vs:List Value} {ds:List (DataW H)} {ps:List MemPlace},DataW.TrodAll enc P W 0 sp held ts vs ds ps→
  (∀(j:Nat) t v,ts[j]?=some t→vs[j]?=some v→Value.okWide P W r base t v)→
  ∃ys:og tys,All2 (Rv (G0 W) W) (Bq tys ys) vs∧FB tys ys≤Rows.uptoBulkAll ds∧LU tys ys∧ds.length=tys.length
 |[],[],_,[],[],_,_,_=>⟨(),trivial,Nat.zero_le _,trivial,rfl⟩
 |ty::tys,t::ts,ht,v::vs,d::ds,_,⟨p,q,⟨fuel,h1⟩,h2,_⟩,hv=>by
  simp only[IT,zA] at ht
  obtain ⟨y,hy,hs⟩:=Lg ht.1 h1
  obtain ⟨k1,k2⟩:=Dj ht.1 (hv 0 t v rfl rfl)
  obtain ⟨ys,g1,g2,g3,g4⟩:=wV tys ts ht.2 h2 fun j t' v' e1 e2=>hv (j+1) t' v' (by simpa using e1) (by simpa using e2)
  refine ⟨(y,ys),⟨z9 hy k1 k2,g1⟩,?_,⟨Rt.wf ty y _ hy,g3⟩,by simp[g4]⟩
  simp only[FB,Rows.uptoBulkAll]
  omega
 |[],[],_,[],_::_,_,h,_=>h.elim
 |[],[],_,_::_,_,_,h,_=>h.elim
 |_::_,_::_,_,[],_,_,h,_=>h.elim
 |_::_,_::_,_,_::_,[],_,h,_=>h.elim
 |[],_::_,h,_,_,_,_,_=>by cases h
 |_::_,[],h,_,_,_,_,_=>by cases h
theorem vJ {fn:Func}{f:Nat}{io:Io}{Fn:io.In→Tr io.Res}(hok:HcOk P f (ah io Fn)){s:ChangeSpec}(tys:List Ty)(hts:IT P tys fn.params.toList=true)
  (hl:laidOutB P=true) (hm:mapsRowed P=true) (hs:qs P=true) (hT:∀t∈fn.params.toList,t<P.types.size) {tb:TypeId} (hr:fn.resultTypes = #[tb]) (htb:P.underlying tb=some .bool) (hv:s.vars=[])
  (hfn:∀ds:List (DataW H),ds.length=tys.length→s.fn H ds={ results:=[.lit (.bool true)],args:=ds })
  (hrun:∀ys:og tys,FB tys ys≤1048576→LU tys ys→ah io Fn Unit (Bq tys ys) 1 ⟨[],[],[]⟩ DK=some ())
  (base:Nat) (args:Array Value) (ds gs:List (DataW H)) (before:List MemPlace)
  (hval:∀(j:Nat) t v,fn.params[j]?=some t→args[j]?=some v→Value.okWide P W .any base t v)
  (hW:DataW.Whole enc P fn.params.toList s.vars false W args.toList ds gs before) (hk:Rows.uptoSmall H (ds++gs)=true) (htab:mU (S0 W) W:=by exact Lz (fun _=>rfl) _):
  Calls P f args W fun e W'=>∃v,e=.returned v∧s.post enc P fn false true false false W args v W':=by
 have hW':=hW
 obtain ⟨p,q,hA,hV,_,_,_⟩:=hW
 rw[hv] at hV
 obtain ⟨rfl,rfl⟩:=trodVars_none hV
 obtain ⟨ys,g1,g2,g3,g4⟩:=wV tys fn.params.toList hts hA fun j t v e1 e2=>hval j t v (by simpa using e1) (by simpa using e2)
 have hb:Rows.uptoBulkAll ds≤1048576:=by simpa [Rows.uptoSmall] using hk
 refine (DL hok (vals:=args) (args:=Bq tys ys) g1 (hrun ys (by omega) g3) htab).mono ?_
 rintro e W' ⟨rfl,hos,hout,hkeep⟩
 exact ⟨_,rfl,GP hl hm hs hT hr htb hv hW' (by rw[List.append_nil];exact hfn ds g4) hos hout hkeep⟩
end
end Go.Proofs.YthpcdhgpplmneaaDoor.Sym
namespace Go.Proofs.YthpcdhgpplmneaaDoor.Sym
open Go
noncomputable section
section
variable {P:Program} {tt:TT}
end
end
end Go.Proofs.YthpcdhgpplmneaaDoor.Sym
namespace Go.Proofs.YthpcdhgpplmneaaDoor.Sym
open Go
def Ty.flatB:Ty→Bool
 |.sl _ _=>false
 |.tree _ _=>false
 |.prod a b=>a.flatB&&b.flatB
 |_=>true
theorem Rt.flat {S S':Nat→Nat→Prop}{w w':World}:∀(t:Ty) (x:t.den) (cs:List Value),t.flatB=true→Rt S w t x cs→Rt S' w' t x cs
 |.int _,_,_,_,h=>h
 |.bool,_,_,_,h=>h
 |.str,_,_,_,h=>h
 |.unit,_,_,_,h=>h
 |.prod a b,_,_,hf,⟨c1,c2,e,h1,h2⟩=>by
  simp only[Ty.flatB,zA] at hf
  exact ⟨c1,c2,e,Rt.flat a _ _ hf.1 h1,Rt.flat b _ _ hf.2 h2⟩
 |.sl _ _,_,_,hf,_=>by cases hf
 |.tree _ _,_,_,hf,_=>by cases hf
noncomputable section
structure Grown (w w':World):Prop where
 os:w'.os=w.os
 tape:w'.tape=w.tape
 output:w'.output=w.output
 size:w.heap.size≤w'.heap.size
 old:∀k,k<w.heap.size→w'.heap[k]?=w.heap[k]?
theorem Grown.cell {w w':World}(g:Grown w w'){b o:Nat}(hb:b<w.heap.size):w'.cell? ⟨b,o,none⟩=w.cell? ⟨b,o,none⟩:=by
 simp[World.cell?,g.old b hb]
section
variable {F:Fra} {G:Gh} {w w':World}
def Gh.owned (G:Gh)(i:Nat)(o:Option Nat):Gh:=⟨G.S,G.mu,fun j=>if j=i then o.map (·,0) else G.ow j⟩
variable {G':Gh}
def OwnsTo (G' H:Gh)(l:List Nat):Prop:=∀j∈l,j≠0∧∀b n,G'.ow j=some (b,n)→H.ow j=some (b,0)
theorem OwnsTo.l {H:Gh}{l l':List Nat}(h:OwnsTo G' H (l++l')):OwnsTo G' H l:=fun j hj=>h j (List.mem_append_left _ hj)
theorem OwnsTo.r {H:Gh}{l l':List Nat}(h:OwnsTo G' H (l++l')):OwnsTo G' H l':=fun j hj=>h j (List.mem_append_right _ hj)
end
end
end Go.Proofs.YthpcdhgpplmneaaDoor.Sym
namespace Go.Proofs.YthpcdhgpplmneaaDoor.Sym
open Go
noncomputable section
theorem Grown.refl (w:World):Grown w w:=⟨rfl,rfl,rfl,Nat.le_refl _,fun _ _=>rfl⟩
end
end Go.Proofs.YthpcdhgpplmneaaDoor.Sym
namespace Go.Proofs.YthpcdhgpplmneaaDoor.Sym
open Go
open Go.IntKind (i8 i16 i32 i64 u8 u16 u32 u64)
noncomputable section
abbrev LM:Sh:=.dat (.int .i16) false false
abbrev Kb:Sh:=.dat (.int .i32) false false
abbrev LN:Sh:=.dat (.int .u64) false false
def aI (v:Int):Nat→LI
 |0=>[]
 |n+1=>(v / 256 ^ n) % 256::aI v n
theorem so (v:Int):∀n,(aI v n).length=n
 |0=>rfl
 |n+1=>by rw[aI,zN,so v n]
abbrev J2:List Sh:=[dL,dI]
abbrev dd:Sh:=.dat (.int .i64) false false
def aB (l:LI):Int:=l.foldl (fun v c=>v*256+c) 0
def bn (b:LI)(p:Int)(n:Nat):Int×(Int×Int):=if (b.length:Int) - p<n then (0,(p,1)) else (aB ((b.drop p.toNat).take n),(p+n,0))
def cv (b:LI)(p:Int):Bool:=decide (b.length≤4294960000)&&(decide (0≤p)&&decide (p≤(b.length:Int)))
def mH (b:LI)(p n:Int):Int×Int:=if n<0 then (p,3) else if (b.length:Int) - p<n then (p,1) else (p+n,0)
abbrev fA:Io:=⟨[.ptr 0 0],[J2],[],[dI],none⟩
def p3 (d:fA.In):Tr fA.Res:=.ret (.ret ((i64.wrap ((d.2.1.1.length:Int) - d.2.1.2.1),()),((d.2.1.1,(d.2.1.2.1,())),())))
abbrev xE:List (Nat×Hc):=[]
def F1:Hd:=b8 xE
def yx:Lp:=cp []
def Ah (a0:LI)(a1:Int):Option fA.Res:=oR ((i64.wrap ((↑a0.length:Int) - a1),()),(a0,a1,()),())
theorem Ej (a0:LI)(a1:Int):Io.run tt F1 dr yx fA Tryd.f71 (((),()),(a0,a1,()),())=Ah a0 a1:=by kernel_rfl
theorem yF:HcOk prog 71 (ah fA p3):=by
 refine cx (cs:=xE) HcsOk.nil (lp:=yx) (fn:=Tryd.f71) fA (.done (by kernel_rfl)) p3 ?_
 rintro ⟨⟨⟨⟩,⟨⟩⟩,⟨⟨(b:LI),(p:Int),⟨⟩⟩,⟨⟩⟩⟩ out hw ho
 rw[← ho]
 exact Ej b p
abbrev cm:Io:=⟨[.ptr 0 0,dI],[J2],[],[LN,dI],none⟩
def fY (d:cm.In):Tr cm.Res:=
 .ite (cv d.2.1.1 d.2.1.2.1&&(decide ((0:Int)≤d.1.2.1)&&decide (d.1.2.1≤(8:Int)))) (.ret (.ret (((bn d.2.1.1 d.2.1.2.1 d.1.2.1.toNat).1,((bn d.2.1.1 d.2.1.2.1 d.1.2.1.toNat).2.2,())),((d.2.1.1,((bn d.2.1.1 d.2.1.2.1 d.1.2.1.toNat).2.1,())),())))) .no
abbrev rn:List (Nat×Hc):=[(71,ah fA p3)]
def rF:Hd:=b8 rn
abbrev bP:Lo:=⟨⟨(.one (.ptr 0 0)::.one hI::b9 (.one (.hol (.int u64))::ai (b9 (.one (.hol (.sl 5 (Ty.int u8)))::.one hI::.one hI::ai (bN []))))),[some [.hol (.sl 5 (Ty.int u8)),hI]]⟩,[(.exit 0,⟨(.one (.ptr 0 0)::.one hI::b9 (.one (.hol (.int u64))::.any::ai (ai (dZ [])))),[some [.hol (.sl 5 (Ty.int u8)),hI]]⟩)]⟩
def ft (d:bP.st.den):Tr (am bP.xs):=
 .ite (decide (d.1.2.1=0)&&(decide (d.1.2.2.2.2.1=0)&&(decide (d.1.2.2.2.1=(d.1.2.2.1.length:Int))&&decide (d.1.2.2.1.length≤8)))) (.ret (.ret ((),((d.1.1,(aB d.1.2.2.1,())),(d.2.1,()))))) .no
def jN:Lp:=cp [(6,aC bP ft)]
def kT {R:Type}(h3 h4:Int)(h5:LI)(h6 h7:Int)(h8:LI)(h9:Int)(next:Int→Int→LI→Int→Int→LI→Int→Option R)(out:am bP.xs→Option R):Option R:=bif decide (h7<h6) then bif decide (0≤h7)&&decide (h7<(↑h5.length:Int)) then next (h3) (lE u64 (eV u64 h4 8) (u64.wrap (h5.getD h7.toNat 0))) (h5) (h6) (i64.wrap (h7+1)) (h8) (h9) else none else out (.ret ((),((h3,(h4,())),((h8,(h9,())),()))))
def jL (n:Nat)(h3 h4:Int)(h5:LI)(h6 h7:Int)(h8:LI)(h9:Int):Option (am bP.xs):=gO tt rF dr jN 1 Tryd.f70 (ct Tryd.f70 0) n (bP.st.mk' ((h3,(h4,(h5,(h6,(h7,()))))),((h8,(h9,())),()))) (bE bP.xs)
theorem wz (n:Nat)(h3 h4:Int)(h5:LI)(h6 h7:Int)(h8:LI)(h9:Int):jL (n+1) h3 h4 h5 h6 h7 h8 h9=kT h3 h4 h5 h6 h7 h8 h9 (jL n) some:=by kernel_rfl
theorem Jj {v c:Int}(h0:0≤v)(h1:v<72057594037927936)(h2:0≤c)(h3:c≤255):lE .u64 (eV .u64 v 8) (u64.wrap c)=v*256+c:=by
 have e1:eV .u64 v 8=v*256:=by
  show IntKind.wrap .u64 (v*2 ^ 8)=_
  rw[show v*2 ^ 8=v*256 by omega]
  exact bG (k:=.u64) (by simp[bu,IntKind.min,IntKind.max,IntKind.signed,IntKind.bits];omega)
 have e0:u64.wrap c=c:=bG (k:=.u64) (by simp[bu,IntKind.min,IntKind.max,IntKind.signed,IntKind.bits];omega)
 rw[e1,e0]
 obtain ⟨v,rfl⟩:=au h0
 obtain ⟨c,rfl⟩:=au h2
 have e4:=Nat.two_pow_add_eq_or_of_lt (show c<2 ^ 8 by omega) v
 show IntKind.wrap .u64 ((BitVec.ofInt 64 ((v:Int)*256) ||| BitVec.ofInt 64 (c:Int)).toNat:Int)=_
 have e2:(BitVec.ofInt 64 (c:Int)).toNat=c:=by rw[BitVec.toNat_ofInt];omega
 have e3:(BitVec.ofInt 64 ((v:Int)*256)).toNat=2 ^ 8*v:=by rw[BitVec.toNat_ofInt];omega
 rw[BitVec.toNat_or,e2,e3,← e4]
 refine (bG (k:=.u64) ?_).trans ?_
 ·simp[bu,IntKind.min,IntKind.max,IntKind.signed,IntKind.bits];omega
 ·omega
theorem wD (l:LI)(c:Int):aB (l++[c])=aB l*256+c:=by simp[aB]
theorem ru:∀(l:LI) (v:Int),(∀c∈l,0≤c∧c≤255)→0≤v→0≤l.foldl (fun v c=>v*256+c) v∧l.foldl (fun v c=>v*256+c) v<(v+1)*256 ^ l.length
 |[],v,_,h0=>⟨h0,by simp;omega⟩
 |c::l,v,h,h0=>by
  obtain ⟨h3,h4⟩:=h c (by simp)
  obtain ⟨h1,h2⟩:=ru l (v*256+c) (fun d hd=>h d (by simp[hd])) (by omega)
  refine ⟨h1,Int.lt_of_lt_of_le h2 ?_⟩
  rw[zN,Int.pow_succ,Int.mul_comm (256 ^ l.length) 256,← Int.mul_assoc]
  exact Int.mul_le_mul_of_nonneg_right (by omega) (Int.le_of_lt (Int.pow_pos (by decide)))
theorem pA (l:LI)(h:∀c∈l,0≤c∧c≤255):0≤aB l∧aB l<256 ^ l.length:=by
 have:=ru l 0 h (Int.le_refl _)
 simpa [aB] using this
theorem vU (n:Int)(l b:LI)(p:Int)(hl:l.length≤8)(hr:∀c∈l,0≤c∧c≤255):∀(k i:Nat),l.length<i+k→i≤l.length→
  jL k n (aB (l.take i)) l (l.length:Int) i b p=some (.ret ((),((n,(aB l,())),((b,(p,())),())))):=by
 intro k
 induction k with
 |zero=>intro i h;omega
 |succ k ih=>
  intro i h1 h2
  rw[wz]
  unfold kT
  by_cases hi:i<l.length
  ·have hc:=hr l[i] (List.getElem_mem hi)
   have hb:=pA (l.take i) fun c hc=>hr c (List.mem_of_mem_take hc)
   have hlt:(256:Int) ^ (l.take i).length≤72057594037927936:=by
    rw[List.length_take,show min i l.length=i by omega]
    have hi7:i≤7:=by omega
    match i,hi7 with
    |0,_=>decide
    |1,_=>decide
    |2,_=>decide
    |3,_=>decide
    |4,_=>decide
    |5,_=>decide
    |6,_=>decide
    |7,_=>decide
   have e1:List.getD l (i:Int).toNat 0=l[i]:=by simp only[zG,aA hi]
   rw[aa (by simpa using hi),aa (by simpa using hi),e1,Jj hb.1 (by omega) hc.1 hc.2,← wD,← List.take_succ_eq_append_getElem hi,bH hi (by rw[bq];omega),ih (i+1) (by omega) (by omega)]
  ·rw[ac (by simp;omega),List.take_of_length_le (by omega)]
def m7 (a0:Int)(a1:LI)(a2:Int):Option cm.Res:=bif decide (i64.wrap ((↑a1.length:Int) - a2)<a0) then oR ((0,1,()),(a1,a2,()),()) else bif decide (0≤a2)&&(decide (a2≤i64.wrap (a2+a0))&&decide (i64.wrap (a2+a0)≤(↑a1.length:Int))) then (ft ((a0,(0,(List.drop a2.toNat (List.take (i64.wrap (a2+a0)).toNat a1),((↑(List.drop a2.toNat (List.take (i64.wrap (a2+a0)).toNat a1)).length:Int),(0,()))))),((a1,(a2,())),()))).run fun y=>match y with | .ret ((),((x21,x22,()),(x23,x24,()),()))=>(oR ((x22,0,()),(x23,i64.wrap (x24+x21),()),())) else none
theorem yP (a0:Int)(a1:LI)(a2:Int):Io.run tt rF dr jN cm Tryd.f70 (((),a0,()),(a1,a2,()),())=m7 a0 a1 a2:=by kernel_rfl
theorem d7 {b:LI}(h:Ty.wf bs b):∀c∈b,0≤c∧c≤255:=fun c hc=>by
 have:=h.2 c hc
 simpa [Ty.wf,bu,IntKind.min,IntKind.max,IntKind.signed,IntKind.bits] using this
theorem nk:HcsOk prog rn:=.cons yF .nil
theorem jQ:HcOk prog 70 (ah cm fY):=by
 refine cx nk (lp:=jN) (fn:=Tryd.f70) cm (.step (h0:=aC bP ft) (by kernel_rfl) (iB nk (lp:=jN) (fn:=Tryd.f70) (.done (by kernel_rfl)) bP ft ?_) (.done (by kernel_rfl))) fY ?_
 ·rintro ⟨⟨(n:Int),(v:Int),(l:LI),(m:Int),(i:Int),⟨⟩⟩,⟨⟨(b:LI),(p:Int),⟨⟩⟩,⟨⟩⟩⟩ y hw hy
  obtain ⟨hg,hy⟩:=Tr.guard hy
  simp only[zA,zB] at hg
  obtain ⟨rfl,rfl,rfl,h4⟩:=hg
  refine ⟨l.length+1,(vU n l b p h4 (d7 hw.1.2.2.1) _ 0 (by omega) (by omega)).trans ?_⟩
  rw[← hy];rfl
 ·rintro ⟨⟨⟨⟩,(n:Int),⟨⟩⟩,⟨⟨(b:LI),(p:Int),⟨⟩⟩,⟨⟩⟩⟩ out hw ho
  obtain ⟨hg,ho⟩:=Tr.guard ho
  simp only[cv,zA,zB] at hg
  obtain ⟨⟨h1,h2,h3⟩,h4,h5⟩:=hg
  have h1:b.length≤4294960000:=h1
  have h2:(0:Int)≤p:=h2
  have h3:p≤(b.length:Int):=h3
  have h4:(0:Int)≤n:=h4
  have h5:n≤(8:Int):=h5
  cases ho
  refine (yP n b p).trans ?_
  show _=oR (((bn b p n.toNat).1,((bn b p n.toNat).2.2,())),((b,((bn b p n.toNat).2.1,())),()))
  unfold m7
  rw[af (n:=(b.length:Int) - p) (by omega) (by omega),af (n:=p+n) (by omega) (by omega)]
  unfold bn
  by_cases hl:(b.length:Int) - p<n
  ·rw[aa (by simpa using hl),if_pos (by omega)]
  ·have e0:List.drop p.toNat (List.take (p+n).toNat b)=(b.drop p.toNat).take n.toNat:=by rw[List.drop_take,show (p+n).toNat - p.toNat=n.toNat by omega]
   rw[ac (by simpa using hl),if_neg (by omega),aa (by simp;omega),e0]
   have hl8:((b.drop p.toNat).take n.toNat).length≤8:=by simp;omega
   have e1:ft ((n,(0,((b.drop p.toNat).take n.toNat,((((b.drop p.toNat).take n.toNat).length:Int),(0,()))))),((b,(p,())),()))=.ite true (.ret (.ret ((),((n,(aB ((b.drop p.toNat).take n.toNat),())),((b,(p,())),()))))) .no:=
    congrArg (fun c=>Tr.ite c _ _) (show (decide ((0:Int)=0)&&(decide ((0:Int)=0)&&(decide ((((b.drop p.toNat).take n.toNat).length:Int)=(((b.drop p.toNat).take n.toNat).length:Int))&&decide (((b.drop p.toNat).take n.toNat).length≤8))))=true by simp;omega)
   rw[e1]
   simp only[Tr.run,cond_true]
   rw[af (n:=p+n) (by omega) (by omega),show ((n.toNat:Nat):Int)=n by omega]
abbrev jy:Io:=⟨[.ptr 0 0],[J2],[],[LM,dI],none⟩
def ve (d:jy.In):Tr jy.Res:=
 .ite (cv d.2.1.1 d.2.1.2.1) (.ret (.ret ((i16.wrap (bn d.2.1.1 d.2.1.2.1 2).1,((bn d.2.1.1 d.2.1.2.1 2).2.2,())),((d.2.1.1,((bn d.2.1.1 d.2.1.2.1 2).2.1,())),())))) .no
abbrev BM:List (Nat×Hc):=[(70,ah cm fY)]
def IA:Hd:=b8 BM
def Cy:Lp:=cp []
def tL (a0:LI)(a1:Int):Option jy.Res:=bif cv a0 a1&&(decide (0≤2)&&decide (2≤8)) then oR ((i16.wrap (bn a0 a1 (Int.toNat 2)).1,(bn a0 a1 (Int.toNat 2)).2.2,()),(a0,(bn a0 a1 (Int.toNat 2)).2.1,()),()) else none
theorem Hi (a0:LI)(a1:Int):Io.run tt IA dr Cy jy Tryd.f51 (((),()),(a0,a1,()),())=tL a0 a1:=by kernel_rfl
theorem I9:HcOk prog 51 (ah jy ve):=by
 refine cx (cs:=BM) (.cons jQ .nil) (lp:=Cy) (fn:=Tryd.f51) jy (.done (by kernel_rfl)) ve ?_
 rintro ⟨⟨⟨⟩,⟨⟩⟩,⟨⟨(b:LI),(p:Int),⟨⟩⟩,⟨⟩⟩⟩ out hw ho
 obtain ⟨hg,ho⟩:=Tr.guard ho
 have hg:cv b p=true:=hg
 cases ho
 refine (Hi b p).trans ?_
 unfold tL
 rw[aa (by simp[hg])]
 rfl
abbrev hC:Io:=⟨[.ptr 0 0],[J2],[],[Kb,dI],none⟩
def qG (d:hC.In):Tr hC.Res:=
 .ite (cv d.2.1.1 d.2.1.2.1) (.ret (.ret ((i32.wrap (bn d.2.1.1 d.2.1.2.1 4).1,((bn d.2.1.1 d.2.1.2.1 4).2.2,())),((d.2.1.1,((bn d.2.1.1 d.2.1.2.1 4).2.1,())),())))) .no
abbrev BN:List (Nat×Hc):=[(70,ah cm fY)]
def IB:Hd:=b8 BN
def Cz:Lp:=cp []
def tM (a0:LI)(a1:Int):Option hC.Res:=bif cv a0 a1&&(decide (0≤4)&&decide (4≤8)) then oR ((i32.wrap (bn a0 a1 (Int.toNat 4)).1,(bn a0 a1 (Int.toNat 4)).2.2,()),(a0,(bn a0 a1 (Int.toNat 4)).2.1,()),()) else none
theorem Hj (a0:LI)(a1:Int):Io.run tt IB dr Cz hC Tryd.f49 (((),()),(a0,a1,()),())=tM a0 a1:=by kernel_rfl
theorem CS:HcOk prog 49 (ah hC qG):=by
 refine cx (cs:=BN) (.cons jQ .nil) (lp:=Cz) (fn:=Tryd.f49) hC (.done (by kernel_rfl)) qG ?_
 rintro ⟨⟨⟨⟩,⟨⟩⟩,⟨⟨(b:LI),(p:Int),⟨⟩⟩,⟨⟩⟩⟩ out hw ho
 obtain ⟨hg,ho⟩:=Tr.guard ho
 have hg:cv b p=true:=hg
 cases ho
 refine (Hj b p).trans ?_
 unfold tM
 rw[aa (by simp[hg])]
 rfl
abbrev jz:Io:=⟨[.ptr 0 0],[J2],[],[dd,dI],none⟩
def vf (d:jz.In):Tr jz.Res:=
 .ite (cv d.2.1.1 d.2.1.2.1) (.ret (.ret ((i64.wrap (bn d.2.1.1 d.2.1.2.1 8).1,((bn d.2.1.1 d.2.1.2.1 8).2.2,())),((d.2.1.1,((bn d.2.1.1 d.2.1.2.1 8).2.1,())),())))) .no
abbrev BO:List (Nat×Hc):=[(70,ah cm fY)]
def IC:Hd:=b8 BO
def CA:Lp:=cp []
def tN (a0:LI)(a1:Int):Option jz.Res:=bif cv a0 a1&&(decide (0≤8)&&decide (8≤8)) then oR ((i64.wrap (bn a0 a1 (Int.toNat 8)).1,(bn a0 a1 (Int.toNat 8)).2.2,()),(a0,(bn a0 a1 (Int.toNat 8)).2.1,()),()) else none
theorem Hk (a0:LI)(a1:Int):Io.run tt IC dr CA jz Tryd.f47 (((),()),(a0,a1,()),())=tN a0 a1:=by kernel_rfl
theorem Ja:HcOk prog 47 (ah jz vf):=by
 refine cx (cs:=BO) (.cons jQ .nil) (lp:=CA) (fn:=Tryd.f47) jz (.done (by kernel_rfl)) vf ?_
 rintro ⟨⟨⟨⟩,⟨⟩⟩,⟨⟨(b:LI),(p:Int),⟨⟩⟩,⟨⟩⟩⟩ out hw ho
 obtain ⟨hg,ho⟩:=Tr.guard ho
 have hg:cv b p=true:=hg
 cases ho
 refine (Hk b p).trans ?_
 unfold tN
 rw[aa (by simp[hg])]
 rfl
abbrev gA:Io:=⟨[.ptr 0 0,dI],[J2],[],[dI],none⟩
def p4 (d:gA.In):Tr gA.Res:=
 .ite (cv d.2.1.1 d.2.1.2.1) (.ret (.ret (((mH d.2.1.1 d.2.1.2.1 d.1.2.1).2,()),((d.2.1.1,((mH d.2.1.1 d.2.1.2.1 d.1.2.1).1,())),())))) .no
abbrev xF:List (Nat×Hc):=[(71,ah fA p3)]
def F2:Hd:=b8 xF
def yy:Lp:=cp []
def re (a0:Int)(a1:LI)(a2:Int):Option gA.Res:=bif decide (a0<0) then oR ((3,()),(a1,a2,()),()) else bif decide (i64.wrap ((↑a1.length:Int) - a2)<a0) then oR ((1,()),(a1,a2,()),()) else oR ((0,()),(a1,i64.wrap (a2+a0),()),())
theorem Ek (a0:Int)(a1:LI)(a2:Int):Io.run tt F2 dr yy gA Tryd.f48 (((),a0,()),(a1,a2,()),())=re a0 a1 a2:=by kernel_rfl
theorem GM:HcOk prog 48 (ah gA p4):=by
 refine cx (cs:=xF) (.cons yF .nil) (lp:=yy) (fn:=Tryd.f48) gA (.done (by kernel_rfl)) p4 ?_
 rintro ⟨⟨⟨⟩,(n:Int),⟨⟩⟩,⟨⟨(b:LI),(p:Int),⟨⟩⟩,⟨⟩⟩⟩ out hw ho
 obtain ⟨hg,ho⟩:=Tr.guard ho
 simp only[cv,zA,zB] at hg
 obtain ⟨h1,h2,h3⟩:=hg
 have h1:b.length≤4294960000:=h1
 have h2:(0:Int)≤p:=h2
 have h3:p≤(b.length:Int):=h3
 cases ho
 refine (Ek n b p).trans ?_
 unfold re mH
 rw[af (n:=(b.length:Int) - p) (by omega) (by omega)]
 by_cases h4:n<0
 ·rw[aa (by simpa using h4),if_pos h4]
 ·rw[ac (by simpa using h4),if_neg h4]
  by_cases h5:(b.length:Int) - p<n
  ·rw[aa (by simpa using h5),if_pos h5]
  ·rw[ac (by simpa using h5),if_neg h5,af (n:=p+n) (by omega) (by omega)]
abbrev hY:Io:=⟨[dL],[],[J2],[.ptr 0 0],none⟩
def vg (d:hY.In):Tr hY.Res:=.ite (decide (d.1.1.length≤4294967296)) (.ret (.ret (((),()),((d.1.1,(0,())),())))) .no
abbrev BP:List (Nat×Hc):=[(40,ah dF mP)]
def ID:Hd:=b8 BP
def CB:Lp:=cp []
def Dl (a0:LI):Option hY.Res:=bif decide (a0.length≤4294967296) then oR (((),()),(a0,0,()),()) else none
theorem Hl (a0:LI):Io.run tt ID dr CB hY Tryd.f46 ((a0,()),())=Dl a0:=by kernel_rfl
theorem CT:HcOk prog 46 (ah hY vg):=by
 refine cx (cs:=BP) (.cons rT .nil) (lp:=CB) (fn:=Tryd.f46) hY (.done (by kernel_rfl)) vg ?_
 rintro ⟨⟨(b:LI),⟨⟩⟩,⟨⟩⟩ out hw ho
 obtain ⟨hg,ho⟩:=Tr.guard ho
 cases ho
 exact (Hl b).trans (aa hg _ _)
abbrev fc:Io:=⟨[dd,dI],[],[],[dO],none⟩
def qF (d:fc.In):Tr fc.Res:=.ite (decide ((0:Int)≤d.1.2.1)&&decide (d.1.2.1≤(8:Int))) (.ret (.ret ((aI d.1.1 d.1.2.1.toNat,()),()))) .no
abbrev la:List (Nat×Hc):=[]
def oC:Hd:=b8 la
abbrev ce:Lo:=⟨⟨(.one hI::.one hI::.any::bN (.one (.onl 5 (Ty.int u8) 11)::.one hI::.any::ai (ai (b9 (bN []))))),[]⟩,[(.exit 0,⟨(.any::.one hI::.any::bN (.one (.onl 5 (Ty.int u8) 11)::ai (ai (dZ [])))),[]⟩)]⟩
abbrev bO:Lo:=⟨⟨(.any::b9 (.one (.onl 5 (Ty.int u8) 11)::bN (.one (.onl 5 (Ty.int u8) 17)::.one hI::ai (ai (b9 []))))),[]⟩,[(.exit 2,⟨(dZ (.one (.onl 5 (Ty.int u8) 17)::.any::ai (ai (b9 [])))),[]⟩)]⟩
def dY (v:Int):Nat→LI
 |0=>[]
 |n+1=>v % 256::dY (v / 256) n
def ge (d:ce.st.den):Tr (am ce.xs):=
 .ite (decide (d.1.2.2.1.length=0)&&(decide (d.1.2.2.2.1=0)&&(decide ((0:Int)≤d.1.2.1)&&decide (d.1.2.1≤(8:Int))))) (.ret (.ret ((),((d.1.2.1,(dY d.1.1 d.1.2.1.toNat,())),())))) .no
def dR (d:bO.st.den):Tr (am bO.xs):=
 .ite (decide (d.1.2.1.length=0)&&(decide (d.1.2.2.1=(d.1.1.length:Int) - 1)&&decide (d.1.1.length≤8))) (.ret (.ret ((),((d.1.1.reverse,()),())))) .no
def fZ:Lp:=cp [(4,aC ce ge),(13,aC bO dR)]
def lS {R:Type}(h2 h3:Int)(h4:LI)(h5:Int)(next:Int→Int→LI→Int→Option R)(out:am ce.xs→Option R):Option R:=bif decide (h5<h3) then bif decide (i64.wrap (h2.tmod 256)<0) then bif decide (h4.length+[u8.wrap (i64.wrap (i64.wrap (h2.tmod 256)+256))].length≤4294967296) then next (i64.wrap ((i64.wrap (h2 - i64.wrap (i64.wrap (h2.tmod 256)+256))).tdiv 256)) (h3) (h4++[u8.wrap (i64.wrap (i64.wrap (h2.tmod 256)+256))]) (i64.wrap (h5+1)) else none else bif decide (h4.length+[u8.wrap (i64.wrap (h2.tmod 256))].length≤4294967296) then next (i64.wrap ((i64.wrap (h2 - i64.wrap (h2.tmod 256))).tdiv 256)) (h3) (h4++[u8.wrap (i64.wrap (h2.tmod 256))]) (i64.wrap (h5+1)) else none else out (.ret ((),((h3,(h4,())),())))
def ii (n:Nat)(h2 h3:Int)(h4:LI)(h5:Int):Option (am ce.xs):=gO tt oC dr fZ 0 Tryd.f62 (ct Tryd.f62 0) n (ce.st.mk' ((h2,(h3,(h4,(h5,())))),())) (bE ce.xs)
theorem yW (n:Nat)(h2 h3:Int)(h4:LI)(h5:Int):ii (n+1) h2 h3 h4 h5=lS h2 h3 h4 h5 (ii n) some:=by kernel_rfl
def gL {R:Type}(h18 h19:LI)(h20:Int)(next:LI→LI→Int→Option R)(out:am bO.xs→Option R):Option R:=bif decide (0≤h20) then bif decide (0≤h20)&&decide (h20<(↑h18.length:Int)) then bif decide (h19.length+[h18.getD h20.toNat 0].length≤4294967296) then next (h18) (h19++[h18.getD h20.toNat 0]) (i64.wrap (h20 - 1)) else none else none else out (.ret ((),((h19,()),())))
def jJ (n:Nat)(h18 h19:LI)(h20:Int):Option (am bO.xs):=gO tt oC dr fZ 0 Tryd.f62 (ct Tryd.f62 1) n (bO.st.mk' ((h18,(h19,(h20,()))),())) (bE bO.xs)
theorem nD (n:Nat)(h18 h19:LI)(h20:Int):jJ (n+1) h18 h19 h20=gL h18 h19 h20 (jJ n) some:=by kernel_rfl
theorem HZ (v:Int):(v.tmod 256<0→v.tmod 256+256=v % 256)∧(¬ v.tmod 256<0→v.tmod 256=v % 256):=by
 by_cases h:0≤v
 ·rw[Int.tmod_eq_emod_of_nonneg h];omega
 ·obtain ⟨u,rfl⟩:∃u,v = -u:=⟨-v,by omega⟩
  rw[Int.neg_tmod,Int.tmod_eq_emod_of_nonneg (by omega)];omega
theorem HY (v:Int):(v - v % 256).tdiv 256=v / 256:=by
 have e:v - v % 256=v / 256*256:=by omega
 rw[e,Int.mul_tdiv_cancel _ (by decide)]
theorem JN {n:Int}(h0:0≤n)(h1:n<256):u8.wrap n=n:=bG (by simp[bu,IntKind.min,IntKind.max,IntKind.signed,IntKind.bits];omega)
theorem s4 {m:Nat}(hm:m≤8):∀(k j:Nat) (v:Int) (acc:LI),m<j+k→j≤m→acc.length=j→-9223372036854775808≤v→v≤9223372036854775807→
  ii k v (m:Int) acc j=some (.ret ((),(((m:Int),(acc++dY v (m - j),())),()))):=by
 intro k
 induction k with
 |zero=>intro j v acc h;omega
 |succ k ih=>
  intro j v acc h1 h2 h3 h4 h5
  rw[yW]
  unfold lS
  by_cases hj:j<m
  ·refine bT (decide_eq_true (show (j:Int)<(m:Int) by omega)) ?_
   have ht:=HZ v
   have hd:∀x:Int,x=v % 256→ii k (i64.wrap ((i64.wrap (v - x)).tdiv 256)) (m:Int) (acc++[u8.wrap x]) (i64.wrap ((j:Int)+1))=some (.ret ((),(((m:Int),(acc++dY v (m - j),())),()))):=by
    rintro x rfl
    rw[af (n:=v - v % 256) (by omega) (by omega),HY,af (n:=v / 256) (by omega) (by omega),af (n:=(j:Int)+1) (by omega) (by omega),JN (n:=v % 256) (by omega) (by omega)]
    refine (ih (j+1) (v / 256) (acc++[v % 256]) (by omega) (by omega) (by simp[h3]) (by omega) (by omega)).trans ?_
    obtain ⟨q,hq⟩:∃q,m - j=q+1:=⟨m - j - 1,by omega⟩
    rw[hq,show m - (j+1)=q by omega,dY]
    simp
   have hr : -256≤v.tmod 256∧v.tmod 256<256:=by
    by_cases h:v.tmod 256<0
    ·have:=ht.1 h;omega
    ·have:=ht.2 h;omega
   rw[af (n:=v.tmod 256) (by omega) (by omega),af (n:=v.tmod 256+256) (by omega) (by omega)]
   by_cases hn:v.tmod 256<0
   ·refine bT (by simpa using hn) ?_
    refine bT (decide_eq_true (show acc.length+1≤4294967296 by omega)) ?_
    exact hd _ (ht.1 hn)
   ·refine bF (by simpa using hn) ?_
    refine bT (decide_eq_true (show acc.length+1≤4294967296 by omega)) ?_
    exact hd _ (ht.2 hn)
  ·refine bF (decide_eq_false (show ¬(j:Int)<(m:Int) by omega)) ?_
   rw[show m - j=0 by omega,dY]
   simp
theorem rO {low:LI}(hl:low.length≤8):∀(j:Nat) (acc:LI),j≤low.length→acc.length+j≤8→
  jJ (j+1) low acc ((j:Int) - 1)=some (.ret ((),((acc++(low.take j).reverse,()),()))):=by
 intro j
 induction j with
 |zero=>
  intro acc h1 h2
  rw[nD]
  unfold gL
  refine bF (by decide) ?_
  simp
 |succ j ih=>
  intro acc h1 h2
  rw[nD]
  unfold gL
  rw[show ((j+1:Nat):Int) - 1=(j:Int) by omega]
  have hg:List.getD low j (0:Int)=low[j]'(by omega):=aA (by omega)
  refine bT (by simp) ?_
  refine bT (by simp;omega) ?_
  simp only[zG,hg]
  refine bT (decide_eq_true (show acc.length+1≤4294967296 by omega)) ?_
  rw[af (n:=(j:Int) - 1) (by omega) (by omega)]
  refine (ih (acc++[low[j]'(by omega)]) (by omega) (by simp;omega)).trans ?_
  rw[List.take_succ_eq_append_getElem (by omega),List.reverse_append,List.reverse_singleton,zK]
theorem EC (v:Int):∀n,(dY v n).length=n:=by
 intro n
 induction n generalizing v with
 |zero=>rfl
 |succ n ih=>rw[dY,zN,ih]
theorem sD:∀(n:Nat) (v:Int),dY v (n+1)=dY v n++[(v / 256 ^ n) % 256]
 |0,v=>by simp[dY]
 |n+1,v=>by
  rw[dY,sD n (v / 256),dY]
  have e:v / 256 / 256 ^ n=v / 256 ^ (n+1):=by
   rw[Int.pow_succ,Int.mul_comm,Int.ediv_ediv_of_nonneg (by decide)]
  rw[e];rfl
theorem uK (v:Int):∀n,(dY v n).reverse=aI v n
 |0=>rfl
 |n+1=>by rw[sD,List.reverse_append,uK v n];rfl
def pl (a0 a1:Int):Option fc.Res:=(ge ((a0,(a1,([],(0,())))),())).run fun y=>match y with | .ret ((),((x16,x17,()),()))=>((dR ((x17,([],(i64.wrap (x16 - 1),()))),())).run fun y=>match y with | .ret ((),((x25,()),()))=>(oR ((x25,()),())))
theorem AM (a0 a1:Int):Io.run tt oC dr fZ fc Tryd.f62 ((a0,a1,()),())=pl a0 a1:=by kernel_rfl
theorem DW:HcOk prog 62 (ah fc qF):=by
 refine cx (cs:=la) HcsOk.nil (lp:=fZ) (fn:=Tryd.f62) fc (.step (h0:=aC ce ge) (by kernel_rfl) (iB (cs:=la) HcsOk.nil (lp:=fZ) (fn:=Tryd.f62) (.done (by kernel_rfl)) ce ge ?_) (.step (h0:=aC bO dR) (by kernel_rfl) (iB (cs:=la) HcsOk.nil (lp:=fZ) (fn:=Tryd.f62) (.done (by kernel_rfl)) bO dR ?_) (.done (by kernel_rfl)))) qF ?_
 ·rintro ⟨⟨(v:Int),(m:Int),(acc:LI),(i:Int),⟨⟩⟩,⟨⟩⟩ y hw hy
  obtain ⟨hg,hy⟩:=Tr.guard hy
  simp only[zA,zB] at hg
  obtain ⟨h1,h2,h3,h4⟩:=hg
  have h1:acc=[]:=zF h1
  have h2:i=0:=h2
  have h3:(0:Int)≤m:=h3
  have h4:m≤(8:Int):=h4
  subst h1
  subst h2
  obtain ⟨m,rfl⟩:=au h3
  have hv:bu .i64 v:=hw.1.1
  simp only[bu,IntKind.min,IntKind.max,IntKind.signed,IntKind.bits] at hv
  simp at hv
  refine ⟨m+1,(s4 (m:=m) (by omega) (m+1) 0 v [] (by omega) (by omega) rfl (by omega) (by omega)).trans ?_⟩
  rw[← hy];rfl
 ·rintro ⟨⟨(low:LI),(acc:LI),(i:Int),⟨⟩⟩,⟨⟩⟩ y hw hy
  obtain ⟨hg,hy⟩:=Tr.guard hy
  simp only[zA,zB] at hg
  obtain ⟨h1,h2,h3⟩:=hg
  have h1:acc=[]:=zF h1
  have h2:i=(low.length:Int) - 1:=h2
  have h3:low.length≤8:=h3
  subst h1
  subst h2
  refine ⟨low.length+1,(rO h3 low.length [] (by omega) (by simpa using h3)).trans ?_⟩
  rw[← hy,List.take_length];rfl
 ·rintro ⟨⟨(v:Int),(m:Int),⟨⟩⟩,⟨⟩⟩ out hw ho
  obtain ⟨hg,ho⟩:=Tr.guard ho
  simp only[zA,zB] at hg
  obtain ⟨h5,h6⟩:=hg
  have h5:(0:Int)≤m:=h5
  have h6:m≤(8:Int):=h6
  cases ho
  refine (AM v m).trans ?_
  unfold pl
  have c1:(decide (([]:LI).length=0)&&(decide ((0:Int)=0)&&(decide ((0:Int)≤m)&&decide (m≤(8:Int)))))=true:=by simp;omega
  have e1:ge ((v,(m,([],(0,())))),())=.ite true (.ret (.ret ((),((m,(dY v m.toNat,())),())))) .no:=congrArg (fun c=>Tr.ite c _ _) c1
  rw[e1]
  show (dR ((dY v m.toNat,([],(i64.wrap (m - 1),()))),())).run _=_
  rw[af (n:=m - 1) (by omega) (by omega)]
  have c2:(decide (([]:LI).length=0)&&(decide (m - 1=((dY v m.toNat).length:Int) - 1)&&decide ((dY v m.toNat).length≤8)))=true:=by
   rw[EC];simp;omega
  have e2:dR ((dY v m.toNat,([],(m - 1,()))),())=.ite true (.ret (.ret ((),(((dY v m.toNat).reverse,()),())))) .no:=congrArg (fun c=>Tr.ite c _ _) c2
  rw[e2,uK]
  rfl
def fF (l:LI):Int:=match l with
 |[]=>0
 |c::l=>l.foldl (fun v c=>v*256+c) (if 128≤c then c - 256 else c)
abbrev xH:Sh:=.dat (.int .u32) false false
def gK (s:Nat):Nat:=if s % 2=1 then (s / 2) ^^^ 2197175160 else s / 2
theorem nQ {s:Nat}(h:s<4294967296):gK s<4294967296:=by
 unfold gK
 split
 ·exact Nat.xor_lt_two_pow (n:=32) (by omega) (by omega)
 ·omega
theorem H4 (a b p:Nat):(a ^^^ p) ^^^ (b ^^^ p)=a ^^^ b:=by
 rw[Nat.xor_assoc,← Nat.xor_assoc p b p,Nat.xor_comm p b,Nat.xor_assoc b p p,Nat.xor_self,Nat.xor_zero]
theorem lB (a b:Nat):gK (a ^^^ b)=gK a ^^^ gK b:=by
 have h1:(a ^^^ b) / 2=a / 2 ^^^ b / 2:=Nat.xor_div_two
 have h2:(a ^^^ b) % 2=1↔¬(a % 2=1↔b % 2=1):=Nat.xor_mod_two_eq_one
 unfold gK
 rw[h1]
 by_cases ha:a % 2=1
 ·by_cases hb:b % 2=1
  ·rw[if_neg (by rw[h2];simp[ha,hb]),if_pos ha,if_pos hb,H4]
  ·rw[if_pos (by rw[h2];simp[ha,hb]),if_pos ha,if_neg hb,Nat.xor_assoc,Nat.xor_comm (b / 2),← Nat.xor_assoc]
 ·by_cases hb:b % 2=1
  ·rw[if_pos (by rw[h2];simp[ha,hb]),if_neg ha,if_pos hb,Nat.xor_assoc]
  ·rw[if_neg (by rw[h2];simp[ha,hb]),if_neg ha,if_neg hb]
theorem lA (m:Nat):gK (2*m)=m:=by
 unfold gK
 rw[if_neg (by omega)]
 omega
def iu (s:Nat):Nat:=gK (gK (gK (gK s)))
theorem EJ (a b:Nat):iu (a ^^^ b)=iu a ^^^ iu b:=by unfold iu;rw[lB,lB,lB,lB]
theorem HS (q:Nat):iu (16*q)=q:=by
 unfold iu
 rw[show 16*q=2*(2*(2*(2*q))) by omega,lA,lA,lA,lA]
theorem nP {s:Nat}(h:s<4294967296):iu s<4294967296:=nQ (nQ (nQ (nQ h)))
theorem JI (s:Nat):s=(16*(s / 16)) ^^^ (s % 16):=by
 refine Nat.eq_of_testBit_eq fun i=>?_
 rw[Nat.testBit_xor,show 16*(s / 16)=2 ^ 4*(s / 2 ^ 4) by rfl,Nat.testBit_two_pow_mul,Nat.testBit_div_two_pow,show s % 16=s % 2 ^ 4 by rfl,Nat.testBit_mod_two_pow]
 by_cases h:4≤i
 ·have h':¬ i<4:=by omega
  simp[h,h',show i - 4+4=i by omega]
 ·have h':i<4:=by omega
  simp[h,h']
theorem HT (s:Nat):iu s=(s / 16) ^^^ iu (s % 16):=by
 conv=>lhs;rw[JI s]
 rw[EJ,HS]
def zc (s:Nat):Nat:=iu (iu s)
theorem zd {s:Nat}(h:s<4294967296):zc s<4294967296:=nP (nP h)
def If:LI→Nat→Nat
 |[],s=>s
 |x::l,s=>If l (zc (s ^^^ x.toNat))
theorem kW {s:Nat}(h:s<4294967296){x:Int}(hx:x≤255):s ^^^ x.toNat<4294967296:=Nat.xor_lt_two_pow (n:=32) h (by omega)
theorem p8:∀{l:LI} {s:Nat},(∀c∈l,0≤c∧c≤255)→s<4294967296→If l s<4294967296
 |[],_,_,h=>h
 |x::l,_,hl,h=>p8 (l:=l) (fun c hc=>hl c (by simp[hc])) (zd (kW h (hl x (by simp)).2))
@[irreducible] def cC (c:Int)(b:LI):Int:=((If b (c.toNat ^^^ 4294967295) ^^^ 4294967295:Nat):Int)
@[irreducible] def iq (b:LI)(s:Int):Int:=((If b s.toNat:Nat):Int)
@[irreducible] def o6 (s:Int):Int:=(gK s.toNat:Int)
def lz:Nat→Int→Int
 |0,s=>s
 |n+1,s=>lz n (o6 s)
theorem sI (s:Nat):o6 (s:Int)=(gK s:Int):=by unfold o6;rw[zG]
theorem HQ (s:Nat):lz 8 (s:Int)=(zc s:Int):=by
 simp only[lz,sI]
 rfl
theorem lC {x y:Nat}(hx:x<4294967296)(hy:y<4294967296):bY .u32 (x:Int) (y:Int)=((x ^^^ y:Nat):Int):=by
 have e1:(BitVec.ofInt 32 (x:Int)).toNat=x:=by rw[BitVec.toNat_ofInt];omega
 have e2:(BitVec.ofInt 32 (y:Int)).toNat=y:=by rw[BitVec.toNat_ofInt];omega
 show IntKind.wrap .u32 ((BitVec.ofInt 32 (x:Int) ^^^ BitVec.ofInt 32 (y:Int)).toNat:Int)=_
 rw[BitVec.toNat_xor,e1,e2]
 have:=Nat.xor_lt_two_pow (n:=32) hx hy
 exact bG (k:=.u32) (by simp[bu,IntKind.min,IntKind.max,IntKind.signed,IntKind.bits];omega)
theorem CN {x:Nat}(hx:x<4294967296):sF .u32 (x:Int)=((x ^^^ 4294967295:Nat):Int):=by
 have:=lC (x:=4294967295) (y:=x) (by omega) hx
 rw[Nat.xor_comm] at this
 exact this
theorem oh {x:Nat}(hx:x<4294967296):dx .u32 (x:Int) 15=((x % 16:Nat):Int):=by
 have e1:(BitVec.ofInt 32 (x:Int)).toNat=x:=by rw[BitVec.toNat_ofInt];omega
 show IntKind.wrap .u32 ((BitVec.ofInt 32 (x:Int) &&& BitVec.ofInt 32 15).toNat:Int)=_
 rw[BitVec.toNat_and,e1,show (BitVec.ofInt 32 15).toNat=2 ^ 4 - 1 by decide,Nat.and_two_pow_sub_one_eq_mod]
 exact bG (k:=.u32) (by simp[bu,IntKind.min,IntKind.max,IntKind.signed,IntKind.bits];omega)
theorem Hx {x:Nat}(hx:x<4294967296):eX .u32 (x:Int) 4=((x / 16:Nat):Int):=by
 show IntKind.wrap .u32 ((x:Int).fdiv (2 ^ 4))=_
 rw[Int.fdiv_eq_ediv_of_nonneg _ (by decide)]
 rw[show (x:Int) / 2 ^ 4=((x / 16:Nat):Int) by omega]
 exact bG (k:=.u32) (by simp[bu,IntKind.min,IntKind.max,IntKind.signed,IntKind.bits];omega)
theorem EM {r:Nat}(h:r<16):dN (r:Int)=(iu r:Int):=
 (show ∀r:Nat,r<16→dN (r:Int)=(iu r:Int) by decide +kernel) r h
theorem vo {b:LI}(h:Ty.wf bs b):∀c∈b,0≤c∧c≤255:=fun c hc=>by
 have:=h.2 c hc
 simpa [Ty.wf,bu,IntKind.min,IntKind.max,IntKind.signed,IntKind.bits] using this
theorem oe {s:Int}(h:bu .u32 s):∃n:Nat,s=(n:Int)∧n<4294967296:=by
 simp[bu,IntKind.min,IntKind.max,IntKind.signed,IntKind.bits] at h
 exact ⟨s.toNat,by omega,by omega⟩
theorem zf {s:Nat}(hs:s<4294967296):bY .u32 (eX .u32 (s:Int) 4) (dN (dx .u32 (s:Int) 15))=(iu s:Int):=by
 have hr:s % 16<16:=by omega
 rw[oh hs,Hx hs,EM hr,lC (by omega) (nP (by omega)),← HT]
abbrev gl:Io:=⟨[xH],[],[],[xH],none⟩
def uR (d:gl.In):Tr gl.Res:=.ret (.ret ((o6 d.1.1,()),()))
abbrev xr:List (Nat×Hc):=[]
def FQ:Hd:=b8 xr
def yr:Lp:=cp []
def qQ (a0:Int):Option gl.Res:=bif u32.wrap (a0.tmod 2) == 1 then oR ((bY u32 (u32.wrap (a0.tdiv 2)) 2197175160,()),()) else oR ((u32.wrap (a0.tdiv 2),()),())
theorem D4 (a0:Int):Io.run tt FQ dr yr gl Tryd.f111 ((a0,()),())=qQ a0:=by kernel_rfl
theorem Gy:HcOk prog 111 (ah gl uR):=by
 refine cx (cs:=xr) HcsOk.nil (lp:=yr) (fn:=Tryd.f111) gl (.done (by kernel_rfl)) uR ?_
 rintro ⟨⟨(s:Int),⟨⟩⟩,⟨⟩⟩ out hw ho
 cases ho
 refine (D4 s).trans ?_
 unfold qQ
 obtain ⟨n,rfl,hn⟩:=oe hw.1.1
 have e1:u32.wrap ((n:Int).tmod 2)=((n % 2:Nat):Int):=by
  rw[Int.tmod_eq_emod_of_nonneg (by omega)]
  exact (bG (k:=.u32) (by simp[bu,IntKind.min,IntKind.max,IntKind.signed,IntKind.bits];omega)).trans (by omega)
 have e2:u32.wrap ((n:Int).tdiv 2)=((n / 2:Nat):Int):=by
  rw[Int.tdiv_eq_ediv_of_nonneg (by omega)]
  exact (bG (k:=.u32) (by simp[bu,IntKind.min,IntKind.max,IntKind.signed,IntKind.bits];omega)).trans (by omega)
 show _=oR ((o6 (n:Int),()),())
 rw[e1,e2,sI]
 unfold gK
 by_cases h:n % 2=1
 ·refine bT (by rw[h];rfl) ?_
  rw[if_pos h,← lC (by omega) (by omega)]
  rfl
 ·refine bF (by simp;omega) ?_
  rw[if_neg h]
abbrev jo:Io:=⟨[xH,dL],[],[],[xH],none⟩
def zt (d:jo.In):Tr jo.Res:=.ret (.ret ((cC d.1.1 d.1.2.1,()),()))
abbrev BA:List (Nat×Hc):=[(111,ah gl uR)]
def vA:Hd:=b8 BA
abbrev dh:Lo:=⟨⟨(.any::.one (.hol (.sl 5 (Ty.int u8)))::.any::bN (.one (.hol (.int u32))::.one hI::.one hI::.any::ai (b9 (bN [])))),[]⟩,[(.exit 2,⟨(.any::.one (.hol (.sl 5 (Ty.int u8)))::.any::bN (.one (.hol (.int u32))::.one hI::ai (dZ []))),[]⟩)]⟩
abbrev dg:Lo:=⟨⟨(.any::.one (.hol (.sl 5 (Ty.int u8)))::.any::bN (.one (.hol (.int u32))::.one hI::ai (dZ []))),[]⟩,[(.exit 0,⟨(.any::b9 (.one (.hol (.int u32))::.any::ai (dZ []))),[]⟩)]⟩
def ka (d:dh.st.den):Tr (am dh.xs):=.ite (decide (d.1.2.2.2.1=0)) (.ret (.ret ((),((d.1.1,(lz 8 d.1.2.1,(d.1.2.2.1,()))),())))) .no
def j9 (d:dg.st.den):Tr (am dg.xs):=.ite (decide (d.1.2.2.1=0)) (.ret (.ret ((),((iq d.1.1 d.1.2.1,()),())))) .no
def lg:Lp:=cp [(4,aC dg j9),(8,aC dh ka)]
def pI {R:Type}(h5:LI)(h6 h7 h8:Int)(next:LI→Int→Int→Int→Option R)(out:am dh.xs→Option R):Option R:=bif decide (h8<8) then next (h5) (o6 h6) (h7) (i64.wrap (h8+1)) else out (.ret ((),((h5,(h6,(h7,()))),())))
def oK (n:Nat)(h5:LI)(h6 h7 h8:Int):Option (am dh.xs):=gO tt vA dr lg 0 Tryd.f88 (EL Tryd.f88 (ct Tryd.f88 0) 0) n (dh.st.mk' ((h5,(h6,(h7,(h8,())))),())) (bE dh.xs)
theorem Eq (n:Nat)(h5:LI)(h6 h7 h8:Int):oK (n+1) h5 h6 h7 h8=pI h5 h6 h7 h8 (oK n) some:=by kernel_rfl
def pH {R:Type}(h2:LI)(h3 h4:Int)(next:LI→Int→Int→Option R)(out:am dg.xs→Option R):Option R:=bif decide (h4<(↑h2.length:Int)) then bif decide (0≤h4)&&decide (h4<(↑h2.length:Int)) then (ka ((h2,(bY u32 h3 (u32.wrap (h2.getD h4.toNat 0)),(h4,(0,())))),())).run fun y=>match y with | .ret ((),((x16,x17,x18,()),()))=>(next (x16) (x17) (i64.wrap (x18+1))) else none else out (.ret ((),((h3,()),())))
def ld (n:Nat)(h2:LI)(h3 h4:Int):Option (am dg.xs):=gO tt vA dr lg 0 Tryd.f88 (ct Tryd.f88 0) n (dg.st.mk' ((h2,(h3,(h4,()))),())) (bE dg.xs)
theorem Ep (n:Nat)(h2:LI)(h3 h4:Int):ld (n+1) h2 h3 h4=pH h2 h3 h4 (ld n) some:=by kernel_rfl
theorem yj (b:LI)(i:Int):∀(k j:Nat) (s:Int),8<j+k→j≤8→oK k b s i j=some (.ret ((),((b,(lz (8 - j) s,(i,()))),()))):=by
 intro k
 induction k with
 |zero=>intro j s h;omega
 |succ k ih=>
  intro j s h1 h2
  rw[Eq]
  unfold pI
  by_cases hj:j<8
  ·refine bT (by simp;omega) ?_
   rw[af (n:=(j:Int)+1) (by omega) (by omega),show (8 - j)=(8 - (j+1))+1 by omega]
   exact ih (j+1) _ (by omega) (by omega)
  ·refine bF (by simp;omega) ?_
   rw[show 8 - j=0 by omega]
   rfl
theorem sH {b:LI}(hb:∀c∈b,0≤c∧c≤255){i:Nat}(h:i<b.length){n:Nat}(hn:n<4294967296):iq (b.drop i) (n:Int)=iq (b.drop (i+1)) ((zc (n ^^^ (b[i]).toNat):Nat):Int)∧zc (n ^^^ (b[i]).toNat)<4294967296:=by
 refine ⟨?_,zd (kW hn (hb b[i] (List.getElem_mem h)).2)⟩
 rw[zE h]
 unfold iq
 rw[zG,zG]
 rfl
theorem H5 {b:LI}(hb:∀c∈b,0≤c∧c≤255){i:Nat}(h:i<b.length){n:Nat}(hn:n<4294967296):bY .u32 (n:Int) (u32.wrap (List.getD b (i:Int).toNat 0))=((n ^^^ (b[i]).toNat:Nat):Int):=by
 have hc:=hb b[i] (List.getElem_mem h)
 have e:List.getD b (i:Int).toNat 0=((b[i].toNat:Nat):Int):=by
  rw[zG,aA h]
  omega
 rw[e,bG (k:=.u32) (by simp[bu,IntKind.min,IntKind.max,IntKind.signed,IntKind.bits];omega)]
 exact lC hn (by omega)
theorem yi {b:LI}(hb:∀c∈b,0≤c∧c≤255)(hl:b.length≤maxLen):∀(k i n:Nat),b.length<i+k→i≤b.length→n<4294967296→ld k b n i=some (.ret ((),((iq (b.drop i) n,()),()))):=by
 intro k
 induction k with
 |zero=>intro i n h;omega
 |succ k ih=>
  intro i n h1 h2 h3
  rw[Ep]
  unfold pH
  by_cases hi:i<b.length
  ·refine bT (by simpa using hi) ?_
   refine bT (by simpa using hi) ?_
   obtain ⟨e1,e2⟩:=sH hb hi h3
   rw[H5 hb hi h3,e1]
   unfold ka
   refine bT (by simp) ?_
   show ld k b (lz 8 _) (i64.wrap ((i:Int)+1))=_
   rw[HQ,bH hi hl]
   exact ih (i+1) _ (by omega) (by omega) e2
  ·refine bF (by simp;omega) ?_
   rw[zI (by omega)]
   unfold iq
   rw[zG]
   rfl
theorem HG {c:Nat}(hc:c<4294967296){b:LI}(hb:∀x∈b,0≤x∧x≤255):bY .u32 (iq b ((c ^^^ 4294967295:Nat):Int)) 4294967295=cC (c:Int) b:=by
 have h1:=Nat.xor_lt_two_pow (n:=32) hc (show 4294967295<2 ^ 32 by decide)
 have h2:=p8 hb h1
 unfold iq cC
 rw[zG,zG]
 exact lC h2 (by decide)
def tu (a0:Int)(a1:LI):Option jo.Res:=(j9 ((a1,(bY u32 a0 4294967295,(0,()))),())).run fun y=>match y with | .ret ((),((x23,()),()))=>(oR ((bY u32 x23 4294967295,()),()))
theorem GX (a0:Int)(a1:LI):Io.run tt vA dr lg jo Tryd.f88 ((a0,a1,()),())=tu a0 a1:=by kernel_rfl
theorem oA:HcsOk prog BA:=.cons Gy .nil
theorem IY:HcOk prog 88 (ah jo zt):=by
 refine cx oA (lp:=lg) (fn:=Tryd.f88) jo (.step (h0:=aC dg j9) (by kernel_rfl) (iB oA (lp:=lg) (fn:=Tryd.f88) (.step (h0:=aC dh ka) (by kernel_rfl) (iB oA (lp:=lg) (fn:=Tryd.f88) (.done (by kernel_rfl)) dh ka ?_) (.done (by kernel_rfl))) dg j9 ?_) (.done (by kernel_rfl))) zt ?_
 ·rintro ⟨⟨(b:LI),(s:Int),(i:Int),(j:Int),⟨⟩⟩,⟨⟩⟩ y hw hy
  obtain ⟨hg,hy⟩:=Tr.guard hy
  have hg:j=0:=by simpa using hg
  subst hg
  refine ⟨9,(yj b i 9 0 s (by omega) (by omega)).trans ?_⟩
  rw[← hy];rfl
 ·rintro ⟨⟨(b:LI),(s:Int),(i:Int),⟨⟩⟩,⟨⟩⟩ y hw hy
  obtain ⟨hg,hy⟩:=Tr.guard hy
  have hg:i=0:=by simpa using hg
  subst hg
  obtain ⟨n,rfl,hn⟩:=oe hw.1.2.1
  refine ⟨b.length+1,(yi (vo hw.1.1) hw.1.1.1 (b.length+1) 0 n (show b.length<0+(b.length+1) by omega) (Nat.zero_le _) hn).trans ?_⟩
  rw[← hy];rfl
 ·rintro ⟨⟨(c:Int),(b:LI),⟨⟩⟩,⟨⟩⟩ out hw ho
  cases ho
  refine (GX c b).trans ?_
  obtain ⟨n,rfl,hn⟩:=oe hw.1.1
  unfold tu j9
  refine bT (by simp) ?_
  show oR ((bY .u32 (iq b (bY .u32 (n:Int) 4294967295)) 4294967295,()),())=oR ((cC (n:Int) b,()),())
  rw[show (4294967295:Int)=((4294967295:Nat):Int) from rfl,lC hn (by decide),show ((4294967295:Nat):Int)=4294967295 from rfl,HG hn (vo hw.1.2.1)]
abbrev gk:Io:=⟨[dL],[],[],[xH],none⟩
def uQ (d:gk.In):Tr gk.Res:=.ret (.ret ((cC 0 d.1.1,()),()))
abbrev xq:List (Nat×Hc):=[(88,ah jo zt)]
def FP:Hd:=b8 xq
def yq:Lp:=cp []
def Ag (a0:LI):Option gk.Res:=oR ((cC 0 a0,()),())
theorem D3 (a0:LI):Io.run tt FP dr yq gk Tryd.f63 ((a0,()),())=Ag a0:=by kernel_rfl
theorem Gx:HcOk prog 63 (ah gk uQ):=by
 refine cx (cs:=xq) (.cons IY .nil) (lp:=yq) (fn:=Tryd.f63) gk (.done (by kernel_rfl)) uQ ?_
 rintro ⟨⟨(b:LI),⟨⟩⟩,⟨⟩⟩ out hw ho
 cases ho
 exact D3 b
abbrev mb:Io:=⟨[xH,dL],[],[],[xH],none⟩
def ET (d:mb.In):Tr mb.Res:=.ret (.ret ((cC d.1.1 d.1.2.1,()),()))
abbrev Al:List (Nat×Hc):=[]
def FR:Hd:=b8 Al
abbrev ew:Lo:=⟨⟨(.any::b9 (.one (.hol (.int u32))::b9 (.one (.hol (.sl 5 (Ty.int u8)))::.one hI::.one hI::ai (dZ [])))),[]⟩,[(.exit 0,⟨(.any::b9 (.one (.hol (.int u32))::.any::ai (dZ (b9 (bN []))))),[]⟩)]⟩
def mN (d:ew.st.den):Tr (am ew.xs):=.ite (decide (d.1.2.2.2.1=0)&&decide (d.1.2.2.1=(d.1.2.1.length:Int))) (.ret (.ret ((),((iq d.1.2.1 d.1.1,()),())))) .no
def v6:Lp:=cp [(4,aC ew mN)]
def sO {R:Type}(h2:Int)(h3:LI)(h4 h5:Int)(next:Int→LI→Int→Int→Option R)(out:am ew.xs→Option R):Option R:=bif decide (h5<h4) then bif decide (0≤h5)&&decide (h5<(↑h3.length:Int)) then bif decide (0≤dx u32 (bY u32 h2 (u32.wrap (h3.getD h5.toNat 0))) 15)&&decide (dx u32 (bY u32 h2 (u32.wrap (h3.getD h5.toNat 0))) 15<(↑16:Int)) then bif decide (0≤dx u32 (bY u32 (eX u32 (bY u32 h2 (u32.wrap (h3.getD h5.toNat 0))) 4) (dN (dx u32 (bY u32 h2 (u32.wrap (h3.getD h5.toNat 0))) 15))) 15)&&decide (dx u32 (bY u32 (eX u32 (bY u32 h2 (u32.wrap (h3.getD h5.toNat 0))) 4) (dN (dx u32 (bY u32 h2 (u32.wrap (h3.getD h5.toNat 0))) 15))) 15<(↑16:Int)) then next (bY u32 (eX u32 (bY u32 (eX u32 (bY u32 h2 (u32.wrap (h3.getD h5.toNat 0))) 4) (dN (dx u32 (bY u32 h2 (u32.wrap (h3.getD h5.toNat 0))) 15))) 4) (dN (dx u32 (bY u32 (eX u32 (bY u32 h2 (u32.wrap (h3.getD h5.toNat 0))) 4) (dN (dx u32 (bY u32 h2 (u32.wrap (h3.getD h5.toNat 0))) 15))) 15))) (h3) (h4) (i64.wrap (h5+1)) else none else none else none else out (.ret ((),((h2,()),())))
def rK (n:Nat)(h2:Int)(h3:LI)(h4 h5:Int):Option (am ew.xs):=gO tt FR dr v6 0 Tryd.f72 (ct Tryd.f72 0) n (ew.st.mk' ((h2,(h3,(h4,(h5,())))),())) (bE ew.xs)
theorem HB (n:Nat)(h2:Int)(h3:LI)(h4 h5:Int):rK (n+1) h2 h3 h4 h5=sO h2 h3 h4 h5 (rK n) some:=by kernel_rfl
theorem Ax {b:LI}(hb:∀c∈b,0≤c∧c≤255)(hl:b.length≤maxLen):∀(k i n:Nat),b.length<i+k→i≤b.length→n<4294967296→rK k n b (b.length:Int) i=some (.ret ((),((iq (b.drop i) n,()),()))):=by
 intro k
 induction k with
 |zero=>intro i n h;omega
 |succ k ih=>
  intro i n h1 h2 h3
  rw[HB]
  unfold sO
  by_cases hi:i<b.length
  ·refine bT (by simpa using hi) ?_
   refine bT (by simpa using hi) ?_
   obtain ⟨e1,e2⟩:=sH hb hi h3
   have h4:=kW h3 (hb b[i] (List.getElem_mem hi)).2
   have h5:=nP h4
   rw[H5 hb hi h3,e1]
   refine (aa ?_ _ _).trans ?_
   ·rw[oh h4];simp;omega
   rw[zf h4]
   refine (aa ?_ _ _).trans ?_
   ·rw[oh h5];simp;omega
   rw[zf h5,bH hi hl]
   exact ih (i+1) _ (by omega) (by omega) e2
  ·refine bF (by simp;omega) ?_
   rw[zI (by omega)]
   unfold iq
   rw[zG]
   rfl
def w8 (a0:Int)(a1:LI):Option mb.Res:=(mN ((sF u32 a0,(a1,((↑a1.length:Int),(0,())))),())).run fun y=>match y with | .ret ((),((x11,()),()))=>(oR ((sF u32 x11,()),()))
theorem Jp (a0:Int)(a1:LI):Io.run tt FR dr v6 mb Tryd.f72 ((a0,a1,()),())=w8 a0 a1:=by kernel_rfl
theorem Kp:HcOk prog 72 (ah mb ET):=by
 refine cx (cs:=Al) HcsOk.nil (lp:=v6) (fn:=Tryd.f72) mb (.step (h0:=aC ew mN) (by kernel_rfl) (iB (cs:=Al) HcsOk.nil (lp:=v6) (fn:=Tryd.f72) (.done (by kernel_rfl)) ew mN ?_) (.done (by kernel_rfl))) ET ?_
 ·rintro ⟨⟨(s:Int),(b:LI),(m:Int),(i:Int),⟨⟩⟩,⟨⟩⟩ y hw hy
  obtain ⟨hg,hy⟩:=Tr.guard hy
  simp only[zA,zB] at hg
  obtain ⟨rfl,rfl⟩:=hg
  obtain ⟨n,rfl,hn⟩:=oe hw.1.1
  refine ⟨b.length+1,(Ax (vo hw.1.2.1) hw.1.2.1.1 (b.length+1) 0 n (show b.length<0+(b.length+1) by omega) (Nat.zero_le _) hn).trans ?_⟩
  rw[← hy];rfl
 ·rintro ⟨⟨(c:Int),(b:LI),⟨⟩⟩,⟨⟩⟩ out hw ho
  cases ho
  refine (Jp c b).trans ?_
  obtain ⟨n,rfl,hn⟩:=oe hw.1.1
  unfold w8 mN
  refine bT (by simp) ?_
  show oR ((sF .u32 (iq b (sF .u32 (n:Int))),()),())=oR ((cC (n:Int) b,()),())
  have h1:=Nat.xor_lt_two_pow (n:=32) hn (show 4294967295<2 ^ 32 by decide)
  have h2:=p8 (vo hw.1.2.1) h1
  rw[CN hn]
  unfold iq cC
  rw[zG,zG,CN h2]
def sy:List (LI)→Int→Int
 |[],c=>c
 |p::ps,c=>sy ps (cC c p)
abbrev jp:Io:=⟨[.dat (.sl 22 bs) false false],[],[],[xH],none⟩
def zu (d:jp.In):Tr jp.Res:=.ret (.ret ((sy d.1.1 0,()),()))
abbrev BB:List (Nat×Hc):=[(72,ah mb ET)]
def B9:Hd:=b8 BB
abbrev di:Lo:=⟨⟨(.any::bN (.one (.hol (.int u32))::bN (.one (.hol (.sl 22 (Ty.sl 5 (Ty.int u8))))::.one hI::.one hI::dZ []))),[]⟩,[(.exit 0,⟨(.any::bN (.one (.hol (.int u32))::.any::dZ (b9 []))),[]⟩)]⟩
def kc (d:di.st.den):Tr (am di.xs):=.ite (decide (d.1.2.2.2.1=0)&&decide (d.1.2.2.1=(d.1.2.1.length:Int))) (.ret (.ret ((),((sy d.1.2.1 d.1.1,()),())))) .no
def qi:Lp:=cp [(4,aC di kc)]
def pJ {R:Type}(h1:Int)(h2:List bs.den)(h3 h4:Int)(next:Int→List bs.den→Int→Int→Option R)(out:am di.xs→Option R):Option R:=bif decide (h4<h3) then bif decide (0≤h4)&&decide (h4<(↑h2.length:Int)) then next (cC h1 (h2.getD h4.toNat [])) (h2) (h3) (i64.wrap (h4+1)) else none else out (.ret ((),((h1,()),())))
def oL (n:Nat)(h1:Int)(h2:List bs.den)(h3 h4:Int):Option (am di.xs):=gO tt B9 dr qi 0 Tryd.f52 (ct Tryd.f52 0) n (di.st.mk' ((h1,(h2,(h3,(h4,())))),())) (bE di.xs)
theorem Er (n:Nat)(h1:Int)(h2:List bs.den)(h3 h4:Int):oL (n+1) h1 h2 h3 h4=pJ h1 h2 h3 h4 (oL n) some:=by kernel_rfl
theorem yk (ps:List (LI))(hl:ps.length≤maxLen):∀(k i:Nat) (c:Int),ps.length<i+k→i≤ps.length→oL k c ps (ps.length:Int) i=some (.ret ((),((sy (ps.drop i) c,()),()))):=by
 intro k
 induction k with
 |zero=>intro i c h;omega
 |succ k ih=>
  intro i c h1 h2
  rw[Er]
  unfold pJ
  by_cases hi:i<ps.length
  ·refine bT (by simpa using hi) ?_
   refine bT (by simpa using hi) ?_
   have e:List.getD ps (i:Int).toNat []=ps[i]:=by simp only[zG,aA hi]
   rw[e,bH hi hl,zE hi]
   exact ih (i+1) _ (by omega) (by omega)
  ·refine bF (by simp;omega) ?_
   rw[zI (by omega)]
   rfl
def tv (a0:List bs.den):Option jp.Res:=(kc ((0,(a0,((↑a0.length:Int),(0,())))),())).run fun y=>match y with | .ret ((),((x10,()),()))=>(oR ((x10,()),()))
theorem GY (a0:List bs.den):Io.run tt B9 dr qi jp Tryd.f52 ((a0,()),())=tv a0:=by kernel_rfl
theorem ul:HcsOk prog BB:=.cons Kp .nil
theorem IZ:HcOk prog 52 (ah jp zu):=by
 refine cx ul (lp:=qi) (fn:=Tryd.f52) jp (.step (h0:=aC di kc) (by kernel_rfl) (iB ul (lp:=qi) (fn:=Tryd.f52) (.done (by kernel_rfl)) di kc ?_) (.done (by kernel_rfl))) zu ?_
 ·rintro ⟨⟨(c:Int),(ps:List (LI)),(m:Int),(i:Int),⟨⟩⟩,⟨⟩⟩ y hw hy
  obtain ⟨hg,hy⟩:=Tr.guard hy
  simp only[zA,zB] at hg
  obtain ⟨rfl,rfl⟩:=hg
  refine ⟨ps.length+1,(yk ps hw.1.2.1.1 (ps.length+1) 0 c (by omega) (by omega)).trans ?_⟩
  rw[← hy];rfl
 ·rintro ⟨⟨(ps:List (LI)),⟨⟩⟩,⟨⟩⟩ out hw ho
  cases ho
  refine (GY ps).trans ?_
  unfold tv kc
  refine bT (by simp) ?_
  rfl
abbrev dc:Ty:=.prod bs (.prod (.int .i64) (.prod (.int .i64) .unit))
abbrev Dx:Sh:=.dat dc true false
abbrev fJ:Type:=LI×Int×Int×Unit
def lx:fJ:=([],0,0,())
def bd (b:LI):fJ×Int×Int:=
 if b.getD 0 0<128 then (if (b.length:Int)<b.getD 0 0+2 then (lx,0,1) else (((b.drop 1).take (b.getD 0 0+1).toNat,0,0,()),b.getD 0 0+2,0))
 else if (b.length:Int)<3 then (lx,0,1)
 else if b.getD 1 0*256+b.getD 2 0<1∨4096<b.getD 1 0*256+b.getD 2 0 then (lx,0,50)
 else (([],b.getD 1 0*256+b.getD 2 0,b.getD 0 0 - 124,()),3,0)
def j1 (t:fJ):Bool:=if t.2.1≠0 then true else decide (t.2.2.1≠0)
def im (t:fJ):Bool:=
 if j1 t=true then decide (0<t.1.length) || (decide (t.2.1<1) || (decide (4096<t.2.1) || (decide (t.2.2.1<4) || decide (131<t.2.2.1))))
 else decide (t.1.length<1) || decide (128<t.1.length)
def cR (d:Nat):Nat→LI→LI
 |0,out=>out
 |n+1,out=>cR d n (out++[out.getD (out.length - d) 0])
def bw (out:LI)(t:fJ)(most:Int):LI×Int:=
 if im t=true∨(out.length:Int)<t.2.1 then ([],50)
 else if most<(out.length:Int)+t.1.length+t.2.2.1 then ([],4)
 else (cR t.2.1.toNat t.2.2.1.toNat (out++t.1),0)
def bX:Nat→LI→LI→Int→LI×Int
 |0,_,out,_=>(out,0)
 |k+1,b,out,m=>
  if b=[] then (out,0)
  else if (bd b).2.2≠0 then ([],(bd b).2.2)
  else if (bw out (bd b).1 m).2≠0 then ([],(bw out (bd b).1 m).2)
  else bX k (b.drop (bd b).2.1.toNat) (bw out (bd b).1 m).1 m
def aV (m:Int):Int:=pC (cz m 0) 32768
def aE (b:LI)(most:Int):LI×Int:=if b=[] then ([],0) else bX (b.length+1) b [] (aV most)
theorem HM {b:LI}(hb:∀c∈b,0≤c∧c≤255)(h:(bd b).2.2=0)(hne:b≠[]):2≤(bd b).2.1∧(bd b).2.1≤b.length:=by
 have h0:0≤b.getD 0 0:=by
  cases b with
  |nil=>exact absurd rfl hne
  |cons x l=>exact (hb x (by simp)).1
 unfold bd at h ⊢
 split
 ·rename_i h1
  rw[if_pos h1] at h
  split
  ·rename_i h2;rw[if_pos h2] at h;cases h
  ·simp only;omega
 ·rename_i h1
  rw[if_neg h1] at h
  split
  ·rename_i h2;rw[if_pos h2] at h;cases h
  ·rename_i h2
   rw[if_neg h2] at h
   split
   ·rename_i h3;rw[if_pos h3] at h;cases h
   ·simp only;omega
theorem Bu {b:LI}(h:Ty.wf bs b)(i:Nat):0≤b.getD i 0∧b.getD i 0≤255:=by
 rw[List.getD_eq_getElem?_getD]
 cases e:b[i]? with
 |none=>exact ⟨by decide,by decide⟩
 |some x=>exact d7 h x (List.mem_of_getElem? e)
theorem KF {v c:Int}(h0:0≤v)(h1:v≤255)(h2:0≤c)(h3:c≤255):lE .i64 (eV .i64 v 8) c=v*256+c:=by
 have e1:eV .i64 v 8=v*256:=by
  show IntKind.wrap .i64 (v*2 ^ 8)=_
  rw[show v*2 ^ 8=v*256 by omega]
  exact af (by omega) (by omega)
 rw[e1]
 obtain ⟨v,rfl⟩:=au h0
 obtain ⟨c,rfl⟩:=au h2
 have e4:=Nat.two_pow_add_eq_or_of_lt (show c<2 ^ 8 by omega) v
 show IntKind.wrap .i64 ((BitVec.ofInt 64 ((v:Int)*256) ||| BitVec.ofInt 64 (c:Int)).toNat:Int)=_
 have e2:(BitVec.ofInt 64 (c:Int)).toNat=c:=by rw[BitVec.toNat_ofInt];omega
 have e3:(BitVec.ofInt 64 ((v:Int)*256)).toNat=2 ^ 8*v:=by rw[BitVec.toNat_ofInt];omega
 rw[BitVec.toNat_or,e2,e3,← e4]
 rw[af (by omega) (by omega)]
 omega
theorem F5 {lit:LI}{d len:Int}(h:im (lit,d,len,())=false):(0≤len∧len≤131∧lit.length≤128)∧(len=0∧d=0∧1≤lit.length∨lit.length=0∧1≤d∧d≤4096∧4≤len):=by
 have e:im (lit,d,len,())=if j1 (lit,d,len,())=true then decide (0<lit.length) || (decide (d<1) || (decide (4096<d) || (decide (len<4) || decide (131<len)))) else decide (lit.length<1) || decide (128<lit.length):=rfl
 have e2:j1 (lit,d,len,())=if d≠0 then true else decide (len≠0):=rfl
 rw[e] at h
 split at h
 ·simp only[Bool.or_eq_false_iff,decide_eq_false_iff_not] at h
  omega
 ·rename_i h2
  rw[e2] at h2
  simp only[Bool.or_eq_false_iff,decide_eq_false_iff_not] at h
  split at h2
  ·exact absurd rfl h2
  ·rename_i h3
   simp only[zB] at h2
   omega
theorem jU (d:Nat):∀(n:Nat) (out:LI),(cR d n out).length=out.length+n
 |0,_=>rfl
 |n+1,out=>by rw[cR,jU d n];simp;omega
theorem ED (b:LI):(bd b).1.1.length≤b.length:=by
 unfold bd
 split
 ·split
  ·simp[lx]
  ·simp;omega
 ·split
  ·simp[lx]
  ·split
   ·simp[lx]
   ·simp
theorem sr (m:Int):0≤aV m∧aV m≤32768:=by
 unfold aV pC cz
 split <;> split <;> omega
theorem su {out:LI}{t:fJ}{m:Int}(h:(bw out t m).2=0):((bw out t m).1.length:Int)≤m:=by
 obtain ⟨lit,d,len,⟨⟩⟩:=t
 unfold bw at h ⊢
 split
 ·rename_i h1;rw[if_pos h1] at h;cases h
 ·rename_i h1
  rw[if_neg h1] at h
  have hi:im (lit,d,len,())=false:=by
   cases e:im (lit,d,len,()) with
   |false=>rfl
   |true=>exact absurd (.inl e) h1
  obtain ⟨i1,i2⟩:=F5 hi
  split
  ·rename_i h2;rw[if_pos h2] at h;cases h
  ·rename_i h2
   have h2:¬ m<(out.length:Int)+lit.length+len:=h2
   show ((cR d.toNat len.toNat (out++lit)).length:Int)≤m
   rw[jU,zH]
   omega
theorem mF:∀(k:Nat) (b out:LI) (m:Int),(bX k b out m).2≠0→(bX k b out m).1=[]
 |0,_,_,_,h=>absurd rfl h
 |k+1,b,out,m,h=>by
  unfold bX at h ⊢
  split
  ·rename_i h1;rw[if_pos h1] at h;exact absurd rfl h
  ·rename_i h1
   rw[if_neg h1] at h
   split
   ·rfl
   ·rename_i h2
    rw[if_neg h2] at h
    split
    ·rfl
    ·rename_i h3
     rw[if_neg h3] at h
     exact mF k _ _ _ h
theorem uH:∀(k:Nat) (b out:LI) (m:Int),(out.length:Int)≤m→((bX k b out m).1.length:Int)≤m
 |0,_,_,_,h=>h
 |k+1,b,out,m,h=>by
  have h0:((([]:LI),(0:Int)).1.length:Int)≤m:=by simp;omega
  unfold bX
  split
  ·exact h
  ·split
   ·simp;omega
   ·split
    ·simp;omega
    ·rename_i h3
     exact uH k _ _ _ (su (by simpa using h3))
theorem fD (b:LI)(m:Int):aE b m=bX (b.length+1) b [] (aV m):=by
 unfold aE
 split
 ·rename_i h
  subst h
  rfl
 ·rfl
def ci (b:LI):LI×Int:=
 if (ab 10 1 b 0).2.2≠0 then ([],(ab 10 1 b 0).2.2)
 else if al (ab 10 1 b 0).1<0 then ([],5)
 else if 32768<al (ab 10 1 b 0).1 then ([],4)
 else if (aE (b.drop (ab 10 1 b 0).2.1.toNat) (al (ab 10 1 b 0).1)).2=4∨(aE (b.drop (ab 10 1 b 0).2.1.toNat) (al (ab 10 1 b 0).1)).2=0∧((aE (b.drop (ab 10 1 b 0).2.1.toNat) (al (ab 10 1 b 0).1)).1.length:Int)<al (ab 10 1 b 0).1 then ([],60)
 else if (aE (b.drop (ab 10 1 b 0).2.1.toNat) (al (ab 10 1 b 0).1)).2≠0 then ([],(aE (b.drop (ab 10 1 b 0).2.1.toNat) (al (ab 10 1 b 0).1)).2)
 else ((aE (b.drop (ab 10 1 b 0).2.1.toNat) (al (ab 10 1 b 0).1)).1,0)
abbrev jB:Io:=⟨[Dx],[],[],[dB],none⟩
def zT (d:jB.In):Tr jB.Res:=.ret (.ret ((j1 d.1.1,()),()))
abbrev BR:List (Nat×Hc):=[]
def IF:Hd:=b8 BR
def CD:Lp:=cp []
def tO (a0:LI)(a1 a2:Int):Option jB.Res:=bif a1 != 0 then oR ((true,()),()) else oR ((a2 != 0,()),())
theorem Hn (a0:LI)(a1 a2:Int):Io.run tt IF dr CD jB Tryd.f129 (((a0,a1,a2,()),()),())=tO a0 a1 a2:=by kernel_rfl
theorem Jc:HcOk prog 129 (ah jB zT):=by
 refine cx (cs:=BR) HcsOk.nil (lp:=CD) (fn:=Tryd.f129) jB (.done (by kernel_rfl)) zT ?_
 rintro ⟨⟨⟨(a0:LI),(a1:Int),(a2:Int),⟨⟩⟩,⟨⟩⟩,⟨⟩⟩ out hw ho
 cases ho
 refine (Hn a0 a1 a2).trans ?_
 show _=oR ((j1 (a0,a1,a2,()),()),())
 unfold tO
 show _=oR (((if a1≠0 then true else decide (a2≠0)),()),())
 by_cases h1:a1=0
 ·refine bF (by simp[h1]) ?_
  rw[if_neg (by simp[h1])]
  by_cases h2:a2=0 <;> simp[h2]
 ·refine bT (by simp[h1]) ?_
  rw[if_pos h1]
abbrev ic:Io:=⟨[Dx],[],[],[dB],none⟩
def vi (d:ic.In):Tr ic.Res:=.ret (.ret ((im d.1.1,()),()))
abbrev BT:List (Nat×Hc):=[(129,ah jB zT)]
def IG:Hd:=b8 BT
def CE:Lp:=cp []
def tQ (a0:LI)(a1 a2:Int):Option ic.Res:=bif !j1 (a0,a1,a2,()) then bif decide ((↑a0.length:Int)<1) then oR ((true,()),()) else oR ((decide (128<(↑a0.length:Int)),()),()) else bif decide (0<(↑a0.length:Int)) then oR ((true,()),()) else bif decide (a1<1) then oR ((true,()),()) else bif decide (4096<a1) then oR ((true,()),()) else bif decide (a2<4) then oR ((true,()),()) else oR ((decide (131<a2),()),())
theorem Hp (a0:LI)(a1 a2:Int):Io.run tt IG dr CE ic Tryd.f119 (((a0,a1,a2,()),()),())=tQ a0 a1 a2:=by kernel_rfl
theorem CU:HcOk prog 119 (ah ic vi):=by
 refine cx (cs:=BT) (.cons Jc .nil) (lp:=CE) (fn:=Tryd.f119) ic (.done (by kernel_rfl)) vi ?_
 rintro ⟨⟨⟨(a0:LI),(a1:Int),(a2:Int),⟨⟩⟩,⟨⟩⟩,⟨⟩⟩ out hw ho
 cases ho
 refine (Hp a0 a1 a2).trans ?_
 show _=oR ((im (a0,a1,a2,()),()),())
 unfold tQ
 have e:im (a0,a1,a2,())=if j1 (a0,a1,a2,())=true then decide (0<a0.length) || (decide (a1<1) || (decide (4096<a1) || (decide (a2<4) || decide (131<a2)))) else decide (a0.length<1) || decide (128<a0.length):=rfl
 rw[e]
 cases j1 (a0,a1,a2,()) with
 |false=>
  refine (aa rfl _ _).trans ?_
  rw[if_neg (by decide)]
  by_cases h:a0.length<1
  ·refine bT (by simp;omega) ?_
   simp[h]
  ·refine bF (decide_eq_false (show ¬((a0.length:Int)<1) by omega)) ?_
   have e2:decide (128<(a0.length:Int))=decide (128<a0.length):=by by_cases h2:128<a0.length <;> simp[h2] <;> omega
   simp only[h,decide_false,Bool.false_or,e2]
 |true=>
  refine (ac rfl _ _).trans ?_
  rw[if_pos rfl]
  by_cases h:0<a0.length
  ·refine bT (by simp;omega) ?_
   simp[h]
  ·refine bF (decide_eq_false (show ¬(0<(a0.length:Int)) by omega)) ?_
   by_cases h1:a1<1
   ·refine bT (by simpa using h1) ?_
    simp[h1]
   ·refine bF (by simpa using h1) ?_
    by_cases h2:4096<a1
    ·refine bT (by simpa using h2) ?_
     simp[h2]
    ·refine bF (by simpa using h2) ?_
     by_cases h3:a2<4
     ·refine bT (by simpa using h3) ?_
      simp[h3]
     ·refine bF (by simpa using h3) ?_
      simp only[h,h1,h2,h3,decide_false,Bool.false_or]
abbrev jD:Io:=⟨[dL],[],[],[Dx,dI,dI],none⟩
def zV (d:jD.In):Tr jD.Res:=.ite (decide (1≤d.1.1.length)) (.ret (.ret (((bd d.1.1).1,(bd d.1.1).2.1,(bd d.1.1).2.2,()),()))) .no
abbrev BU:List (Nat×Hc):=[(119,ah ic vi)]
def IH:Hd:=b8 BU
def CF:Lp:=cp []
def tR (a0:LI):Option jD.Res:=bif decide (0≤0)&&decide (0<(↑a0.length:Int)) then bif decide (i64.wrap (a0.getD (Int.toNat 0) 0)<128) then bif decide ((↑a0.length:Int)<i64.wrap (i64.wrap (a0.getD (Int.toNat 0) 0)+2)) then oR ((([],0,0,()),0,1,()),()) else bif decide (0≤1)&&(decide (1≤i64.wrap (i64.wrap (a0.getD (Int.toNat 0) 0)+2))&&decide (i64.wrap (i64.wrap (a0.getD (Int.toNat 0) 0)+2)≤(↑a0.length:Int))) then oR (((List.drop (Int.toNat 1) (List.take (i64.wrap (i64.wrap (a0.getD (Int.toNat 0) 0)+2)).toNat a0),0,0,()),i64.wrap (i64.wrap (a0.getD (Int.toNat 0) 0)+2),0,()),()) else none else bif decide ((↑a0.length:Int)<3) then oR ((([],0,0,()),0,1,()),()) else bif decide (0≤1)&&decide (1<(↑a0.length:Int)) then bif decide (0≤2)&&decide (2<(↑a0.length:Int)) then bif im ([],lE i64 (eV i64 (i64.wrap (a0.getD (Int.toNat 1) 0)) 8) (i64.wrap (a0.getD (Int.toNat 2) 0)),i64.wrap (i64.wrap (i64.wrap (a0.getD (Int.toNat 0) 0) - 128)+4),()) then oR ((([],0,0,()),0,50,()),()) else oR ((([],lE i64 (eV i64 (i64.wrap (a0.getD (Int.toNat 1) 0)) 8) (i64.wrap (a0.getD (Int.toNat 2) 0)),i64.wrap (i64.wrap (i64.wrap (a0.getD (Int.toNat 0) 0) - 128)+4),()),3,0,()),()) else none else none else none
theorem Hq (a0:LI):Io.run tt IH dr CF jD Tryd.f100 ((a0,()),())=tR a0:=by kernel_rfl
theorem Je:HcOk prog 100 (ah jD zV):=by
 refine cx (cs:=BU) (.cons CU .nil) (lp:=CF) (fn:=Tryd.f100) jD (.done (by kernel_rfl)) zV ?_
 rintro ⟨⟨(b:LI),⟨⟩⟩,⟨⟩⟩ out hw ho
 obtain ⟨hg,ho⟩:=Tr.guard ho
 have hg:1≤b.length:=of_decide_eq_true hg
 cases ho
 refine (Hq b).trans ?_
 show _=oR (((bd b).1,(bd b).2.1,(bd b).2.2,()),())
 have hb:Ty.wf bs b:=hw.1.1
 have hbl:b.length≤maxLen:=hb.1
 rw[bq] at hbl
 have c0:=Bu hb 0
 have c1:=Bu hb 1
 have c2:=Bu hb 2
 unfold tR
 simp only[show Int.toNat 0=0 from rfl,show Int.toNat 1=1 from rfl,show Int.toNat 2=2 from rfl]
 refine bT (by simp;omega) ?_
 have w0:i64.wrap (b.getD 0 0)=b.getD 0 0:=af (by omega) (by omega)
 have w1:i64.wrap (b.getD 1 0)=b.getD 1 0:=af (by omega) (by omega)
 have w2:i64.wrap (b.getD 2 0)=b.getD 2 0:=af (by omega) (by omega)
 rw[w0,w1,w2,KF c1.1 c1.2 c2.1 c2.2,af (n:=b.getD 0 0+2) (by omega) (by omega),af (n:=b.getD 0 0 - 128) (by omega) (by omega),af (n:=b.getD 0 0 - 128+4) (by omega) (by omega),show b.getD 0 0 - 128+4=b.getD 0 0 - 124 by omega]
 unfold bd
 generalize b.getD 0 0=c at *
 generalize b.getD 1 0=x at *
 generalize b.getD 2 0=y at *
 by_cases h1:c<128
 ·refine bT (by simpa using h1) ?_
  rw[if_pos h1]
  by_cases h2:(b.length:Int)<c+2
  ·refine bT (by simpa using h2) ?_
   rw[if_pos h2]
   rfl
  ·refine bF (by simpa using h2) ?_
   refine bT (by simp;omega) ?_
   rw[if_neg h2,List.drop_take,show (c+2).toNat - 1=(c+1).toNat by omega]
 ·refine bF (by simpa using h1) ?_
  rw[if_neg h1]
  by_cases h2:(b.length:Int)<3
  ·refine bT (by simpa using h2) ?_
   rw[if_pos h2]
   rfl
  ·refine bF (by simpa using h2) ?_
   refine bT (by simp;omega) ?_
   refine bT (by simp;omega) ?_
   rw[if_neg h2]
   have hi:im ([],x*256+y,c - 124,())=decide (x*256+y<1∨4096<x*256+y):=by
    have hc:j1 ([],x*256+y,c - 124,())=true:=by
     show (if x*256+y≠0 then true else decide (c - 124≠0))=true
     split
     ·rfl
     ·exact decide_eq_true (by omega)
    show (if j1 ([],x*256+y,c - 124,())=true then decide (0<0) || (decide (x*256+y<1) || (decide (4096<x*256+y) || (decide (c - 124<4) || decide (131<c - 124)))) else _)=_
    rw[if_pos hc]
    have g1:decide (c - 124<4)=false:=decide_eq_false (by omega)
    have g2:decide (131<c - 124)=false:=decide_eq_false (by omega)
    rw[g1,g2]
    simp
   by_cases h3:x*256+y<1∨4096<x*256+y
   ·refine bT (by rw[hi];exact decide_eq_true h3) ?_
    rw[if_pos h3]
    rfl
   ·refine bF (by rw[hi];exact decide_eq_false h3) ?_
    rw[if_neg h3]
abbrev fh:Io:=⟨[dO,Dx,dI],[],[],[dO,dI],none⟩
def qK (d:fh.In):Tr fh.Res:=.ite (decide (d.1.1.length≤4294960000)&&(decide (d.1.2.1.1.length≤4294960000)&&decide ((d.1.2.2.1:Int)≤(32768:Int)))) (.ret (.ret (((bw d.1.1 d.1.2.1 d.1.2.2.1).1,(bw d.1.1 d.1.2.1 d.1.2.2.1).2,()),()))) .no
abbrev ug:List (Nat×Hc):=[(119,ah ic vi)]
def uq:Hd:=b8 ug
abbrev cf:Lo:=⟨⟨(.one (.onl 5 (Ty.int u8) 1)::.any::bN (.one (.ptr 4 0)::ai (dZ (b9 (.one hI::.one hI::dZ (b9 (bN []))))))),[none,none,none,none,some [.hol (.sl 5 (Ty.int u8)),hI,hI]]⟩,[(.exit 0,⟨(.one (.onl 5 (Ty.int u8) 1)::ai (ai (ai []))),[]⟩)]⟩
def gf (d:cf.st.den):Tr (am cf.xs):=
 .ite (decide (d.1.2.2.1=0)&&(decide ((0:Int)≤d.1.2.1)&&((decide (d.1.2.1=0) || (decide ((1:Int)≤d.2.1.2.1)&&decide (d.2.1.2.1≤(d.1.1.length:Int))))&&decide ((d.1.1.length:Int)+d.1.2.1≤4294967296)))) (.ret (.ret ((),((cR d.2.1.2.1.toNat d.1.2.1.toNat d.1.1,()),())))) .no
def li:Lp:=cp [(8,aC cf gf)]
def fq {R:Type}(h5:LI)(h6 h7:Int)(h8:LI)(h9 h10:Int)(next:LI→Int→Int→LI→Int→Int→Option R)(out:am cf.xs→Option R):Option R:=bif decide (h7<h6) then bif decide (0≤i64.wrap ((↑h5.length:Int) - h9))&&decide (i64.wrap ((↑h5.length:Int) - h9)<(↑h5.length:Int)) then bif decide (h5.length+1≤4294967296) then next (h5++[h5.getD (i64.wrap ((↑h5.length:Int) - h9)).toNat 0]) (h6) (i64.wrap (h7+1)) (h8) (h9) (h10) else none else none else out (.ret ((),((h5,()),())))
def ij (n:Nat)(h5:LI)(h6 h7:Int)(h8:LI)(h9 h10:Int):Option (am cf.xs):=gO tt uq dr li 0 Tryd.f101 (ct Tryd.f101 0) n (cf.st.mk' ((h5,(h6,(h7,()))),((h8,(h9,(h10,()))),()))) (bE cf.xs)
theorem kN (n:Nat)(h5:LI)(h6 h7:Int)(h8:LI)(h9 h10:Int):ij (n+1) h5 h6 h7 h8 h9 h10=fq h5 h6 h7 h8 h9 h10 (ij n) some:=by kernel_rfl
theorem s5 (lit:LI)(len:Int){d:Nat}:∀(m k i:Nat) (out:LI),m<k→(m=0∨1≤d∧d≤out.length)→out.length+m≤4294967296→i+m≤4294967296→
  ij k out ((i+m:Nat):Int) i lit d len=some (.ret ((),((cR d m out,()),()))):=by
 intro m
 induction m with
 |zero=>
  intro k i out h1 h2 h3 h4
  obtain ⟨k,rfl⟩:∃j,k=j+1:=⟨k - 1,by omega⟩
  rw[kN]
  unfold fq
  refine bF (by simp) ?_
  rfl
 |succ m ih=>
  intro k i out h1 h2 h3 h4
  obtain ⟨k,rfl⟩:∃j,k=j+1:=⟨k - 1,by omega⟩
  rw[kN]
  unfold fq
  have h2:1≤d∧d≤out.length:=by rcases h2 with h | h;omega;exact h
  rw[af (n:=(out.length:Int) - (d:Int)) (by omega) (by omega),af (n:=(i:Int)+1) (by omega) (by omega),show ((out.length:Int) - (d:Int)).toNat=out.length - d by omega]
  refine bT (by simp;omega) ?_
  refine bT (by simp;omega) ?_
  refine bT (by simp;omega) ?_
  have:=ih k (i+1) (out++[out.getD (out.length - d) 0]) (by omega) (.inr ⟨h2.1,by simp;omega⟩) (by simp;omega) (by omega)
  rw[show ((i+1+m:Nat):Int)=((i+(m+1):Nat):Int) by omega] at this
  exact this
def po (a0 a1:LI)(a2 a3 a4:Int):Option fh.Res:=bif im (a1,a2,a3,()) then oR (([],50,()),()) else bif decide ((↑a0.length:Int)<a2) then oR (([],50,()),()) else bif decide (a4<i64.wrap (i64.wrap ((↑a0.length:Int)+(↑a1.length:Int))+a3)) then oR (([],4,()),()) else bif decide (a0.length+a1.length≤4294967296) then (gf ((a0++a1,(a3,(0,()))),((a1,(a2,(a3,()))),()))).run fun y=>match y with | .ret ((),((x18,()),()))=>(oR ((x18,0,()),())) else none
theorem AQ (a0 a1:LI)(a2 a3 a4:Int):Io.run tt uq dr li fh Tryd.f101 ((a0,(a1,a2,a3,()),a4,()),())=po a0 a1 a2 a3 a4:=by kernel_rfl
theorem px:HcsOk prog ug:=.cons CU .nil
theorem D0:HcOk prog 101 (ah fh qK):=by
 refine cx px (lp:=li) (fn:=Tryd.f101) fh (.step (h0:=aC cf gf) (by kernel_rfl) (iB px (lp:=li) (fn:=Tryd.f101) (.done (by kernel_rfl)) cf gf ?_) (.done (by kernel_rfl))) qK ?_
 ·rintro ⟨⟨(out:LI),(n:Int),(i:Int),⟨⟩⟩,⟨⟨(lit:LI),(d:Int),(len:Int),⟨⟩⟩,⟨⟩⟩⟩ y hw hy
  obtain ⟨hg,hy⟩:=Tr.guard hy
  simp only[zA,Bool.or_eq_true,zB] at hg
  obtain ⟨h1,h2,h3,h4⟩:=hg
  have h1:i=0:=h1
  have h2:0≤n:=h2
  have h3:n=0∨1≤d∧d≤(out.length:Int):=h3
  have h4:(out.length:Int)+n≤4294967296:=h4
  subst h1
  obtain ⟨m,rfl⟩:=au h2
  rcases h3 with h3 | h3
  ·have h3:m=0:=by omega
   subst h3
   refine ⟨1,?_⟩
   rw[← hy]
   show ij (0+1) out ((0:Nat):Int) 0 lit d len=_
   rw[kN]
   unfold fq
   exact ac (by simp) _ _
  ·obtain ⟨d,rfl⟩:=au (show 0≤d by omega)
   have:=s5 lit len (d:=d) m (m+1) 0 out (by omega) (.inr ⟨by omega,by omega⟩) (by omega) (by omega)
   rw[Nat.zero_add] at this
   refine ⟨m+1,this.trans ?_⟩
   rw[← hy];rfl
 ·rintro ⟨⟨(out:LI),⟨(lit:LI),(d:Int),(len:Int),⟨⟩⟩,(m:Int),⟨⟩⟩,⟨⟩⟩ o hw ho
  obtain ⟨hg,ho⟩:=Tr.guard ho
  simp only[zA,zB] at hg
  obtain ⟨h1,h2,h3⟩:=hg
  have h1:out.length≤4294960000:=h1
  have h2:lit.length≤4294960000:=h2
  have h3:m≤(32768:Int):=h3
  cases ho
  refine (AQ out lit d len m).trans ?_
  show _=oR (((bw out (lit,d,len,()) m).1,(bw out (lit,d,len,()) m).2,()),())
  unfold po bw
  cases hi:im (lit,d,len,()) with
  |true=>
   refine (aa rfl _ _).trans ?_
   rw[if_pos (.inl rfl)]
  |false=>
   obtain ⟨i1,i2⟩:=F5 hi
   refine (ac rfl _ _).trans ?_
   by_cases h4:(out.length:Int)<d
   ·refine bT (by simpa using h4) ?_
    rw[if_pos (.inr h4)]
   ·refine bF (by simpa using h4) ?_
    rw[if_neg (by rintro (h | h);cases h;exact h4 h),af (n:=(out.length:Int)+(lit.length:Int)) (by omega) (by omega),af (n:=(out.length:Int)+(lit.length:Int)+len) (by omega) (by omega)]
    by_cases h5:m<(out.length:Int)+(lit.length:Int)+len
    ·refine bT (by simpa using h5) ?_
     rw[if_pos h5]
    ·refine bF (by simpa using h5) ?_
     refine bT (by simp;omega) ?_
     rw[if_neg h5]
     have hg:(decide ((0:Int)=0)&&(decide ((0:Int)≤len)&&((decide (len=0) || (decide ((1:Int)≤d)&&decide (d≤((out++lit).length:Int))))&&decide (((out++lit).length:Int)+len≤4294967296))))=true:=by
      simp only[zA,Bool.or_eq_true,zB,zH]
      refine ⟨trivial,i1.1,?_,by omega⟩
      rcases i2 with h | h
      ·exact .inl h.1
      ·exact .inr ⟨h.2.1,by omega⟩
     have e:gf ((out++lit,(len,(0,()))),((lit,(d,(len,()))),()))=.ite true (.ret (.ret ((),((cR d.toNat len.toNat (out++lit),()),())))) .no:=congrArg (fun c=>Tr.ite c _ _) hg
     rw[e]
     rfl
abbrev fg:Io:=⟨[dI],[],[],[dI],none⟩
def qJ (d:fg.In):Tr fg.Res:=.ret (.ret ((aV d.1.1,()),()))
abbrev uf:List (Nat×Hc):=[]
def DH:Hd:=b8 uf
def uy:Lp:=cp []
def xj (a0:Int):Option fg.Res:=oR ((pC (cz a0 0) 32768,()),())
theorem AP (a0:Int):Io.run tt DH dr uy fg Tryd.f102 ((a0,()),())=xj a0:=by kernel_rfl
theorem DZ:HcOk prog 102 (ah fg qJ):=by
 refine cx (cs:=uf) HcsOk.nil (lp:=uy) (fn:=Tryd.f102) fg (.done (by kernel_rfl)) qJ ?_
 rintro ⟨⟨(m:Int),⟨⟩⟩,⟨⟩⟩ out hw ho
 cases ho
 exact AP m
abbrev jC:Io:=⟨[dL,dI],[],[],[dO,dI],none⟩
def zU (d:jC.In):Tr jC.Res:=.ite (decide (d.1.1.length≤4294960000)) (.ret (.ret (((aE d.1.1 d.1.2.1).1,(aE d.1.1 d.1.2.1).2,()),()))) .no
abbrev BS:List (Nat×Hc):=[(100,ah jD zV),(102,ah fg qJ),(101,ah fh qK)]
def Cf:Hd:=b8 BS
abbrev dp:Lo:=⟨⟨(.one (.hol (.sl 5 (Ty.int u8)))::.one hI::b9 (.one (.onl 5 (Ty.int u8) 13)::.any::ai (dZ (b9 (bN []))))),[]⟩,[(.ret,⟨(b9 (.one (.onl 5 (Ty.int u8) 9)::.one hI::ai (ai ([])))),[]⟩),(.exit 0,⟨(b9 (bN (.one (.onl 5 (Ty.int u8) 13)::.any::ai (dZ (b9 (bN [])))))),[]⟩)]⟩
def kj (d:dp.st.den):Tr (am dp.xs):=
 .ite (decide (d.1.1.length≤4294960000)&&decide (d.1.2.2.1.length≤32768)) (.ite (decide ((bX (d.1.1.length+1) d.1.1 d.1.2.2.1 (aV d.1.2.1)).2=0)) (.ret (.pan (.ret ((),(((bX (d.1.1.length+1) d.1.1 d.1.2.2.1 (aV d.1.2.1)).1,()),()))))) (.ret (.ret ((),(([],(bX (d.1.1.length+1) d.1.1 d.1.2.2.1 (aV d.1.2.1)).2,()),()))))) .no
def qo:Lp:=cp [(3,aC dp kj)]
def pP {R:Type}(h2:LI)(h3:Int)(h4:LI)(next:LI→Int→LI→Option R)(out:am dp.xs→Option R):Option R:=bif decide (0<(↑h2.length:Int)) then bif decide (1≤h2.length) then bif (bd h2).2.2 != 0 then out (.ret ((),(([],((bd h2).2.2,())),()))) else bif decide (h4.length≤4294960000)&&(decide (List.length (bd h2).1.1≤4294960000)&&decide (aV h3≤32768)) then bif (bw h4 (bd h2).1 (aV h3)).2 != 0 then out (.ret ((),(([],((bw h4 (bd h2).1 (aV h3)).2,())),()))) else bif decide (0≤(bd h2).2.1)&&(decide ((bd h2).2.1≤(↑h2.length:Int))&&decide ((↑h2.length:Int)≤(↑h2.length:Int))) then next (List.drop (bd h2).2.1.toNat (List.take (↑h2.length:Int).toNat h2)) (h3) ((bw h4 (bd h2).1 (aV h3)).1) else none else none else none else out (.pan (.ret ((),((h4,()),()))))
def oS (n:Nat)(h2:LI)(h3:Int)(h4:LI):Option (am dp.xs):=gO tt Cf dr qo 0 Tryd.f74 (ct Tryd.f74 0) n (dp.st.mk' ((h2,(h3,(h4,()))),())) (bE dp.xs)
theorem Ey (n:Nat)(h2:LI)(h3:Int)(h4:LI):oS (n+1) h2 h3 h4=pP h2 h3 h4 (oS n) some:=by kernel_rfl
theorem yn (m:Int):∀(k:Nat) (b out:LI),(∀c∈b,0≤c∧c≤255)→b.length<k→b.length≤4294960000→out.length≤32768→
  oS k b m out=if (bX k b out (aV m)).2=0 then some (.pan (.ret ((),(((bX k b out (aV m)).1,()),())))) else some (.ret ((),(([],((bX k b out (aV m)).2,())),()))):=by
 intro k
 induction k with
 |zero=>intro b out _ h;omega
 |succ k ih=>
  intro b out hb h1 h2 h3
  rw[Ey]
  unfold pP
  by_cases hne:b=[]
  ·subst hne
   refine (ac rfl _ _).trans ?_
   rfl
  ·have hp:0<b.length:=List.length_pos_iff.2 hne
   have e:bX (k+1) b out (aV m)=if (bd b).2.2≠0 then ([],(bd b).2.2) else if (bw out (bd b).1 (aV m)).2≠0 then ([],(bw out (bd b).1 (aV m)).2) else bX k (b.drop (bd b).2.1.toNat) (bw out (bd b).1 (aV m)).1 (aV m):=by
    rw[bX,if_neg hne]
   have hlit:=ED b
   have hbd:=sr m
   refine bT (by simpa using hp) ?_
   refine bT (by simp;omega) ?_
   rw[e]
   by_cases h4:(bd b).2.2=0
   ·have ho:=HM hb h4 hne
    refine bF (by simpa using h4) ?_
    refine bT (by simp only[zA,zB];omega) ?_
    rw[if_neg (aD h4)]
    by_cases h5:(bw out (bd b).1 (aV m)).2=0
    ·have hle:=su h5
     refine bF (by simpa using h5) ?_
     refine bT (by simp only[zA,zB];omega) ?_
     rw[if_neg (aD h5),zG,List.take_length]
     exact ih _ _ (fun c hc=>hb c (List.mem_of_mem_drop hc)) (by simp;omega) (by simp;omega) (by omega)
    ·refine bT (by simpa using h5) ?_
     rw[if_pos h5,if_neg h5]
   ·refine bT (by simpa using h4) ?_
    rw[if_pos h4,if_neg h4]
def tP (a0:LI)(a1:Int):Option jC.Res:=(kj ((a0,(a1,([],()))),())).run fun y=>match y with | .ret ((),((x13,x14,()),()))=>(oR ((x13,x14,()),())) | .pan (.ret ((),((x15,()),())))=>(oR ((x15,0,()),()))
theorem Ho (a0:LI)(a1:Int):Io.run tt Cf dr qo jC Tryd.f74 ((a0,a1,()),())=tP a0 a1:=by kernel_rfl
theorem uo:HcsOk prog BS:=.cons Je (.cons DZ (.cons D0 .nil))
theorem Jd:HcOk prog 74 (ah jC zU):=by
 refine cx uo (lp:=qo) (fn:=Tryd.f74) jC (.step (h0:=aC dp kj) (by kernel_rfl) (iB uo (lp:=qo) (fn:=Tryd.f74) (.done (by kernel_rfl)) dp kj ?_) (.done (by kernel_rfl))) zU ?_
 ·rintro ⟨⟨(b:LI),(m:Int),(out:LI),⟨⟩⟩,⟨⟩⟩ y hw hy
  obtain ⟨hg,hy⟩:=Tr.guard hy
  simp only[zA,zB] at hg
  refine ⟨b.length+1,(yn m (b.length+1) b out (d7 hw.1.1) (by omega) hg.1 hg.2).trans ?_⟩
  rw[← hy]
  simp only[Tr.val_ite,zB,Tr.val_ret]
 ·rintro ⟨⟨(b:LI),(m:Int),⟨⟩⟩,⟨⟩⟩ o hw ho
  obtain ⟨hg,ho⟩:=Tr.guard ho
  have hg:b.length≤4294960000:=of_decide_eq_true hg
  cases ho
  refine (Ho b m).trans ?_
  show _=oR (((aE b m).1,(aE b m).2,()),())
  unfold tP kj
  rw[fD]
  refine bT (by simp only[zA,zB];exact ⟨hg,by simp⟩) ?_
  by_cases h:(bX (b.length+1) b [] (aV m)).2=0
  ·refine bT (decide_eq_true h) ?_
   rw[h]
   rfl
  ·refine bF (decide_eq_false h) ?_
   rw[mF _ _ _ _ h]
   rfl
def sA (t:fJ):Bool:=if t.2.1=0∧t.2.2.1=0∧0<t.1.length∧t.1.length≤128 then true else false
def o3 (t:fJ):Bool:=if t.1.length=0∧1≤t.2.1∧t.2.1≤4096∧4≤t.2.2.1∧t.2.2.1≤131 then true else false
abbrev jF:Io:=⟨[Dx],[],[],[dB],none⟩
def zX (d:jF.In):Tr jF.Res:=.ret (.ret ((sA d.1.1,()),()))
abbrev BW:List (Nat×Hc):=[]
def IJ:Hd:=b8 BW
def CH:Lp:=cp []
def tT (a0:LI)(a1 a2:Int):Option jF.Res:=bif a1 == 0 then bif a2 == 0 then bif decide (0<(↑a0.length:Int)) then oR ((decide ((↑a0.length:Int)≤128),()),()) else oR ((false,()),()) else oR ((false,()),()) else oR ((false,()),())
theorem Hs (a0:LI)(a1 a2:Int):Io.run tt IJ dr CH jF Tryd.f109 (((a0,a1,a2,()),()),())=tT a0 a1 a2:=by kernel_rfl
theorem Jg:HcOk prog 109 (ah jF zX):=by
 refine cx (cs:=BW) HcsOk.nil (lp:=CH) (fn:=Tryd.f109) jF (.done (by kernel_rfl)) zX ?_
 rintro ⟨⟨⟨(a0:LI),(a1:Int),(a2:Int),⟨⟩⟩,⟨⟩⟩,⟨⟩⟩ out hw ho
 cases ho
 refine (Hs a0 a1 a2).trans ?_
 show _=oR (((if a1=0∧a2=0∧0<a0.length∧a0.length≤128 then true else false),()),())
 unfold tT
 by_cases h1:a1=0
 ·refine bT (by simp[h1]) ?_
  by_cases h2:a2=0
  ·refine bT (by simp[h2]) ?_
   by_cases h3:0<a0.length
   ·refine bT (decide_eq_true (show 0<(a0.length:Int) by omega)) ?_
    by_cases h4:a0.length≤128
    ·rw[if_pos ⟨h1,h2,h3,h4⟩,show decide ((a0.length:Int)≤128)=true from decide_eq_true (by omega)]
    ·rw[if_neg (fun h=>h4 h.2.2.2),show decide ((a0.length:Int)≤128)=false from decide_eq_false (by omega)]
   ·refine bF (decide_eq_false (show ¬ 0<(a0.length:Int) by omega)) ?_
    rw[if_neg (fun h=>h3 h.2.2.1)]
  ·refine bF (by simp[h2]) ?_
   rw[if_neg (fun h=>h2 h.2.1)]
 ·refine bF (by simp[h1]) ?_
  rw[if_neg (fun h=>h1 h.1)]
abbrev jE:Io:=⟨[Dx],[],[],[dB],none⟩
def zW (d:jE.In):Tr jE.Res:=.ret (.ret ((o3 d.1.1,()),()))
abbrev BV:List (Nat×Hc):=[]
def II:Hd:=b8 BV
def CG:Lp:=cp []
def tS (a0:LI)(a1 a2:Int):Option jE.Res:=bif decide (0<(↑a0.length:Int)) then oR ((false,()),()) else bif decide (a1<1) then oR ((false,()),()) else bif decide (4096<a1) then oR ((false,()),()) else bif decide (4≤a2) then oR ((decide (a2≤131),()),()) else oR ((false,()),())
theorem Hr (a0:LI)(a1 a2:Int):Io.run tt II dr CG jE Tryd.f110 (((a0,a1,a2,()),()),())=tS a0 a1 a2:=by kernel_rfl
theorem Jf:HcOk prog 110 (ah jE zW):=by
 refine cx (cs:=BV) HcsOk.nil (lp:=CG) (fn:=Tryd.f110) jE (.done (by kernel_rfl)) zW ?_
 rintro ⟨⟨⟨(a0:LI),(a1:Int),(a2:Int),⟨⟩⟩,⟨⟩⟩,⟨⟩⟩ out hw ho
 cases ho
 refine (Hr a0 a1 a2).trans ?_
 show _=oR (((if a0.length=0∧1≤a1∧a1≤4096∧4≤a2∧a2≤131 then true else false),()),())
 unfold tS
 by_cases h0:a0.length=0
 ·refine bF (decide_eq_false (show ¬ 0<(a0.length:Int) by omega)) ?_
  by_cases h1:a1<1
  ·refine bT (decide_eq_true h1) ?_
   rw[if_neg (by omega)]
  ·refine bF (decide_eq_false h1) ?_
   by_cases h2:4096<a1
   ·refine bT (decide_eq_true h2) ?_
    rw[if_neg (by omega)]
   ·refine bF (decide_eq_false h2) ?_
    by_cases h3:4≤a2
    ·refine bT (decide_eq_true h3) ?_
     by_cases h4:a2≤131
     ·rw[if_pos (by omega),decide_eq_true h4]
     ·rw[if_neg (by omega),decide_eq_false h4]
    ·refine bF (decide_eq_false h3) ?_
     rw[if_neg (by omega)]
 ·refine bT (decide_eq_true (show 0<(a0.length:Int) by omega)) ?_
  rw[if_neg (by omega)]
abbrev ju:Io:=⟨[dL,dI],[],[],[dO,dI],none⟩
def zy (d:ju.In):Tr ju.Res:=.ite (decide ((d.1.2.1:Int)=(32768:Int))&&decide (d.1.1.length≤4294960000)) (.ret (.ret (((ci d.1.1).1,(ci d.1.1).2,()),()))) .no
abbrev BJ:List (Nat×Hc):=[(73,ah kv Bo),(74,ah jC zU)]
def Ix:Hd:=b8 BJ
def Cv:Lp:=cp []
def tF (a0:LI)(a1:Int):Option ju.Res:=bif (ab 10 1 a0 0).2.2 != 0 then oR (([],(ab 10 1 a0 0).2.2,()),()) else bif decide (al (ab 10 1 a0 0).1<0) then oR (([],5,()),()) else bif decide (cz a1 0<al (ab 10 1 a0 0).1) then oR (([],4,()),()) else bif decide (32768<al (ab 10 1 a0 0).1) then oR (([],4,()),()) else bif decide (0≤(ab 10 1 a0 0).2.1)&&(decide ((ab 10 1 a0 0).2.1≤(↑a0.length:Int))&&decide ((↑a0.length:Int)≤(↑a0.length:Int))) then bif decide ((List.drop (ab 10 1 a0 0).2.1.toNat (List.take (↑a0.length:Int).toNat a0)).length≤4294960000) then bif (aE (List.drop (ab 10 1 a0 0).2.1.toNat (List.take (↑a0.length:Int).toNat a0)) (al (ab 10 1 a0 0).1)).2 == 4 then bif (aE (List.drop (ab 10 1 a0 0).2.1.toNat (List.take (↑a0.length:Int).toNat a0)) (al (ab 10 1 a0 0).1)).2 == 4 then oR (([],60,()),()) else bif (aE (List.drop (ab 10 1 a0 0).2.1.toNat (List.take (↑a0.length:Int).toNat a0)) (al (ab 10 1 a0 0).1)).2 != 0 then oR (([],(aE (List.drop (ab 10 1 a0 0).2.1.toNat (List.take (↑a0.length:Int).toNat a0)) (al (ab 10 1 a0 0).1)).2,()),()) else oR (((aE (List.drop (ab 10 1 a0 0).2.1.toNat (List.take (↑a0.length:Int).toNat a0)) (al (ab 10 1 a0 0).1)).1,0,()),()) else bif (aE (List.drop (ab 10 1 a0 0).2.1.toNat (List.take (↑a0.length:Int).toNat a0)) (al (ab 10 1 a0 0).1)).2 == 0 then bif decide ((↑(aE (List.drop (ab 10 1 a0 0).2.1.toNat (List.take (↑a0.length:Int).toNat a0)) (al (ab 10 1 a0 0).1)).1.length:Int)<al (ab 10 1 a0 0).1) then oR (([],60,()),()) else bif (aE (List.drop (ab 10 1 a0 0).2.1.toNat (List.take (↑a0.length:Int).toNat a0)) (al (ab 10 1 a0 0).1)).2 != 0 then oR (([],(aE (List.drop (ab 10 1 a0 0).2.1.toNat (List.take (↑a0.length:Int).toNat a0)) (al (ab 10 1 a0 0).1)).2,()),()) else oR (((aE (List.drop (ab 10 1 a0 0).2.1.toNat (List.take (↑a0.length:Int).toNat a0)) (al (ab 10 1 a0 0).1)).1,0,()),()) else bif (aE (List.drop (ab 10 1 a0 0).2.1.toNat (List.take (↑a0.length:Int).toNat a0)) (al (ab 10 1 a0 0).1)).2 != 0 then oR (([],(aE (List.drop (ab 10 1 a0 0).2.1.toNat (List.take (↑a0.length:Int).toNat a0)) (al (ab 10 1 a0 0).1)).2,()),()) else oR (((aE (List.drop (ab 10 1 a0 0).2.1.toNat (List.take (↑a0.length:Int).toNat a0)) (al (ab 10 1 a0 0).1)).1,0,()),()) else none else none
theorem Ha (a0:LI)(a1:Int):Io.run tt Ix dr Cv ju Tryd.f55 ((a0,a1,()),())=tF a0 a1:=by kernel_rfl
theorem I5:HcOk prog 55 (ah ju zy):=by
 refine cx (cs:=BJ) (.cons GE (.cons Jd .nil)) (lp:=Cv) (fn:=Tryd.f55) ju (.done (by kernel_rfl)) zy ?_
 rintro ⟨⟨(b:LI),(most:Int),⟨⟩⟩,⟨⟩⟩ o hw ho
 obtain ⟨hg,ho⟩:=Tr.guard ho
 simp only[zA,zB] at hg
 obtain ⟨h0,hl⟩:=hg
 have h0:most=32768:=h0
 have hl:b.length≤4294960000:=hl
 subst h0
 cases ho
 refine (Ha b 32768).trans ?_
 show _=oR (((ci b).1,(ci b).2,()),())
 unfold tF ci
 have hk:=@nM 10 1 b 0
 generalize hge:ab 10 1 b 0=g at *
 obtain ⟨u,q,e⟩:=g
 simp only at hk ⊢
 by_cases h1:e=0
 rotate_left
 ·refine bT (by simpa using h1) ?_
  rw[if_pos h1]
 subst h1
 have hk:=hk rfl
 obtain ⟨q,rfl⟩:=au (show 0≤q by omega)
 refine (ac rfl _ _).trans ?_
 rw[if_neg (aD rfl)]
 generalize al u=n
 by_cases h2:n<0
 ·refine bT (decide_eq_true h2) ?_
  rw[if_pos h2]
 refine bF (decide_eq_false h2) ?_
 rw[if_neg h2]
 by_cases h3:32768<n
 ·refine bT (decide_eq_true (show cz 32768 0<n from h3)) ?_
  rw[if_pos h3]
 refine bF (decide_eq_false (show ¬ cz 32768 0<n from h3)) ?_
 refine bF (decide_eq_false h3) ?_
 rw[if_neg h3]
 have hx:=fD (b.drop q) n
 rw[zG,zG,List.take_length]
 refine bT (by simp only[zA,zB];omega) ?_
 refine bT (decide_eq_true (by simp;omega)) ?_
 have hx1:(aE (b.drop q) n).2≠0→(aE (b.drop q) n).1=[]:=by rw[hx];exact mF _ _ _ _
 clear hx
 generalize aE (b.drop q) n=x at *
 obtain ⟨o,f⟩:=x
 simp only at hx1 ⊢
 by_cases h4:f=4
 ·subst h4
  refine (aa rfl _ _).trans ?_
  rw[if_pos (.inl rfl)]
  all_goals rfl
 refine bF (by simpa using h4) ?_
 by_cases h5:f=0
 ·subst h5
  refine (aa rfl _ _).trans ?_
  by_cases h6:(o.length:Int)<n
  ·refine bT (decide_eq_true h6) ?_
   rw[if_pos (.inr ⟨rfl,h6⟩)]
  ·refine bF (decide_eq_false h6) ?_
   rw[if_neg (by rintro (h | h);cases h;exact h6 h.2),if_neg (aD rfl)]
   all_goals rfl
 ·refine bF (by simpa using h5) ?_
  rw[if_neg (by rintro (h | h);exact h4 h;exact h5 h.1),if_pos h5]
  exact aa (by simpa using h5) _ _
abbrev aK:Ty:=.prod (.int .i64) (.prod uN (.prod uN (.prod HV .unit)))
abbrev J5:Ty:=.sl 75 aK
abbrev td:Ty:=.prod (.int .i64) (.prod (.int .i32) (.prod (.int .i64) (.prod (.int .i16) (.prod (.int .i32) (.prod J5 .unit)))))
abbrev Lv:Ty:=.prod (.int .i64) (.prod (.int .i64) (.prod (.int .i32) (.prod .bool (.prod (.int .i64) (.prod (.int .i64) (.prod (.int .i64) (.prod (.int .i64) (.prod (.int .i16) (.prod (.int .i32) .unit)))))))))
abbrev bf:Type:=Int×wR×wR×List d0×Unit
abbrev dz:Type:=Int×Int×Int×Int×Int×List bf×Unit
abbrev wU:Type:=Int×Int×Int×Bool×Int×Int×Int×Int×Int×Int×Unit
abbrev LO:Sh:=.dat aK true false
abbrev JX:Sh:=.dat J5 false false
abbrev Ao:Sh:=.dat td true false
abbrev Ld:Sh:=.dat Lv true false
def Da:dz:=(0,0,0,0,0,[],())
def da:wU:=(0,0,0,false,0,0,0,0,0,0,())
def qt:bf:=(0,(false,[],()),(false,[],()),[],())
def bk (base:Int):Bool:=decide (base<0) || decide (4611686018427387648<base)
def bc (pid ep sq:Int):Bool:=if pid = -1∧ep = -1∧sq = -1∨0≤pid∧0≤ep∧0≤sq then false else true
def aN (n:Int):Bool:=if -9223372036854775808≤n∧n≤9223372036854775807 then true else false
def ax (rs:List bf):Int:=match rs with
 |[]=>0
 |r::_=>r.1
def ch (f:Int)(i:Nat)(r:bf):mT:=(r.1 - f,(i:Int),r.2.1,r.2.2.1,r.2.2.2.1,())
def aW (f:Int):List bf→Nat→LI→LI×Int
 |[],_,out=>(out,0)
 |r::rs,i,out=>
  if aN (r.1 - f)=false then ([],86)
  else if aS (ch f i r)≠0 then ([],aS (ch f i r))
  else aW f rs (i+1) (out++(bS (ch f i r)).1)
def dy (rs:List bf):LI×Int:=
 if (aW (ax rs) rs 0 []).2≠0 then ([],(aW (ax rs) rs 0 []).2)
 else if 32768<((aW (ax rs) rs 0 []).1.length:Int) then ([],4)
 else ((aW (ax rs) rs 0 []).1,0)
def cU (b:dz):Int:=
 if bk b.1=true then 80
 else if bc b.2.2.1 b.2.2.2.1 b.2.2.2.2.1=true then 84
 else if b.2.2.2.2.2.1=[] then 85
 else if 256<(b.2.2.2.2.2.1.length:Int) then 9
 else (dy b.2.2.2.2.2.1).2
def aZ:List bf→Int→Int
 |[],t=>t
 |r::rs,t=>aZ rs (cz t r.1)
def cq (rs:List bf):Int:=match rs with
 |[]=>-9223372036854775808
 |r::rs=>aZ rs r.1
def dw (b:dz)(attrs:Int)(blk:LI):LI:=
 aI attrs 2++(aI ((b.2.2.2.2.2.1.length:Int) - 1) 4++(aI (ax b.2.2.2.2.2.1) 8++(aI (cq b.2.2.2.2.2.1) 8++(aI b.2.2.1 8++(aI b.2.2.2.1 2++(aI b.2.2.2.2.1 4++(aI (b.2.2.2.2.2.1.length:Int) 4++blk)))))))
def oY (b:dz)(attrs:Int)(blk:LI):LI:=
 aI b.1 8++(aI (49+(blk.length:Int)) 4++(aI b.2.1 4++([2]++(aI (cC 0 (dw b attrs blk)) 4++dw b attrs blk))))
def ay (b:LI)(p n:Nat):Int:=fF ((b.drop p).take n)
def aj (b:LI)(p:Int):Int×Int:=
 if p<0∨(b.length:Int)<p then (0,3)
 else if (b.length:Int) - p<12 then (0,1)
 else if ay b (p.toNat+8) 4<49 then (0,5)
 else if 35988<ay b (p.toNat+8) 4 then (0,4)
 else if (b.length:Int) - p - 12<ay b (p.toNat+8) 4 then (0,1)
 else (ay b (p.toNat+8) 4+12,0)
def fV (b:LI):Bool:=if (b.drop 17).take 4=aI (cC 0 (b.drop 21)) 4 then true else false
def o5 (b:LI):wU:=(ay b 0 8,(b.length:Int),ay b 12 4,decide (b.getD 22 0=1),ay b 57 4,ay b 27 8,ay b 35 8,ay b 43 8,ay b 51 2,ay b 53 4,())
def bK (b:LI)(summing:Bool):Int:=
 if (b.length:Int)<61 then 1
 else if (aj b 0).2≠0 then (aj b 0).2
 else if (aj b 0).1<(b.length:Int) then 2
 else if b.getD 16 0≠2 then 81
 else if summing=true∧fV b=false then 82
 else if bk (ay b 0 8)=true then 80
 else if b.getD 21 0≠0∨1<b.getD 22 0 then 83
 else if bc (ay b 43 8) (ay b 51 2) (ay b 53 4)=true then 84
 else if ay b 57 4<1 then 85
 else if 256<ay b 57 4 then 9
 else if ay b 23 4≠ay b 57 4 - 1 then 72
 else 0
def ao (b:LI)(summing:Bool):wU×Int:=if bK b summing≠0 then (da,bK b summing) else (o5 b,0)
def aH (blk:LI)(f:Int):Nat→Nat→Int→List bf→List bf×Int×Int
 |0,_,p,out=>(out,p,0)
 |n+1,i,p,out=>
  if (ak blk p).2.2≠0 then ([],0,(ak blk p).2.2)
  else if (ak blk p).1.2.1≠(i:Int) then ([],0,72)
  else if i=0∧(ak blk p).1.1≠0∨aN (f+(ak blk p).1.1)=false then ([],0,86)
  else aH blk f n (i+1) (ak blk p).2.1 (out++[(f+(ak blk p).1.1,(ak blk p).1.2.2.1,(ak blk p).1.2.2.2.1,(ak blk p).1.2.2.2.2.1,())])
def wG (blk:LI)(f l:Int)(n:Nat):List bf×Int:=
 if (aH blk f n 0 0 []).2.2≠0 then ([],(aH blk f n 0 0 []).2.2)
 else if (aH blk f n 0 0 []).2.1<(blk.length:Int) then ([],2)
 else if cq (aH blk f n 0 0 []).1≠l then ([],86)
 else ((aH blk f n 0 0 []).1,0)
def aJ (b:LI)(packed:Bool):LI×Int:=
 if packed=true then ci (b.drop 61) else if 32768<((b.drop 61).length:Int) then ([],4) else (b.drop 61,0)
def gG (b:LI):List bf×Int:=
 if bK b true≠0 then ([],bK b true)
 else if (aJ b (decide (b.getD 22 0=1))).2≠0 then ([],(aJ b (decide (b.getD 22 0=1))).2)
 else wG (aJ b (decide (b.getD 22 0=1))).1 (ay b 27 8) (ay b 35 8) (ay b 57 4).toNat
def an (b:LI):dz×Int:=
 if (gG b).2≠0 then (Da,(gG b).2) else ((ay b 0 8,ay b 12 4,ay b 43 8,ay b 51 2,ay b 53 4,(gG b).1,()),0)
abbrev d8:Sh:=.dat (.int .i8) false false
abbrev mm:Io:=⟨[.ptr 0 0],[J2],[],[d8,dI],none⟩
def Bp (d:mm.In):Tr mm.Res:=
 .ite (cv d.2.1.1 d.2.1.2.1) (.ret (.ret ((i8.wrap (bn d.2.1.1 d.2.1.2.1 1).1,((bn d.2.1.1 d.2.1.2.1 1).2.2,())),((d.2.1.1,((bn d.2.1.1 d.2.1.2.1 1).2.1,())),())))) .no
abbrev Fu:List (Nat×Hc):=[(70,ah cm fY)]
def Kk:Hd:=b8 Fu
def Gp:Lp:=cp []
def xi (a0:LI)(a1:Int):Option mm.Res:=bif cv a0 a1&&(decide (0≤1)&&decide (1≤8)) then oR ((i8.wrap (bn a0 a1 (Int.toNat 1)).1,(bn a0 a1 (Int.toNat 1)).2.2,()),(a0,(bn a0 a1 (Int.toNat 1)).2.1,()),()) else none
theorem JA (a0:LI)(a1:Int):Io.run tt Kk dr Gp mm Tryd.f50 (((),()),(a0,a1,()),())=xi a0 a1:=by kernel_rfl
theorem KB:HcOk prog 50 (ah mm Bp):=by
 refine cx (cs:=Fu) (.cons jQ .nil) (lp:=Gp) (fn:=Tryd.f50) mm (.done (by kernel_rfl)) Bp ?_
 rintro ⟨⟨⟨⟩,⟨⟩⟩,⟨⟨(b:LI),(p:Int),⟨⟩⟩,⟨⟩⟩⟩ out hw ho
 obtain ⟨hg,ho⟩:=Tr.guard ho
 have hg:cv b p=true:=hg
 cases ho
 refine (JA b p).trans ?_
 unfold xi
 rw[aa (by simp[hg])]
 rfl
theorem oE {n:Int}(h:bu .i64 n) : -9223372036854775808≤n∧n≤9223372036854775807:=by
 simpa [bu,IntKind.min,IntKind.max,IntKind.signed,IntKind.bits] using h
theorem F4 {n:Int}(h:bu .i32 n) : -2147483648≤n∧n≤2147483647:=by
 simpa [bu,IntKind.min,IntKind.max,IntKind.signed,IntKind.bits] using h
theorem KQ {n:Int}(h1:9223372036854775807<n)(h2:n≤18446744073709551615):i64.wrap n=n - 18446744073709551616:=by
 simp[IntKind.wrap,IntKind.signed,IntKind.bits] <;> (try split) <;> omega
theorem KR {n:Int}(h1:n < -9223372036854775808)(h2 : -18446744073709551616≤n):i64.wrap n=n+18446744073709551616:=by
 simp[IntKind.wrap,IntKind.signed,IntKind.bits] <;> (try split) <;> omega
theorem FH {n:Int}(h1 : -9223372036854775808≤n)(h2:n≤9223372036854775807):aN n=true:=by unfold aN;rw[if_pos ⟨h1,h2⟩]
theorem uj {n:Int}(h:¬(-9223372036854775808≤n∧n≤9223372036854775807)):aN n=false:=by unfold aN;rw[if_neg h]
theorem gS {n:Int}:aN n=true↔-9223372036854775808≤n∧n≤9223372036854775807:=by
 unfold aN
 split
 ·rename_i h;exact ⟨fun _=>h,fun _=>rfl⟩
 ·rename_i h;exact ⟨fun h'=>Bool.noConfusion h',fun h'=>absurd h' h⟩
theorem Ik {d f:Int}(hd:bu .i64 d)(hf:bu .i64 f):(decide (i64.wrap (f+d)<f) == decide (d<0))=aN (f+d):=by
 have h1:=oE hd
 have h2:=oE hf
 by_cases a : -9223372036854775808≤f+d
 ·by_cases b:f+d≤9223372036854775807
  ·rw[FH a b,af a b]
   by_cases c:d<0
   ·rw[decide_eq_true c,decide_eq_true (show f+d<f by omega)];rfl
   ·rw[decide_eq_false c,decide_eq_false (show ¬ f+d<f by omega)];rfl
  ·rw[uj (fun h=>b h.2),KQ (by omega) (by omega),decide_eq_true (show f+d - 18446744073709551616<f by omega),decide_eq_false (show ¬ d<0 by omega)];rfl
 ·rw[uj (fun h=>a h.1),KR (by omega) (by omega),decide_eq_false (show ¬ f+d+18446744073709551616<f by omega),decide_eq_true (show d<0 by omega)];rfl
theorem KI:∀{l:LI},(∀c∈l,0≤c∧c≤255)→l.length=1→i8.wrap (aB l)=fF l
 |[a],h,_=>by
  have ha:=h a (by simp)
  simp only[aB,fF,List.foldl_cons,List.foldl_nil]
  simp[IntKind.wrap,IntKind.signed,IntKind.bits] <;> (try split) <;> omega
theorem wx:∀{l:LI},(∀c∈l,0≤c∧c≤255)→l.length=2→i16.wrap (aB l)=fF l
 |[a,b],h,_=>by
  have ha:=h a (by simp)
  have hb:=h b (by simp)
  simp only[aB,fF,List.foldl_cons,List.foldl_nil]
  simp[IntKind.wrap,IntKind.signed,IntKind.bits] <;> (try split) <;> omega
theorem nC:∀{l:LI},(∀c∈l,0≤c∧c≤255)→l.length=4→i32.wrap (aB l)=fF l
 |[a,b,c,d],h,_=>by
  have ha:=h a (by simp)
  have hb:=h b (by simp)
  have hc:=h c (by simp)
  have hd:=h d (by simp)
  simp only[aB,fF,List.foldl_cons,List.foldl_nil]
  simp[IntKind.wrap,IntKind.signed,IntKind.bits] <;> (try split) <;> omega
theorem wy:∀{l:LI},(∀c∈l,0≤c∧c≤255)→l.length=8→i64.wrap (aB l)=fF l
 |[a,b,c,d,e,f,g,i],h,_=>by
  have ha:=h a (by simp)
  have hb:=h b (by simp)
  have hc:=h c (by simp)
  have hd:=h d (by simp)
  have he:=h e (by simp)
  have hf:=h f (by simp)
  have hg:=h g (by simp)
  have hi:=h i (by simp)
  simp only[aB,fF,List.foldl_cons,List.foldl_nil]
  simp[IntKind.wrap,IntKind.signed,IntKind.bits] <;> (try split) <;> omega
theorem Hw:∀{l:LI},(∀c∈l,0≤c∧c≤255)→l.length=4→-2147483648≤fF l∧fF l≤2147483647:=fun h hl=>by
 rw[← nC h hl]
 exact F4 (bJ _ _)
theorem dH {b:LI}(hb:∀c∈b,0≤c∧c≤255)(p n:Nat):∀c∈(b.drop p).take n,0≤c∧c≤255:=fun c hc=>hb c (List.mem_of_mem_drop (List.mem_of_mem_take hc))
theorem cT {b:LI}{p n:Nat}(h:p+n≤b.length):((b.drop p).take n).length=n:=by simp;omega
abbrev jm:Io:=⟨[dd],[],[],[dB],none⟩
def zo (d:jm.In):Tr jm.Res:=.ret (.ret ((bk d.1.1,()),()))
abbrev Bw:List (Nat×Hc):=[]
def Im:Hd:=b8 Bw
def Cl:Lp:=cp []
def tl (a0:Int):Option jm.Res:=bif decide (a0<0) then oR ((true,()),()) else oR ((decide (4611686018427387648<a0),()),())
theorem GS (a0:Int):Io.run tt Im dr Cl jm Tryd.f53 ((a0,()),())=tl a0:=by kernel_rfl
theorem IU:HcOk prog 53 (ah jm zo):=by
 refine cx (cs:=Bw) HcsOk.nil (lp:=Cl) (fn:=Tryd.f53) jm (.done (by kernel_rfl)) zo ?_
 rintro ⟨⟨(b:Int),⟨⟩⟩,⟨⟩⟩ out hw ho
 cases ho
 refine (GS b).trans ?_
 show _=oR ((decide (b<0) || decide (4611686018427387648<b),()),())
 unfold tl
 by_cases h:b<0
 ·refine bT (decide_eq_true h) ?_
  rw[decide_eq_true h];rfl
 ·refine bF (decide_eq_false h) ?_
  rw[decide_eq_false h];rfl
abbrev gV:Io:=⟨[dd,LM,Kb],[],[],[dB],none⟩
def zr (d:gV.In):Tr gV.Res:=.ret (.ret ((bc d.1.1 d.1.2.1 d.1.2.2.1,()),()))
abbrev Bz:List (Nat×Hc):=[]
def Ir:Hd:=b8 Bz
def Co:Lp:=cp []
def tr (a0 a1 a2:Int):Option gV.Res:=bif a0 == -1 then bif a1 == -1 then bif decide (0≤a0) then bif decide (0≤a1) then bif !a2 == -1 then oR ((!decide (0≤a2),()),()) else oR ((false,()),()) else bif !a2 == -1 then oR ((true,()),()) else oR ((false,()),()) else bif !a2 == -1 then oR ((true,()),()) else oR ((false,()),()) else bif decide (0≤a0) then bif decide (0≤a1) then oR ((!decide (0≤a2),()),()) else oR ((true,()),()) else oR ((true,()),()) else bif decide (0≤a0) then bif decide (0≤a1) then oR ((!decide (0≤a2),()),()) else oR ((true,()),()) else oR ((true,()),())
theorem GW (a0 a1 a2:Int):Io.run tt Ir dr Co gV Tryd.f54 ((a0,a1,a2,()),())=tr a0 a1 a2:=by kernel_rfl
theorem IX:HcOk prog 54 (ah gV zr):=by
 refine cx (cs:=Bz) HcsOk.nil (lp:=Co) (fn:=Tryd.f54) gV (.done (by kernel_rfl)) zr ?_
 rintro ⟨⟨(pid:Int),(ep:Int),(sq:Int),⟨⟩⟩,⟨⟩⟩ out hw ho
 cases ho
 refine (GW pid ep sq).trans ?_
 show _=oR (((if pid = -1∧ep = -1∧sq = -1∨0≤pid∧0≤ep∧0≤sq then false else true),()),())
 have hs:(!decide (0≤sq))=if 0≤sq then false else true:=by by_cases h:0≤sq <;> simp[h]
 have key:∀c:Prop,[Decidable c]→∀b:Bool,(b=false↔c)→some (Out.ret ((b,()),()):gV.Res)=oR (((if c then false else true),()),()):=by
  intro c _ b h
  by_cases hc:c
  ·rw[if_pos hc,h.2 hc]
  ·rw[if_neg hc]
   cases b with
   |true=>rfl
   |false=>exact absurd (h.1 rfl) hc
 unfold tr
 by_cases h1:pid = -1
 ·refine bT (by simp[h1]) ?_
  by_cases h2:ep = -1
  ·refine bT (by simp[h2]) ?_
   refine bF (decide_eq_false (by omega)) ?_
   by_cases h3:sq = -1
   ·refine bF (by simp[h3]) ?_
    exact key _ _ (by simp;omega)
   ·refine bT (by simp[h3]) ?_
    exact key _ _ (by simp;omega)
  ·refine bF (by simp[h2]) ?_
   refine bF (decide_eq_false (by omega)) ?_
   exact key _ _ (by simp;omega)
 ·refine bF (by simp[h1]) ?_
  by_cases h2:0≤pid
  ·refine bT (decide_eq_true h2) ?_
   by_cases h3:0≤ep
   ·refine bT (decide_eq_true h3) ?_
    exact key _ _ (by simp;omega)
   ·refine bF (decide_eq_false h3) ?_
    exact key _ _ (by simp;omega)
  ·refine bF (decide_eq_false h2) ?_
   exact key _ _ (by simp;omega)
def b7 (f:Int):List bf→Nat→Bool
 |[],_=>true
 |r::rs,i=>fm (ch f i r)&&b7 f rs (i+1)
theorem EE {r:mT}(h:aS r=0):(bS r).2=0∧(bS r).1.length≤16400:=by
 have e:bS r=(ar (ap (bR r).length)++bR r,0):=by unfold bS;rw[if_pos h]
 rw[e]
 refine ⟨rfl,?_⟩
 have hs:(bR r).length≤16384:=by
  unfold aS at h
  split at h
  ·rename_i h1;exact absurd h h1
  ·split at h
   ·cases h
   ·omega
 have:=lw (ap (bR r).length)
 simp only[zH]
 omega
theorem sG {r:mT}(h:aS r≠0):(bS r).2=aS r:=by unfold bS;rw[if_neg h]
abbrev jn:Io:=⟨[JX],[],[],[dd],none⟩
def zq (d:jn.In):Tr jn.Res:=.ite (decide (1≤d.1.1.length)) (.ret (.ret ((cq d.1.1,()),()))) .no
abbrev vq:List (Nat×Hc):=[]
def B8:Hd:=b8 vq
abbrev df:Lo:=⟨⟨(.any::bN (.one hI::b9 (bN (.one (.hol (.sl 75 aK))::.one hI::.one hI::.any::dZ [])))),[]⟩,[(.exit 0,⟨(.any::bN (.one hI::ai (bN []))),[]⟩)]⟩
def j8 (d:df.st.den):Tr (am df.xs):=.ite (decide (d.1.2.2.2.1=0)&&decide (d.1.2.2.1=(d.1.2.1.length:Int))) (.ret (.ret ((),((aZ d.1.2.1 d.1.1,()),())))) .no
def qh:Lp:=cp [(4,aC df j8)]
def pG {R:Type}(h1:Int)(h2:List aK.den)(h3 h4:Int)(next:Int→List aK.den→Int→Int→Option R)(out:am df.xs→Option R):Option R:=bif decide (h4<h3) then bif decide (0≤h4)&&decide (h4<(↑h2.length:Int)) then next (cz h1 (h2.getD h4.toNat (0,(false,[],()),(false,[],()),[],())).1) (h2) (h3) (i64.wrap (h4+1)) else none else out (.ret ((),((h1,()),())))
def oJ (n:Nat)(h1:Int)(h2:List aK.den)(h3 h4:Int):Option (am df.xs):=gO tt B8 dr qh 0 Tryd.f31 (ct Tryd.f31 0) n (df.st.mk' ((h1,(h2,(h3,(h4,())))),())) (bE df.xs)
theorem Eo (n:Nat)(h1:Int)(h2:List aK.den)(h3 h4:Int):oJ (n+1) h1 h2 h3 h4=pG h1 h2 h3 h4 (oJ n) some:=by kernel_rfl
theorem yh (rs:List bf)(hl:rs.length≤maxLen):∀(k i:Nat) (t:Int),rs.length<i+k→i≤rs.length→oJ k t rs (rs.length:Int) i=some (.ret ((),((aZ (rs.drop i) t,()),()))):=by
 intro k
 induction k with
 |zero=>intro i t h;omega
 |succ k ih=>
  intro i t h1 h2
  rw[Eo]
  unfold pG
  by_cases hi:i<rs.length
  ·refine bT (by simpa using hi) ?_
   refine bT (by simpa using hi) ?_
   have e:List.getD rs (i:Int).toNat (0,(false,[],()),(false,[],()),[],())=rs[i]:=by simp only[zG,aA hi]
   rw[e,bH hi hl,zE hi]
   exact ih (i+1) _ (by omega) (by omega)
  ·refine bF (by simp;omega) ?_
   rw[zI (by omega)]
   rfl
def tp (a0:List aK.den):Option jn.Res:=bif decide (0≤0)&&decide (0<(↑a0.length:Int)) then (j8 (((a0.getD (Int.toNat 0) (0,(false,[],()),(false,[],()),[],())).1,(a0,((↑a0.length:Int),(0,())))),())).run fun y=>match y with | .ret ((),((x10,()),()))=>(oR ((x10,()),())) else none
theorem GU (a0:List aK.den):Io.run tt B8 dr qh jn Tryd.f31 ((a0,()),())=tp a0:=by kernel_rfl
theorem IW:HcOk prog 31 (ah jn zq):=by
 refine cx (cs:=vq) HcsOk.nil (lp:=qh) (fn:=Tryd.f31) jn (.step (h0:=aC df j8) (by kernel_rfl) (iB (cs:=vq) HcsOk.nil (lp:=qh) (fn:=Tryd.f31) (.done (by kernel_rfl)) df j8 ?_) (.done (by kernel_rfl))) zq ?_
 ·rintro ⟨⟨(t:Int),(rs:List bf),(m:Int),(i:Int),⟨⟩⟩,⟨⟩⟩ y hw hy
  obtain ⟨hg,hy⟩:=Tr.guard hy
  simp only[zA,zB] at hg
  obtain ⟨h1,h2⟩:=hg
  have h1:i=0:=h1
  have h2:m=(rs.length:Int):=h2
  subst h1 h2
  refine ⟨rs.length+1,(yh rs hw.1.2.1.1 (rs.length+1) 0 t (by omega) (by omega)).trans ?_⟩
  rw[← hy];rfl
 ·rintro ⟨⟨(rs:List bf),⟨⟩⟩,⟨⟩⟩ out hw ho
  obtain ⟨hg,ho⟩:=Tr.guard ho
  have hg:1≤rs.length:=of_decide_eq_true hg
  cases ho
  refine (GU rs).trans ?_
  show _=oR ((cq rs,()),())
  unfold tp j8
  refine bT (by simp;omega) ?_
  refine bT (by simp) ?_
  cases rs with
  |nil=>simp at hg
  |cons r rs=>
   have e:aZ (r::rs) r.1=aZ rs r.1:=by
    show aZ rs (cz r.1 r.1)=_
    unfold cz
    rw[if_neg (by omega)]
   exact congrArg (fun x=>oR ((x,()),())) e
abbrev fQ:Io:=⟨[dL,dI],[],[],[dI,dI],none⟩
def qz (d:fQ.In):Tr fQ.Res:=.ite (decide (d.1.1.length≤4294960000)) (.ret (.ret (((aj d.1.1 d.1.2.1).1,(aj d.1.1 d.1.2.1).2,()),()))) .no
abbrev By:List (Nat×Hc):=[(46,ah hY vg),(49,ah hC qG)]
def Iq:Hd:=b8 By
def Cn:Lp:=cp []
def tq (a0:LI)(a1:Int):Option fQ.Res:=bif decide (a1<0) then oR ((0,3,()),()) else bif decide ((↑a0.length:Int)<a1) then oR ((0,3,()),()) else bif decide (i64.wrap ((↑a0.length:Int) - a1)<12) then oR ((0,1,()),()) else bif decide (0≤i64.wrap (a1+8))&&(decide (i64.wrap (a1+8)≤i64.wrap (a1+12))&&decide (i64.wrap (a1+12)≤(↑a0.length:Int))) then bif decide ((List.drop (i64.wrap (a1+8)).toNat (List.take (i64.wrap (a1+12)).toNat a0)).length≤4294967296) then bif cv (List.drop (i64.wrap (a1+8)).toNat (List.take (i64.wrap (a1+12)).toNat a0)) 0 then bif decide (i32.wrap (bn (List.drop (i64.wrap (a1+8)).toNat (List.take (i64.wrap (a1+12)).toNat a0)) 0 4).1<49) then oR ((0,5,()),()) else bif decide (35988<i32.wrap (bn (List.drop (i64.wrap (a1+8)).toNat (List.take (i64.wrap (a1+12)).toNat a0)) 0 4).1) then oR ((0,4,()),()) else bif decide (i64.wrap (i64.wrap ((↑a0.length:Int) - a1) - 12)<i64.wrap (i32.wrap (bn (List.drop (i64.wrap (a1+8)).toNat (List.take (i64.wrap (a1+12)).toNat a0)) 0 4).1)) then oR ((0,1,()),()) else oR ((i64.wrap (12+i64.wrap (i32.wrap (bn (List.drop (i64.wrap (a1+8)).toNat (List.take (i64.wrap (a1+12)).toNat a0)) 0 4).1)),0,()),()) else none else none else none
theorem GV (a0:LI)(a1:Int):Io.run tt Iq dr Cn fQ Tryd.f39 ((a0,a1,()),())=tq a0 a1:=by kernel_rfl
theorem wj:HcOk prog 39 (ah fQ qz):=by
 refine cx (cs:=By) (.cons CT (.cons CS .nil)) (lp:=Cn) (fn:=Tryd.f39) fQ (.done (by kernel_rfl)) qz ?_
 rintro ⟨⟨(b:LI),(p:Int),⟨⟩⟩,⟨⟩⟩ out hw ho
 obtain ⟨hg,ho⟩:=Tr.guard ho
 have hg2:b.length≤4294960000:=of_decide_eq_true hg
 clear hg
 cases ho
 have hb:=d7 hw.1.1
 refine (GV b p).trans ?_
 show _=oR (((aj b p).1,(aj b p).2,()),())
 unfold tq aj
 by_cases h1:p<0
 ·refine bT (decide_eq_true h1) ?_
  rw[if_pos (.inl h1)]
 refine bF (decide_eq_false h1) ?_
 by_cases h2:(b.length:Int)<p
 ·refine bT (decide_eq_true h2) ?_
  rw[if_pos (.inr h2)]
 refine bF (decide_eq_false h2) ?_
 rw[if_neg (by omega)]
 obtain ⟨p,rfl⟩:=au (show 0≤p by omega)
 rw[af (n:=(b.length:Int) - p) (by omega) (by omega),af (n:=(p:Int)+8) (by omega) (by omega),af (n:=(p:Int)+12) (by omega) (by omega),af (n:=(b.length:Int) - p - 12) (by omega) (by omega)]
 by_cases h3:(b.length:Int) - p<12
 ·refine bT (decide_eq_true h3) ?_
  rw[if_pos h3]
 refine bF (decide_eq_false h3) ?_
 rw[if_neg h3]
 refine bT (by simp only[zA,zB];omega) ?_
 have eL:List.drop ((p:Int)+8).toNat (List.take ((p:Int)+12).toNat b)=(b.drop (p+8)).take 4:=by
  rw[List.drop_take,show ((p:Int)+8).toNat=p+8 by omega,show ((p:Int)+12).toNat - (p+8)=4 by omega]
 rw[eL]
 have hL:=cT (b:=b) (p:=p+8) (n:=4) (by omega)
 have hLr:=dH hb (p+8) 4
 have eI:ay b (((p:Nat):Int).toNat+8) 4=fF ((b.drop (p+8)).take 4):=by rw[zG];rfl
 have eR:i32.wrap (bn ((b.drop (p+8)).take 4) 0 4).1=fF ((b.drop (p+8)).take 4):=by
  unfold bn
  rw[if_neg (by rw[hL];decide)]
  show i32.wrap (aB ((((b.drop (p+8)).take 4).drop 0).take 4))=_
  rw[List.drop_zero,List.take_of_length_le (by rw[hL];exact Nat.le_refl 4)]
  exact nC hLr hL
 have hbd:=Hw hLr hL
 rw[eI,eR]
 refine bT (decide_eq_true (by rw[hL];omega)) ?_
 refine bT (by unfold cv;simp only[zA,zB,hL];omega) ?_
 generalize fF ((b.drop (p+8)).take 4)=n at *
 by_cases h4:n<49
 ·refine bT (decide_eq_true h4) ?_
  rw[if_pos h4]
 refine bF (decide_eq_false h4) ?_
 rw[if_neg h4]
 by_cases h5:35988<n
 ·refine bT (decide_eq_true h5) ?_
  rw[if_pos h5]
 refine bF (decide_eq_false h5) ?_
 rw[if_neg h5,af (n:=n) (by omega) (by omega),af (n:=12+n) (by omega) (by omega)]
 by_cases h6:(b.length:Int) - p - 12<n
 ·refine bT (decide_eq_true h6) ?_
  rw[if_pos h6]
 refine bF (decide_eq_false h6) ?_
 rw[if_neg h6,Int.add_comm]
def be (g:mT)(i f:Int):bf×Int:=
 if g.2.1≠i then (qt,72)
 else if i=0∧g.1≠0∨aN (f+g.1)=false then (qt,86)
 else ((f+g.1,g.2.2.1,g.2.2.2.1,g.2.2.2.2.1,()),0)
abbrev eZ:Io:=⟨[Dw,dI,dd],[],[],[LO,dI],none⟩
def qA (d:eZ.In):Tr eZ.Res:=.ret (.ret (((be d.1.1 d.1.2.1 d.1.2.2.1).1,(be d.1.1 d.1.2.1 d.1.2.2.1).2,()),()))
abbrev tZ:List (Nat×Hc):=[]
def DC:Hd:=b8 tZ
def ur:Lp:=cp []
def pe (a0 a1:Int)(a2:Bool)(a3:LI)(a4:Bool)(a5:LI)(a6:List eY.den)(a7 a8:Int):Option eZ.Res:=bif i64.wrap a1 != a7 then oR (((0,(false,[],()),(false,[],()),[],()),72,()),()) else bif a7 == 0 then bif a0 != 0 then oR (((0,(false,[],()),(false,[],()),[],()),86,()),()) else bif !decide (i64.wrap (a8+a0)<a8) == decide (a0<0) then oR (((0,(false,[],()),(false,[],()),[],()),86,()),()) else oR (((i64.wrap (a8+a0),(a2,a3,()),(a4,a5,()),a6,()),0,()),()) else bif !decide (i64.wrap (a8+a0)<a8) == decide (a0<0) then oR (((0,(false,[],()),(false,[],()),[],()),86,()),()) else oR (((i64.wrap (a8+a0),(a2,a3,()),(a4,a5,()),a6,()),0,()),())
theorem AI (a0 a1:Int)(a2:Bool)(a3:LI)(a4:Bool)(a5:LI)(a6:List eY.den)(a7 a8:Int):Io.run tt DC dr ur eZ Tryd.f30 (((a0,a1,(a2,a3,()),(a4,a5,()),a6,()),a7,a8,()),())=pe a0 a1 a2 a3 a4 a5 a6 a7 a8:=by kernel_rfl
theorem DT:HcOk prog 30 (ah eZ qA):=by
 refine cx (cs:=tZ) HcsOk.nil (lp:=ur) (fn:=Tryd.f30) eZ (.done (by kernel_rfl)) qA ?_
 rintro ⟨⟨⟨(a0:Int),(a1:Int),⟨(a2:Bool),(a3:LI),⟨⟩⟩,⟨(a4:Bool),(a5:LI),⟨⟩⟩,(a6:List d0),⟨⟩⟩,(i:Int),(f:Int),⟨⟩⟩,⟨⟩⟩ out hw ho
 cases ho
 refine (AI a0 a1 a2 a3 a4 a5 a6 i f).trans ?_
 have h0:bu .i64 a0:=hw.1.1.1
 have h1:bu .i32 a1:=hw.1.1.2.1
 have hf:bu .i64 f:=hw.1.2.2.1
 have b1:=F4 h1
 show _=oR (((be (a0,a1,(a2,a3,()),(a4,a5,()),a6,()) i f).1,(be (a0,a1,(a2,a3,()),(a4,a5,()),a6,()) i f).2,()),())
 unfold pe be
 simp only
 rw[af (n:=a1) (by omega) (by omega),Ik h0 hf]
 have hfit:aN (f+a0)=true→i64.wrap (f+a0)=f+a0:=fun h=>af (gS.1 h).1 (gS.1 h).2
 by_cases c1:a1=i
 rotate_left
 ·refine bT (by simpa using c1) ?_
  rw[if_pos c1]
  rfl
 refine bF (by simpa using c1) ?_
 rw[if_neg (aD c1)]
 by_cases c2:i=0
 ·refine bT (by simpa using c2) ?_
  by_cases c3:a0=0
  ·refine bF (by simpa using c3) ?_
   cases c4:aN (f+a0) with
   |false=>
    refine (aa rfl _ _).trans ?_
    rw[if_pos (.inr rfl)]
    rfl
   |true=>
    refine (ac rfl _ _).trans ?_
    rw[if_neg (by rintro (h | h);exact h.2 c3;cases h),hfit c4]
  ·refine bT (by simpa using c3) ?_
   rw[if_pos (.inl ⟨c2,c3⟩)]
   rfl
 ·refine bF (by simpa using c2) ?_
  cases c4:aN (f+a0) with
  |false=>
   refine (aa rfl _ _).trans ?_
   rw[if_pos (.inr rfl)]
   rfl
  |true=>
   refine (ac rfl _ _).trans ?_
   rw[if_neg (by rintro (h | h);exact c2 h.1;cases h),hfit c4]
abbrev gj:Io:=⟨[dL,dB],[],[],[dL,dI],none⟩
def uP (d:gj.In):Tr gj.Res:=.ite (decide (61≤d.1.1.length)&&decide (d.1.1.length≤4294960000)) (.ret (.ret (((aJ d.1.1 d.1.2.1).1,(aJ d.1.1 d.1.2.1).2,()),()))) .no
abbrev xp:List (Nat×Hc):=[(55,ah ju zy)]
def FN:Hd:=b8 xp
def yp:Lp:=cp []
def qP (a0:LI)(a1:Bool):Option gj.Res:=bif decide (0≤61)&&(decide (61≤(↑a0.length:Int))&&decide ((↑a0.length:Int)≤(↑a0.length:Int))) then bif a1 then bif decide (32768=32768)&&decide ((List.drop (Int.toNat 61) (List.take (↑a0.length:Int).toNat a0)).length≤4294960000) then oR (((ci (List.drop (Int.toNat 61) (List.take (↑a0.length:Int).toNat a0))).1,(ci (List.drop (Int.toNat 61) (List.take (↑a0.length:Int).toNat a0))).2,()),()) else none else bif decide (32768<(↑(List.drop (Int.toNat 61) (List.take (↑a0.length:Int).toNat a0)).length:Int)) then oR (([],4,()),()) else oR ((List.drop (Int.toNat 61) (List.take (↑a0.length:Int).toNat a0),0,()),()) else none
theorem D2 (a0:LI)(a1:Bool):Io.run tt FN dr yp gj Tryd.f28 ((a0,a1,()),())=qP a0 a1:=by kernel_rfl
theorem Gw:HcOk prog 28 (ah gj uP):=by
 refine cx (cs:=xp) (.cons I5 .nil) (lp:=yp) (fn:=Tryd.f28) gj (.done (by kernel_rfl)) uP ?_
 rintro ⟨⟨(b:LI),(packed:Bool),⟨⟩⟩,⟨⟩⟩ out hw ho
 obtain ⟨hg,ho⟩:=Tr.guard ho
 simp only[zA,zB] at hg
 have h1:61≤b.length:=hg.1
 have h2:b.length≤4294960000:=hg.2
 cases ho
 refine (D2 b packed).trans ?_
 show _=oR (((aJ b packed).1,(aJ b packed).2,()),())
 unfold qP aJ
 rw[zG,List.take_length,show Int.toNat 61=61 from rfl]
 refine bT (by simp only[zA,zB];omega) ?_
 cases packed with
 |true=>
  refine (aa rfl _ _).trans ?_
  refine bT (by simp;omega) ?_
  rfl
 |false=>
  refine (ac rfl _ _).trans ?_
  by_cases h3:32768<((b.drop 61).length:Int)
  ·refine bT (decide_eq_true h3) ?_
   rw[if_neg (by decide),if_pos h3]
  ·refine bF (decide_eq_false h3) ?_
   rw[if_neg (by decide),if_neg h3]
theorem HcOk.weakB {f:Nat}{io:Io}{Fn Fn':io.In→Tr io.Res}(h:HcOk prog f (ah io Fn))(hF:∀d y,io.wf d→(Fn' d).val=some y→(Fn d).val=some y):HcOk prog f (ah io Fn'):=by
 intro R args id A K r F G ts cst w vals hid hc Rl hv
 unfold ah at hc
 cases h1:pX io.args args (List.replicate io.obs.length Option.none) with
 |none=>rw[h1] at hc;cases hc
 |some p=>
  obtain ⟨a,β1⟩:=p
  rw[h1] at hc
  simp only at hc
  cases h2:EQ A.ob io.obs 0 β1 with
  |none=>rw[h2] at hc;cases hc
  |some q=>
   obtain ⟨o,β⟩:=q
   rw[h2] at hc
   simp only at hc
   have hn:=fun y=>hF (a,o) y ⟨wc h1 hv,Az Rl.ob h2⟩
   refine h R args id A K r F G ts cst w vals hid ?_ Rl hv
   unfold ah
   rw[h1]
   simp only[h2]
   revert hc
   cases ba ((fj (cB 0) io.args args 0++j4 A.ob β (ko io.obs.length 0) io.obs 0).map (·.2))&&(ba ((fj (cB 0) io.args args 0++j4 A.ob β (ko io.obs.length 0) io.obs 0).map (·.1))&&io.ok) with
   |false=>intro hc;cases hc
   |true=>
    intro hc
    obtain ⟨out,ho,hk⟩:=Tr.run_val hc
    exact (Tr.run_of_val (hn out ho)).trans hk
@[irreducible] def aF (b:LI)(p:Int)(n:Nat):Int:=fF ((b.drop p.toNat).take n)
theorem jb (b:LI)(p n:Nat):aF b (p:Int) n=ay b p n:=by unfold aF ay;rw[zG]
def gQ (b:LI)(p n:Int):Bool:=decide (b.length≤4294960000)&&(decide (0≤p)&&decide (p+n≤(b.length:Int)))
theorem kQ {b:LI}{p n:Int}(h:gQ b p n=true):b.length≤4294960000∧0≤p∧p+n≤(b.length:Int):=by
 simpa [gQ] using h
abbrev vH:Io:=jz
def JT (d:vH.In):Tr vH.Res:=
 .ite (gQ d.2.1.1 d.2.1.2.1 8) (.ret (.ret ((aF d.2.1.1 d.2.1.2.1 8,(0,())),((d.2.1.1,(d.2.1.2.1+8,())),())))) .no
theorem Kt:HcOk prog 47 (ah vH JT):=by
 refine HcOk.weakB Ja ?_
 rintro ⟨⟨⟨⟩,⟨⟩⟩,⟨⟨(b:LI),(p:Int),⟨⟩⟩,⟨⟩⟩⟩ y hw hy
 obtain ⟨hg,hy⟩:=Tr.guard hy
 obtain ⟨h1,h2,h3⟩:=kQ (b:=b) (p:=p) (n:=8) hg
 rw[← hy]
 obtain ⟨p,rfl⟩:=au h2
 have hb:=d7 hw.2.1.1
 have hL:=cT (b:=b) (p:=p) (n:=8) (by omega)
 have hk:cv b p=true:=by unfold cv;simp only[zA,zB];omega
 have e:bn b (p:Int) 8=(aB ((b.drop p).take 8),((p:Int)+8,0)):=by unfold bn;rw[if_neg (by omega),zG];rfl
 have e2:i64.wrap (aB ((b.drop p).take 8))=aF b (p:Int) 8:=by rw[jb];exact wy (dH hb p 8) hL
 show (vf (((),()),((b,((p:Int),())),()))).val=some (.ret ((aF b (p:Int) 8,(0,())),((b,((p:Int)+8,())),())))
 unfold vf
 rw[Tr.val_ite,if_pos hk,Tr.val_ret]
 show oR ((i64.wrap (bn b (p:Int) 8).1,((bn b (p:Int) 8).2.2,())),((b,((bn b (p:Int) 8).2.1,())),()))=_
 rw[e,← e2]
abbrev vG:Io:=hC
def JS (d:vG.In):Tr vG.Res:=
 .ite (gQ d.2.1.1 d.2.1.2.1 4) (.ret (.ret ((aF d.2.1.1 d.2.1.2.1 4,(0,())),((d.2.1.1,(d.2.1.2.1+4,())),())))) .no
theorem Kr:HcOk prog 49 (ah vG JS):=by
 refine HcOk.weakB CS ?_
 rintro ⟨⟨⟨⟩,⟨⟩⟩,⟨⟨(b:LI),(p:Int),⟨⟩⟩,⟨⟩⟩⟩ y hw hy
 obtain ⟨hg,hy⟩:=Tr.guard hy
 obtain ⟨h1,h2,h3⟩:=kQ (b:=b) (p:=p) (n:=4) hg
 rw[← hy]
 obtain ⟨p,rfl⟩:=au h2
 have hb:=d7 hw.2.1.1
 have hL:=cT (b:=b) (p:=p) (n:=4) (by omega)
 have hk:cv b p=true:=by unfold cv;simp only[zA,zB];omega
 have e:bn b (p:Int) 4=(aB ((b.drop p).take 4),((p:Int)+4,0)):=by unfold bn;rw[if_neg (by omega),zG];rfl
 have e2:i32.wrap (aB ((b.drop p).take 4))=aF b (p:Int) 4:=by rw[jb];exact nC (dH hb p 4) hL
 show (qG (((),()),((b,((p:Int),())),()))).val=some (.ret ((aF b (p:Int) 4,(0,())),((b,((p:Int)+4,())),())))
 unfold qG
 rw[Tr.val_ite,if_pos hk,Tr.val_ret]
 show oR ((i32.wrap (bn b (p:Int) 4).1,((bn b (p:Int) 4).2.2,())),((b,((bn b (p:Int) 4).2.1,())),()))=_
 rw[e,← e2]
abbrev vF:Io:=jy
def JR (d:vF.In):Tr vF.Res:=
 .ite (gQ d.2.1.1 d.2.1.2.1 2) (.ret (.ret ((aF d.2.1.1 d.2.1.2.1 2,(0,())),((d.2.1.1,(d.2.1.2.1+2,())),())))) .no
theorem Kq:HcOk prog 51 (ah vF JR):=by
 refine HcOk.weakB I9 ?_
 rintro ⟨⟨⟨⟩,⟨⟩⟩,⟨⟨(b:LI),(p:Int),⟨⟩⟩,⟨⟩⟩⟩ y hw hy
 obtain ⟨hg,hy⟩:=Tr.guard hy
 obtain ⟨h1,h2,h3⟩:=kQ (b:=b) (p:=p) (n:=2) hg
 rw[← hy]
 obtain ⟨p,rfl⟩:=au h2
 have hb:=d7 hw.2.1.1
 have hL:=cT (b:=b) (p:=p) (n:=2) (by omega)
 have hk:cv b p=true:=by unfold cv;simp only[zA,zB];omega
 have e:bn b (p:Int) 2=(aB ((b.drop p).take 2),((p:Int)+2,0)):=by unfold bn;rw[if_neg (by omega),zG];rfl
 have e2:i16.wrap (aB ((b.drop p).take 2))=aF b (p:Int) 2:=by rw[jb];exact wx (dH hb p 2) hL
 show (ve (((),()),((b,((p:Int),())),()))).val=some (.ret ((aF b (p:Int) 2,(0,())),((b,((p:Int)+2,())),())))
 unfold ve
 rw[Tr.val_ite,if_pos hk,Tr.val_ret]
 show oR ((i16.wrap (bn b (p:Int) 2).1,((bn b (p:Int) 2).2.2,())),((b,((bn b (p:Int) 2).2.1,())),()))=_
 rw[e,← e2]
abbrev Ci:Io:=mm
def K1 (d:Ci.In):Tr Ci.Res:=
 .ite (gQ d.2.1.1 d.2.1.2.1 1) (.ret (.ret ((aF d.2.1.1 d.2.1.2.1 1,(0,())),((d.2.1.1,(d.2.1.2.1+1,())),())))) .no
theorem Lm:HcOk prog 50 (ah Ci K1):=by
 refine HcOk.weakB KB ?_
 rintro ⟨⟨⟨⟩,⟨⟩⟩,⟨⟨(b:LI),(p:Int),⟨⟩⟩,⟨⟩⟩⟩ y hw hy
 obtain ⟨hg,hy⟩:=Tr.guard hy
 obtain ⟨h1,h2,h3⟩:=kQ (b:=b) (p:=p) (n:=1) hg
 rw[← hy]
 obtain ⟨p,rfl⟩:=au h2
 have hb:=d7 hw.2.1.1
 have hL:=cT (b:=b) (p:=p) (n:=1) (by omega)
 have hk:cv b p=true:=by unfold cv;simp only[zA,zB];omega
 have e:bn b (p:Int) 1=(aB ((b.drop p).take 1),((p:Int)+1,0)):=by unfold bn;rw[if_neg (by omega),zG];rfl
 have e2:i8.wrap (aB ((b.drop p).take 1))=aF b (p:Int) 1:=by rw[jb];exact KI (dH hb p 1) hL
 show (Bp (((),()),((b,((p:Int),())),()))).val=some (.ret ((aF b (p:Int) 1,(0,())),((b,((p:Int)+1,())),())))
 unfold Bp
 rw[Tr.val_ite,if_pos hk,Tr.val_ret]
 show oR ((i8.wrap (bn b (p:Int) 1).1,((bn b (p:Int) 1).2.2,())),((b,((bn b (p:Int) 1).2.1,())),()))=_
 rw[e,← e2]
abbrev qe:Io:=gA
def EU (d:qe.In):Tr qe.Res:=
 .ite (gQ d.2.1.1 d.2.1.2.1 d.1.2.1&&decide (0≤d.1.2.1)) (.ret (.ret ((0,()),((d.2.1.1,(d.2.1.2.1+d.1.2.1,())),())))) .no
theorem I2:HcOk prog 48 (ah qe EU):=by
 refine HcOk.weakB GM ?_
 rintro ⟨⟨⟨⟩,(n:Int),⟨⟩⟩,⟨⟨(b:LI),(p:Int),⟨⟩⟩,⟨⟩⟩⟩ y hw hy
 obtain ⟨hg,hy⟩:=Tr.guard hy
 simp only[zA,zB] at hg
 obtain ⟨h1,h2,h3⟩:=kQ (b:=b) (p:=p) (n:=n) hg.1
 have h4:0≤n:=hg.2
 rw[← hy]
 have hk:cv b p=true:=by unfold cv;simp only[zA,zB];omega
 have e:mH b p n=(p+n,0):=by unfold mH;rw[if_neg (by omega),if_neg (by omega)]
 show (p4 (((),(n,())),((b,(p,())),()))).val=some (.ret ((0,()),((b,(p+n,())),())))
 unfold p4
 rw[Tr.val_ite,if_pos hk,Tr.val_ret]
 show oR (((mH b p n).2,()),((b,((mH b p n).1,())),()))=_
 rw[e]
end
end Go.Proofs.YthpcdhgpplmneaaDoor.Sym
