/- rec's reader: number, take, count, blob, header. -/
import Derived.Test.YtcbcbjdobbgddaaDoorRows
import Derived.WalkKit
import Derived.ProofKit
import Derived.OpenShut
import Derived.JoinedCond
import Derived.ChangeStays
import Derived.DataReads
import Derived.Test.YtcbcbjdobbgddaaDoorQ3

set_option linter.unusedVariables false
set_option linter.unusedSimpArgs false
namespace Go.Proofs.YtcbcbjdobbgddaaDoor.Sym
open Go
open Go.IntKind (i8 i16 i32 i64 u8 u16 u32 u64)
noncomputable section
abbrev G5:Ty:=.prod (.int .i64) .unit
abbrev mD:Option (Nat×Ty):=some (108,G5)
abbrev Hg:List Sh:=[dL,dI]
abbrev de:Io:=⟨[.ptr 0 0],[Hg],[],[dI],mD⟩
def iU (d:de.In):Tr de.Res:=
 .ite (decide ((ag d.2.1.1 d.2.1.2.1).2.2=0)) (.ret (.ret (((ag d.2.1.1 d.2.1.2.1).1,()),((d.2.1.1,((ag d.2.1.1 d.2.1.2.1).2.1,())),())))) (.ret (.pan ((ag d.2.1.1 d.2.1.2.1).2.2,())))
abbrev qG:List (Nat×Hc):=[(56,ah ew nL)]
def zO:Hd:=bM qG
def qX:Lp:=cc []
def mS (a0:LI)(a1:Int):Option de.Res:=bif (ab 5 15 a0 a1).2.2 != 0 then some (Out.pan ((ab 5 15 a0 a1).2.2,())) else oR ((i64.wrap (i32.wrap (ak (ab 5 15 a0 a1).1)),()),(a0,(ab 5 15 a0 a1).2.1,()),())
theorem wH (a0:LI)(a1:Int):Io.run tt zO dr qX de Tryd.f76 (((),()),(a0,a1,()),())=mS a0 a1:=by kernel_rfl
theorem q6:HcOk prog 76 (ah de iU):=by
 refine cq (cs:=qG) (.cons uY .nil) (lp:=qX) (fn:=Tryd.f76) de (.done (by kernel_rfl)) iU ?_
 rintro ⟨⟨⟨⟩,⟨⟩⟩,⟨⟨(b:LI),(p:Int),⟨⟩⟩,⟨⟩⟩⟩ out hw ho
 refine (wH b p).trans ?_
 rw[← ho]
 have hr:=@eC b p
 unfold mS iU
 change (bif (ag b p).2.2 != 0 then some (Out.pan ((ag b p).2.2,())) else oR ((i64.wrap (ag b p).1,()),(b,(ag b p).2.1,()),()))=_
 rw[ae (n:=(ag b p).1) (by omega) (by omega)]
 simp only[Tr.val_ite,Tr.val_ret,zB]
 by_cases h:(ag b p).2.2=0
 ·rw[ac (by simpa using h),if_pos h]
 ·rw[aa (by simpa using h),if_neg h]
abbrev fb:Io:=⟨[.ptr 0 0,dI],[Hg],[],[dO],mD⟩
def om (d:fb.In):Tr fb.Res:=
 .ite (decide ((0:Int)≤d.1.2.1)&&(decide (d.1.2.1≤(4294967296:Int))&&(decide ((0:Int)≤d.2.1.2.1)&&decide (d.2.1.2.1≤(d.2.1.1.length:Int)))))
  (.ite (decide ((d.2.1.1.length:Int) - d.2.1.2.1<d.1.2.1)) (.ret (.pan (1,()))) (.ret (.ret (((d.2.1.1.drop d.2.1.2.1.toNat).take d.1.2.1.toNat,()),((d.2.1.1,((d.2.1.2.1:Int)+d.1.2.1,())),()))))) .no
abbrev xH:List (Nat×Hc):=[(44,ah cT ld)]
def Ev:Hd:=bM xH
def yp:Lp:=cc []
def qo (a0:Int)(a1:LI)(a2:Int):Option fb.Res:=bif decide (i64.wrap ((↑a1.length:Int) - a2)<a0) then some (Out.pan (1,())) else bif decide (0≤i64.wrap (i64.wrap (a2+a0) - a0))&&(decide (i64.wrap (i64.wrap (a2+a0) - a0)≤i64.wrap (a2+a0))&&decide (i64.wrap (a2+a0)≤(↑a1.length:Int))) then bif decide ((List.drop (i64.wrap (i64.wrap (a2+a0) - a0)).toNat (List.take (i64.wrap (a2+a0)).toNat a1)).length≤4294967296) then oR ((List.drop (i64.wrap (i64.wrap (a2+a0) - a0)).toNat (List.take (i64.wrap (a2+a0)).toNat a1),()),(a1,i64.wrap (a2+a0),()),()) else none else none
theorem Dh (a0:Int)(a1:LI)(a2:Int):Io.run tt Ev dr yp fb Tryd.f75 (((),a0,()),(a1,a2,()),())=qo a0 a1 a2:=by kernel_rfl
theorem sP:HcOk prog 75 (ah fb om):=by
 refine cq (cs:=xH) (.cons pc .nil) (lp:=yp) (fn:=Tryd.f75) fb (.done (by kernel_rfl)) om ?_
 rintro ⟨⟨⟨⟩,(n:Int),⟨⟩⟩,⟨⟨(b:LI),(p:Int),⟨⟩⟩,⟨⟩⟩⟩ out hw ho
 obtain ⟨hg,ho⟩:=Tr.guard ho
 simp only[zA,zB] at hg
 have h0:0≤n:=hg.1
 have h1:n≤4294967296:=hg.2.1
 have h2:0≤p:=hg.2.2.1
 have h3:p≤b.length:=hg.2.2.2
 refine (Dh n b p).trans ?_
 rw[← ho]
 have hb:b.length≤maxLen:=hw.2.1.1.1
 rw[bN] at hb
 unfold qo
 rw[ae (n:=(b.length:Int) - p) (by omega) (by omega)]
 simp only[Tr.val_ite,Tr.val_ret,zB]
 by_cases h:(b.length:Int) - p<n
 ·rw[aa (by simpa using h),if_pos h]
 ·rw[ac (by simpa using h),if_neg h,ae (n:=p+n) (by omega) (by omega),show p+n - n=p by omega,ae (n:=p) (by omega) (by omega)]
  rw[aa (by simp;omega),List.drop_take,show (p+n).toNat - p.toNat=n.toNat by omega,aa (by simp;omega)]
abbrev dp:Io:=⟨[.ptr 0 0,dI],[Hg],[],[dI],mD⟩
def jK (d:dp.In):Tr dp.Res:=
 .ite (decide ((ag d.2.1.1 d.2.1.2.1).2.2=0)) (.ite (decide ((ag d.2.1.1 d.2.1.2.1).1<d.1.2.1)) (.ret (.pan (5,()))) (.ret (.ret (((ag d.2.1.1 d.2.1.2.1).1,()),((d.2.1.1,((ag d.2.1.1 d.2.1.2.1).2.1,())),())))))
  (.ret (.pan ((ag d.2.1.1 d.2.1.2.1).2.2,())))
abbrev tU:List (Nat×Hc):=[(76,ah de iU)]
def B7:Hd:=bM tU
def uK:Lp:=cc []
def oF (a0:Int)(a1:LI)(a2:Int):Option dp.Res:=bif decide ((ab 5 15 a1 a2).2.2=0) then bif decide (i32.wrap (ak (ab 5 15 a1 a2).1)<a0) then some (Out.pan (5,())) else oR ((i32.wrap (ak (ab 5 15 a1 a2).1),()),(a1,(ab 5 15 a1 a2).2.1,()),()) else some (Out.pan ((ab 5 15 a1 a2).2.2,()))
theorem An (a0:Int)(a1:LI)(a2:Int):Io.run tt B7 dr uK dp Tryd.f78 (((),a0,()),(a1,a2,()),())=oF a0 a1 a2:=by kernel_rfl
theorem pb:HcOk prog 78 (ah dp jK):=by
 refine cq (cs:=tU) (.cons q6 .nil) (lp:=uK) (fn:=Tryd.f78) dp (.done (by kernel_rfl)) jK ?_
 rintro ⟨⟨⟨⟩,(l:Int),⟨⟩⟩,⟨⟨(b:LI),(p:Int),⟨⟩⟩,⟨⟩⟩⟩ out hw ho
 refine (An l b p).trans ?_
 rw[← ho]
 unfold oF jK
 change (bif decide ((ag b p).2.2=0) then bif decide ((ag b p).1<l) then some (Out.pan (5,())) else oR (((ag b p).1,()),(b,(ag b p).2.1,()),()) else some (Out.pan ((ag b p).2.2,())))=_
 simp only[Tr.val_ite,Tr.val_ret,cond_eq_ite]
abbrev f4:Io:=⟨[.ptr 0 0],[Hg],[],[t9],mD⟩
def ol (d:f4.In):Tr f4.Res:=
 .ite (decide ((af d.2.1.1 d.2.1.2.1 (-1)).2.2=0)) (.ret (.ret (((af d.2.1.1 d.2.1.2.1 (-1)).1,()),((d.2.1.1,((af d.2.1.1 d.2.1.2.1 (-1)).2.1,())),())))) (.ret (.pan ((af d.2.1.1 d.2.1.2.1 (-1)).2.2,())))
abbrev xG:List (Nat×Hc):=[(78,ah dp jK),(75,ah fb om)]
def Eu:Hd:=bM xG
def yo:Lp:=cc []
def qm (a0:LI)(a1:Int):Option f4.Res:=bif decide ((ab 5 15 a0 a1).2.2=0) then bif decide (i32.wrap (ak (ab 5 15 a0 a1).1) < -1) then some (Out.pan (5,())) else bif decide (i32.wrap (ak (ab 5 15 a0 a1).1)<0) then oR (((true,[],()),()),(a0,(ab 5 15 a0 a1).2.1,()),()) else bif decide (0≤i32.wrap (ak (ab 5 15 a0 a1).1))&&(decide (i32.wrap (ak (ab 5 15 a0 a1).1)≤4294967296)&&(decide (0≤(ab 5 15 a0 a1).2.1)&&decide ((ab 5 15 a0 a1).2.1≤(↑a0.length:Int)))) then bif decide ((↑a0.length:Int) - (ab 5 15 a0 a1).2.1<i32.wrap (ak (ab 5 15 a0 a1).1)) then some (Out.pan (1,())) else oR (((false,List.take (i32.wrap (ak (ab 5 15 a0 a1).1)).toNat (List.drop (ab 5 15 a0 a1).2.1.toNat a0),()),()),(a0,(ab 5 15 a0 a1).2.1+i32.wrap (ak (ab 5 15 a0 a1).1),()),()) else none else some (Out.pan ((ab 5 15 a0 a1).2.2,()))
theorem Df (a0:LI)(a1:Int):Io.run tt Eu dr yo f4 Tryd.f77 (((),()),(a0,a1,()),())=qm a0 a1:=by kernel_rfl
theorem yQ:HcOk prog 77 (ah f4 ol):=by
 refine cq (cs:=xG) (.cons pb (.cons sP .nil)) (lp:=yo) (fn:=Tryd.f77) f4 (.done (by kernel_rfl)) ol ?_
 rintro ⟨⟨⟨⟩,⟨⟩⟩,⟨⟨(b:LI),(p:Int),⟨⟩⟩,⟨⟩⟩⟩ out hw ho
 refine (Df b p).trans ?_
 rw[← ho]
 have hr:=@eC b p
 unfold qm ol
 simp only[Tr.val_ite,Tr.val_ret,zB]
 change (bif decide ((ag b p).2.2=0) then bif decide ((ag b p).1 < -1) then some (Out.pan (5,())) else bif decide ((ag b p).1<0) then oR (((true,[],()),()),(b,(ag b p).2.1,()),()) else
  bif decide (0≤(ag b p).1)&&(decide ((ag b p).1≤4294967296)&&(decide (0≤(ag b p).2.1)&&decide ((ag b p).2.1≤(b.length:Int)))) then bif decide ((b.length:Int) - (ag b p).2.1<(ag b p).1) then some (Out.pan (1,())) else
   oR (((false,List.take (ag b p).1.toNat (List.drop (ag b p).2.1.toNat b),()),()),(b,(ag b p).2.1+(ag b p).1,()),()) else none else some (Out.pan ((ag b p).2.2,())))=_
 by_cases h0:(ag b p).2.2=0
 rotate_left
 ·have e:af b p (-1)=((false,[],()),0,(ag b p).2.2):=by unfold af;rw[if_pos h0]
  rw[e,ac (by simpa using h0),if_neg h0]
 have hk:=pA h0
 rw[aa (by simpa using h0)]
 by_cases h1:(ag b p).1 < -1
 ·have e:af b p (-1)=((false,[],()),0,5):=by unfold af;rw[if_neg (by simpa using h0),if_pos h1]
  rw[e,aa (by simpa using h1)]
  rfl
 rw[ac (by simpa using h1)]
 by_cases h2:(ag b p).1<0
 ·have e:af b p (-1)=((true,[],()),(ag b p).2.1,0):=by unfold af;rw[if_neg (by simpa using h0),if_neg h1,if_pos h2]
  rw[e,aa (by simpa using h2)]
  rfl
 rw[ac (by simpa using h2),aa (by simp;omega)]
 by_cases h3:(b.length:Int) - (ag b p).2.1<(ag b p).1
 ·have e:af b p (-1)=((false,[],()),0,1):=by unfold af;rw[if_neg (by simpa using h0),if_neg h1,if_neg h2,if_pos h3]
  rw[e,aa (by simpa using h3)]
  rfl
 ·have e:af b p (-1)=((false,(b.drop (ag b p).2.1.toNat).take (ag b p).1.toNat,()),(ag b p).2.1+(ag b p).1,0):=by unfold af;rw[if_neg (by simpa using h0),if_neg h1,if_neg h2,if_neg h3]
  rw[e,ac (by simpa using h3)]
  rfl
def aA (b:LI)(p:Int):cr×Int×Int:=
 if (af b p 0).2.2≠0 then (([],(false,[],()),()),0,(af b p 0).2.2)
 else if (dC (af b p 0).1.2.1).2=false then (([],(false,[],()),()),0,6)
 else (((af b p 0).1.2.1,(af b (af b p 0).2.1 (-1)).1,()),(af b (af b p 0).2.1 (-1)).2.1,(af b (af b p 0).2.1 (-1)).2.2)
abbrev Ht:Sh:=.dat bY true false
abbrev dP:Io:=⟨[.ptr 0 0],[Hg],[],[Ht],mD⟩
def lc (d:dP.In):Tr dP.Res:=
 .ite (decide ((aA d.2.1.1 d.2.1.2.1).2.2=0)) (.ret (.ret (((aA d.2.1.1 d.2.1.2.1).1,()),((d.2.1.1,((aA d.2.1.1 d.2.1.2.1).2.1,())),())))) (.ret (.pan ((aA d.2.1.1 d.2.1.2.1).2.2,())))
abbrev qF:List (Nat×Hc):=[(78,ah dp jK),(75,ah fb om),(96,ah jh xi),(77,ah f4 ol)]
def zy:Hd:=bM qF
def qW:Lp:=cc []
def mR (a0:LI)(a1:Int):Option dP.Res:=bif decide ((ab 5 15 a0 a1).2.2=0) then bif decide (i32.wrap (ak (ab 5 15 a0 a1).1)<0) then some (Out.pan (5,())) else bif decide (0≤i32.wrap (ak (ab 5 15 a0 a1).1))&&(decide (i32.wrap (ak (ab 5 15 a0 a1).1)≤4294967296)&&(decide (0≤(ab 5 15 a0 a1).2.1)&&decide ((ab 5 15 a0 a1).2.1≤(↑a0.length:Int)))) then bif decide ((↑a0.length:Int) - (ab 5 15 a0 a1).2.1<i32.wrap (ak (ab 5 15 a0 a1).1)) then some (Out.pan (1,())) else bif !(dC (List.take (i32.wrap (ak (ab 5 15 a0 a1).1)).toNat (List.drop (ab 5 15 a0 a1).2.1.toNat a0))).2 then some (Out.pan (6,())) else bif decide ((af a0 ((ab 5 15 a0 a1).2.1+i32.wrap (ak (ab 5 15 a0 a1).1)) (-1)).2.2=0) then oR (((List.take (i32.wrap (ak (ab 5 15 a0 a1).1)).toNat (List.drop (ab 5 15 a0 a1).2.1.toNat a0),((af a0 ((ab 5 15 a0 a1).2.1+i32.wrap (ak (ab 5 15 a0 a1).1)) (-1)).1.1,(af a0 ((ab 5 15 a0 a1).2.1+i32.wrap (ak (ab 5 15 a0 a1).1)) (-1)).1.2.1,()),()),()),(a0,(af a0 ((ab 5 15 a0 a1).2.1+i32.wrap (ak (ab 5 15 a0 a1).1)) (-1)).2.1,()),()) else some (Out.pan ((af a0 ((ab 5 15 a0 a1).2.1+i32.wrap (ak (ab 5 15 a0 a1).1)) (-1)).2.2,())) else none else some (Out.pan ((ab 5 15 a0 a1).2.2,()))
theorem wG (a0:LI)(a1:Int):Io.run tt zy dr qW dP Tryd.f79 (((),()),(a0,a1,()),())=mR a0 a1:=by kernel_rfl
theorem z8:HcOk prog 79 (ah dP lc):=by
 refine cq (cs:=qF) (.cons pb (.cons sP (.cons CX (.cons yQ .nil)))) (lp:=qW) (fn:=Tryd.f79) dP (.done (by kernel_rfl)) lc ?_
 rintro ⟨⟨⟨⟩,⟨⟩⟩,⟨⟨(b:LI),(p:Int),⟨⟩⟩,⟨⟩⟩⟩ out hw ho
 refine (wG b p).trans ?_
 rw[← ho]
 have hr:=@eC b p
 unfold mR lc
 simp only[Tr.val_ite,Tr.val_ret,zB]
 have hn:i32.wrap (ak (ab 5 15 b p).1)=(ag b p).1:=rfl
 have hq:(ab 5 15 b p).2.1=(ag b p).2.1:=rfl
 have he:(ab 5 15 b p).2.2=(ag b p).2.2:=rfl
 rw[hn,hq,he]
 by_cases h0:(ag b p).2.2=0
 rotate_left
 ·have e0:af b p 0=((false,[],()),0,(ag b p).2.2):=by unfold af;rw[if_pos h0]
  have e:aA b p=(([],(false,[],()),()),0,(ag b p).2.2):=by unfold aA;rw[e0,if_pos h0]
  rw[e,ac (by simpa using h0),if_neg h0]
 have hk:=pA h0
 rw[aa (by simpa using h0)]
 by_cases h2:(ag b p).1<0
 ·have e0:af b p 0=((false,[],()),0,5):=by unfold af;rw[if_neg (by simpa using h0),if_pos h2]
  have e:aA b p=(([],(false,[],()),()),0,5):=by unfold aA;rw[e0];rfl
  rw[e,aa (by simpa using h2)]
  rfl
 rw[ac (by simpa using h2),aa (by simp;omega)]
 by_cases h3:(b.length:Int) - (ag b p).2.1<(ag b p).1
 ·have e0:af b p 0=((false,[],()),0,1):=by unfold af;rw[if_neg (by simpa using h0),if_neg h2,if_neg h2,if_pos h3]
  have e:aA b p=(([],(false,[],()),()),0,1):=by unfold aA;rw[e0];rfl
  rw[e,aa (by simpa using h3)]
  rfl
 have e0:af b p 0=((false,(b.drop (ag b p).2.1.toNat).take (ag b p).1.toNat,()),(ag b p).2.1+(ag b p).1,0):=by unfold af;rw[if_neg (by simpa using h0),if_neg h2,if_neg h2,if_neg h3]
 rw[ac (by simpa using h3)]
 by_cases h4:(dC ((b.drop (ag b p).2.1.toNat).take (ag b p).1.toNat)).2=false
 ·have e:aA b p=(([],(false,[],()),()),0,6):=by
   unfold aA
   rw[e0,if_neg (by simp),if_pos h4]
  rw[e,h4]
  rfl
 have e:aA b p=(((b.drop (ag b p).2.1.toNat).take (ag b p).1.toNat,(af b ((ag b p).2.1+(ag b p).1) (-1)).1,()),(af b ((ag b p).2.1+(ag b p).1) (-1)).2.1,(af b ((ag b p).2.1+(ag b p).1) (-1)).2.2):=by
  unfold aA
  rw[e0,if_neg (by simp),if_neg h4]
 rw[e,ac (by simpa using h4)]
 simp only[cond_eq_ite,zB]
abbrev kJ:Io:=⟨[.ptr 0 0],[Hg],[],[zt],mD⟩
def vx (b:LI):Int:=(bK b (af b (af b (ag b (ab 10 1 b 1).2.1).2.1 (-1)).2.1 (-1)).2.1).2.1
def Bb (d:kJ.In):Tr kJ.Res:=
 .ite (decide (d.2.1.2.1=(0:Int))) (.ite (decide ((cf d.2.1.1).2=0)) (.ret (.ret (((cf d.2.1.1).1,()),((d.2.1.1,(vx d.2.1.1,())),())))) (.ret (.pan ((cf d.2.1.1).2,())))) .no
abbrev rX:List (Nat×Hc):=[(76,ah de iU),(78,ah dp jK),(75,ah fb om),(71,ah jg xh),(77,ah f4 ol),(79,ah dP lc)]
def B8:Hd:=bM rX
abbrev cG:Lo:=⟨⟨(.one (.ptr 0 0)::.any::.one (.ptr 3 0)::.one (.ptr 4 0)::.any::al (al (al (fc (.one hI::.one hI::al (cV (cy []))))))),[some [.hol (.sl 5 (Ty.int u8)),hI],none,none,some [hI,hJ,hL,.onl 5 (Ty.int u8) 1544,hL,.onl 5 (Ty.int u8) 1548,.onl 141 (Ty.str.prod ((Ty.bool.prod ((Ty.sl 5 (Ty.int u8)).prod Ty.unit)).prod Ty.unit)) 1550],some [hI,hJ,hL,.hol (.sl 5 (Ty.int u8)),hL,.hol (.sl 5 (Ty.int u8)),.onl 141 (Ty.str.prod ((Ty.bool.prod ((Ty.sl 5 (Ty.int u8)).prod Ty.unit)).prod Ty.unit)) 2062]]⟩,[(.panic 108 ((Ty.int i64).prod Ty.unit),⟨(.any::al (al (al (al (al (cV [])))))),[]⟩),(.exit 0,⟨(.one (.ptr 0 0)::.any::.one (.ptr 3 0)::.one (.ptr 4 0)::.any::al (al (al (al (al []))))),[some [.hol (.sl 5 (Ty.int u8)),hI],none,none,some [hI,hJ,hL,.onl 5 (Ty.int u8) 1544,hL,.onl 5 (Ty.int u8) 1548,.onl 141 (Ty.str.prod ((Ty.bool.prod ((Ty.sl 5 (Ty.int u8)).prod Ty.unit)).prod Ty.unit)) 1550],some [hI,hJ,hL,.hol (.sl 5 (Ty.int u8)),hL,.hol (.sl 5 (Ty.int u8)),.onl 141 (Ty.str.prod ((Ty.bool.prod ((Ty.sl 5 (Ty.int u8)).prod Ty.unit)).prod Ty.unit)) 2062]]⟩)]⟩
def iV (d:cG.st.den):Tr (aq cG.xs):=
 .ite (decide (d.1.2.1=(0:Int))&&(decide ((0:Int)≤d.1.1)&&(decide (d.1.1≤(16:Int))&&decide (d.2.2.2.1.2.2.2.2.2.2.1=([]:List cr)))))
  (.ite (decide ((bE d.2.1.1 (d.1.1:Int).toNat [] d.2.1.2.1).2.2=(0:Int)))
   (.ret (.pan (.ret ((),((),((d.2.1.1,((bE d.2.1.1 (d.1.1:Int).toNat [] d.2.1.2.1).2.1,())),(d.2.2.1,((d.2.2.2.1.1,(d.2.2.2.1.2.1,(d.2.2.2.1.2.2.1,(d.2.2.2.1.2.2.2.1,(d.2.2.2.1.2.2.2.2.1,(d.2.2.2.1.2.2.2.2.2.1,((bE d.2.1.1 (d.1.1:Int).toNat [] d.2.1.2.1).1,()))))))),()))))))))
   (.ret (.ret (((bE d.2.1.1 (d.1.1:Int).toNat [] d.2.1.2.1).2.2,()),((),()))))) .no
def sH:Lp:=cc [(19,aI cG iV)]
def nr {R:Type}(h2 h3:Int)(h4:LI)(h5 h6 h7:Int)(h8:Bool)(h9:LI)(h10:Bool)(h11:LI)(h12:List (Ty.str.prod ((Ty.bool.prod ((Ty.sl 5 (Ty.int u8)).prod Ty.unit)).prod Ty.unit)).den)(h13 h14:Int)(h15:Bool)(h16:LI)(h17:Bool)(h18:LI)(h19:List (Ty.str.prod ((Ty.bool.prod ((Ty.sl 5 (Ty.int u8)).prod Ty.unit)).prod Ty.unit)).den)(next:Int→Int→LI→Int→Int→Int→Bool→LI→Bool→LI→List (Ty.str.prod ((Ty.bool.prod ((Ty.sl 5 (Ty.int u8)).prod Ty.unit)).prod Ty.unit)).den→Int→Int→Bool→LI→Bool→LI→List (Ty.str.prod ((Ty.bool.prod ((Ty.sl 5 (Ty.int u8)).prod Ty.unit)).prod Ty.unit)).den→Option R)(out:aq cG.xs→Option R):Option R:=bif decide (h3<h2) then bif decide ((aA h4 h5).2.2=0) then bif !([[Sh.dat (Ty.sl 5 (Ty.int u8)) false false,Sh.dat (Ty.int i64) false false]].length+3 == 1+69 || false)&&true&&decide (h19.length+[((aA h4 h5).1.1,((aA h4 h5).1.2.1.1,(aA h4 h5).1.2.1.2.1,()),())].length≤4294967296) then next (h2) (i64.wrap (h3+1)) (h4) ((aA h4 h5).2.1) (h6) (h7) (h8) (h9) (h10) (h11) (h12) (h13) (h14) (h15) (h16) (h17) (h18) (h19++[((aA h4 h5).1.1,((aA h4 h5).1.2.1.1,(aA h4 h5).1.2.1.2.1,()),())]) else none else out (.ret (((aA h4 h5).2.2,()),((),()))) else out (.pan (.ret ((),((),((h4,(h5,())),((h6,(h7,(h8,(h9,(h10,(h11,(h12,()))))))),((h13,(h14,(h15,(h16,(h17,(h18,(h19,()))))))),())))))))
def mz (n:Nat)(h2 h3:Int)(h4:LI)(h5 h6 h7:Int)(h8:Bool)(h9:LI)(h10:Bool)(h11:LI)(h12:List (Ty.str.prod ((Ty.bool.prod ((Ty.sl 5 (Ty.int u8)).prod Ty.unit)).prod Ty.unit)).den)(h13 h14:Int)(h15:Bool)(h16:LI)(h17:Bool)(h18:LI)(h19:List (Ty.str.prod ((Ty.bool.prod ((Ty.sl 5 (Ty.int u8)).prod Ty.unit)).prod Ty.unit)).den):Option (aq cG.xs):=kW tt B8 dr sH 1 Tryd.f57 (dF Tryd.f57 0) n (cG.st.mk' ((h2,(h3,())),((h4,(h5,())),((h6,(h7,(h8,(h9,(h10,(h11,(h12,()))))))),((h13,(h14,(h15,(h16,(h17,(h18,(h19,()))))))),()))))) (ct cG.xs)
theorem AF (n:Nat)(h2 h3:Int)(h4:LI)(h5 h6 h7:Int)(h8:Bool)(h9:LI)(h10:Bool)(h11:LI)(h12:List (Ty.str.prod ((Ty.bool.prod ((Ty.sl 5 (Ty.int u8)).prod Ty.unit)).prod Ty.unit)).den)(h13 h14:Int)(h15:Bool)(h16:LI)(h17:Bool)(h18:LI)(h19:List (Ty.str.prod ((Ty.bool.prod ((Ty.sl 5 (Ty.int u8)).prod Ty.unit)).prod Ty.unit)).den):mz (n+1) h2 h3 h4 h5 h6 h7 h8 h9 h10 h11 h12 h13 h14 h15 h16 h17 h18 h19=nr h2 h3 h4 h5 h6 h7 h8 h9 h10 h11 h12 h13 h14 h15 h16 h17 h18 h19 (mz n) some:=by kernel_rfl
theorem p4 (b:LI)(m:Nat)(o:List cr)(p:Int):bE b (m+1) o p=if (aA b p).2.2≠0 then ([],0,(aA b p).2.2) else bE b m (o++[(aA b p).1]) (aA b p).2.1:=by
 rw[bE]
 by_cases a1:(af b p 0).2.2=0
 ·rw[if_neg (by simpa using a1)]
  by_cases a2:(dC (af b p 0).1.2.1).2=false
  ·have e:aA b p=(([],(false,[],()),()),0,6):=by unfold aA;rw[if_neg (by simpa using a1),if_pos a2]
   rw[if_pos a2,e]
   rfl
  ·have e:aA b p=(((af b p 0).1.2.1,(af b (af b p 0).2.1 (-1)).1,()),(af b (af b p 0).2.1 (-1)).2.1,(af b (af b p 0).2.1 (-1)).2.2):=by unfold aA;rw[if_neg (by simpa using a1),if_neg a2]
   rw[if_neg a2,e]
 ·have e:aA b p=(([],(false,[],()),()),0,(af b p 0).2.2):=by unfold aA;rw[if_pos a1]
  rw[if_pos a1,e,if_pos a1]
theorem aP {α:Type}{a b:α}(h:a=b):¬ a≠b:=fun h'=>h' h
theorem Cr (b:LI)(n:Int)(hn:0≤n)(hn':n≤16)(h6 h7:Int)(h8:Bool)(h9:LI)(h10:Bool)(h11:LI)(h12:List cr)(h13 h14:Int)(h15:Bool)(h16:LI)(h17:Bool)(h18:LI):∀(k m:Nat) (p:Int) (o:List cr) (i:Int),i+m=n→0≤i→m<k→o.length=i.toNat→
  mz k n i b p h6 h7 h8 h9 h10 h11 h12 h13 h14 h15 h16 h17 h18 o=if (bE b m o p).2.2=0 then some (.pan (.ret ((),((),((b,((bE b m o p).2.1,())),((h6,(h7,(h8,(h9,(h10,(h11,(h12,()))))))),((h13,(h14,(h15,(h16,(h17,(h18,((bE b m o p).1,()))))))),()))))))) else some (.ret (((bE b m o p).2.2,()),((),()))):=by
 intro k
 induction k with
 |zero=>intro m p o i h1 h2 h3;omega
 |succ k ih=>
  intro m p o i h1 h2 h3 h4
  rw[AF]
  unfold nr
  cases m with
  |zero=>
   rw[ac (by simp;omega),if_pos (by rfl)]
   rfl
  |succ m=>
   rw[aa (by simp;omega),p4]
   by_cases a1:(aA b p).2.2=0
   ·rw[aa (by simpa using a1),if_neg (aP a1)]
    have hg:decide (o.length+[((aA b p).1.1,((aA b p).1.2.1.1,(aA b p).1.2.1.2.1,()),())].length≤4294967296)=true:=decide_eq_true (show o.length+1≤4294967296 by omega)
    rw[aa (by rw[zA];exact ⟨rfl,hg⟩),ae (n:=i+1) (by omega) (by omega)]
    exact ih m _ _ (i+1) (by omega) (by omega) (by omega) (by simp;omega)
   ·rw[ac (by simpa using a1),if_pos a1,if_neg a1]
def tB (a0:LI)(a1:Int):Option kJ.Res:=bif decide (0≤1)&&(decide (1≤4294967296)&&(decide (0≤a1)&&decide (a1≤(↑a0.length:Int)))) then bif decide ((↑a0.length:Int) - a1<1) then some (Out.pan (1,())) else bif decide (0≤0)&&decide (0<(↑(List.take (Int.toNat 1) (List.drop a1.toNat a0)).length:Int)) then bif (List.take (Int.toNat 1) (List.drop a1.toNat a0)).getD (Int.toNat 0) 0 != 0 then some (Out.pan (71,())) else bif (ab 10 1 a0 (a1+1)).2.2 != 0 then some (Out.pan ((ab 10 1 a0 (a1+1)).2.2,())) else bif decide ((ab 5 15 a0 (ab 10 1 a0 (a1+1)).2.1).2.2=0) then bif decide (i32.wrap (ak (ab 5 15 a0 (ab 10 1 a0 (a1+1)).2.1).1)<0) then some (Out.pan (72,())) else bif decide ((af a0 (ab 5 15 a0 (ab 10 1 a0 (a1+1)).2.1).2.1 (-1)).2.2=0) then bif decide ((af a0 (af a0 (ab 5 15 a0 (ab 10 1 a0 (a1+1)).2.1).2.1 (-1)).2.1 (-1)).2.2=0) then bif decide ((ab 5 15 a0 (af a0 (af a0 (ab 5 15 a0 (ab 10 1 a0 (a1+1)).2.1).2.1 (-1)).2.1 (-1)).2.1).2.2=0) then bif decide (i32.wrap (ak (ab 5 15 a0 (af a0 (af a0 (ab 5 15 a0 (ab 10 1 a0 (a1+1)).2.1).2.1 (-1)).2.1 (-1)).2.1).1)<0) then some (Out.pan (5,())) else bif decide (16<i32.wrap (ak (ab 5 15 a0 (af a0 (af a0 (ab 5 15 a0 (ab 10 1 a0 (a1+1)).2.1).2.1 (-1)).2.1 (-1)).2.1).1)) then some (Out.pan (9,())) else (iV ((i32.wrap (ak (ab 5 15 a0 (af a0 (af a0 (ab 5 15 a0 (ab 10 1 a0 (a1+1)).2.1).2.1 (-1)).2.1 (-1)).2.1).1),(0,())),((a0,((ab 5 15 a0 (af a0 (af a0 (ab 5 15 a0 (ab 10 1 a0 (a1+1)).2.1).2.1 (-1)).2.1 (-1)).2.1).2.1,())),((0,(0,(false,([],(false,([],([],()))))))),((ak (ab 10 1 a0 (a1+1)).1,(i32.wrap (i32.wrap (ak (ab 5 15 a0 (ab 10 1 a0 (a1+1)).2.1).1)),((af a0 (ab 5 15 a0 (ab 10 1 a0 (a1+1)).2.1).2.1 (-1)).1.1,((af a0 (ab 5 15 a0 (ab 10 1 a0 (a1+1)).2.1).2.1 (-1)).1.2.1,((af a0 (af a0 (ab 5 15 a0 (ab 10 1 a0 (a1+1)).2.1).2.1 (-1)).2.1 (-1)).1.1,((af a0 (af a0 (ab 5 15 a0 (ab 10 1 a0 (a1+1)).2.1).2.1 (-1)).2.1 (-1)).1.2.1,([],()))))))),()))))).run fun y=>match y with | .ret ((x54,()),((),()))=>(some (Out.pan (x54,()))) | .pan (.ret ((),((),(x55,x56,()),(x57,x58,x59,x60,x61,x62,x63,()),(x64,x65,x66,x67,x68,x69,x70,()),())))=>(bif decide (x56<(↑x55.length:Int)) then some (Out.pan (2,())) else oR (((x64,x65,(x66,x67,()),(x68,x69,()),x70,()),()),(x55,x56,()),())) else some (Out.pan ((ab 5 15 a0 (af a0 (af a0 (ab 5 15 a0 (ab 10 1 a0 (a1+1)).2.1).2.1 (-1)).2.1 (-1)).2.1).2.2,())) else some (Out.pan ((af a0 (af a0 (ab 5 15 a0 (ab 10 1 a0 (a1+1)).2.1).2.1 (-1)).2.1 (-1)).2.2,())) else some (Out.pan ((af a0 (ab 5 15 a0 (ab 10 1 a0 (a1+1)).2.1).2.1 (-1)).2.2,())) else some (Out.pan ((ab 5 15 a0 (ab 10 1 a0 (a1+1)).2.1).2.2,())) else none else none
theorem Fg (a0:LI)(a1:Int):Io.run tt B8 dr sH kJ Tryd.f57 (((),()),(a0,a1,()),())=tB a0 a1:=by kernel_rfl
theorem GH:HcOk prog 57 (ah kJ Bb):=by
 have hcs:HcsOk prog rX:=.cons q6 (.cons pb (.cons sP (.cons CW (.cons yQ (.cons z8 .nil)))))
 refine cq (cs:=rX) hcs (lp:=sH) (fn:=Tryd.f57) kJ
  (.step (h0:=aI cG iV) (by kernel_rfl) (lL (cs:=rX) hcs (lp:=sH) (fn:=Tryd.f57) (.done (by kernel_rfl)) cG iV ?_) (.done (by kernel_rfl))) Bb ?_
 ·rintro ⟨⟨(n:Int),(i:Int),⟨⟩⟩,⟨(b:LI),(p:Int),⟨⟩⟩,⟨(h6:Int),(h7:Int),(h8:Bool),(h9:LI),(h10:Bool),(h11:LI),(h12:List cr),⟨⟩⟩,⟨(h13:Int),(h14:Int),(h15:Bool),(h16:LI),(h17:Bool),(h18:LI),(o:List cr),⟨⟩⟩,⟨⟩⟩ y hw hy
  obtain ⟨hg,hy⟩:=Tr.guard hy
  simp only[zA,zB] at hg
  obtain ⟨hi,h0,hs,ho⟩:=hg
  have hi:i=0:=hi
  have h0:0≤n:=h0
  have hs:n≤16:=hs
  have ho:o=[]:=ho
  subst hi ho
  refine ⟨n.toNat+1,(Cr b n h0 hs h6 h7 h8 h9 h10 h11 h12 h13 h14 h15 h16 h17 h18 _ n.toNat p [] 0 (by omega) (by omega) (by omega) rfl).trans ?_⟩
  rw[← hy]
  simp only[Tr.val_ite,zB,Tr.val_ret]
 ·rintro ⟨⟨⟨⟩,⟨⟩⟩,⟨⟨(b:LI),(p:Int),⟨⟩⟩,⟨⟩⟩⟩ out hw ho
  obtain ⟨hg,ho⟩:=Tr.guard ho
  have hg:p=0:=by simpa using hg
  subst hg
  refine (Fg b 0).trans ?_
  rw[← ho]
  simp only[Tr.val_ite,Tr.val_ret,zB]
  unfold tB
  rw[aa (by simp)]
  by_cases h0:b.length=0
  ·have e:cf b=(aW,1):=by unfold cf;rw[if_pos h0]
   rw[e,aa (by simp;omega)]
   rfl
  rw[ac (by simp;omega)]
  obtain ⟨c,l,rfl⟩:∃c l,b=c::l:=by
   cases b with
   |nil=>exact absurd rfl h0
   |cons c l=>exact ⟨c,l,rfl⟩
  rw[aa (by simp)]
  by_cases h1:c=0
  rotate_left
  ·have e:cf (c::l)=(aW,71):=by unfold cf;rw[if_neg h0,if_pos (by simpa using h1)]
   rw[e,aa (by simpa using h1)]
   rfl
  have h1':(c::l).getD 0 0=0:=h1
  rw[ac (by simpa using h1)]
  generalize hb:c::l=b at *
  have hz:(0:Int)+1=1:=rfl
  rw[hz]
  by_cases h2:(ab 10 1 b 1).2.2=0
  rotate_left
  ·have e:cf b=(aW,(ab 10 1 b 1).2.2):=by unfold cf;rw[if_neg h0,if_neg (by simpa using h1'),if_pos h2]
   rw[e,aa (by simpa using h2),if_neg h2]
  rw[ac (by simpa using h2)]
  have hr:=@eC b
  have hE:vx b=(bK b (af b (af b (ag b (ab 10 1 b 1).2.1).2.1 (-1)).2.1 (-1)).2.1).2.1:=rfl
  generalize hq1:(ab 10 1 b 1).2.1=q1 at *
  have eR:cf b=if (ag b q1).2.2≠0 then (aW,(ag b q1).2.2) else if (ag b q1).1<0 then (aW,72) else if (af b (ag b q1).2.1 (-1)).2.2≠0 then (aW,(af b (ag b q1).2.1 (-1)).2.2) else
   if (af b (af b (ag b q1).2.1 (-1)).2.1 (-1)).2.2≠0 then (aW,(af b (af b (ag b q1).2.1 (-1)).2.1 (-1)).2.2) else
   if (bK b (af b (af b (ag b q1).2.1 (-1)).2.1 (-1)).2.1).2.2≠0 then (aW,(bK b (af b (af b (ag b q1).2.1 (-1)).2.1 (-1)).2.1).2.2) else
   if (bK b (af b (af b (ag b q1).2.1 (-1)).2.1 (-1)).2.1).2.1<(b.length:Int) then (aW,2) else
   ((ak (ab 10 1 b 1).1,(ag b q1).1,(af b (ag b q1).2.1 (-1)).1,(af b (af b (ag b q1).2.1 (-1)).2.1 (-1)).1,(bK b (af b (af b (ag b q1).2.1 (-1)).2.1 (-1)).2.1).1,()),0):=by
   unfold cf;rw[if_neg h0,if_neg (by simpa using h1'),if_neg (by simpa using h2),hq1]
  have hn:∀p,i32.wrap (ak (ab 5 15 b p).1)=(ag b p).1:=fun _=>rfl
  have hq:∀p,(ab 5 15 b p).2.1=(ag b p).2.1:=fun _=>rfl
  have he:∀p,(ab 5 15 b p).2.2=(ag b p).2.2:=fun _=>rfl
  have hw32:i32.wrap (ag b q1).1=(ag b q1).1:=be (k:=.i32) (bB _ _)
  simp only[hn,hq,he]
  rw[eR,hE,hw32]
  by_cases c1:(ag b q1).2.2=0
  rotate_left
  ·rw[ac (by simpa using c1),if_pos c1,if_neg c1]
  rw[aa (by simpa using c1),if_neg (aP c1)]
  by_cases c2:(ag b q1).1<0
  ·rw[aa (by simpa using c2),if_pos c2];rfl
  rw[ac (by simpa using c2),if_neg c2]
  generalize hT1:af b (ag b q1).2.1 (-1)=T1
  by_cases c3:T1.2.2=0
  rotate_left
  ·rw[ac (by simpa using c3),if_pos c3,if_neg c3]
  rw[aa (by simpa using c3),if_neg (aP c3)]
  generalize hT2:af b T1.2.1 (-1)=T2
  by_cases c4:T2.2.2=0
  rotate_left
  ·rw[ac (by simpa using c4),if_pos c4,if_neg c4]
  rw[aa (by simpa using c4),if_neg (aP c4)]
  by_cases c5:(ag b T2.2.1).2.2=0
  rotate_left
  ·have eH:bK b T2.2.1=([],0,(ag b T2.2.1).2.2):=by unfold bK;rw[if_pos c5]
   rw[ac (by simpa using c5),eH,if_pos c5,if_neg c5]
  rw[aa (by simpa using c5)]
  by_cases c6:(ag b T2.2.1).1<0
  ·have eH:bK b T2.2.1=([],0,5):=by unfold bK;rw[if_neg (aP c5),if_pos c6]
   rw[aa (by simpa using c6),eH];rfl
  rw[ac (by simpa using c6)]
  by_cases c7:16<(ag b T2.2.1).1
  ·have eH:bK b T2.2.1=([],0,9):=by unfold bK;rw[if_neg (aP c5),if_neg c6,if_pos c7]
   rw[aa (by simpa using c7),eH];rfl
  have eH:bK b T2.2.1=bE b (ag b T2.2.1).1.toNat [] (ag b T2.2.1).2.1:=by unfold bK;rw[if_neg (aP c5),if_neg c6,if_neg c7]
  rw[ac (by simpa using c7),eH]
  unfold iV
  simp only[Tr.run_ite,Tr.run_ret]
  have hgd:(decide True&&(decide ((0:Int)≤(ag b T2.2.1).1)&&(decide ((ag b T2.2.1).1≤(16:Int))&&decide True)))=true:=by
   simp only[zA,zB]
   exact ⟨trivial,by omega,by omega,trivial⟩
  rw[if_pos hgd]
  generalize bE b (ag b T2.2.1).1.toNat [] (ag b T2.2.1).2.1=r
  by_cases c8:r.2.2=0
  ·rw[if_pos (decide_eq_true c8),if_neg (aP c8)]
   by_cases c9:r.2.1<(b.length:Int)
   ·simp only[c9,decide_true,cond_true,if_true]
    rfl
   ·simp only[c9,decide_false,cond_false,if_false]
    rfl
  ·rw[if_neg (by simpa using c8),if_pos c8,if_neg c8]
abbrev kG:Io:=⟨[dL,dI],[],[],[zt,dI,dI],none⟩
def A8 (d:kG.In):Tr kG.Res:=.ret (.ret (((an d.1.1 d.1.2.1).1,(an d.1.1 d.1.2.1).2.1,(an d.1.1 d.1.2.1).2.2,()),()))
abbrev Bx:List (Nat×Hc):=[(56,ah ew nL),(57,ah kJ Bb)]
def Ga:Hd:=bM Bx
def Cu:Lp:=cc []
def tz (a0:LI)(a1:Int):Option kG.Res:=bif (ab 5 15 a0 a1).2.2 != 0 then oR (((0,0,(false,[],()),(false,[],()),[],()),0,(ab 5 15 a0 a1).2.2,()),()) else bif decide (i32.wrap (ak (ab 5 15 a0 a1).1)<0) then oR (((0,0,(false,[],()),(false,[],()),[],()),0,5,()),()) else bif decide (16384<i32.wrap (ak (ab 5 15 a0 a1).1)) then oR (((0,0,(false,[],()),(false,[],()),[],()),0,4,()),()) else bif decide (i64.wrap ((↑a0.length:Int) - (ab 5 15 a0 a1).2.1)<i64.wrap (i32.wrap (ak (ab 5 15 a0 a1).1))) then oR (((0,0,(false,[],()),(false,[],()),[],()),0,1,()),()) else bif decide (0≤(ab 5 15 a0 a1).2.1)&&(decide ((ab 5 15 a0 a1).2.1≤i64.wrap ((ab 5 15 a0 a1).2.1+i64.wrap (i32.wrap (ak (ab 5 15 a0 a1).1))))&&(decide (i64.wrap ((ab 5 15 a0 a1).2.1+i64.wrap (i32.wrap (ak (ab 5 15 a0 a1).1)))≤i64.wrap ((ab 5 15 a0 a1).2.1+i64.wrap (i32.wrap (ak (ab 5 15 a0 a1).1))))&&decide (i64.wrap ((ab 5 15 a0 a1).2.1+i64.wrap (i32.wrap (ak (ab 5 15 a0 a1).1)))≤(↑a0.length:Int)))) then bif decide ((cf (List.drop (ab 5 15 a0 a1).2.1.toNat (List.take (i64.wrap ((ab 5 15 a0 a1).2.1+i64.wrap (i32.wrap (ak (ab 5 15 a0 a1).1)))).toNat a0))).2=0) then oR ((((cf (List.drop (ab 5 15 a0 a1).2.1.toNat (List.take (i64.wrap ((ab 5 15 a0 a1).2.1+i64.wrap (i32.wrap (ak (ab 5 15 a0 a1).1)))).toNat a0))).1.1,(cf (List.drop (ab 5 15 a0 a1).2.1.toNat (List.take (i64.wrap ((ab 5 15 a0 a1).2.1+i64.wrap (i32.wrap (ak (ab 5 15 a0 a1).1)))).toNat a0))).1.2.1,((cf (List.drop (ab 5 15 a0 a1).2.1.toNat (List.take (i64.wrap ((ab 5 15 a0 a1).2.1+i64.wrap (i32.wrap (ak (ab 5 15 a0 a1).1)))).toNat a0))).1.2.2.1.1,(cf (List.drop (ab 5 15 a0 a1).2.1.toNat (List.take (i64.wrap ((ab 5 15 a0 a1).2.1+i64.wrap (i32.wrap (ak (ab 5 15 a0 a1).1)))).toNat a0))).1.2.2.1.2.1,()),((cf (List.drop (ab 5 15 a0 a1).2.1.toNat (List.take (i64.wrap ((ab 5 15 a0 a1).2.1+i64.wrap (i32.wrap (ak (ab 5 15 a0 a1).1)))).toNat a0))).1.2.2.2.1.1,(cf (List.drop (ab 5 15 a0 a1).2.1.toNat (List.take (i64.wrap ((ab 5 15 a0 a1).2.1+i64.wrap (i32.wrap (ak (ab 5 15 a0 a1).1)))).toNat a0))).1.2.2.2.1.2.1,()),(cf (List.drop (ab 5 15 a0 a1).2.1.toNat (List.take (i64.wrap ((ab 5 15 a0 a1).2.1+i64.wrap (i32.wrap (ak (ab 5 15 a0 a1).1)))).toNat a0))).1.2.2.2.2.1,()),i64.wrap ((ab 5 15 a0 a1).2.1+i64.wrap (i32.wrap (ak (ab 5 15 a0 a1).1))),0,()),()) else oR (((0,0,(false,[],()),(false,[],()),[],()),0,(cf (List.drop (ab 5 15 a0 a1).2.1.toNat (List.take (i64.wrap ((ab 5 15 a0 a1).2.1+i64.wrap (i32.wrap (ak (ab 5 15 a0 a1).1)))).toNat a0))).2,()),()) else none
theorem Fd (a0:LI)(a1:Int):Io.runD tt Ga dr Cu 64 128 kG Tryd.f28 55 Tryd.f55 11 ((a0,a1,()),())=tz a0 a1:=by kernel_rfl
theorem GE:HcOk prog 28 (ah kG A8):=by
 have htt:=cY Tryd.prog 400
 have hcs:HcsOk prog Bx:=.cons uY (.cons GH .nil)
 refine ua (P:=prog) htt hm (gz hcs) (cK htt) (fn:=Tryd.f28) (by kernel_rfl) (by kernel_rfl) kG (kb2:=64) (kbG:=128) (by decide) (by decide)
  (i1:=1) (ops1:=fL (iy (fN (aB Tryd.f28)))) (by kernel_rfl) rfl (by kernel_rfl)
  (o1:=((fL (iy (fN (aB Tryd.f28))))[1]?).getD default) (t:=11) (aT:=#[]) (by kernel_rfl) (by kernel_rfl) (by kernel_rfl) (by kernel_rfl) (lp:=Cu) (by kernel_rfl) (j3 (by kernel_rfl))
  (g:=55) (gfn:=Tryd.f55) (i2:=0) (gops:=fL (iy (aB Tryd.f55))) (grest:=fN (aB Tryd.f55))
  (by kernel_rfl) (by kernel_rfl) (by kernel_rfl) rfl rfl (by kernel_rfl) (oo:=((fL (iy (aB Tryd.f55)))[0]?).getD default) (by kernel_rfl) (by kernel_rfl) (by kernel_rfl) (by kernel_rfl) (by kernel_rfl) A8 ?_
 rintro ⟨⟨(b:LI),(p:Int),⟨⟩⟩,⟨⟩⟩ out hw ho
 cases ho
 refine (Fd b p).trans ?_
 have hb:b.length≤maxLen:=hw.1.1.1
 rw[bN] at hb
 show _=oR (((an b p).1,(an b p).2.1,(an b p).2.2,()),())
 have hr:=@eC b p
 unfold tz
 by_cases h0:(ag b p).2.2=0
 rotate_left
 ·have h0':(ab 5 15 b p).2.2≠0:=h0
  have e:an b p=(aW,0,(ab 5 15 b p).2.2):=by unfold an;rw[if_pos h0];rfl
  rw[e,aa (by simpa using h0')]
  rfl
 have hk:=pA h0
 have h0':(ab 5 15 b p).2.2=0:=h0
 rw[ac (by simpa using h0')]
 generalize hq:(ab 5 15 b p).2.1=q
 generalize hn:IntKind.wrap .i32 (ak (ab 5 15 b p).1)=n
 have hq:(ag b p).2.1=q:=hq
 have hn:(ag b p).1=n:=hn
 have e0:an b p=if n<0 then (aW,0,5) else if 16384<n then (aW,0,4) else if (b.length:Int) - q<n then (aW,0,1)
   else if (cf ((b.drop q.toNat).take n.toNat)).2≠0 then (aW,0,(cf ((b.drop q.toNat).take n.toNat)).2)
   else ((cf ((b.drop q.toNat).take n.toNat)).1,q+n,0):=by unfold an;rw[if_neg (by simpa using h0),hq,hn]
 rw[e0]
 rw[hq] at hk
 rw[hn] at hr
 by_cases h1:n<0
 ·rw[aa (by simpa using h1),if_pos h1]
  rfl
 rw[ac (by simpa using h1),if_neg h1]
 by_cases h2:16384<n
 ·rw[aa (by simpa using h2),if_pos h2]
  rfl
 rw[ac (by simpa using h2),if_neg h2,ae (n:=(b.length:Int) - q) (by omega) (by omega),ae (n:=n) (by omega) (by omega)]
 by_cases h3:(b.length:Int) - q<n
 ·rw[aa (by simpa using h3),if_pos h3]
  rfl
 rw[ac (by simpa using h3),if_neg h3,ae (n:=q+n) (by omega) (by omega),aa (by simp;omega),List.drop_take,show (q+n).toNat - q.toNat=n.toNat by omega]
 generalize cf ((b.drop q.toNat).take n.toNat)=r
 by_cases h4:r.2=0
 ·rw[aa (by simpa using h4),if_neg (aP h4)]
 ·rw[ac (by simpa using h4),if_pos h4]
  rfl
def iL (b:th):Bool:=b.1&&decide ((0:Int)<(b.2.1.length:Int))
def b9 (b:th):LI:=if b.1=true then bD (aF (-1)) else bD (aF b.2.1.length)++b.2.1
def ze (h:cr):LI:=bD (aF h.1.length)++(h.1++b9 h.2.1)
def cU (hs:List cr):LI:=hs.flatMap ze
def co (r:kc):LI:=0::(bD (aF r.1)++(bD (aF r.2.1)++(b9 r.2.2.1++(b9 r.2.2.2.1++(bD (aF r.2.2.2.2.1.length)++cU r.2.2.2.2.1)))))
def dA:List cr→Int
 |[]=>0
 |h::hs=>if (dC h.1).2=false then 6 else if iL h.2.1=true then 70 else dA hs
def ff (r:kc):Int:=
 if r.2.1<0 then 72 else if iL r.2.2.1=true∨iL r.2.2.2.1=true then 70 else if 16<(r.2.2.2.2.1.length:Int) then 9 else dA r.2.2.2.2.1
def bk (r:kc):Int:=if ff r≠0 then ff r else if 16384<((co r).length:Int) then 4 else 0
def cp (r:kc):LI×Int:=if bk r=0 then (co r,0) else ([],bk r)
def ce (r:kc):LI×Int:=if bk r=0 then (bD (aF (co r).length)++co r,0) else ([],bk r)
def mN (r:kc):Bool:=decide ((co r).length≤4294967000)
theorem re (u:Int):(bD u).length≤11:=by
 unfold bD
 have:=vv 10 u
 simp only[zH,zN,List.length_nil]
 omega
abbrev kI:Io:=⟨[t9],[],[],[dB],none⟩
def Ba (d:kI.In):Tr kI.Res:=.ret (.ret ((iL d.1.1,()),()))
abbrev Bz:List (Nat×Hc):=[]
def Gc:Hd:=bM Bz
def Cw:Lp:=cc []
def Bl (a0:Bool)(a1:LI):Option kI.Res:=bif a0 then oR ((decide (0<(↑a1.length:Int)),()),()) else oR ((false,()),())
theorem Ff (a0:Bool)(a1:LI):Io.run tt Gc dr Cw kI Tryd.f108 (((a0,a1,()),()),())=Bl a0 a1:=by kernel_rfl
theorem GG:HcOk prog 108 (ah kI Ba):=by
 refine cq (cs:=Bz) .nil (lp:=Cw) (fn:=Tryd.f108) kI (.done (by kernel_rfl)) Ba ?_
 rintro ⟨⟨⟨(n:Bool),(b:LI),⟨⟩⟩,⟨⟩⟩,⟨⟩⟩ out hw ho
 cases ho
 refine (Ff n b).trans ?_
 cases n <;> rfl
abbrev fC:Io:=⟨[zt],[],[],[dI],none⟩
def rC (d:fC.In):Tr fC.Res:=.ret (.ret ((ff d.1.1,()),()))
abbrev lA:List (Nat×Hc):=[(108,ah kI Ba),(96,ah jh xi)]
def un:Hd:=bM lA
abbrev cn:Lo:=⟨⟨(al (fc (cy (.one (.hol (.sl 141 (Ty.str.prod ((Ty.bool.prod ((Ty.sl 5 (Ty.int u8)).prod Ty.unit)).prod Ty.unit))))::.one hI::.one hI::al [])))),[]⟩,[(.ret,⟨(cy (.one hI::al (al (fc (cy []))))),[]⟩),(.exit 1,⟨(.any::al (al (fc (cV [])))),[]⟩)]⟩
def gG (d:cn.st.den):Tr (aq cn.xs):=
 .ite (decide (d.1.2.2.1=(0:Int))&&decide (d.1.2.1=(d.1.1.length:Int))) (.ite (decide (dA d.1.1=(0:Int))) (.ret (.pan (.ret ((),((),()))))) (.ret (.ret ((),((dA d.1.1,()),()))))) .no
def lM:Lp:=cc [(9,aI cn gG)]
def l8 {R:Type}(h7:List bY.den)(h8 h9:Int)(next:List bY.den→Int→Int→Option R)(out:aq cn.xs→Option R):Option R:=bif decide (h9<h8) then bif decide (0≤h9)&&decide (h9<(↑h7.length:Int)) then bif !(dC (h7.getD h9.toNat ([],(false,[],()),())).1).2 then out (.ret ((),((6,()),()))) else bif iL ((h7.getD h9.toNat ([],(false,[],()),())).2.1.1,(h7.getD h9.toNat ([],(false,[],()),())).2.1.2.1,()) then out (.ret ((),((70,()),()))) else next (h7) (h8) (i64.wrap (h9+1)) else none else out (.pan (.ret ((),((),()))))
def kV (n:Nat)(h7:List bY.den)(h8 h9:Int):Option (aq cn.xs):=kW tt un dr lM 0 Tryd.f101 (dF Tryd.f101 0) n (cn.st.mk' ((h7,(h8,(h9,()))),())) (ct cn.xs)
theorem wS (n:Nat)(h7:List bY.den)(h8 h9:Int):kV (n+1) h7 h8 h9=l8 h7 h8 h9 (kV n) some:=by kernel_rfl
theorem wu (hs:List cr)(hm:hs.length≤maxLen):∀(k i:Nat),i≤hs.length→hs.length<i+k→
  kV k hs (hs.length:Int) (i:Int)=if dA (hs.drop i)=0 then some (.pan (.ret ((),((),())))) else some (.ret ((),((dA (hs.drop i),()),()))):=by
 intro k
 induction k with
 |zero=>intro i h1 h2;omega
 |succ k ih=>
  intro i h1 h2
  rw[wS]
  unfold l8
  by_cases h3:i<hs.length
  ·have e:(hs.getD (i:Int).toNat ([],(false,[],()),()):cr)=hs[i]:=aC h3
   rw[zE h3,← e,bm h3 hm]
   generalize (hs.getD (i:Int).toNat ([],(false,[],()),()):cr)=x
   obtain ⟨x1,⟨x2,x3,⟨⟩⟩,⟨⟩⟩:=x
   rw[aa (by simpa using h3),aa (by simp[h3])]
   by_cases h4:(dC x1).2=false
   ·have eE:dA ((x1,(x2,x3,()),())::hs.drop (i+1))=6:=by unfold dA;rw[if_pos h4]
    rw[eE,aa (by simpa using h4)]
    rfl
   ·rw[ac (by simpa using h4)]
    by_cases h5:iL (x2,x3,())=true
    ·have eE:dA ((x1,(x2,x3,()),())::hs.drop (i+1))=70:=by unfold dA;rw[if_neg h4,if_pos h5]
     rw[eE,aa h5]
     rfl
    ·have eE:dA ((x1,(x2,x3,()),())::hs.drop (i+1))=dA (hs.drop (i+1)):=by rw[dA,if_neg h4,if_neg h5]
     rw[eE,ac (by simpa using h5)]
     exact ih (i+1) h3 (by omega)
  ·rw[zI (by omega)]
   rw[ac (by simpa using h3)]
   rfl
def oG (a0 a1:Int)(a2:Bool)(a3:LI)(a4:Bool)(a5:LI)(a6:List bY.den):Option fC.Res:=bif decide (a1<0) then oR ((72,()),()) else bif iL (a2,a3,()) then oR ((70,()),()) else bif iL (a4,a5,()) then oR ((70,()),()) else bif decide (16<(↑a6.length:Int)) then oR ((9,()),()) else (gG ((a6,((↑a6.length:Int),(0,()))),())).run fun y=>match y with | .ret ((),((x15,()),()))=>(oR ((x15,()),())) | .pan (.ret ((),((),())))=>(oR ((0,()),()))
theorem Ao (a0 a1:Int)(a2:Bool)(a3:LI)(a4:Bool)(a5:LI)(a6:List bY.den):Io.run tt un dr lM fC Tryd.f101 (((a0,a1,(a2,a3,()),(a4,a5,()),a6,()),()),())=oG a0 a1 a2 a3 a4 a5 a6:=by kernel_rfl
theorem CS:HcOk prog 101 (ah fC rC):=by
 have hcs:HcsOk prog lA:=.cons GG (.cons CX .nil)
 refine cq (cs:=lA) hcs (lp:=lM) (fn:=Tryd.f101) fC
  (.step (h0:=aI cn gG) (by kernel_rfl) (lL (cs:=lA) hcs (lp:=lM) (fn:=Tryd.f101) (.done (by kernel_rfl)) cn gG ?_) (.done (by kernel_rfl))) rC ?_
 ·rintro ⟨⟨(hs:List cr),(n:Int),(i:Int),⟨⟩⟩,⟨⟩⟩ y hw hy
  obtain ⟨hg,hy⟩:=Tr.guard hy
  simp only[zA,zB] at hg
  obtain ⟨hi,hn⟩:=hg
  have hi:i=0:=hi
  have hn:n=hs.length:=hn
  subst hi hn
  refine ⟨hs.length+1,(wu hs hw.1.1.1 _ 0 (by omega) (by omega)).trans ?_⟩
  rw[← hy]
  simp only[Tr.val_ite,zB,Tr.val_ret,List.drop_zero]
 ·rintro ⟨⟨⟨(a0:Int),(a1:Int),⟨(a2:Bool),(a3:LI),⟨⟩⟩,⟨(a4:Bool),(a5:LI),⟨⟩⟩,(a6:List cr),⟨⟩⟩,⟨⟩⟩,⟨⟩⟩ out hw ho
  cases ho
  refine (Ao a0 a1 a2 a3 a4 a5 a6).trans ?_
  unfold oG gG
  show _=oR ((ff (a0,a1,(a2,a3,()),(a4,a5,()),a6,()),()),())
  unfold ff
  simp only[Tr.run_ite,Tr.run_ret]
  by_cases h1:a1<0
  ·rw[aa (by simpa using h1),if_pos h1]
  rw[ac (by simpa using h1),if_neg h1]
  by_cases h2:iL (a2,a3,())=true
  ·rw[aa h2,if_pos (.inl h2)]
  rw[ac (by simpa using h2)]
  by_cases h3:iL (a4,a5,())=true
  ·rw[aa h3,if_pos (.inr h3)]
  rw[ac (by simpa using h3),if_neg (show ¬(iL (a2,a3,())=true∨iL (a4,a5,())=true) from fun h=>h.elim h2 h3)]
  by_cases h4:16<(a6.length:Int)
  ·rw[aa (by simpa using h4),if_pos h4]
  rw[ac (by simpa using h4),if_neg h4]
  rw[if_pos (by simp)]
  by_cases h5:dA a6=0
  ·rw[if_pos (decide_eq_true h5),h5]
  ·rw[if_neg (by simpa using h5)]
abbrev fD:Io:=⟨[dO,t9],[],[],[dO],none⟩
def rD (d:fD.In):Tr fD.Res:=.ite (decide (d.1.1.length+(b9 d.1.2.1).length≤4294967296)) (.ret (.ret ((d.1.1++b9 d.1.2.1,()),()))) .no
abbrev tV:List (Nat×Hc):=[(65,ah hY tk)]
def B9:Hd:=bM tV
def uL:Lp:=cc []
def oH (a0:LI)(a1:Bool)(a2:LI):Option fD.Res:=bif a1 then bif decide (a0.length+(bD (aF (-1))).length≤4294967296) then oR ((a0++bD (aF (-1)),()),()) else none else bif decide (a0.length+(bD (aF (↑a2.length:Int))).length≤4294967296) then bif decide ((a0++bD (aF (↑a2.length:Int))).length+a2.length≤4294967296) then oR ((a0++bD (aF (↑a2.length:Int))++a2,()),()) else none else none
theorem Ap (a0:LI)(a1:Bool)(a2:LI):Io.run tt B9 dr uL fD Tryd.f102 ((a0,(a1,a2,()),()),())=oH a0 a1 a2:=by kernel_rfl
theorem CT:HcOk prog 102 (ah fD rD):=by
 refine cq (cs:=tV) (.cons wz .nil) (lp:=uL) (fn:=Tryd.f102) fD (.done (by kernel_rfl)) rD ?_
 rintro ⟨⟨(o:LI),⟨(n:Bool),(b:LI),⟨⟩⟩,⟨⟩⟩,⟨⟩⟩ out hw ho
 obtain ⟨hg,ho⟩:=Tr.guard ho
 have hg:o.length+(b9 (n,b,())).length≤4294967296:=by simpa using hg
 cases ho
 refine (Ap o n b).trans ?_
 show _=oR ((o++b9 (n,b,()),()),())
 unfold oH
 cases n with
 |true=>
  have e:b9 (true,b,())=bD (aF (-1)):=rfl
  rw[e] at hg ⊢
  rw[aa rfl,aa (by simpa using hg)]
 |false=>
  have e:b9 (false,b,())=bD (aF b.length)++b:=rfl
  rw[e] at hg ⊢
  simp only[zH] at hg
  rw[ac rfl,aa (by simp;omega),aa (by simp;omega),zK]
abbrev hC:Io:=⟨[zt],[],[],[dO,dI],none⟩
def vM (d:hC.In):Tr hC.Res:=.ite (mN d.1.1) (.ret (.ret (((cp d.1.1).1,(cp d.1.1).2,()),()))) .no
abbrev nR:List (Nat×Hc):=[(101,ah fC rC),(92,ah df lf),(65,ah hY tk),(102,ah fD rD)]
def ya:Hd:=bM nR
abbrev cm:Lo:=⟨⟨(.any::cV (.one (.onl 5 (Ty.int u8) 11)::.any::al (fc (cV (cy (.one (.hol (.sl 141 (Ty.str.prod ((Ty.bool.prod ((Ty.sl 5 (Ty.int u8)).prod Ty.unit)).prod Ty.unit))))::.one hI::.one hI::al (cV (cy [])))))))),[]⟩,[(.exit 0,⟨(.any::cV (.one (.onl 5 (Ty.int u8) 11)::al (al (al (fc []))))),[]⟩)]⟩
def gF (d:cm.st.den):Tr (aq cm.xs):=
 .ite (decide (d.1.2.2.2.1=(0:Int))&&(decide (d.1.2.2.1=(d.1.2.1.length:Int))&&decide (d.1.1.length+(cU d.1.2.1).length≤4294967296))) (.ret (.ret ((),((d.1.1++cU d.1.2.1,()),())))) .no
def n3:Lp:=cc [(10,aI cm gF)]
def l7 {R:Type}(h7:LI)(h8:List bY.den)(h9 h10:Int)(next:LI→List bY.den→Int→Int→Option R)(out:aq cm.xs→Option R):Option R:=bif decide (h10<h9) then bif decide (0≤h10)&&decide (h10<(↑h8.length:Int)) then bif decide (h7.length+(bD (aF (↑(List.length (h8.getD h10.toNat ([],(false,[],()),())).1):Int))).length≤4294967296) then bif decide ((h7++bD (aF (↑(List.length (h8.getD h10.toNat ([],(false,[],()),())).1):Int))).length+List.length (h8.getD h10.toNat ([],(false,[],()),())).1≤4294967296) then bif decide ((h7++bD (aF (↑(List.length (h8.getD h10.toNat ([],(false,[],()),())).1):Int))++(h8.getD h10.toNat ([],(false,[],()),())).1).length+(b9 ((h8.getD h10.toNat ([],(false,[],()),())).2.1.1,(h8.getD h10.toNat ([],(false,[],()),())).2.1.2.1,())).length≤4294967296) then next (h7++bD (aF (↑(List.length (h8.getD h10.toNat ([],(false,[],()),())).1):Int))++(h8.getD h10.toNat ([],(false,[],()),())).1++b9 ((h8.getD h10.toNat ([],(false,[],()),())).2.1.1,(h8.getD h10.toNat ([],(false,[],()),())).2.1.2.1,())) (h8) (h9) (i64.wrap (h10+1)) else none else none else none else none else out (.ret ((),((h7,()),())))
def kU (n:Nat)(h7:LI)(h8:List bY.den)(h9 h10:Int):Option (aq cm.xs):=kW tt ya dr n3 0 Tryd.f86 (dF Tryd.f86 0) n (cm.st.mk' ((h7,(h8,(h9,(h10,())))),())) (ct cm.xs)
theorem wR (n:Nat)(h7:LI)(h8:List bY.den)(h9 h10:Int):kU (n+1) h7 h8 h9 h10=l7 h7 h8 h9 h10 (kU n) some:=by kernel_rfl
theorem zU (hs:List cr)(hm:hs.length≤maxLen):∀(k i:Nat) (o:LI),i≤hs.length→hs.length<i+k→o.length+(cU (hs.drop i)).length≤4294967296→
  kU k o hs (hs.length:Int) (i:Int)=some (.ret ((),((o++cU (hs.drop i),()),()))):=by
 intro k
 induction k with
 |zero=>intro i o h1 h2;omega
 |succ k ih=>
  intro i o h1 h2 h3
  rw[wR]
  unfold l7
  by_cases h4:i<hs.length
  ·have e:(hs.getD (i:Int).toNat ([],(false,[],()),()):cr)=hs[i]:=aC h4
   rw[zE h4,← e] at h3 ⊢
   rw[bm h4 hm]
   generalize (hs.getD (i:Int).toNat ([],(false,[],()),()):cr)=x at *
   obtain ⟨x1,⟨x2,x3,⟨⟩⟩,⟨⟩⟩:=x
   have eW:cU ((x1,(x2,x3,()),())::hs.drop (i+1))=bD (aF x1.length)++(x1++b9 (x2,x3,()))++cU (hs.drop (i+1)):=by simp[cU,ze]
   rw[eW] at h3 ⊢
   simp only[zH] at h3
   rw[aa (by simpa using h4),aa (by simp[h4]),aa (by simp;omega),aa (by simp;omega),aa (by simp;omega)]
   refine (ih (i+1) _ h4 (by omega) (by simp only[zH];omega)).trans ?_
   simp only[zK]
  ·rw[zI (by omega)]
   rw[ac (by simpa using h4)]
   simp[cU]
def qn (a0 a1:Int)(a2:Bool)(a3:LI)(a4:Bool)(a5:LI)(a6:List bY.den):Option hC.Res:=bif ff (a0,a1,(a2,a3,()),(a4,a5,()),a6,()) != 0 then oR (([],ff (a0,a1,(a2,a3,()),(a4,a5,()),a6,()),()),()) else bif decide ([0].length+(cQ [a0,i64.wrap a1]).length≤4294967296) then bif decide (([0]++cQ [a0,i64.wrap a1]).length+(b9 (a2,a3,())).length≤4294967296) then bif decide (List.length ([0]++cQ [a0,i64.wrap a1]++b9 (a2,a3,()))+(b9 (a4,a5,())).length≤4294967296) then bif decide (List.length ([0]++cQ [a0,i64.wrap a1]++b9 (a2,a3,())++b9 (a4,a5,()))+(bD (aF (↑a6.length:Int))).length≤4294967296) then (gF (([0]++cQ [a0,i64.wrap a1]++b9 (a2,a3,())++b9 (a4,a5,())++bD (aF (↑a6.length:Int)),(a6,((↑a6.length:Int),(0,())))),())).run fun y=>match y with | .ret ((),((x16,()),()))=>(bif decide (16384<(↑x16.length:Int)) then oR (([],4,()),()) else oR ((x16,0,()),())) else none else none else none else none
theorem Dg (a0 a1:Int)(a2:Bool)(a3:LI)(a4:Bool)(a5:LI)(a6:List bY.den):Io.run tt ya dr n3 hC Tryd.f86 (((a0,a1,(a2,a3,()),(a4,a5,()),a6,()),()),())=qn a0 a1 a2 a3 a4 a5 a6:=by kernel_rfl
theorem EV:HcOk prog 86 (ah hC vM):=by
 have hcs:HcsOk prog nR:=.cons CS (.cons q7 (.cons wz (.cons CT .nil)))
 refine cq (cs:=nR) hcs (lp:=n3) (fn:=Tryd.f86) hC
  (.step (h0:=aI cm gF) (by kernel_rfl) (lL (cs:=nR) hcs (lp:=n3) (fn:=Tryd.f86) (.done (by kernel_rfl)) cm gF ?_) (.done (by kernel_rfl))) vM ?_
 ·rintro ⟨⟨(o:LI),(hs:List cr),(n:Int),(i:Int),⟨⟩⟩,⟨⟩⟩ y hw hy
  obtain ⟨hg,hy⟩:=Tr.guard hy
  simp only[zA,zB] at hg
  obtain ⟨hi,hn,hl⟩:=hg
  have hi:i=0:=hi
  have hn:n=hs.length:=hn
  subst hi hn
  refine ⟨hs.length+1,(zU hs hw.1.2.1.1 _ 0 o (by omega) (by omega) hl).trans ?_⟩
  rw[← hy]
  rfl
 ·rintro ⟨⟨⟨(a0:Int),(a1:Int),⟨(a2:Bool),(a3:LI),⟨⟩⟩,⟨(a4:Bool),(a5:LI),⟨⟩⟩,(a6:List cr),⟨⟩⟩,⟨⟩⟩,⟨⟩⟩ out hw ho
  obtain ⟨hg,ho⟩:=Tr.guard ho
  cases ho
  refine (Dg a0 a1 a2 a3 a4 a5 a6).trans ?_
  have ha1:bz .i32 a1:=hw.1.1.2.1
  have ha1 : -2147483648≤a1∧a1≤2147483647:=by simpa [bz,IntKind.min,IntKind.max,IntKind.signed,IntKind.bits] using ha1
  have hg:(co (a0,a1,(a2,a3,()),(a4,a5,()),a6,())).length≤4294967000:=of_decide_eq_true hg
  show _=oR (((cp (a0,a1,(a2,a3,()),(a4,a5,()),a6,())).1,(cp (a0,a1,(a2,a3,()),(a4,a5,()),a6,())).2,()),())
  have eb:co (a0,a1,(a2,a3,()),(a4,a5,()),a6,())=[0]++cQ [a0,a1]++b9 (a2,a3,())++b9 (a4,a5,())++bD (aF a6.length)++cU a6:=by
   simp[co,cQ]
  have hl:=hg
  rw[eb] at hl
  simp only[zH] at hl
  unfold qn cp
  rw[ae (n:=a1) (by omega) (by omega)]
  generalize hr:((a0,a1,(a2,a3,()),(a4,a5,()),a6,()):kc)=r at *
  by_cases h1:ff r=0
  rotate_left
  ·have ec:bk r=ff r:=by unfold bk;rw[if_pos h1]
   rw[aa (by simpa using h1),ec,if_neg h1]
  have ec:bk r=if 16384<((co r).length:Int) then 4 else 0:=by unfold bk;rw[if_neg (aP h1)]
  rw[ac (by simpa using h1),aa (by simp;omega),aa (by simp;omega),aa (by simp;omega),aa (by simp;omega)]
  unfold gF
  simp only[Tr.run_ite,Tr.run_ret]
  rw[if_pos (by simp;omega),← eb,ec]
  by_cases h2:16384<((co r).length:Int)
  ·rw[aa (by simpa using h2),if_pos h2]
   rfl
  ·rw[ac (by simpa using h2),if_neg h2]
   rfl
abbrev kH:Io:=⟨[zt],[],[],[dO,dI],none⟩
def A9 (d:kH.In):Tr kH.Res:=.ite (mN d.1.1) (.ret (.ret (((ce d.1.1).1,(ce d.1.1).2,()),()))) .no
abbrev By:List (Nat×Hc):=[(86,ah hC vM),(65,ah hY tk)]
def Gb:Hd:=bM By
def Cv:Lp:=cc []
def tA (a0 a1:Int)(a2:Bool)(a3:LI)(a4:Bool)(a5:LI)(a6:List bY.den):Option kH.Res:=bif mN (a0,a1,(a2,a3,()),(a4,a5,()),a6,()) then bif (cp (a0,a1,(a2,a3,()),(a4,a5,()),a6,())).2 != 0 then oR (([],(cp (a0,a1,(a2,a3,()),(a4,a5,()),a6,())).2,()),()) else bif decide ((bD (aF (↑(cp (a0,a1,(a2,a3,()),(a4,a5,()),a6,())).1.length:Int))).length+(cp (a0,a1,(a2,a3,()),(a4,a5,()),a6,())).1.length≤4294967296) then oR ((bD (aF (↑(cp (a0,a1,(a2,a3,()),(a4,a5,()),a6,())).1.length:Int))++(cp (a0,a1,(a2,a3,()),(a4,a5,()),a6,())).1,0,()),()) else none else none
theorem Fe (a0 a1:Int)(a2:Bool)(a3:LI)(a4:Bool)(a5:LI)(a6:List bY.den):Io.run tt Gb dr Cv kH Tryd.f62 (((a0,a1,(a2,a3,()),(a4,a5,()),a6,()),()),())=tA a0 a1 a2 a3 a4 a5 a6:=by kernel_rfl
theorem GF:HcOk prog 62 (ah kH A9):=by
 refine cq (cs:=By) (.cons EV (.cons wz .nil)) (lp:=Cv) (fn:=Tryd.f62) kH (.done (by kernel_rfl)) A9 ?_
 rintro ⟨⟨⟨(a0:Int),(a1:Int),⟨(a2:Bool),(a3:LI),⟨⟩⟩,⟨(a4:Bool),(a5:LI),⟨⟩⟩,(a6:List cr),⟨⟩⟩,⟨⟩⟩,⟨⟩⟩ out hw ho
 obtain ⟨hg,ho⟩:=Tr.guard ho
 cases ho
 refine (Fe a0 a1 a2 a3 a4 a5 a6).trans ?_
 show _=oR (((ce (a0,a1,(a2,a3,()),(a4,a5,()),a6,())).1,(ce (a0,a1,(a2,a3,()),(a4,a5,()),a6,())).2,()),())
 have hg:mN (a0,a1,(a2,a3,()),(a4,a5,()),a6,())=true:=hg
 unfold tA
 generalize ((a0,a1,(a2,a3,()),(a4,a5,()),a6,()):kc)=r at *
 have hl:(co r).length≤4294967000:=of_decide_eq_true hg
 rw[aa hg]
 by_cases h1:bk r=0
 ·have e1:cp r=(co r,0):=by unfold cp;rw[if_pos h1]
  have e2:ce r=(bD (aF (co r).length)++co r,0):=by unfold ce;rw[if_pos h1]
  have:=re (aF (co r).length)
  rw[e1,e2]
  rw[ac (by rfl),aa (by simp;omega)]
 ·have e1:cp r=([],bk r):=by unfold cp;rw[if_neg h1]
  have e2:ce r=([],bk r):=by unfold ce;rw[if_neg h1]
  rw[e1,e2,aa (by simpa using h1)]
end
end Go.Proofs.YtcbcbjdobbgddaaDoor.Sym
namespace Go.Proofs.YtcbcbjdobbgddaaDoor.Sym
open Go
open Go.ChangeShapes Go.WideShapes Go.ChangeAt Go.RowKit
def cP (P:Program):Ty→(TypeId ⊕ (List Field×Nat))→Bool
 |.int k,.inl t=>match P.underlying t with
  |some (.int k')=>decide (k'=k)
  |_=>false
 |.bool,.inl t=>match P.underlying t with
  |some .bool=>true
  |_=>false
 |.str,.inl t=>match P.underlying t with
  |some .string=>true
  |_=>false
 |.sl e ty,.inl t=>match P.underlying t with
  |some (.slice e')=>(e' == e)&&(cP P ty (.inl e)&&((P.cellsOf e == ty.size)&&!(ty.size == 0)))
  |_=>false
 |.prod a b,.inl t=>match P.underlying t with
  |some (.struct fs)=>(P.cellsOf t == a.size+b.size)&&match fs.toList with
   |f::fs'=>(f.offset == 0)&&((P.cellsOf f.type == a.size)&&(cP P a (.inl f.type)&&cP P b (.inr (fs',a.size))))
   |[]=>false
  |_=>false
 |.unit,.inr ([],_)=>true
 |.prod a b,.inr (f::fs,off)=>(f.offset == off)&&((P.cellsOf f.type == a.size)&&(cP P a (.inl f.type)&&cP P b (.inr (fs,off+a.size))))
 |_,_=>false
def ue:(t:Ty)→t.den→Nat
 |.int _,_=>1
 |.bool,_=>1
 |.str,s=>List.length (α:=Int) s+1
 |.sl _ t,xs=>(List.map (ue t) xs).sum+1
 |.unit,_=>0
 |.prod a b,x=>ue a x.1+ue b x.2
 |.tree _ _,_=>0
def S0 (W:World)(b o:Nat):Prop:=∃v,W.cell? ⟨b,o,none⟩=some v
section
variable {P:Program} {W:World} {H:Type} {enc:TypeId×Value→H} {sp:Nat→Bool} {held:Bool}
theorem Br {a:Addr}{n:Nat}{cs:List Value}(h:W.cells? 0 a n=some cs)(hn:0<n):a.spot=none∧cs.length=n∧At (S0 W) W a.block a.off cs:=by
 simp only[World.cells?,Nat.zero_le,if_true] at h
 have hl:=mapM_some_length h
 rw[List.length_range] at hl
 have hg:∀i,i<n→W.cell? (a.add i)=cs[i]?:=fun i hi=>mapM_some_get h i i (by simp[hi])
 have hsp:a.spot=none:=by
  have h0:=hg 0 hn
  rw[List.getElem?_eq_getElem (by omega)] at h0
  unfold World.cell? at h0
  split at h0
  ·split at h0
   ·cases h0
   ·rename_i hs
    cases e:a.spot with
    |none=>rfl
    |some x=>simp[Addr.add,e] at hs
  ·cases h0
 refine ⟨hsp,hl,fun j v hv=>?_⟩
 have hj:j<n:=by rw[← hl];exact (List.getElem?_eq_some_iff.1 hv).1
 have:=hg j hj
 rw[hv] at this
 have e:a.add j=⟨a.block,a.off+j,none⟩:=by
  obtain ⟨b,o,s⟩:=a
  simp only at hsp
  subst hsp
  exact Addr.add_plain ..
 rw[e] at this
 exact ⟨⟨v,this⟩,this⟩
theorem ma (ub:DataW H→Nat)(uba:List (DataW H)→Nat)(u1:∀l,1≤ub (.lit l))(u2:∀bs,bs.length+1≤ub (.lit (.string bs)))(u3:1≤ub .nil)(u4:∀es ss,uba es+1≤ub (.slice es ss))(u5:∀ps,uba ps≤ub (.agg ps))
  (u6:∀d ds,uba (d::ds)=ub d+uba ds) (u7:uba []=0):
  ∀(ty:Ty),(∀(t:TypeId),cP P ty (.inl t)=true→∀(fuel:Nat) (cs:List Value) (x:DataW H×List MemPlace),DataW.trod enc P W 0 sp held fuel t cs=some x→∃y:ty.den,Rt (S0 W) W ty y cs∧ue ty y≤ub x.1)∧
   (∀(fs:List Field) (off:Nat),cP P ty (.inr (fs,off))=true→∀(fuel:Nat) (cs:List Value) (xs:List (DataW H×List MemPlace)),fs.mapM (fun f=>DataW.trod enc P W 0 sp held fuel f.type ((cs.drop f.offset).take (P.cellsOf f.type)))=some xs→
    (cs.drop off).length=ty.size→∃y:ty.den,Rt (S0 W) W ty y (cs.drop off)∧ue ty y≤uba (xs.map (·.1)))
 |.int k=>by
  refine ⟨fun t ht fuel cs x h=>?_,fun fs off ht=>by cases fs <;> simp[cP] at ht⟩
  simp only[cP] at ht
  split at ht
  ·rename_i k' hu
   have ht:=of_decide_eq_true ht
   subst ht
   obtain ⟨n2,rfl,rfl,hw⟩:=DataW.trod_int hu h
   refine ⟨n2,⟨rfl,?_⟩,u1 _⟩
   simpa [Lit.wf,bz] using hw
  ·cases ht
 |.bool=>by
  refine ⟨fun t ht fuel cs x h=>?_,fun fs off ht=>by cases fs <;> simp[cP] at ht⟩
  simp only[cP] at ht
  split at ht
  ·rename_i hu
   obtain ⟨b,rfl,rfl⟩:=DataW.trod_bool hu h
   exact ⟨b,rfl,u1 _⟩
  ·cases ht
 |.str=>by
  refine ⟨fun t ht fuel cs x h=>?_,fun fs off ht=>by cases fs <;> simp[cP] at ht⟩
  simp only[cP] at ht
  split at ht
  ·rename_i hu
   obtain ⟨s,rfl,rfl,hl⟩:=DataW.trod_string hu h
   refine ⟨gt s,⟨by rw[jq],nx s,?_⟩,?_⟩
   ·have:(gt s).length=s.size:=by rw[← bn,jq]
    rw[this];exact hl
   ·have:(gt s).length=s.data.toList.length:=by unfold gt;exact List.length_map _
    show (gt s).length+1≤_
    rw[this]
    exact u2 _
  ·cases ht
 |.unit=>by
  refine ⟨fun t ht=>by simp[cP] at ht,fun fs off ht fuel cs xs h hl=>?_⟩
  refine ⟨(),?_,Nat.zero_le _⟩
  exact zF hl
 |.sl e ty=>by
  refine ⟨fun t ht fuel cs x h=>?_,fun fs off ht=>by cases fs <;> simp[cP] at ht⟩
  simp only[cP] at ht
  split at ht
  ·rename_i e' hu
   simp only[zA,beq_iff_eq,Bool.not_eq_true',beq_eq_false_iff_ne] at ht
   obtain ⟨rfl,hT,hsz,hpos⟩:=ht
   have ih:=(ma ub uba u1 u2 u3 u4 u5 u6 u7 ty).1 e' hT
   rcases DataW.trod_slice hu h with ⟨rfl,rfl⟩ | ⟨a,len,cap,elems,rest,n,_,rfl,rfl,hb,hl,hm,hlen,hel,_,_⟩
   ·exact ⟨[],⟨none,0,rfl,Nat.le_refl _,Nat.zero_le _,fun h=>absurd rfl h⟩,u3⟩
   ·have each:∀i,i<len→∃y:ty.den,(∃c,Rt (S0 W) W ty y c∧(i=0→a.spot=none)∧At (S0 W) W a.block (a.off+i*ty.size) c)∧∃d,elems[i]?=some d∧ue ty y≤ub d.1:=by
     intro i hi
     have h1:=hel i hi
     rw[List.getElem?_eq_getElem (by omega)] at h1
     obtain ⟨c,hc,hd⟩:=Option.bind_eq_some_iff.1 h1
     obtain ⟨y,hy,hs⟩:=ih _ _ _ hd
     rw[hsz] at hc
     obtain ⟨h2,h3,h4⟩:=Br hc (by omega)
     have e1:(a.add (i*ty.size)).block=a.block:=by unfold Addr.add;split <;> rfl
     have e2:(a.add (i*ty.size)).off=a.off+i*ty.size:=by
      unfold Addr.add
      split
      ·rename_i h0;rw[h0];rfl
      ·rfl
     rw[e1,e2] at h4
     refine ⟨y,⟨c,hy,fun h0=>?_,h4⟩,elems[i],by simp,hs⟩
     subst h0
     simpa [Addr.add] using h2
    have mk:∀m,m≤len→∃ys:List ty.den,ys.length=m∧(∀i y,ys[i]?=some y→∃c,Rt (S0 W) W ty y c∧(i=0→a.spot=none)∧At (S0 W) W a.block (a.off+i*ty.size) c)∧(ys.map (ue ty)).sum≤uba ((elems.take m).map (·.1)):=by
     intro m
     induction m with
     |zero=>intro _;exact ⟨[],rfl,fun i y h=>by simp at h,by simp⟩
     |succ m ihm=>
      intro hm'
      obtain ⟨ys,g1,g2,g3⟩:=ihm (by omega)
      obtain ⟨y,g4,d,g5,g6⟩:=each m (by omega)
      refine ⟨ys++[y],by simp[g1],fun i z hz=>?_,?_⟩
      ·rw[List.getElem?_append] at hz
       split at hz
       ·exact g2 i z hz
       ·rename_i hlt
        have:i=m:=by
         have:=(List.getElem?_eq_some_iff.1 hz).1
         simp at this;omega
        subst this
        simp[g1] at hz
        subst hz
        exact g4
      ·have hap:∀(xs bs:List (DataW H)),uba (xs++bs)=uba xs+uba bs:=by
        intro xs bs
        induction xs with
        |nil=>simp[u7]
        |cons c xs ih=>rw[List.cons_append,u6,u6,ih];omega
       rw[List.take_add_one,g5]
       simp only[List.map_append,List.sum_append,hap,Option.toList,zL,List.map_nil,List.sum_cons,List.sum_nil,u6,u7]
       omega
    obtain ⟨ys,g1,g2,g3⟩:=mk len (Nat.le_refl _)
    refine ⟨ys,⟨some a,cap,by rw[g1],by omega,hm,fun hne=>?_⟩,?_⟩
    ·have h0:0<ys.length:=List.length_pos_iff.2 hne
     obtain ⟨c,_,hsp,_⟩:=g2 0 ys[0] (by simp)
     have hsp:=hsp rfl
     refine ⟨a.block,a.off,?_,fun i y hy=>?_⟩
     ·obtain ⟨b,o,s⟩:=a
      simp only at hsp
      rw[hsp]
     ·obtain ⟨c,hc,_,hat⟩:=g2 i y hy
      exact ⟨c,hc,hat⟩
    ·rw[List.take_of_length_le (by omega)] at g3
     show (ys.map (ue ty)).sum+1≤_
     exact Nat.le_trans (by omega) (u4 _ _)
  ·cases ht
 |.tree a e=>⟨fun t ht=>by simp[cP] at ht,fun fs off ht=>by cases fs <;> simp[cP] at ht⟩
 |.prod a b=>by
  have step:∀(f:Field) (fs:List Field) (off:Nat),((f.offset == off)&&((P.cellsOf f.type == a.size)&&(cP P a (.inl f.type)&&cP P b (.inr (fs,off+a.size)))))=true→
    ∀(fuel:Nat) (cs:List Value) (xs:List (DataW H×List MemPlace)),(f::fs).mapM (fun f=>DataW.trod enc P W 0 sp held fuel f.type ((cs.drop f.offset).take (P.cellsOf f.type)))=some xs→
    (cs.drop off).length=a.size+b.size→∃y:a.den×b.den,Rt (S0 W) W (.prod a b) y (cs.drop off)∧ue a y.1+ue b y.2≤uba (xs.map (·.1)):=by
   intro f fs off ht fuel cs xs h hl
   simp only[zA,beq_iff_eq] at ht
   obtain ⟨rfl,hs,hA,hB⟩:=ht
   simp only[List.mapM_cons,Option.bind_eq_bind,Option.bind_eq_some_iff] at h
   obtain ⟨x0,h0,xs',h1,h2⟩:=h
   simp only[Option.pure_def,zC] at h2
   subst h2
   rw[hs] at h0
   obtain ⟨y1,hy1,hd1⟩:=(ma ub uba u1 u2 u3 u4 u5 u6 u7 a).1 f.type hA _ _ _ h0
   have hl2:(cs.drop (f.offset+a.size)).length=b.size:=by
    simp only[List.length_drop] at hl ⊢
    omega
   obtain ⟨y2,hy2,hd2⟩:=(ma ub uba u1 u2 u3 u4 u5 u6 u7 b).2 fs _ hB _ _ _ h1 hl2
   refine ⟨(y1,y2),⟨_,_,?_,hy1,hy2⟩,?_⟩
   ·rw[← List.drop_drop,List.take_append_drop]
   ·simp only[zL,u6]
    omega
  refine ⟨fun t ht fuel cs x h=>?_,fun fs off ht fuel cs xs h hl=>?_⟩
  ·simp only[cP] at ht
   split at ht
   ·rename_i fs hu
    simp only[zA,beq_iff_eq] at ht
    obtain ⟨hsz,ht⟩:=ht
    split at ht
    ·rename_i f fs' hfs
     cases fuel with
     |zero=>simp[DataW.trod] at h
     |succ n=>
      unfold DataW.trod at h
      rw[hu] at h
      simp only at h
      split at h
      ·rename_i hlen
       obtain ⟨xs,hxs,rfl⟩:=Option.map_eq_some_iff.1 h
       rw[hfs] at hxs
       obtain ⟨y,hy,hd⟩:=step f fs' 0 (by simpa using ht) n cs xs hxs (by simpa [hsz] using hlen)
       exact ⟨y,by simpa using hy,Nat.le_trans hd (u5 _)⟩
      ·cases h
    ·cases ht
   ·cases ht
  ·cases fs with
   |nil=>simp[cP] at ht
   |cons f fs=>exact step f fs off (by simpa only [cP] using ht) fuel cs xs h hl
theorem Hu {ty:Ty}{t:TypeId}(ht:cP P ty (.inl t)=true){fuel:Nat}{cs:List Value}{d:DataW H}{ps:List MemPlace}(h:DataW.trod enc P W 0 sp held fuel t cs=some (d,ps)):∃y:ty.den,Rt (S0 W) W ty y cs∧ue ty y≤Rows.uptoBulk d:=
 (ma Rows.uptoBulk Rows.uptoBulkAll (fun l=>by cases l <;> simp[Rows.uptoBulk]) (fun bs=>by simp[Rows.uptoBulk]) (by simp[Rows.uptoBulk]) (fun es ss=>by simp[Rows.uptoBulk]) (fun ps=>by simp[Rows.uptoBulk]) (fun d ds=>by simp[Rows.uptoBulkAll]) (by simp[Rows.uptoBulkAll]) ty).1 t ht fuel cs _ h
theorem m5 {t:Ty}(hp:∀x:t.den,1≤ue t x):∀xs:List t.den,xs.length≤(xs.map (ue t)).sum
 |[]=>by simp
 |x::xs=>by
  have:=m5 hp xs
  have:=hp x
  simp only[zN,zL,List.sum_cons]
  omega
theorem Eg {e:Nat}{k:IntKind}(xs:(Ty.sl e (.int k)).den):List.length xs≤ue (.sl e (.int k)) xs:=by
 have:=m5 (t:=.int k) (fun _=>Nat.le_refl 1) xs
 show _≤(List.map (ue (.int k)) xs).sum+1
 exact Nat.le_trans this (Nat.le_succ _)
def G0 (W:World):Gh:=⟨S0 W,fun _=>none,fun _=>none⟩
def F0 (W:World):Fra:=⟨W,fun _=>False,S0 W,fun _=>none⟩
theorem HO (h:∀g,FA g=false)(W:World):gI (S0 W) W:=fun g i hg _=>absurd hg (by rw[h g];decide)
theorem H3 (W:World)(htab:gI (S0 W) W):Rel (F0 W) (G0 W) ⟨[],[],[]⟩ #[] [] W where
 tm:=trivial
 stk:=trivial
 ob:=fun k cs h=>by simp at h
 gh:=⟨fun _ _ h=>(by cases h),fun _ _ _ h=>(by cases h),fun _ _ _ h=>(by cases h),fun _ _ _ _ _ h=>(by cases h),fun b o h=>(by
   obtain ⟨v,h⟩:=h
   unfold World.cell? at h
   split at h
   ·rename_i e
    exact (Array.getElem?_eq_some_iff.1 e).1
   ·cases h),⟨rfl,rfl,rfl,Nat.le_refl _,fun _ _ _=>rfl⟩,fun _ _ h=>h,fun _ _ h=>.inl h,fun _ _ _=>rfl,fun _ _ h=>(by cases h),htab⟩
def zS (oc:Oc)(A:AS):Option Unit:=match oc with
 |.ret (.one (.bool true)) _=>some ()
 |_=>none
theorem zT {f:Nat}{io:Io}{Fn:io.In→Tr io.Res}(hok:HcOk P f (ah io Fn)){args:List V}{vals:Array Value}(hargs:All2 (Rv (G0 W) W) args vals.toList)(hrun:ah io Fn Unit args 1 ⟨[],[],[]⟩ zS=some ())(htab:gI (S0 W) W:=by exact HO (fun _=>rfl) _):
  Calls P f vals W fun e w'=>e=.returned (.bool true)∧w'.os=W.os∧w'.output=W.output∧∀i,i<W.heap.size→w'.heap[i]?=W.heap[i]?:=by
 refine (hok Unit args 1 _ zS () (F0 W) (G0 W) #[] [] W vals (fun _=>rfl) hrun (H3 W htab) hargs).2.mono ?_
 rintro e w' ⟨G',A',v,u,R',hv,h⟩
 have hfr:=R'.gh.fr
 refine ⟨?_,hfr.os,hfr.output,fun i hi=>hfr.block i hi (fun h=>h)⟩
 rcases h with ⟨rfl,ks,_,hk⟩ | ⟨rfl,hk⟩
 ·unfold zS at hk
  split at hk
  ·rename_i e
   cases e
   rw[show u=.bool true from hv]
  ·cases hk
 ·cases hk
def vW (ty:Ty)(y:ty.den):V:=bif ty.isProd then .agg (l9 ty y) else match l9 ty y with
 |[c]=>.one c
 |_=>.any
theorem vX {G:Gh}{ty:Ty}{y:ty.den}{v:Value}(h:Rt G.S W ty y v.cells.toList)(hp:ty.isProd=true→∃vs,v=.agg vs)(hn:ty.isProd=false→v.cells = #[v]):Rv G W (vW ty y) v:=by
 have hs:=bI (G:=G) (w:=W) ty y _ h
 unfold vW
 cases hb:ty.isProd with
 |true=>
  obtain ⟨vs,rfl⟩:=hp hb
  exact ⟨vs,rfl,hs⟩
 |false=>
  rw[hn hb] at hs
  simp only[cond_false]
  split
  ·rename_i c e
   rw[e] at hs
   exact hs.1
  ·trivial
theorem zi {ty:Ty}{t:TypeId}(ht:cP P ty (.inl t)=true){r:Reach}{base:Nat}{v:Value}(hval:Value.okWide P W r base t v):(ty.isProd=true→∃vs,v=.agg vs)∧(ty.isProd=false→v.cells = #[v]):=by
 cases ty with
 |tree a e=>simp[cP] at ht
 |int k=>
  refine ⟨fun h=>(by cases h),fun _=>?_⟩
  simp only[cP] at ht
  split at ht
  ·rename_i k' hu
   cases v <;> simp[Value.okWide,hu,Cell.okWide,Cell.ok] at hval <;> rfl
  ·cases ht
 |bool=>
  refine ⟨fun h=>(by cases h),fun _=>?_⟩
  simp only[cP] at ht
  split at ht
  ·rename_i hu
   cases v <;> simp[Value.okWide,hu,Cell.okWide,Cell.ok] at hval <;> rfl
  ·cases ht
 |str=>
  refine ⟨fun h=>(by cases h),fun _=>?_⟩
  simp only[cP] at ht
  split at ht
  ·rename_i hu
   cases v <;> simp[Value.okWide,hu,Cell.okWide,Cell.ok] at hval <;> rfl
  ·cases ht
 |sl e ty=>
  refine ⟨fun h=>(by cases h),fun _=>?_⟩
  simp only[cP] at ht
  split at ht
  ·rename_i e' hu
   cases v <;> simp[Value.okWide,hu,Cell.okWide,Cell.ok] at hval <;> rfl
  ·cases ht
 |unit=>simp[cP] at ht
 |prod a b=>
  refine ⟨fun _=>?_,fun h=>(by cases h)⟩
  simp only[cP] at ht
  split at ht
  ·rename_i fs hu
   simp only[Value.okWide,hu] at hval
   obtain ⟨cs,rfl,_⟩:=hval
   exact ⟨cs,rfl⟩
  ·cases ht
def oa (P:Program):Bool:=(List.range P.types.size).all fun t=>match P.underlying t with
 |some (.slice e)=>decide (0<P.cellsOf e)
 |_=>true
theorem qb (hl:laidOutB P=true)(hm:mapsRowed P=true)(hs:oa P=true){W':World}(hk:∀i,i<W.heap.size→W'.heap[i]?=W.heap[i]?):∀{ts:List TypeId} {vs:List Value} {ds:List (DataW H)} {ps:List MemPlace},
  (∀t∈ts,t<P.types.size)→DataW.TrodAll enc P W 0 (fun _=>true) true ts vs ds ps→(∀p∈ps,sp p.block=true)→DataW.TrodAll enc P W' 0 sp true ts vs ds ps
 |[],[],[],_,_,h,_=>h
 |t::ts,v::vs,d::ds,ps,hT,⟨p,q,⟨fuel,h1⟩,h2,e⟩,hsp=>by
  refine ⟨p,q,⟨fuel,DataW.trod_stays (kids_rows hl hm) (fun {t e} ht hu=>?_) (fun h=>(by cases h)) (hT t (by simp)) h1 (fun x hx=>?_) fun x hx=>hsp x (by rw[e];exact List.mem_append_left _ hx)⟩,
   qb hl hm hs hk (fun t ht=>hT t (by simp[ht])) h2 (fun x hx=>hsp x (by rw[e];exact List.mem_append_right _ hx)),e⟩
  ·have:=List.all_eq_true.1 hs t (by simpa using ht)
   rw[hu] at this
   exact of_decide_eq_true this
  ·have hb:=DataW.trod_lt _ _ _ _ h1 x hx
   cases x with
   |cell b off=>simp[World.sameAt,World.cell?,hk b hb]
   |map b=>exact hk b hb
 |[],[],_::_,_,_,h,_=>h.elim
 |[],_::_,_,_,_,h,_=>h.elim
 |_::_,[],_,_,_,h,_=>h.elim
 |_::_,_::_,[],_,_,h,_=>h.elim
theorem C4 {f:Func}{s:ChangeSpec}{apart fresh handsOn again:Bool}{W':World}{args:Array Value}{ds gs:List (DataW H)}{before:List MemPlace}
  (hl:laidOutB P=true) (hm:mapsRowed P=true) (hs:oa P=true) (hT:∀t∈f.params.toList,t<P.types.size) {tb:TypeId} (hr:f.resultTypes = #[tb]) (htb:P.underlying tb=some .bool) (hv:s.vars=[])
  (hW:DataW.Whole enc P f.params.toList s.vars apart W args.toList ds gs before) (hfn:s.fn H (ds++gs)={ results:=[.lit (.bool true)],args:=ds })
  (hos:W'.os=W.os) (hout:W'.output=W.output) (hk:∀i,i<W.heap.size→W'.heap[i]?=W.heap[i]?):s.post enc P f apart fresh handsOn again W args (.bool true) W':=by
 have hlt:=hW.lt
 obtain ⟨p,q,hA,hV,hpq,hfz,hnd⟩:=id hW
 rw[hv] at hV
 obtain ⟨rfl,rfl⟩:=trodVars_none hV
 rw[List.append_nil] at hpq
 subst hpq
 have hres:∀(b:Nat) (sp:Nat→Bool) (hd:Bool),DataW.TrodAll enc P W' b sp hd f.resultTypes.toList ((Value.bool true).resultList f.resultTypes.size) [.lit (.bool true)] []:=by
  intro b sp hd
  rw[hr]
  exact trodAll_cons_mk (shut_bool htb _) trodAll_mk0
 have hargs:∀sp:Nat→Bool,(∀x∈before,sp x.block=true)→DataW.TrodAll enc P W' 0 sp true f.params.toList args.toList ds before:=
  fun sp hsp=>qb hl hm hs hk hT hA hsp
 have hvars:∀sp:Nat→Bool,DataW.TrodVars enc P W' sp s.vars [] []:=by
  intro sp
  rw[hv]
  rfl
 have hold:∀x∈before,(fun b=>decide (b<W.heap.size)) x.block=true:=fun x hx=>by simpa using hlt x hx
 have hkept:∀may:MemPlace→Prop,W.keptBut W' may:=fun may=>⟨hos,hout,fun i hi=>by
  rw[hk i hi]
  cases h:W.heap[i]? with
  |none=>rfl
  |some o=>cases o <;> simp⟩
 refine ⟨ds,[],before,[],before,[],hW,by rw[hfn];exact hres _ _ _,by rw[hfn];exact hargs _ hold,by rw[hfn];exact hvars _,hkept _,fun _=>?_⟩
 refine ⟨ok_one hr rfl (okWide_bool_mk htb true),[.lit (.bool true)]++ds,[],[]++before,⟨[]++before,[],trodAll_append (hargs _ fun _ _=>rfl) (hres _ _ _),hvars _,by simp,fun b off hx=>?_,fun ha=>by simpa using hnd ha⟩,fun x hx _=>by simpa using hx⟩
 have hx:MemPlace.cell b off∈before:=by simpa using hx
 rw[← hfz b off hx]
 simp[World.frozen?,hk b (hlt _ hx)]
@[reducible] def mf:List Ty→Type
 |[]=>Unit
 |t::ts=>t.den×mf ts
def xp:(tys:List Ty)→mf tys→List V
 |[],_=>[]
 |t::ts,y=>vW t y.1::xp ts y.2
def BR:(tys:List Ty)→mf tys→Nat
 |[],_=>0
 |t::ts,y=>ue t y.1+BR ts y.2
def Ia:(tys:List Ty)→mf tys→Prop
 |[],_=>True
 |t::ts,y=>t.wf y.1∧Ia ts y.2
def ES (P:Program):List Ty→List TypeId→Bool
 |[],[]=>true
 |ty::tys,t::ts=>cP P ty (.inl t)&&ES P tys ts
 |_,_=>false
theorem tn {r:Reach}{base:Nat}:∀(tys:List Ty) (ts:List TypeId),ES P tys ts=true→∀{vs:List Value} {ds:List (DataW H)} {ps:List MemPlace},DataW.TrodAll enc P W 0 sp held ts vs ds ps→
  (∀(j:Nat) t v,ts[j]?=some t→vs[j]?=some v→Value.okWide P W r base t v)→
  ∃ys:mf tys,All2 (Rv (G0 W) W) (xp tys ys) vs∧BR tys ys≤Rows.uptoBulkAll ds∧Ia tys ys∧ds.length=tys.length
 |[],[],_,[],[],_,_,_=>⟨(),trivial,Nat.zero_le _,trivial,rfl⟩
 |ty::tys,t::ts,ht,v::vs,d::ds,_,⟨p,q,⟨fuel,h1⟩,h2,_⟩,hv=>by
  simp only[ES,zA] at ht
  obtain ⟨y,hy,hs⟩:=Hu ht.1 h1
  obtain ⟨k1,k2⟩:=zi ht.1 (hv 0 t v rfl rfl)
  obtain ⟨ys,g1,g2,g3,g4⟩:=tn tys ts ht.2 h2 fun j t' v' e1 e2=>hv (j+1) t' v' (by simpa using e1) (by simpa using e2)
  refine ⟨(y,ys),⟨vX hy k1 k2,g1⟩,?_,⟨Rt.wf ty y _ hy,g3⟩,by simp[g4]⟩
  simp only[BR,Rows.uptoBulkAll]
  omega
 |[],[],_,[],_::_,_,h,_=>h.elim
 |[],[],_,_::_,_,_,h,_=>h.elim
 |_::_,_::_,_,[],_,_,h,_=>h.elim
 |_::_,_::_,_,_::_,[],_,h,_=>h.elim
 |[],_::_,h,_,_,_,_,_=>by cases h
 |_::_,[],h,_,_,_,_,_=>by cases h
theorem sx {fn:Func}{f:Nat}{io:Io}{Fn:io.In→Tr io.Res}(hok:HcOk P f (ah io Fn)){s:ChangeSpec}(tys:List Ty)(hts:ES P tys fn.params.toList=true)
  (hl:laidOutB P=true) (hm:mapsRowed P=true) (hs:oa P=true) (hT:∀t∈fn.params.toList,t<P.types.size) {tb:TypeId} (hr:fn.resultTypes = #[tb]) (htb:P.underlying tb=some .bool) (hv:s.vars=[])
  (hfn:∀ds:List (DataW H),ds.length=tys.length→s.fn H ds={ results:=[.lit (.bool true)],args:=ds })
  (hrun:∀ys:mf tys,BR tys ys≤1048576→Ia tys ys→ah io Fn Unit (xp tys ys) 1 ⟨[],[],[]⟩ zS=some ())
  (base:Nat) (args:Array Value) (ds gs:List (DataW H)) (before:List MemPlace)
  (hval:∀(j:Nat) t v,fn.params[j]?=some t→args[j]?=some v→Value.okWide P W .any base t v)
  (hW:DataW.Whole enc P fn.params.toList s.vars false W args.toList ds gs before) (hk:Rows.uptoSmall H (ds++gs)=true) (htab:gI (S0 W) W:=by exact HO (fun _=>rfl) _):
  Calls P f args W fun e W'=>∃v,e=.returned v∧s.post enc P fn false true false false W args v W':=by
 have hW':=hW
 obtain ⟨p,q,hA,hV,_,_,_⟩:=hW
 rw[hv] at hV
 obtain ⟨rfl,rfl⟩:=trodVars_none hV
 obtain ⟨ys,g1,g2,g3,g4⟩:=tn tys fn.params.toList hts hA fun j t v e1 e2=>hval j t v (by simpa using e1) (by simpa using e2)
 have hb:Rows.uptoBulkAll ds≤1048576:=by simpa [Rows.uptoSmall] using hk
 refine (zT hok (vals:=args) (args:=xp tys ys) g1 (hrun ys (by omega) g3) htab).mono ?_
 rintro e W' ⟨rfl,hos,hout,hkeep⟩
 exact ⟨_,rfl,C4 hl hm hs hT hr htb hv hW' (by rw[List.append_nil];exact hfn ds g4) hos hout hkeep⟩
end
end Go.Proofs.YtcbcbjdobbgddaaDoor.Sym
namespace Go.Proofs.YtcbcbjdobbgddaaDoor.Sym
open Go
noncomputable section
section
variable {P:Program} {tt:TT}
end
end
end Go.Proofs.YtcbcbjdobbgddaaDoor.Sym
namespace Go.Proofs.YtcbcbjdobbgddaaDoor.Sym
open Go
def Ty.flatB:Ty→Bool
 |.sl _ _=>false
 |.tree _ _=>false
 |.prod a b=>a.flatB&&b.flatB
 |_=>true
theorem Rt.flat {S S':Nat→Nat→Prop}{w w':World}:∀(t:Ty) (x:t.den) (cs:List Value),t.flatB=true→Rt S w t x cs→Rt S' w' t x cs
 |.int _,_,_,_,h=>h
 |.bool,_,_,_,h=>h
 |.str,_,_,_,h=>h
 |.unit,_,_,_,h=>h
 |.prod a b,_,_,hf,⟨c1,c2,e,h1,h2⟩=>by
  simp only[Ty.flatB,zA] at hf
  exact ⟨c1,c2,e,Rt.flat a _ _ hf.1 h1,Rt.flat b _ _ hf.2 h2⟩
 |.sl _ _,_,_,hf,_=>by cases hf
 |.tree _ _,_,_,hf,_=>by cases hf
noncomputable section
structure Grown (w w':World):Prop where
 os:w'.os=w.os
 tape:w'.tape=w.tape
 output:w'.output=w.output
 size:w.heap.size≤w'.heap.size
 old:∀k,k<w.heap.size→w'.heap[k]?=w.heap[k]?
theorem Grown.cell {w w':World}(g:Grown w w'){b o:Nat}(hb:b<w.heap.size):w'.cell? ⟨b,o,none⟩=w.cell? ⟨b,o,none⟩:=by
 simp[World.cell?,g.old b hb]
section
variable {F:Fra} {G:Gh} {w w':World}
def Gh.owned (G:Gh)(i:Nat)(o:Option Nat):Gh:=⟨G.S,G.mu,fun j=>if j=i then o.map (·,0) else G.ow j⟩
variable {G':Gh}
def OwnsTo (G' H:Gh)(l:List Nat):Prop:=∀j∈l,j≠0∧∀b n,G'.ow j=some (b,n)→H.ow j=some (b,0)
theorem OwnsTo.l {H:Gh}{l l':List Nat}(h:OwnsTo G' H (l++l')):OwnsTo G' H l:=fun j hj=>h j (List.mem_append_left _ hj)
theorem OwnsTo.r {H:Gh}{l l':List Nat}(h:OwnsTo G' H (l++l')):OwnsTo G' H l':=fun j hj=>h j (List.mem_append_right _ hj)
end
end
end Go.Proofs.YtcbcbjdobbgddaaDoor.Sym
namespace Go.Proofs.YtcbcbjdobbgddaaDoor.Sym
open Go
noncomputable section
theorem yd {w:World}{b:Nat}{o:Obj}(h:w.heap[b]?=some o):b<w.heap.size:=(Array.getElem?_eq_some_iff.1 h).1
theorem Grown.refl (w:World):Grown w w:=⟨rfl,rfl,rfl,Nat.le_refl _,fun _ _=>rfl⟩
end
end Go.Proofs.YtcbcbjdobbgddaaDoor.Sym
namespace Go.Proofs.YtcbcbjdobbgddaaDoor.Sym
open Go
open Go.IntKind (i8 i16 i32 i64 u8 u16 u32 u64)
noncomputable section
abbrev ER:List Sh:=[dO,dI]
abbrev HV:Sh:=.dat (.int .i16) false false
abbrev Ee:Sh:=.dat (.int .i32) false false
abbrev Hs:Sh:=.dat (.int .u64) false false
def aw (v:Int):Nat→LI
 |0=>[]
 |n+1=>(v / 256 ^ n) % 256::aw v n
theorem lV (v:Int):∀n,(aw v n).length=n
 |0=>rfl
 |n+1=>by rw[aw,zN,lV v n]
def bH (b:LI)(most v:Int)(n:Nat):Int×LI:=if most - b.length<n then (10,b) else (0,b++aw v n)
def ci (b:LI)(most:Int):Bool:=decide (b.length≤4294960000)&&(decide (0≤most)&&decide (most≤(1048576:Int)))
abbrev gf:Io:=⟨[.ptr 0 0],[ER],[],[dI],none⟩
def rM (d:gf.In):Tr gf.Res:=.ret (.ret ((i64.wrap (d.2.1.2.1 - d.2.1.1.length),()),((d.2.1.1,(d.2.1.2.1,())),())))
abbrev xU:List (Nat×Hc):=[]
def EH:Hd:=bM xU
def yB:Lp:=cc []
def zm (a0:LI)(a1:Int):Option gf.Res:=oR ((i64.wrap (a1 - (↑a0.length:Int)),()),(a0,a1,()),())
theorem Dx (a0:LI)(a1:Int):Io.run tt EH dr yB gf Tryd.f67 (((),()),(a0,a1,()),())=zm a0 a1:=by kernel_rfl
theorem yW:HcOk prog 67 (ah gf rM):=by
 refine cq (cs:=xU) HcsOk.nil (lp:=yB) (fn:=Tryd.f67) gf (.done (by kernel_rfl)) rM ?_
 rintro ⟨⟨⟨⟩,⟨⟩⟩,⟨⟨(b:LI),(m:Int),⟨⟩⟩,⟨⟩⟩⟩ out hw ho
 rw[← ho]
 exact Dx b m
abbrev cw:Io:=⟨[.ptr 0 0,Hs,dI],[ER],[],[dI],none⟩
def gH (d:cw.In):Tr cw.Res:=
 .ite (ci d.2.1.1 d.2.1.2.1&&(decide ((0:Int)≤d.1.2.2.1)&&decide (d.1.2.2.1≤(8:Int)))) (.ret (.ret (((bH d.2.1.1 d.2.1.2.1 d.1.2.1 d.1.2.2.1.toNat).1,()),(((bH d.2.1.1 d.2.1.2.1 d.1.2.1 d.1.2.2.1.toNat).2,(d.2.1.2.1,())),())))) .no
abbrev qK:List (Nat×Hc):=[(67,ah gf rM)]
def qT:Hd:=bM qK
abbrev bV:Lo:=⟨⟨(.one (.ptr 0 0)::.one (.hol (.int u64))::.any::cV (.one hI::al (fc []))),[some [.onl 5 (Ty.int u8) 2,hI]]⟩,[(.exit 0,⟨(al (al ([]))),[some [.onl 5 (Ty.int u8) 2,hI]]⟩)]⟩
def fu (d:bV.st.den):Tr (aq bV.xs):=
 .ite (decide (-1≤d.1.2.1)&&(decide (d.1.2.1≤7)&&decide (d.2.1.1.length≤4294960000))) (.ret (.ret ((),((),((d.2.1.1++aw d.1.1 (d.1.2.1+1).toNat,(d.2.1.2.1,())),()))))) .no
def jW:Lp:=cc [(5,aI bV fu)]
def kt {R:Type}(h4 h5:Int)(h6:LI)(h7:Int)(next:Int→Int→LI→Int→Option R)(out:aq bV.xs→Option R):Option R:=bif decide (0≤h5) then bif decide (0≤i64.wrap (8*h5)) then bif !(0 == 1+29 || false)&&true&&decide (h6.length+[u8.wrap (cO u64 h4 (i64.wrap (8*h5)))].length≤4294967296) then next (h4) (i64.wrap (h5 - 1)) (h6++[u8.wrap (cO u64 h4 (i64.wrap (8*h5)))]) (h7) else none else none else out (.ret ((),((),((h6,(h7,())),()))))
def jo (n:Nat)(h4 h5:Int)(h6:LI)(h7:Int):Option (aq bV.xs):=kW tt qT dr jW 1 Tryd.f66 (dF Tryd.f66 0) n (bV.st.mk' ((h4,(h5,())),((h6,(h7,())),()))) (ct bV.xs)
theorem vn (n:Nat)(h4 h5:Int)(h6:LI)(h7:Int):jo (n+1) h4 h5 h6 h7=kt h4 h5 h6 h7 (jo n) some:=by kernel_rfl
theorem DE {v:Int}(h0:0≤v)(h1:v≤18446744073709551615){i:Nat}(hi:i≤7):u8.wrap (cO .u64 v (i64.wrap (8*(i:Int))))=(v / 256 ^ i) % 256:=by
 rw[ae (n:=8*(i:Int)) (by omega) (by omega)]
 unfold cO
 have e:min (8*(i:Int)).toNat (u64).bits=8*i:=by
  show min (8*(i:Int)).toNat 64=8*i
  omega
 rw[e]
 have e2:(2:Int) ^ (8*i)=256 ^ i:=by rw[Int.pow_mul];rfl
 have hp:(0:Int)<256 ^ i:=Int.pow_pos (by decide)
 rw[e2,Int.fdiv_eq_ediv_of_nonneg _ (Int.le_of_lt hp)]
 have h3:0≤v / 256 ^ i:=Int.ediv_nonneg h0 (Int.le_of_lt hp)
 have h4:v / 256 ^ i≤v:=Int.ediv_le_self _ h0
 rw[be (k:=.u64) (by simp[bz,IntKind.min,IntKind.max,IntKind.signed,IntKind.bits];omega)]
 simp[IntKind.wrap,IntKind.signed,IntKind.bits]
theorem uD {v:Int}(h0:0≤v)(h1:v≤18446744073709551615)(most:Int):∀(k m:Nat) (b:LI),m<k→m≤8→b.length+m≤4294967296→
  jo k v ((m:Int) - 1) b most=some (.ret ((),((),((b++aw v m,(most,())),())))):=by
 intro k
 induction k with
 |zero=>intro m b h;omega
 |succ k ih=>
  intro m b h2 h3 h4
  rw[vn]
  unfold kt
  cases m with
  |zero=>simp[aw]
  |succ m=>
   have e:((m+1:Nat):Int) - 1=(m:Int):=by omega
   rw[e,aa (by simp),ae (n:=(m:Int) - 1) (by omega) (by omega),DE h0 h1 (by omega),ae (n:=8*(m:Int)) (by omega) (by omega),aa (by simp;omega),aa (by simp;omega),ih m _ (by omega) (by omega) (by simp;omega)]
   simp[aw]
def mY (a0 a1:Int)(a2:LI)(a3:Int):Option cw.Res:=bif decide (i64.wrap (a3 - (↑a2.length:Int))<a1) then oR ((10,()),(a2,a3,()),()) else (fu ((a0,(i64.wrap (a1 - 1),())),((a2,(a3,())),()))).run fun y=>match y with | .ret ((),((),(x14,x15,()),()))=>(oR ((0,()),(x14,x15,()),()))
theorem wN (a0 a1:Int)(a2:LI)(a3:Int):Io.run tt qT dr jW cw Tryd.f66 (((),a0,a1,()),(a2,a3,()),())=mY a0 a1 a2 a3:=by kernel_rfl
theorem m9:HcsOk prog qK:=.cons yW .nil
theorem j4:HcOk prog 66 (ah cw gH):=by
 refine cq m9 (lp:=jW) (fn:=Tryd.f66) cw (.step (h0:=aI bV fu) (by kernel_rfl) (lL m9 (lp:=jW) (fn:=Tryd.f66) (.done (by kernel_rfl)) bV fu ?_) (.done (by kernel_rfl))) gH ?_
 ·rintro ⟨⟨(v:Int),(i:Int),⟨⟩⟩,⟨⟨(b:LI),(m:Int),⟨⟩⟩,⟨⟩⟩⟩ y hw hy
  obtain ⟨hg,hy⟩:=Tr.guard hy
  simp only[zA,zB] at hg
  have hv:bz .u64 v:=hw.1.1
  simp[bz,IntKind.min,IntKind.max,IntKind.signed,IntKind.bits] at hv
  have g1:(-1:Int)≤i:=hg.1
  have g2:i≤(7:Int):=hg.2.1
  have g3:b.length≤4294960000:=hg.2.2
  obtain ⟨n,hn⟩:∃n:Nat,i=(n:Int) - 1:=⟨(i+1).toNat,by omega⟩
  subst hn
  refine ⟨10,(uD hv.1 (by omega) m 10 n b (by omega) (by omega) (by omega)).trans ?_⟩
  rw[← hy,show ((n:Int) - 1+1).toNat=n by omega];rfl
 ·rintro ⟨⟨⟨⟩,(v:Int),(n:Int),⟨⟩⟩,⟨⟨(b:LI),(m:Int),⟨⟩⟩,⟨⟩⟩⟩ out hw ho
  obtain ⟨hg,ho⟩:=Tr.guard ho
  simp only[ci,zA,zB] at hg
  obtain ⟨⟨h1,h2,h3⟩,h4,h5⟩:=hg
  have h4:(0:Int)≤n:=h4
  have h5:n≤(8:Int):=h5
  cases ho
  refine (wN v n b m).trans ?_
  unfold mY fu
  simp only
  rw[ae (n:=m - (b.length:Int)) (by omega) (by omega),ae (n:=n - 1) (by omega) (by omega),show n - 1+1=n by omega]
  unfold bH
  by_cases hl:m - (b.length:Int)<n
  ·rw[aa (by simpa using hl),if_pos (by omega)]
  ·rw[ac (by simpa using hl),if_neg (by omega)]
   have:(decide (-1≤n - 1)&&(decide (n - 1≤7)&&decide (b.length≤4294960000)))=true:=by simp;omega
   rw[this]
   rfl
theorem lW (v:Int){n:Nat}(h:n≤8):aw (u64.wrap v) n=aw v n:=by
 have e:u64.wrap v=v % 18446744073709551616:=by simp[IntKind.wrap,IntKind.signed,IntKind.bits]
 rw[e]
 have key:∀k:Nat,k<8→(v % 18446744073709551616 / 256 ^ k) % 256=(v / 256 ^ k) % 256:=by
  intro k hk
  match k,hk with
  |0,_=>omega
  |1,_=>omega
  |2,_=>omega
  |3,_=>omega
  |4,_=>omega
  |5,_=>omega
  |6,_=>omega
  |7,_=>omega
 induction n with
 |zero=>rfl
 |succ n ih=>rw[aw,aw,key n (by omega),ih (by omega)]
abbrev kO:Io:=⟨[.ptr 0 0,HV],[ER],[],[dI],none⟩
def xk (d:kO.In):Tr kO.Res:=
 .ite (ci d.2.1.1 d.2.1.2.1) (.ret (.ret (((bH d.2.1.1 d.2.1.2.1 d.1.2.1 2).1,()),(((bH d.2.1.1 d.2.1.2.1 d.1.2.1 2).2,(d.2.1.2.1,())),())))) .no
abbrev BG:List (Nat×Hc):=[(66,ah cw gH)]
def Gk:Hd:=bM BG
def CD:Lp:=cc []
def tI (a0:Int)(a1:LI)(a2:Int):Option kO.Res:=bif ci a1 a2&&(decide (0≤2)&&decide (2≤8)) then oR (((bH a1 a2 (u64.wrap a0) (Int.toNat 2)).1,()),((bH a1 a2 (u64.wrap a0) (Int.toNat 2)).2,a2,()),()) else none
theorem Fp (a0:Int)(a1:LI)(a2:Int):Io.run tt Gk dr CD kO Tryd.f39 (((),a0,()),(a1,a2,()),())=tI a0 a1 a2:=by kernel_rfl
theorem GL:HcOk prog 39 (ah kO xk):=by
 refine cq (cs:=BG) (.cons j4 .nil) (lp:=CD) (fn:=Tryd.f39) kO (.done (by kernel_rfl)) xk ?_
 rintro ⟨⟨⟨⟩,(v:Int),⟨⟩⟩,⟨⟨(b:LI),(m:Int),⟨⟩⟩,⟨⟩⟩⟩ out hw ho
 obtain ⟨hg,ho⟩:=Tr.guard ho
 have hg:ci b m=true:=hg
 cases ho
 refine (Fp v b m).trans ?_
 unfold tI
 have e:bH b m (u64.wrap v) 2=bH b m v 2:=by unfold bH;rw[lW v (by decide)]
 simp[hg,e]
abbrev kP:Io:=⟨[.ptr 0 0,Ee],[ER],[],[dI],none⟩
def xl (d:kP.In):Tr kP.Res:=
 .ite (ci d.2.1.1 d.2.1.2.1) (.ret (.ret (((bH d.2.1.1 d.2.1.2.1 d.1.2.1 4).1,()),(((bH d.2.1.1 d.2.1.2.1 d.1.2.1 4).2,(d.2.1.2.1,())),())))) .no
abbrev BH:List (Nat×Hc):=[(66,ah cw gH)]
def Gl:Hd:=bM BH
def CE:Lp:=cc []
def tJ (a0:Int)(a1:LI)(a2:Int):Option kP.Res:=bif ci a1 a2&&(decide (0≤4)&&decide (4≤8)) then oR (((bH a1 a2 (u64.wrap a0) (Int.toNat 4)).1,()),((bH a1 a2 (u64.wrap a0) (Int.toNat 4)).2,a2,()),()) else none
theorem Fq (a0:Int)(a1:LI)(a2:Int):Io.run tt Gl dr CE kP Tryd.f37 (((),a0,()),(a1,a2,()),())=tJ a0 a1 a2:=by kernel_rfl
theorem GM:HcOk prog 37 (ah kP xl):=by
 refine cq (cs:=BH) (.cons j4 .nil) (lp:=CE) (fn:=Tryd.f37) kP (.done (by kernel_rfl)) xl ?_
 rintro ⟨⟨⟨⟩,(v:Int),⟨⟩⟩,⟨⟨(b:LI),(m:Int),⟨⟩⟩,⟨⟩⟩⟩ out hw ho
 obtain ⟨hg,ho⟩:=Tr.guard ho
 have hg:ci b m=true:=hg
 cases ho
 refine (Fq v b m).trans ?_
 unfold tJ
 have e:bH b m (u64.wrap v) 4=bH b m v 4:=by unfold bH;rw[lW v (by decide)]
 simp[hg,e]
abbrev kQ:Io:=⟨[.ptr 0 0,.dat (.int .i64) false false],[ER],[],[dI],none⟩
def xm (d:kQ.In):Tr kQ.Res:=
 .ite (ci d.2.1.1 d.2.1.2.1) (.ret (.ret (((bH d.2.1.1 d.2.1.2.1 d.1.2.1 8).1,()),(((bH d.2.1.1 d.2.1.2.1 d.1.2.1 8).2,(d.2.1.2.1,())),())))) .no
abbrev BI:List (Nat×Hc):=[(66,ah cw gH)]
def Gm:Hd:=bM BI
def CF:Lp:=cc []
def tK (a0:Int)(a1:LI)(a2:Int):Option kQ.Res:=bif ci a1 a2&&(decide (0≤8)&&decide (8≤8)) then oR (((bH a1 a2 (u64.wrap a0) (Int.toNat 8)).1,()),((bH a1 a2 (u64.wrap a0) (Int.toNat 8)).2,a2,()),()) else none
theorem Fr (a0:Int)(a1:LI)(a2:Int):Io.run tt Gm dr CF kQ Tryd.f36 (((),a0,()),(a1,a2,()),())=tK a0 a1 a2:=by kernel_rfl
theorem GN:HcOk prog 36 (ah kQ xm):=by
 refine cq (cs:=BI) (.cons j4 .nil) (lp:=CF) (fn:=Tryd.f36) kQ (.done (by kernel_rfl)) xm ?_
 rintro ⟨⟨⟨⟩,(v:Int),⟨⟩⟩,⟨⟨(b:LI),(m:Int),⟨⟩⟩,⟨⟩⟩⟩ out hw ho
 obtain ⟨hg,ho⟩:=Tr.guard ho
 have hg:ci b m=true:=hg
 cases ho
 refine (Fr v b m).trans ?_
 unfold tK
 have e:bH b m (u64.wrap v) 8=bH b m v 8:=by unfold bH;rw[lW v (by decide)]
 simp[hg,e]
abbrev kR:Io:=⟨[dI],[],[ER],[.ptr 0 0],none⟩
def FN (d:kR.In):Tr kR.Res:=.ret (.ret (((),()),((([]:LI),(lY (eQ d.1.1 0) 1048576,())),())))
abbrev BJ:List (Nat×Hc):=[]
def Gn:Hd:=bM BJ
def CG:Lp:=cc []
def Bo (a0:Int):Option kR.Res:=oR (((),()),([],lY (eQ a0 0) 1048576,()),())
theorem Fs (a0:Int):Io.run tt Gn dr CG kR Tryd.f35 ((a0,()),())=Bo a0:=by kernel_rfl
theorem GO:HcOk prog 35 (ah kR FN):=by
 refine cq (cs:=BJ) HcsOk.nil (lp:=CG) (fn:=Tryd.f35) kR (.done (by kernel_rfl)) FN ?_
 rintro ⟨⟨(m:Int),⟨⟩⟩,⟨⟩⟩ out hw ho
 rw[← ho]
 exact Fs m
abbrev fI:Io:=⟨[.ptr 0 0],[ER],[],[dO],none⟩
def rL (d:fI.In):Tr fI.Res:=.ite (decide (d.2.1.1.length≤4294967296)) (.ret (.ret ((d.2.1.1,()),((d.2.1.1,(d.2.1.2.1,())),())))) .no
abbrev t5:List (Nat×Hc):=[(44,ah cT ld)]
def Cg:Hd:=bM t5
def uR:Lp:=cc []
def wa (a0:LI)(a1:Int):Option fI.Res:=bif decide (a0.length≤4294967296) then oR ((a0,()),(a0,a1,()),()) else none
theorem Aw (a0:LI)(a1:Int):Io.run tt Cg dr uR fI Tryd.f43 (((),()),(a0,a1,()),())=wa a0 a1:=by kernel_rfl
theorem C0:HcOk prog 43 (ah fI rL):=by
 refine cq (cs:=t5) (.cons pc .nil) (lp:=uR) (fn:=Tryd.f43) fI (.done (by kernel_rfl)) rL ?_
 rintro ⟨⟨⟨⟩,⟨⟩⟩,⟨⟨(b:LI),(m:Int),⟨⟩⟩,⟨⟩⟩⟩ out hw ho
 obtain ⟨hg,ho⟩:=Tr.guard ho
 cases ho
 exact (Aw b m).trans (aa hg _ _)
def aE:List (LI)→Nat
 |[]=>0
 |p::ps=>p.length+aE ps
def dZ:List (LI)→LI
 |[]=>[]
 |p::ps=>p++dZ ps
def pC (b:LI)(most:Int)(ps:List (LI)):Int×LI:=if most - b.length<aE ps then (10,b) else (0,b++dZ ps)
abbrev kS:Io:=⟨[.ptr 0 0,.dat (.sl 22 bs) false false],[ER],[],[dI],none⟩
def xn (d:kS.In):Tr kS.Res:=
 .ite (ci d.2.1.1 d.2.1.2.1&&decide (aE d.1.2.1≤4294960000)) (.ret (.ret (((pC d.2.1.1 d.2.1.2.1 d.1.2.1).1,()),(((pC d.2.1.1 d.2.1.2.1 d.1.2.1).2,(d.2.1.2.1,())),())))) .no
abbrev BK:List (Nat×Hc):=[(67,ah gf rM)]
def wk:Hd:=bM BK
abbrev dy:Lo:=⟨⟨(.one (.ptr 0 0)::.one (.hol (.sl 22 (Ty.sl 5 (Ty.int u8))))::.any::cy (.one hI::cV (.one (.hol (.sl 22 (Ty.sl 5 (Ty.int u8))))::.one hI::.one hI::al (fc (cV []))))),[some [.onl 5 (Ty.int u8) 2,hI]]⟩,[(.exit 0,⟨(.one (.ptr 0 0)::.one (.hol (.sl 22 (Ty.sl 5 (Ty.int u8))))::.any::cy (.one hI::.any::al (al (cy [])))),[some [.onl 5 (Ty.int u8) 2,hI]]⟩)]⟩
abbrev cJ:Lo:=⟨⟨(.one (.ptr 0 0)::al (fc (.one (.hol (.sl 22 (Ty.sl 5 (Ty.int u8))))::.one hI::.one hI::.any::fc (cV [])))),[some [.onl 5 (Ty.int u8) 2,hI]]⟩,[(.exit 2,⟨(.any::al (al (fc []))),[some [.onl 5 (Ty.int u8) 2,hI]]⟩)]⟩
def lh (d:dy.st.den):Tr (aq dy.xs):=
 .ite (decide (d.1.2.1=0)&&(decide (d.1.2.2.2.2.1=0)&&(decide (d.1.2.2.2.1=(d.1.2.2.1.length:Int))&&decide (aE d.1.2.2.1≤4294960000)))) (.ret (.ret ((),((d.1.1,((aE d.1.2.2.1:Int),())),(d.2.1,()))))) .no
def iY (d:cJ.st.den):Tr (aq cJ.xs):=
 .ite (decide (d.1.2.2.1=0)&&(decide (d.1.2.1=(d.1.1.length:Int))&&decide (d.2.1.1.length+aE d.1.1≤4294967296))) (.ret (.ret ((),((),((d.2.1.1++dZ d.1.1,(d.2.1.2.1,())),()))))) .no
def mE:Lp:=cc [(4,aI dy lh),(11,aI cJ iY)]
def pM {R:Type}(h3:List bs.den)(h4:Int)(h5:List bs.den)(h6 h7:Int)(h8:LI)(h9:Int)(next:List bs.den→Int→List bs.den→Int→Int→LI→Int→Option R)(out:aq dy.xs→Option R):Option R:=bif decide (h7<h6) then bif decide (0≤h7)&&decide (h7<(↑h5.length:Int)) then next (h3) (i64.wrap (h4+(↑(List.length (h5.getD h7.toNat [])):Int))) (h5) (h6) (i64.wrap (h7+1)) (h8) (h9) else none else out (.ret ((),((h3,(h4,())),((h8,(h9,())),()))))
def o6 (n:Nat)(h3:List bs.den)(h4:Int)(h5:List bs.den)(h6 h7:Int)(h8:LI)(h9:Int):Option (aq dy.xs):=kW tt wk dr mE 1 Tryd.f40 (dF Tryd.f40 0) n (dy.st.mk' ((h3,(h4,(h5,(h6,(h7,()))))),((h8,(h9,())),()))) (ct dy.xs)
theorem DJ (n:Nat)(h3:List bs.den)(h4:Int)(h5:List bs.den)(h6 h7:Int)(h8:LI)(h9:Int):o6 (n+1) h3 h4 h5 h6 h7 h8 h9=pM h3 h4 h5 h6 h7 h8 h9 (o6 n) some:=by kernel_rfl
def nw {R:Type}(h25:List (Ty.sl 5 (Ty.int u8)).den)(h26 h27:Int)(h28:LI)(h29:Int)(next:List (Ty.sl 5 (Ty.int u8)).den→Int→Int→LI→Int→Option R)(out:aq cJ.xs→Option R):Option R:=bif decide (h27<h26) then bif decide (0≤h27)&&decide (h27<(↑h25.length:Int)) then bif decide (h28.length+List.length (h25.getD h27.toNat [])≤4294967296) then next (h25) (h26) (i64.wrap (h27+1)) (h28++h25.getD h27.toNat []) (h29) else none else none else out (.ret ((),((),((h28,(h29,())),()))))
def mC (n:Nat)(h25:List (Ty.sl 5 (Ty.int u8)).den)(h26 h27:Int)(h28:LI)(h29:Int):Option (aq cJ.xs):=kW tt wk dr mE 1 Tryd.f40 (dF Tryd.f40 1) n (cJ.st.mk' ((h25,(h26,(h27,()))),((h28,(h29,())),()))) (ct cJ.xs)
theorem AI (n:Nat)(h25:List (Ty.sl 5 (Ty.int u8)).den)(h26 h27:Int)(h28:LI)(h29:Int):mC (n+1) h25 h26 h27 h28 h29=nw h25 h26 h27 h28 h29 (mC n) some:=by kernel_rfl
theorem ko {ps:List (LI)}{i:Nat}(h:i<ps.length):aE (ps.drop i)=ps[i].length+aE (ps.drop (i+1)):=by rw[zE h];rfl
theorem vw {ps:List (LI)}{i:Nat}(h:i<ps.length):dZ (ps.drop i)=ps[i]++dZ (ps.drop (i+1)):=by rw[zE h];rfl
theorem wv (ps0 ps:List (LI))(b:LI)(m:Int)(hl:ps.length≤maxLen):∀(k i s:Nat),ps.length<i+k→i≤ps.length→s+aE (ps.drop i)≤4294960000→
  o6 k ps0 s ps (ps.length:Int) i b m=some (.ret ((),((ps0,(((s+aE (ps.drop i):Nat):Int),())),((b,(m,())),())))):=by
 intro k
 induction k with
 |zero=>intro i s h;omega
 |succ k ih=>
  intro i s h1 h2 h3
  rw[DJ]
  unfold pM
  by_cases hi:i<ps.length
  ·rw[ko hi] at h3 ⊢
   have e:List.getD ps (i:Int).toNat []=ps[i]:=by simp only[zG,aC hi]
   rw[aa (by simpa using hi),aa (by simpa using hi),e,bm hi hl,ae (n:=(s:Int)+(List.length (α:=Int) ps[i]:Int)) (by omega) (by omega)]
   have e2:(s:Int)+(List.length (α:=Int) ps[i]:Int)=((s+ps[i].length:Nat):Int):=by omega
   rw[e2,ih (i+1) (s+ps[i].length) (by omega) (by omega) (by omega),Nat.add_assoc]
  ·rw[ac (by simp;omega),zI (by omega)]
   rfl
theorem uC (ps:List (LI))(m:Int)(hl:ps.length≤maxLen):∀(k i:Nat) (b:LI),ps.length<i+k→i≤ps.length→b.length+aE (ps.drop i)≤4294967296→
  mC k ps (ps.length:Int) i b m=some (.ret ((),((),((b++dZ (ps.drop i),(m,())),())))):=by
 intro k
 induction k with
 |zero=>intro i b h;omega
 |succ k ih=>
  intro i b h1 h2 h3
  rw[AI]
  unfold nw
  by_cases hi:i<ps.length
  ·rw[ko hi] at h3
   rw[vw hi]
   have e:List.getD ps (i:Int).toNat []=ps[i]:=by simp only[zG,aC hi]
   rw[aa (by simpa using hi),aa (by simpa using hi),e,bm hi hl,aa (by simp;omega),ih (i+1) _ (by omega) (by omega) (by simp;omega),zK]
  ·rw[ac (by simp;omega),zI (by omega)]
   simp[dZ]
def tL (a0:List bs.den)(a1:LI)(a2:Int):Option kS.Res:=(lh ((a0,(0,(a0,((↑a0.length:Int),(0,()))))),((a1,(a2,())),()))).run fun y=>match y with | .ret ((),((x21,x22,()),(x23,x24,()),()))=>(bif decide (i64.wrap (x24 - (↑x23.length:Int))<x22) then oR ((10,()),(x23,x24,()),()) else (iY ((x21,((↑x21.length:Int),(0,()))),((x23,(x24,())),()))).run fun y=>match y with | .ret ((),((),(x37,x38,()),()))=>(oR ((0,()),(x37,x38,()),())))
theorem Ft (a0:List bs.den)(a1:LI)(a2:Int):Io.run tt wk dr mE kS Tryd.f40 (((),a0,()),(a1,a2,()),())=tL a0 a1 a2:=by kernel_rfl
theorem oU:HcsOk prog BK:=.cons yW .nil
theorem GP:HcOk prog 40 (ah kS xn):=by
 refine cq oU (lp:=mE) (fn:=Tryd.f40) kS (.step (h0:=aI dy lh) (by kernel_rfl) (lL oU (lp:=mE) (fn:=Tryd.f40) (.done (by kernel_rfl)) dy lh ?_) (.step (h0:=aI cJ iY) (by kernel_rfl) (lL oU (lp:=mE) (fn:=Tryd.f40) (.done (by kernel_rfl)) cJ iY ?_) (.done (by kernel_rfl)))) xn ?_
 ·rintro ⟨⟨ps0,s,ps,n,i,⟨⟩⟩,⟨⟨b,m,⟨⟩⟩,⟨⟩⟩⟩ y hw hy
  obtain ⟨hg,hy⟩:=Tr.guard hy
  simp only[zA,zB] at hg
  obtain ⟨rfl,rfl,rfl,h4⟩:=hg
  refine ⟨ps.length+1,(wv ps0 ps b m hw.1.2.2.1.1 _ 0 0 (by omega) (by omega) (by simpa using h4)).trans ?_⟩
  rw[← hy,Nat.zero_add];rfl
 ·rintro ⟨⟨ps,n,i,⟨⟩⟩,⟨⟨b,m,⟨⟩⟩,⟨⟩⟩⟩ y hw hy
  obtain ⟨hg,hy⟩:=Tr.guard hy
  simp only[zA,zB] at hg
  obtain ⟨rfl,rfl,h4⟩:=hg
  refine ⟨ps.length+1,(uC ps m hw.1.1.1 _ 0 b (by omega) (by omega) (by simpa using h4)).trans ?_⟩
  rw[← hy];rfl
 ·rintro ⟨⟨⟨⟩,(ps:List (LI)),⟨⟩⟩,⟨⟨(b:LI),(m:Int),⟨⟩⟩,⟨⟩⟩⟩ out hw ho
  obtain ⟨hg,ho⟩:=Tr.guard ho
  simp only[ci,zA,zB] at hg
  obtain ⟨⟨h1,h2,h3⟩,h4⟩:=hg
  have h4:aE ps≤4294960000:=h4
  cases ho
  refine (Ft ps b m).trans ?_
  unfold tL
  have c1:(decide ((0:Int)=0)&&(decide ((0:Int)=0)&&(decide ((ps.length:Int)=(ps.length:Int))&&decide (aE ps≤4294960000))))=true:=by simp;omega
  have e1:lh ((ps,(0,(ps,((ps.length:Int),(0,()))))),((b,(m,())),()))=.ite true (.ret (.ret ((),((ps,((aE ps:Int),())),((b,(m,())),()))))) .no:=congrArg (fun c=>Tr.ite c _ _) c1
  rw[e1]
  simp only[Tr.run,cond_true]
  rw[ae (n:=m - (b.length:Int)) (by omega) (by omega)]
  unfold pC
  by_cases hl:m - (b.length:Int)<(aE ps:Int)
  ·rw[aa (by simpa using hl),if_pos hl]
  ·rw[ac (by simpa using hl),if_neg hl]
   have c2:(decide ((0:Int)=0)&&(decide ((ps.length:Int)=(ps.length:Int))&&decide (b.length+aE ps≤4294967296)))=true:=by simp;omega
   have e2:iY ((ps,((ps.length:Int),(0,()))),((b,(m,())),()))=.ite true (.ret (.ret ((),((),((b++dZ ps,(m,())),()))))) .no:=congrArg (fun c=>Tr.ite c _ _) c2
   rw[e2]
   rfl
abbrev FW:List Sh:=[dL,dI]
abbrev nD:Sh:=.dat (.int .i64) false false
def aY (l:LI):Int:=l.foldl (fun v c=>v*256+c) 0
def aX (b:LI)(p:Int)(n:Nat):Int×(Int×Int):=if (b.length:Int) - p<n then (0,(p,1)) else (aY ((b.drop p.toNat).take n),(p+n,0))
def ca (b:LI)(p:Int):Bool:=decide (b.length≤4294960000)&&(decide (0≤p)&&decide (p≤(b.length:Int)))
def k6 (b:LI)(p n:Int):Int×Int:=if n<0 then (p,3) else if (b.length:Int) - p<n then (p,1) else (p+n,0)
abbrev ey:Io:=⟨[.ptr 0 0],[FW],[],[dI],none⟩
def nM (d:ey.In):Tr ey.Res:=.ret (.ret ((i64.wrap ((d.2.1.1.length:Int) - d.2.1.2.1),()),((d.2.1.1,(d.2.1.2.1,())),())))
abbrev tZ:List (Nat×Hc):=[]
def Ce:Hd:=bM tZ
def uP:Lp:=cc []
def v8 (a0:LI)(a1:Int):Option ey.Res:=oR ((i64.wrap ((↑a0.length:Int) - a1),()),(a0,a1,()),())
theorem Au (a0:LI)(a1:Int):Io.run tt Ce dr uP ey Tryd.f69 (((),()),(a0,a1,()),())=v8 a0 a1:=by kernel_rfl
theorem uZ:HcOk prog 69 (ah ey nM):=by
 refine cq (cs:=tZ) HcsOk.nil (lp:=uP) (fn:=Tryd.f69) ey (.done (by kernel_rfl)) nM ?_
 rintro ⟨⟨⟨⟩,⟨⟩⟩,⟨⟨(b:LI),(p:Int),⟨⟩⟩,⟨⟩⟩⟩ out hw ho
 rw[← ho]
 exact Au b p
abbrev b8:Io:=⟨[.ptr 0 0,dI],[FW],[],[Hs,dI],none⟩
def fh (d:b8.In):Tr b8.Res:=
 .ite (ca d.2.1.1 d.2.1.2.1&&(decide ((0:Int)≤d.1.2.1)&&decide (d.1.2.1≤(8:Int)))) (.ret (.ret (((aX d.2.1.1 d.2.1.2.1 d.1.2.1.toNat).1,((aX d.2.1.1 d.2.1.2.1 d.1.2.1.toNat).2.2,())),((d.2.1.1,((aX d.2.1.1 d.2.1.2.1 d.1.2.1.toNat).2.1,())),())))) .no
abbrev oP:List (Nat×Hc):=[(69,ah ey nM)]
def oV:Hd:=bM oP
abbrev bu:Lo:=⟨⟨(.one (.ptr 0 0)::.one hI::cV (.one (.hol (.int u64))::al (cV (.one (.hol (.sl 5 (Ty.int u8)))::.one hI::.one hI::al (cy []))))),[some [.hol (.sl 5 (Ty.int u8)),hI]]⟩,[(.exit 0,⟨(.one (.ptr 0 0)::.one hI::cV (.one (.hol (.int u64))::.any::al (al (fc [])))),[some [.hol (.sl 5 (Ty.int u8)),hI]]⟩)]⟩
def ee (d:bu.st.den):Tr (aq bu.xs):=
 .ite (decide (d.1.2.1=0)&&(decide (d.1.2.2.2.2.1=0)&&(decide (d.1.2.2.2.1=(d.1.2.2.1.length:Int))&&decide (d.1.2.2.1.length≤8)))) (.ret (.ret ((),((d.1.1,(aY d.1.2.2.1,())),(d.2.1,()))))) .no
def ir:Lp:=cc [(6,aI bu ee)]
def jG {R:Type}(h3 h4:Int)(h5:LI)(h6 h7:Int)(h8:LI)(h9:Int)(next:Int→Int→LI→Int→Int→LI→Int→Option R)(out:aq bu.xs→Option R):Option R:=bif decide (h7<h6) then bif decide (0≤h7)&&decide (h7<(↑h5.length:Int)) then next (h3) (gO u64 (dk u64 h4 8) (u64.wrap (h5.getD h7.toNat 0))) (h5) (h6) (i64.wrap (h7+1)) (h8) (h9) else none else out (.ret ((),((h3,(h4,())),((h8,(h9,())),()))))
def iq (n:Nat)(h3 h4:Int)(h5:LI)(h6 h7:Int)(h8:LI)(h9:Int):Option (aq bu.xs):=kW tt oV dr ir 1 Tryd.f45 (dF Tryd.f45 0) n (bu.st.mk' ((h3,(h4,(h5,(h6,(h7,()))))),((h8,(h9,())),()))) (ct bu.xs)
theorem sZ (n:Nat)(h3 h4:Int)(h5:LI)(h6 h7:Int)(h8:LI)(h9:Int):iq (n+1) h3 h4 h5 h6 h7 h8 h9=jG h3 h4 h5 h6 h7 h8 h9 (iq n) some:=by kernel_rfl
theorem E7 {v c:Int}(h0:0≤v)(h1:v<72057594037927936)(h2:0≤c)(h3:c≤255):gO .u64 (dk .u64 v 8) (u64.wrap c)=v*256+c:=by
 have e1:dk .u64 v 8=v*256:=by
  show IntKind.wrap .u64 (v*2 ^ 8)=_
  rw[show v*2 ^ 8=v*256 by omega]
  exact be (k:=.u64) (by simp[bz,IntKind.min,IntKind.max,IntKind.signed,IntKind.bits];omega)
 have e0:u64.wrap c=c:=be (k:=.u64) (by simp[bz,IntKind.min,IntKind.max,IntKind.signed,IntKind.bits];omega)
 rw[e1,e0]
 obtain ⟨v,rfl⟩:=av h0
 obtain ⟨c,rfl⟩:=av h2
 have e4:=Nat.two_pow_add_eq_or_of_lt (show c<2 ^ 8 by omega) v
 show IntKind.wrap .u64 ((BitVec.ofInt 64 ((v:Int)*256) ||| BitVec.ofInt 64 (c:Int)).toNat:Int)=_
 have e2:(BitVec.ofInt 64 (c:Int)).toNat=c:=by rw[BitVec.toNat_ofInt];omega
 have e3:(BitVec.ofInt 64 ((v:Int)*256)).toNat=2 ^ 8*v:=by rw[BitVec.toNat_ofInt];omega
 rw[BitVec.toNat_or,e2,e3,← e4]
 refine (be (k:=.u64) ?_).trans ?_
 ·simp[bz,IntKind.min,IntKind.max,IntKind.signed,IntKind.bits];omega
 ·omega
theorem s3 (l:LI)(c:Int):aY (l++[c])=aY l*256+c:=by simp[aY]
theorem oT:∀(l:LI) (v:Int),(∀c∈l,0≤c∧c≤255)→0≤v→0≤l.foldl (fun v c=>v*256+c) v∧l.foldl (fun v c=>v*256+c) v<(v+1)*256 ^ l.length
 |[],v,_,h0=>⟨h0,by simp;omega⟩
 |c::l,v,h,h0=>by
  obtain ⟨h3,h4⟩:=h c (by simp)
  obtain ⟨h1,h2⟩:=oT l (v*256+c) (fun d hd=>h d (by simp[hd])) (by omega)
  refine ⟨h1,Int.lt_of_lt_of_le h2 ?_⟩
  rw[zN,Int.pow_succ,Int.mul_comm (256 ^ l.length) 256,← Int.mul_assoc]
  exact Int.mul_le_mul_of_nonneg_right (by omega) (Int.le_of_lt (Int.pow_pos (by decide)))
theorem vq (l:LI)(h:∀c∈l,0≤c∧c≤255):0≤aY l∧aY l<256 ^ l.length:=by
 have:=oT l 0 h (Int.le_refl _)
 simpa [aY] using this
theorem sA (n:Int)(l b:LI)(p:Int)(hl:l.length≤8)(hr:∀c∈l,0≤c∧c≤255):∀(k i:Nat),l.length<i+k→i≤l.length→
  iq k n (aY (l.take i)) l (l.length:Int) i b p=some (.ret ((),((n,(aY l,())),((b,(p,())),())))):=by
 intro k
 induction k with
 |zero=>intro i h;omega
 |succ k ih=>
  intro i h1 h2
  rw[sZ]
  unfold jG
  by_cases hi:i<l.length
  ·have hc:=hr l[i] (List.getElem_mem hi)
   have hb:=vq (l.take i) fun c hc=>hr c (List.mem_of_mem_take hc)
   have hlt:(256:Int) ^ (l.take i).length≤72057594037927936:=by
    rw[List.length_take,show min i l.length=i by omega]
    have hi7:i≤7:=by omega
    match i,hi7 with
    |0,_=>decide
    |1,_=>decide
    |2,_=>decide
    |3,_=>decide
    |4,_=>decide
    |5,_=>decide
    |6,_=>decide
    |7,_=>decide
   have e1:List.getD l (i:Int).toNat 0=l[i]:=by simp only[zG,aC hi]
   rw[aa (by simpa using hi),aa (by simpa using hi),e1,E7 hb.1 (by omega) hc.1 hc.2,← s3,← List.take_succ_eq_append_getElem hi,bm hi (by rw[bN];omega),ih (i+1) (by omega) (by omega)]
  ·rw[ac (by simp;omega),List.take_of_length_le (by omega)]
def lu (a0:Int)(a1:LI)(a2:Int):Option b8.Res:=bif decide (i64.wrap ((↑a1.length:Int) - a2)<a0) then oR ((0,1,()),(a1,a2,()),()) else bif decide (0≤a2)&&(decide (a2≤i64.wrap (a2+a0))&&decide (i64.wrap (a2+a0)≤(↑a1.length:Int))) then (ee ((a0,(0,(List.drop a2.toNat (List.take (i64.wrap (a2+a0)).toNat a1),((↑(List.drop a2.toNat (List.take (i64.wrap (a2+a0)).toNat a1)).length:Int),(0,()))))),((a1,(a2,())),()))).run fun y=>match y with | .ret ((),((x21,x22,()),(x23,x24,()),()))=>(oR ((x22,0,()),(x23,i64.wrap (x24+x21),()),())) else none
theorem vg (a0:Int)(a1:LI)(a2:Int):Io.run tt oV dr ir b8 Tryd.f45 (((),a0,()),(a1,a2,()),())=lu a0 a1 a2:=by kernel_rfl
theorem cS {b:LI}(h:Ty.wf bs b):∀c∈b,0≤c∧c≤255:=fun c hc=>by
 have:=h.2 c hc
 simpa [Ty.wf,bz,IntKind.min,IntKind.max,IntKind.signed,IntKind.bits] using this
theorem lH:HcsOk prog oP:=.cons uZ .nil
theorem iw:HcOk prog 45 (ah b8 fh):=by
 refine cq lH (lp:=ir) (fn:=Tryd.f45) b8 (.step (h0:=aI bu ee) (by kernel_rfl) (lL lH (lp:=ir) (fn:=Tryd.f45) (.done (by kernel_rfl)) bu ee ?_) (.done (by kernel_rfl))) fh ?_
 ·rintro ⟨⟨(n:Int),(v:Int),(l:LI),(m:Int),(i:Int),⟨⟩⟩,⟨⟨(b:LI),(p:Int),⟨⟩⟩,⟨⟩⟩⟩ y hw hy
  obtain ⟨hg,hy⟩:=Tr.guard hy
  simp only[zA,zB] at hg
  obtain ⟨rfl,rfl,rfl,h4⟩:=hg
  refine ⟨l.length+1,(sA n l b p h4 (cS hw.1.2.2.1) _ 0 (by omega) (by omega)).trans ?_⟩
  rw[← hy];rfl
 ·rintro ⟨⟨⟨⟩,(n:Int),⟨⟩⟩,⟨⟨(b:LI),(p:Int),⟨⟩⟩,⟨⟩⟩⟩ out hw ho
  obtain ⟨hg,ho⟩:=Tr.guard ho
  simp only[ca,zA,zB] at hg
  obtain ⟨⟨h1,h2,h3⟩,h4,h5⟩:=hg
  have h1:b.length≤4294960000:=h1
  have h2:(0:Int)≤p:=h2
  have h3:p≤(b.length:Int):=h3
  have h4:(0:Int)≤n:=h4
  have h5:n≤(8:Int):=h5
  cases ho
  refine (vg n b p).trans ?_
  show _=oR (((aX b p n.toNat).1,((aX b p n.toNat).2.2,())),((b,((aX b p n.toNat).2.1,())),()))
  unfold lu
  rw[ae (n:=(b.length:Int) - p) (by omega) (by omega),ae (n:=p+n) (by omega) (by omega)]
  unfold aX
  by_cases hl:(b.length:Int) - p<n
  ·rw[aa (by simpa using hl),if_pos (by omega)]
  ·have e0:List.drop p.toNat (List.take (p+n).toNat b)=(b.drop p.toNat).take n.toNat:=by rw[List.drop_take,show (p+n).toNat - p.toNat=n.toNat by omega]
   rw[ac (by simpa using hl),if_neg (by omega),aa (by simp;omega),e0]
   have hl8:((b.drop p.toNat).take n.toNat).length≤8:=by simp;omega
   have e1:ee ((n,(0,((b.drop p.toNat).take n.toNat,((((b.drop p.toNat).take n.toNat).length:Int),(0,()))))),((b,(p,())),()))=.ite true (.ret (.ret ((),((n,(aY ((b.drop p.toNat).take n.toNat),())),((b,(p,())),()))))) .no:=
    congrArg (fun c=>Tr.ite c _ _) (show (decide ((0:Int)=0)&&(decide ((0:Int)=0)&&(decide ((((b.drop p.toNat).take n.toNat).length:Int)=(((b.drop p.toNat).take n.toNat).length:Int))&&decide (((b.drop p.toNat).take n.toNat).length≤8))))=true by simp;omega)
   rw[e1]
   simp only[Tr.run,cond_true]
   rw[ae (n:=p+n) (by omega) (by omega),show ((n.toNat:Nat):Int)=n by omega]
abbrev ig:Io:=⟨[.ptr 0 0],[FW],[],[HV,dI],none⟩
def rH (d:ig.In):Tr ig.Res:=
 .ite (ca d.2.1.1 d.2.1.2.1) (.ret (.ret ((i16.wrap (aX d.2.1.1 d.2.1.2.1 2).1,((aX d.2.1.1 d.2.1.2.1 2).2.2,())),((d.2.1.1,((aX d.2.1.1 d.2.1.2.1 2).2.1,())),())))) .no
abbrev xL:List (Nat×Hc):=[(45,ah b8 fh)]
def EA:Hd:=bM xL
def yu:Lp:=cc []
def qt (a0:LI)(a1:Int):Option ig.Res:=bif ca a0 a1&&(decide (0≤2)&&decide (2≤8)) then oR ((i16.wrap (aX a0 a1 (Int.toNat 2)).1,(aX a0 a1 (Int.toNat 2)).2.2,()),(a0,(aX a0 a1 (Int.toNat 2)).2.1,()),()) else none
theorem Dm (a0:LI)(a1:Int):Io.run tt EA dr yu ig Tryd.f50 (((),()),(a0,a1,()),())=qt a0 a1:=by kernel_rfl
theorem EZ:HcOk prog 50 (ah ig rH):=by
 refine cq (cs:=xL) (.cons iw .nil) (lp:=yu) (fn:=Tryd.f50) ig (.done (by kernel_rfl)) rH ?_
 rintro ⟨⟨⟨⟩,⟨⟩⟩,⟨⟨(b:LI),(p:Int),⟨⟩⟩,⟨⟩⟩⟩ out hw ho
 obtain ⟨hg,ho⟩:=Tr.guard ho
 have hg:ca b p=true:=hg
 cases ho
 refine (Dm b p).trans ?_
 unfold qt
 rw[aa (by simp[hg])]
 rfl
abbrev gb:Io:=⟨[.ptr 0 0],[FW],[],[Ee,dI],none⟩
def ou (d:gb.In):Tr gb.Res:=
 .ite (ca d.2.1.1 d.2.1.2.1) (.ret (.ret ((i32.wrap (aX d.2.1.1 d.2.1.2.1 4).1,((aX d.2.1.1 d.2.1.2.1 4).2.2,())),((d.2.1.1,((aX d.2.1.1 d.2.1.2.1 4).2.1,())),())))) .no
abbrev xM:List (Nat×Hc):=[(45,ah b8 fh)]
def EB:Hd:=bM xM
def yv:Lp:=cc []
def qu (a0:LI)(a1:Int):Option gb.Res:=bif ca a0 a1&&(decide (0≤4)&&decide (4≤8)) then oR ((i32.wrap (aX a0 a1 (Int.toNat 4)).1,(aX a0 a1 (Int.toNat 4)).2.2,()),(a0,(aX a0 a1 (Int.toNat 4)).2.1,()),()) else none
theorem Dn (a0:LI)(a1:Int):Io.run tt EB dr yv gb Tryd.f21 (((),()),(a0,a1,()),())=qu a0 a1:=by kernel_rfl
theorem yS:HcOk prog 21 (ah gb ou):=by
 refine cq (cs:=xM) (.cons iw .nil) (lp:=yv) (fn:=Tryd.f21) gb (.done (by kernel_rfl)) ou ?_
 rintro ⟨⟨⟨⟩,⟨⟩⟩,⟨⟨(b:LI),(p:Int),⟨⟩⟩,⟨⟩⟩⟩ out hw ho
 obtain ⟨hg,ho⟩:=Tr.guard ho
 have hg:ca b p=true:=hg
 cases ho
 refine (Dn b p).trans ?_
 unfold qu
 rw[aa (by simp[hg])]
 rfl
abbrev ii:Io:=⟨[.ptr 0 0],[FW],[],[nD,dI],none⟩
def rI (d:ii.In):Tr ii.Res:=
 .ite (ca d.2.1.1 d.2.1.2.1) (.ret (.ret ((i64.wrap (aX d.2.1.1 d.2.1.2.1 8).1,((aX d.2.1.1 d.2.1.2.1 8).2.2,())),((d.2.1.1,((aX d.2.1.1 d.2.1.2.1 8).2.1,())),())))) .no
abbrev xN:List (Nat×Hc):=[(45,ah b8 fh)]
def EC:Hd:=bM xN
def yw:Lp:=cc []
def qv (a0:LI)(a1:Int):Option ii.Res:=bif ca a0 a1&&(decide (0≤8)&&decide (8≤8)) then oR ((i64.wrap (aX a0 a1 (Int.toNat 8)).1,(aX a0 a1 (Int.toNat 8)).2.2,()),(a0,(aX a0 a1 (Int.toNat 8)).2.1,()),()) else none
theorem Do (a0:LI)(a1:Int):Io.run tt EC dr yw ii Tryd.f47 (((),()),(a0,a1,()),())=qv a0 a1:=by kernel_rfl
theorem E0:HcOk prog 47 (ah ii rI):=by
 refine cq (cs:=xN) (.cons iw .nil) (lp:=yw) (fn:=Tryd.f47) ii (.done (by kernel_rfl)) rI ?_
 rintro ⟨⟨⟨⟩,⟨⟩⟩,⟨⟨(b:LI),(p:Int),⟨⟩⟩,⟨⟩⟩⟩ out hw ho
 obtain ⟨hg,ho⟩:=Tr.guard ho
 have hg:ca b p=true:=hg
 cases ho
 refine (Do b p).trans ?_
 unfold qv
 rw[aa (by simp[hg])]
 rfl
abbrev fH:Io:=⟨[.ptr 0 0,dI],[FW],[],[dI],none⟩
def nN (d:fH.In):Tr fH.Res:=
 .ite (ca d.2.1.1 d.2.1.2.1) (.ret (.ret (((k6 d.2.1.1 d.2.1.2.1 d.1.2.1).2,()),((d.2.1.1,((k6 d.2.1.1 d.2.1.2.1 d.1.2.1).1,())),())))) .no
abbrev t4:List (Nat×Hc):=[(69,ah ey nM)]
def Cf:Hd:=bM t4
def uQ:Lp:=cc []
def oK (a0:Int)(a1:LI)(a2:Int):Option fH.Res:=bif decide (a0<0) then oR ((3,()),(a1,a2,()),()) else bif decide (i64.wrap ((↑a1.length:Int) - a2)<a0) then oR ((1,()),(a1,a2,()),()) else oR ((0,()),(a1,i64.wrap (a2+a0),()),())
theorem Av (a0:Int)(a1:LI)(a2:Int):Io.run tt Cf dr uQ fH Tryd.f48 (((),a0,()),(a1,a2,()),())=oK a0 a1 a2:=by kernel_rfl
theorem CZ:HcOk prog 48 (ah fH nN):=by
 refine cq (cs:=t4) (.cons uZ .nil) (lp:=uQ) (fn:=Tryd.f48) fH (.done (by kernel_rfl)) nN ?_
 rintro ⟨⟨⟨⟩,(n:Int),⟨⟩⟩,⟨⟨(b:LI),(p:Int),⟨⟩⟩,⟨⟩⟩⟩ out hw ho
 obtain ⟨hg,ho⟩:=Tr.guard ho
 simp only[ca,zA,zB] at hg
 obtain ⟨h1,h2,h3⟩:=hg
 have h1:b.length≤4294960000:=h1
 have h2:(0:Int)≤p:=h2
 have h3:p≤(b.length:Int):=h3
 cases ho
 refine (Av n b p).trans ?_
 unfold oK k6
 rw[ae (n:=(b.length:Int) - p) (by omega) (by omega)]
 by_cases h4:n<0
 ·rw[aa (by simpa using h4),if_pos h4]
 ·rw[ac (by simpa using h4),if_neg h4]
  by_cases h5:(b.length:Int) - p<n
  ·rw[aa (by simpa using h5),if_pos h5]
  ·rw[ac (by simpa using h5),if_neg h5,ae (n:=p+n) (by omega) (by omega)]
abbrev gd:Io:=⟨[dL],[],[FW],[.ptr 0 0],none⟩
def rJ (d:gd.In):Tr gd.Res:=.ite (decide (d.1.1.length≤4294967296)) (.ret (.ret (((),()),((d.1.1,(0,())),())))) .no
abbrev xO:List (Nat×Hc):=[(44,ah cT ld)]
def ED:Hd:=bM xO
def yx:Lp:=cc []
def zl (a0:LI):Option gd.Res:=bif decide (a0.length≤4294967296) then oR (((),()),(a0,0,()),()) else none
theorem Dp (a0:LI):Io.run tt ED dr yx gd Tryd.f20 ((a0,()),())=zl a0:=by kernel_rfl
theorem yU:HcOk prog 20 (ah gd rJ):=by
 refine cq (cs:=xO) (.cons pc .nil) (lp:=yx) (fn:=Tryd.f20) gd (.done (by kernel_rfl)) rJ ?_
 rintro ⟨⟨(b:LI),⟨⟩⟩,⟨⟩⟩ out hw ho
 obtain ⟨hg,ho⟩:=Tr.guard ho
 cases ho
 exact (Dp b).trans (aa hg _ _)
abbrev dQ:Io:=⟨[nD,dI],[],[],[dO],none⟩
def oq (d:dQ.In):Tr dQ.Res:=.ite (decide ((0:Int)≤d.1.2.1)&&decide (d.1.2.1≤(8:Int))) (.ret (.ret ((aw d.1.1 d.1.2.1.toNat,()),()))) .no
abbrev jL:List (Nat×Hc):=[]
def mq:Hd:=bM jL
abbrev bP:Lo:=⟨⟨(.one hI::.one hI::.any::cy (.one (.onl 5 (Ty.int u8) 11)::.one hI::.any::al (al (cV (cy []))))),[]⟩,[(.exit 0,⟨(.any::.one hI::.any::cy (.one (.onl 5 (Ty.int u8) 11)::al (al (fc [])))),[]⟩)]⟩
abbrev bt:Lo:=⟨⟨(.any::cV (.one (.onl 5 (Ty.int u8) 11)::cy (.one (.onl 5 (Ty.int u8) 17)::.one hI::al (al (cV []))))),[]⟩,[(.exit 2,⟨(fc (.one (.onl 5 (Ty.int u8) 17)::.any::al (al (cV [])))),[]⟩)]⟩
def dh (v:Int):Nat→LI
 |0=>[]
 |n+1=>v % 256::dh (v / 256) n
def fm (d:bP.st.den):Tr (aq bP.xs):=
 .ite (decide (d.1.2.2.1.length=0)&&(decide (d.1.2.2.2.1=0)&&(decide ((0:Int)≤d.1.2.1)&&decide (d.1.2.1≤(8:Int))))) (.ret (.ret ((),((d.1.2.1,(dh d.1.1 d.1.2.1.toNat,())),())))) .no
def dc (d:bt.st.den):Tr (aq bt.xs):=
 .ite (decide (d.1.2.1.length=0)&&(decide (d.1.2.2.1=(d.1.1.length:Int) - 1)&&decide (d.1.1.length≤8))) (.ret (.ret ((),((d.1.1.reverse,()),())))) .no
def fi:Lp:=cc [(4,aI bP fm),(13,aI bt dc)]
def kp {R:Type}(h2 h3:Int)(h4:LI)(h5:Int)(next:Int→Int→LI→Int→Option R)(out:aq bP.xs→Option R):Option R:=bif decide (h5<h3) then bif decide (i64.wrap (h2.tmod 256)<0) then bif decide (h4.length+[u8.wrap (i64.wrap (i64.wrap (h2.tmod 256)+256))].length≤4294967296) then next (i64.wrap ((i64.wrap (h2 - i64.wrap (i64.wrap (h2.tmod 256)+256))).tdiv 256)) (h3) (h4++[u8.wrap (i64.wrap (i64.wrap (h2.tmod 256)+256))]) (i64.wrap (h5+1)) else none else bif decide (h4.length+[u8.wrap (i64.wrap (h2.tmod 256))].length≤4294967296) then next (i64.wrap ((i64.wrap (h2 - i64.wrap (h2.tmod 256))).tdiv 256)) (h3) (h4++[u8.wrap (i64.wrap (h2.tmod 256))]) (i64.wrap (h5+1)) else none else out (.ret ((),((h3,(h4,())),())))
def gk (n:Nat)(h2 h3:Int)(h4:LI)(h5:Int):Option (aq bP.xs):=kW tt mq dr fi 0 Tryd.f24 (dF Tryd.f24 0) n (bP.st.mk' ((h2,(h3,(h4,(h5,())))),())) (ct bP.xs)
theorem vj (n:Nat)(h2 h3:Int)(h4:LI)(h5:Int):gk (n+1) h2 h3 h4 h5=kp h2 h3 h4 h5 (gk n) some:=by kernel_rfl
def fP {R:Type}(h18 h19:LI)(h20:Int)(next:LI→LI→Int→Option R)(out:aq bt.xs→Option R):Option R:=bif decide (0≤h20) then bif decide (0≤h20)&&decide (h20<(↑h18.length:Int)) then bif decide (h19.length+[h18.getD h20.toNat 0].length≤4294967296) then next (h18) (h19++[h18.getD h20.toNat 0]) (i64.wrap (h20 - 1)) else none else none else out (.ret ((),((h19,()),())))
def ip (n:Nat)(h18 h19:LI)(h20:Int):Option (aq bt.xs):=kW tt mq dr fi 0 Tryd.f24 (dF Tryd.f24 1) n (bt.st.mk' ((h18,(h19,(h20,()))),())) (ct bt.xs)
theorem lU (n:Nat)(h18 h19:LI)(h20:Int):ip (n+1) h18 h19 h20=fP h18 h19 h20 (ip n) some:=by kernel_rfl
theorem DV (v:Int):(v.tmod 256<0→v.tmod 256+256=v % 256)∧(¬ v.tmod 256<0→v.tmod 256=v % 256):=by
 by_cases h:0≤v
 ·rw[Int.tmod_eq_emod_of_nonneg h];omega
 ·obtain ⟨u,rfl⟩:∃u,v = -u:=⟨-v,by omega⟩
  rw[Int.neg_tmod,Int.tmod_eq_emod_of_nonneg (by omega)];omega
theorem DU (v:Int):(v - v % 256).tdiv 256=v / 256:=by
 have e:v - v % 256=v / 256*256:=by omega
 rw[e,Int.mul_tdiv_cancel _ (by decide)]
theorem FD {n:Int}(h0:0≤n)(h1:n<256):u8.wrap n=n:=be (by simp[bz,IntKind.min,IntKind.max,IntKind.signed,IntKind.bits];omega)
theorem pT {m:Nat}(hm:m≤8):∀(k j:Nat) (v:Int) (acc:LI),m<j+k→j≤m→acc.length=j→-9223372036854775808≤v→v≤9223372036854775807→
  gk k v (m:Int) acc j=some (.ret ((),(((m:Int),(acc++dh v (m - j),())),()))):=by
 intro k
 induction k with
 |zero=>intro j v acc h;omega
 |succ k ih=>
  intro j v acc h1 h2 h3 h4 h5
  rw[vj]
  unfold kp
  by_cases hj:j<m
  ·refine bT (decide_eq_true (show (j:Int)<(m:Int) by omega)) ?_
   have ht:=DV v
   have hd:∀x:Int,x=v % 256→gk k (i64.wrap ((i64.wrap (v - x)).tdiv 256)) (m:Int) (acc++[u8.wrap x]) (i64.wrap ((j:Int)+1))=some (.ret ((),(((m:Int),(acc++dh v (m - j),())),()))):=by
    rintro x rfl
    rw[ae (n:=v - v % 256) (by omega) (by omega),DU,ae (n:=v / 256) (by omega) (by omega),ae (n:=(j:Int)+1) (by omega) (by omega),FD (n:=v % 256) (by omega) (by omega)]
    refine (ih (j+1) (v / 256) (acc++[v % 256]) (by omega) (by omega) (by simp[h3]) (by omega) (by omega)).trans ?_
    obtain ⟨q,hq⟩:∃q,m - j=q+1:=⟨m - j - 1,by omega⟩
    rw[hq,show m - (j+1)=q by omega,dh]
    simp
   have hr : -256≤v.tmod 256∧v.tmod 256<256:=by
    by_cases h:v.tmod 256<0
    ·have:=ht.1 h;omega
    ·have:=ht.2 h;omega
   rw[ae (n:=v.tmod 256) (by omega) (by omega),ae (n:=v.tmod 256+256) (by omega) (by omega)]
   by_cases hn:v.tmod 256<0
   ·refine bT (by simpa using hn) ?_
    refine bT (decide_eq_true (show acc.length+1≤4294967296 by omega)) ?_
    exact hd _ (ht.1 hn)
   ·refine bF (by simpa using hn) ?_
    refine bT (decide_eq_true (show acc.length+1≤4294967296 by omega)) ?_
    exact hd _ (ht.2 hn)
  ·refine bF (decide_eq_false (show ¬(j:Int)<(m:Int) by omega)) ?_
   rw[show m - j=0 by omega,dh]
   simp
theorem o8 {low:LI}(hl:low.length≤8):∀(j:Nat) (acc:LI),j≤low.length→acc.length+j≤8→
  ip (j+1) low acc ((j:Int) - 1)=some (.ret ((),((acc++(low.take j).reverse,()),()))):=by
 intro j
 induction j with
 |zero=>
  intro acc h1 h2
  rw[lU]
  unfold fP
  refine bF (by decide) ?_
  simp
 |succ j ih=>
  intro acc h1 h2
  rw[lU]
  unfold fP
  rw[show ((j+1:Nat):Int) - 1=(j:Int) by omega]
  have hg:List.getD low j (0:Int)=low[j]'(by omega):=aC (by omega)
  refine bT (by simp) ?_
  refine bT (by simp;omega) ?_
  simp only[zG,hg]
  refine bT (decide_eq_true (show acc.length+1≤4294967296 by omega)) ?_
  rw[ae (n:=(j:Int) - 1) (by omega) (by omega)]
  refine (ih (acc++[low[j]'(by omega)]) (by omega) (by simp;omega)).trans ?_
  rw[List.take_succ_eq_append_getElem (by omega),List.reverse_append,List.reverse_singleton,zK]
theorem AJ (v:Int):∀n,(dh v n).length=n:=by
 intro n
 induction n generalizing v with
 |zero=>rfl
 |succ n ih=>rw[dh,zN,ih]
theorem py:∀(n:Nat) (v:Int),dh v (n+1)=dh v n++[(v / 256 ^ n) % 256]
 |0,v=>by simp[dh]
 |n+1,v=>by
  rw[dh,py n (v / 256),dh]
  have e:v / 256 / 256 ^ n=v / 256 ^ (n+1):=by
   rw[Int.pow_succ,Int.mul_comm,Int.ediv_ediv_of_nonneg (by decide)]
  rw[e];rfl
theorem rf (v:Int):∀n,(dh v n).reverse=aw v n
 |0=>rfl
 |n+1=>by rw[py,List.reverse_append,rf v n];rfl
def mT (a0 a1:Int):Option dQ.Res:=(fm ((a0,(a1,([],(0,())))),())).run fun y=>match y with | .ret ((),((x16,x17,()),()))=>((dc ((x17,([],(i64.wrap (x16 - 1),()))),())).run fun y=>match y with | .ret ((),((x25,()),()))=>(oR ((x25,()),())))
theorem wI (a0 a1:Int):Io.run tt mq dr fi dQ Tryd.f24 ((a0,a1,()),())=mT a0 a1:=by kernel_rfl
theorem z9:HcOk prog 24 (ah dQ oq):=by
 refine cq (cs:=jL) HcsOk.nil (lp:=fi) (fn:=Tryd.f24) dQ (.step (h0:=aI bP fm) (by kernel_rfl) (lL (cs:=jL) HcsOk.nil (lp:=fi) (fn:=Tryd.f24) (.done (by kernel_rfl)) bP fm ?_) (.step (h0:=aI bt dc) (by kernel_rfl) (lL (cs:=jL) HcsOk.nil (lp:=fi) (fn:=Tryd.f24) (.done (by kernel_rfl)) bt dc ?_) (.done (by kernel_rfl)))) oq ?_
 ·rintro ⟨⟨(v:Int),(m:Int),(acc:LI),(i:Int),⟨⟩⟩,⟨⟩⟩ y hw hy
  obtain ⟨hg,hy⟩:=Tr.guard hy
  simp only[zA,zB] at hg
  obtain ⟨h1,h2,h3,h4⟩:=hg
  have h1:acc=[]:=zF h1
  have h2:i=0:=h2
  have h3:(0:Int)≤m:=h3
  have h4:m≤(8:Int):=h4
  subst h1
  subst h2
  obtain ⟨m,rfl⟩:=av h3
  have hv:bz .i64 v:=hw.1.1
  simp only[bz,IntKind.min,IntKind.max,IntKind.signed,IntKind.bits] at hv
  simp at hv
  refine ⟨m+1,(pT (m:=m) (by omega) (m+1) 0 v [] (by omega) (by omega) rfl (by omega) (by omega)).trans ?_⟩
  rw[← hy];rfl
 ·rintro ⟨⟨(low:LI),(acc:LI),(i:Int),⟨⟩⟩,⟨⟩⟩ y hw hy
  obtain ⟨hg,hy⟩:=Tr.guard hy
  simp only[zA,zB] at hg
  obtain ⟨h1,h2,h3⟩:=hg
  have h1:acc=[]:=zF h1
  have h2:i=(low.length:Int) - 1:=h2
  have h3:low.length≤8:=h3
  subst h1
  subst h2
  refine ⟨low.length+1,(o8 h3 low.length [] (by omega) (by simpa using h3)).trans ?_⟩
  rw[← hy,List.take_length];rfl
 ·rintro ⟨⟨(v:Int),(m:Int),⟨⟩⟩,⟨⟩⟩ out hw ho
  obtain ⟨hg,ho⟩:=Tr.guard ho
  simp only[zA,zB] at hg
  obtain ⟨h5,h6⟩:=hg
  have h5:(0:Int)≤m:=h5
  have h6:m≤(8:Int):=h6
  cases ho
  refine (wI v m).trans ?_
  unfold mT
  have c1:(decide (([]:LI).length=0)&&(decide ((0:Int)=0)&&(decide ((0:Int)≤m)&&decide (m≤(8:Int)))))=true:=by simp;omega
  have e1:fm ((v,(m,([],(0,())))),())=.ite true (.ret (.ret ((),((m,(dh v m.toNat,())),())))) .no:=congrArg (fun c=>Tr.ite c _ _) c1
  rw[e1]
  show (dc ((dh v m.toNat,([],(i64.wrap (m - 1),()))),())).run _=_
  rw[ae (n:=m - 1) (by omega) (by omega)]
  have c2:(decide (([]:LI).length=0)&&(decide (m - 1=((dh v m.toNat).length:Int) - 1)&&decide ((dh v m.toNat).length≤8)))=true:=by
   rw[AJ];simp;omega
  have e2:dc ((dh v m.toNat,([],(m - 1,()))),())=.ite true (.ret (.ret ((),(((dh v m.toNat).reverse,()),())))) .no:=congrArg (fun c=>Tr.ite c _ _) c2
  rw[e2,rf]
  rfl
def bx (l:LI):Int:=match l with
 |[]=>0
 |c::l=>l.foldl (fun v c=>v*256+c) (if 128≤c then c - 256 else c)
def ai (b:LI)(at_ n:Int):Int×Bool:=if at_<0∨(b.length:Int)<at_∨(b.length:Int) - at_<n then (0,false) else (bx ((b.drop at_.toNat).take n.toNat),true)
abbrev dR:Io:=⟨[dL,dI,dI],[],[],[nD,dB],none⟩
def ot (d:dR.In):Tr dR.Res:=.ite (decide ((0:Int)≤d.1.2.2.1)&&decide (d.1.2.2.1≤(8:Int))) (.ret (.ret (((ai d.1.1 d.1.2.1 d.1.2.2.1).1,((ai d.1.1 d.1.2.1 d.1.2.2.1).2,())),()))) .no
abbrev mj:List (Nat×Hc):=[]
def qR:Hd:=bM mj
abbrev bQ:Lo:=⟨⟨(.one (.hol (.sl 5 (Ty.int u8)))::.one hI::.one hI::.any::cV (.one hI::.one hI::al (al (fc (cy []))))),[]⟩,[(.exit 0,⟨(fc (.one hI::.any::al (al (fc (cy []))))),[]⟩)]⟩
def fo (d:bQ.st.den):Tr (aq bQ.xs):=
 .ite (decide (d.1.2.2.2.1=0)&&(decide (d.1.2.2.2.2.1=0)&&((decide ((0:Int)≤d.1.2.1)&&decide (d.1.2.1+d.1.2.2.1≤(d.1.1.length:Int)))&&(decide ((0:Int)≤d.1.2.2.1)&&decide (d.1.2.2.1≤(8:Int)))))) (.ret (.ret ((),((bx ((d.1.1.drop d.1.2.1.toNat).take d.1.2.2.1.toNat),()),())))) .no
def jU:Lp:=cc [(6,aI bQ fo)]
def kq {R:Type}(h3:LI)(h4 h5 h6 h7:Int)(next:LI→Int→Int→Int→Int→Option R)(out:aq bQ.xs→Option R):Option R:=bif decide (h7<h5) then bif decide (0≤i64.wrap (h4+h7))&&decide (i64.wrap (h4+h7)<(↑h3.length:Int)) then bif h7 == 0 then bif decide (128≤i64.wrap (h3.getD (i64.wrap (h4+h7)).toNat 0)) then next (h3) (h4) (h5) (i64.wrap (i64.wrap (h6*256)+i64.wrap (i64.wrap (h3.getD (i64.wrap (h4+h7)).toNat 0) - 256))) (i64.wrap (h7+1)) else next (h3) (h4) (h5) (i64.wrap (i64.wrap (h6*256)+i64.wrap (h3.getD (i64.wrap (h4+h7)).toNat 0))) (i64.wrap (h7+1)) else next (h3) (h4) (h5) (i64.wrap (i64.wrap (h6*256)+i64.wrap (h3.getD (i64.wrap (h4+h7)).toNat 0))) (i64.wrap (h7+1)) else none else out (.ret ((),((h6,()),())))
def jj (n:Nat)(h3:LI)(h4 h5 h6 h7:Int):Option (aq bQ.xs):=kW tt qR dr jU 0 Tryd.f46 (dF Tryd.f46 0) n (bQ.st.mk' ((h3,(h4,(h5,(h6,(h7,()))))),())) (ct bQ.xs)
theorem vk (n:Nat)(h3:LI)(h4 h5 h6 h7:Int):jj (n+1) h3 h4 h5 h6 h7=kq h3 h4 h5 h6 h7 (jj n) some:=by kernel_rfl
theorem wX (l:LI)(c:Int):bx (l++[c])=if l=[] then (if 128≤c then c - 256 else c) else bx l*256+c:=by
 cases l with
 |nil=>simp[bx]
 |cons x l=>simp[bx,List.foldl_append]
theorem vy:∀(l:LI) (v B:Int),(∀c∈l,0≤c∧c<256)→-B≤v→v<B→-(B*256 ^ l.length)≤l.foldl (fun v c=>v*256+c) v∧l.foldl (fun v c=>v*256+c) v<B*256 ^ l.length
 |[],v,B,_,h1,h2=>by simp;omega
 |c::l,v,B,hc,h1,h2=>by
  have h:=hc c (by simp)
  have ih:=vy l (v*256+c) (B*256) (fun x hx=>hc x (by simp[hx])) (by omega) (by omega)
  have e:B*256*256 ^ l.length=B*256 ^ (c::l).length:=by rw[zN,Int.pow_succ,Int.mul_assoc,Int.mul_comm 256]
  rw[e] at ih
  exact ih
theorem DO {l:LI}(hc:∀c∈l,0≤c∧c<256)(hl:l.length≤7) : -36028797018963968≤bx l∧bx l<36028797018963968:=by
 cases l with
 |nil=>simp[bx]
 |cons c l=>
  have h:=hc c (by simp)
  have h':=vy l (if 128≤c then c - 256 else c) 128 (fun x hx=>hc x (by simp[hx])) (by split <;> omega) (by split <;> omega)
  have hp:(256:Int) ^ l.length≤256 ^ 6:=by
   have:=Nat.pow_le_pow_right (show 0<256 by decide) (show l.length≤6 by simpa using hl)
   have e:((256 ^ l.length:Nat):Int)=(256:Int) ^ l.length:=by simp
   have e2:((256 ^ 6:Nat):Int)=(256:Int) ^ 6:=by simp
   omega
  have e6:(256:Int) ^ 6=281474976710656:=by decide
  show -36028797018963968≤l.foldl _ _∧l.foldl _ _<36028797018963968
  omega
theorem uA {b:LI}(hb:∀c∈b,0≤c∧c<256)(hl:b.length≤maxLen){a m:Nat}(h1:a+m≤b.length)(h2:m≤8):∀(k j:Nat),m<j+k→j≤m→
  jj k b (a:Int) (m:Int) (bx ((b.drop a).take j)) j=some (.ret ((),((bx ((b.drop a).take m),()),()))):=by
 intro k
 induction k with
 |zero=>intro j h;omega
 |succ k ih=>
  intro j h3 h4
  rw[vk]
  unfold kq
  by_cases hj:j<m
  ·have hm:=bN
   rw[hm] at hl
   refine bT (decide_eq_true (show (j:Int)<(m:Int) by omega)) ?_
   have ej:((a:Int)+(j:Int))=((a+j:Nat):Int):=by omega
   have hget:List.getD b (a+j) (0:Int)=b[a+j]'(by omega):=aC (by omega)
   have hc:=hb (b[a+j]'(by omega)) (List.getElem_mem _)
   have e:(b.drop a).take (j+1)=(b.drop a).take j++[b[a+j]'(by omega)]:=by
    rw[List.take_succ_eq_append_getElem (by simp;omega)];simp
   have hs:=DO (l:=(b.drop a).take j) (fun c hc=>hb c (List.mem_of_mem_drop (List.mem_of_mem_take hc))) (by simp;omega)
   have he:=wX ((b.drop a).take j) (b[a+j]'(by omega))
   rw[← e] at he
   rw[ej,ae (n:=((a+j:Nat):Int)) (by omega) (by omega)]
   refine bT (by simp;omega) ?_
   simp only[zG,hget]
   have ih':=ih (j+1) (by omega) (by omega)
   rw[he] at ih'
   have hv0:j=0→bx ((b.drop a).take j)=0:=by rintro rfl;simp[bx]
   have ht:(b.drop a).take j=[]↔j=0:=by
    constructor
    ·intro h
     have:=congrArg List.length h
     simp at this
     omega
    ·rintro rfl;simp
   generalize b[a+j]'(by omega)=c at hc ih' ⊢
   generalize bx ((b.drop a).take j)=v at hs ih' hv0 ⊢
   rw[ae (n:=c) (by omega) (by omega),ae (n:=v*256) (by omega) (by omega),ae (n:=(j:Int)+1) (by omega) (by omega),ae (n:=v*256+c) (by omega) (by omega),ae (n:=c - 256) (by omega) (by omega)]
   by_cases h0:j=0
   ·have hv:=hv0 h0
    rw[if_pos (ht.2 h0)] at ih'
    refine bT (by simp[h0]) ?_
    by_cases h128:128≤c
    ·rw[if_pos h128] at ih'
     refine bT (by simpa using h128) ?_
     rw[show v*256+(c - 256)=c - 256 by omega,ae (n:=c - 256) (by omega) (by omega)]
     exact ih'
    ·rw[if_neg h128] at ih'
     refine bF (by simpa using h128) ?_
     rw[show v*256+c=c by omega]
     exact ih'
   ·rw[if_neg (fun h=>h0 (ht.1 h))] at ih'
    refine bF (by simpa using h0) ?_
    exact ih'
  ·refine bF (by simpa using hj) ?_
   rw[show j=m by omega]
def mU (a0:LI)(a1 a2:Int):Option dR.Res:=bif decide (a1<0) then oR ((0,false,()),()) else bif decide ((↑a0.length:Int)<a1) then oR ((0,false,()),()) else bif decide (i64.wrap ((↑a0.length:Int) - a1)<a2) then oR ((0,false,()),()) else (fo ((a0,(a1,(a2,(0,(0,()))))),())).run fun y=>match y with | .ret ((),((x24,()),()))=>(oR ((x24,true,()),()))
theorem wJ (a0:LI)(a1 a2:Int):Io.run tt qR dr jU dR Tryd.f46 ((a0,a1,a2,()),())=mU a0 a1 a2:=by kernel_rfl
theorem Ab:HcOk prog 46 (ah dR ot):=by
 refine cq (cs:=mj) HcsOk.nil (lp:=jU) (fn:=Tryd.f46) dR (.step (h0:=aI bQ fo) (by kernel_rfl) (lL (cs:=mj) HcsOk.nil (lp:=jU) (fn:=Tryd.f46) (.done (by kernel_rfl)) bQ fo ?_) (.done (by kernel_rfl))) ot ?_
 ·rintro ⟨⟨(b:LI),(a:Int),(m:Int),(v:Int),(i:Int),⟨⟩⟩,⟨⟩⟩ y hw hy
  obtain ⟨hg,hy⟩:=Tr.guard hy
  simp only[zA,zB] at hg
  obtain ⟨h1,h2,⟨h3,h4⟩,h5,h6⟩:=hg
  have h1:v=0:=h1
  have h2:i=0:=h2
  have h3:(0:Int)≤a:=h3
  have h4:a+m≤(b.length:Int):=h4
  have h5:(0:Int)≤m:=h5
  have h6:m≤(8:Int):=h6
  subst h1
  subst h2
  obtain ⟨a,rfl⟩:=av h3
  obtain ⟨m,rfl⟩:=av h5
  have hb:∀c∈b,0≤c∧c<256:=fun c hc=>by
   have h:=hw.1.1.2 c hc
   simp only[Ty.wf,bz,IntKind.min,IntKind.max,IntKind.signed,IntKind.bits] at h
   simp at h
   omega
  refine ⟨m+1,(uA hb hw.1.1.1 (a:=a) (m:=m) (by omega) (by omega) (m+1) 0 (by omega) (by omega)).trans ?_⟩
  rw[← hy];rfl
 ·rintro ⟨⟨(b:LI),(a:Int),(m:Int),⟨⟩⟩,⟨⟩⟩ out hw ho
  obtain ⟨hg,ho⟩:=Tr.guard ho
  simp only[zA,zB] at hg
  obtain ⟨h5,h6⟩:=hg
  have h5:(0:Int)≤m:=h5
  have h6:m≤(8:Int):=h6
  cases ho
  refine (wJ b a m).trans ?_
  unfold mU
  show _=oR (((ai b a m).1,((ai b a m).2,())),())
  unfold ai
  have hl:b.length≤maxLen:=hw.1.1.1
  rw[bN] at hl
  by_cases h1:a<0
  ·rw[if_pos (.inl h1)]
   exact aa (by simpa using h1) _ _
  ·refine bF (by simpa using h1) ?_
   by_cases h2:(b.length:Int)<a
   ·rw[if_pos (.inr (.inl h2))]
    exact aa (by simpa using h2) _ _
   ·refine bF (by simpa using h2) ?_
    rw[ae (n:=(b.length:Int) - a) (by omega) (by omega)]
    by_cases h3:(b.length:Int) - a<m
    ·rw[if_pos (.inr (.inr h3))]
     exact aa (by simpa using h3) _ _
    ·rw[if_neg (by omega)]
     refine bF (by simpa using h3) ?_
     have c1:(decide ((0:Int)=0)&&(decide ((0:Int)=0)&&((decide ((0:Int)≤a)&&decide (a+m≤(b.length:Int)))&&(decide ((0:Int)≤m)&&decide (m≤(8:Int))))))=true:=by simp;omega
     have e1:fo ((b,(a,(m,(0,(0,()))))),())=.ite true (.ret (.ret ((),((bx ((b.drop a.toNat).take m.toNat),()),())))) .no:=congrArg (fun c=>Tr.ite c _ _) c1
     rw[e1]
     rfl
abbrev t8:Sh:=.dat (.int .u32) false false
def fO (s:Nat):Nat:=if s % 2=1 then (s / 2) ^^^ 2197175160 else s / 2
theorem l5 {s:Nat}(h:s<4294967296):fO s<4294967296:=by
 unfold fO
 split
 ·exact Nat.xor_lt_two_pow (n:=32) (by omega) (by omega)
 ·omega
theorem D2 (a b p:Nat):(a ^^^ p) ^^^ (b ^^^ p)=a ^^^ b:=by
 rw[Nat.xor_assoc,← Nat.xor_assoc p b p,Nat.xor_comm p b,Nat.xor_assoc b p p,Nat.xor_self,Nat.xor_zero]
theorem j8 (a b:Nat):fO (a ^^^ b)=fO a ^^^ fO b:=by
 have h1:(a ^^^ b) / 2=a / 2 ^^^ b / 2:=Nat.xor_div_two
 have h2:(a ^^^ b) % 2=1↔¬(a % 2=1↔b % 2=1):=Nat.xor_mod_two_eq_one
 unfold fO
 rw[h1]
 by_cases ha:a % 2=1
 ·by_cases hb:b % 2=1
  ·rw[if_neg (by rw[h2];simp[ha,hb]),if_pos ha,if_pos hb,D2]
  ·rw[if_pos (by rw[h2];simp[ha,hb]),if_pos ha,if_neg hb,Nat.xor_assoc,Nat.xor_comm (b / 2),← Nat.xor_assoc]
 ·by_cases hb:b % 2=1
  ·rw[if_pos (by rw[h2];simp[ha,hb]),if_neg ha,if_pos hb,Nat.xor_assoc]
  ·rw[if_neg (by rw[h2];simp[ha,hb]),if_neg ha,if_neg hb]
theorem j7 (m:Nat):fO (2*m)=m:=by
 unfold fO
 rw[if_neg (by omega)]
 omega
def gp (s:Nat):Nat:=fO (fO (fO (fO s)))
theorem AQ (a b:Nat):gp (a ^^^ b)=gp a ^^^ gp b:=by unfold gp;rw[j8,j8,j8,j8]
theorem DR (q:Nat):gp (16*q)=q:=by
 unfold gp
 rw[show 16*q=2*(2*(2*(2*q))) by omega,j7,j7,j7,j7]
theorem l4 {s:Nat}(h:s<4294967296):gp s<4294967296:=l5 (l5 (l5 (l5 h)))
theorem Fy (s:Nat):s=(16*(s / 16)) ^^^ (s % 16):=by
 refine Nat.eq_of_testBit_eq fun i=>?_
 rw[Nat.testBit_xor,show 16*(s / 16)=2 ^ 4*(s / 2 ^ 4) by rfl,Nat.testBit_two_pow_mul,Nat.testBit_div_two_pow,show s % 16=s % 2 ^ 4 by rfl,Nat.testBit_mod_two_pow]
 by_cases h:4≤i
 ·have h':¬ i<4:=by omega
  simp[h,h',show i - 4+4=i by omega]
 ·have h':i<4:=by omega
  simp[h,h']
theorem DS (s:Nat):gp s=(s / 16) ^^^ gp (s % 16):=by
 conv=>lhs;rw[Fy s]
 rw[AQ,DR]
def vD (s:Nat):Nat:=gp (gp s)
theorem vE {s:Nat}(h:s<4294967296):vD s<4294967296:=l4 (l4 h)
def Ed:LI→Nat→Nat
 |[],s=>s
 |x::l,s=>Ed l (vD (s ^^^ x.toNat))
theorem jI {s:Nat}(h:s<4294967296){x:Int}(hx:x≤255):s ^^^ x.toNat<4294967296:=Nat.xor_lt_two_pow (n:=32) h (by omega)
theorem nP:∀{l:LI} {s:Nat},(∀c∈l,0≤c∧c≤255)→s<4294967296→Ed l s<4294967296
 |[],_,_,h=>h
 |x::l,_,hl,h=>nP (l:=l) (fun c hc=>hl c (by simp[hc])) (vE (jI h (hl x (by simp)).2))
@[irreducible] def cd (c:Int)(b:LI):Int:=((Ed b (c.toNat ^^^ 4294967295) ^^^ 4294967295:Nat):Int)
@[irreducible] def gn (b:LI)(s:Int):Int:=((Ed b s.toNat:Nat):Int)
@[irreducible] def mO (s:Int):Int:=(fO s.toNat:Int)
def j6:Nat→Int→Int
 |0,s=>s
 |n+1,s=>j6 n (mO s)
theorem pF (s:Nat):mO (s:Int)=(fO s:Int):=by unfold mO;rw[zG]
theorem DP (s:Nat):j6 8 (s:Int)=(vD s:Int):=by
 simp only[j6,pF]
 rfl
theorem j9 {x y:Nat}(hx:x<4294967296)(hy:y<4294967296):br .u32 (x:Int) (y:Int)=((x ^^^ y:Nat):Int):=by
 have e1:(BitVec.ofInt 32 (x:Int)).toNat=x:=by rw[BitVec.toNat_ofInt];omega
 have e2:(BitVec.ofInt 32 (y:Int)).toNat=y:=by rw[BitVec.toNat_ofInt];omega
 show IntKind.wrap .u32 ((BitVec.ofInt 32 (x:Int) ^^^ BitVec.ofInt 32 (y:Int)).toNat:Int)=_
 rw[BitVec.toNat_xor,e1,e2]
 have:=Nat.xor_lt_two_pow (n:=32) hx hy
 exact be (k:=.u32) (by simp[bz,IntKind.min,IntKind.max,IntKind.signed,IntKind.bits];omega)
theorem yI {x:Nat}(hx:x<4294967296):pz .u32 (x:Int)=((x ^^^ 4294967295:Nat):Int):=by
 have:=j9 (x:=4294967295) (y:=x) (by omega) hx
 rw[Nat.xor_comm] at this
 exact this
theorem mg {x:Nat}(hx:x<4294967296):cN .u32 (x:Int) 15=((x % 16:Nat):Int):=by
 have e1:(BitVec.ofInt 32 (x:Int)).toNat=x:=by rw[BitVec.toNat_ofInt];omega
 show IntKind.wrap .u32 ((BitVec.ofInt 32 (x:Int) &&& BitVec.ofInt 32 15).toNat:Int)=_
 rw[BitVec.toNat_and,e1,show (BitVec.ofInt 32 15).toNat=2 ^ 4 - 1 by decide,Nat.and_two_pow_sub_one_eq_mod]
 exact be (k:=.u32) (by simp[bz,IntKind.min,IntKind.max,IntKind.signed,IntKind.bits];omega)
theorem DD {x:Nat}(hx:x<4294967296):cO .u32 (x:Int) 4=((x / 16:Nat):Int):=by
 show IntKind.wrap .u32 ((x:Int).fdiv (2 ^ 4))=_
 rw[Int.fdiv_eq_ediv_of_nonneg _ (by decide)]
 rw[show (x:Int) / 2 ^ 4=((x / 16:Nat):Int) by omega]
 exact be (k:=.u32) (by simp[bz,IntKind.min,IntKind.max,IntKind.signed,IntKind.bits];omega)
theorem AR {r:Nat}(h:r<16):da (r:Int)=(gp r:Int):=
 (show ∀r:Nat,r<16→da (r:Int)=(gp r:Int) by decide +kernel) r h
theorem rU {b:LI}(h:Ty.wf bs b):∀c∈b,0≤c∧c≤255:=fun c hc=>by
 have:=h.2 c hc
 simpa [Ty.wf,bz,IntKind.min,IntKind.max,IntKind.signed,IntKind.bits] using this
theorem mb {s:Int}(h:bz .u32 s):∃n:Nat,s=(n:Int)∧n<4294967296:=by
 simp[bz,IntKind.min,IntKind.max,IntKind.signed,IntKind.bits] at h
 exact ⟨s.toNat,by omega,by omega⟩
theorem vG {s:Nat}(hs:s<4294967296):br .u32 (cO .u32 (s:Int) 4) (da (cN .u32 (s:Int) 15))=(gp s:Int):=by
 have hr:s % 16<16:=by omega
 rw[mg hs,DD hs,AR hr,j9 (by omega) (l4 (by omega)),← DS]
abbrev fB:Io:=⟨[t8],[],[],[t8],none⟩
def rA (d:fB.In):Tr fB.Res:=.ret (.ret ((mO d.1.1,()),()))
abbrev tT:List (Nat×Hc):=[]
def B5:Hd:=bM tT
def uJ:Lp:=cc []
def oE (a0:Int):Option fB.Res:=bif u32.wrap (a0.tmod 2) == 1 then oR ((br u32 (u32.wrap (a0.tdiv 2)) 2197175160,()),()) else oR ((u32.wrap (a0.tdiv 2),()),())
theorem Al (a0:Int):Io.run tt B5 dr uJ fB Tryd.f70 ((a0,()),())=oE a0:=by kernel_rfl
theorem CP:HcOk prog 70 (ah fB rA):=by
 refine cq (cs:=tT) HcsOk.nil (lp:=uJ) (fn:=Tryd.f70) fB (.done (by kernel_rfl)) rA ?_
 rintro ⟨⟨(s:Int),⟨⟩⟩,⟨⟩⟩ out hw ho
 cases ho
 refine (Al s).trans ?_
 unfold oE
 obtain ⟨n,rfl,hn⟩:=mb hw.1.1
 have e1:u32.wrap ((n:Int).tmod 2)=((n % 2:Nat):Int):=by
  rw[Int.tmod_eq_emod_of_nonneg (by omega)]
  exact (be (k:=.u32) (by simp[bz,IntKind.min,IntKind.max,IntKind.signed,IntKind.bits];omega)).trans (by omega)
 have e2:u32.wrap ((n:Int).tdiv 2)=((n / 2:Nat):Int):=by
  rw[Int.tdiv_eq_ediv_of_nonneg (by omega)]
  exact (be (k:=.u32) (by simp[bz,IntKind.min,IntKind.max,IntKind.signed,IntKind.bits];omega)).trans (by omega)
 show _=oR ((mO (n:Int),()),())
 rw[e1,e2,pF]
 unfold fO
 by_cases h:n % 2=1
 ·refine bT (by rw[h];rfl) ?_
  rw[if_pos h,← j9 (by omega) (by omega)]
  rfl
 ·refine bF (by simp;omega) ?_
  rw[if_neg h]
abbrev gZ:Io:=⟨[t8,dL],[],[],[t8],none⟩
def vL (d:gZ.In):Tr gZ.Res:=.ret (.ret ((cd d.1.1 d.1.2.1,()),()))
abbrev xE:List (Nat×Hc):=[(70,ah fB rA)]
def sc:Hd:=bM xE
abbrev cE:Lo:=⟨⟨(.any::.one (.hol (.sl 5 (Ty.int u8)))::.any::cy (.one (.hol (.int u32))::.one hI::.one hI::.any::al (cV (cy [])))),[]⟩,[(.exit 2,⟨(.any::.one (.hol (.sl 5 (Ty.int u8)))::.any::cy (.one (.hol (.int u32))::.one hI::al (fc []))),[]⟩)]⟩
abbrev cD:Lo:=⟨⟨(.any::.one (.hol (.sl 5 (Ty.int u8)))::.any::cy (.one (.hol (.int u32))::.one hI::al (fc []))),[]⟩,[(.exit 0,⟨(.any::cV (.one (.hol (.int u32))::.any::al (fc []))),[]⟩)]⟩
def iS (d:cE.st.den):Tr (aq cE.xs):=.ite (decide (d.1.2.2.2.1=0)) (.ret (.ret ((),((d.1.1,(j6 8 d.1.2.1,(d.1.2.2.1,()))),())))) .no
def iR (d:cD.st.den):Tr (aq cD.xs):=.ite (decide (d.1.2.2.1=0)) (.ret (.ret ((),((gn d.1.1 d.1.2.1,()),())))) .no
def jT:Lp:=cc [(4,aI cD iR),(8,aI cE iS)]
def np {R:Type}(h5:LI)(h6 h7 h8:Int)(next:LI→Int→Int→Int→Option R)(out:aq cE.xs→Option R):Option R:=bif decide (h8<8) then next (h5) (mO h6) (h7) (i64.wrap (h8+1)) else out (.ret ((),((h5,(h6,(h7,()))),())))
def mw (n:Nat)(h5:LI)(h6 h7 h8:Int):Option (aq cE.xs):=kW tt sc dr jT 0 Tryd.f53 (HL Tryd.f53 (dF Tryd.f53 0) 0) n (cE.st.mk' ((h5,(h6,(h7,(h8,())))),())) (ct cE.xs)
theorem AD (n:Nat)(h5:LI)(h6 h7 h8:Int):mw (n+1) h5 h6 h7 h8=np h5 h6 h7 h8 (mw n) some:=by kernel_rfl
def nm {R:Type}(h2:LI)(h3 h4:Int)(next:LI→Int→Int→Option R)(out:aq cD.xs→Option R):Option R:=bif decide (h4<(↑h2.length:Int)) then bif decide (0≤h4)&&decide (h4<(↑h2.length:Int)) then (iS ((h2,(br u32 h3 (u32.wrap (h2.getD h4.toNat 0)),(h4,(0,())))),())).run fun y=>match y with | .ret ((),((x16,x17,x18,()),()))=>(next (x16) (x17) (i64.wrap (x18+1))) else none else out (.ret ((),((h3,()),())))
def jS (n:Nat)(h2:LI)(h3 h4:Int):Option (aq cD.xs):=kW tt sc dr jT 0 Tryd.f53 (dF Tryd.f53 0) n (cD.st.mk' ((h2,(h3,(h4,()))),())) (ct cD.xs)
theorem AC (n:Nat)(h2:LI)(h3 h4:Int):jS (n+1) h2 h3 h4=nm h2 h3 h4 (jS n) some:=by kernel_rfl
theorem uy (b:LI)(i:Int):∀(k j:Nat) (s:Int),8<j+k→j≤8→mw k b s i j=some (.ret ((),((b,(j6 (8 - j) s,(i,()))),()))):=by
 intro k
 induction k with
 |zero=>intro j s h;omega
 |succ k ih=>
  intro j s h1 h2
  rw[AD]
  unfold np
  by_cases hj:j<8
  ·refine bT (by simp;omega) ?_
   rw[ae (n:=(j:Int)+1) (by omega) (by omega),show (8 - j)=(8 - (j+1))+1 by omega]
   exact ih (j+1) _ (by omega) (by omega)
  ·refine bF (by simp;omega) ?_
   rw[show 8 - j=0 by omega]
   rfl
theorem pD {b:LI}(hb:∀c∈b,0≤c∧c≤255){i:Nat}(h:i<b.length){n:Nat}(hn:n<4294967296):gn (b.drop i) (n:Int)=gn (b.drop (i+1)) ((vD (n ^^^ (b[i]).toNat):Nat):Int)∧vD (n ^^^ (b[i]).toNat)<4294967296:=by
 refine ⟨?_,vE (jI hn (hb b[i] (List.getElem_mem h)).2)⟩
 rw[zE h]
 unfold gn
 rw[zG,zG]
 rfl
theorem D3 {b:LI}(hb:∀c∈b,0≤c∧c≤255){i:Nat}(h:i<b.length){n:Nat}(hn:n<4294967296):br .u32 (n:Int) (u32.wrap (List.getD b (i:Int).toNat 0))=((n ^^^ (b[i]).toNat:Nat):Int):=by
 have hc:=hb b[i] (List.getElem_mem h)
 have e:List.getD b (i:Int).toNat 0=((b[i].toNat:Nat):Int):=by
  rw[zG,aC h]
  omega
 rw[e,be (k:=.u32) (by simp[bz,IntKind.min,IntKind.max,IntKind.signed,IntKind.bits];omega)]
 exact j9 hn (by omega)
theorem ux {b:LI}(hb:∀c∈b,0≤c∧c≤255)(hl:b.length≤maxLen):∀(k i n:Nat),b.length<i+k→i≤b.length→n<4294967296→jS k b n i=some (.ret ((),((gn (b.drop i) n,()),()))):=by
 intro k
 induction k with
 |zero=>intro i n h;omega
 |succ k ih=>
  intro i n h1 h2 h3
  rw[AC]
  unfold nm
  by_cases hi:i<b.length
  ·refine bT (by simpa using hi) ?_
   refine bT (by simpa using hi) ?_
   obtain ⟨e1,e2⟩:=pD hb hi h3
   rw[D3 hb hi h3,e1]
   unfold iS
   refine bT (by simp) ?_
   show jS k b (j6 8 _) (i64.wrap ((i:Int)+1))=_
   rw[DP,bm hi hl]
   exact ih (i+1) _ (by omega) (by omega) e2
  ·refine bF (by simp;omega) ?_
   rw[zI (by omega)]
   unfold gn
   rw[zG]
   rfl
theorem DM {c:Nat}(hc:c<4294967296){b:LI}(hb:∀x∈b,0≤x∧x≤255):br .u32 (gn b ((c ^^^ 4294967295:Nat):Int)) 4294967295=cd (c:Int) b:=by
 have h1:=Nat.xor_lt_two_pow (n:=32) hc (show 4294967295<2 ^ 32 by decide)
 have h2:=nP hb h1
 unfold gn cd
 rw[zG,zG]
 exact j9 h2 (by decide)
def qk (a0:Int)(a1:LI):Option gZ.Res:=(iR ((a1,(br u32 a0 4294967295,(0,()))),())).run fun y=>match y with | .ret ((),((x23,()),()))=>(oR ((br u32 x23 4294967295,()),()))
theorem Dd (a0:Int)(a1:LI):Io.run tt sc dr jT gZ Tryd.f53 ((a0,a1,()),())=qk a0 a1:=by kernel_rfl
theorem mp:HcsOk prog xE:=.cons CP .nil
theorem ET:HcOk prog 53 (ah gZ vL):=by
 refine cq mp (lp:=jT) (fn:=Tryd.f53) gZ (.step (h0:=aI cD iR) (by kernel_rfl) (lL mp (lp:=jT) (fn:=Tryd.f53) (.step (h0:=aI cE iS) (by kernel_rfl) (lL mp (lp:=jT) (fn:=Tryd.f53) (.done (by kernel_rfl)) cE iS ?_) (.done (by kernel_rfl))) cD iR ?_) (.done (by kernel_rfl))) vL ?_
 ·rintro ⟨⟨(b:LI),(s:Int),(i:Int),(j:Int),⟨⟩⟩,⟨⟩⟩ y hw hy
  obtain ⟨hg,hy⟩:=Tr.guard hy
  have hg:j=0:=by simpa using hg
  subst hg
  refine ⟨9,(uy b i 9 0 s (by omega) (by omega)).trans ?_⟩
  rw[← hy];rfl
 ·rintro ⟨⟨(b:LI),(s:Int),(i:Int),⟨⟩⟩,⟨⟩⟩ y hw hy
  obtain ⟨hg,hy⟩:=Tr.guard hy
  have hg:i=0:=by simpa using hg
  subst hg
  obtain ⟨n,rfl,hn⟩:=mb hw.1.2.1
  refine ⟨b.length+1,(ux (rU hw.1.1) hw.1.1.1 (b.length+1) 0 n (show b.length<0+(b.length+1) by omega) (Nat.zero_le _) hn).trans ?_⟩
  rw[← hy];rfl
 ·rintro ⟨⟨(c:Int),(b:LI),⟨⟩⟩,⟨⟩⟩ out hw ho
  cases ho
  refine (Dd c b).trans ?_
  obtain ⟨n,rfl,hn⟩:=mb hw.1.1
  unfold qk iR
  refine bT (by simp) ?_
  show oR ((br .u32 (gn b (br .u32 (n:Int) 4294967295)) 4294967295,()),())=oR ((cd (n:Int) b,()),())
  rw[show (4294967295:Int)=((4294967295:Nat):Int) from rfl,j9 hn (by decide),show ((4294967295:Nat):Int)=4294967295 from rfl,DM hn (rU hw.1.2.1)]
abbrev fA:Io:=⟨[dL],[],[],[t8],none⟩
def rz (d:fA.In):Tr fA.Res:=.ret (.ret ((cd 0 d.1.1,()),()))
abbrev tS:List (Nat×Hc):=[(53,ah gZ vL)]
def B4:Hd:=bM tS
def uI:Lp:=cc []
def v6 (a0:LI):Option fA.Res:=oR ((cd 0 a0,()),())
theorem Ak (a0:LI):Io.run tt B4 dr uI fA Tryd.f25 ((a0,()),())=v6 a0:=by kernel_rfl
theorem CO:HcOk prog 25 (ah fA rz):=by
 refine cq (cs:=tS) (.cons ET .nil) (lp:=uI) (fn:=Tryd.f25) fA (.done (by kernel_rfl)) rz ?_
 rintro ⟨⟨(b:LI),⟨⟩⟩,⟨⟩⟩ out hw ho
 cases ho
 exact Ak b
abbrev kF:Io:=⟨[t8,dL],[],[],[t8],none⟩
def A6 (d:kF.In):Tr kF.Res:=.ret (.ret ((cd d.1.1 d.1.2.1,()),()))
abbrev wd:List (Nat×Hc):=[]
def B6:Hd:=bM wd
abbrev dw:Lo:=⟨⟨(.any::cV (.one (.hol (.int u32))::cV (.one (.hol (.sl 5 (Ty.int u8)))::.one hI::.one hI::al (fc [])))),[]⟩,[(.exit 0,⟨(.any::cV (.one (.hol (.int u32))::.any::al (fc (cV (cy []))))),[]⟩)]⟩
def lb (d:dw.st.den):Tr (aq dw.xs):=.ite (decide (d.1.2.2.2.1=0)&&decide (d.1.2.2.1=(d.1.2.1.length:Int))) (.ret (.ret ((),((gn d.1.2.1 d.1.1,()),())))) .no
def sG:Lp:=cc [(4,aI dw lb)]
def pK {R:Type}(h2:Int)(h3:LI)(h4 h5:Int)(next:Int→LI→Int→Int→Option R)(out:aq dw.xs→Option R):Option R:=bif decide (h5<h4) then bif decide (0≤h5)&&decide (h5<(↑h3.length:Int)) then bif decide (0≤cN u32 (br u32 h2 (u32.wrap (h3.getD h5.toNat 0))) 15)&&decide (cN u32 (br u32 h2 (u32.wrap (h3.getD h5.toNat 0))) 15<(↑16:Int)) then bif decide (0≤cN u32 (br u32 (cO u32 (br u32 h2 (u32.wrap (h3.getD h5.toNat 0))) 4) (da (cN u32 (br u32 h2 (u32.wrap (h3.getD h5.toNat 0))) 15))) 15)&&decide (cN u32 (br u32 (cO u32 (br u32 h2 (u32.wrap (h3.getD h5.toNat 0))) 4) (da (cN u32 (br u32 h2 (u32.wrap (h3.getD h5.toNat 0))) 15))) 15<(↑16:Int)) then next (br u32 (cO u32 (br u32 (cO u32 (br u32 h2 (u32.wrap (h3.getD h5.toNat 0))) 4) (da (cN u32 (br u32 h2 (u32.wrap (h3.getD h5.toNat 0))) 15))) 4) (da (cN u32 (br u32 (cO u32 (br u32 h2 (u32.wrap (h3.getD h5.toNat 0))) 4) (da (cN u32 (br u32 h2 (u32.wrap (h3.getD h5.toNat 0))) 15))) 15))) (h3) (h4) (i64.wrap (h5+1)) else none else none else none else out (.ret ((),((h2,()),())))
def o5 (n:Nat)(h2:Int)(h3:LI)(h4 h5:Int):Option (aq dw.xs):=kW tt B6 dr sG 0 Tryd.f68 (dF Tryd.f68 0) n (dw.st.mk' ((h2,(h3,(h4,(h5,())))),())) (ct dw.xs)
theorem DH (n:Nat)(h2:Int)(h3:LI)(h4 h5:Int):o5 (n+1) h2 h3 h4 h5=pK h2 h3 h4 h5 (o5 n) some:=by kernel_rfl
theorem wt {b:LI}(hb:∀c∈b,0≤c∧c≤255)(hl:b.length≤maxLen):∀(k i n:Nat),b.length<i+k→i≤b.length→n<4294967296→o5 k n b (b.length:Int) i=some (.ret ((),((gn (b.drop i) n,()),()))):=by
 intro k
 induction k with
 |zero=>intro i n h;omega
 |succ k ih=>
  intro i n h1 h2 h3
  rw[DH]
  unfold pK
  by_cases hi:i<b.length
  ·refine bT (by simpa using hi) ?_
   refine bT (by simpa using hi) ?_
   obtain ⟨e1,e2⟩:=pD hb hi h3
   have h4:=jI h3 (hb b[i] (List.getElem_mem hi)).2
   have h5:=l4 h4
   rw[D3 hb hi h3,e1]
   refine (aa ?_ _ _).trans ?_
   ·rw[mg h4];simp;omega
   rw[vG h4]
   refine (aa ?_ _ _).trans ?_
   ·rw[mg h5];simp;omega
   rw[vG h5,bm hi hl]
   exact ih (i+1) _ (by omega) (by omega) e2
  ·refine bF (by simp;omega) ?_
   rw[zI (by omega)]
   unfold gn
   rw[zG]
   rfl
def tw (a0:Int)(a1:LI):Option kF.Res:=(lb ((pz u32 a0,(a1,((↑a1.length:Int),(0,())))),())).run fun y=>match y with | .ret ((),((x11,()),()))=>(oR ((pz u32 x11,()),()))
theorem Fc (a0:Int)(a1:LI):Io.run tt B6 dr sG kF Tryd.f68 ((a0,a1,()),())=tw a0 a1:=by kernel_rfl
theorem Gv:HcOk prog 68 (ah kF A6):=by
 refine cq (cs:=wd) HcsOk.nil (lp:=sG) (fn:=Tryd.f68) kF (.step (h0:=aI dw lb) (by kernel_rfl) (lL (cs:=wd) HcsOk.nil (lp:=sG) (fn:=Tryd.f68) (.done (by kernel_rfl)) dw lb ?_) (.done (by kernel_rfl))) A6 ?_
 ·rintro ⟨⟨(s:Int),(b:LI),(m:Int),(i:Int),⟨⟩⟩,⟨⟩⟩ y hw hy
  obtain ⟨hg,hy⟩:=Tr.guard hy
  simp only[zA,zB] at hg
  obtain ⟨rfl,rfl⟩:=hg
  obtain ⟨n,rfl,hn⟩:=mb hw.1.1
  refine ⟨b.length+1,(wt (rU hw.1.2.1) hw.1.2.1.1 (b.length+1) 0 n (show b.length<0+(b.length+1) by omega) (Nat.zero_le _) hn).trans ?_⟩
  rw[← hy];rfl
 ·rintro ⟨⟨(c:Int),(b:LI),⟨⟩⟩,⟨⟩⟩ out hw ho
  cases ho
  refine (Fc c b).trans ?_
  obtain ⟨n,rfl,hn⟩:=mb hw.1.1
  unfold tw lb
  refine bT (by simp) ?_
  show oR ((pz .u32 (gn b (pz .u32 (n:Int))),()),())=oR ((cd (n:Int) b,()),())
  have h1:=Nat.xor_lt_two_pow (n:=32) hn (show 4294967295<2 ^ 32 by decide)
  have h2:=nP (rU hw.1.2.1) h1
  rw[yI hn]
  unfold gn cd
  rw[zG,zG,yI h2]
def mL:List (LI)→Int→Int
 |[],c=>c
 |p::ps,c=>mL ps (cd c p)
abbrev fZ:Io:=⟨[.dat (.sl 22 bs) false false],[],[],[t8],none⟩
def rB (d:fZ.In):Tr fZ.Res:=.ret (.ret ((mL d.1.1 0,()),()))
abbrev xF:List (Nat×Hc):=[(68,ah kF A6)]
def x7:Hd:=bM xF
abbrev cF:Lo:=⟨⟨(.any::cy (.one (.hol (.int u32))::cy (.one (.hol (.sl 22 (Ty.sl 5 (Ty.int u8))))::.one hI::.one hI::fc []))),[]⟩,[(.exit 0,⟨(.any::cy (.one (.hol (.int u32))::.any::fc (cV []))),[]⟩)]⟩
def iT (d:cF.st.den):Tr (aq cF.xs):=.ite (decide (d.1.2.2.2.1=0)&&decide (d.1.2.2.1=(d.1.2.1.length:Int))) (.ret (.ret ((),((mL d.1.2.1 d.1.1,()),())))) .no
def nZ:Lp:=cc [(4,aI cF iT)]
def nq {R:Type}(h1:Int)(h2:List bs.den)(h3 h4:Int)(next:Int→List bs.den→Int→Int→Option R)(out:aq cF.xs→Option R):Option R:=bif decide (h4<h3) then bif decide (0≤h4)&&decide (h4<(↑h2.length:Int)) then next (cd h1 (h2.getD h4.toNat [])) (h2) (h3) (i64.wrap (h4+1)) else none else out (.ret ((),((h1,()),())))
def my (n:Nat)(h1:Int)(h2:List bs.den)(h3 h4:Int):Option (aq cF.xs):=kW tt x7 dr nZ 0 Tryd.f42 (dF Tryd.f42 0) n (cF.st.mk' ((h1,(h2,(h3,(h4,())))),())) (ct cF.xs)
theorem AE (n:Nat)(h1:Int)(h2:List bs.den)(h3 h4:Int):my (n+1) h1 h2 h3 h4=nq h1 h2 h3 h4 (my n) some:=by kernel_rfl
theorem uz (ps:List (LI))(hl:ps.length≤maxLen):∀(k i:Nat) (c:Int),ps.length<i+k→i≤ps.length→my k c ps (ps.length:Int) i=some (.ret ((),((mL (ps.drop i) c,()),()))):=by
 intro k
 induction k with
 |zero=>intro i c h;omega
 |succ k ih=>
  intro i c h1 h2
  rw[AE]
  unfold nq
  by_cases hi:i<ps.length
  ·refine bT (by simpa using hi) ?_
   refine bT (by simpa using hi) ?_
   have e:List.getD ps (i:Int).toNat []=ps[i]:=by simp only[zG,aC hi]
   rw[e,bm hi hl,zE hi]
   exact ih (i+1) _ (by omega) (by omega)
  ·refine bF (by simp;omega) ?_
   rw[zI (by omega)]
   rfl
def ql (a0:List bs.den):Option fZ.Res:=(iT ((0,(a0,((↑a0.length:Int),(0,())))),())).run fun y=>match y with | .ret ((),((x10,()),()))=>(oR ((x10,()),()))
theorem De (a0:List bs.den):Io.run tt x7 dr nZ fZ Tryd.f42 ((a0,()),())=ql a0:=by kernel_rfl
theorem qP:HcsOk prog xF:=.cons Gv .nil
theorem yP:HcOk prog 42 (ah fZ rB):=by
 refine cq qP (lp:=nZ) (fn:=Tryd.f42) fZ (.step (h0:=aI cF iT) (by kernel_rfl) (lL qP (lp:=nZ) (fn:=Tryd.f42) (.done (by kernel_rfl)) cF iT ?_) (.done (by kernel_rfl))) rB ?_
 ·rintro ⟨⟨(c:Int),(ps:List (LI)),(m:Int),(i:Int),⟨⟩⟩,⟨⟩⟩ y hw hy
  obtain ⟨hg,hy⟩:=Tr.guard hy
  simp only[zA,zB] at hg
  obtain ⟨rfl,rfl⟩:=hg
  refine ⟨ps.length+1,(uz ps hw.1.2.1.1 (ps.length+1) 0 c (by omega) (by omega)).trans ?_⟩
  rw[← hy];rfl
 ·rintro ⟨⟨(ps:List (LI)),⟨⟩⟩,⟨⟩⟩ out hw ho
  cases ho
  refine (De ps).trans ?_
  unfold ql iT
  refine bT (by simp) ?_
  rfl
abbrev H7:Ty:=.prod bs (.prod (.int .i64) (.prod (.int .i64) .unit))
abbrev Ef:Sh:=.dat H7 true false
abbrev He:Type:=LI×Int×Int×Unit
def j5:He:=([],0,0,())
def bd (b:LI):He×Int×Int:=
 if b.getD 0 0<128 then (if (b.length:Int)<b.getD 0 0+2 then (j5,0,1) else (((b.drop 1).take (b.getD 0 0+1).toNat,0,0,()),b.getD 0 0+2,0))
 else if (b.length:Int)<3 then (j5,0,1)
 else if b.getD 1 0*256+b.getD 2 0<1∨4096<b.getD 1 0*256+b.getD 2 0 then (j5,0,50)
 else (([],b.getD 1 0*256+b.getD 2 0,b.getD 0 0 - 124,()),3,0)
def kl (t:He):Bool:=if t.2.1≠0 then true else decide (t.2.2.1≠0)
def iM (t:He):Bool:=
 if kl t=true then decide (0<t.1.length) || (decide (t.2.1<1) || (decide (4096<t.2.1) || (decide (t.2.2.1<4) || decide (131<t.2.2.1))))
 else decide (t.1.length<1) || decide (128<t.1.length)
def jD (d:Nat):Nat→LI→LI
 |0,out=>out
 |n+1,out=>jD d n (out++[out.getD (out.length - d) 0])
def bJ (out:LI)(t:He)(most:Int):LI×Int:=
 if iM t=true∨(out.length:Int)<t.2.1 then ([],50)
 else if most<(out.length:Int)+t.1.length+t.2.2.1 then ([],4)
 else (jD t.2.1.toNat t.2.2.1.toNat (out++t.1),0)
def cR:Nat→LI→LI→Int→LI×Int
 |0,_,out,_=>(out,0)
 |k+1,b,out,m=>
  if b=[] then (out,0)
  else if (bd b).2.2≠0 then ([],(bd b).2.2)
  else if (bJ out (bd b).1 m).2≠0 then ([],(bJ out (bd b).1 m).2)
  else cR k (b.drop (bd b).2.1.toNat) (bJ out (bd b).1 m).1 m
def aS (m:Int):Int:=lY (eQ m 0) 32768
def au (b:LI)(most:Int):LI×Int:=if b=[] then ([],0) else cR (b.length+1) b [] (aS most)
theorem DN {b:LI}(hb:∀c∈b,0≤c∧c≤255)(h:(bd b).2.2=0)(hne:b≠[]):2≤(bd b).2.1∧(bd b).2.1≤b.length:=by
 have h0:0≤b.getD 0 0:=by
  cases b with
  |nil=>exact absurd rfl hne
  |cons x l=>exact (hb x (by simp)).1
 unfold bd at h ⊢
 split
 ·rename_i h1
  rw[if_pos h1] at h
  split
  ·rename_i h2;rw[if_pos h2] at h;cases h
  ·simp only;omega
 ·rename_i h1
  rw[if_neg h1] at h
  split
  ·rename_i h2;rw[if_pos h2] at h;cases h
  ·rename_i h2
   rw[if_neg h2] at h
   split
   ·rename_i h3;rw[if_pos h3] at h;cases h
   ·simp only;omega
theorem xw {b:LI}(h:Ty.wf bs b)(i:Nat):0≤b.getD i 0∧b.getD i 0≤255:=by
 rw[List.getD_eq_getElem?_getD]
 cases e:b[i]? with
 |none=>exact ⟨by decide,by decide⟩
 |some x=>exact cS h x (List.mem_of_getElem? e)
theorem GS {v c:Int}(h0:0≤v)(h1:v≤255)(h2:0≤c)(h3:c≤255):gO .i64 (dk .i64 v 8) c=v*256+c:=by
 have e1:dk .i64 v 8=v*256:=by
  show IntKind.wrap .i64 (v*2 ^ 8)=_
  rw[show v*2 ^ 8=v*256 by omega]
  exact ae (by omega) (by omega)
 rw[e1]
 obtain ⟨v,rfl⟩:=av h0
 obtain ⟨c,rfl⟩:=av h2
 have e4:=Nat.two_pow_add_eq_or_of_lt (show c<2 ^ 8 by omega) v
 show IntKind.wrap .i64 ((BitVec.ofInt 64 ((v:Int)*256) ||| BitVec.ofInt 64 (c:Int)).toNat:Int)=_
 have e2:(BitVec.ofInt 64 (c:Int)).toNat=c:=by rw[BitVec.toNat_ofInt];omega
 have e3:(BitVec.ofInt 64 ((v:Int)*256)).toNat=2 ^ 8*v:=by rw[BitVec.toNat_ofInt];omega
 rw[BitVec.toNat_or,e2,e3,← e4]
 rw[ae (by omega) (by omega)]
 omega
theorem Ck {lit:LI}{d len:Int}(h:iM (lit,d,len,())=false):(0≤len∧len≤131∧lit.length≤128)∧(len=0∧d=0∧1≤lit.length∨lit.length=0∧1≤d∧d≤4096∧4≤len):=by
 have e:iM (lit,d,len,())=if kl (lit,d,len,())=true then decide (0<lit.length) || (decide (d<1) || (decide (4096<d) || (decide (len<4) || decide (131<len)))) else decide (lit.length<1) || decide (128<lit.length):=rfl
 have e2:kl (lit,d,len,())=if d≠0 then true else decide (len≠0):=rfl
 rw[e] at h
 split at h
 ·simp only[Bool.or_eq_false_iff,decide_eq_false_iff_not] at h
  omega
 ·rename_i h2
  rw[e2] at h2
  simp only[Bool.or_eq_false_iff,decide_eq_false_iff_not] at h
  split at h2
  ·exact absurd rfl h2
  ·rename_i h3
   simp only[zB] at h2
   omega
theorem pw (d:Nat):∀(n:Nat) (out:LI),(jD d n out).length=out.length+n
 |0,_=>rfl
 |n+1,out=>by rw[jD,pw d n];simp;omega
theorem AK (b:LI):(bd b).1.1.length≤b.length:=by
 unfold bd
 split
 ·split
  ·simp[j5]
  ·simp;omega
 ·split
  ·simp[j5]
  ·split
   ·simp[j5]
   ·simp
theorem wT (m:Int):0≤aS m∧aS m≤32768:=by
 unfold aS lY eQ
 split <;> split <;> omega
theorem wU {out:LI}{t:He}{m:Int}(h:(bJ out t m).2=0):((bJ out t m).1.length:Int)≤m:=by
 obtain ⟨lit,d,len,⟨⟩⟩:=t
 unfold bJ at h ⊢
 split
 ·rename_i h1;rw[if_pos h1] at h;cases h
 ·rename_i h1
  rw[if_neg h1] at h
  have hi:iM (lit,d,len,())=false:=by
   cases e:iM (lit,d,len,()) with
   |false=>rfl
   |true=>exact absurd (.inl e) h1
  obtain ⟨i1,i2⟩:=Ck hi
  split
  ·rename_i h2;rw[if_pos h2] at h;cases h
  ·rename_i h2
   have h2:¬ m<(out.length:Int)+lit.length+len:=h2
   show ((jD d.toNat len.toNat (out++lit)).length:Int)≤m
   rw[pw,zH]
   omega
theorem k5:∀(k:Nat) (b out:LI) (m:Int),(cR k b out m).2≠0→(cR k b out m).1=[]
 |0,_,_,_,h=>absurd rfl h
 |k+1,b,out,m,h=>by
  unfold cR at h ⊢
  split
  ·rename_i h1;rw[if_pos h1] at h;exact absurd rfl h
  ·rename_i h1
   rw[if_neg h1] at h
   split
   ·rfl
   ·rename_i h2
    rw[if_neg h2] at h
    split
    ·rfl
    ·rename_i h3
     rw[if_neg h3] at h
     exact k5 k _ _ _ h
theorem ni (b:LI)(m:Int):au b m=cR (b.length+1) b [] (aS m):=by
 unfold au
 split
 ·rename_i h
  subst h
  rfl
 ·rfl
def eD (b:LI):LI×Int:=
 if (ab 10 1 b 0).2.2≠0 then ([],(ab 10 1 b 0).2.2)
 else if ak (ab 10 1 b 0).1<0 then ([],5)
 else if 32768<ak (ab 10 1 b 0).1 then ([],4)
 else if (au (b.drop (ab 10 1 b 0).2.1.toNat) (ak (ab 10 1 b 0).1)).2=4∨(au (b.drop (ab 10 1 b 0).2.1.toNat) (ak (ab 10 1 b 0).1)).2=0∧((au (b.drop (ab 10 1 b 0).2.1.toNat) (ak (ab 10 1 b 0).1)).1.length:Int)<ak (ab 10 1 b 0).1 then ([],60)
 else if (au (b.drop (ab 10 1 b 0).2.1.toNat) (ak (ab 10 1 b 0).1)).2≠0 then ([],(au (b.drop (ab 10 1 b 0).2.1.toNat) (ak (ab 10 1 b 0).1)).2)
 else ((au (b.drop (ab 10 1 b 0).2.1.toNat) (ak (ab 10 1 b 0).1)).1,0)
abbrev ij:Io:=⟨[Ef],[],[],[dB],none⟩
def vQ (d:ij.In):Tr ij.Res:=.ret (.ret ((kl d.1.1,()),()))
abbrev xP:List (Nat×Hc):=[]
def EE:Hd:=bM xP
def yy:Lp:=cc []
def qw (a0:LI)(a1 a2:Int):Option ij.Res:=bif a1 != 0 then oR ((true,()),()) else oR ((a2 != 0,()),())
theorem Dq (a0:LI)(a1 a2:Int):Io.run tt EE dr yy ij Tryd.f91 (((a0,a1,a2,()),()),())=qw a0 a1 a2:=by kernel_rfl
theorem E1:HcOk prog 91 (ah ij vQ):=by
 refine cq (cs:=xP) HcsOk.nil (lp:=yy) (fn:=Tryd.f91) ij (.done (by kernel_rfl)) vQ ?_
 rintro ⟨⟨⟨(a0:LI),(a1:Int),(a2:Int),⟨⟩⟩,⟨⟩⟩,⟨⟩⟩ out hw ho
 cases ho
 refine (Dq a0 a1 a2).trans ?_
 show _=oR ((kl (a0,a1,a2,()),()),())
 unfold qw
 show _=oR (((if a1≠0 then true else decide (a2≠0)),()),())
 by_cases h1:a1=0
 ·refine bF (by simp[h1]) ?_
  rw[if_neg (by simp[h1])]
  by_cases h2:a2=0 <;> simp[h2]
 ·refine bT (by simp[h1]) ?_
  rw[if_pos h1]
abbrev ge:Io:=⟨[Ef],[],[],[dB],none⟩
def rK (d:ge.In):Tr ge.Res:=.ret (.ret ((iM d.1.1,()),()))
abbrev xR:List (Nat×Hc):=[(91,ah ij vQ)]
def EF:Hd:=bM xR
def yz:Lp:=cc []
def qy (a0:LI)(a1 a2:Int):Option ge.Res:=bif !kl (a0,a1,a2,()) then bif decide ((↑a0.length:Int)<1) then oR ((true,()),()) else oR ((decide (128<(↑a0.length:Int)),()),()) else bif decide (0<(↑a0.length:Int)) then oR ((true,()),()) else bif decide (a1<1) then oR ((true,()),()) else bif decide (4096<a1) then oR ((true,()),()) else bif decide (a2<4) then oR ((true,()),()) else oR ((decide (131<a2),()),())
theorem Du (a0:LI)(a1 a2:Int):Io.run tt EF dr yz ge Tryd.f90 (((a0,a1,a2,()),()),())=qy a0 a1 a2:=by kernel_rfl
theorem yV:HcOk prog 90 (ah ge rK):=by
 refine cq (cs:=xR) (.cons E1 .nil) (lp:=yz) (fn:=Tryd.f90) ge (.done (by kernel_rfl)) rK ?_
 rintro ⟨⟨⟨(a0:LI),(a1:Int),(a2:Int),⟨⟩⟩,⟨⟩⟩,⟨⟩⟩ out hw ho
 cases ho
 refine (Du a0 a1 a2).trans ?_
 show _=oR ((iM (a0,a1,a2,()),()),())
 unfold qy
 have e:iM (a0,a1,a2,())=if kl (a0,a1,a2,())=true then decide (0<a0.length) || (decide (a1<1) || (decide (4096<a1) || (decide (a2<4) || decide (131<a2)))) else decide (a0.length<1) || decide (128<a0.length):=rfl
 rw[e]
 cases kl (a0,a1,a2,()) with
 |false=>
  refine (aa rfl _ _).trans ?_
  rw[if_neg (by decide)]
  by_cases h:a0.length<1
  ·refine bT (by simp;omega) ?_
   simp[h]
  ·refine bF (decide_eq_false (show ¬((a0.length:Int)<1) by omega)) ?_
   have e2:decide (128<(a0.length:Int))=decide (128<a0.length):=by by_cases h2:128<a0.length <;> simp[h2] <;> omega
   simp only[h,decide_false,Bool.false_or,e2]
 |true=>
  refine (ac rfl _ _).trans ?_
  rw[if_pos rfl]
  by_cases h:0<a0.length
  ·refine bT (by simp;omega) ?_
   simp[h]
  ·refine bF (decide_eq_false (show ¬(0<(a0.length:Int)) by omega)) ?_
   by_cases h1:a1<1
   ·refine bT (by simpa using h1) ?_
    simp[h1]
   ·refine bF (by simpa using h1) ?_
    by_cases h2:4096<a1
    ·refine bT (by simpa using h2) ?_
     simp[h2]
    ·refine bF (by simpa using h2) ?_
     by_cases h3:a2<4
     ·refine bT (by simpa using h3) ?_
      simp[h3]
     ·refine bF (by simpa using h3) ?_
      simp only[h,h1,h2,h3,decide_false,Bool.false_or]
abbrev il:Io:=⟨[dL],[],[],[Ef,dI,dI],none⟩
def vS (d:il.In):Tr il.Res:=.ite (decide (1≤d.1.1.length)) (.ret (.ret (((bd d.1.1).1,(bd d.1.1).2.1,(bd d.1.1).2.2,()),()))) .no
abbrev xS:List (Nat×Hc):=[(90,ah ge rK)]
def EG:Hd:=bM xS
def yA:Lp:=cc []
def qz (a0:LI):Option il.Res:=bif decide (0≤0)&&decide (0<(↑a0.length:Int)) then bif decide (i64.wrap (a0.getD (Int.toNat 0) 0)<128) then bif decide ((↑a0.length:Int)<i64.wrap (i64.wrap (a0.getD (Int.toNat 0) 0)+2)) then oR ((([],0,0,()),0,1,()),()) else bif decide (0≤1)&&(decide (1≤i64.wrap (i64.wrap (a0.getD (Int.toNat 0) 0)+2))&&decide (i64.wrap (i64.wrap (a0.getD (Int.toNat 0) 0)+2)≤(↑a0.length:Int))) then oR (((List.drop (Int.toNat 1) (List.take (i64.wrap (i64.wrap (a0.getD (Int.toNat 0) 0)+2)).toNat a0),0,0,()),i64.wrap (i64.wrap (a0.getD (Int.toNat 0) 0)+2),0,()),()) else none else bif decide ((↑a0.length:Int)<3) then oR ((([],0,0,()),0,1,()),()) else bif decide (0≤1)&&decide (1<(↑a0.length:Int)) then bif decide (0≤2)&&decide (2<(↑a0.length:Int)) then bif iM ([],gO i64 (dk i64 (i64.wrap (a0.getD (Int.toNat 1) 0)) 8) (i64.wrap (a0.getD (Int.toNat 2) 0)),i64.wrap (i64.wrap (i64.wrap (a0.getD (Int.toNat 0) 0) - 128)+4),()) then oR ((([],0,0,()),0,50,()),()) else oR ((([],gO i64 (dk i64 (i64.wrap (a0.getD (Int.toNat 1) 0)) 8) (i64.wrap (a0.getD (Int.toNat 2) 0)),i64.wrap (i64.wrap (i64.wrap (a0.getD (Int.toNat 0) 0) - 128)+4),()),3,0,()),()) else none else none else none
theorem Dw (a0:LI):Io.run tt EG dr yA il Tryd.f93 ((a0,()),())=qz a0:=by kernel_rfl
theorem E3:HcOk prog 93 (ah il vS):=by
 refine cq (cs:=xS) (.cons yV .nil) (lp:=yA) (fn:=Tryd.f93) il (.done (by kernel_rfl)) vS ?_
 rintro ⟨⟨(b:LI),⟨⟩⟩,⟨⟩⟩ out hw ho
 obtain ⟨hg,ho⟩:=Tr.guard ho
 have hg:1≤b.length:=of_decide_eq_true hg
 cases ho
 refine (Dw b).trans ?_
 show _=oR (((bd b).1,(bd b).2.1,(bd b).2.2,()),())
 have hb:Ty.wf bs b:=hw.1.1
 have hbl:b.length≤maxLen:=hb.1
 rw[bN] at hbl
 have c0:=xw hb 0
 have c1:=xw hb 1
 have c2:=xw hb 2
 unfold qz
 simp only[show Int.toNat 0=0 from rfl,show Int.toNat 1=1 from rfl,show Int.toNat 2=2 from rfl]
 refine bT (by simp;omega) ?_
 have w0:i64.wrap (b.getD 0 0)=b.getD 0 0:=ae (by omega) (by omega)
 have w1:i64.wrap (b.getD 1 0)=b.getD 1 0:=ae (by omega) (by omega)
 have w2:i64.wrap (b.getD 2 0)=b.getD 2 0:=ae (by omega) (by omega)
 rw[w0,w1,w2,GS c1.1 c1.2 c2.1 c2.2,ae (n:=b.getD 0 0+2) (by omega) (by omega),ae (n:=b.getD 0 0 - 128) (by omega) (by omega),ae (n:=b.getD 0 0 - 128+4) (by omega) (by omega),show b.getD 0 0 - 128+4=b.getD 0 0 - 124 by omega]
 unfold bd
 generalize b.getD 0 0=c at *
 generalize b.getD 1 0=x at *
 generalize b.getD 2 0=y at *
 by_cases h1:c<128
 ·refine bT (by simpa using h1) ?_
  rw[if_pos h1]
  by_cases h2:(b.length:Int)<c+2
  ·refine bT (by simpa using h2) ?_
   rw[if_pos h2]
   rfl
  ·refine bF (by simpa using h2) ?_
   refine bT (by simp;omega) ?_
   rw[if_neg h2,List.drop_take,show (c+2).toNat - 1=(c+1).toNat by omega]
 ·refine bF (by simpa using h1) ?_
  rw[if_neg h1]
  by_cases h2:(b.length:Int)<3
  ·refine bT (by simpa using h2) ?_
   rw[if_pos h2]
   rfl
  ·refine bF (by simpa using h2) ?_
   refine bT (by simp;omega) ?_
   refine bT (by simp;omega) ?_
   rw[if_neg h2]
   have hi:iM ([],x*256+y,c - 124,())=decide (x*256+y<1∨4096<x*256+y):=by
    have hc:kl ([],x*256+y,c - 124,())=true:=by
     show (if x*256+y≠0 then true else decide (c - 124≠0))=true
     split
     ·rfl
     ·exact decide_eq_true (by omega)
    show (if kl ([],x*256+y,c - 124,())=true then decide (0<0) || (decide (x*256+y<1) || (decide (4096<x*256+y) || (decide (c - 124<4) || decide (131<c - 124)))) else _)=_
    rw[if_pos hc]
    have g1:decide (c - 124<4)=false:=decide_eq_false (by omega)
    have g2:decide (131<c - 124)=false:=decide_eq_false (by omega)
    rw[g1,g2]
    simp
   by_cases h3:x*256+y<1∨4096<x*256+y
   ·refine bT (by rw[hi];exact decide_eq_true h3) ?_
    rw[if_pos h3]
    rfl
   ·refine bF (by rw[hi];exact decide_eq_false h3) ?_
    rw[if_neg h3]
abbrev dW:Io:=⟨[dO,Ef,dI],[],[],[dO,dI],none⟩
def ox (d:dW.In):Tr dW.Res:=.ite (decide (d.1.1.length≤4294960000)&&(decide (d.1.2.1.1.length≤4294960000)&&decide ((d.1.2.2.1:Int)≤(32768:Int)))) (.ret (.ret (((bJ d.1.1 d.1.2.1 d.1.2.2.1).1,(bJ d.1.1 d.1.2.1 d.1.2.2.1).2,()),()))) .no
abbrev qJ:List (Nat×Hc):=[(90,ah ge rK)]
def qS:Hd:=bM qJ
abbrev bU:Lo:=⟨⟨(.one (.onl 5 (Ty.int u8) 1)::.any::cy (.one (.ptr 4 0)::al (fc (cV (.one hI::.one hI::fc (cV (cy []))))))),[none,none,none,none,some [.hol (.sl 5 (Ty.int u8)),hI,hI]]⟩,[(.exit 0,⟨(.one (.onl 5 (Ty.int u8) 1)::al (al (al []))),[]⟩)]⟩
def ft (d:bU.st.den):Tr (aq bU.xs):=
 .ite (decide (d.1.2.2.1=0)&&(decide ((0:Int)≤d.1.2.1)&&((decide (d.1.2.1=0) || (decide ((1:Int)≤d.2.1.2.1)&&decide (d.2.1.2.1≤(d.1.1.length:Int))))&&decide ((d.1.1.length:Int)+d.1.2.1≤4294967296)))) (.ret (.ret ((),((jD d.2.1.2.1.toNat d.1.2.1.toNat d.1.1,()),())))) .no
def jV:Lp:=cc [(8,aI bU ft)]
def d9 {R:Type}(h5:LI)(h6 h7:Int)(h8:LI)(h9 h10:Int)(next:LI→Int→Int→LI→Int→Int→Option R)(out:aq bU.xs→Option R):Option R:=bif decide (h7<h6) then bif decide (0≤i64.wrap ((↑h5.length:Int) - h9))&&decide (i64.wrap ((↑h5.length:Int) - h9)<(↑h5.length:Int)) then bif decide (h5.length+1≤4294967296) then next (h5++[h5.getD (i64.wrap ((↑h5.length:Int) - h9)).toNat 0]) (h6) (i64.wrap (h7+1)) (h8) (h9) (h10) else none else none else out (.ret ((),((h5,()),())))
def gl (n:Nat)(h5:LI)(h6 h7:Int)(h8:LI)(h9 h10:Int):Option (aq bU.xs):=kW tt qS dr jV 0 Tryd.f94 (dF Tryd.f94 0) n (bU.st.mk' ((h5,(h6,(h7,()))),((h8,(h9,(h10,()))),()))) (ct bU.xs)
theorem jC (n:Nat)(h5:LI)(h6 h7:Int)(h8:LI)(h9 h10:Int):gl (n+1) h5 h6 h7 h8 h9 h10=d9 h5 h6 h7 h8 h9 h10 (gl n) some:=by kernel_rfl
theorem pW (lit:LI)(len:Int){d:Nat}:∀(m k i:Nat) (out:LI),m<k→(m=0∨1≤d∧d≤out.length)→out.length+m≤4294967296→i+m≤4294967296→
  gl k out ((i+m:Nat):Int) i lit d len=some (.ret ((),((jD d m out,()),()))):=by
 intro m
 induction m with
 |zero=>
  intro k i out h1 h2 h3 h4
  obtain ⟨k,rfl⟩:∃j,k=j+1:=⟨k - 1,by omega⟩
  rw[jC]
  unfold d9
  refine bF (by simp) ?_
  rfl
 |succ m ih=>
  intro k i out h1 h2 h3 h4
  obtain ⟨k,rfl⟩:∃j,k=j+1:=⟨k - 1,by omega⟩
  rw[jC]
  unfold d9
  have h2:1≤d∧d≤out.length:=by rcases h2 with h | h;omega;exact h
  rw[ae (n:=(out.length:Int) - (d:Int)) (by omega) (by omega),ae (n:=(i:Int)+1) (by omega) (by omega),show ((out.length:Int) - (d:Int)).toNat=out.length - d by omega]
  refine bT (by simp;omega) ?_
  refine bT (by simp;omega) ?_
  refine bT (by simp;omega) ?_
  have:=ih k (i+1) (out++[out.getD (out.length - d) 0]) (by omega) (.inr ⟨h2.1,by simp;omega⟩) (by simp;omega) (by omega)
  rw[show ((i+1+m:Nat):Int)=((i+(m+1):Nat):Int) by omega] at this
  exact this
def mX (a0 a1:LI)(a2 a3 a4:Int):Option dW.Res:=bif iM (a1,a2,a3,()) then oR (([],50,()),()) else bif decide ((↑a0.length:Int)<a2) then oR (([],50,()),()) else bif decide (a4<i64.wrap (i64.wrap ((↑a0.length:Int)+(↑a1.length:Int))+a3)) then oR (([],4,()),()) else bif decide (a0.length+a1.length≤4294967296) then (ft ((a0++a1,(a3,(0,()))),((a1,(a2,(a3,()))),()))).run fun y=>match y with | .ret ((),((x18,()),()))=>(oR ((x18,0,()),())) else none
theorem wM (a0 a1:LI)(a2 a3 a4:Int):Io.run tt qS dr jV dW Tryd.f94 ((a0,(a1,a2,a3,()),a4,()),())=mX a0 a1 a2 a3 a4:=by kernel_rfl
theorem m8:HcsOk prog qJ:=.cons yV .nil
theorem Af:HcOk prog 94 (ah dW ox):=by
 refine cq m8 (lp:=jV) (fn:=Tryd.f94) dW (.step (h0:=aI bU ft) (by kernel_rfl) (lL m8 (lp:=jV) (fn:=Tryd.f94) (.done (by kernel_rfl)) bU ft ?_) (.done (by kernel_rfl))) ox ?_
 ·rintro ⟨⟨(out:LI),(n:Int),(i:Int),⟨⟩⟩,⟨⟨(lit:LI),(d:Int),(len:Int),⟨⟩⟩,⟨⟩⟩⟩ y hw hy
  obtain ⟨hg,hy⟩:=Tr.guard hy
  simp only[zA,Bool.or_eq_true,zB] at hg
  obtain ⟨h1,h2,h3,h4⟩:=hg
  have h1:i=0:=h1
  have h2:0≤n:=h2
  have h3:n=0∨1≤d∧d≤(out.length:Int):=h3
  have h4:(out.length:Int)+n≤4294967296:=h4
  subst h1
  obtain ⟨m,rfl⟩:=av h2
  rcases h3 with h3 | h3
  ·have h3:m=0:=by omega
   subst h3
   refine ⟨1,?_⟩
   rw[← hy]
   show gl (0+1) out ((0:Nat):Int) 0 lit d len=_
   rw[jC]
   unfold d9
   exact ac (by simp) _ _
  ·obtain ⟨d,rfl⟩:=av (show 0≤d by omega)
   have:=pW lit len (d:=d) m (m+1) 0 out (by omega) (.inr ⟨by omega,by omega⟩) (by omega) (by omega)
   rw[Nat.zero_add] at this
   refine ⟨m+1,this.trans ?_⟩
   rw[← hy];rfl
 ·rintro ⟨⟨(out:LI),⟨(lit:LI),(d:Int),(len:Int),⟨⟩⟩,(m:Int),⟨⟩⟩,⟨⟩⟩ o hw ho
  obtain ⟨hg,ho⟩:=Tr.guard ho
  simp only[zA,zB] at hg
  obtain ⟨h1,h2,h3⟩:=hg
  have h1:out.length≤4294960000:=h1
  have h2:lit.length≤4294960000:=h2
  have h3:m≤(32768:Int):=h3
  cases ho
  refine (wM out lit d len m).trans ?_
  show _=oR (((bJ out (lit,d,len,()) m).1,(bJ out (lit,d,len,()) m).2,()),())
  unfold mX bJ
  cases hi:iM (lit,d,len,()) with
  |true=>
   refine (aa rfl _ _).trans ?_
   rw[if_pos (.inl rfl)]
  |false=>
   obtain ⟨i1,i2⟩:=Ck hi
   refine (ac rfl _ _).trans ?_
   by_cases h4:(out.length:Int)<d
   ·refine bT (by simpa using h4) ?_
    rw[if_pos (.inr h4)]
   ·refine bF (by simpa using h4) ?_
    rw[if_neg (by rintro (h | h);cases h;exact h4 h),ae (n:=(out.length:Int)+(lit.length:Int)) (by omega) (by omega),ae (n:=(out.length:Int)+(lit.length:Int)+len) (by omega) (by omega)]
    by_cases h5:m<(out.length:Int)+(lit.length:Int)+len
    ·refine bT (by simpa using h5) ?_
     rw[if_pos h5]
    ·refine bF (by simpa using h5) ?_
     refine bT (by simp;omega) ?_
     rw[if_neg h5]
     have hg:(decide ((0:Int)=0)&&(decide ((0:Int)≤len)&&((decide (len=0) || (decide ((1:Int)≤d)&&decide (d≤((out++lit).length:Int))))&&decide (((out++lit).length:Int)+len≤4294967296))))=true:=by
      simp only[zA,Bool.or_eq_true,zB,zH]
      refine ⟨trivial,i1.1,?_,by omega⟩
      rcases i2 with h | h
      ·exact .inl h.1
      ·exact .inr ⟨h.2.1,by omega⟩
     have e:ft ((out++lit,(len,(0,()))),((lit,(d,(len,()))),()))=.ite true (.ret (.ret ((),((jD d.toNat len.toNat (out++lit),()),())))) .no:=congrArg (fun c=>Tr.ite c _ _) hg
     rw[e]
     rfl
abbrev dT:Io:=⟨[dI],[],[],[dI],none⟩
def ov (d:dT.In):Tr dT.Res:=.ret (.ret ((aS d.1.1,()),()))
abbrev qI:List (Nat×Hc):=[]
def zP:Hd:=bM qI
def qY:Lp:=cc []
def tH (a0:Int):Option dT.Res:=oR ((lY (eQ a0 0) 32768,()),())
theorem wL (a0:Int):Io.run tt zP dr qY dT Tryd.f95 ((a0,()),())=tH a0:=by kernel_rfl
theorem Ac:HcOk prog 95 (ah dT ov):=by
 refine cq (cs:=qI) HcsOk.nil (lp:=qY) (fn:=Tryd.f95) dT (.done (by kernel_rfl)) ov ?_
 rintro ⟨⟨(m:Int),⟨⟩⟩,⟨⟩⟩ out hw ho
 cases ho
 exact wL m
abbrev ik:Io:=⟨[dL,dI],[],[],[dO,dI],none⟩
def vR (d:ik.In):Tr ik.Res:=.ite (decide (d.1.1.length≤4294960000)) (.ret (.ret (((au d.1.1 d.1.2.1).1,(au d.1.1 d.1.2.1).2,()),()))) .no
abbrev xQ:List (Nat×Hc):=[(93,ah il vS),(95,ah dT ov),(94,ah dW ox)]
def yc:Hd:=bM xQ
abbrev cI:Lo:=⟨⟨(.one (.hol (.sl 5 (Ty.int u8)))::.one hI::cV (.one (.onl 5 (Ty.int u8) 13)::.any::al (fc (cV (cy []))))),[]⟩,[(.ret,⟨(cV (.one (.onl 5 (Ty.int u8) 9)::.one hI::al (al ([])))),[]⟩),(.exit 0,⟨(cV (cy (.one (.onl 5 (Ty.int u8) 13)::.any::al (fc (cV (cy [])))))),[]⟩)]⟩
def iX (d:cI.st.den):Tr (aq cI.xs):=
 .ite (decide (d.1.1.length≤4294960000)&&decide (d.1.2.2.1.length≤32768)) (.ite (decide ((cR (d.1.1.length+1) d.1.1 d.1.2.2.1 (aS d.1.2.1)).2=0)) (.ret (.pan (.ret ((),(((cR (d.1.1.length+1) d.1.1 d.1.2.2.1 (aS d.1.2.1)).1,()),()))))) (.ret (.ret ((),(([],(cR (d.1.1.length+1) d.1.1 d.1.2.2.1 (aS d.1.2.1)).2,()),()))))) .no
def n5:Lp:=cc [(3,aI cI iX)]
def nv {R:Type}(h2:LI)(h3:Int)(h4:LI)(next:LI→Int→LI→Option R)(out:aq cI.xs→Option R):Option R:=bif decide (0<(↑h2.length:Int)) then bif decide (1≤h2.length) then bif (bd h2).2.2 != 0 then out (.ret ((),(([],((bd h2).2.2,())),()))) else bif decide (h4.length≤4294960000)&&(decide (List.length (bd h2).1.1≤4294960000)&&decide (aS h3≤32768)) then bif (bJ h4 (bd h2).1 (aS h3)).2 != 0 then out (.ret ((),(([],((bJ h4 (bd h2).1 (aS h3)).2,())),()))) else bif decide (0≤(bd h2).2.1)&&(decide ((bd h2).2.1≤(↑h2.length:Int))&&decide ((↑h2.length:Int)≤(↑h2.length:Int))) then next (List.drop (bd h2).2.1.toNat (List.take (↑h2.length:Int).toNat h2)) (h3) ((bJ h4 (bd h2).1 (aS h3)).1) else none else none else none else out (.pan (.ret ((),((h4,()),()))))
def mB (n:Nat)(h2:LI)(h3:Int)(h4:LI):Option (aq cI.xs):=kW tt yc dr n5 0 Tryd.f72 (dF Tryd.f72 0) n (cI.st.mk' ((h2,(h3,(h4,()))),())) (ct cI.xs)
theorem AH (n:Nat)(h2:LI)(h3:Int)(h4:LI):mB (n+1) h2 h3 h4=nv h2 h3 h4 (mB n) some:=by kernel_rfl
theorem uB (m:Int):∀(k:Nat) (b out:LI),(∀c∈b,0≤c∧c≤255)→b.length<k→b.length≤4294960000→out.length≤32768→
  mB k b m out=if (cR k b out (aS m)).2=0 then some (.pan (.ret ((),(((cR k b out (aS m)).1,()),())))) else some (.ret ((),(([],((cR k b out (aS m)).2,())),()))):=by
 intro k
 induction k with
 |zero=>intro b out _ h;omega
 |succ k ih=>
  intro b out hb h1 h2 h3
  rw[AH]
  unfold nv
  by_cases hne:b=[]
  ·subst hne
   refine (ac rfl _ _).trans ?_
   rfl
  ·have hp:0<b.length:=List.length_pos_iff.2 hne
   have e:cR (k+1) b out (aS m)=if (bd b).2.2≠0 then ([],(bd b).2.2) else if (bJ out (bd b).1 (aS m)).2≠0 then ([],(bJ out (bd b).1 (aS m)).2) else cR k (b.drop (bd b).2.1.toNat) (bJ out (bd b).1 (aS m)).1 (aS m):=by
    rw[cR,if_neg hne]
   have hlit:=AK b
   have hbd:=wT m
   refine bT (by simpa using hp) ?_
   refine bT (by simp;omega) ?_
   rw[e]
   by_cases h4:(bd b).2.2=0
   ·have ho:=DN hb h4 hne
    refine bF (by simpa using h4) ?_
    refine bT (by simp only[zA,zB];omega) ?_
    rw[if_neg (aP h4)]
    by_cases h5:(bJ out (bd b).1 (aS m)).2=0
    ·have hle:=wU h5
     refine bF (by simpa using h5) ?_
     refine bT (by simp only[zA,zB];omega) ?_
     rw[if_neg (aP h5),zG,List.take_length]
     exact ih _ _ (fun c hc=>hb c (List.mem_of_mem_drop hc)) (by simp;omega) (by simp;omega) (by omega)
    ·refine bT (by simpa using h5) ?_
     rw[if_pos h5,if_neg h5]
   ·refine bT (by simpa using h4) ?_
    rw[if_pos h4,if_neg h4]
def qx (a0:LI)(a1:Int):Option ik.Res:=(iX ((a0,(a1,([],()))),())).run fun y=>match y with | .ret ((),((x13,x14,()),()))=>(oR ((x13,x14,()),())) | .pan (.ret ((),((x15,()),())))=>(oR ((x15,0,()),()))
theorem Dt (a0:LI)(a1:Int):Io.run tt yc dr n5 ik Tryd.f72 ((a0,a1,()),())=qx a0 a1:=by kernel_rfl
theorem qQ:HcsOk prog xQ:=.cons E3 (.cons Ac (.cons Af .nil))
theorem E2:HcOk prog 72 (ah ik vR):=by
 refine cq qQ (lp:=n5) (fn:=Tryd.f72) ik (.step (h0:=aI cI iX) (by kernel_rfl) (lL qQ (lp:=n5) (fn:=Tryd.f72) (.done (by kernel_rfl)) cI iX ?_) (.done (by kernel_rfl))) vR ?_
 ·rintro ⟨⟨(b:LI),(m:Int),(out:LI),⟨⟩⟩,⟨⟩⟩ y hw hy
  obtain ⟨hg,hy⟩:=Tr.guard hy
  simp only[zA,zB] at hg
  refine ⟨b.length+1,(uB m (b.length+1) b out (cS hw.1.1) (by omega) hg.1 hg.2).trans ?_⟩
  rw[← hy]
  simp only[Tr.val_ite,zB,Tr.val_ret]
 ·rintro ⟨⟨(b:LI),(m:Int),⟨⟩⟩,⟨⟩⟩ o hw ho
  obtain ⟨hg,ho⟩:=Tr.guard ho
  have hg:b.length≤4294960000:=of_decide_eq_true hg
  cases ho
  refine (Dt b m).trans ?_
  show _=oR (((au b m).1,(au b m).2,()),())
  unfold qx iX
  rw[ni]
  refine bT (by simp only[zA,zB];exact ⟨hg,by simp⟩) ?_
  by_cases h:(cR (b.length+1) b [] (aS m)).2=0
  ·refine bT (decide_eq_true h) ?_
   rw[h]
   rfl
  ·refine bF (decide_eq_false h) ?_
   rw[k5 _ _ _ _ h]
   rfl
abbrev ic:Io:=⟨[dL,dI],[],[],[dO,dI],none⟩
def vO (d:ic.In):Tr ic.Res:=.ite (decide ((d.1.2.1:Int)=(32768:Int))&&decide (d.1.1.length≤4294960000)) (.ret (.ret (((eD d.1.1).1,(eD d.1.1).2,()),()))) .no
abbrev xK:List (Nat×Hc):=[(71,ah jg xh),(72,ah ik vR)]
def Ez:Hd:=bM xK
def yt:Lp:=cc []
def qr (a0:LI)(a1:Int):Option ic.Res:=bif (ab 10 1 a0 0).2.2 != 0 then oR (([],(ab 10 1 a0 0).2.2,()),()) else bif decide (ak (ab 10 1 a0 0).1<0) then oR (([],5,()),()) else bif decide (eQ a1 0<ak (ab 10 1 a0 0).1) then oR (([],4,()),()) else bif decide (32768<ak (ab 10 1 a0 0).1) then oR (([],4,()),()) else bif decide (0≤(ab 10 1 a0 0).2.1)&&(decide ((ab 10 1 a0 0).2.1≤(↑a0.length:Int))&&decide ((↑a0.length:Int)≤(↑a0.length:Int))) then bif decide ((List.drop (ab 10 1 a0 0).2.1.toNat (List.take (↑a0.length:Int).toNat a0)).length≤4294960000) then bif (au (List.drop (ab 10 1 a0 0).2.1.toNat (List.take (↑a0.length:Int).toNat a0)) (ak (ab 10 1 a0 0).1)).2 == 4 then bif (au (List.drop (ab 10 1 a0 0).2.1.toNat (List.take (↑a0.length:Int).toNat a0)) (ak (ab 10 1 a0 0).1)).2 == 4 then oR (([],60,()),()) else bif (au (List.drop (ab 10 1 a0 0).2.1.toNat (List.take (↑a0.length:Int).toNat a0)) (ak (ab 10 1 a0 0).1)).2 != 0 then oR (([],(au (List.drop (ab 10 1 a0 0).2.1.toNat (List.take (↑a0.length:Int).toNat a0)) (ak (ab 10 1 a0 0).1)).2,()),()) else oR (((au (List.drop (ab 10 1 a0 0).2.1.toNat (List.take (↑a0.length:Int).toNat a0)) (ak (ab 10 1 a0 0).1)).1,0,()),()) else bif (au (List.drop (ab 10 1 a0 0).2.1.toNat (List.take (↑a0.length:Int).toNat a0)) (ak (ab 10 1 a0 0).1)).2 == 0 then bif decide ((↑(au (List.drop (ab 10 1 a0 0).2.1.toNat (List.take (↑a0.length:Int).toNat a0)) (ak (ab 10 1 a0 0).1)).1.length:Int)<ak (ab 10 1 a0 0).1) then oR (([],60,()),()) else bif (au (List.drop (ab 10 1 a0 0).2.1.toNat (List.take (↑a0.length:Int).toNat a0)) (ak (ab 10 1 a0 0).1)).2 != 0 then oR (([],(au (List.drop (ab 10 1 a0 0).2.1.toNat (List.take (↑a0.length:Int).toNat a0)) (ak (ab 10 1 a0 0).1)).2,()),()) else oR (((au (List.drop (ab 10 1 a0 0).2.1.toNat (List.take (↑a0.length:Int).toNat a0)) (ak (ab 10 1 a0 0).1)).1,0,()),()) else bif (au (List.drop (ab 10 1 a0 0).2.1.toNat (List.take (↑a0.length:Int).toNat a0)) (ak (ab 10 1 a0 0).1)).2 != 0 then oR (([],(au (List.drop (ab 10 1 a0 0).2.1.toNat (List.take (↑a0.length:Int).toNat a0)) (ak (ab 10 1 a0 0).1)).2,()),()) else oR (((au (List.drop (ab 10 1 a0 0).2.1.toNat (List.take (↑a0.length:Int).toNat a0)) (ak (ab 10 1 a0 0).1)).1,0,()),()) else none else none
theorem Dk (a0:LI)(a1:Int):Io.run tt Ez dr yt ic Tryd.f54 ((a0,a1,()),())=qr a0 a1:=by kernel_rfl
theorem EY:HcOk prog 54 (ah ic vO):=by
 refine cq (cs:=xK) (.cons CW (.cons E2 .nil)) (lp:=yt) (fn:=Tryd.f54) ic (.done (by kernel_rfl)) vO ?_
 rintro ⟨⟨(b:LI),(most:Int),⟨⟩⟩,⟨⟩⟩ o hw ho
 obtain ⟨hg,ho⟩:=Tr.guard ho
 simp only[zA,zB] at hg
 obtain ⟨h0,hl⟩:=hg
 have h0:most=32768:=h0
 have hl:b.length≤4294960000:=hl
 subst h0
 cases ho
 refine (Dk b 32768).trans ?_
 show _=oR (((eD b).1,(eD b).2,()),())
 unfold qr eD
 have hk:=@vu 10 1 b 0
 generalize hge:ab 10 1 b 0=g at *
 obtain ⟨u,q,e⟩:=g
 simp only at hk ⊢
 by_cases h1:e=0
 rotate_left
 ·refine bT (by simpa using h1) ?_
  rw[if_pos h1]
 subst h1
 have hk:=hk rfl
 obtain ⟨q,rfl⟩:=av (show 0≤q by omega)
 refine (ac rfl _ _).trans ?_
 rw[if_neg (aP rfl)]
 generalize ak u=n
 by_cases h2:n<0
 ·refine bT (decide_eq_true h2) ?_
  rw[if_pos h2]
 refine bF (decide_eq_false h2) ?_
 rw[if_neg h2]
 by_cases h3:32768<n
 ·refine bT (decide_eq_true (show eQ 32768 0<n from h3)) ?_
  rw[if_pos h3]
 refine bF (decide_eq_false (show ¬ eQ 32768 0<n from h3)) ?_
 refine bF (decide_eq_false h3) ?_
 rw[if_neg h3]
 have hx:=ni (b.drop q) n
 rw[zG,zG,List.take_length]
 refine bT (by simp only[zA,zB];omega) ?_
 refine bT (decide_eq_true (by simp;omega)) ?_
 have hx1:(au (b.drop q) n).2≠0→(au (b.drop q) n).1=[]:=by rw[hx];exact k5 _ _ _ _
 clear hx
 generalize au (b.drop q) n=x at *
 obtain ⟨o,f⟩:=x
 simp only at hx1 ⊢
 by_cases h4:f=4
 ·subst h4
  refine (aa rfl _ _).trans ?_
  rw[if_pos (.inl rfl)]
  all_goals rfl
 refine bF (by simpa using h4) ?_
 by_cases h5:f=0
 ·subst h5
  refine (aa rfl _ _).trans ?_
  by_cases h6:(o.length:Int)<n
  ·refine bT (decide_eq_true h6) ?_
   rw[if_pos (.inr ⟨rfl,h6⟩)]
  ·refine bF (decide_eq_false h6) ?_
   rw[if_neg (by rintro (h | h);cases h;exact h6 h.2),if_neg (aP rfl)]
   all_goals rfl
 ·refine bF (by simpa using h5) ?_
  rw[if_neg (by rintro (h | h);exact h4 h;exact h5 h.1),if_pos h5]
  exact aa (by simpa using h5) _ _
abbrev bj:Ty:=.prod (.int .i64) (.prod rj (.prod rj (.prod w4 .unit)))
abbrev FY:Ty:=.sl 70 bj
abbrev H5:Ty:=.prod (.int .i64) (.prod (.int .i32) (.prod (.int .i64) (.prod (.int .i16) (.prod (.int .i32) (.prod FY .unit)))))
abbrev HM:Ty:=.prod (.int .i64) (.prod (.int .i64) (.prod (.int .i32) (.prod .bool (.prod (.int .i64) (.prod (.int .i64) (.prod (.int .i64) (.prod (.int .i64) (.prod (.int .i16) (.prod (.int .i32) .unit)))))))))
abbrev bp:Type:=Int×th×th×List cr×Unit
abbrev eT:Type:=Int×Int×Int×Int×Int×List bp×Unit
abbrev p8:Type:=Int×Int×Int×Bool×Int×Int×Int×Int×Int×Int×Unit
abbrev F4:Sh:=.dat bj true false
abbrev BO:Sh:=.dat FY false false
abbrev wh:Sh:=.dat H5 true false
abbrev BN:Sh:=.dat HM true false
def zd:eT:=(0,0,0,0,0,[],())
def aK:p8:=(0,0,0,false,0,0,0,0,0,0,())
def od:bp:=(0,(false,[],()),(false,[],()),[],())
def aD (base:Int):Bool:=decide (base<0) || decide (4611686018427387648<base)
def ax (pid ep sq:Int):Bool:=if pid = -1∧ep = -1∧sq = -1∨0≤pid∧0≤ep∧0≤sq then false else true
def aU (n:Int):Bool:=if -9223372036854775808≤n∧n≤9223372036854775807 then true else false
def ay (rs:List bp):Int:=match rs with
 |[]=>0
 |r::_=>r.1
def fe (f:Int)(i:Nat)(r:bp):kc:=(r.1 - f,(i:Int),r.2.1,r.2.2.1,r.2.2.2.1,())
def bv (f:Int):List bp→Nat→LI→LI×Int
 |[],_,out=>(out,0)
 |r::rs,i,out=>
  if aU (r.1 - f)=false then ([],86)
  else if bk (fe f i r)≠0 then ([],bk (fe f i r))
  else bv f rs (i+1) (out++(ce (fe f i r)).1)
def bc (rs:List bp):LI×Int:=
 if (bv (ay rs) rs 0 []).2≠0 then ([],(bv (ay rs) rs 0 []).2)
 else if 32768<((bv (ay rs) rs 0 []).1.length:Int) then ([],4)
 else ((bv (ay rs) rs 0 []).1,0)
def az (b:eT):Int:=
 if aD b.1=true then 80
 else if ax b.2.2.1 b.2.2.2.1 b.2.2.2.2.1=true then 84
 else if b.2.2.2.2.2.1=[] then 85
 else if 256<(b.2.2.2.2.2.1.length:Int) then 9
 else (bc b.2.2.2.2.2.1).2
def cM (b:eT):LI×Int:=if az b≠0 then ([],az b) else ((bc b.2.2.2.2.2.1).1,0)
def iD:List bp→Int→Int
 |[],t=>t
 |r::rs,t=>iD rs (eQ t r.1)
def iC (rs:List bp):Int:=match rs with
 |[]=>-9223372036854775808
 |r::rs=>iD rs r.1
def bX (b:eT)(attrs:Int)(blk:LI):LI:=
 aw attrs 2++(aw ((b.2.2.2.2.2.1.length:Int) - 1) 4++(aw (ay b.2.2.2.2.2.1) 8++(aw (iC b.2.2.2.2.2.1) 8++(aw b.2.2.1 8++(aw b.2.2.2.1 2++(aw b.2.2.2.2.1 4++(aw (b.2.2.2.2.2.1.length:Int) 4++blk)))))))
def pv (b:eT)(attrs:Int)(blk:LI):LI:=
 aw b.1 8++(aw (49+(blk.length:Int)) 4++(aw b.2.1 4++([2]++(aw (cd 0 (bX b attrs blk)) 4++bX b attrs blk))))
def iA (b:eT):LI×Int:=if az b≠0 then ([],az b) else (pv b 0 (bc b.2.2.2.2.2.1).1,0)
def ap (b:LI)(p n:Nat):Int:=bx ((b.drop p).take n)
def ao (b:LI)(p:Int):Int×Int:=
 if p<0∨(b.length:Int)<p then (0,3)
 else if (b.length:Int) - p<12 then (0,1)
 else if ap b (p.toNat+8) 4<49 then (0,5)
 else if 35988<ap b (p.toNat+8) 4 then (0,4)
 else if (b.length:Int) - p - 12<ap b (p.toNat+8) 4 then (0,1)
 else (ap b (p.toNat+8) 4+12,0)
def fg (b:LI):Bool:=if (b.drop 17).take 4=aw (cd 0 (b.drop 21)) 4 then true else false
def iB (b:LI):p8:=(ap b 0 8,(b.length:Int),ap b 12 4,decide (b.getD 22 0=1),ap b 57 4,ap b 27 8,ap b 35 8,ap b 43 8,ap b 51 2,ap b 53 4,())
def aZ (b:LI)(summing:Bool):Int:=
 if (b.length:Int)<61 then 1
 else if (ao b 0).2≠0 then (ao b 0).2
 else if (ao b 0).1<(b.length:Int) then 2
 else if b.getD 16 0≠2 then 81
 else if summing=true∧fg b=false then 82
 else if aD (ap b 0 8)=true then 80
 else if b.getD 21 0≠0∨1<b.getD 22 0 then 83
 else if ax (ap b 43 8) (ap b 51 2) (ap b 53 4)=true then 84
 else if ap b 57 4<1 then 85
 else if 256<ap b 57 4 then 9
 else if ap b 23 4≠ap b 57 4 - 1 then 72
 else 0
def aj (b:LI)(summing:Bool):p8×Int:=if aZ b summing≠0 then (aK,aZ b summing) else (iB b,0)
def aV (blk:LI)(f:Int):Nat→Nat→Int→List bp→List bp×Int×Int
 |0,_,p,out=>(out,p,0)
 |n+1,i,p,out=>
  if (an blk p).2.2≠0 then ([],0,(an blk p).2.2)
  else if (an blk p).1.2.1≠(i:Int) then ([],0,72)
  else if i=0∧(an blk p).1.1≠0∨aU (f+(an blk p).1.1)=false then ([],0,86)
  else aV blk f n (i+1) (an blk p).2.1 (out++[(f+(an blk p).1.1,(an blk p).1.2.2.1,(an blk p).1.2.2.2.1,(an blk p).1.2.2.2.2.1,())])
def wV (blk:LI)(f l:Int)(n:Nat):List bp×Int:=
 if (aV blk f n 0 0 []).2.2≠0 then ([],(aV blk f n 0 0 []).2.2)
 else if (aV blk f n 0 0 []).2.1<(blk.length:Int) then ([],2)
 else if iC (aV blk f n 0 0 []).1≠l then ([],86)
 else ((aV blk f n 0 0 []).1,0)
def aN (b:LI)(packed:Bool):LI×Int:=
 if packed=true then eD (b.drop 61) else if 32768<((b.drop 61).length:Int) then ([],4) else (b.drop 61,0)
def px (b:LI):List bp×Int:=
 if aZ b true≠0 then ([],aZ b true)
 else if (aN b (decide (b.getD 22 0=1))).2≠0 then ([],(aN b (decide (b.getD 22 0=1))).2)
 else wV (aN b (decide (b.getD 22 0=1))).1 (ap b 27 8) (ap b 35 8) (ap b 57 4).toNat
def eN (b:LI):eT×Int:=
 if (px b).2≠0 then (zd,(px b).2) else ((ap b 0 8,ap b 12 4,ap b 43 8,ap b 51 2,ap b 53 4,(px b).1,()),0)
abbrev d8:Sh:=.dat (.int .i8) false false
abbrev oY:Io:=⟨[.ptr 0 0,d8],[ER],[],[dI],none⟩
def D6 (d:oY.In):Tr oY.Res:=
 .ite (ci d.2.1.1 d.2.1.2.1) (.ret (.ret (((bH d.2.1.1 d.2.1.2.1 d.1.2.1 1).1,()),(((bH d.2.1.1 d.2.1.2.1 d.1.2.1 1).2,(d.2.1.2.1,())),())))) .no
abbrev FR:List (Nat×Hc):=[(66,ah cw gH)]
def Hx:Hd:=bM FR
def FV:Lp:=cc []
def xu (a0:Int)(a1:LI)(a2:Int):Option oY.Res:=bif ci a1 a2&&(decide (0≤1)&&decide (1≤8)) then oR (((bH a1 a2 (u64.wrap a0) (Int.toNat 1)).1,()),((bH a1 a2 (u64.wrap a0) (Int.toNat 1)).2,a2,()),()) else none
theorem GU (a0:Int)(a1:LI)(a2:Int):Io.run tt Hx dr FV oY Tryd.f38 (((),a0,()),(a1,a2,()),())=xu a0 a1 a2:=by kernel_rfl
theorem HF:HcOk prog 38 (ah oY D6):=by
 refine cq (cs:=FR) (.cons j4 .nil) (lp:=FV) (fn:=Tryd.f38) oY (.done (by kernel_rfl)) D6 ?_
 rintro ⟨⟨⟨⟩,(v:Int),⟨⟩⟩,⟨⟨(b:LI),(m:Int),⟨⟩⟩,⟨⟩⟩⟩ out hw ho
 obtain ⟨hg,ho⟩:=Tr.guard ho
 have hg:ci b m=true:=hg
 cases ho
 refine (GU v b m).trans ?_
 unfold xu
 have e:bH b m (u64.wrap v) 1=bH b m v 1:=by unfold bH;rw[lW v (by decide)]
 simp[hg,e]
abbrev kN:Io:=⟨[.ptr 0 0],[FW],[],[d8,dI],none⟩
def xj (d:kN.In):Tr kN.Res:=
 .ite (ca d.2.1.1 d.2.1.2.1) (.ret (.ret ((i8.wrap (aX d.2.1.1 d.2.1.2.1 1).1,((aX d.2.1.1 d.2.1.2.1 1).2.2,())),((d.2.1.1,((aX d.2.1.1 d.2.1.2.1 1).2.1,())),())))) .no
abbrev BF:List (Nat×Hc):=[(45,ah b8 fh)]
def Gj:Hd:=bM BF
def CC:Lp:=cc []
def tG (a0:LI)(a1:Int):Option kN.Res:=bif ca a0 a1&&(decide (0≤1)&&decide (1≤8)) then oR ((i8.wrap (aX a0 a1 (Int.toNat 1)).1,(aX a0 a1 (Int.toNat 1)).2.2,()),(a0,(aX a0 a1 (Int.toNat 1)).2.1,()),()) else none
theorem Fo (a0:LI)(a1:Int):Io.run tt Gj dr CC kN Tryd.f49 (((),()),(a0,a1,()),())=tG a0 a1:=by kernel_rfl
theorem GK:HcOk prog 49 (ah kN xj):=by
 refine cq (cs:=BF) (.cons iw .nil) (lp:=CC) (fn:=Tryd.f49) kN (.done (by kernel_rfl)) xj ?_
 rintro ⟨⟨⟨⟩,⟨⟩⟩,⟨⟨(b:LI),(p:Int),⟨⟩⟩,⟨⟩⟩⟩ out hw ho
 obtain ⟨hg,ho⟩:=Tr.guard ho
 have hg:ca b p=true:=hg
 cases ho
 refine (Fo b p).trans ?_
 unfold tG
 rw[aa (by simp[hg])]
 rfl
end
end Go.Proofs.YtcbcbjdobbgddaaDoor.Sym
