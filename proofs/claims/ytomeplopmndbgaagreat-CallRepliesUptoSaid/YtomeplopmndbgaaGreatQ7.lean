/- offsets.DecodeReq: what it reads. -/
import Derived.Test.YtomeplopmndbgaaGreatQ6

namespace Go.Proofs.YtomeplopmndbgaaGreat.Sym
open Go
set_option linter.unusedSimpArgs false
set_option linter.unusedVariables false
noncomputable section
@[irreducible] noncomputable def li (v:Int)(b:List Int)(s:aN):bd.den×aN:=
 (((ae .i32 4 b s).1,((av .i32 4 v 3 3 b (ae .i32 4 b s).2).1,((ae .i64 8 b (av .i32 4 v 3 3 b (ae .i32 4 b s).2).2).1,((av .i32 4 v 0 0 b (ae .i64 8 b (av .i32 4 v 3 3 b (ae .i32 4 b s).2).2).2).1,())))),(av .i32 4 v 0 0 b (ae .i64 8 b (av .i32 4 v 3 3 b (ae .i32 4 b s).2).2).2).2)
theorem DR {v:Int}{b:List Int}{s:aN}(h:au b s.2=true):au b (li v b s).2.2=true:=by
 unfold li
 exact kY (bF _ _ (kY (bF _ _ (h))))
abbrev iX:Io:=⟨[.ptr 0 0],IF,[],[.dat bd true false],none⟩
def xS (d:iX.In):Tr iX.Res:=.ite (au d.2.2.2.1.1 d.2.2.2.1.2.1) (.ret (.ret (((li d.2.2.1.2.1 d.2.2.2.1.1 (eG d.2.2)).1,()),lE d.2.2.1.2.1 d.2.2.2.1.1 (li d.2.2.1.2.1 d.2.2.2.1.1 (eG d.2.2)).2))) .no
abbrev CG:List (Nat×Hc):=[(143,ah fF mG),(156,ah nw Gs),(140,ah mi BN)]
def OO:Hd:=bz CG
def C9:Lp:=bo []
def vX (a0 a1:Int)(a2:List Int)(a3:Int):Option iX.Res:=bif au a2 a3 then bif bg a0 3 3 (ae IntKind.i32 4 a2 (a1,a3)).2.1 then bif au a2 (ae IntKind.i32 4 a2 (a1,a3)).2.2 then bif au a2 (ae IntKind.i32 4 a2 (ae IntKind.i32 4 a2 (a1,a3)).2).2.2 then bif bg a0 0 0 (ae IntKind.i64 8 a2 (ae IntKind.i32 4 a2 (ae IntKind.i32 4 a2 (a1,a3)).2).2).2.1 then bif au a2 (ae IntKind.i64 8 a2 (ae IntKind.i32 4 a2 (ae IntKind.i32 4 a2 (a1,a3)).2).2).2.2 then some (Out.ret ((((ae IntKind.i32 4 a2 (a1,a3)).1,(ae IntKind.i32 4 a2 (ae IntKind.i32 4 a2 (a1,a3)).2).1,(ae IntKind.i64 8 a2 (ae IntKind.i32 4 a2 (ae IntKind.i32 4 a2 (a1,a3)).2).2).1,(ae IntKind.i32 4 a2 (ae IntKind.i64 8 a2 (ae IntKind.i32 4 a2 (ae IntKind.i32 4 a2 (a1,a3)).2).2).2).1,()),()),((),()),((),a0,(ae IntKind.i32 4 a2 (ae IntKind.i64 8 a2 (ae IntKind.i32 4 a2 (ae IntKind.i32 4 a2 (a1,a3)).2).2).2).2.1,()),(a2,(ae IntKind.i32 4 a2 (ae IntKind.i64 8 a2 (ae IntKind.i32 4 a2 (ae IntKind.i32 4 a2 (a1,a3)).2).2).2).2.2,()),())) else none else some (Out.ret ((((ae IntKind.i32 4 a2 (a1,a3)).1,(ae IntKind.i32 4 a2 (ae IntKind.i32 4 a2 (a1,a3)).2).1,(ae IntKind.i64 8 a2 (ae IntKind.i32 4 a2 (ae IntKind.i32 4 a2 (a1,a3)).2).2).1,0,()),()),((),()),((),a0,(ae IntKind.i64 8 a2 (ae IntKind.i32 4 a2 (ae IntKind.i32 4 a2 (a1,a3)).2).2).2.1,()),(a2,(ae IntKind.i64 8 a2 (ae IntKind.i32 4 a2 (ae IntKind.i32 4 a2 (a1,a3)).2).2).2.2,()),())) else none else none else bif au a2 (ae IntKind.i32 4 a2 (a1,a3)).2.2 then bif bg a0 0 0 (ae IntKind.i64 8 a2 (ae IntKind.i32 4 a2 (a1,a3)).2).2.1 then bif au a2 (ae IntKind.i64 8 a2 (ae IntKind.i32 4 a2 (a1,a3)).2).2.2 then some (Out.ret ((((ae IntKind.i32 4 a2 (a1,a3)).1,0,(ae IntKind.i64 8 a2 (ae IntKind.i32 4 a2 (a1,a3)).2).1,(ae IntKind.i32 4 a2 (ae IntKind.i64 8 a2 (ae IntKind.i32 4 a2 (a1,a3)).2).2).1,()),()),((),()),((),a0,(ae IntKind.i32 4 a2 (ae IntKind.i64 8 a2 (ae IntKind.i32 4 a2 (a1,a3)).2).2).2.1,()),(a2,(ae IntKind.i32 4 a2 (ae IntKind.i64 8 a2 (ae IntKind.i32 4 a2 (a1,a3)).2).2).2.2,()),())) else none else some (Out.ret ((((ae IntKind.i32 4 a2 (a1,a3)).1,0,(ae IntKind.i64 8 a2 (ae IntKind.i32 4 a2 (a1,a3)).2).1,0,()),()),((),()),((),a0,(ae IntKind.i64 8 a2 (ae IntKind.i32 4 a2 (a1,a3)).2).2.1,()),(a2,(ae IntKind.i64 8 a2 (ae IntKind.i32 4 a2 (a1,a3)).2).2.2,()),())) else none else none
theorem Lf (a0 a1:Int)(a2:List Int)(a3:Int):Io.run tt OO dr C9 iX Tryz.f160 (((),()),((),()),((),a0,a1,()),(a2,a3,()),())=vX a0 a1 a2 a3:=by kernel_rfl
theorem Pj:HcOk prog 160 (ah iX xS):=by
 refine aj (n:=400) hm (cs:=CG) (.cons jL (.cons FJ (.cons FI .nil))) (lp:=C9) (fn:=Tryz.f160) (by kernel_rfl) (by kernel_rfl) (by kernel_rfl) iX (.done (by kernel_rfl)) xS ?_
 rintro ⟨⟨⟨⟩,⟨⟩⟩,⟨⟨⟩,⟨⟩⟩,⟨⟨⟩,(v:Int),(e:Int),⟨⟩⟩,⟨(b:List Int),(p:Int),⟨⟩⟩,⟨⟩⟩ out hw ho
 obtain ⟨hg,ho⟩:=Tr.guard ho
 have hg:au b p=true:=hg
 cases ho
 refine (Lf v e b p).trans ?_
 unfold vX
 show _=some (Out.ret (((li v b (e,p)).1,()),lE v b (li v b (e,p)).2))
 unfold li
 have hg:au b ((e,p):aN).2=true:=hg
 refine (aa hg _ _).trans ?_
 have g0:au b (ae .i32 4 b ((e,p):aN)).2.2=true:=bF .i32 4 (s:=((e,p):aN)) hg
 show (bif bg v 3 3 (ae .i32 4 b ((e,p):aN)).2.1 then _ else _)=_
 cases h1:bg v 3 3 (ae .i32 4 b ((e,p):aN)).2.1
 ·have e1:av .i32 4 v 3 3 b (ae .i32 4 b ((e,p):aN)).2=(0,(ae .i32 4 b ((e,p):aN)).2):=by unfold av;rw[if_neg (by rw[h1];decide)]
  rw[e1]
  refine (aa g0 _ _).trans ?_
  have gf2:au b (ae .i64 8 b (ae .i32 4 b ((e,p):aN)).2).2.2=true:=bF .i64 8 (s:=(ae .i32 4 b ((e,p):aN)).2) g0
  show (bif bg v 0 0 (ae .i64 8 b (ae .i32 4 b ((e,p):aN)).2).2.1 then _ else _)=_
  cases hf3:bg v 0 0 (ae .i64 8 b (ae .i32 4 b ((e,p):aN)).2).2.1
  ·have ef3:av .i32 4 v 0 0 b (ae .i64 8 b (ae .i32 4 b ((e,p):aN)).2).2=(0,(ae .i64 8 b (ae .i32 4 b ((e,p):aN)).2).2):=by unfold av;rw[if_neg (by rw[hf3];decide)]
   rw[ef3]
   rfl
  ·have ef3:av .i32 4 v 0 0 b (ae .i64 8 b (ae .i32 4 b ((e,p):aN)).2).2=ae .i32 4 b (ae .i64 8 b (ae .i32 4 b ((e,p):aN)).2).2:=by unfold av;rw[if_pos hf3]
   rw[ef3]
   refine (aa gf2 _ _).trans ?_
   have gf3:au b (ae .i32 4 b (ae .i64 8 b (ae .i32 4 b ((e,p):aN)).2).2).2.2=true:=bF .i32 4 (s:=(ae .i64 8 b (ae .i32 4 b ((e,p):aN)).2).2) gf2
   rfl
 ·have e1:av .i32 4 v 3 3 b (ae .i32 4 b ((e,p):aN)).2=ae .i32 4 b (ae .i32 4 b ((e,p):aN)).2:=by unfold av;rw[if_pos h1]
  rw[e1]
  refine (aa g0 _ _).trans ?_
  have g1:au b (ae .i32 4 b (ae .i32 4 b ((e,p):aN)).2).2.2=true:=bF .i32 4 (s:=(ae .i32 4 b ((e,p):aN)).2) g0
  refine (aa g1 _ _).trans ?_
  have gt2:au b (ae .i64 8 b (ae .i32 4 b (ae .i32 4 b ((e,p):aN)).2).2).2.2=true:=bF .i64 8 (s:=(ae .i32 4 b (ae .i32 4 b ((e,p):aN)).2).2) g1
  show (bif bg v 0 0 (ae .i64 8 b (ae .i32 4 b (ae .i32 4 b ((e,p):aN)).2).2).2.1 then _ else _)=_
  cases ht3:bg v 0 0 (ae .i64 8 b (ae .i32 4 b (ae .i32 4 b ((e,p):aN)).2).2).2.1
  ·have et3:av .i32 4 v 0 0 b (ae .i64 8 b (ae .i32 4 b (ae .i32 4 b ((e,p):aN)).2).2).2=(0,(ae .i64 8 b (ae .i32 4 b (ae .i32 4 b ((e,p):aN)).2).2).2):=by unfold av;rw[if_neg (by rw[ht3];decide)]
   rw[et3]
   rfl
  ·have et3:av .i32 4 v 0 0 b (ae .i64 8 b (ae .i32 4 b (ae .i32 4 b ((e,p):aN)).2).2).2=ae .i32 4 b (ae .i64 8 b (ae .i32 4 b (ae .i32 4 b ((e,p):aN)).2).2).2:=by unfold av;rw[if_pos ht3]
   rw[et3]
   refine (aa gt2 _ _).trans ?_
   have gt3:au b (ae .i32 4 b (ae .i64 8 b (ae .i32 4 b (ae .i32 4 b ((e,p):aN)).2).2).2).2.2=true:=bF .i32 4 (s:=(ae .i64 8 b (ae .i32 4 b (ae .i32 4 b ((e,p):aN)).2).2).2) gt2
   rfl
@[irreducible] noncomputable def gF (v:Int)(b:List Int)(s:aN):List bd.den×aN:=jP (li v b) b s
theorem Md {v:Int}{b:List Int}{s:aN}(h:au b s.2=true):au b (gF v b s).2.2=true:=by
 unfold gF
 exact mZ (fun s h=>DR h) h
abbrev ny:Io:=⟨[.ptr 0 0,.fnc 160 false [2]],zW,[],[.dat (.sl 198 bd) false false],none⟩
def BO (d:ny.In):Tr ny.Res:=.ite (au d.2.2.1.1 d.2.2.1.2.1) (.ret (.ret (((gF d.2.1.2.1 d.2.2.1.1 (mb d.2)).1,()),p8 d.2.1.2.1 d.2.2.1.1 (gF d.2.1.2.1 d.2.2.1.1 (mb d.2)).2))) .no
abbrev Kf:List (Nat×Hc):=[(143,ah fF mG),(160,ah iX xS)]
theorem KW:HcOk prog 159 (ah ny BO):=
 Fi (one:=li) (sps:=gF) (fun _ _ _=>by unfold gF;rfl) (fun _ _ _ h4=>DR h4) (cs:=Kf) (.cons jL (.cons Pj .nil)) (fn:=Tryz.f159) (by kernel_rfl) (by kernel_rfl) (by kernel_rfl) (by kernel_rfl) (by kernel_rfl) (by kernel_rfl) (by intros;kernel_rfl) (by intros;kernel_rfl)
@[irreducible] noncomputable def lj (v:Int)(b:List Int)(s:aN):am.den×aN:=(((cn b s).1,((gF v b (cn b s).2).1,())),(gF v b (cn b s).2).2)
theorem DT {v:Int}{b:List Int}{s:aN}(h:au b s.2=true):au b (lj v b s).2.2=true:=by
 unfold lj
 exact Md (qC h)
abbrev gK:Io:=⟨[.ptr 0 0],IF,[],[.dat am true false],none⟩
def uy (d:gK.In):Tr gK.Res:=.ite (au d.2.2.2.1.1 d.2.2.2.1.2.1) (.ret (.ret (((lj d.2.2.1.2.1 d.2.2.2.1.1 (eG d.2.2)).1,()),lE d.2.2.1.2.1 d.2.2.2.1.1 (lj d.2.2.1.2.1 d.2.2.2.1.1 (eG d.2.2)).2))) .no
abbrev yY:List (Nat×Hc):=[(146,ah pe Mp),(159,ah ny BO)]
def Kv:Hd:=bz yY
def zP:Lp:=bo []
def sP (a0 a1:Int)(a2:List Int)(a3:Int):Option gK.Res:=bif au a2 a3 then bif au a2 (cn a2 (a1,a3)).2.2 then some (Out.ret ((((cn a2 (a1,a3)).1,(gF a0 a2 (cn a2 (a1,a3)).2).1,()),()),((),()),((),a0,(gF a0 a2 (cn a2 (a1,a3)).2).2.1,()),(a2,(gF a0 a2 (cn a2 (a1,a3)).2).2.2,()),())) else none else none
theorem IX (a0 a1:Int)(a2:List Int)(a3:Int):Io.run tt Kv dr zP gK Tryz.f158 (((),()),((),()),((),a0,a1,()),(a2,a3,()),())=sP a0 a1 a2 a3:=by kernel_rfl
theorem KX:HcOk prog 158 (ah gK uy):=by
 refine aj (n:=400) hm (cs:=yY) (.cons TX (.cons KW .nil)) (lp:=zP) (fn:=Tryz.f158) (by kernel_rfl) (by kernel_rfl) (by kernel_rfl) gK (.done (by kernel_rfl)) uy ?_
 rintro ⟨⟨⟨⟩,⟨⟩⟩,⟨⟨⟩,⟨⟩⟩,⟨⟨⟩,(v:Int),(e:Int),⟨⟩⟩,⟨(b:List Int),(p:Int),⟨⟩⟩,⟨⟩⟩ out hw ho
 obtain ⟨hg,ho⟩:=Tr.guard ho
 have hg:au b p=true:=hg
 cases ho
 refine (IX v e b p).trans ?_
 unfold sP
 show _=some (Out.ret (((lj v b (e,p)).1,()),lE v b (lj v b (e,p)).2))
 unfold lj
 refine (aa hg _ _).trans ?_
 exact aa (qC (s:=(e,p)) hg) _ _
@[irreducible] noncomputable def ce (v:Int)(b:List Int)(s:aN):List am.den×aN:=jP (lj v b) b s
theorem Ba {v:Int}{b:List Int}{s:aN}(h:au b s.2=true):au b (ce v b s).2.2=true:=by
 unfold ce
 exact mZ (fun s h=>DT h) h
abbrev lL:Io:=⟨[.ptr 0 0,.fnc 158 false [2]],zW,[],[.dat (.sl 196 am) false false],none⟩
def xU (d:lL.In):Tr lL.Res:=.ite (au d.2.2.1.1 d.2.2.1.2.1) (.ret (.ret (((ce d.2.1.2.1 d.2.2.1.1 (mb d.2)).1,()),p8 d.2.1.2.1 d.2.2.1.1 (ce d.2.1.2.1 d.2.2.1.1 (mb d.2)).2))) .no
abbrev Hm:List (Nat×Hc):=[(143,ah fF mG),(158,ah gK uy)]
theorem IH:HcOk prog 157 (ah lL xU):=
 Fi (one:=lj) (sps:=ce) (fun _ _ _=>by unfold ce;rfl) (fun _ _ _ h4=>DT h4) (cs:=Hm) (.cons jL (.cons KX .nil)) (fn:=Tryz.f157) (by kernel_rfl) (by kernel_rfl) (by kernel_rfl) (by kernel_rfl) (by kernel_rfl) (by kernel_rfl) (by intros;kernel_rfl) (by intros;kernel_rfl)
abbrev j0:Io:=⟨[.ptr 0 0,.fnc 158 false [1]],KU,[],[.dat (.sl 196 am) false false],none⟩
def vS (d:j0.In):Tr j0.Res:=.ite (decide (d.2.1.2.2.1≠0)) (.ret (.ret ((([]:List am.den),()),d.2))) .no
abbrev EK:List (Nat×Hc):=[(143,n7 kx (ah jp uw) (ah fF mG))]
theorem FK:HcOk prog 157 (ah j0 vS):=
 Nn (cs:=EK) (.cons (cM xG jL) .nil) (fn:=Tryz.f157) (by kernel_rfl) (by kernel_rfl) (by kernel_rfl) (by kernel_rfl) (by kernel_rfl) (by kernel_rfl) (by intros;kernel_rfl) (by intros;kernel_rfl)
def Y7:dF.den:=(0,(0,(([]:List am.den),())))
def Gf (v:Int)(b:List Int)(s:aN):dF.den×aN:=
 (((ae .i32 4 b s).1,((av .i8 1 v 2 3 b (ae .i32 4 b s).2).1,((ce v b (av .i8 1 v 2 3 b (ae .i32 4 b s).2).2).1,()))),(ce v b (av .i8 1 v 2 3 b (ae .i32 4 b s).2).2).2)
def m1 (v:Int)(b:List Int):dF.den×Int:=if 0≤v∧v≤3∧(b.length:Int)≤130048 then (if bT b (Gf v b (0,0)).2=0 then ((Gf v b (0,0)).1,0) else (Y7,bT b (Gf v b (0,0)).2)) else (Y7,eb v)
abbrev kG:Io:=⟨[dI,dL],[],[],[.dat dF true false,dI],none⟩
def Ee (d:kG.In):Tr kG.Res:=.ret (.ret (((m1 d.1.1 d.1.2.1).1,((m1 d.1.1 d.1.2.1).2,())),()))
abbrev Hl:List (Nat×Hc):=[(139,n7 TL (ah lJ ux) (ah pd Mo)),(140,n7 kx (ah lI Eb) (ah mi BN)),(143,n7 kx (ah jp uw) (ah fF mG)),(151,n7 kx (ah ry Q4) (ah zn Ze)),(157,n7 kx (ah j0 vS) (ah lL xU)),(150,n7 kx (ah lH Ea) (ah pb Mm))]
def SJ:Hd:=bz Hl
def Ii:Lp:=bo []
def yx (a0:Int)(a1:List Int):Option kG.Res:=bif !(decide (0≤a0)&&(decide (a0≤3)&&decide ((↑a1.length:Int)≤130048))) then bif decide (0≤a0)&&(decide (a0≤3)&&decide ((↑a1.length:Int)≤130048)) then none else bif decide (eb a0≠0) then bif decide (eb a0≠0) then bif decide (eb a0≠0) then bif decide (eb a0≠0) then bif eb a0 != 0 then some (Out.ret (((0,0,[],()),eb a0,()),())) else some (Out.ret (((0,0,[],()),0,()),())) else none else none else none else none else bif decide (0≤a0)&&(decide (a0≤3)&&decide ((↑a1.length:Int)≤130048)) then bif au a1 0 then bif bg a0 2 3 (al a1 0 4).2.2 then bif au a1 (al a1 0 4).2.1 then bif au a1 (ae IntKind.i8 1 a1 ((al a1 0 4).2.2,(al a1 0 4).2.1)).2.2 then bif bT a1 (ce a0 a1 (ae IntKind.i8 1 a1 ((al a1 0 4).2.2,(al a1 0 4).2.1)).2).2 != 0 then some (Out.ret (((0,0,[],()),bT a1 (ce a0 a1 (ae IntKind.i8 1 a1 ((al a1 0 4).2.2,(al a1 0 4).2.1)).2).2,()),())) else some (Out.ret (((IntKind.i32.wrap (al a1 0 4).1,(ae IntKind.i8 1 a1 ((al a1 0 4).2.2,(al a1 0 4).2.1)).1,(ce a0 a1 (ae IntKind.i8 1 a1 ((al a1 0 4).2.2,(al a1 0 4).2.1)).2).1,()),0,()),())) else none else none else bif au a1 (al a1 0 4).2.1 then bif bT a1 (ce a0 a1 ((al a1 0 4).2.2,(al a1 0 4).2.1)).2 != 0 then some (Out.ret (((0,0,[],()),bT a1 (ce a0 a1 ((al a1 0 4).2.2,(al a1 0 4).2.1)).2,()),())) else some (Out.ret (((IntKind.i32.wrap (al a1 0 4).1,0,(ce a0 a1 ((al a1 0 4).2.2,(al a1 0 4).2.1)).1,()),0,()),())) else none else none else none
theorem PL (a0:Int)(a1:List Int):Io.run tt SJ dr Ii kG Tryz.f67 ((a0,a1,()),())=yx a0 a1:=by kernel_rfl
theorem TZ:HcOk prog 67 (ah kG Ee):=by
 refine aj (n:=400) hm (cs:=Hl) (.cons (cM N3 TW) (.cons (cM N2 FI) (.cons (cM xG jL) (.cons (cM Z8 abx) (.cons (cM FK IH) (.cons (cM N1 TU) .nil)))))) (lp:=Ii) (fn:=Tryz.f67) (by kernel_rfl) (by kernel_rfl) (by kernel_rfl) kG (.done (by kernel_rfl)) Ee ?_
 rintro ⟨⟨(v:Int),(b:List Int),⟨⟩⟩,⟨⟩⟩ out hw ho
 cases ho
 refine (PL v b).trans ?_
 unfold yx
 show _=some (Out.ret (((m1 v b).1,((m1 v b).2,())),()))
 by_cases h:0≤v∧v≤3∧(b.length:Int)≤130048
 ·have hc:(decide (0≤v)&&(decide (v≤3)&&decide ((b.length:Int)≤130048)))=true:=by simpa using h
  refine (ab (by rw[hc];rfl) _ _).trans ?_
  refine (aa hc _ _).trans ?_
  have hg:au b ((0,0):aN).2=true:=by simp[au];omega
  unfold m1 Gf
  rw[if_pos h]
  refine (aa hg _ _).trans ?_
  have g0:au b (ae .i32 4 b ((0,0):aN)).2.2=true:=bF .i32 4 (s:=((0,0):aN)) hg
  show (bif bg v 2 3 (ae .i32 4 b ((0,0):aN)).2.1 then _ else _)=_
  cases h1:bg v 2 3 (ae .i32 4 b ((0,0):aN)).2.1
  ·have e1:av .i8 1 v 2 3 b (ae .i32 4 b ((0,0):aN)).2=(0,(ae .i32 4 b ((0,0):aN)).2):=by unfold av;rw[if_neg (by rw[h1];decide)]
   rw[e1]
   refine (aa g0 _ _).trans ?_
   have gf2:au b (ce v b (ae .i32 4 b ((0,0):aN)).2).2.2=true:=Ba (s:=(ae .i32 4 b ((0,0):aN)).2) g0
   show _=some (Out.ret (((if bT b (ce v b (ae .i32 4 b ((0,0):aN)).2).2=0 then _ else _:dF.den×Int).1,_),()))
   by_cases hE:bT b (ce v b (ae .i32 4 b ((0,0):aN)).2).2=0
   ·rw[if_pos hE]
    exact ab (show (bT b (ce v b (ae .i32 4 b ((0,0):aN)).2).2 != 0)=false by simpa using hE) _ _
   ·rw[if_neg hE]
    exact aa (show (bT b (ce v b (ae .i32 4 b ((0,0):aN)).2).2 != 0)=true by simpa using hE) _ _
  ·have e1:av .i8 1 v 2 3 b (ae .i32 4 b ((0,0):aN)).2=ae .i8 1 b (ae .i32 4 b ((0,0):aN)).2:=by unfold av;rw[if_pos h1]
   rw[e1]
   refine (aa g0 _ _).trans ?_
   have g1:au b (ae .i8 1 b (ae .i32 4 b ((0,0):aN)).2).2.2=true:=bF .i8 1 (s:=(ae .i32 4 b ((0,0):aN)).2) g0
   refine (aa g1 _ _).trans ?_
   have gt2:au b (ce v b (ae .i8 1 b (ae .i32 4 b ((0,0):aN)).2).2).2.2=true:=Ba (s:=(ae .i8 1 b (ae .i32 4 b ((0,0):aN)).2).2) g1
   show _=some (Out.ret (((if bT b (ce v b (ae .i8 1 b (ae .i32 4 b ((0,0):aN)).2).2).2=0 then _ else _:dF.den×Int).1,_),()))
   by_cases hE:bT b (ce v b (ae .i8 1 b (ae .i32 4 b ((0,0):aN)).2).2).2=0
   ·rw[if_pos hE]
    exact ab (show (bT b (ce v b (ae .i8 1 b (ae .i32 4 b ((0,0):aN)).2).2).2 != 0)=false by simpa using hE) _ _
   ·rw[if_neg hE]
    exact aa (show (bT b (ce v b (ae .i8 1 b (ae .i32 4 b ((0,0):aN)).2).2).2 != 0)=true by simpa using hE) _ _
 ·have hc:(decide (0≤v)&&(decide (v≤3)&&decide ((b.length:Int)≤130048)))=false:=by
   rw[Bool.eq_false_iff]
   intro h'
   simp only[Bool.and_eq_true,decide_eq_true_eq] at h'
   exact h h'
  have hn:eb v≠0:=by unfold eb;split <;> decide
  unfold m1
  rw[if_neg h]
  refine (aa (by rw[hc];rfl) _ _).trans ?_
  refine (ab hc _ _).trans ?_
  repeat refine (aa (decide_eq_true hn) _ _).trans ?_
  exact aa (by simpa using hn) _ _
def DO (p:bd.den):Nd:=bH [aG 3 p.1,aG 3 p.2.1,aG 4 p.2.2.1,aG 3 p.2.2.2.1]
def ov (t:am.den):Nd:=bH [gO t.1,bj (t.2.1.map DO)]
@[irreducible] def A6 (m:dF.den):Nd:=bH [aG 3 m.1,aG 1 m.2.1,bj (m.2.2.1.map ov)]
def Y6 (x:Nd):bd.den:=(IntKind.i32.wrap (bf x 0).lab.2.1,(IntKind.i32.wrap (bf x 1).lab.2.1,((bf x 2).lab.2.1,(IntKind.i32.wrap (bf x 3).lab.2.1,()))))
def aaA (x:Nd):am.den:=((bf x 0).lab.2.2.2.1,((bf x 1).kids.map Y6,()))
def JI (l:List am.den):Bool:=decide (l.length≤4294967296)&&l.all fun t=>decide (t.2.1.length≤4294967296)
abbrev wC:Lo:=⟨⟨(.any::.one (.ptr 1 0)::.one (.ptr 2 0)::.one (.onl 91 ap 7)::.one (.hol (.int IntKind.i64))::.one (.onl 91 ap 11)::.one (.hol (.int IntKind.i64))::ai (ai (ai (ai (dE (bJ (be []))))))),[none,some [.hol (.int IntKind.i32),.hol (.int IntKind.i8),.hol (.sl 196 am)],some [.hol (.int IntKind.i64),.hol (.int IntKind.i64),.hol .bool,.onl 5 (Ty.int IntKind.u8) 1032,.onl 91 ap 1034]]⟩,[(.exit 2,⟨(.any::.one (.ptr 1 0)::.one (.ptr 2 0)::.one (.onl 91 ap 7)::.one (.hol (.int IntKind.i64))::.one (.onl 91 ap 11)::.any::ai (ai (ai (ai (dE (bJ (be []))))))),[none,some [.hol (.int IntKind.i32),.hol (.int IntKind.i8),.hol (.sl 196 am)],some [.hol (.int IntKind.i64),.hol (.int IntKind.i64),.hol .bool,.onl 5 (Ty.int IntKind.u8) 1032,.onl 91 ap 1034]]⟩)]⟩
abbrev wz:Lo:=⟨⟨(.any::.one (.ptr 1 0)::.one (.ptr 2 0)::.one (.onl 91 ap 7)::.one (.hol (.int IntKind.i64))::ai (ai (ai (ai (ai []))))),[none,some [.hol (.int IntKind.i32),.hol (.int IntKind.i8),.hol (.sl 196 am)],some [.hol (.int IntKind.i64),.hol (.int IntKind.i64),.hol .bool,.onl 5 (Ty.int IntKind.u8) 1032,.onl 91 ap 1034]]⟩,[(.exit 0,⟨(.any::.one (.ptr 1 0)::.one (.ptr 2 0)::.one (.onl 91 ap 7)::.any::ai (ai (ai (ai (ai []))))),[none,some [.hol (.int IntKind.i32),.hol (.int IntKind.i8),.hol (.sl 196 am)],some [.hol (.int IntKind.i64),.hol (.int IntKind.i64),.hol .bool,.onl 5 (Ty.int IntKind.u8) 1032,.onl 91 ap 1034]]⟩)]⟩
def Zt (d:wC.st.den):Tr (ax wC.xs):=
 .ite ((decide ((0:Int)≤d.1.2.1)&&decide (d.1.2.1<(d.2.1.2.2.1.length:Int)))&&((decide (d.1.2.2.1.length=0)&&decide (d.1.2.2.2.1=0))&&decide ((d.2.1.2.2.1.getD d.1.2.1.toNat am.zero).2.1.length≤4294967296)))
  (.ret (.ret ((),((d.1.1,(d.1.2.1,((d.2.1.2.2.1.getD d.1.2.1.toNat am.zero).2.1.map DO,()))),(d.2.1,(d.2.2.1,())))))) .no
def Zs (d:wz.st.den):Tr (ax wz.xs):=
 .ite ((decide (d.1.1.length=0)&&decide (d.1.2.1=0))&&JI d.2.1.2.2.1)
  (.ret (.ret ((),((d.2.1.2.2.1.map ov,()),(d.2.1,(d.2.2.1,())))))) .no
abbrev zN:Lo:=⟨⟨(be (.one (.ptr 2 0)::.one (.ptr 3 0)::.one (.hol (.sl 91 ap))::.one (.hol (.int IntKind.i64))::.one (.ptr 6 0)::.one (.hol (.sl 91 ap))::.one (.hol (.int IntKind.i64))::ai (ai (ai (ai (ai (be []))))))),[none,none,some [.hol (.int IntKind.i32),.hol (.int IntKind.i8),.onl 196 am 1030],some [.hol (.int IntKind.i32),.hol (.int IntKind.i8),.onl 196 am 1542],none,none,some [.hol .str,.onl 198 bd 3076]]⟩,[(.exit 2,⟨(be (.one (.ptr 2 0)::.one (.ptr 3 0)::.one (.hol (.sl 91 ap))::.one (.hol (.int IntKind.i64))::.one (.ptr 6 0)::ai (ai (ai (ai (ai (bJ []))))))),[none,none,some [.hol (.int IntKind.i32),.hol (.int IntKind.i8),.onl 196 am 1030],some [.hol (.int IntKind.i32),.hol (.int IntKind.i8),.onl 196 am 1542],none,none,some [.hol .str,.onl 198 bd 3076]]⟩)]⟩
abbrev C6:Lo:=⟨⟨(be (.one (.ptr 2 0)::.one (.ptr 3 0)::.one (.hol (.sl 91 ap))::.one (.hol (.int IntKind.i64))::.any::ai (ai (ai (ai (ai (bJ []))))))),[none,none,some [.hol (.int IntKind.i32),.hol (.int IntKind.i8),.onl 196 am 1030],some [.hol (.int IntKind.i32),.hol (.int IntKind.i8),.onl 196 am 1542]]⟩,[(.exit 0,⟨(be (.one (.ptr 2 0)::.one (.ptr 3 0)::.any::ai (ai (ai (ai (ai (bJ (be [])))))))),[none,none,some [.hol (.int IntKind.i32),.hol (.int IntKind.i8),.onl 196 am 1030],some [.hol (.int IntKind.i32),.hol (.int IntKind.i8),.onl 196 am 1542]]⟩)]⟩
def aaR (d:zN.st.den):Tr (ax zN.xs):=
 .ite ((decide (d.1.2.2.2.1=0)&&decide (d.2.2.2.1.2.1.length=0))&&decide (aD d.1.2.2.1≤4294967296))
  (.ret (.ret ((),((d.1.1,(d.1.2.1,())),(d.2.1,(d.2.2.1,((d.2.2.2.1.1,(d.1.2.2.1.map Y6,())),()))))))) .no
def aa4 (d:C6.st.den):Tr (ax C6.xs):=
 .ite ((decide (d.1.2.1=0)&&decide (d.2.2.1.2.2.1.length=0))&&decide (aD d.1.1≤4294967296))
  (.ret (.ret ((),((),(d.2.1,((d.2.2.1.1,(d.2.2.1.2.1,(d.1.1.map aaA,()))),())))))) .no
@[irreducible] noncomputable def gt (v:Int)(m:dF.den):List Int×Int:=jO 2 false v (A6 m)
def V2 (v:Int)(p:bd.den):List Int×Int:=aU (aM p.1 4,0) (aU (if 3≤v∧v≤3 then (aM p.2.1 4,0) else ([],0)) (aU (aM p.2.2.1 8,0) (aU (if 0≤v∧v≤0 then (aM p.2.2.2.1 4,0) else ([],0)) ([],0))))
def V3 (v:Int)(t:am.den):List Int×Int:=aU (pI t.1) (aU (eY (V2 v) t.2.1) ([],0))
def aaH (v:Int)(m:dF.den):List Int×Int:=aU (aM m.1 4,0) (aU (if 2≤v∧v≤3 then (aM m.2.1 1,0) else ([],0)) (aU (eY (V3 v) m.2.2.1) (([],0))))
theorem Wri.oqP (v:Int)(p:bd.den):Wri (V2 v p) (mC v p):=(Wri.put p.1 4).seq ((Wri.hasE v 3 3 p.2.1 4).seq ((Wri.put p.2.2.1 8).seq ((Wri.hasE v 0 0 p.2.2.2.1 4).seq (Wri.nop))))
theorem Wri.oqT (v:Int)(t:am.den):Wri (V3 v t) (A9 v t):=(Wri.str _).seq ((Wri.items fun p hp=>Wri.oqP v p).seq Wri.nop)
abbrev ZC:Fd:=cE [112,97,114,116] 10 0 3 [cE [105,110,100,101,120] 3 0 3 [],cE [101,112,111,99,104] 3 3 3 [],cE [116,105,109,101] 4 0 3 [],cE [109,111,115,116] 3 0 0 []]
abbrev abj:Fd:=cE [116,111,112,105,99] 10 0 3 [cE [110,97,109,101] 5 0 3 [],cE [112,97,114,116,115] 9 0 3 [ZC]]
theorem Yl {v:Int}{p:bd.den}(hv:0≤v∧v≤3)(h:bd.wf p):t9 ZC v (DO p)=V2 v p:=by
 unfold DO V2
 rw[l7,bE (aK hv.1 hv.2),ld,bE (aK hv.1 hv.2),ld,cT,b8 (by decide) (w:=4) rfl (dy h.1),b8 (by decide) (w:=4) rfl (dy h.2.1),b8 (by decide) (w:=4) rfl (dy h.2.2.2.1),b8 (by decide) (w:=8) rfl (d9 p.2.2.1)]
 try rfl
theorem Ym {v:Int}{t:am.den}(hv:0≤v∧v≤3)(h:am.wf t):t9 abj v (ov t)=V3 v t:=by
 unfold ov V3
 rw[l7,bE (aK hv.1 hv.2),bE (aK hv.1 hv.2),cT,ua,iO,dk fun p hp=>Yl hv (h.2.1.2 p hp)]
def oG (v:Int)(p:bd.den):Bool:=(if 3≤v∧v≤3 then true else (p.2.1 == 0))&&((if 0≤v∧v≤0 then true else (p.2.2.2.1 == 0)))
theorem Qw {v:Int}{p:bd.den}(hv:0≤v∧v≤3):(aX ZC v (DO p)).2=oG v p:=by
 unfold DO oG
 rw[ig,bG (aK hv.1 hv.2),dT,bG (aK hv.1 hv.2),dT,fi,aS (by decide) (by decide),aS (by decide) (by decide),aS (by decide) (by decide),aS (by decide) (by decide),bU,bU]
 simp only[Bool.true_and,Bool.and_true]
theorem Qx {v:Int}{t:am.den}(hv:0≤v∧v≤3):(aX abj v (ov t)).2=t.2.1.all (oG v):=by
 unfold ov
 rw[ig,bG (aK hv.1 hv.2),bG (aK hv.1 hv.2),fi,aS (by decide) (by decide),e9]
 simp only[Qw hv,Bool.true_and,Bool.and_true]
theorem L9 (m:dF.den):dz t7 [aG 3 m.1,aG 1 m.2.1,bj (m.2.2.1.map ov)]:=by
 unfold t7 cr
 refine ay (aL (by decide) (by decide)) (ay (aL (by decide) (by decide)) (ay ?_ cx))
 refine dn _ _ fun t=>eH rfl (ay (aL (by decide) (by decide)) (ay ?_ cx))
 exact dn _ _ fun p=>eH rfl (ay (aL (by decide) (by decide)) (ay (aL (by decide) (by decide)) (ay (aL (by decide) (by decide)) (ay (aL (by decide) (by decide)) cx))))
def IK (v:Int)(m:dF.den):Bool:=(if 2≤v∧v≤3 then true else (m.2.1 == 0))&&((m.2.2.1.all fun t=>t.2.1.all (oG v)))
theorem QQ {e v:Int}{p:bd.den}:r8 v p (e,(false,([]:List Int)))=(ip e (oG v p),(false,[])):=by
 unfold r8 oG
 rw[cG,cG,cQ]
theorem A8 {v:Int}:∀{ps:List bd.den} {e:Int},ga v ps (e,(false,([]:List Int)))=(ip e (ps.all (oG v)),(false,[]))
 |[],e=>by rw[List.all_nil,ij];rfl
 |p::ps,e=>by
  show ga v ps (r8 v p (e,(false,[])))=_
  rw[QQ,A8,cQ,List.all_cons]
theorem DQ {v:Int}:∀{ts:List am.den} {e:Int},vJ v ts (e,(false,([]:List Int)))=(ip e (ts.all fun t=>t.2.1.all (oG v)),(false,[]))
 |[],e=>by rw[List.all_nil,ij];rfl
 |t::ts,e=>by
  show vJ v ts (ga v t.2.1 (e,(false,[])))=_
  rw[A8,DQ,cQ,List.all_cons]
theorem abd {v:Int}{m:dF.den}(hv:0≤v∧v≤3):(bu v t7 [aG 3 m.1,aG 1 m.2.1,bj (m.2.2.1.map ov)]).2=IK v m:=by
 unfold t7 cr IK
 rw[bG (aK hv.1 hv.2),dT,bG (aK hv.1 hv.2),fi,aS (by decide) (by decide),aS (by decide) (by decide),e9,bU]
 simp only[Qx hv,Bool.true_and,Bool.and_true,Bool.and_assoc]
theorem abN {v:Int}{m:dF.den}(hv:0≤v∧v≤3)(hm:dF.wf m):bZ v t7 [aG 3 m.1,aG 1 m.2.1,bj (m.2.2.1.map ov)]=aaH v m:=by
 unfold t7 cr aaH
 rw[bE (aK hv.1 hv.2),ld,bE (aK hv.1 hv.2),cT,b8 (by decide) (w:=4) rfl (dy hm.1),b8 (by decide) (w:=1) rfl (QB hm.2.1),iO,dk fun t ht=>Ym hv (hm.2.2.1.2 t ht)]
 try rfl
theorem Uo {v:Int}{m:dF.den}(hm:dF.wf m):(bP (ue v m),bw (ue v m))=gt v m:=by
 unfold gt A6
 rw[xN (t:=t7) rfl Vs rfl (L9 m)]
 unfold ue
 rw[cG,DQ,cQ]
 have hr:Wri (aaH v m) _:=(Wri.put m.1 4).seq ((Wri.hasE v 2 3 m.2.1 1).seq ((Wri.items fun t ht=>Wri.oqT v t).seq (Wri.nop)))
 refine (hr.done _).trans ?_
 unfold bc
 by_cases hv:v<0∨3<v
 ·rw[if_pos hv,if_pos hv]
  exact if_pos (by simp[ip])
 rw[if_neg hv,if_neg hv]
 have hv':0≤v∧v≤3:=by omega
 rw[abd hv',abN hv' hm]
 show (if ip 0 (IK v m)≠0 then _ else _)=_
 cases hz:IK v m
 ·exact (if_pos (by decide)).trans (show ([],ip 0 (IK v m))=_ by rw[hz];rfl)
 ·exact (if_neg (by decide)).trans (if_neg (by decide)).symm
abbrev tf:Io:=nF
def Mr (d:tf.In):Tr tf.Res:=.ret (.ret (((gt d.1.1 d.1.2.1).1,((gt d.1.1 d.1.2.1).2,())),()))
theorem T3:HcOk prog 45 (ah tf Mr):=by
 refine HcOk.weakW Xe ?_
 rintro ⟨⟨(v:Int),m,⟨⟩⟩,⟨⟩⟩ y hw hy
 rw[← hy]
 have h:=Uo (v:=v) (m:=m) hw.1.2.1
 show some (Out.ret ((bP (ue v m),(bw (ue v m),())),()))=some (Out.ret (((gt v m).1,((gt v m).2,())),()))
 rw[← h]
theorem DA {v:Int}{p:bd.den}(h:oG v p=true):(¬(3≤v∧v≤3)→p.2.1=0)∧(¬(0≤v∧v≤0)→p.2.2.2.1=0):=by
 unfold oG at h
 simp only[Bool.and_eq_true] at h
 exact ⟨fun hv=>by have h1:=h.1;rw[if_neg hv] at h1;simpa using h1,fun hv=>by have h1:=h.2;rw[if_neg hv] at h1;simpa using h1⟩
theorem Rd.oqP {b:List Int}{p:bd.den}{v:Int}(h:bd.wf p)(hk:oG v p=true):Rd b p (V2 v p) (li v b):=
 (Rd.seq (fun a r=>(a,r)) (Rd.num (dA h.1)) (Rd.seq (fun a r=>(a,r)) (Rd.opt (dA h.2.1) (DA hk).1) (Rd.seq (fun a r=>(a,r)) (Rd.num (eg h.2.2.1)) (Rd.seq (fun a r=>(a,r)) (Rd.opt (dA h.2.2.2.1) (DA hk).2) (Rd.nop b ()))))).congr fun s=>by unfold li;rfl
theorem Rd.oqT {b:List Int}{t:am.den}{v:Int}(h:am.wf t)(hk:t.2.1.all (oG v)=true):Rd b t (V3 v t) (lj v b):=
 (Rd.seq (fun a r=>(a,r)) (Rd.txt t.1) (Rd.seq (fun a r=>(a,r)) (Rd.list fun p hp=>Rd.oqP (h.2.1.2 p hp) (List.all_eq_true.1 hk p hp)) (Rd.nop b ()))).congr fun s=>by unfold lj gF;rfl
def AO (x:Int)(s:aW):aW:=ac x 8 s
def fj (xs:List Int)(s:aW):aW:=cB AO xs s
theorem Jq {s:aW}(x:Int)(h:s.2.2.length≤130048):(AO x s).2.2.length≤130048:=aA _ _ h
theorem Js {s:aW}(xs:List Int)(h:s.2.2.length≤130048):(fj xs s).2.2.length≤130048:=cY (fun x s=>Jq x) xs h
def jv (v lo hi:Int)(xs:List Int)(s:aW):aW:=if lo≤v∧v≤hi then fj xs s else s
theorem k9 {v lo hi:Int}{xs:List Int}{s:aW}(h:lo≤v∧v≤hi):jv v lo hi xs s=fj xs s:=by unfold jv;rw[if_pos h]
theorem jH {v lo hi:Int}{xs:List Int}{s:aW}(h:¬(lo≤v∧v≤hi)):jv v lo hi xs s=s:=by unfold jv;rw[if_neg h]
theorem LU {s:aW}(v lo hi:Int)(xs:List Int)(h:s.2.2.length≤130048):(jv v lo hi xs s).2.2.length≤130048:=by
 unfold jv
 split
 ·exact Js xs h
 ·exact h
abbrev E0 (v:Int)(s:aW):(Int×(Int×(Bool×Unit)))×((List Int×(Int×Unit))×Unit):=((v,(s.1,(s.2.1,()))),((s.2.2,(130048,())),()))
@[irreducible] noncomputable def aZ (b:List Int)(s:aN):List Int×aN:=jP (ae .i64 8 b) b s
theorem Jr {b:List Int}{s:aN}(h:au b s.2=true):au b (aZ b s).2.2=true:=by
 unfold aZ
 exact mZ (fun s h=>bF .i64 8 h) h
def cO (v lo hi:Int)(b:List Int)(s:aN):List Int×aN:=if bg v lo hi s.1=true then aZ b s else ([],s)
theorem Jj {v lo hi:Int}{b:List Int}{s:aN}(h:au b s.2=true):au b (cO v lo hi b s).2.2=true:=by
 unfold cO
 split
 ·exact Jr h
 ·exact h
theorem AE {v lo hi e:Int}(h:bg v lo hi e=true):lo≤v∧v≤hi:=by
 unfold bg at h
 split at h
 ·rename_i h';exact h'.2
 ·cases h
theorem AC {k:IntKind}{n:Nat}{v lo hi:Int}{b:List Int}(h:lo≤v∧v≤hi)(s:aN):av k n v lo hi b s=ae k n b s:=by
 unfold av bg
 by_cases he:s.1=0
 ·rw[if_pos (by rw[if_pos ⟨he,h⟩])]
 ·rw[if_neg (by rw[if_neg (fun hh=>he hh.1)];decide)]
  unfold ae;rw[if_neg he]
abbrev EV (v:Int)(b:List Int)(s:aN):(Int×(Int×Unit))×((List Int×(Int×Unit))×Unit):=((v,(s.1,())),((b,(s.2,())),()))
abbrev zu:Io:=⟨[.ptr 0 0,.dat (.sl 2 (.int .i64)) false false,.fnc 111 true [0]],rS,[],[],none⟩
def Zk (d:zu.In):Tr zu.Res:=.ite (fB d.2) (.ret (.ret ((),ch d.2.1.2.1 (fj d.1.2.1 (fC d.2))))) .no
abbrev Sc:List (Nat×Hc):=[(194,ah cJ gI),(98,ah dd gT),(111,ah kI xX)]
def YQ:Hd:=bz Sc
abbrev j9:Lo:=⟨⟨[.any,.any,.one (.fnp 111 true [0]),.any,.any,.any,.any,.any,.any,.any,.any,.any,.any,.any,.any,.any,.any,.any,.one (.hol (.sl 2 (Ty.int IntKind.i64))),.one (.hol (.int IntKind.i64)),.one (.hol (.int IntKind.i64)),.any,.any,.any,.any,.any,.any,.any],[some [.ptr 1 0,.hol (.int IntKind.i64),.hol (.int IntKind.i64),.hol .bool],some [.onl 5 (Ty.int IntKind.u8) 514,.hol (.int IntKind.i64)]]⟩,[(.exit 0,⟨(ai (dE (bJ []))),[some [.ptr 1 0,.hol (.int IntKind.i64),.hol (.int IntKind.i64),.hol .bool],some [.onl 5 (Ty.int IntKind.u8) 514,.hol (.int IntKind.i64)]]⟩)]⟩
def xY (d:j9.st.den):Tr (ax j9.xs):=
 .ite (decide (d.1.2.2.1=0)&&(decide (d.1.2.1=(d.1.1.length:Int))&&(decide (d.2.2.1.2.1=130048)&&decide (d.2.2.1.1.length≤130048)))) (.ret (.ret ((),((),E0 d.2.1.1 (d.1.1.foldl (fun s x=>AO x s) (d.2.1.2.1,(d.2.1.2.2.1,d.2.2.1.1))))))) .no
def NG:Lp:=bo [(5,aP j9 xY)]
def D0 {R:Type}(h6:List Int)(h7 h8 h9 h10:Int)(h11:Bool)(h12:List Int)(h13:Int)(next:List Int→Int→Int→Int→Int→Bool→List Int→Int→Option R)(out:ax j9.xs→Option R):Option R:=bif decide (h8<h7) then bif decide (0≤h8)&&decide (h8<(↑h6.length:Int)) then bif decide (h13=130048)&&decide (h12.length≤130048) then next (h6) (h7) (IntKind.i64.wrap (h8+1)) (h9) ((ac (h6.getD h8.toNat 0) 8 (h10,h11,h12)).1) ((ac (h6.getD h8.toNat 0) 8 (h10,h11,h12)).2.1) ((ac (h6.getD h8.toNat 0) 8 (h10,h11,h12)).2.2) (130048) else none else none else out (.ret ((),((),((h9,(h10,(h11,()))),((h12,(h13,())),())))))
def Ff (n:Nat)(h6:List Int)(h7 h8 h9 h10:Int)(h11:Bool)(h12:List Int)(h13:Int):Option (ax j9.xs):=gk tt YQ dr NG 2 Tryz.f135 (cI Tryz.f135 0) n (j9.st.mk' ((h6,(h7,(h8,()))),((h9,(h10,(h11,()))),((h12,(h13,())),())))) (bI j9.xs)
theorem X7 (n:Nat)(h6:List Int)(h7 h8 h9 h10:Int)(h11:Bool)(h12:List Int)(h13:Int):Ff (n+1) h6 h7 h8 h9 h10 h11 h12 h13=D0 h6 h7 h8 h9 h10 h11 h12 h13 (Ff n) some:=by kernel_rfl
theorem WY {xs:List Int}(v:Int)(hl:xs.length≤maxLen):∀(k i:Nat) (s:aW),xs.length<i+k→i≤xs.length→s.2.2.length≤130048→
  Ff k xs (xs.length:Int) i v s.1 s.2.1 s.2.2 130048=some (.ret ((),((),E0 v ((xs.drop i).foldl (fun s x=>AO x s) s)))):=by
 intro k
 induction k with
 |zero=>intro i s h;omega
 |succ k ih=>
  intro i s h1 h2 h3
  rw[X7]
  unfold D0
  by_cases hi:i<xs.length
  ·refine (aa (decide_eq_true (show (i:Int)<(xs.length:Int) by omega)) _ _).trans ?_
   refine (aa (by simpa using hi) _ _).trans ?_
   simp only[Int.toNat_natCast,aH hi,bb hi hl]
   have g:(decide ((130048:Int)=130048)&&decide (s.2.2.length≤130048))=true:=by
    simpa using h3
   refine (aa g _ _).trans ?_
   rw[List.drop_eq_getElem_cons hi]
   exact ih (i+1) (AO xs[i] s) (by omega) (by omega) (Jq _ h3)
  ·refine (ab (by simp;omega) _ _).trans ?_
   rw[List.drop_of_length_le (by omega)]
   rfl
def MF (a0:List Int)(a1 a2:Int)(a3:Bool)(a4:List Int)(a5:Int):Option zu.Res:=bif decide (16<(↑a0.length:Int)) then bif decide (a5=130048)&&decide (a4.length≤130048) then some (Out.ret ((),((),a1,(bv 9 (a2,a3,a4)).1,(bv 9 (a2,a3,a4)).2.1,()),((bv 9 (a2,a3,a4)).2.2,130048,()),())) else none else bif decide (a5=130048)&&decide (a4.length≤130048) then (xY ((a0,((↑a0.length:Int),(0,()))),((a1,((ac (IntKind.i32.wrap (↑a0.length:Int)) 4 (a2,a3,a4)).1,((ac (IntKind.i32.wrap (↑a0.length:Int)) 4 (a2,a3,a4)).2.1,()))),(((ac (IntKind.i32.wrap (↑a0.length:Int)) 4 (a2,a3,a4)).2.2,(130048,())),())))).run fun y=>match y with | .ret ((),((),(x27,x28,x29,()),(x30,x31,()),()))=>(some (Out.ret ((),((),x27,x28,x29,()),(x30,x31,()),()))) else none
theorem aao (a0:List Int)(a1 a2:Int)(a3:Bool)(a4:List Int)(a5:Int):Io.run tt YQ dr NG zu Tryz.f135 (((),a0,(),()),((),a1,a2,a3,()),(a4,a5,()),())=MF a0 a1 a2 a3 a4 a5:=by kernel_rfl
theorem abC:HcOk prog 135 (ah zu Zk):=by
 refine aj (n:=400) hm (cs:=Sc) (.cons fv (.cons cF (.cons vo .nil))) (lp:=NG) (fn:=Tryz.f135) (by kernel_rfl) (by kernel_rfl) (by kernel_rfl) zu (.step (h0:=aP j9 xY) (by kernel_rfl) (aw (n:=400) hm (cs:=Sc) (.cons fv (.cons cF (.cons vo .nil))) (lp:=NG) (fn:=Tryz.f135) (.done (by kernel_rfl)) j9 xY ?_) (.done (by kernel_rfl))) Zk ?_
 ·rintro ⟨⟨(xs:List Int),(n:Int),(i:Int),⟨⟩⟩,⟨⟨(v:Int),(e:Int),(f:Bool),⟨⟩⟩,⟨(b:List Int),(m:Int),⟨⟩⟩,⟨⟩⟩⟩ y hw hy
  obtain ⟨hg,hy⟩:=Tr.guard hy
  simp only[Bool.and_eq_true,decide_eq_true_eq] at hg
  obtain ⟨rfl,rfl,rfl,h4⟩:=hg
  have h4:b.length≤130048:=h4
  have hl:xs.length≤maxLen:=hw.1.1.1
  refine ⟨xs.length+1,(WY v hl (xs.length+1) 0 (e,(f,b)) (by omega) (by omega) h4).trans ?_⟩
  rw[← hy];rfl
 ·rintro ⟨⟨⟨⟩,(xs:List Int),⟨⟩,⟨⟩⟩,⟨⟨⟩,(v:Int),(e:Int),(f:Bool),⟨⟩⟩,⟨(b:List Int),(m:Int),⟨⟩⟩,⟨⟩⟩ out hw ho
  obtain ⟨hg,ho⟩:=Tr.guard ho
  obtain ⟨rfl,hb⟩:=bx (v:=v) (e:=e) (f:=f) hg
  cases ho
  refine (aao xs v e f b 130048).trans ?_
  unfold MF
  have g:(decide ((130048:Int)=130048)&&decide (b.length≤130048))=true:=by simpa using hb
  show _=some (Out.ret ((),ch v (cB (AO) xs (e,f,b))))
  unfold cB
  by_cases h:16<(xs.length:Int)
  ·rw[if_pos h]
   refine (aa (decide_eq_true h) _ _).trans ?_
   exact aa g _ _
  ·rw[if_neg h]
   refine (ab (decide_eq_false h) _ _).trans ?_
   refine (aa g _ _).trans ?_
   have hw32:IntKind.i32.wrap (xs.length:Int)=xs.length:=dD (by simp[eE,IntKind.min,IntKind.max,IntKind.signed,IntKind.bits];omega)
   rw[hw32]
   have c1:(decide ((0:Int)=0)&&(decide ((xs.length:Int)=(xs.length:Int))&&(decide ((130048:Int)=130048)&&decide ((ac xs.length 4 (e,f,b)).2.2.length≤130048))))=true:=by
    simpa using aA (s:=(e,f,b)) _ 4 hb
   have e1:xY ((xs,((xs.length:Int),(0,()))),((v,((ac xs.length 4 (e,f,b)).1,((ac xs.length 4 (e,f,b)).2.1,()))),(((ac xs.length 4 (e,f,b)).2.2,(130048,())),())))=
     .ite true (.ret (.ret ((),((),E0 v (xs.foldl (fun s x=>AO x s) (ac xs.length 4 (e,f,b))))))) .no:=congrArg (fun c=>Tr.ite c _ _) c1
   rw[e1]
   rfl
abbrev zq:Io:=⟨[.ptr 0 0,.fnc 156 true [0]],oN,[],[.dat (.sl 2 (.int .i64)) false false],none⟩
def Zh (d:zq.In):Tr zq.Res:=.ite (au d.2.2.1.1 d.2.2.1.2.1) (.ret (.ret (((aZ d.2.2.1.1 (eG d.2)).1,()),dc d.2.1.2.1 d.2.2.1.1 (aZ d.2.2.1.1 (eG d.2)).2))) .no
abbrev RY:List (Nat×Hc):=[(143,ah fF mG),(156,ah nw Gs)]
def YP:Hd:=bz RY
abbrev iD:Lo:=⟨⟨[.one (.ptr 0 0),.one (.fnp 156 true [0]),.any,.any,.any,.one (.hol (.int IntKind.i32)),.one (.onl 2 (Ty.int IntKind.i64) 17),.one (.hol (.int IntKind.i32)),.any,.any,.any,.any,.any,.any,.any,.any,.any,.any,.any,.any,.any,.any,.any,.any,.any,.any,.any,.any,.any,.any,.any,.any,.any,.any,.any,.any,.any,.any,.any,.any,.any,.any,.any,.any,.any,.any],[some [.ptr 1 0,.hol (.int IntKind.i64),.hol (.int IntKind.i64)],some [.hol (.sl 5 (Ty.int IntKind.u8)),.hol (.int IntKind.i64)]]⟩,[(.exit 1,⟨(bJ (be (.one (.onl 2 (Ty.int IntKind.i64) 17)::.any::ai (ai (bJ (be [])))))),[some [.ptr 1 0,.hol (.int IntKind.i64),.hol (.int IntKind.i64)],some [.hol (.sl 5 (Ty.int IntKind.u8)),.hol (.int IntKind.i64)]]⟩)]⟩
def gv (d:iD.st.den):Tr (ax iD.xs):=
 .ite (decide (d.1.2.2.1=0)&&(decide (d.1.2.1.length=0)&&(au d.2.2.1.1 d.2.2.1.2.1&&(decide (d.1.1≤(16:Int)) || decide (d.2.1.2.1≠0))))) (.ret (.ret ((),(((dX (ae .i64 8 d.2.2.1.1) d.1.1.toNat (d.2.1.2.1,d.2.2.1.2.1)).1,()),EV d.2.1.1 d.2.2.1.1 (dX (ae .i64 8 d.2.2.1.1) d.1.1.toNat (d.2.1.2.1,d.2.2.1.2.1)).2)))) .no
def NA:Lp:=bo [(10,aP iD gv)]
def Bh {R:Type}(h4:Int)(h5:List Int)(h6 h7 h8:Int)(h9:List Int)(h10:Int)(next:Int→List Int→Int→Int→Int→List Int→Int→Option R)(out:ax iD.xs→Option R):Option R:=bif decide (h6<h4) then bif h8 == 0 then bif au h9 h10 then bif decide (h5.length+1≤4294967296) then next (h4) (h5++[(ae IntKind.i64 8 h9 (h8,h10)).1]) (IntKind.i32.wrap (h6+1)) (h7) ((ae IntKind.i64 8 h9 (h8,h10)).2.1) (h9) ((ae IntKind.i64 8 h9 (h8,h10)).2.2) else none else none else out (.ret ((),((h5,()),((h7,(h8,())),((h9,(h10,())),()))))) else out (.ret ((),((h5,()),((h7,(h8,())),((h9,(h10,())),())))))
def zB (n:Nat)(h4:Int)(h5:List Int)(h6 h7 h8:Int)(h9:List Int)(h10:Int):Option (ax iD.xs):=gk tt YP dr NA 2 Tryz.f179 (cI Tryz.f179 0) n (iD.st.mk' ((h4,(h5,(h6,()))),((h7,(h8,())),((h9,(h10,())),())))) (bI iD.xs)
theorem Vc (n:Nat)(h4:Int)(h5:List Int)(h6 h7 h8:Int)(h9:List Int)(h10:Int):zB (n+1) h4 h5 h6 h7 h8 h9 h10=Bh h4 h5 h6 h7 h8 h9 h10 (zB n) some:=by kernel_rfl
theorem WX (n v:Int)(b:List Int):∀(k j:Nat) (xs:List Int) (s:aN),n.toNat<j+k→j≤n.toNat→xs.length=j→au b s.2=true→(s.1=0→n≤16)→
  zB k n xs j v s.1 b s.2=some (.ret ((),((xs++(dX (ae .i64 8 b) (n.toNat - j) s).1,()),EV v b (dX (ae .i64 8 b) (n.toNat - j) s).2))):=by
 intro k
 induction k with
 |zero=>intro j xs s h;omega
 |succ k ih=>
  intro j xs s h1 h2 h3 h4 h5
  rw[Vc]
  unfold Bh
  by_cases hj:(j:Int)<n
  ·refine (aa (by simpa using hj) _ _).trans ?_
   obtain ⟨m,hm⟩:∃m,n.toNat - j=m+1:=⟨n.toNat - j - 1,by omega⟩
   rw[hm]
   by_cases he:s.1=0
   ·refine (aa (by simpa using he) _ _).trans ?_
    have hn:=h5 he
    refine (aa h4 _ _).trans ?_
    refine (aa (decide_eq_true (show xs.length+1≤4294967296 by omega)) _ _).trans ?_
    have hw:IntKind.i32.wrap ((j:Int)+1)=((j+1:Nat):Int):=dD (by simp[eE,IntKind.min,IntKind.max,IntKind.signed,IntKind.bits];omega)
    rw[hw]
    refine (ih (j+1) (xs++[(ae .i64 8 b s).1]) (ae .i64 8 b s).2 (by omega) (by omega) (by simp[h3]) (bF .i64 8 h4) (fun _=>hn)).trans ?_
    rw[show n.toNat - (j+1)=m by omega,dX,if_pos he]
    simp
   ·refine (ab (by simpa using he) _ _).trans ?_
    rw[dX,if_neg he]
    simp
  ·refine (ab (by simpa using hj) _ _).trans ?_
   rw[show n.toNat - j=0 by omega,dX]
   simp
def MD (a0 a1:Int)(a2:List Int)(a3:Int):Option zq.Res:=bif au a2 a3 then bif (ae IntKind.i32 4 a2 (a1,a3)).2.1 != 0 then (gv (((ae IntKind.i32 4 a2 (a1,a3)).1,([],(0,()))),((a0,((ae IntKind.i32 4 a2 (a1,a3)).2.1,())),((a2,((ae IntKind.i32 4 a2 (a1,a3)).2.2,())),())))).run fun y=>match y with | .ret ((),((x28,()),(x29,x30,()),(x31,x32,()),()))=>(some (Out.ret ((x28,()),((),x29,x30,()),(x31,x32,()),()))) else bif decide ((ae IntKind.i32 4 a2 (a1,a3)).1<0) then (gv (((ae IntKind.i32 4 a2 (a1,a3)).1,([],(0,()))),((a0,(5,())),((a2,((ae IntKind.i32 4 a2 (a1,a3)).2.2,())),())))).run fun y=>match y with | .ret ((),((x40,()),(x41,x42,()),(x43,x44,()),()))=>(some (Out.ret ((x40,()),((),x41,x42,()),(x43,x44,()),()))) else bif decide (16<(ae IntKind.i32 4 a2 (a1,a3)).1) then (gv (((ae IntKind.i32 4 a2 (a1,a3)).1,([],(0,()))),((a0,(9,())),((a2,((ae IntKind.i32 4 a2 (a1,a3)).2.2,())),())))).run fun y=>match y with | .ret ((),((x52,()),(x53,x54,()),(x55,x56,()),()))=>(some (Out.ret ((x52,()),((),x53,x54,()),(x55,x56,()),()))) else (gv (((ae IntKind.i32 4 a2 (a1,a3)).1,([],(0,()))),((a0,((ae IntKind.i32 4 a2 (a1,a3)).2.1,())),((a2,((ae IntKind.i32 4 a2 (a1,a3)).2.2,())),())))).run fun y=>match y with | .ret ((),((x64,()),(x65,x66,()),(x67,x68,()),()))=>(some (Out.ret ((x64,()),((),x65,x66,()),(x67,x68,()),()))) else none
theorem aal (a0 a1:Int)(a2:List Int)(a3:Int):Io.run tt YP dr NA zq Tryz.f179 (((),(),()),((),a0,a1,()),(a2,a3,()),())=MD a0 a1 a2 a3:=by kernel_rfl
theorem abA:HcOk prog 179 (ah zq Zh):=by
 refine aj (n:=400) hm (cs:=RY) (.cons jL (.cons FJ .nil)) (lp:=NA) (fn:=Tryz.f179) (by kernel_rfl) (by kernel_rfl) (by kernel_rfl) zq (.step (h0:=aP iD gv) (by kernel_rfl) (aw (n:=400) hm (cs:=RY) (.cons jL (.cons FJ .nil)) (lp:=NA) (fn:=Tryz.f179) (.done (by kernel_rfl)) iD gv ?_) (.done (by kernel_rfl))) Zh ?_
 ·rintro ⟨⟨(n:Int),(xs:List Int),(i:Int),⟨⟩⟩,⟨⟨(v:Int),(e:Int),⟨⟩⟩,⟨(b:List Int),(p:Int),⟨⟩⟩,⟨⟩⟩⟩ y hw hy
  obtain ⟨hg,hy⟩:=Tr.guard hy
  simp only[Bool.and_eq_true,decide_eq_true_eq,Bool.or_eq_true] at hg
  obtain ⟨h1,h2,h3,h4⟩:=hg
  have h1:i=0:=h1
  have h2:xs=[]:=List.eq_nil_of_length_eq_zero h2
  have h3:au b p=true:=h3
  have h4:n≤16∨e≠0:=h4
  subst h1
  subst h2
  refine ⟨n.toNat+1,(WX n v b (n.toNat+1) 0 [] (e,p) (by omega) (by omega) rfl h3 (fun he=>h4.resolve_right (fun h=>h he))).trans ?_⟩
  rw[← hy];rfl
 ·rintro ⟨⟨⟨⟩,⟨⟩,⟨⟩⟩,⟨⟨⟩,(v:Int),(e:Int),⟨⟩⟩,⟨(b:List Int),(p:Int),⟨⟩⟩,⟨⟩⟩ out hw ho
  obtain ⟨hg,ho⟩:=Tr.guard ho
  have hg:au b p=true:=hg
  cases ho
  refine (aal v e b p).trans ?_
  unfold MD
  show _=some (Out.ret (((aZ b (e,p)).1,()),dc v b (aZ b (e,p)).2))
  unfold aZ jP
  refine (aa hg _ _).trans ?_
  have hr:au b (ae .i32 4 b (e,p)).2.2=true:=bF .i32 4 (s:=(e,p)) hg
  generalize ae .i32 4 b (e,p)=r at hr ⊢
  obtain ⟨n,e1,q⟩:=r
  have hr:au b q=true:=hr
  have key:∀e':Int,(e'=0→n≤16)→gv ((n,([],(0,()))),((v,(e',())),((b,(q,())),())))=.ite true (.ret (.ret ((),(((dX (ae .i64 8 b) n.toNat (e',q)).1,()),EV v b (dX (ae .i64 8 b) n.toNat (e',q)).2)))) .no:=by
   intro e' he
   refine congrArg (fun c=>Tr.ite c _ _) ?_
   show (decide ((0:Int)=0)&&(decide (([]:List Int).length=0)&&(au b q&&(decide (n≤16) || decide (e'≠0)))))=true
   rw[hr]
   by_cases h:e'=0
   ·simp[he h]
   ·simp[h]
  unfold pF
  show (bif e1 != 0 then _ else _)=_
  by_cases h1:e1=0
  ·refine (ab (by simpa using h1) _ _).trans ?_
   show (bif decide (n<0) then _ else _)=_
   rw[if_pos h1]
   by_cases h2:n<0
   ·refine (aa (by simpa using h2) _ _).trans ?_
    show (gv ((n,([],(0,()))),((v,(5,())),((b,(q,())),())))).run _=_
    rw[key 5 (by omega),if_pos h2]
    rfl
   ·refine (ab (by simpa using h2) _ _).trans ?_
    show (bif decide (16<n) then _ else _)=_
    rw[if_neg h2]
    by_cases h3:16<n
    ·refine (aa (by simpa using h3) _ _).trans ?_
     show (gv ((n,([],(0,()))),((v,(9,())),((b,(q,())),())))).run _=_
     rw[key 9 (by omega),if_pos h3]
     rfl
    ·refine (ab (by simpa using h3) _ _).trans ?_
     show (gv ((n,([],(0,()))),((v,(e1,())),((b,(q,())),())))).run _=_
     rw[key e1 (by omega),if_neg h3]
     rfl
  ·refine (aa (by simpa using h1) _ _).trans ?_
   show (gv ((n,([],(0,()))),((v,(e1,())),((b,(q,())),())))).run _=_
   rw[key e1 (fun h=>absurd h h1),if_neg h1]
   rfl
abbrev aF:Ty:=.prod (.int .i32) (.prod (.int .i16) (.prod (.sl 2 (.int .i64)) (.prod (.int .i64) (.prod (.int .i64) (.prod (.int .i32) .unit)))))
abbrev af:Ty:=.prod .str (.prod (.sl 233 aF) .unit)
abbrev bN:Ty:=.prod (.int .i32) (.prod (.sl 230 af) .unit)
def iQ (v:Int)(p:aF.den)(s:aW):aW:=cb v 3 3 p.2.2.2.2.2.1 4 (cb v 1 3 p.2.2.2.2.1 8 (cb v 1 3 p.2.2.2.1 8 (jv v 0 0 p.2.2.1 (ac p.2.1 2 (ac p.1 4 (s))))))
theorem DX {s:aW}(v:Int)(p:aF.den)(h:s.2.2.length≤130048):(iQ v p s).2.2.length≤130048:=
 f7 _ _ _ _ _ (f7 _ _ _ _ _ (f7 _ _ _ _ _ (LU _ _ _ _ (aA _ _ (aA _ _ (h))))))
abbrev kL:Io:=⟨[.dat aF true false,.ptr 0 0],tH,[],[],none⟩
def Ei (d:kL.In):Tr kL.Res:=.ite (fB d.2.2) (.ret (.ret ((),gz d.2.2.1.2.1 (iQ d.2.2.1.2.1 d.1.1 (fC d.2.2))))) .no
abbrev Ht:List (Nat×Hc):=[(97,ah mj BQ),(98,ah dd gT),(111,ah kI xX),(135,ah zu Zk),(95,ah iv qN)]
def SP:Hd:=bz Ht
def Iq:Lp:=bo []
def yD (a0 a1:Int)(a2:List Int)(a3 a4 a5 a6 a7:Int)(a8:Bool)(a9:List Int)(a10:Int):Option kL.Res:=bif decide (a10=130048)&&decide (a9.length≤130048) then bif decide (130048=130048)&&decide ((ac a0 4 (a7,a8,a9)).2.2.length≤130048) then bif decide (130048=130048)&&decide ((ac a1 2 (ac a0 4 (a7,a8,a9))).2.2.length≤130048) then bif decide (0≤a6)&&decide (a6≤0) then bif decide (130048=130048)&&decide ((ac a1 2 (ac a0 4 (a7,a8,a9))).2.2.length≤130048) then bif decide (130048=130048)&&decide ((fj a2 (ac a1 2 (ac a0 4 (a7,a8,a9)))).2.2.length≤130048) then bif decide (1≤a6)&&decide (a6≤3) then bif decide (130048=130048)&&decide ((fj a2 (ac a1 2 (ac a0 4 (a7,a8,a9)))).2.2.length≤130048) then bif decide (130048=130048)&&decide ((ac a3 8 (fj a2 (ac a1 2 (ac a0 4 (a7,a8,a9))))).2.2.length≤130048) then bif decide (130048=130048)&&decide ((ac a4 8 (ac a3 8 (fj a2 (ac a1 2 (ac a0 4 (a7,a8,a9)))))).2.2.length≤130048) then bif decide (3≤a6)&&decide (a6≤3) then bif decide (130048=130048)&&decide ((ac a4 8 (ac a3 8 (fj a2 (ac a1 2 (ac a0 4 (a7,a8,a9)))))).2.2.length≤130048) then some (Out.ret ((),((),()),((),a6,(ac a5 4 (ac a4 8 (ac a3 8 (fj a2 (ac a1 2 (ac a0 4 (a7,a8,a9))))))).1,(ac a5 4 (ac a4 8 (ac a3 8 (fj a2 (ac a1 2 (ac a0 4 (a7,a8,a9))))))).2.1,()),((ac a5 4 (ac a4 8 (ac a3 8 (fj a2 (ac a1 2 (ac a0 4 (a7,a8,a9))))))).2.2,130048,()),())) else none else some (Out.ret ((),((),()),((),a6,(ac a4 8 (ac a3 8 (fj a2 (ac a1 2 (ac a0 4 (a7,a8,a9)))))).1,(ac a4 8 (ac a3 8 (fj a2 (ac a1 2 (ac a0 4 (a7,a8,a9)))))).2.1,()),((ac a4 8 (ac a3 8 (fj a2 (ac a1 2 (ac a0 4 (a7,a8,a9)))))).2.2,130048,()),())) else none else none else none else bif decide (130048=130048)&&decide ((fj a2 (ac a1 2 (ac a0 4 (a7,a8,a9)))).2.2.length≤130048) then bif decide (3≤a6)&&decide (a6≤3) then bif decide (130048=130048)&&decide ((fj a2 (ac a1 2 (ac a0 4 (a7,a8,a9)))).2.2.length≤130048) then some (Out.ret ((),((),()),((),a6,(ac a5 4 (fj a2 (ac a1 2 (ac a0 4 (a7,a8,a9))))).1,(ac a5 4 (fj a2 (ac a1 2 (ac a0 4 (a7,a8,a9))))).2.1,()),((ac a5 4 (fj a2 (ac a1 2 (ac a0 4 (a7,a8,a9))))).2.2,130048,()),())) else none else some (Out.ret ((),((),()),((),a6,(fj a2 (ac a1 2 (ac a0 4 (a7,a8,a9)))).1,(fj a2 (ac a1 2 (ac a0 4 (a7,a8,a9)))).2.1,()),((fj a2 (ac a1 2 (ac a0 4 (a7,a8,a9)))).2.2,130048,()),())) else none else none else none else bif decide (130048=130048)&&decide ((ac a1 2 (ac a0 4 (a7,a8,a9))).2.2.length≤130048) then bif decide (1≤a6)&&decide (a6≤3) then bif decide (130048=130048)&&decide ((ac a1 2 (ac a0 4 (a7,a8,a9))).2.2.length≤130048) then bif decide (130048=130048)&&decide ((ac a3 8 (ac a1 2 (ac a0 4 (a7,a8,a9)))).2.2.length≤130048) then bif decide (130048=130048)&&decide ((ac a4 8 (ac a3 8 (ac a1 2 (ac a0 4 (a7,a8,a9))))).2.2.length≤130048) then bif decide (3≤a6)&&decide (a6≤3) then bif decide (130048=130048)&&decide ((ac a4 8 (ac a3 8 (ac a1 2 (ac a0 4 (a7,a8,a9))))).2.2.length≤130048) then some (Out.ret ((),((),()),((),a6,(ac a5 4 (ac a4 8 (ac a3 8 (ac a1 2 (ac a0 4 (a7,a8,a9)))))).1,(ac a5 4 (ac a4 8 (ac a3 8 (ac a1 2 (ac a0 4 (a7,a8,a9)))))).2.1,()),((ac a5 4 (ac a4 8 (ac a3 8 (ac a1 2 (ac a0 4 (a7,a8,a9)))))).2.2,130048,()),())) else none else some (Out.ret ((),((),()),((),a6,(ac a4 8 (ac a3 8 (ac a1 2 (ac a0 4 (a7,a8,a9))))).1,(ac a4 8 (ac a3 8 (ac a1 2 (ac a0 4 (a7,a8,a9))))).2.1,()),((ac a4 8 (ac a3 8 (ac a1 2 (ac a0 4 (a7,a8,a9))))).2.2,130048,()),())) else none else none else none else bif decide (130048=130048)&&decide ((ac a1 2 (ac a0 4 (a7,a8,a9))).2.2.length≤130048) then bif decide (3≤a6)&&decide (a6≤3) then bif decide (130048=130048)&&decide ((ac a1 2 (ac a0 4 (a7,a8,a9))).2.2.length≤130048) then some (Out.ret ((),((),()),((),a6,(ac a5 4 (ac a1 2 (ac a0 4 (a7,a8,a9)))).1,(ac a5 4 (ac a1 2 (ac a0 4 (a7,a8,a9)))).2.1,()),((ac a5 4 (ac a1 2 (ac a0 4 (a7,a8,a9)))).2.2,130048,()),())) else none else some (Out.ret ((),((),()),((),a6,(ac a1 2 (ac a0 4 (a7,a8,a9))).1,(ac a1 2 (ac a0 4 (a7,a8,a9))).2.1,()),((ac a1 2 (ac a0 4 (a7,a8,a9))).2.2,130048,()),())) else none else none else none else none else none
theorem PS (a0 a1:Int)(a2:List Int)(a3 a4 a5 a6 a7:Int)(a8:Bool)(a9:List Int)(a10:Int):Io.run tt SP dr Iq kL Tryz.f134 (((a0,a1,a2,a3,a4,a5,()),(),()),((),()),((),a6,a7,a8,()),(a9,a10,()),())=yD a0 a1 a2 a3 a4 a5 a6 a7 a8 a9 a10:=by kernel_rfl
theorem T7:HcOk prog 134 (ah kL Ei):=by
 refine aj (n:=400) hm (cs:=Ht) (.cons FM (.cons cF (.cons vo (.cons abC (.cons gg .nil))))) (lp:=Iq) (fn:=Tryz.f134) (by kernel_rfl) (by kernel_rfl) (by kernel_rfl) kL (.done (by kernel_rfl)) Ei ?_
 rintro ⟨⟨⟨(ix:Int),(cd:Int),(of:List Int),(ti:Int),(fo:Int),(ep:Int),⟨⟩⟩,⟨⟩,⟨⟩⟩,⟨⟨⟩,⟨⟩⟩,⟨⟨⟩,(v:Int),(e:Int),(f:Bool),⟨⟩⟩,⟨(b:List Int),(m:Int),⟨⟩⟩,⟨⟩⟩ out hw ho
 obtain ⟨hg,ho⟩:=Tr.guard ho
 obtain ⟨rfl,hb⟩:=bx (v:=v) (e:=e) (f:=f) hg
 cases ho
 refine (PS ix cd of ti fo ep v e f b 130048).trans ?_
 unfold yD
 have hg:∀s:aW,s.2.2.length≤130048→(decide ((130048:Int)=130048)&&decide (s.2.2.length≤130048))=true:=fun s h=>by simpa using h
 have hb:(e,(f,b)).2.2.length≤130048:=hb
 show _=some (Out.ret ((),gz v (iQ v (ix,(cd,(of,(ti,(fo,(ep,())))))) (e,f,b))))
 refine (aa (hg _ hb) _ _).trans ?_
 have l0_1:=aA ix 4 hb
 refine (aa (hg _ l0_1) _ _).trans ?_
 have l1_1:=aA cd 2 l0_1
 refine (aa (hg _ l1_1) _ _).trans ?_
 by_cases h2_1:0≤v∧v≤0
 ·refine (aa (by simpa using h2_1) _ _).trans ?_
  refine (aa (hg _ l1_1) _ _).trans ?_
  have l2_1:=Js of l1_1
  refine (aa (hg _ l2_1) _ _).trans ?_
  by_cases h3_2:1≤v∧v≤3
  ·refine (aa (by simpa using h3_2) _ _).trans ?_
   refine (aa (hg _ l2_1) _ _).trans ?_
   have l3_2:=aA ti 8 l2_1
   refine (aa (hg _ l3_2) _ _).trans ?_
   have l4_3:=aA fo 8 l3_2
   refine (aa (hg _ l4_3) _ _).trans ?_
   by_cases h5_3:3≤v∧v≤3
   ·refine (aa (by simpa using h5_3) _ _).trans ?_
    refine (aa (hg _ l4_3) _ _).trans ?_
    have l5_3:=aA ep 4 l4_3
    simp only[iQ,k9 h2_1,bA h3_2,bA h3_2,bA h5_3]
   ·refine (ab (Bool.eq_false_iff.2 fun h'=>h5_3 (by simpa using h')) _ _).trans ?_
    simp only[iQ,k9 h2_1,bA h3_2,bA h3_2,bh h5_3]
  ·refine (ab (Bool.eq_false_iff.2 fun h'=>h3_2 (by simpa using h')) _ _).trans ?_
   refine (aa (hg _ l2_1) _ _).trans ?_
   by_cases h5_3:3≤v∧v≤3
   ·refine (aa (by simpa using h5_3) _ _).trans ?_
    refine (aa (hg _ l2_1) _ _).trans ?_
    have l5_3:=aA ep 4 l2_1
    simp only[iQ,k9 h2_1,bh h3_2,bh h3_2,bA h5_3]
   ·refine (ab (Bool.eq_false_iff.2 fun h'=>h5_3 (by simpa using h')) _ _).trans ?_
    simp only[iQ,k9 h2_1,bh h3_2,bh h3_2,bh h5_3]
 ·refine (ab (Bool.eq_false_iff.2 fun h'=>h2_1 (by simpa using h')) _ _).trans ?_
  refine (aa (hg _ l1_1) _ _).trans ?_
  by_cases h3_2:1≤v∧v≤3
  ·refine (aa (by simpa using h3_2) _ _).trans ?_
   refine (aa (hg _ l1_1) _ _).trans ?_
   have l3_2:=aA ti 8 l1_1
   refine (aa (hg _ l3_2) _ _).trans ?_
   have l4_3:=aA fo 8 l3_2
   refine (aa (hg _ l4_3) _ _).trans ?_
   by_cases h5_3:3≤v∧v≤3
   ·refine (aa (by simpa using h5_3) _ _).trans ?_
    refine (aa (hg _ l4_3) _ _).trans ?_
    have l5_3:=aA ep 4 l4_3
    simp only[iQ,jH h2_1,bA h3_2,bA h3_2,bA h5_3]
   ·refine (ab (Bool.eq_false_iff.2 fun h'=>h5_3 (by simpa using h')) _ _).trans ?_
    simp only[iQ,jH h2_1,bA h3_2,bA h3_2,bh h5_3]
  ·refine (ab (Bool.eq_false_iff.2 fun h'=>h3_2 (by simpa using h')) _ _).trans ?_
   refine (aa (hg _ l1_1) _ _).trans ?_
   by_cases h5_3:3≤v∧v≤3
   ·refine (aa (by simpa using h5_3) _ _).trans ?_
    refine (aa (hg _ l1_1) _ _).trans ?_
    have l5_3:=aA ep 4 l1_1
    simp only[iQ,jH h2_1,bh h3_2,bh h3_2,bA h5_3]
   ·refine (ab (Bool.eq_false_iff.2 fun h'=>h5_3 (by simpa using h')) _ _).trans ?_
    simp only[iQ,jH h2_1,bh h3_2,bh h3_2,bh h5_3]
def qI (v:Int)(xs:List aF.den)(s:aW):aW:=cB (iQ v) xs s
abbrev qh:Io:=⟨[.ptr 0 0,.dat (.sl 233 aF) false false,.fnc 134 false [2]],oE,[],[],none⟩
def Gv (d:qh.In):Tr qh.Res:=.ite (me d.2) (.ret (.ret ((),gA d.2.1.2.1 (qI d.2.1.2.1 d.1.2.1 (mf d.2))))) .no
abbrev OI:List (Nat×Hc):=[(194,ah cJ gI),(98,ah dd gT),(134,ah kL Ei)]
theorem Pp:HcOk prog 133 (ah qh Gv):=
 qi (one:=iQ) (sps:=qI) (fun _ _ _=>rfl) (fun v _ _ h3=>DX v _ h3) (cs:=OI) (.cons fv (.cons cF (.cons T7 .nil))) (fn:=Tryz.f133) (by kernel_rfl) (by kernel_rfl) (by kernel_rfl) (by kernel_rfl) (by kernel_rfl) (by kernel_rfl) (by intros;kernel_rfl) (by intros;kernel_rfl)
def Bd (v:Int)(t:af.den)(s:aW):aW:=qI v t.2.1 (bR t.1 s)
abbrev i5:Io:=⟨[.dat af true false,.ptr 0 0],tH,[],[],none⟩
def yb (d:i5.In):Tr i5.Res:=.ite (fB d.2.2) (.ret (.ret ((),gz d.2.2.1.2.1 (Bd d.2.2.1.2.1 d.1.1 (fC d.2.2))))) .no
abbrev CL:List (Nat×Hc):=[(101,ah mp BS),(133,ah qh Gv)]
def OT:Hd:=bz CL
def De:Lp:=bo []
def v8 (a0:List Int)(a1:List aF.den)(a2 a3:Int)(a4:Bool)(a5:List Int)(a6:Int):Option i5.Res:=bif decide (a6=130048)&&decide (a5.length≤130048) then bif decide (130048=130048)&&decide ((bR a0 (a3,a4,a5)).2.2.length≤130048) then some (Out.ret ((),((),()),((),a2,(qI a2 a1 (bR a0 (a3,a4,a5))).1,(qI a2 a1 (bR a0 (a3,a4,a5))).2.1,()),((qI a2 a1 (bR a0 (a3,a4,a5))).2.2,130048,()),())) else none else none
theorem Lm (a0:List Int)(a1:List aF.den)(a2 a3:Int)(a4:Bool)(a5:List Int)(a6:Int):Io.run tt OT dr De i5 Tryz.f132 (((a0,a1,()),(),()),((),()),((),a2,a3,a4,()),(a5,a6,()),())=v8 a0 a1 a2 a3 a4 a5 a6:=by kernel_rfl
theorem Pq:HcOk prog 132 (ah i5 yb):=by
 refine aj (n:=400) hm (cs:=CL) (.cons FN (.cons Pp .nil)) (lp:=De) (fn:=Tryz.f132) (by kernel_rfl) (by kernel_rfl) (by kernel_rfl) i5 (.done (by kernel_rfl)) yb ?_
 rintro ⟨⟨⟨(t:List Int),(ps:List aF.den),⟨⟩⟩,⟨⟩,⟨⟩⟩,⟨⟨⟩,⟨⟩⟩,⟨⟨⟩,(v:Int),(e:Int),(f:Bool),⟨⟩⟩,⟨(b:List Int),(m:Int),⟨⟩⟩,⟨⟩⟩ out hw ho
 obtain ⟨hg,ho⟩:=Tr.guard ho
 obtain ⟨rfl,hb⟩:=bx (v:=v) (e:=e) (f:=f) hg
 cases ho
 refine (Lm t ps v e f b 130048).trans ?_
 unfold v8
 refine (aa (by simpa using hb) _ _).trans ?_
 refine (aa (by simpa using il (s:=(e,f,b)) t hb) _ _).trans ?_
 rfl
theorem vN {s:aW}(v:Int)(t:af.den)(h:s.2.2.length≤130048):(Bd v t s).2.2.length≤130048:=cY (fun x s=>DX v x) _ (il _ h)
def ki (v:Int)(xs:List af.den)(s:aW):aW:=cB (Bd v) xs s
abbrev nI:Io:=⟨[.ptr 0 0,.dat (.sl 230 af) false false,.fnc 132 false [2]],oE,[],[],none⟩
def BV (d:nI.In):Tr nI.Res:=.ite (me d.2) (.ret (.ret ((),gA d.2.1.2.1 (ki d.2.1.2.1 d.1.2.1 (mf d.2))))) .no
abbrev Kj:List (Nat×Hc):=[(194,ah cJ gI),(98,ah dd gT),(132,ah i5 yb)]
theorem rW:HcOk prog 131 (ah nI BV):=
 qi (one:=Bd) (sps:=ki) (fun _ _ _=>rfl) (fun v _ _ h3=>vN v _ h3) (cs:=Kj) (.cons fv (.cons cF (.cons Pq .nil))) (fn:=Tryz.f131) (by kernel_rfl) (by kernel_rfl) (by kernel_rfl) (by kernel_rfl) (by kernel_rfl) (by kernel_rfl) (by intros;kernel_rfl) (by intros;kernel_rfl)
def jm (v:Int)(p:aF.den)(s:aW):aW:=ar v (p.2.2.2.2.2.1 == 0) 3 3 (ar v ((p.2.2.2.1 == 0)&&(p.2.2.2.2.1 == 0)) 1 3 (ar v ((p.2.2.1.length:Int) == 0) 0 0 s))
abbrev i4:Io:=⟨[.ptr 0 0,.dat aF true false],rS,[],[],none⟩
def ya (d:i4.In):Tr i4.Res:=.ite (fB d.2) (.ret (.ret ((),ch d.2.1.2.1 (jm d.2.1.2.1 d.1.2.1 (fC d.2))))) .no
abbrev CK:List (Nat×Hc):=[(94,ah fG m3)]
def OS:Hd:=bz CK
def Dd:Lp:=bo []
def v7 (a0 a1:Int)(a2:List Int)(a3 a4 a5 a6 a7:Int)(a8:Bool)(a9:List Int)(a10:Int):Option i4.Res:=bif decide (a10=130048)&&decide (a9.length≤130048) then bif a3 == 0 then bif decide (130048=130048)&&decide ((ar a6 ((↑a2.length:Int) == 0) 0 0 (a7,a8,a9)).2.2.length≤130048) then bif decide (130048=130048)&&decide ((ar a6 (a4 == 0) 1 3 (ar a6 ((↑a2.length:Int) == 0) 0 0 (a7,a8,a9))).2.2.length≤130048) then some (Out.ret ((),((),a6,(ar a6 (a5 == 0) 3 3 (ar a6 (a4 == 0) 1 3 (ar a6 ((↑a2.length:Int) == 0) 0 0 (a7,a8,a9)))).1,(ar a6 (a5 == 0) 3 3 (ar a6 (a4 == 0) 1 3 (ar a6 ((↑a2.length:Int) == 0) 0 0 (a7,a8,a9)))).2.1,()),((ar a6 (a5 == 0) 3 3 (ar a6 (a4 == 0) 1 3 (ar a6 ((↑a2.length:Int) == 0) 0 0 (a7,a8,a9)))).2.2,130048,()),())) else none else none else bif decide (130048=130048)&&decide ((ar a6 ((↑a2.length:Int) == 0) 0 0 (a7,a8,a9)).2.2.length≤130048) then bif decide (130048=130048)&&decide ((ar a6 false 1 3 (ar a6 ((↑a2.length:Int) == 0) 0 0 (a7,a8,a9))).2.2.length≤130048) then some (Out.ret ((),((),a6,(ar a6 (a5 == 0) 3 3 (ar a6 false 1 3 (ar a6 ((↑a2.length:Int) == 0) 0 0 (a7,a8,a9)))).1,(ar a6 (a5 == 0) 3 3 (ar a6 false 1 3 (ar a6 ((↑a2.length:Int) == 0) 0 0 (a7,a8,a9)))).2.1,()),((ar a6 (a5 == 0) 3 3 (ar a6 false 1 3 (ar a6 ((↑a2.length:Int) == 0) 0 0 (a7,a8,a9)))).2.2,130048,()),())) else none else none else none
theorem Ll (a0 a1:Int)(a2:List Int)(a3 a4 a5 a6 a7:Int)(a8:Bool)(a9:List Int)(a10:Int):Io.run tt OS dr Dd i4 Tryz.f130 (((),(a0,a1,a2,a3,a4,a5,()),()),((),a6,a7,a8,()),(a9,a10,()),())=v7 a0 a1 a2 a3 a4 a5 a6 a7 a8 a9 a10:=by kernel_rfl
theorem vp:HcOk prog 130 (ah i4 ya):=by
 refine aj (n:=400) hm (cs:=CK) (.cons ey .nil) (lp:=Dd) (fn:=Tryz.f130) (by kernel_rfl) (by kernel_rfl) (by kernel_rfl) i4 (.done (by kernel_rfl)) ya ?_
 rintro ⟨⟨⟨⟩,⟨(ix:Int),(cd:Int),(of:List Int),(ti:Int),(fo:Int),(ep:Int),⟨⟩⟩,⟨⟩⟩,⟨⟨⟩,(v:Int),(e:Int),(f:Bool),⟨⟩⟩,⟨(b:List Int),(m:Int),⟨⟩⟩,⟨⟩⟩ out hw ho
 obtain ⟨hg,ho⟩:=Tr.guard ho
 obtain ⟨rfl,hb⟩:=bx (v:=v) (e:=e) (f:=f) hg
 cases ho
 refine (Ll ix cd of ti fo ep v e f b 130048).trans ?_
 unfold v7
 have hg:∀s:aW,s.2.2.length≤130048→(decide ((130048:Int)=130048)&&decide (s.2.2.length≤130048))=true:=fun s h=>by simpa using h
 have hb:(e,(f,b)).2.2.length≤130048:=hb
 show _=some (Out.ret ((),ch v (jm v (ix,(cd,(of,(ti,(fo,(ep,())))))) (e,f,b))))
 refine (aa (hg _ hb) _ _).trans ?_
 have q1:=bp (s:=(e,f,b)) v ((of.length:Int) == 0) 0 0 hb
 by_cases ht:ti=0
 ·refine (aa (by simpa using ht) _ _).trans ?_
  refine (aa (hg _ q1) _ _).trans ?_
  have q2:=bp (s:=ar v ((of.length:Int) == 0) 0 0 (e,f,b)) v (fo == 0) 1 3 q1
  refine (aa (hg _ q2) _ _).trans ?_
  subst ht
  rfl
 ·have ht':(ti == 0)=false:=by simpa using ht
  refine (ab ht' _ _).trans ?_
  refine (aa (hg _ q1) _ _).trans ?_
  have q2:=bp (s:=ar v ((of.length:Int) == 0) 0 0 (e,f,b)) v false 1 3 q1
  refine (aa (hg _ q2) _ _).trans ?_
  unfold jm
  dsimp only
  rw[ht']
  rfl
def gb (v:Int)(ps:List aF.den)(s:aW):aW:=ps.foldl (fun s p=>jm v p s) s
def vL (v:Int)(ts:List af.den)(s:aW):aW:=ts.foldl (fun s t=>gb v t.2.1 s) s
def uf (v:Int)(m:bN.den):aW:=ki v m.2.1 (cb v 2 3 m.1 4 (vL v m.2.1 (ar v (m.1 == 0) 2 3 (bc v,(false,([]:List Int))))))
abbrev nH:Io:=⟨[dI,.dat bN true false],[],[],[dO,dI],none⟩
def Ra (d:nH.In):Tr nH.Res:=.ret (.ret ((bP (uf d.1.1 d.1.2.1),(bw (uf d.1.1 d.1.2.1),())),()))
abbrev xq:List (Nat×Hc):=[(93,ah mm BR),(94,ah fG m3),(95,ah iv qN),(98,ah dd gT),(130,ah i4 ya),(131,ah nI BV),(105,ah jq uA)]
def E8:Hd:=bz xq
abbrev fS:Lo:=⟨⟨(.any::be (.one (.ptr 3 0)::be (.one (.ptr 6 0)::dE (bJ (.one (.hol (.sl 230 af))::.one (.hol (.int IntKind.i64))::.one (.hol (.int IntKind.i64))::bJ (.one (.hol (.sl 233 aF))::.one (.hol (.int IntKind.i64))::.one (.hol (.int IntKind.i64))::.any::ai (bJ (be [])))))))),[none,none,none,some [.hol (.int IntKind.i32),.hol (.sl 230 af)],none,none,some [.ptr 12 0],none,none,none,none,none,some [.ptr 13 0,.hol (.int IntKind.i64),.hol (.int IntKind.i64),.hol .bool],some [.onl 5 (Ty.int IntKind.u8) 6658,.hol (.int IntKind.i64)]]⟩,[(.exit 2,⟨(.any::be (.one (.ptr 3 0)::be (.one (.ptr 6 0)::dE (bJ (.one (.hol (.sl 230 af))::.one (.hol (.int IntKind.i64))::.one (.hol (.int IntKind.i64))::ai (dE (bJ (be [])))))))),[none,none,none,some [.hol (.int IntKind.i32),.hol (.sl 230 af)],none,none,some [.ptr 12 0],none,none,none,none,none,some [.ptr 13 0,.hol (.int IntKind.i64),.hol (.int IntKind.i64),.hol .bool],some [.onl 5 (Ty.int IntKind.u8) 6658,.hol (.int IntKind.i64)]]⟩)]⟩
abbrev fR:Lo:=⟨⟨(.any::be (.one (.ptr 3 0)::be (.one (.ptr 6 0)::dE (bJ (.one (.hol (.sl 230 af))::.one (.hol (.int IntKind.i64))::.one (.hol (.int IntKind.i64))::ai (dE (bJ (be [])))))))),[none,none,none,some [.hol (.int IntKind.i32),.hol (.sl 230 af)],none,none,some [.ptr 12 0],none,none,none,none,none,some [.ptr 13 0,.hol (.int IntKind.i64),.hol (.int IntKind.i64),.hol .bool],some [.onl 5 (Ty.int IntKind.u8) 6658,.hol (.int IntKind.i64)]]⟩,[(.exit 0,⟨(.any::be (.one (.ptr 3 0)::be (.one (.ptr 6 0)::.any::ai (ai (dE (bJ [])))))),[none,none,none,some [.hol (.int IntKind.i32),.hol (.sl 230 af)],none,none,some [.ptr 12 0],none,none,none,none,none,some [.ptr 13 0,.hol (.int IntKind.i64),.hol (.int IntKind.i64),.hol .bool],some [.onl 5 (Ty.int IntKind.u8) 6658,.hol (.int IntKind.i64)]]⟩)]⟩
abbrev vu (th':Int)(ts':List af.den)(v:Int)(s:aW):(Int×(List af.den×Unit))×(Unit×((Int×(Int×(Bool×Unit)))×((List Int×(Int×Unit))×Unit))):=((th',(ts',())),((),((v,(s.1,(s.2.1,()))),((s.2.2,(130048,())),()))))
def oW (d:fS.st.den):Tr (ax fS.xs):=
 .ite (decide (d.1.2.2.2.2.2.1=0)&&(decide (d.1.2.2.2.2.1=(d.1.2.2.2.1.length:Int))&&(decide (d.2.2.2.2.1.2.1=130048)&&decide (d.2.2.2.2.1.1.length≤130048)))) (.ret (.ret ((),((d.1.1,(d.1.2.1,(d.1.2.2.1,()))),vu d.2.1.1 d.2.1.2.1 d.2.2.2.1.1 (gb d.2.2.2.1.1 d.1.2.2.2.1 (d.2.2.2.1.2.1,(d.2.2.2.1.2.2.1,d.2.2.2.2.1.1))))))) .no
def oV (d:fR.st.den):Tr (ax fR.xs):=
 .ite (decide (d.1.2.2.1=0)&&(decide (d.1.2.1=(d.1.1.length:Int))&&(decide (d.2.2.2.2.1.2.1=130048)&&decide (d.2.2.2.2.1.1.length≤130048)))) (.ret (.ret ((),((),vu d.2.1.1 d.2.1.2.1 d.2.2.2.1.1 (vL d.2.2.2.1.1 d.1.1 (d.2.2.2.1.2.1,(d.2.2.2.1.2.2.1,d.2.2.2.2.1.1))))))) .no
def qp:Lp:=bo [(5,aP fR oV),(8,aP fS oW)]
def wU {R:Type}(h13:List af.den)(h14 h15:Int)(h16:List aF.den)(h17 h18 h19:Int)(h20:List af.den)(h21 h22:Int)(h23:Bool)(h24:List Int)(h25:Int)(next:List af.den→Int→Int→List aF.den→Int→Int→Int→List af.den→Int→Int→Bool→List Int→Int→Option R)(out:ax fS.xs→Option R):Option R:=bif decide (h18<h17) then bif decide (0≤h18)&&decide (h18<(↑h16.length:Int)) then bif decide (h25=130048)&&decide (h24.length≤130048) then next (h13) (h14) (h15) (h16) (h17) (IntKind.i64.wrap (h18+1)) (h19) (h20) (h21) ((jm h21 (h16.getD h18.toNat (0,0,[],0,0,0,())) (h22,h23,h24)).1) ((jm h21 (h16.getD h18.toNat (0,0,[],0,0,0,())) (h22,h23,h24)).2.1) ((jm h21 (h16.getD h18.toNat (0,0,[],0,0,0,())) (h22,h23,h24)).2.2) (130048) else none else none else out (.ret ((),((h13,(h14,(h15,()))),((h19,(h20,())),((),((h21,(h22,(h23,()))),((h24,(h25,())),())))))))
def u9 (n:Nat)(h13:List af.den)(h14 h15:Int)(h16:List aF.den)(h17 h18 h19:Int)(h20:List af.den)(h21 h22:Int)(h23:Bool)(h24:List Int)(h25:Int):Option (ax fS.xs):=gk tt E8 dr qp 0 Tryz.f60 (vQ Tryz.f60 (cI Tryz.f60 0) 0) n (fS.st.mk' ((h13,(h14,(h15,(h16,(h17,(h18,())))))),((h19,(h20,())),((),((h21,(h22,(h23,()))),((h24,(h25,())),())))))) (bI fS.xs)
theorem Qj (n:Nat)(h13:List af.den)(h14 h15:Int)(h16:List aF.den)(h17 h18 h19:Int)(h20:List af.den)(h21 h22:Int)(h23:Bool)(h24:List Int)(h25:Int):u9 (n+1) h13 h14 h15 h16 h17 h18 h19 h20 h21 h22 h23 h24 h25=wU h13 h14 h15 h16 h17 h18 h19 h20 h21 h22 h23 h24 h25 (u9 n) some:=by kernel_rfl
def wT {R:Type}(h3:List af.den)(h4 h5 h6:Int)(h7:List af.den)(h8 h9:Int)(h10:Bool)(h11:List Int)(h12:Int)(next:List af.den→Int→Int→Int→List af.den→Int→Int→Bool→List Int→Int→Option R)(out:ax fR.xs→Option R):Option R:=bif decide (h5<h4) then bif decide (0≤h5)&&decide (h5<(↑h3.length:Int)) then (oW ((h3,(h4,(h5,((h3.getD h5.toNat ([],[],())).2.1,((↑(List.length (h3.getD h5.toNat ([],[],())).2.1):Int),(0,())))))),((h6,(h7,())),((),((h8,(h9,(h10,()))),((h11,(h12,())),())))))).run fun y=>match y with | .ret ((),((x49,x50,x51,()),(x52,x53,()),(),(x54,x55,x56,()),(x57,x58,()),()))=>(next (x49) (x50) (IntKind.i64.wrap (x51+1)) (x52) (x53) (x54) (x55) (x56) (x57) (x58)) else none else out (.ret ((),((),((h6,(h7,())),((),((h8,(h9,(h10,()))),((h11,(h12,())),())))))))
def ql (n:Nat)(h3:List af.den)(h4 h5 h6:Int)(h7:List af.den)(h8 h9:Int)(h10:Bool)(h11:List Int)(h12:Int):Option (ax fR.xs):=gk tt E8 dr qp 0 Tryz.f60 (cI Tryz.f60 0) n (fR.st.mk' ((h3,(h4,(h5,()))),((h6,(h7,())),((),((h8,(h9,(h10,()))),((h11,(h12,())),())))))) (bI fR.xs)
theorem Qi (n:Nat)(h3:List af.den)(h4 h5 h6:Int)(h7:List af.den)(h8 h9:Int)(h10:Bool)(h11:List Int)(h12:Int):ql (n+1) h3 h4 h5 h6 h7 h8 h9 h10 h11 h12=wT h3 h4 h5 h6 h7 h8 h9 h10 h11 h12 (ql n) some:=by kernel_rfl
theorem DU {s:aW}(v:Int)(p:aF.den)(h:s.2.2.length≤130048):(jm v p s).2.2.length≤130048:=bp _ _ _ _ (bp _ _ _ _ (bp _ _ _ _ h))
theorem Bb {s:aW}(v:Int)(ps:List aF.den)(h:s.2.2.length≤130048):(gb v ps s).2.2.length≤130048:=gl (fun x s=>DU v x) ps s h
theorem QT {s:aW}(v:Int)(ts:List af.den)(h:s.2.2.length≤130048):(vL v ts s).2.2.length≤130048:=gl (one:=fun (t:af.den) (s:aW)=>gb v t.2.1 s) (fun x s h=>Bb v x.2.1 h) ts s h
theorem H4 (us:List af.den)(n i th':Int)(ts':List af.den)(v:Int){ps:List aF.den}(hl:ps.length≤maxLen):∀(k j:Nat) (s:aW),ps.length<j+k→j≤ps.length→s.2.2.length≤130048→
  u9 k us n i ps (ps.length:Int) j th' ts' v s.1 s.2.1 s.2.2 130048=some (.ret ((),((us,(n,(i,()))),vu th' ts' v ((ps.drop j).foldl (fun s p=>jm v p s) s)))):=by
 intro k
 have hg:∀s:aW,s.2.2.length≤130048→(decide ((130048:Int)=130048)&&decide (s.2.2.length≤130048))=true:=fun s h=>by simpa using h
 induction k with
 |zero=>intro j s h;omega
 |succ k ih=>
  intro j s h1 h2 q0
  rw[Qj]
  unfold wU
  by_cases hi:j<ps.length
  ·refine (aa (decide_eq_true (show (j:Int)<(ps.length:Int) by omega)) _ _).trans ?_
   refine (aa (by simpa using hi) _ _).trans ?_
   simp only[Int.toNat_natCast,aH hi,bb hi hl]
   refine (aa (hg _ q0) _ _).trans ?_
   rw[List.drop_eq_getElem_cons hi]
   exact ih (j+1) (jm v ps[j] s) (by omega) (by omega) (DU _ _ q0)
  ·refine (ab (by simp;omega) _ _).trans ?_
   rw[List.drop_of_length_le (by omega)]
   rfl
theorem H3 {us:List af.den}(th':Int)(ts':List af.den)(v:Int)(hl:us.length≤maxLen):∀(k j:Nat) (s:aW),us.length<j+k→j≤us.length→s.2.2.length≤130048→
  ql k us (us.length:Int) j th' ts' v s.1 s.2.1 s.2.2 130048=some (.ret ((),((),vu th' ts' v ((us.drop j).foldl (fun s t=>gb v t.2.1 s) s)))):=by
 intro k
 induction k with
 |zero=>intro j s h;omega
 |succ k ih=>
  intro j s h1 h2 h3
  rw[Qi]
  unfold wT
  by_cases hi:j<us.length
  ·refine (aa (decide_eq_true (show (j:Int)<(us.length:Int) by omega)) _ _).trans ?_
   refine (aa (by simpa using hi) _ _).trans ?_
   simp only[Int.toNat_natCast,aH hi]
   have c1:(decide ((0:Int)=0)&&(decide ((us[j].2.1.length:Int)=(us[j].2.1.length:Int))&&(decide ((130048:Int)=130048)&&decide (s.2.2.length≤130048))))=true:=by simpa using h3
   have e1:oW ((us,((us.length:Int),((j:Int),(us[j].2.1,((us[j].2.1.length:Int),(0,())))))),((th',(ts',())),((),((v,(s.1,(s.2.1,()))),((s.2.2,(130048,())),())))))=
     .ite true (.ret (.ret ((),((us,((us.length:Int),((j:Int),()))),vu th' ts' v (gb v us[j].2.1 s))))) .no:=congrArg (fun c=>Tr.ite c _ _) c1
   rw[e1]
   show ql k us (us.length:Int) (IntKind.i64.wrap ((j:Int)+1)) th' ts' v (gb v us[j].2.1 s).1 (gb v us[j].2.1 s).2.1 (gb v us[j].2.1 s).2.2 130048=_
   rw[bb hi hl,List.drop_eq_getElem_cons hi]
   exact ih (j+1) (gb v us[j].2.1 s) (by omega) (by omega) (Bb _ _ h3)
  ·refine (ab (by simp;omega) _ _).trans ?_
   rw[List.drop_of_length_le (by omega)]
   rfl
def Cn (a0 a1:Int)(a2:List af.den):Option nH.Res:=(oV ((a2,((↑a2.length:Int),(0,()))),((a1,(a2,())),((),((a0,((ar a0 (a1 == 0) 2 3 (bc a0,false,[])).1,((ar a0 (a1 == 0) 2 3 (bc a0,false,[])).2.1,()))),(((ar a0 (a1 == 0) 2 3 (bc a0,false,[])).2.2,(130048,())),())))))).run fun y=>match y with | .ret ((),((),(x76,x77,()),(),(x78,x79,x80,()),(x81,x82,()),()))=>(bif decide (x82=130048)&&decide (x81.length≤130048) then bif decide (2≤x78)&&decide (x78≤3) then bif decide (130048=130048)&&decide (x81.length≤130048) then bif decide (130048=130048)&&decide ((ac x76 4 (x79,x80,x81)).2.2.length≤130048) then bif decide (130048=130048)&&decide ((ki x78 x77 (ac x76 4 (x79,x80,x81))).2.2.length≤130048) then some (Out.ret ((bP (ki x78 x77 (ac x76 4 (x79,x80,x81))),bw (ki x78 x77 (ac x76 4 (x79,x80,x81))),()),())) else none else none else none else bif decide (130048=130048)&&decide (x81.length≤130048) then bif decide (130048=130048)&&decide ((ki x78 x77 (x79,x80,x81)).2.2.length≤130048) then some (Out.ret ((bP (ki x78 x77 (x79,x80,x81)),bw (ki x78 x77 (x79,x80,x81)),()),())) else none else none else none)
theorem UP (a0 a1:Int)(a2:List af.den):Io.run tt E8 dr qp nH Tryz.f60 ((a0,(a1,a2,()),()),())=Cn a0 a1 a2:=by kernel_rfl
theorem Xf:HcOk prog 60 (ah nH Ra):=by
 refine aj (n:=400) hm (cs:=xq) (.cons jM (.cons ey (.cons gg (.cons cF (.cons vp (.cons rW (.cons gD .nil))))))) (lp:=qp) (fn:=Tryz.f60) (by kernel_rfl) (by kernel_rfl) (by kernel_rfl) nH (.step (h0:=aP fR oV) (by kernel_rfl) (aw (n:=400) hm (cs:=xq) (.cons jM (.cons ey (.cons gg (.cons cF (.cons vp (.cons rW (.cons gD .nil))))))) (lp:=qp) (fn:=Tryz.f60) (.step (h0:=aP fS oW) (by kernel_rfl) (aw (n:=400) hm (cs:=xq) (.cons jM (.cons ey (.cons gg (.cons cF (.cons vp (.cons rW (.cons gD .nil))))))) (lp:=qp) (fn:=Tryz.f60) (.done (by kernel_rfl)) fS oW ?_) (.done (by kernel_rfl))) fR oV ?_) (.done (by kernel_rfl))) Ra ?_
 ·rintro ⟨⟨(us:List af.den),(n:Int),(i:Int),(ps:List aF.den),(pn:Int),(pj:Int),⟨⟩⟩,⟨⟨(th':Int),(ts':List af.den),⟨⟩⟩,⟨⟩,⟨(v:Int),(e:Int),(f:Bool),⟨⟩⟩,⟨(b:List Int),(m:Int),⟨⟩⟩,⟨⟩⟩⟩ y hw hy
  obtain ⟨hg,hy⟩:=Tr.guard hy
  simp only[Bool.and_eq_true,decide_eq_true_eq] at hg
  obtain ⟨rfl,rfl,rfl,h4⟩:=hg
  have h4:b.length≤130048:=h4
  have hl:ps.length≤maxLen:=hw.1.2.2.2.1.1
  refine ⟨ps.length+1,(H4 us n i th' ts' v hl (ps.length+1) 0 (e,(f,b)) (by omega) (by omega) h4).trans ?_⟩
  rw[← hy];rfl
 ·rintro ⟨⟨(us:List af.den),(n:Int),(i:Int),⟨⟩⟩,⟨⟨(th':Int),(ts':List af.den),⟨⟩⟩,⟨⟩,⟨(v:Int),(e:Int),(f:Bool),⟨⟩⟩,⟨(b:List Int),(m:Int),⟨⟩⟩,⟨⟩⟩⟩ y hw hy
  obtain ⟨hg,hy⟩:=Tr.guard hy
  simp only[Bool.and_eq_true,decide_eq_true_eq] at hg
  obtain ⟨rfl,rfl,rfl,h4⟩:=hg
  have h4:b.length≤130048:=h4
  have hl:us.length≤maxLen:=hw.1.1.1
  refine ⟨us.length+1,(H3 th' ts' v hl (us.length+1) 0 (e,(f,b)) (by omega) (by omega) h4).trans ?_⟩
  rw[← hy];rfl
 ·rintro ⟨⟨(v:Int),⟨(th:Int),(ts:List af.den),⟨⟩⟩,⟨⟩⟩,⟨⟩⟩ out hw ho
  cases ho
  refine (UP v th ts).trans ?_
  unfold Cn
  have hg:∀s:aW,s.2.2.length≤130048→(decide ((130048:Int)=130048)&&decide (s.2.2.length≤130048))=true:=fun s h=>by simpa using h
  have q0:(bc v,(false,([]:List Int))).2.2.length≤130048:=by simp
  have q1:=bp (s:=(bc v,(false,([]:List Int)))) v (th == 0) 2 3 q0
  have c1:(decide ((0:Int)=0)&&(decide ((ts.length:Int)=(ts.length:Int))&&(decide ((130048:Int)=130048)&&decide ((ar v (th == 0) 2 3 (bc v,(false,([]:List Int)))).2.2.length≤130048))))=true:=by simpa using q1
  have e1:oV ((ts,((ts.length:Int),(0,()))),((th,(ts,())),((),((v,((ar v (th == 0) 2 3 (bc v,(false,([]:List Int)))).1,((ar v (th == 0) 2 3 (bc v,(false,([]:List Int)))).2.1,()))),(((ar v (th == 0) 2 3 (bc v,(false,([]:List Int)))).2.2,(130048,())),())))))=
    .ite true (.ret (.ret ((),((),vu th ts v (vL v ts (ar v (th == 0) 2 3 (bc v,(false,([]:List Int))))))))) .no:=congrArg (fun c=>Tr.ite c _ _) c1
  rw[e1]
  have r0:=QT v ts q1
  refine (aa (hg _ r0) _ _).trans ?_
  by_cases h0_0:2≤v∧v≤3
  ·refine (aa (by simpa using h0_0) _ _).trans ?_
   refine (aa (hg _ r0) _ _).trans ?_
   have l0_0:=aA th 4 r0
   refine (aa (hg _ l0_0) _ _).trans ?_
   have l1_1:=cY (fun x s=>vN v x) ts l0_0
   refine (aa (hg _ l1_1) _ _).trans ?_
   simp only[uf,bA h0_0]
  ·refine (ab (Bool.eq_false_iff.2 fun h'=>h0_0 (by simpa using h')) _ _).trans ?_
   refine (aa (hg _ r0) _ _).trans ?_
   have l1_1:=cY (fun x s=>vN v x) ts r0
   refine (aa (hg _ l1_1) _ _).trans ?_
   simp only[uf,bh h0_0]
@[irreducible] noncomputable def lm (v:Int)(b:List Int)(s:aN):aF.den×aN:=
 (((ae .i32 4 b s).1,((ae .i16 2 b (ae .i32 4 b s).2).1,((cO v 0 0 b (ae .i16 2 b (ae .i32 4 b s).2).2).1,((av .i64 8 v 1 3 b (cO v 0 0 b (ae .i16 2 b (ae .i32 4 b s).2).2).2).1,((av .i64 8 v 1 3 b (av .i64 8 v 1 3 b (cO v 0 0 b (ae .i16 2 b (ae .i32 4 b s).2).2).2).2).1,((av .i32 4 v 3 3 b (av .i64 8 v 1 3 b (av .i64 8 v 1 3 b (cO v 0 0 b (ae .i16 2 b (ae .i32 4 b s).2).2).2).2).2).1,())))))),(av .i32 4 v 3 3 b (av .i64 8 v 1 3 b (av .i64 8 v 1 3 b (cO v 0 0 b (ae .i16 2 b (ae .i32 4 b s).2).2).2).2).2).2)
theorem DW {v:Int}{b:List Int}{s:aN}(h:au b s.2=true):au b (lm v b s).2.2=true:=by
 unfold lm
 exact kY (kY (kY (Jj (bF _ _ (bF _ _ (h))))))
abbrev iY:Io:=⟨[.ptr 0 0],IF,[],[.dat aF true false],none⟩
def xV (d:iY.In):Tr iY.Res:=.ite (au d.2.2.2.1.1 d.2.2.2.1.2.1) (.ret (.ret (((lm d.2.2.1.2.1 d.2.2.2.1.1 (eG d.2.2)).1,()),lE d.2.2.1.2.1 d.2.2.2.1.1 (lm d.2.2.1.2.1 d.2.2.2.1.1 (eG d.2.2)).2))) .no
abbrev CH:List (Nat×Hc):=[(142,ah pc Mn),(143,ah fF mG),(156,ah nw Gs),(179,ah zq Zh),(140,ah mi BN)]
def OP:Hd:=bz CH
def Da:Lp:=bo []
def vY (a0 a1:Int)(a2:List Int)(a3:Int):Option iY.Res:=bif au a2 a3 then bif au a2 (ae IntKind.i32 4 a2 (a1,a3)).2.2 then bif bg a0 0 0 (ae IntKind.i16 2 a2 (ae IntKind.i32 4 a2 (a1,a3)).2).2.1 then bif au a2 (ae IntKind.i16 2 a2 (ae IntKind.i32 4 a2 (a1,a3)).2).2.2 then bif bg a0 1 3 (aZ a2 (ae IntKind.i16 2 a2 (ae IntKind.i32 4 a2 (a1,a3)).2).2).2.1 then bif au a2 (aZ a2 (ae IntKind.i16 2 a2 (ae IntKind.i32 4 a2 (a1,a3)).2).2).2.2 then bif au a2 (ae IntKind.i64 8 a2 (aZ a2 (ae IntKind.i16 2 a2 (ae IntKind.i32 4 a2 (a1,a3)).2).2).2).2.2 then bif bg a0 3 3 (ae IntKind.i64 8 a2 (ae IntKind.i64 8 a2 (aZ a2 (ae IntKind.i16 2 a2 (ae IntKind.i32 4 a2 (a1,a3)).2).2).2).2).2.1 then bif au a2 (ae IntKind.i64 8 a2 (ae IntKind.i64 8 a2 (aZ a2 (ae IntKind.i16 2 a2 (ae IntKind.i32 4 a2 (a1,a3)).2).2).2).2).2.2 then some (Out.ret ((((ae IntKind.i32 4 a2 (a1,a3)).1,(ae IntKind.i16 2 a2 (ae IntKind.i32 4 a2 (a1,a3)).2).1,(aZ a2 (ae IntKind.i16 2 a2 (ae IntKind.i32 4 a2 (a1,a3)).2).2).1,(ae IntKind.i64 8 a2 (aZ a2 (ae IntKind.i16 2 a2 (ae IntKind.i32 4 a2 (a1,a3)).2).2).2).1,(ae IntKind.i64 8 a2 (ae IntKind.i64 8 a2 (aZ a2 (ae IntKind.i16 2 a2 (ae IntKind.i32 4 a2 (a1,a3)).2).2).2).2).1,(ae IntKind.i32 4 a2 (ae IntKind.i64 8 a2 (ae IntKind.i64 8 a2 (aZ a2 (ae IntKind.i16 2 a2 (ae IntKind.i32 4 a2 (a1,a3)).2).2).2).2).2).1,()),()),((),()),((),a0,(ae IntKind.i32 4 a2 (ae IntKind.i64 8 a2 (ae IntKind.i64 8 a2 (aZ a2 (ae IntKind.i16 2 a2 (ae IntKind.i32 4 a2 (a1,a3)).2).2).2).2).2).2.1,()),(a2,(ae IntKind.i32 4 a2 (ae IntKind.i64 8 a2 (ae IntKind.i64 8 a2 (aZ a2 (ae IntKind.i16 2 a2 (ae IntKind.i32 4 a2 (a1,a3)).2).2).2).2).2).2.2,()),())) else none else some (Out.ret ((((ae IntKind.i32 4 a2 (a1,a3)).1,(ae IntKind.i16 2 a2 (ae IntKind.i32 4 a2 (a1,a3)).2).1,(aZ a2 (ae IntKind.i16 2 a2 (ae IntKind.i32 4 a2 (a1,a3)).2).2).1,(ae IntKind.i64 8 a2 (aZ a2 (ae IntKind.i16 2 a2 (ae IntKind.i32 4 a2 (a1,a3)).2).2).2).1,(ae IntKind.i64 8 a2 (ae IntKind.i64 8 a2 (aZ a2 (ae IntKind.i16 2 a2 (ae IntKind.i32 4 a2 (a1,a3)).2).2).2).2).1,0,()),()),((),()),((),a0,(ae IntKind.i64 8 a2 (ae IntKind.i64 8 a2 (aZ a2 (ae IntKind.i16 2 a2 (ae IntKind.i32 4 a2 (a1,a3)).2).2).2).2).2.1,()),(a2,(ae IntKind.i64 8 a2 (ae IntKind.i64 8 a2 (aZ a2 (ae IntKind.i16 2 a2 (ae IntKind.i32 4 a2 (a1,a3)).2).2).2).2).2.2,()),())) else none else none else bif bg a0 3 3 (aZ a2 (ae IntKind.i16 2 a2 (ae IntKind.i32 4 a2 (a1,a3)).2).2).2.1 then bif au a2 (aZ a2 (ae IntKind.i16 2 a2 (ae IntKind.i32 4 a2 (a1,a3)).2).2).2.2 then some (Out.ret ((((ae IntKind.i32 4 a2 (a1,a3)).1,(ae IntKind.i16 2 a2 (ae IntKind.i32 4 a2 (a1,a3)).2).1,(aZ a2 (ae IntKind.i16 2 a2 (ae IntKind.i32 4 a2 (a1,a3)).2).2).1,0,0,(ae IntKind.i32 4 a2 (aZ a2 (ae IntKind.i16 2 a2 (ae IntKind.i32 4 a2 (a1,a3)).2).2).2).1,()),()),((),()),((),a0,(ae IntKind.i32 4 a2 (aZ a2 (ae IntKind.i16 2 a2 (ae IntKind.i32 4 a2 (a1,a3)).2).2).2).2.1,()),(a2,(ae IntKind.i32 4 a2 (aZ a2 (ae IntKind.i16 2 a2 (ae IntKind.i32 4 a2 (a1,a3)).2).2).2).2.2,()),())) else none else some (Out.ret ((((ae IntKind.i32 4 a2 (a1,a3)).1,(ae IntKind.i16 2 a2 (ae IntKind.i32 4 a2 (a1,a3)).2).1,(aZ a2 (ae IntKind.i16 2 a2 (ae IntKind.i32 4 a2 (a1,a3)).2).2).1,0,0,0,()),()),((),()),((),a0,(aZ a2 (ae IntKind.i16 2 a2 (ae IntKind.i32 4 a2 (a1,a3)).2).2).2.1,()),(a2,(aZ a2 (ae IntKind.i16 2 a2 (ae IntKind.i32 4 a2 (a1,a3)).2).2).2.2,()),())) else none else bif bg a0 1 3 (ae IntKind.i16 2 a2 (ae IntKind.i32 4 a2 (a1,a3)).2).2.1 then bif au a2 (ae IntKind.i16 2 a2 (ae IntKind.i32 4 a2 (a1,a3)).2).2.2 then bif au a2 (ae IntKind.i64 8 a2 (ae IntKind.i16 2 a2 (ae IntKind.i32 4 a2 (a1,a3)).2).2).2.2 then bif bg a0 3 3 (ae IntKind.i64 8 a2 (ae IntKind.i64 8 a2 (ae IntKind.i16 2 a2 (ae IntKind.i32 4 a2 (a1,a3)).2).2).2).2.1 then bif au a2 (ae IntKind.i64 8 a2 (ae IntKind.i64 8 a2 (ae IntKind.i16 2 a2 (ae IntKind.i32 4 a2 (a1,a3)).2).2).2).2.2 then some (Out.ret ((((ae IntKind.i32 4 a2 (a1,a3)).1,(ae IntKind.i16 2 a2 (ae IntKind.i32 4 a2 (a1,a3)).2).1,[],(ae IntKind.i64 8 a2 (ae IntKind.i16 2 a2 (ae IntKind.i32 4 a2 (a1,a3)).2).2).1,(ae IntKind.i64 8 a2 (ae IntKind.i64 8 a2 (ae IntKind.i16 2 a2 (ae IntKind.i32 4 a2 (a1,a3)).2).2).2).1,(ae IntKind.i32 4 a2 (ae IntKind.i64 8 a2 (ae IntKind.i64 8 a2 (ae IntKind.i16 2 a2 (ae IntKind.i32 4 a2 (a1,a3)).2).2).2).2).1,()),()),((),()),((),a0,(ae IntKind.i32 4 a2 (ae IntKind.i64 8 a2 (ae IntKind.i64 8 a2 (ae IntKind.i16 2 a2 (ae IntKind.i32 4 a2 (a1,a3)).2).2).2).2).2.1,()),(a2,(ae IntKind.i32 4 a2 (ae IntKind.i64 8 a2 (ae IntKind.i64 8 a2 (ae IntKind.i16 2 a2 (ae IntKind.i32 4 a2 (a1,a3)).2).2).2).2).2.2,()),())) else none else some (Out.ret ((((ae IntKind.i32 4 a2 (a1,a3)).1,(ae IntKind.i16 2 a2 (ae IntKind.i32 4 a2 (a1,a3)).2).1,[],(ae IntKind.i64 8 a2 (ae IntKind.i16 2 a2 (ae IntKind.i32 4 a2 (a1,a3)).2).2).1,(ae IntKind.i64 8 a2 (ae IntKind.i64 8 a2 (ae IntKind.i16 2 a2 (ae IntKind.i32 4 a2 (a1,a3)).2).2).2).1,0,()),()),((),()),((),a0,(ae IntKind.i64 8 a2 (ae IntKind.i64 8 a2 (ae IntKind.i16 2 a2 (ae IntKind.i32 4 a2 (a1,a3)).2).2).2).2.1,()),(a2,(ae IntKind.i64 8 a2 (ae IntKind.i64 8 a2 (ae IntKind.i16 2 a2 (ae IntKind.i32 4 a2 (a1,a3)).2).2).2).2.2,()),())) else none else none else bif bg a0 3 3 (ae IntKind.i16 2 a2 (ae IntKind.i32 4 a2 (a1,a3)).2).2.1 then bif au a2 (ae IntKind.i16 2 a2 (ae IntKind.i32 4 a2 (a1,a3)).2).2.2 then some (Out.ret ((((ae IntKind.i32 4 a2 (a1,a3)).1,(ae IntKind.i16 2 a2 (ae IntKind.i32 4 a2 (a1,a3)).2).1,[],0,0,(ae IntKind.i32 4 a2 (ae IntKind.i16 2 a2 (ae IntKind.i32 4 a2 (a1,a3)).2).2).1,()),()),((),()),((),a0,(ae IntKind.i32 4 a2 (ae IntKind.i16 2 a2 (ae IntKind.i32 4 a2 (a1,a3)).2).2).2.1,()),(a2,(ae IntKind.i32 4 a2 (ae IntKind.i16 2 a2 (ae IntKind.i32 4 a2 (a1,a3)).2).2).2.2,()),())) else none else some (Out.ret ((((ae IntKind.i32 4 a2 (a1,a3)).1,(ae IntKind.i16 2 a2 (ae IntKind.i32 4 a2 (a1,a3)).2).1,[],0,0,0,()),()),((),()),((),a0,(ae IntKind.i16 2 a2 (ae IntKind.i32 4 a2 (a1,a3)).2).2.1,()),(a2,(ae IntKind.i16 2 a2 (ae IntKind.i32 4 a2 (a1,a3)).2).2.2,()),())) else none else none
theorem Lg (a0 a1:Int)(a2:List Int)(a3:Int):Io.run tt OP dr Da iY Tryz.f178 (((),()),((),()),((),a0,a1,()),(a2,a3,()),())=vY a0 a1 a2 a3:=by kernel_rfl
theorem Pk:HcOk prog 178 (ah iY xV):=by
 refine aj (n:=400) hm (cs:=CH) (.cons TV (.cons jL (.cons FJ (.cons abA (.cons FI .nil))))) (lp:=Da) (fn:=Tryz.f178) (by kernel_rfl) (by kernel_rfl) (by kernel_rfl) iY (.done (by kernel_rfl)) xV ?_
 rintro ⟨⟨⟨⟩,⟨⟩⟩,⟨⟨⟩,⟨⟩⟩,⟨⟨⟩,(v:Int),(e:Int),⟨⟩⟩,⟨(b:List Int),(p:Int),⟨⟩⟩,⟨⟩⟩ out hw ho
 obtain ⟨hg,ho⟩:=Tr.guard ho
 have hg:au b p=true:=hg
 cases ho
 refine (Lg v e b p).trans ?_
 unfold vY
 show _=some (Out.ret (((lm v b (e,p)).1,()),lE v b (lm v b (e,p)).2))
 unfold lm
 have hg:au b ((e,p):aN).2=true:=hg
 refine (aa hg _ _).trans ?_
 have g0:au b (ae .i32 4 b ((e,p):aN)).2.2=true:=bF .i32 4 (s:=((e,p):aN)) hg
 refine (aa g0 _ _).trans ?_
 have g1:au b (ae .i16 2 b (ae .i32 4 b ((e,p):aN)).2).2.2=true:=bF .i16 2 (s:=(ae .i32 4 b ((e,p):aN)).2) g0
 show (bif bg v 0 0 (ae .i16 2 b (ae .i32 4 b ((e,p):aN)).2).2.1 then _ else _)=_
 cases h2:bg v 0 0 (ae .i16 2 b (ae .i32 4 b ((e,p):aN)).2).2.1
 ·have e2:cO v 0 0 b (ae .i16 2 b (ae .i32 4 b ((e,p):aN)).2).2=([],(ae .i16 2 b (ae .i32 4 b ((e,p):aN)).2).2):=by unfold cO;rw[if_neg (by rw[h2];decide)]
  rw[e2]
  show (bif bg v 1 3 (ae .i16 2 b (ae .i32 4 b ((e,p):aN)).2).2.1 then _ else _)=_
  cases hf3:bg v 1 3 (ae .i16 2 b (ae .i32 4 b ((e,p):aN)).2).2.1
  ·have ef3:av .i64 8 v 1 3 b (ae .i16 2 b (ae .i32 4 b ((e,p):aN)).2).2=(0,(ae .i16 2 b (ae .i32 4 b ((e,p):aN)).2).2):=by unfold av;rw[if_neg (by rw[hf3];decide)]
   rw[ef3]
   have eff4:av .i64 8 v 1 3 b (ae .i16 2 b (ae .i32 4 b ((e,p):aN)).2).2=(0,(ae .i16 2 b (ae .i32 4 b ((e,p):aN)).2).2):=by unfold av;rw[if_neg (by rw[hf3];decide)]
   rw[eff4]
   show (bif bg v 3 3 (ae .i16 2 b (ae .i32 4 b ((e,p):aN)).2).2.1 then _ else _)=_
   cases hff5:bg v 3 3 (ae .i16 2 b (ae .i32 4 b ((e,p):aN)).2).2.1
   ·have eff5:av .i32 4 v 3 3 b (ae .i16 2 b (ae .i32 4 b ((e,p):aN)).2).2=(0,(ae .i16 2 b (ae .i32 4 b ((e,p):aN)).2).2):=by unfold av;rw[if_neg (by rw[hff5];decide)]
    rw[eff5]
    rfl
   ·have eff5:av .i32 4 v 3 3 b (ae .i16 2 b (ae .i32 4 b ((e,p):aN)).2).2=ae .i32 4 b (ae .i16 2 b (ae .i32 4 b ((e,p):aN)).2).2:=by unfold av;rw[if_pos hff5]
    rw[eff5]
    refine (aa g1 _ _).trans ?_
    have gff5:au b (ae .i32 4 b (ae .i16 2 b (ae .i32 4 b ((e,p):aN)).2).2).2.2=true:=bF .i32 4 (s:=(ae .i16 2 b (ae .i32 4 b ((e,p):aN)).2).2) g1
    rfl
  ·have ef3:av .i64 8 v 1 3 b (ae .i16 2 b (ae .i32 4 b ((e,p):aN)).2).2=ae .i64 8 b (ae .i16 2 b (ae .i32 4 b ((e,p):aN)).2).2:=by unfold av;rw[if_pos hf3]
   rw[ef3]
   refine (aa g1 _ _).trans ?_
   have gf3:au b (ae .i64 8 b (ae .i16 2 b (ae .i32 4 b ((e,p):aN)).2).2).2.2=true:=bF .i64 8 (s:=(ae .i16 2 b (ae .i32 4 b ((e,p):aN)).2).2) g1
   have eft4:av .i64 8 v 1 3 b (ae .i64 8 b (ae .i16 2 b (ae .i32 4 b ((e,p):aN)).2).2).2=ae .i64 8 b (ae .i64 8 b (ae .i16 2 b (ae .i32 4 b ((e,p):aN)).2).2).2:=AC (AE hf3) _
   rw[eft4]
   refine (aa gf3 _ _).trans ?_
   have gft4:au b (ae .i64 8 b (ae .i64 8 b (ae .i16 2 b (ae .i32 4 b ((e,p):aN)).2).2).2).2.2=true:=bF .i64 8 (s:=(ae .i64 8 b (ae .i16 2 b (ae .i32 4 b ((e,p):aN)).2).2).2) gf3
   show (bif bg v 3 3 (ae .i64 8 b (ae .i64 8 b (ae .i16 2 b (ae .i32 4 b ((e,p):aN)).2).2).2).2.1 then _ else _)=_
   cases hft5:bg v 3 3 (ae .i64 8 b (ae .i64 8 b (ae .i16 2 b (ae .i32 4 b ((e,p):aN)).2).2).2).2.1
   ·have eft5:av .i32 4 v 3 3 b (ae .i64 8 b (ae .i64 8 b (ae .i16 2 b (ae .i32 4 b ((e,p):aN)).2).2).2).2=(0,(ae .i64 8 b (ae .i64 8 b (ae .i16 2 b (ae .i32 4 b ((e,p):aN)).2).2).2).2):=by unfold av;rw[if_neg (by rw[hft5];decide)]
    rw[eft5]
    rfl
   ·have eft5:av .i32 4 v 3 3 b (ae .i64 8 b (ae .i64 8 b (ae .i16 2 b (ae .i32 4 b ((e,p):aN)).2).2).2).2=ae .i32 4 b (ae .i64 8 b (ae .i64 8 b (ae .i16 2 b (ae .i32 4 b ((e,p):aN)).2).2).2).2:=by unfold av;rw[if_pos hft5]
    rw[eft5]
    refine (aa gft4 _ _).trans ?_
    have gft5:au b (ae .i32 4 b (ae .i64 8 b (ae .i64 8 b (ae .i16 2 b (ae .i32 4 b ((e,p):aN)).2).2).2).2).2.2=true:=bF .i32 4 (s:=(ae .i64 8 b (ae .i64 8 b (ae .i16 2 b (ae .i32 4 b ((e,p):aN)).2).2).2).2) gft4
    rfl
 ·have e2:cO v 0 0 b (ae .i16 2 b (ae .i32 4 b ((e,p):aN)).2).2=aZ b (ae .i16 2 b (ae .i32 4 b ((e,p):aN)).2).2:=by unfold cO;rw[if_pos h2]
  rw[e2]
  refine (aa g1 _ _).trans ?_
  have g2:au b (aZ b (ae .i16 2 b (ae .i32 4 b ((e,p):aN)).2).2).2.2=true:=Jr (s:=(ae .i16 2 b (ae .i32 4 b ((e,p):aN)).2).2) g1
  show (bif bg v 1 3 (aZ b (ae .i16 2 b (ae .i32 4 b ((e,p):aN)).2).2).2.1 then _ else _)=_
  cases ht3:bg v 1 3 (aZ b (ae .i16 2 b (ae .i32 4 b ((e,p):aN)).2).2).2.1
  ·have et3:av .i64 8 v 1 3 b (aZ b (ae .i16 2 b (ae .i32 4 b ((e,p):aN)).2).2).2=(0,(aZ b (ae .i16 2 b (ae .i32 4 b ((e,p):aN)).2).2).2):=by unfold av;rw[if_neg (by rw[ht3];decide)]
   rw[et3]
   have etf4:av .i64 8 v 1 3 b (aZ b (ae .i16 2 b (ae .i32 4 b ((e,p):aN)).2).2).2=(0,(aZ b (ae .i16 2 b (ae .i32 4 b ((e,p):aN)).2).2).2):=by unfold av;rw[if_neg (by rw[ht3];decide)]
   rw[etf4]
   show (bif bg v 3 3 (aZ b (ae .i16 2 b (ae .i32 4 b ((e,p):aN)).2).2).2.1 then _ else _)=_
   cases htf5:bg v 3 3 (aZ b (ae .i16 2 b (ae .i32 4 b ((e,p):aN)).2).2).2.1
   ·have etf5:av .i32 4 v 3 3 b (aZ b (ae .i16 2 b (ae .i32 4 b ((e,p):aN)).2).2).2=(0,(aZ b (ae .i16 2 b (ae .i32 4 b ((e,p):aN)).2).2).2):=by unfold av;rw[if_neg (by rw[htf5];decide)]
    rw[etf5]
    rfl
   ·have etf5:av .i32 4 v 3 3 b (aZ b (ae .i16 2 b (ae .i32 4 b ((e,p):aN)).2).2).2=ae .i32 4 b (aZ b (ae .i16 2 b (ae .i32 4 b ((e,p):aN)).2).2).2:=by unfold av;rw[if_pos htf5]
    rw[etf5]
    refine (aa g2 _ _).trans ?_
    have gtf5:au b (ae .i32 4 b (aZ b (ae .i16 2 b (ae .i32 4 b ((e,p):aN)).2).2).2).2.2=true:=bF .i32 4 (s:=(aZ b (ae .i16 2 b (ae .i32 4 b ((e,p):aN)).2).2).2) g2
    rfl
  ·have et3:av .i64 8 v 1 3 b (aZ b (ae .i16 2 b (ae .i32 4 b ((e,p):aN)).2).2).2=ae .i64 8 b (aZ b (ae .i16 2 b (ae .i32 4 b ((e,p):aN)).2).2).2:=by unfold av;rw[if_pos ht3]
   rw[et3]
   refine (aa g2 _ _).trans ?_
   have gt3:au b (ae .i64 8 b (aZ b (ae .i16 2 b (ae .i32 4 b ((e,p):aN)).2).2).2).2.2=true:=bF .i64 8 (s:=(aZ b (ae .i16 2 b (ae .i32 4 b ((e,p):aN)).2).2).2) g2
   have ett4:av .i64 8 v 1 3 b (ae .i64 8 b (aZ b (ae .i16 2 b (ae .i32 4 b ((e,p):aN)).2).2).2).2=ae .i64 8 b (ae .i64 8 b (aZ b (ae .i16 2 b (ae .i32 4 b ((e,p):aN)).2).2).2).2:=AC (AE ht3) _
   rw[ett4]
   refine (aa gt3 _ _).trans ?_
   have gtt4:au b (ae .i64 8 b (ae .i64 8 b (aZ b (ae .i16 2 b (ae .i32 4 b ((e,p):aN)).2).2).2).2).2.2=true:=bF .i64 8 (s:=(ae .i64 8 b (aZ b (ae .i16 2 b (ae .i32 4 b ((e,p):aN)).2).2).2).2) gt3
   show (bif bg v 3 3 (ae .i64 8 b (ae .i64 8 b (aZ b (ae .i16 2 b (ae .i32 4 b ((e,p):aN)).2).2).2).2).2.1 then _ else _)=_
   cases htt5:bg v 3 3 (ae .i64 8 b (ae .i64 8 b (aZ b (ae .i16 2 b (ae .i32 4 b ((e,p):aN)).2).2).2).2).2.1
   ·have ett5:av .i32 4 v 3 3 b (ae .i64 8 b (ae .i64 8 b (aZ b (ae .i16 2 b (ae .i32 4 b ((e,p):aN)).2).2).2).2).2=(0,(ae .i64 8 b (ae .i64 8 b (aZ b (ae .i16 2 b (ae .i32 4 b ((e,p):aN)).2).2).2).2).2):=by unfold av;rw[if_neg (by rw[htt5];decide)]
    rw[ett5]
    rfl
   ·have ett5:av .i32 4 v 3 3 b (ae .i64 8 b (ae .i64 8 b (aZ b (ae .i16 2 b (ae .i32 4 b ((e,p):aN)).2).2).2).2).2=ae .i32 4 b (ae .i64 8 b (ae .i64 8 b (aZ b (ae .i16 2 b (ae .i32 4 b ((e,p):aN)).2).2).2).2).2:=by unfold av;rw[if_pos htt5]
    rw[ett5]
    refine (aa gtt4 _ _).trans ?_
    have gtt5:au b (ae .i32 4 b (ae .i64 8 b (ae .i64 8 b (aZ b (ae .i16 2 b (ae .i32 4 b ((e,p):aN)).2).2).2).2).2).2.2=true:=bF .i32 4 (s:=(ae .i64 8 b (ae .i64 8 b (aZ b (ae .i16 2 b (ae .i32 4 b ((e,p):aN)).2).2).2).2).2) gtt4
    rfl
@[irreducible] noncomputable def gG (v:Int)(b:List Int)(s:aN):List aF.den×aN:=jP (lm v b) b s
theorem Mf {v:Int}{b:List Int}{s:aN}(h:au b s.2=true):au b (gG v b s).2.2=true:=by
 unfold gG
 exact mZ (fun s h=>DW h) h
abbrev nA:Io:=⟨[.ptr 0 0,.fnc 178 false [2]],zW,[],[.dat (.sl 233 aF) false false],none⟩
def BP (d:nA.In):Tr nA.Res:=.ite (au d.2.2.1.1 d.2.2.1.2.1) (.ret (.ret (((gG d.2.1.2.1 d.2.2.1.1 (mb d.2)).1,()),p8 d.2.1.2.1 d.2.2.1.1 (gG d.2.1.2.1 d.2.2.1.1 (mb d.2)).2))) .no
abbrev Kg:List (Nat×Hc):=[(143,ah fF mG),(178,ah iY xV)]
theorem KY:HcOk prog 177 (ah nA BP):=
 Fi (one:=lm) (sps:=gG) (fun _ _ _=>by unfold gG;rfl) (fun _ _ _ h4=>DW h4) (cs:=Kg) (.cons jL (.cons Pk .nil)) (fn:=Tryz.f177) (by kernel_rfl) (by kernel_rfl) (by kernel_rfl) (by kernel_rfl) (by kernel_rfl) (by kernel_rfl) (by intros;kernel_rfl) (by intros;kernel_rfl)
@[irreducible] noncomputable def ln (v:Int)(b:List Int)(s:aN):af.den×aN:=(((cn b s).1,((gG v b (cn b s).2).1,())),(gG v b (cn b s).2).2)
theorem DY {v:Int}{b:List Int}{s:aN}(h:au b s.2=true):au b (ln v b s).2.2=true:=by
 unfold ln
 exact Mf (qC h)
abbrev gL:Io:=⟨[.ptr 0 0],IF,[],[.dat af true false],none⟩
def uz (d:gL.In):Tr gL.Res:=.ite (au d.2.2.2.1.1 d.2.2.2.1.2.1) (.ret (.ret (((ln d.2.2.1.2.1 d.2.2.2.1.1 (eG d.2.2)).1,()),lE d.2.2.1.2.1 d.2.2.2.1.1 (ln d.2.2.1.2.1 d.2.2.2.1.1 (eG d.2.2)).2))) .no
abbrev yZ:List (Nat×Hc):=[(146,ah pe Mp),(177,ah nA BP)]
def Kw:Hd:=bz yZ
def zQ:Lp:=bo []
def sQ (a0 a1:Int)(a2:List Int)(a3:Int):Option gL.Res:=bif au a2 a3 then bif au a2 (cn a2 (a1,a3)).2.2 then some (Out.ret ((((cn a2 (a1,a3)).1,(gG a0 a2 (cn a2 (a1,a3)).2).1,()),()),((),()),((),a0,(gG a0 a2 (cn a2 (a1,a3)).2).2.1,()),(a2,(gG a0 a2 (cn a2 (a1,a3)).2).2.2,()),())) else none else none
theorem IY (a0 a1:Int)(a2:List Int)(a3:Int):Io.run tt Kw dr zQ gL Tryz.f176 (((),()),((),()),((),a0,a1,()),(a2,a3,()),())=sQ a0 a1 a2 a3:=by kernel_rfl
theorem KZ:HcOk prog 176 (ah gL uz):=by
 refine aj (n:=400) hm (cs:=yZ) (.cons TX (.cons KY .nil)) (lp:=zQ) (fn:=Tryz.f176) (by kernel_rfl) (by kernel_rfl) (by kernel_rfl) gL (.done (by kernel_rfl)) uz ?_
 rintro ⟨⟨⟨⟩,⟨⟩⟩,⟨⟨⟩,⟨⟩⟩,⟨⟨⟩,(v:Int),(e:Int),⟨⟩⟩,⟨(b:List Int),(p:Int),⟨⟩⟩,⟨⟩⟩ out hw ho
 obtain ⟨hg,ho⟩:=Tr.guard ho
 have hg:au b p=true:=hg
 cases ho
 refine (IY v e b p).trans ?_
 unfold sQ
 show _=some (Out.ret (((ln v b (e,p)).1,()),lE v b (ln v b (e,p)).2))
 unfold ln
 refine (aa hg _ _).trans ?_
 exact aa (qC (s:=(e,p)) hg) _ _
@[irreducible] noncomputable def cg (v:Int)(b:List Int)(s:aN):List af.den×aN:=jP (ln v b) b s
theorem Be {v:Int}{b:List Int}{s:aN}(h:au b s.2=true):au b (cg v b s).2.2=true:=by
 unfold cg
 exact mZ (fun s h=>DY h) h
abbrev lM:Io:=⟨[.ptr 0 0,.fnc 176 false [2]],zW,[],[.dat (.sl 230 af) false false],none⟩
def xW (d:lM.In):Tr lM.Res:=.ite (au d.2.2.1.1 d.2.2.1.2.1) (.ret (.ret (((cg d.2.1.2.1 d.2.2.1.1 (mb d.2)).1,()),p8 d.2.1.2.1 d.2.2.1.1 (cg d.2.1.2.1 d.2.2.1.1 (mb d.2)).2))) .no
abbrev Ho:List (Nat×Hc):=[(143,ah fF mG),(176,ah gL uz)]
theorem II:HcOk prog 175 (ah lM xW):=
 Fi (one:=ln) (sps:=cg) (fun _ _ _=>by unfold cg;rfl) (fun _ _ _ h4=>DY h4) (cs:=Ho) (.cons jL (.cons KZ .nil)) (fn:=Tryz.f175) (by kernel_rfl) (by kernel_rfl) (by kernel_rfl) (by kernel_rfl) (by kernel_rfl) (by kernel_rfl) (by intros;kernel_rfl) (by intros;kernel_rfl)
abbrev j1:Io:=⟨[.ptr 0 0,.fnc 176 false [1]],KU,[],[.dat (.sl 230 af) false false],none⟩
def vT (d:j1.In):Tr j1.Res:=.ite (decide (d.2.1.2.2.1≠0)) (.ret (.ret ((([]:List af.den),()),d.2))) .no
abbrev EL:List (Nat×Hc):=[(143,n7 kx (ah jp uw) (ah fF mG))]
theorem FL:HcOk prog 175 (ah j1 vT):=
 Nn (cs:=EL) (.cons (cM xG jL) .nil) (fn:=Tryz.f175) (by kernel_rfl) (by kernel_rfl) (by kernel_rfl) (by kernel_rfl) (by kernel_rfl) (by kernel_rfl) (by intros;kernel_rfl) (by intros;kernel_rfl)
def Y8:bN.den:=(0,(([]:List af.den),()))
def Gg (v:Int)(b:List Int)(s:aN):bN.den×aN:=
 (((av .i32 4 v 2 3 b s).1,((cg v b (av .i32 4 v 2 3 b s).2).1,())),(cg v b (av .i32 4 v 2 3 b s).2).2)
def m2 (v:Int)(b:List Int):bN.den×Int:=if 0≤v∧v≤3∧(b.length:Int)≤130048 then (if bT b (Gg v b (0,0)).2=0 then ((Gg v b (0,0)).1,0) else (Y8,bT b (Gg v b (0,0)).2)) else (Y8,eb v)
abbrev kH:Io:=⟨[dI,dL],[],[],[.dat bN true false,dI],none⟩
def Ef (d:kH.In):Tr kH.Res:=.ret (.ret (((m2 d.1.1 d.1.2.1).1,((m2 d.1.1 d.1.2.1).2,())),()))
abbrev Hn:List (Nat×Hc):=[(139,n7 TL (ah lJ ux) (ah pd Mo)),(140,n7 kx (ah lI Eb) (ah mi BN)),(143,n7 kx (ah jp uw) (ah fF mG)),(175,n7 kx (ah j1 vT) (ah lM xW)),(150,n7 kx (ah lH Ea) (ah pb Mm))]
def SK:Hd:=bz Hn
def Ij:Lp:=bo []
def yy (a0:Int)(a1:List Int):Option kH.Res:=bif !(decide (0≤a0)&&(decide (a0≤3)&&decide ((↑a1.length:Int)≤130048))) then bif decide (0≤a0)&&(decide (a0≤3)&&decide ((↑a1.length:Int)≤130048)) then none else bif decide (eb a0≠0) then bif decide (eb a0≠0) then bif decide (eb a0≠0) then bif eb a0 != 0 then some (Out.ret (((0,[],()),eb a0,()),())) else some (Out.ret (((0,[],()),0,()),())) else none else none else none else bif decide (0≤a0)&&(decide (a0≤3)&&decide ((↑a1.length:Int)≤130048)) then bif bg a0 2 3 0 then bif au a1 0 then bif au a1 (al a1 0 4).2.1 then bif bT a1 (cg a0 a1 ((al a1 0 4).2.2,(al a1 0 4).2.1)).2 != 0 then some (Out.ret (((0,[],()),bT a1 (cg a0 a1 ((al a1 0 4).2.2,(al a1 0 4).2.1)).2,()),())) else some (Out.ret (((IntKind.i32.wrap (al a1 0 4).1,(cg a0 a1 ((al a1 0 4).2.2,(al a1 0 4).2.1)).1,()),0,()),())) else none else none else bif au a1 0 then bif bT a1 (cg a0 a1 (0,0)).2 != 0 then some (Out.ret (((0,[],()),bT a1 (cg a0 a1 (0,0)).2,()),())) else some (Out.ret (((0,(cg a0 a1 (0,0)).1,()),0,()),())) else none else none
theorem PM (a0:Int)(a1:List Int):Io.run tt SK dr Ij kH Tryz.f77 ((a0,a1,()),())=yy a0 a1:=by kernel_rfl
theorem T0:HcOk prog 77 (ah kH Ef):=by
 refine aj (n:=400) hm (cs:=Hn) (.cons (cM N3 TW) (.cons (cM N2 FI) (.cons (cM xG jL) (.cons (cM FL II) (.cons (cM N1 TU) .nil))))) (lp:=Ij) (fn:=Tryz.f77) (by kernel_rfl) (by kernel_rfl) (by kernel_rfl) kH (.done (by kernel_rfl)) Ef ?_
 rintro ⟨⟨(v:Int),(b:List Int),⟨⟩⟩,⟨⟩⟩ out hw ho
 cases ho
 refine (PM v b).trans ?_
 unfold yy
 show _=some (Out.ret (((m2 v b).1,((m2 v b).2,())),()))
 by_cases h:0≤v∧v≤3∧(b.length:Int)≤130048
 ·have hc:(decide (0≤v)&&(decide (v≤3)&&decide ((b.length:Int)≤130048)))=true:=by simpa using h
  refine (ab (by rw[hc];rfl) _ _).trans ?_
  refine (aa hc _ _).trans ?_
  have hg:au b ((0,0):aN).2=true:=by simp[au];omega
  unfold m2 Gg
  rw[if_pos h]
  show (bif bg v 2 3 ((0,0):aN).1 then _ else _)=_
  cases h0:bg v 2 3 ((0,0):aN).1
  ·have e0:av .i32 4 v 2 3 b ((0,0):aN)=(0,((0,0):aN)):=by unfold av;rw[if_neg (by rw[h0];decide)]
   rw[e0]
   refine (aa hg _ _).trans ?_
   have gf1:au b (cg v b ((0,0):aN)).2.2=true:=Be (s:=((0,0):aN)) hg
   show _=some (Out.ret (((if bT b (cg v b ((0,0):aN)).2=0 then _ else _:bN.den×Int).1,_),()))
   by_cases hE:bT b (cg v b ((0,0):aN)).2=0
   ·rw[if_pos hE]
    exact ab (show (bT b (cg v b ((0,0):aN)).2 != 0)=false by simpa using hE) _ _
   ·rw[if_neg hE]
    exact aa (show (bT b (cg v b ((0,0):aN)).2 != 0)=true by simpa using hE) _ _
  ·have e0:av .i32 4 v 2 3 b ((0,0):aN)=ae .i32 4 b ((0,0):aN):=by unfold av;rw[if_pos h0]
   rw[e0]
   refine (aa hg _ _).trans ?_
   have g0:au b (ae .i32 4 b ((0,0):aN)).2.2=true:=bF .i32 4 (s:=((0,0):aN)) hg
   refine (aa g0 _ _).trans ?_
   have gt1:au b (cg v b (ae .i32 4 b ((0,0):aN)).2).2.2=true:=Be (s:=(ae .i32 4 b ((0,0):aN)).2) g0
   show _=some (Out.ret (((if bT b (cg v b (ae .i32 4 b ((0,0):aN)).2).2=0 then _ else _:bN.den×Int).1,_),()))
   by_cases hE:bT b (cg v b (ae .i32 4 b ((0,0):aN)).2).2=0
   ·rw[if_pos hE]
    exact ab (show (bT b (cg v b (ae .i32 4 b ((0,0):aN)).2).2 != 0)=false by simpa using hE) _ _
   ·rw[if_neg hE]
    exact aa (show (bT b (cg v b (ae .i32 4 b ((0,0):aN)).2).2 != 0)=true by simpa using hE) _ _
 ·have hc:(decide (0≤v)&&(decide (v≤3)&&decide ((b.length:Int)≤130048)))=false:=by
   rw[Bool.eq_false_iff]
   intro h'
   simp only[Bool.and_eq_true,decide_eq_true_eq] at h'
   exact h h'
  have hn:eb v≠0:=by unfold eb;split <;> decide
  unfold m2
  rw[if_neg h]
  refine (aa (by rw[hc];rfl) _ _).trans ?_
  refine (ab hc _ _).trans ?_
  repeat refine (aa (decide_eq_true hn) _ _).trans ?_
  exact aa (by simpa using hn) _ _
@[irreducible] def gj (xs:List Int):Nd:=bj (xs.map (aG 4))
theorem ji (xs:List Int):gj xs=bj (xs.map (aG 4)):=by unfold gj;rfl
def AP (x:Nd):Int:=x.lab.2.1
theorem Jt (xs:List Int):(gj xs).kids.map AP=xs:=by
 rw[ji]
 show (xs.map (aG 4)).map AP=xs
 rw[List.map_map]
 exact jg fun x _=>rfl
def wNs (xs:List Int):List Int×Int:=eY (fun x=>(aM x 8,0)) xs
theorem VK {nm nm2:List Int}{lo hi lo2 hi2:Int}{e:List Fd}{v:Int}(xs:List Int):t9 (cE nm 9 lo hi [cE nm2 4 lo2 hi2 e]) v (gj xs)=wNs xs:=by
 rw[ji,iO]
 unfold wNs
 exact dk fun x _=>b8 (by decide) (w:=8) rfl (d9 x)
theorem LR {nm nm2:List Int}{lo hi lo2 hi2:Int}{e:List Fd}{v:Int}(xs:List Int):(aX (cE nm 9 lo hi [cE nm2 4 lo2 hi2 e]) v (gj xs)).2=true:=by
 rw[ji,e9]
 exact List.all_eq_true.2 fun x _=>aS (by decide) (by decide)
theorem JE {xs:List Int}:b9 (gj xs)=((xs.length:Int) == 0):=by
 rw[ji]
 unfold b9
 by_cases h:xs=[]
 ·subst h;rfl
 ·have h1:(xs.map (aG 4)).length≠0:=by simpa using h
  have h2:((xs.length:Int) == 0)=false:=by simpa using h
  rw[h2]
  exact if_neg h1
theorem Gc {nm nm2:List Int}{lo hi lo2 hi2:Int}{e:List Fd}(xs:List Int):fa (cE nm 9 lo hi [cE nm2 4 lo2 hi2 e]) (gj xs):=by
 rw[ji]
 exact dn _ _ fun x=>aL (by decide) (by decide)
theorem Wri.ns (xs:List Int):Wri (wNs xs) (fj xs):=Wri.items fun x _=>Wri.put x 8
theorem Wri.hasNs (v lo hi:Int)(xs:List Int):Wri (if lo≤v∧v≤hi then wNs xs else ([],0)) (jv v lo hi xs):=by
 by_cases h:lo≤v∧v≤hi
 ·rw[if_pos h,show jv v lo hi xs=fj xs from funext fun s=>k9 h]
  exact Wri.ns xs
 ·rw[if_neg h,show jv v lo hi xs=(fun s=>s) from funext fun s=>jH h]
  exact Wri.nop
theorem Rd.ns {b:List Int}{xs:List Int}(hx:∀x∈xs,eE .i64 x):Rd b xs (wNs xs) (aZ b):=
 (Rd.list fun x h=>Rd.num (eg (hx x h))).congr fun s=>by unfold aZ;rfl
theorem Rd.optNs {b:List Int}{xs:List Int}{v lo hi:Int}(hx:∀x∈xs,eE .i64 x)(h0:¬(lo≤v∧v≤hi)→xs=[]):Rd b xs (if lo≤v∧v≤hi then wNs xs else ([],0)) (cO v lo hi b):=by
 by_cases h:lo≤v∧v≤hi
 ·rw[if_pos h]
  intro hz
  have hn:=Rd.ns (b:=b) hx hz
  refine ⟨fun p rest hp hd=>?_,fun p t hp ht hd=>?_,fun s hs=>?_⟩
  ·unfold cO
   rw[if_pos (qB h)];exact hn.full p rest hp hd
  ·unfold cO
   rw[if_pos (qB h)];exact hn.short p t hp ht hd
  ·unfold cO
   rw[if_neg (by rw[AD hs];decide)]
 ·rw[if_neg h]
  intro _
  refine Rea.nop b xs (fun p=>?_) (fun s hs=>?_)
  ·unfold cO
   rw[if_neg (by rw[kZ h];decide),h0 h]
  ·unfold cO
   rw[if_neg (by rw[kZ h];decide)]
theorem S9 {c:Prop}[Decidable c]{x y:Bool}:(if c then true else (x&&y))=((if c then true else x)&&(if c then true else y)):=by split <;> rfl
abbrev zw:Io:=⟨[.dat (.sl 2 (.int .i64)) false false],[],[],[du],none⟩
def Zo (d:zw.In):Tr zw.Res:=.ite (decide (d.1.1.length≤4294967296)) (.ret (.ret ((gj d.1.1,()),()))) .no
abbrev Sq:List (Nat×Hc):=[(181,ah mr BX),(184,ah jt uD)]
def YR:Hd:=bz Sq
abbrev ka:Lo:=⟨⟨(.one (.hol (.sl 2 (Ty.int IntKind.i64)))::.any::.one (.ptr 2 0)::.one (.onl 91 ap 7)::.one (.hol (.int IntKind.i64))::.any::ai []),[none,none,some [.hol (.int IntKind.i64),.hol (.int IntKind.i64),.hol .bool,.onl 5 (Ty.int IntKind.u8) 1032,.onl 91 ap 1034]]⟩,[(.exit 0,⟨(be (.one (.ptr 2 0)::.one (.onl 91 ap 7)::ai (be []))),[none,none,some [.hol (.int IntKind.i64),.hol (.int IntKind.i64),.hol .bool,.onl 5 (Ty.int IntKind.u8) 1032,.onl 91 ap 1034]]⟩)]⟩
def Ez (d:ka.st.den):Tr (ax ka.xs):=
 .ite ((decide (d.1.2.1.length=0)&&decide (d.1.2.2.1=0))&&decide (d.1.1.length≤4294967296)) (.ret (.ret ((),((d.1.1.map (aG 4),()),(d.2.1,()))))) .no
def NV:Lp:=bo [(4,aP ka Ez)]
def D1 {R:Type}(h1:List Int)(h2:List ap.den)(h3 h4 h5:Int)(h6:Bool)(h7:List Int)(h8:List ap.den)(next:List Int→List ap.den→Int→Int→Int→Bool→List Int→List ap.den→Option R)(out:ax ka.xs→Option R):Option R:=bif decide (h3<(↑h1.length:Int)) then bif decide (0≤h3)&&decide (h3<(↑h1.length:Int)) then bif decide (h2.length+1≤4294967296) then next (h1) (h2++[Tre.mk (4,h1.getD h3.toNat 0,false,[],()) []]) (IntKind.i64.wrap (h3+1)) (h4) (h5) (h6) (h7) (h8) else none else none else out (.ret ((),((h2,()),((h4,(h5,(h6,(h7,(h8,()))))),()))))
def Fg (n:Nat)(h1:List Int)(h2:List ap.den)(h3 h4 h5:Int)(h6:Bool)(h7:List Int)(h8:List ap.den):Option (ax ka.xs):=gk tt YR dr NV 0 Tryz.f198 (cI Tryz.f198 0) n (ka.st.mk' ((h1,(h2,(h3,()))),((h4,(h5,(h6,(h7,(h8,()))))),()))) (bI ka.xs)
theorem X8 (n:Nat)(h1:List Int)(h2:List ap.den)(h3 h4 h5:Int)(h6:Bool)(h7:List Int)(h8:List ap.den):Fg (n+1) h1 h2 h3 h4 h5 h6 h7 h8=D1 h1 h2 h3 h4 h5 h6 h7 h8 (Fg n) some:=by kernel_rfl
theorem WZ {xs:List Int}(hl:xs.length≤4294967296)(a' b':Int)(z':Bool)(x':List Int)(l':List Nd):∀(k j:Nat) (o:List Nd),xs.length<j+k→j≤xs.length→o.length≤j→
  Fg k xs o j a' b' z' x' l'=some (.ret ((),((o++(xs.drop j).map (aG 4),()),((a',(b',(z',(x',(l',()))))),())))):=by
 intro k
 induction k with
 |zero=>intro j o h1 h2;omega
 |succ k ih=>
  intro j o h1 h2 h3
  rw[X8]
  unfold D1
  by_cases hj:j<xs.length
  ·refine (aa (decide_eq_true (show (j:Int)<(xs.length:Int) by omega)) _ _).trans ?_
   refine (aa (by simp;omega) _ _).trans ?_
   refine (aa (decide_eq_true (show o.length+1≤4294967296 by omega)) _ _).trans ?_
   rw[az (n:=(j:Int)+1) (by omega) (by omega),List.drop_eq_getElem_cons hj]
   simp only[Int.toNat_natCast,aH hj]
   refine (ih (j+1) (o++[aG 4 xs[j]]) (by omega) (by omega) (by simp;omega)).trans ?_
   simp only[List.map_cons,List.append_assoc,List.singleton_append]
  ·refine (ab (decide_eq_false (show ¬(j:Int)<(xs.length:Int) by omega)) _ _).trans ?_
   rw[List.drop_of_length_le (by omega)]
   simp
def MI (a0:List Int):Option zw.Res:=(Ez ((a0,([],(0,()))),((0,(0,(false,([],([],()))))),()))).run fun y=>match y with | .ret ((),((x23,()),(x24,x25,x26,x27,x28,()),()))=>(some (Out.ret ((Tre.mk (9,0,false,[],()) x23,()),())))
theorem aar (a0:List Int):Io.run tt YR dr NV zw Tryz.f198 ((a0,()),())=MI a0:=by kernel_rfl
theorem Um:HcOk prog 198 (ah zw Zo):=by
 refine aj (n:=400) hm (cs:=Sq) (.cons kU (.cons iK .nil)) (lp:=NV) (fn:=Tryz.f198) (by kernel_rfl) (by kernel_rfl) (by kernel_rfl) zw (.step (h0:=aP ka Ez) (by kernel_rfl) (aw (n:=400) hm (cs:=Sq) (.cons kU (.cons iK .nil)) (lp:=NV) (fn:=Tryz.f198) (.done (by kernel_rfl)) ka Ez ?_) (.done (by kernel_rfl))) Zo ?_
 ·rintro ⟨⟨(xs:List Int),(o:List Nd),(j:Int),⟨⟩⟩,⟨⟨(a':Int),(b':Int),(z':Bool),(x':List Int),(l':List Nd),⟨⟩⟩,⟨⟩⟩⟩ y hw hy
  obtain ⟨hg,hy⟩:=Tr.guard hy
  simp only[Bool.and_eq_true,decide_eq_true_eq] at hg
  obtain ⟨⟨h3,h4⟩,h5⟩:=hg
  have h3:o=[]:=List.eq_nil_of_length_eq_zero h3
  have h4:j=0:=h4
  have h5:xs.length≤4294967296:=h5
  subst h3
  subst h4
  refine ⟨xs.length+1,(WZ h5 a' b' z' x' l' (xs.length+1) 0 [] (by omega) (by omega) (by simp)).trans ?_⟩
  rw[← hy,List.drop_zero]
  rfl
 ·rintro ⟨⟨(xs:List Int),⟨⟩⟩,⟨⟩⟩ out hw ho
  obtain ⟨hg,ho⟩:=Tr.guard ho
  have hg:xs.length≤4294967296:=of_decide_eq_true hg
  cases ho
  refine (aar xs).trans ?_
  unfold MI
  have c1:((decide (([]:List Nd).length=0)&&decide ((0:Int)=0))&&decide (xs.length≤4294967296))=true:=by simpa using hg
  refine (aa c1 _ _).trans ?_
  show _=some (Out.ret ((gj xs,()),()))
  rw[ji]
  rfl
def jU (p:aF.den):Nd:=bH [aG 3 p.1,aG 2 p.2.1,gj p.2.2.1,aG 4 p.2.2.2.1,aG 4 p.2.2.2.2.1,aG 3 p.2.2.2.2.2.1]
theorem VP {p:aF.den}(h:aF.wf p):bH [aG 3 (IntKind.i64.wrap p.1),aG 2 (IntKind.i64.wrap p.2.1),gj p.2.2.1,aG 4 p.2.2.2.1,aG 4 p.2.2.2.2.1,aG 3 (IntKind.i64.wrap p.2.2.2.2.2.1)]=jU p:=by
 rw[lF (n:=p.1) h.1,gB (n:=p.2.1) h.2.1,lF (n:=p.2.2.2.2.2.1) h.2.2.2.2.2.1];rfl
def fc (t:af.den):Nd:=bH [gO t.1,bj (t.2.1.map jU)]
@[irreducible] def bt (m:bN.den):Nd:=bH [aG 3 m.1,bj (m.2.1.map fc)]
def wM (x:Nd):aF.den:=(IntKind.i32.wrap (bf x 0).lab.2.1,(IntKind.i16.wrap (bf x 1).lab.2.1,((bf x 2).kids.map AP,((bf x 3).lab.2.1,((bf x 4).lab.2.1,(IntKind.i32.wrap (bf x 5).lab.2.1,()))))))
def r9 (x:Nd):af.den:=((bf x 0).lab.2.2.2.1,((bf x 1).kids.map wM,()))
@[irreducible] def vM (n:Nd):bN.den:=(IntKind.i32.wrap (bf n 0).lab.2.1,((bf n 1).kids.map r9,()))
theorem Me {p:aF.den}(h:aF.wf p):wM (jU p)=p:=by
 obtain ⟨(ix:Int),(cd:Int),(of:List Int),(ti:Int),(fo:Int),(ep:Int),⟨⟩⟩:=p
 show (IntKind.i32.wrap ix,(IntKind.i16.wrap cd,((gj of).kids.map AP,(ti,(fo,(IntKind.i32.wrap ep,()))))))=_
 rw[Jt,rx (n:=ix) h.1,KE (n:=cd) h.2.1,rx (n:=ep) h.2.2.2.2.2.1]
 try rfl
theorem JJ {t:af.den}(h:af.wf t):r9 (fc t)=t:=by
 obtain ⟨n,l,⟨⟩⟩:=t
 show (n,((l.map jU).map wM,()))=_
 rw[List.map_map,jg (f:=wM ∘ jU) (l:=l) fun p hp=>Me (h.2.1.2 p hp)]
theorem pL {m:bN.den}(h:bN.wf m):vM (bt m)=m:=by
 obtain ⟨(th:Int),(ts:List af.den),⟨⟩⟩:=m
 unfold vM bt
 show (IntKind.i32.wrap th,((ts.map fc).map r9,()))=_
 rw[rx (n:=th) h.1,List.map_map,jg (f:=r9 ∘ fc) (l:=ts) fun t ht=>JJ (h.2.1.2 t ht)]
abbrev hY:Io:=⟨[.dat bN true false],[],[],[du],none⟩
def lk (t:af.den):Bool:=decide (t.2.1.length≤4294967296)&&t.2.1.all fun p=>decide (p.2.2.1.length≤4294967296)
def da (l:List af.den):Bool:=decide (l.length≤4294967296)&&l.all lk
def sG (d:hY.In):Tr hY.Res:=.ite (da d.1.1.2.1) (.ret (.ret ((bt d.1.1,()),()))) .no
abbrev p7:List (Nat×Hc):=[(181,ah mr BX),(180,ah nN Gw),(183,ah j5 yi),(184,ah jt uD),(198,ah zw Zo)]
def uR:Hd:=bz p7
abbrev dR:Lo:=⟨⟨(.any::.one (.ptr 1 0)::.one (.ptr 2 0)::.one (.onl 91 ap 7)::.one (.hol (.int IntKind.i64))::.one (.onl 91 ap 11)::.one (.hol (.int IntKind.i64))::ai (ai (ai (ai (ai []))))),[none,some [.hol (.int IntKind.i32),.hol (.sl 230 af)],some [.hol (.int IntKind.i64),.hol (.int IntKind.i64),.hol .bool,.onl 5 (Ty.int IntKind.u8) 1032,.onl 91 ap 1034]]⟩,[(.exit 2,⟨(.any::.one (.ptr 1 0)::.one (.ptr 2 0)::.one (.onl 91 ap 7)::.one (.hol (.int IntKind.i64))::.one (.onl 91 ap 11)::.any::ai (ai (ai (ai (ai []))))),[none,some [.hol (.int IntKind.i32),.hol (.sl 230 af)],some [.hol (.int IntKind.i64),.hol (.int IntKind.i64),.hol .bool,.onl 5 (Ty.int IntKind.u8) 1032,.onl 91 ap 1034]]⟩)]⟩
abbrev dQ:Lo:=⟨⟨(.any::.one (.ptr 1 0)::.one (.ptr 2 0)::.one (.onl 91 ap 7)::.one (.hol (.int IntKind.i64))::ai (ai (ai (ai (ai (be [])))))),[none,some [.hol (.int IntKind.i32),.hol (.sl 230 af)],some [.hol (.int IntKind.i64),.hol (.int IntKind.i64),.hol .bool,.onl 5 (Ty.int IntKind.u8) 1032,.onl 91 ap 1034]]⟩,[(.exit 0,⟨(.any::.one (.ptr 1 0)::.one (.ptr 2 0)::.one (.onl 91 ap 7)::.any::ai (ai (ai (ai (ai (be [])))))),[none,some [.hol (.int IntKind.i32),.hol (.sl 230 af)],some [.hol (.int IntKind.i64),.hol (.int IntKind.i64),.hol .bool,.onl 5 (Ty.int IntKind.u8) 1032,.onl 91 ap 1034]]⟩)]⟩
def m9 (d:dR.st.den):Tr (ax dR.xs):=
 .ite ((decide ((0:Int)≤d.1.2.1)&&decide (d.1.2.1<(d.2.1.2.1.length:Int)))&&((decide (d.1.2.2.1.length=0)&&decide (d.1.2.2.2.1=0))&&lk (d.2.1.2.1.getD d.1.2.1.toNat af.zero)))
  (.ret (.ret ((),((d.1.1,(d.1.2.1,((d.2.1.2.1.getD d.1.2.1.toNat af.zero).2.1.map jU,()))),(d.2.1,(d.2.2.1,())))))) .no
def m8 (d:dQ.st.den):Tr (ax dQ.xs):=
 .ite ((decide (d.1.1.length=0)&&decide (d.1.2.1=0))&&da d.2.1.2.1)
  (.ret (.ret ((),((d.2.1.2.1.map fc,()),(d.2.1,(d.2.2.1,())))))) .no
def ko:Lp:=bo [(4,aP dQ m8),(8,aP dR m9)]
def rf {R:Type}(h11:List ap.den)(h12:Int)(h13:List ap.den)(h14 h15:Int)(h16:List af.den)(h17 h18:Int)(h19:Bool)(h20:List Int)(h21:List ap.den)(next:List ap.den→Int→List ap.den→Int→Int→List af.den→Int→Int→Bool→List Int→List ap.den→Option R)(out:ax dR.xs→Option R):Option R:=bif decide (0≤h12)&&decide (h12<(↑h16.length:Int)) then bif decide (h14<(↑(List.length (h16.getD h12.toNat ([],[],())).2.1):Int)) then bif decide (0≤h12)&&decide (h12<(↑h16.length:Int)) then bif decide (0≤h14)&&decide (h14<(↑(List.length (h16.getD h12.toNat ([],[],())).2.1):Int)) then bif decide (List.length (List.getD (h16.getD h12.toNat ([],[],())).2.1 h14.toNat (0,0,[],0,0,0,())).2.2.1≤4294967296) then bif decide (h13.length+1≤4294967296) then next (h11) (h12) (h13++[Tre.mk (10,0,false,[],()) [Tre.mk (3,IntKind.i64.wrap (List.getD (h16.getD h12.toNat ([],[],())).2.1 h14.toNat (0,0,[],0,0,0,())).1,false,[],()) [],Tre.mk (2,IntKind.i64.wrap (List.getD (h16.getD h12.toNat ([],[],())).2.1 h14.toNat (0,0,[],0,0,0,())).2.1,false,[],()) [],Tre.mk (gj (List.getD (h16.getD h12.toNat ([],[],())).2.1 h14.toNat (0,0,[],0,0,0,())).2.2.1).1 (gj (List.getD (h16.getD h12.toNat ([],[],())).2.1 h14.toNat (0,0,[],0,0,0,())).2.2.1).2,Tre.mk (4,(List.getD (h16.getD h12.toNat ([],[],())).2.1 h14.toNat (0,0,[],0,0,0,())).2.2.2.1,false,[],()) [],Tre.mk (4,(List.getD (h16.getD h12.toNat ([],[],())).2.1 h14.toNat (0,0,[],0,0,0,())).2.2.2.2.1,false,[],()) [],Tre.mk (3,IntKind.i64.wrap (List.getD (h16.getD h12.toNat ([],[],())).2.1 h14.toNat (0,0,[],0,0,0,())).2.2.2.2.2.1,false,[],()) []]]) (IntKind.i64.wrap (h14+1)) (h15) (h16) (h17) (h18) (h19) (h20) (h21) else none else none else none else none else out (.ret ((),((h11,(h12,(h13,()))),((h15,(h16,())),((h17,(h18,(h19,(h20,(h21,()))))),()))))) else none
def lX (n:Nat)(h11:List ap.den)(h12:Int)(h13:List ap.den)(h14 h15:Int)(h16:List af.den)(h17 h18:Int)(h19:Bool)(h20:List Int)(h21:List ap.den):Option (ax dR.xs):=gk tt uR dr ko 0 Tryz.f121 (vQ Tryz.f121 (cI Tryz.f121 0) 0) n (dR.st.mk' ((h11,(h12,(h13,(h14,())))),((h15,(h16,())),((h17,(h18,(h19,(h20,(h21,()))))),())))) (bI dR.xs)
theorem Je (n:Nat)(h11:List ap.den)(h12:Int)(h13:List ap.den)(h14 h15:Int)(h16:List af.den)(h17 h18:Int)(h19:Bool)(h20:List Int)(h21:List ap.den):lX (n+1) h11 h12 h13 h14 h15 h16 h17 h18 h19 h20 h21=rf h11 h12 h13 h14 h15 h16 h17 h18 h19 h20 h21 (lX n) some:=by kernel_rfl
def rc {R:Type}(h2:List ap.den)(h3 h4:Int)(h5:List af.den)(h6 h7:Int)(h8:Bool)(h9:List Int)(h10:List ap.den)(next:List ap.den→Int→Int→List af.den→Int→Int→Bool→List Int→List ap.den→Option R)(out:ax dQ.xs→Option R):Option R:=bif decide (h3<(↑h5.length:Int)) then (m9 ((h2,(h3,([],(0,())))),((h4,(h5,())),((h6,(h7,(h8,(h9,(h10,()))))),())))).run fun y=>match y with | .ret ((),((x43,x44,x45,()),(x46,x47,()),(x48,x49,x50,x51,x52,()),()))=>(bif decide (0≤x44)&&decide (x44<(↑x47.length:Int)) then bif decide (x43.length+1≤4294967296) then next (x43++[Tre.mk (10,0,false,[],()) [Tre.mk (5,0,false,(x47.getD x44.toNat ([],[],())).1,()) [],Tre.mk (9,0,false,[],()) x45]]) (IntKind.i64.wrap (x44+1)) (x46) (x47) (x48) (x49) (x50) (x51) (x52) else none else none) else out (.ret ((),((h2,()),((h4,(h5,())),((h6,(h7,(h8,(h9,(h10,()))))),())))))
def lW (n:Nat)(h2:List ap.den)(h3 h4:Int)(h5:List af.den)(h6 h7:Int)(h8:Bool)(h9:List Int)(h10:List ap.den):Option (ax dQ.xs):=gk tt uR dr ko 0 Tryz.f121 (cI Tryz.f121 0) n (dQ.st.mk' ((h2,(h3,())),((h4,(h5,())),((h6,(h7,(h8,(h9,(h10,()))))),())))) (bI dQ.xs)
theorem Jd (n:Nat)(h2:List ap.den)(h3 h4:Int)(h5:List af.den)(h6 h7:Int)(h8:Bool)(h9:List Int)(h10:List ap.den):lW (n+1) h2 h3 h4 h5 h6 h7 h8 h9 h10=rc h2 h3 h4 h5 h6 h7 h8 h9 h10 (lW n) some:=by kernel_rfl
theorem BC {ts:List af.den}(hw:∀t∈ts,af.wf t)(hl:ts.length≤maxLen){i:Nat}(hi:i<ts.length)(hp:(ts[i]).2.1.length≤4294967296)(hq:∀p∈(ts[i]).2.1,p.2.2.1.length≤4294967296)(acc:List Nd)(th a' b':Int)(z':Bool)(x':List Int)(l':List Nd):∀(k j:Nat) (o:List Nd),(ts[i]).2.1.length<j+k→j≤(ts[i]).2.1.length→o.length≤j→
  lX k acc i o j th ts a' b' z' x' l'=some (.ret ((),((acc,((i:Int),(o++((ts[i]).2.1.drop j).map jU,()))),((th,(ts,())),((a',(b',(z',(x',(l',()))))),()))))):=by
 intro k
 induction k with
 |zero=>intro j o h1 h2;omega
 |succ k ih=>
  intro j o h1 h2 h3
  rw[Je]
  unfold rf
  refine (aa (by simp;omega) _ _).trans ?_
  have hti:=hw _ (List.getElem_mem hi)
  simp only[Int.toNat_natCast,aH hi]
  generalize ts[i]=t at hp hq h1 h2 ih hti ⊢
  by_cases hj:j<t.2.1.length
  ·refine (aa (decide_eq_true (show (j:Int)<(t.2.1.length:Int) by omega)) _ _).trans ?_
   refine (aa (by simp;omega) _ _).trans ?_
   refine (aa (by simp;omega) _ _).trans ?_
   refine (aa (decide_eq_true (show (List.getD t.2.1 j aF.zero).2.2.1.length≤4294967296 by rw[aH hj];exact hq _ (List.getElem_mem hj))) _ _).trans ?_
   refine (aa (decide_eq_true (show o.length+1≤4294967296 by omega)) _ _).trans ?_
   have hpw:=hti.2.1.2 _ (List.getElem_mem hj)
   have ih':=ih (j+1) (o++[jU t.2.1[j]]) (by omega) (by omega) (by simp;omega)
   have hd:t.2.1.drop j=t.2.1[j]::t.2.1.drop (j+1):=List.drop_eq_getElem_cons hj
   rw[hd,az (n:=(j:Int)+1) (by omega) (by omega)]
   have hgp:List.getD t.2.1 ((j:Int)).toNat aF.zero=t.2.1[j]:=by simp only[Int.toNat_natCast];exact aH hj
   refine Eq.trans ?_ (ih'.trans ?_)
   ·refine congrArg (fun x=>lX k acc i (o++[x]) _ th ts a' b' z' x' l') ?_
    have eta:∀q:Nd,Tre.mk q.lab q.kids=q:=fun q=>by cases q;rfl
    simp only[aH hj,eta]
    exact VP hpw
   ·simp only[List.map_cons,List.append_assoc,List.singleton_append]
  ·refine (ab (decide_eq_false (show ¬(j:Int)<(t.2.1.length:Int) by omega)) _ _).trans ?_
   rw[List.drop_of_length_le (by omega)]
   simp
theorem BB {ts:List af.den}(hw:∀t∈ts,af.wf t)(hl:ts.length≤maxLen)(hs:da ts=true)(th a' b':Int)(z':Bool)(x':List Int)(l':List Nd):∀(k j:Nat) (o:List Nd),ts.length<j+k→j≤ts.length→o.length≤j→
  lW k o j th ts a' b' z' x' l'=some (.ret ((),((o++(ts.drop j).map fc,()),((th,(ts,())),((a',(b',(z',(x',(l',()))))),()))))):=by
 intro k
 have hs1:=(Bool.and_eq_true _ _▸hs).1
 have hs2:=(Bool.and_eq_true _ _▸hs).2
 have hs1:ts.length≤4294967296:=of_decide_eq_true hs1
 induction k with
 |zero=>intro j o h1 h2;omega
 |succ k ih=>
  intro j o h1 h2 h3
  rw[Jd]
  unfold rc
  by_cases hj:j<ts.length
  ·refine (aa (decide_eq_true (show (j:Int)<(ts.length:Int) by omega)) _ _).trans ?_
   have hgp:ts.getD ((j:Int)).toNat af.zero=ts[j]:=by simp only[Int.toNat_natCast];exact aH hj
   have hpl:lk ts[j]=true:=List.all_eq_true.1 hs2 _ (List.getElem_mem hj)
   have c8:((decide ((0:Int)≤(j:Int))&&decide ((j:Int)<(ts.length:Int)))&&((decide (([]:List Nd).length=0)&&decide ((0:Int)=0))&&lk (ts.getD ((j:Int)).toNat af.zero)))=true:=by
    rw[hgp,hpl];simp;omega
   refine (aa c8 _ _).trans ?_
   refine (aa (by simp;omega) _ _).trans ?_
   refine (aa (decide_eq_true (show o.length+1≤4294967296 by omega)) _ _).trans ?_
   rw[az (n:=(j:Int)+1) (by omega) (by omega)]
   have ih':=ih (j+1) (o++[fc ts[j]]) (by omega) (by omega) (by simp;omega)
   have hd:ts.drop j=ts[j]::ts.drop (j+1):=List.drop_eq_getElem_cons hj
   rw[hd]
   refine Eq.trans ?_ (ih'.trans ?_)
   ·refine congrArg (fun x=>lW k (o++[x]) _ th ts a' b' z' x' l') ?_
    show (bH [gO (ts.getD ((j:Int)).toNat af.zero).1,bj ((ts.getD ((j:Int)).toNat af.zero).2.1.map jU)])=_
    rw[hgp];rfl
   ·simp only[List.map_cons,List.append_assoc,List.singleton_append]
  ·refine (ab (decide_eq_false (show ¬(j:Int)<(ts.length:Int) by omega)) _ _).trans ?_
   rw[List.drop_of_length_le (by omega)]
   simp
def wj (a0:Int)(a1:List af.den):Option hY.Res:=(m8 (([],(0,())),((a0,(a1,())),((0,(0,(false,([],([],()))))),())))).run fun y=>match y with | .ret ((),((x70,()),(x71,x72,()),(x73,x74,x75,x76,x77,()),()))=>(some (Out.ret ((Tre.mk (10,0,false,[],()) [Tre.mk (3,IntKind.i64.wrap x71,false,[],()) [],Tre.mk (9,0,false,[],()) x70],()),())))
theorem LC (a0:Int)(a1:List af.den):Io.run tt uR dr ko hY Tryz.f121 (((a0,a1,()),()),())=wj a0 a1:=by kernel_rfl
theorem DC:HcOk prog 121 (ah hY sG):=by
 refine aj (n:=400) hm (cs:=p7) (.cons kU (.cons n6 (.cons kc (.cons iK (.cons Um .nil))))) (lp:=ko) (fn:=Tryz.f121) (by kernel_rfl) (by kernel_rfl) (by kernel_rfl) hY (.step (h0:=aP dQ m8) (by kernel_rfl) (aw (n:=400) hm (cs:=p7) (.cons kU (.cons n6 (.cons kc (.cons iK (.cons Um .nil))))) (lp:=ko) (fn:=Tryz.f121) (.step (h0:=aP dR m9) (by kernel_rfl) (aw (n:=400) hm (cs:=p7) (.cons kU (.cons n6 (.cons kc (.cons iK (.cons Um .nil))))) (lp:=ko) (fn:=Tryz.f121) (.done (by kernel_rfl)) dR m9 ?_) (.done (by kernel_rfl))) dQ m8 ?_) (.done (by kernel_rfl))) sG ?_
 ·rintro ⟨⟨(acc:List Nd),(i:Int),(o:List Nd),(j:Int),⟨⟩⟩,⟨⟨(th:Int),(ts:List af.den),⟨⟩⟩,⟨(a':Int),(b':Int),(z':Bool),(x':List Int),(l':List Nd),⟨⟩⟩,⟨⟩⟩⟩ y hw hy
  obtain ⟨hg,hy⟩:=Tr.guard hy
  simp only[Bool.and_eq_true,decide_eq_true_eq] at hg
  obtain ⟨⟨h1,h2⟩,⟨h3,h4⟩,h5⟩:=hg
  have h1:0≤i:=h1
  have h2:i<(ts.length:Int):=h2
  have h3:o=[]:=List.eq_nil_of_length_eq_zero h3
  have h4:j=0:=h4
  obtain ⟨i,rfl⟩:=dZ h1
  subst h3
  subst h4
  have hi:i<ts.length:=by omega
  have hgp:ts.getD ((i:Int)).toNat af.zero=ts[i]:=by simp only[Int.toNat_natCast];exact aH hi
  have h5:lk (ts.getD ((i:Int)).toNat af.zero)=true:=h5
  rw[hgp] at h5
  unfold lk at h5
  simp only[Bool.and_eq_true,decide_eq_true_eq] at h5
  obtain ⟨h5,h6⟩:=h5
  have h6:∀p∈(ts[i]).2.1,p.2.2.1.length≤4294967296:=fun p hp=>of_decide_eq_true (List.all_eq_true.1 h6 p hp)
  have hwt:ts.length≤maxLen∧∀t∈ts,af.wf t:=by have:=hw.2.1.2.1;exact this
  refine ⟨(ts[i]).2.1.length+1,(BC hwt.2 hwt.1 hi h5 h6 acc th a' b' z' x' l' ((ts[i]).2.1.length+1) 0 [] (by omega) (by omega) (by simp)).trans ?_⟩
  rw[← hy,← hgp,List.drop_zero]
  rfl
 ·rintro ⟨⟨(o:List Nd),(j:Int),⟨⟩⟩,⟨⟨(th:Int),(ts:List af.den),⟨⟩⟩,⟨(a':Int),(b':Int),(z':Bool),(x':List Int),(l':List Nd),⟨⟩⟩,⟨⟩⟩⟩ y hw hy
  obtain ⟨hg,hy⟩:=Tr.guard hy
  simp only[Bool.and_eq_true,decide_eq_true_eq] at hg
  obtain ⟨⟨h3,h4⟩,h5⟩:=hg
  have h3:o=[]:=List.eq_nil_of_length_eq_zero h3
  have h4:j=0:=h4
  have h5:da ts=true:=h5
  subst h3
  subst h4
  have hwt:ts.length≤maxLen∧∀t∈ts,af.wf t:=by have:=hw.2.1.2.1;exact this
  refine ⟨ts.length+1,(BB hwt.2 hwt.1 h5 th a' b' z' x' l' (ts.length+1) 0 [] (by omega) (by omega) (by simp)).trans ?_⟩
  rw[← hy,List.drop_zero]
  rfl
 ·rintro ⟨⟨⟨(th:Int),(ts:List af.den),⟨⟩⟩,⟨⟩⟩,⟨⟩⟩ out hw ho
  obtain ⟨hg,ho⟩:=Tr.guard ho
  have hg:da ts=true:=hg
  cases ho
  refine (LC th ts).trans ?_
  unfold wj
  have c1:((decide (([]:List Nd).length=0)&&decide ((0:Int)=0))&&da ts)=true:=by rw[hg];rfl
  refine (aa c1 _ _).trans ?_
  show _=some (Out.ret ((bt (th,(ts,())),()),()))
  unfold bt
  have hth:IntKind.i64.wrap th=th:=lF hw.1.1.1
  show some (Out.ret ((bH [aG 3 (IntKind.i64.wrap th),bj (ts.map fc)],()),()))=_
  rw[hth]
abbrev nR:Io:=⟨[du],[],[],[.dat bN true false],none⟩
def J1 (d:nR.In):Tr nR.Res:=.ite (decide (aO d.1.1≤4294967296)) (.ret (.ret ((vM d.1.1,()),()))) .no
abbrev s5:List (Nat×Hc):=[(164,ah tl Ri)]
def xz:Hd:=bz s5
abbrev eX:Lo:=⟨⟨(be (.one (.ptr 2 0)::.one (.ptr 3 0)::.one (.hol (.sl 91 ap))::.one (.hol (.int IntKind.i64))::.one (.ptr 6 0)::.one (.hol (.sl 91 ap))::.one (.hol (.int IntKind.i64))::.one (.ptr 9 0)::.one (.ptr 10 0)::.one (.hol (.sl 91 ap))::.one (.hol (.int IntKind.i64))::ai (ai (ai (ai (ai (dE (bJ [])))))))),[none,none,some [.hol (.int IntKind.i32),.onl 230 af 1028],some [.hol (.int IntKind.i32),.onl 230 af 1540],none,none,some [.hol .str,.onl 233 aF 3076],none,none,some [.hol (.int IntKind.i64),.hol (.int IntKind.i64),.hol .bool,.hol (.sl 5 (Ty.int IntKind.u8)),.hol (.sl 91 ap)],some [.hol (.int IntKind.i32),.hol (.int IntKind.i16),.onl 2 (Ty.int IntKind.i64) 5126,.hol (.int IntKind.i64),.hol (.int IntKind.i64),.hol (.int IntKind.i32)]]⟩,[(.exit 4,⟨(be (.one (.ptr 2 0)::.one (.ptr 3 0)::.one (.hol (.sl 91 ap))::.one (.hol (.int IntKind.i64))::.one (.ptr 6 0)::.one (.hol (.sl 91 ap))::.one (.hol (.int IntKind.i64))::.one (.ptr 9 0)::.one (.ptr 10 0)::ai (ai (ai (ai (ai (dE (bJ (be []))))))))),[none,none,some [.hol (.int IntKind.i32),.onl 230 af 1028],some [.hol (.int IntKind.i32),.onl 230 af 1540],none,none,some [.hol .str,.onl 233 aF 3076],none,none,some [.hol (.int IntKind.i64),.hol (.int IntKind.i64),.hol .bool,.hol (.sl 5 (Ty.int IntKind.u8)),.hol (.sl 91 ap)],some [.hol (.int IntKind.i32),.hol (.int IntKind.i16),.onl 2 (Ty.int IntKind.i64) 5126,.hol (.int IntKind.i64),.hol (.int IntKind.i64),.hol (.int IntKind.i32)]]⟩)]⟩
abbrev eU:Lo:=⟨⟨(be (.one (.ptr 2 0)::.one (.ptr 3 0)::.one (.hol (.sl 91 ap))::.one (.hol (.int IntKind.i64))::.one (.ptr 6 0)::.one (.hol (.sl 91 ap))::.one (.hol (.int IntKind.i64))::ai (ai (ai (ai (ai (ai ([])))))))),[none,none,some [.hol (.int IntKind.i32),.onl 230 af 1028],some [.hol (.int IntKind.i32),.onl 230 af 1540],none,none,some [.hol .str,.onl 233 aF 3076]]⟩,[(.exit 2,⟨(be (.one (.ptr 2 0)::.one (.ptr 3 0)::.one (.hol (.sl 91 ap))::.one (.hol (.int IntKind.i64))::.one (.ptr 6 0)::ai (ai (ai (ai (ai (ai (be [])))))))),[none,none,some [.hol (.int IntKind.i32),.onl 230 af 1028],some [.hol (.int IntKind.i32),.onl 230 af 1540],none,none,some [.hol .str,.onl 233 aF 3076]]⟩)]⟩
abbrev f5:Lo:=⟨⟨(be (.one (.ptr 2 0)::.one (.ptr 3 0)::.one (.hol (.sl 91 ap))::.one (.hol (.int IntKind.i64))::.any::ai (ai (ai (ai (ai (ai (be [])))))))),[none,none,some [.hol (.int IntKind.i32),.onl 230 af 1028],some [.hol (.int IntKind.i32),.onl 230 af 1540]]⟩,[(.exit 0,⟨(be (.one (.ptr 2 0)::.one (.ptr 3 0)::.any::ai (ai (ai (ai (ai (ai (bJ [])))))))),[none,none,some [.hol (.int IntKind.i32),.onl 230 af 1028],some [.hol (.int IntKind.i32),.onl 230 af 1540]]⟩)]⟩
def p4 (d:eX.st.den):Tr (ax eX.xs):=
 .ite ((decide (d.1.2.2.2.2.2.1=0)&&decide (d.2.2.2.2.2.1.2.2.1.length=0))&&decide (d.1.2.2.2.2.1.length≤4294967296))
  (.ret (.ret ((),((d.1.1,(d.1.2.1,(d.1.2.2.1,(d.1.2.2.2.1,())))),(d.2.1,(d.2.2.1,(d.2.2.2.1,(d.2.2.2.2.1,((d.2.2.2.2.2.1.1,(d.2.2.2.2.2.1.2.1,(d.1.2.2.2.2.1.map AP,d.2.2.2.2.2.1.2.2.2))),()))))))))) .no
def p3 (d:eU.st.den):Tr (ax eU.xs):=
 .ite ((decide (d.1.2.2.2.1=0)&&decide (d.2.2.2.1.2.1.length=0))&&decide (aD d.1.2.2.1≤4294967296))
  (.ret (.ret ((),((d.1.1,(d.1.2.1,())),(d.2.1,(d.2.2.1,((d.2.2.2.1.1,(d.1.2.2.1.map wM,())),()))))))) .no
def sH (d:f5.st.den):Tr (ax f5.xs):=
 .ite ((decide (d.1.2.1=0)&&decide (d.2.2.1.2.1.length=0))&&decide (aD d.1.1≤4294967296))
  (.ret (.ret ((),((),(d.2.1,((d.2.2.1.1,(d.1.1.map r9,())),())))))) .no
def lZ:Lp:=bo [(5,aP f5 sH),(10,aP eU p3),(16,aP eX p4)]
def ut {R:Type}(h17:List (Nd))(h18:Int)(h19:List (Nd))(h20:Int)(h21:List (Nd))(h22 h23:Int)(h24:List af.den)(h25:Int)(h26:List af.den)(h27:List Int)(h28:List aF.den)(h29 h30:Int)(h31:Bool)(h32:List Int)(h33:List (Nd))(h34 h35:Int)(h36:List Int)(h37 h38 h39:Int)(next:List (Nd)→Int→List (Nd)→Int→List (Nd)→Int→Int→List af.den→Int→List af.den→List Int→List aF.den→Int→Int→Bool→List Int→List (Nd)→Int→Int→List Int→Int→Int→Int→Option R)(out:ax eX.xs→Option R):Option R:=bif decide (h22<(↑h21.length:Int)) then bif decide (0≤h22)&&decide (h22<(↑h21.length:Int)) then bif decide (h36.length+1≤4294967296) then next (h17) (h18) (h19) (h20) (h21) (IntKind.i64.wrap (h22+1)) (h23) (h24) (h25) (h26) (h27) (h28) (h29) (h30) (h31) (h32) (h33) (h34) (h35) (h36++[(h21.getD h22.toNat (Tre.mk (0,0,false,[],()) [])).1.2.1]) (h37) (h38) (h39) else none else none else out (.ret ((),((h17,(h18,(h19,(h20,())))),((h23,(h24,())),((h25,(h26,())),((h27,(h28,())),((h29,(h30,(h31,(h32,(h33,()))))),((h34,(h35,(h36,(h37,(h38,(h39,())))))),()))))))))
def rQ (n:Nat)(h17:List (Nd))(h18:Int)(h19:List (Nd))(h20:Int)(h21:List (Nd))(h22 h23:Int)(h24:List af.den)(h25:Int)(h26:List af.den)(h27:List Int)(h28:List aF.den)(h29 h30:Int)(h31:Bool)(h32:List Int)(h33:List (Nd))(h34 h35:Int)(h36:List Int)(h37 h38 h39:Int):Option (ax eX.xs):=gk tt xz dr lZ 0 Tryz.f80 (vQ Tryz.f80 (vQ Tryz.f80 (cI Tryz.f80 0) 0) 0) n (eX.st.mk' ((h17,(h18,(h19,(h20,(h21,(h22,())))))),((h23,(h24,())),((h25,(h26,())),((h27,(h28,())),((h29,(h30,(h31,(h32,(h33,()))))),((h34,(h35,(h36,(h37,(h38,(h39,())))))),()))))))) (bI eX.xs)
theorem LO (n:Nat)(h17:List (Nd))(h18:Int)(h19:List (Nd))(h20:Int)(h21:List (Nd))(h22 h23:Int)(h24:List af.den)(h25:Int)(h26:List af.den)(h27:List Int)(h28:List aF.den)(h29 h30:Int)(h31:Bool)(h32:List Int)(h33:List (Nd))(h34 h35:Int)(h36:List Int)(h37 h38 h39:Int):rQ (n+1) h17 h18 h19 h20 h21 h22 h23 h24 h25 h26 h27 h28 h29 h30 h31 h32 h33 h34 h35 h36 h37 h38 h39=ut h17 h18 h19 h20 h21 h22 h23 h24 h25 h26 h27 h28 h29 h30 h31 h32 h33 h34 h35 h36 h37 h38 h39 (rQ n) some:=by kernel_rfl
def ur {R:Type}(h7:List (Nd))(h8:Int)(h9:List (Nd))(h10 h11:Int)(h12:List af.den)(h13:Int)(h14:List af.den)(h15:List Int)(h16:List aF.den)(next:List (Nd)→Int→List (Nd)→Int→Int→List af.den→Int→List af.den→List Int→List aF.den→Option R)(out:ax eU.xs→Option R):Option R:=bif decide (h10<(↑h9.length:Int)) then bif decide (0≤h10)&&decide (h10<(↑h9.length:Int)) then (p4 ((h7,(h8,(h9,(h10,((bf (Tre.mk (h9.getD h10.toNat (Tre.mk (0,0,false,[],()) [])).1 (h9.getD h10.toNat (Tre.mk (0,0,false,[],()) [])).2) 2).2,(0,())))))),((h11,(h12,())),((h13,(h14,())),((h15,(h16,())),(((h9.getD h10.toNat (Tre.mk (0,0,false,[],()) [])).1.1,((h9.getD h10.toNat (Tre.mk (0,0,false,[],()) [])).1.2.1,((h9.getD h10.toNat (Tre.mk (0,0,false,[],()) [])).1.2.2.1,((h9.getD h10.toNat (Tre.mk (0,0,false,[],()) [])).1.2.2.2.1,((h9.getD h10.toNat (Tre.mk (0,0,false,[],()) [])).2,()))))),((IntKind.i32.wrap (bf (Tre.mk (h9.getD h10.toNat (Tre.mk (0,0,false,[],()) [])).1 (h9.getD h10.toNat (Tre.mk (0,0,false,[],()) [])).2) 0).1.2.1,(IntKind.i16.wrap (bf (Tre.mk (h9.getD h10.toNat (Tre.mk (0,0,false,[],()) [])).1 (h9.getD h10.toNat (Tre.mk (0,0,false,[],()) [])).2) 1).1.2.1,([],(0,(0,(0,())))))),()))))))).run fun y=>match y with | .ret ((),((x84,x85,x86,x87,()),(x88,x89,()),(x90,x91,()),(x92,x93,()),(x94,x95,x96,x97,x98,()),(x99,x100,x101,x102,x103,x104,()),()))=>(bif decide (x93.length+1≤4294967296) then next (x84) (x85) (x86) (IntKind.i64.wrap (x87+1)) (x88) (x89) (x90) (x91) (x92) (x93++[(x99,x100,x101,(bf (Tre.mk (x94,x95,x96,x97,()) x98) 3).1.2.1,(bf (Tre.mk (x94,x95,x96,x97,()) x98) 4).1.2.1,IntKind.i32.wrap (bf (Tre.mk (x94,x95,x96,x97,()) x98) 5).1.2.1,())]) else none) else none else out (.ret ((),((h7,(h8,())),((h11,(h12,())),((h13,(h14,())),((h15,(h16,())),()))))))
def nW (n:Nat)(h7:List (Nd))(h8:Int)(h9:List (Nd))(h10 h11:Int)(h12:List af.den)(h13:Int)(h14:List af.den)(h15:List Int)(h16:List aF.den):Option (ax eU.xs):=gk tt xz dr lZ 0 Tryz.f80 (vQ Tryz.f80 (cI Tryz.f80 0) 0) n (eU.st.mk' ((h7,(h8,(h9,(h10,())))),((h11,(h12,())),((h13,(h14,())),((h15,(h16,())),()))))) (bI eU.xs)
theorem LN (n:Nat)(h7:List (Nd))(h8:Int)(h9:List (Nd))(h10 h11:Int)(h12:List af.den)(h13:Int)(h14:List af.den)(h15:List Int)(h16:List aF.den):nW (n+1) h7 h8 h9 h10 h11 h12 h13 h14 h15 h16=ur h7 h8 h9 h10 h11 h12 h13 h14 h15 h16 (nW n) some:=by kernel_rfl
def w5 {R:Type}(h1:List (Nd))(h2 h3:Int)(h4:List af.den)(h5:Int)(h6:List af.den)(next:List (Nd)→Int→Int→List af.den→Int→List af.den→Option R)(out:ax f5.xs→Option R):Option R:=bif decide (h2<(↑h1.length:Int)) then bif decide (0≤h2)&&decide (h2<(↑h1.length:Int)) then bif decide (0≤h2)&&decide (h2<(↑h1.length:Int)) then (p3 ((h1,(h2,((bf (Tre.mk (h1.getD h2.toNat (Tre.mk (0,0,false,[],()) [])).1 (h1.getD h2.toNat (Tre.mk (0,0,false,[],()) [])).2) 1).2,(0,())))),((h3,(h4,())),((h5,(h6,())),(((bf (Tre.mk (h1.getD h2.toNat (Tre.mk (0,0,false,[],()) [])).1 (h1.getD h2.toNat (Tre.mk (0,0,false,[],()) [])).2) 0).1.2.2.2.1,([],())),()))))).run fun y=>match y with | .ret ((),((x123,x124,()),(x125,x126,()),(x127,x128,()),(x129,x130,()),()))=>(bif decide (x128.length+1≤4294967296) then next (x123) (IntKind.i64.wrap (x124+1)) (x125) (x126) (x127) (x128++[(x129,x130,())]) else none) else none else none else out (.ret ((),((),((h3,(h4,())),((h5,(h6,())),())))))
def vg (n:Nat)(h1:List (Nd))(h2 h3:Int)(h4:List af.den)(h5:Int)(h6:List af.den):Option (ax f5.xs):=gk tt xz dr lZ 0 Tryz.f80 (cI Tryz.f80 0) n (f5.st.mk' ((h1,(h2,())),((h3,(h4,())),((h5,(h6,())),())))) (bI f5.xs)
theorem Qr (n:Nat)(h1:List (Nd))(h2 h3:Int)(h4:List af.den)(h5:Int)(h6:List af.den):vg (n+1) h1 h2 h3 h4 h5 h6=w5 h1 h2 h3 h4 h5 h6 (vg n) some:=by kernel_rfl
theorem Ft {os:List Nd}(hb:os.length≤4294967296)(c6:List Nd)(i:Int)(ps:List Nd)(j th0:Int)(ts0:List af.den)(th:Int)(ts:List af.den)(tn:List Int)(po:List aF.den)(x1 x2:Int)(x3:Bool)(x4:List Int)(x5:List Nd)(d1 d2 d4 d5 d6:Int):∀(k q:Nat) (o:List Int),os.length<q+k→q≤os.length→o.length≤q→
  rQ k c6 i ps j os q th0 ts0 th ts tn po x1 x2 x3 x4 x5 d1 d2 o d4 d5 d6=some (.ret ((),((c6,(i,(ps,(j,())))),((th0,(ts0,())),((th,(ts,())),((tn,(po,())),((x1,(x2,(x3,(x4,(x5,()))))),((d1,(d2,(o++(os.drop q).map AP,(d4,(d5,(d6,())))))),())))))))):=by
 intro k
 induction k with
 |zero=>intro q o h1 h2;omega
 |succ k ih=>
  intro q o h1 h2 h3
  rw[LO]
  unfold ut
  by_cases hq:q<os.length
  ·refine (aa (decide_eq_true (show (q:Int)<(os.length:Int) by omega)) _ _).trans ?_
   refine (aa (by simp;omega) _ _).trans ?_
   refine (aa (decide_eq_true (show o.length+1≤4294967296 by omega)) _ _).trans ?_
   rw[az (n:=(q:Int)+1) (by omega) (by omega),List.drop_eq_getElem_cons hq]
   simp only[Int.toNat_natCast,aH hq]
   refine (ih (q+1) (o++[AP os[q]]) (by omega) (by omega) (by simp;omega)).trans ?_
   simp only[List.map_cons,List.append_assoc,List.singleton_append]
  ·refine (ab (decide_eq_false (show ¬(q:Int)<(os.length:Int) by omega)) _ _).trans ?_
   rw[List.drop_of_length_le (by omega)]
   simp
theorem Fr {ps:List Nd}(hb:aD ps≤4294967296)(c6:List Nd)(i th0:Int)(ts0:List af.den)(th:Int)(ts:List af.den)(tn:List Int):∀(k j:Nat) (o:List aF.den),ps.length<j+k→j≤ps.length→o.length≤j→
  nW k c6 i ps j th0 ts0 th ts tn o=some (.ret ((),((c6,(i,())),((th0,(ts0,())),((th,(ts,())),((tn,(o++(ps.drop j).map wM,())),())))))):=by
 intro k
 have hlen:=fq ps
 induction k with
 |zero=>intro j o h1 h2;omega
 |succ k ih=>
  intro j o h1 h2 h3
  rw[LN]
  unfold ur
  by_cases hj:j<ps.length
  ·refine (aa (decide_eq_true (show (j:Int)<(ps.length:Int) by omega)) _ _).trans ?_
   have hmem:=cR (List.getElem_mem hj)
   have ih':=ih (j+1) (o++[wM ps[j]]) (by omega) (by omega) (by simp;omega)
   have hd:ps.drop j=ps[j]::ps.drop (j+1):=List.drop_eq_getElem_cons hj
   rw[hd]
   simp only[Int.toNat_natCast,aH hj]
   generalize ps[j]=u at hmem ih' ⊢
   obtain ⟨ul,uk⟩:=u
   refine (aa (by simp;omega) _ _).trans ?_
   have hw1:=l6 (Tre.mk ul uk) 2
   have hw2:=fJ (bf (Tre.mk ul uk) 2)
   have hw3:=fq (bf (Tre.mk ul uk) 2).kids
   have cA:((decide ((0:Int)=0)&&decide (([]:List Int).length=0))&&decide ((bf (Tre.mk ul uk) 2).kids.length≤4294967296))=true:=by simp;omega
   refine (aa cA _ _).trans ?_
   refine (aa (decide_eq_true (show o.length+1≤4294967296 by omega)) _ _).trans ?_
   show nW k c6 i ps (IntKind.i64.wrap ((j:Int)+1)) th0 ts0 th ts tn (o++[wM (Tre.mk ul uk)])=_
   rw[az (n:=(j:Int)+1) (by omega) (by omega)]
   refine ih'.trans ?_
   simp only[List.map_cons,List.append_assoc,List.singleton_append]
  ·refine (ab (decide_eq_false (show ¬(j:Int)<(ps.length:Int) by omega)) _ _).trans ?_
   rw[List.drop_of_length_le (by omega)]
   simp
theorem Ib {nds:List Nd}(hb:aD nds≤4294967296)(th0:Int)(ts0:List af.den)(th:Int):∀(k j:Nat) (ts:List af.den),nds.length<j+k→j≤nds.length→ts.length≤j→
  vg k nds j th0 ts0 th ts=some (.ret ((),((),((th0,(ts0,())),((th,(ts++(nds.drop j).map r9,())),()))))):=by
 intro k
 have hlen:=fq nds
 induction k with
 |zero=>intro j o h1 h2;omega
 |succ k ih=>
  intro j ts h1 h2 h3
  rw[Qr]
  unfold w5
  by_cases hj:j<nds.length
  ·refine (aa (decide_eq_true (show (j:Int)<(nds.length:Int) by omega)) _ _).trans ?_
   have hmem:=cR (List.getElem_mem hj)
   have ih':=ih (j+1) (ts++[r9 nds[j]]) (by omega) (by omega) (by simp;omega)
   have hd:nds.drop j=nds[j]::nds.drop (j+1):=List.drop_eq_getElem_cons hj
   rw[hd]
   simp only[Int.toNat_natCast,aH hj]
   generalize nds[j]=u at hmem ih' ⊢
   obtain ⟨ul,uk⟩:=u
   refine (aa (by simp;omega) _ _).trans ?_
   refine (aa (by simp;omega) _ _).trans ?_
   have hw1:=l6 (Tre.mk ul uk) 1
   have hw2:=fJ (bf (Tre.mk ul uk) 1)
   have cA:((decide ((0:Int)=0)&&decide (([]:List aF.den).length=0))&&decide (aD (bf (Tre.mk ul uk) 1).kids≤4294967296))=true:=by simp;omega
   refine (aa cA _ _).trans ?_
   refine (aa (decide_eq_true (show ts.length+1≤4294967296 by omega)) _ _).trans ?_
   rw[az (n:=(j:Int)+1) (by omega) (by omega)]
   refine ih'.trans ?_
   simp only[List.map_cons,List.append_assoc,List.singleton_append]
  ·refine (ab (decide_eq_false (show ¬(j:Int)<(nds.length:Int) by omega)) _ _).trans ?_
   rw[List.drop_of_length_le (by omega)]
   simp
def CC (a0:Nd):Option nR.Res:=(sH (((bf (Tre.mk a0.1 a0.2) 1).2,(0,())),((0,([],())),((IntKind.i32.wrap (bf (Tre.mk a0.1 a0.2) 0).1.2.1,([],())),())))).run fun y=>match y with | .ret ((),((),(x141,x142,()),(x143,x144,()),()))=>(some (Out.ret (((x143,x144,()),()),())))
theorem U8 (a0:Nd):Io.run tt xz dr lZ nR Tryz.f80 ((a0,()),())=CC a0:=by kernel_rfl
theorem Xr:HcOk prog 80 (ah nR J1):=by
 refine aj (n:=400) hm (cs:=s5) (.cons qQ .nil) (lp:=lZ) (fn:=Tryz.f80) (by kernel_rfl) (by kernel_rfl) (by kernel_rfl) nR (.step (h0:=aP f5 sH) (by kernel_rfl) (aw (n:=400) hm (cs:=s5) (.cons qQ .nil) (lp:=lZ) (fn:=Tryz.f80) (.step (h0:=aP eU p3) (by kernel_rfl) (aw (n:=400) hm (cs:=s5) (.cons qQ .nil) (lp:=lZ) (fn:=Tryz.f80) (.step (h0:=aP eX p4) (by kernel_rfl) (aw (n:=400) hm (cs:=s5) (.cons qQ .nil) (lp:=lZ) (fn:=Tryz.f80) (.done (by kernel_rfl)) eX p4 ?_) (.done (by kernel_rfl))) eU p3 ?_) (.done (by kernel_rfl))) f5 sH ?_) (.done (by kernel_rfl))) J1 ?_
 ·rintro ⟨⟨(c6:List Nd),(i:Int),(ps:List Nd),(j:Int),(os:List Nd),(q:Int),⟨⟩⟩,⟨⟨(th0:Int),(ts0:List af.den),⟨⟩⟩,⟨(th:Int),(ts:List af.den),⟨⟩⟩,⟨(tn:List Int),(po:List aF.den),⟨⟩⟩,⟨(x1:Int),(x2:Int),(x3:Bool),(x4:List Int),(x5:List Nd),⟨⟩⟩,⟨(d1:Int),(d2:Int),(o:List Int),(d4:Int),(d5:Int),(d6:Int),⟨⟩⟩,⟨⟩⟩⟩ y hw hy
  obtain ⟨hg,hy⟩:=Tr.guard hy
  simp only[Bool.and_eq_true,decide_eq_true_eq] at hg
  obtain ⟨⟨h1,h2⟩,h3⟩:=hg
  have h1:q=0:=h1
  have h2:o=[]:=List.eq_nil_of_length_eq_zero h2
  have h3:os.length≤4294967296:=h3
  subst h1
  subst h2
  refine ⟨os.length+1,(Ft h3 c6 i ps j th0 ts0 th ts tn po x1 x2 x3 x4 x5 d1 d2 d4 d5 d6 (os.length+1) 0 [] (by omega) (by omega) (by simp)).trans ?_⟩
  rw[← hy,List.drop_zero]
  rfl
 ·rintro ⟨⟨(c6:List Nd),(i:Int),(ps:List Nd),(j:Int),⟨⟩⟩,⟨⟨(th0:Int),(ts0:List af.den),⟨⟩⟩,⟨(th:Int),(ts:List af.den),⟨⟩⟩,⟨(tn:List Int),(o:List aF.den),⟨⟩⟩,⟨⟩⟩⟩ y hw hy
  obtain ⟨hg,hy⟩:=Tr.guard hy
  simp only[Bool.and_eq_true,decide_eq_true_eq] at hg
  obtain ⟨⟨h1,h2⟩,h3⟩:=hg
  have h1:j=0:=h1
  have h2:o=[]:=List.eq_nil_of_length_eq_zero h2
  have h3:aD ps≤4294967296:=h3
  subst h1
  subst h2
  refine ⟨ps.length+1,(Fr h3 c6 i th0 ts0 th ts tn (ps.length+1) 0 [] (by omega) (by omega) (by simp)).trans ?_⟩
  rw[← hy,List.drop_zero]
  rfl
 ·rintro ⟨⟨(nds:List Nd),(j:Int),⟨⟩⟩,⟨⟨(th0:Int),(ts0:List af.den),⟨⟩⟩,⟨(th:Int),(ts:List af.den),⟨⟩⟩,⟨⟩⟩⟩ y hw hy
  obtain ⟨hg,hy⟩:=Tr.guard hy
  simp only[Bool.and_eq_true,decide_eq_true_eq] at hg
  obtain ⟨⟨h1,h2⟩,h3⟩:=hg
  have h1:j=0:=h1
  have h2:ts=[]:=List.eq_nil_of_length_eq_zero h2
  have h3:aD nds≤4294967296:=h3
  subst h1
  subst h2
  refine ⟨nds.length+1,(Ib h3 th0 ts0 th (nds.length+1) 0 [] (by omega) (by omega) (by simp)).trans ?_⟩
  rw[← hy,List.drop_zero]
  rfl
 ·rintro ⟨⟨(n:Nd),⟨⟩⟩,⟨⟩⟩ out hw ho
  obtain ⟨hg,ho⟩:=Tr.guard ho
  have hg:aO n≤4294967296:=of_decide_eq_true hg
  cases ho
  refine (U8 n).trans ?_
  unfold CC
  obtain ⟨nl,nk⟩:=n
  have hw1:=l6 (Tre.mk nl nk) 1
  have hw2:=fJ (bf (Tre.mk nl nk) 1)
  have c1:((decide ((0:Int)=0)&&decide (([]:List af.den).length=0))&&decide (aD (bf (Tre.mk nl nk) 1).kids≤4294967296))=true:=by simp;omega
  refine (aa c1 _ _).trans ?_
  show _=some (Out.ret ((vM (Tre.mk nl nk),()),()))
  unfold vM
  rfl
abbrev je:Io:=⟨[.dat bN true false],[],[],[.dat bN true false],none⟩
def yn (d:je.In):Tr je.Res:=.ite (da d.1.1.2.1&&decide (aO (bt d.1.1)≤4294967296)) (.ret (.ret ((d.1.1,()),()))) .no
abbrev CV:List (Nat×Hc):=[(121,ah hY sG),(83,ah eJ Er),(80,ah nR J1)]
def O4:Hd:=bz CV
def Do:Lp:=bo []
def wk (a0:Int)(a1:List af.den):Option je.Res:=bif da a1 then bif decide (aO (Tre.mk (bt (a0,a1,())).1 (bt (a0,a1,())).2)≤4294967296) then bif decide (aO (Tre.mk (bt (a0,a1,())).1 (bt (a0,a1,())).2)≤4294967296) then some (Out.ret ((vM (Tre.mk (bt (a0,a1,())).1 (bt (a0,a1,())).2),()),())) else none else none else none
theorem LD (a0:Int)(a1:List af.den):Io.run tt O4 dr Do je Tryz.f57 (((a0,a1,()),()),())=wk a0 a1:=by kernel_rfl
theorem PC:HcOk prog 57 (ah je yn):=by
 refine aj (n:=400) hm (cs:=CV) (.cons DC (.cons FR (.cons Xr .nil))) (lp:=Do) (fn:=Tryz.f57) (by kernel_rfl) (by kernel_rfl) (by kernel_rfl) je (.done (by kernel_rfl)) yn ?_
 rintro ⟨⟨m,⟨⟩⟩,⟨⟩⟩ out hw ho
 obtain ⟨hg,ho⟩:=Tr.guard ho
 simp only[Bool.and_eq_true,decide_eq_true_eq] at hg
 obtain ⟨h1,h2⟩:=hg
 have h1:da m.2.1=true:=h1
 have h2:aO (bt m)≤4294967296:=h2
 cases ho
 have hf:=pL (m:=m) hw.1.1
 obtain ⟨th,ts,⟨⟩⟩:=m
 refine (LD th ts).trans ?_
 unfold wk
 generalize bt (th,(ts,()))=n at h2 hf ⊢
 obtain ⟨nl,nk⟩:=n
 refine (aa h1 _ _).trans ?_
 refine (aa (decide_eq_true h2) _ _).trans ?_
 refine (aa (decide_eq_true h2) _ _).trans ?_
 exact congrArg (fun x=>some (Out.ret ((x,()),()))) hf
@[irreducible] noncomputable def jJ (v:Int)(m:bN.den):List Int×Int:=jO 2 true v (bt m)
def V4 (v:Int)(p:aF.den):List Int×Int:=aU (aM p.1 4,0) (aU (aM p.2.1 2,0) (aU (if 0≤v∧v≤0 then wNs p.2.2.1 else ([],0)) (aU (if 1≤v∧v≤3 then (aM p.2.2.2.1 8,0) else ([],0)) (aU (if 1≤v∧v≤3 then (aM p.2.2.2.2.1 8,0) else ([],0)) (aU (if 3≤v∧v≤3 then (aM p.2.2.2.2.2.1 4,0) else ([],0)) ([],0))))))
def V5 (v:Int)(t:af.den):List Int×Int:=aU (pI t.1) (aU (eY (V4 v) t.2.1) ([],0))
def aaI (v:Int)(m:bN.den):List Int×Int:=aU (if 2≤v∧v≤3 then (aM m.1 4,0) else ([],0)) (aU (eY (V5 v) m.2.1) (([],0)))
theorem Wri.orP (v:Int)(p:aF.den):Wri (V4 v p) (iQ v p):=(Wri.put p.1 4).seq ((Wri.put p.2.1 2).seq ((Wri.hasNs v 0 0 p.2.2.1).seq ((Wri.hasE v 1 3 p.2.2.2.1 8).seq ((Wri.hasE v 1 3 p.2.2.2.2.1 8).seq ((Wri.hasE v 3 3 p.2.2.2.2.2.1 4).seq (Wri.nop))))))
theorem Wri.orT (v:Int)(t:af.den):Wri (V5 v t) (Bd v t):=(Wri.str _).seq ((Wri.items fun p hp=>Wri.orP v p).seq Wri.nop)
abbrev ZD:Fd:=cE [112,97,114,116] 10 0 3 [cE [105,110,100,101,120] 3 0 3 [],cE [99,111,100,101] 2 0 3 [],cE [111,102,102,115,101,116,115] 9 0 0 [cE [111,102,102,115,101,116] 4 0 0 []],cE [116,105,109,101] 4 1 3 [],cE [111,102,102,115,101,116] 4 1 3 [],cE [101,112,111,99,104] 3 3 3 []]
abbrev abk:Fd:=cE [116,111,112,105,99] 10 0 3 [cE [110,97,109,101] 5 0 3 [],cE [112,97,114,116,115] 9 0 3 [ZD]]
theorem Yn {v:Int}{p:aF.den}(hv:0≤v∧v≤3)(h:aF.wf p):t9 ZD v (jU p)=V4 v p:=by
 unfold jU V4
 rw[l7,bE (aK hv.1 hv.2),bE (aK hv.1 hv.2),ld,ld,ld,ld,cT,VK,b8 (by decide) (w:=4) rfl (dy h.1),b8 (by decide) (w:=2) rfl (r4 h.2.1),b8 (by decide) (w:=4) rfl (dy h.2.2.2.2.2.1),b8 (by decide) (w:=8) rfl (d9 p.2.2.2.1),b8 (by decide) (w:=8) rfl (d9 p.2.2.2.2.1)]
 try rfl
theorem Yo {v:Int}{t:af.den}(hv:0≤v∧v≤3)(h:af.wf t):t9 abk v (fc t)=V5 v t:=by
 unfold fc V5
 rw[l7,bE (aK hv.1 hv.2),bE (aK hv.1 hv.2),cT,ua,iO,dk fun p hp=>Yn hv (h.2.1.2 p hp)]
def oH (v:Int)(p:aF.den):Bool:=(if 0≤v∧v≤0 then true else ((p.2.2.1.length:Int) == 0))&&((if 1≤v∧v≤3 then true else (p.2.2.2.1 == 0))&&((if 1≤v∧v≤3 then true else (p.2.2.2.2.1 == 0))&&((if 3≤v∧v≤3 then true else (p.2.2.2.2.2.1 == 0)))))
theorem Qy {v:Int}{p:aF.den}(hv:0≤v∧v≤3):(aX ZD v (jU p)).2=oH v p:=by
 unfold jU oH
 rw[ig,bG (aK hv.1 hv.2),bG (aK hv.1 hv.2),dT,dT,dT,dT,fi,LR,aS (by decide) (by decide),aS (by decide) (by decide),aS (by decide) (by decide),aS (by decide) (by decide),aS (by decide) (by decide),JE,bU,bU,bU]
 simp only[Bool.true_and,Bool.and_true]
theorem Qz {v:Int}{t:af.den}(hv:0≤v∧v≤3):(aX abk v (fc t)).2=t.2.1.all (oH v):=by
 unfold fc
 rw[ig,bG (aK hv.1 hv.2),bG (aK hv.1 hv.2),fi,aS (by decide) (by decide),e9]
 simp only[Qy hv,Bool.true_and,Bool.and_true]
theorem Ma (m:bN.den):dz t6 [aG 3 m.1,bj (m.2.1.map fc)]:=by
 unfold t6 cr
 refine ay (aL (by decide) (by decide)) (ay ?_ cx)
 refine dn _ _ fun t=>eH rfl (ay (aL (by decide) (by decide)) (ay ?_ cx))
 exact dn _ _ fun p=>eH rfl (ay (aL (by decide) (by decide)) (ay (aL (by decide) (by decide)) (ay (Gc _) (ay (aL (by decide) (by decide)) (ay (aL (by decide) (by decide)) (ay (aL (by decide) (by decide)) cx))))))
def IL (v:Int)(m:bN.den):Bool:=(if 2≤v∧v≤3 then true else (m.1 == 0))&&((m.2.1.all fun t=>t.2.1.all (oH v)))
theorem QS {e v:Int}{p:aF.den}:jm v p (e,(false,([]:List Int)))=(ip e (oH v p),(false,[])):=by
 unfold jm oH
 rw[cG,cG,cG,S9,cQ,cQ,Bool.and_assoc]
theorem Bc {v:Int}:∀{ps:List aF.den} {e:Int},gb v ps (e,(false,([]:List Int)))=(ip e (ps.all (oH v)),(false,[]))
 |[],e=>by rw[List.all_nil,ij];rfl
 |p::ps,e=>by
  show gb v ps (jm v p (e,(false,[])))=_
  rw[QS,Bc,cQ,List.all_cons]
theorem DV {v:Int}:∀{ts:List af.den} {e:Int},vL v ts (e,(false,([]:List Int)))=(ip e (ts.all fun t=>t.2.1.all (oH v)),(false,[]))
 |[],e=>by rw[List.all_nil,ij];rfl
 |t::ts,e=>by
  show vL v ts (gb v t.2.1 (e,(false,[])))=_
  rw[Bc,DV,cQ,List.all_cons]
theorem abe {v:Int}{m:bN.den}(hv:0≤v∧v≤3):(bu v t6 [aG 3 m.1,bj (m.2.1.map fc)]).2=IL v m:=by
 unfold t6 cr IL
 rw[dT,bG (aK hv.1 hv.2),fi,aS (by decide) (by decide),e9,bU]
 simp only[Qz hv,Bool.true_and,Bool.and_true,Bool.and_assoc]
theorem abO {v:Int}{m:bN.den}(hv:0≤v∧v≤3)(hm:bN.wf m):bZ v t6 [aG 3 m.1,bj (m.2.1.map fc)]=aaI v m:=by
 unfold t6 cr aaI
 rw[ld,bE (aK hv.1 hv.2),cT,b8 (by decide) (w:=4) rfl (dy hm.1),iO,dk fun t ht=>Yo hv (hm.2.1.2 t ht)]
 try rfl
theorem Up {v:Int}{m:bN.den}(hm:bN.wf m):(bP (uf v m),bw (uf v m))=jJ v m:=by
 unfold jJ bt
 rw[xN (t:=t6) rfl Vr rfl (Ma m)]
 unfold uf
 rw[cG,DV,cQ]
 have hr:Wri (aaI v m) _:=(Wri.hasE v 2 3 m.1 4).seq ((Wri.items fun t ht=>Wri.orT v t).seq (Wri.nop))
 refine (hr.done _).trans ?_
 unfold bc
 by_cases hv:v<0∨3<v
 ·rw[if_pos hv,if_pos hv]
  exact if_pos (by simp[ip])
 rw[if_neg hv,if_neg hv]
 have hv':0≤v∧v≤3:=by omega
 rw[abe hv',abO hv' hm]
 show (if ip 0 (IL v m)≠0 then _ else _)=_
 cases hz:IL v m
 ·exact (if_pos (by decide)).trans (show ([],ip 0 (IL v m))=_ by rw[hz];rfl)
 ·exact (if_neg (by decide)).trans (if_neg (by decide)).symm
abbrev tg:Io:=nH
def Ms (d:tg.In):Tr tg.Res:=.ret (.ret (((jJ d.1.1 d.1.2.1).1,((jJ d.1.1 d.1.2.1).2,())),()))
theorem T4:HcOk prog 60 (ah tg Ms):=by
 refine HcOk.weakW Xf ?_
 rintro ⟨⟨(v:Int),m,⟨⟩⟩,⟨⟩⟩ y hw hy
 rw[← hy]
 have h:=Up (v:=v) (m:=m) hw.1.2.1
 show some (Out.ret ((bP (uf v m),(bw (uf v m),())),()))=some (Out.ret (((jJ v m).1,((jJ v m).2,())),()))
 rw[← h]
theorem qw {v:Int}{p:aF.den}(h:oH v p=true):(¬(0≤v∧v≤0)→p.2.2.1=[])∧(¬(1≤v∧v≤3)→p.2.2.2.1=0)∧(¬(1≤v∧v≤3)→p.2.2.2.2.1=0)∧(¬(3≤v∧v≤3)→p.2.2.2.2.2.1=0):=by
 unfold oH at h
 simp only[Bool.and_eq_true] at h
 exact ⟨fun hv=>by have h1:=h.1;rw[if_neg hv] at h1;simpa using h1,fun hv=>by have h1:=h.2.1;rw[if_neg hv] at h1;simpa using h1,fun hv=>by have h1:=h.2.2.1;rw[if_neg hv] at h1;simpa using h1,fun hv=>by have h1:=h.2.2.2;rw[if_neg hv] at h1;simpa using h1⟩
theorem Rd.orP {b:List Int}{p:aF.den}{v:Int}(h:aF.wf p)(hk:oH v p=true):Rd b p (V4 v p) (lm v b):=
 (Rd.seq (fun a r=>(a,r)) (Rd.num (dA h.1)) (Rd.seq (fun a r=>(a,r)) (Rd.num (oB h.2.1)) (Rd.seq (fun a r=>(a,r)) (Rd.optNs h.2.2.1.2 (qw hk).1) (Rd.seq (fun a r=>(a,r)) (Rd.opt (eg h.2.2.2.1) (qw hk).2.1) (Rd.seq (fun a r=>(a,r)) (Rd.opt (eg h.2.2.2.2.1) (qw hk).2.2.1) (Rd.seq (fun a r=>(a,r)) (Rd.opt (dA h.2.2.2.2.2.1) (qw hk).2.2.2) (Rd.nop b ()))))))).congr fun s=>by unfold lm;rfl
theorem Rd.orT {b:List Int}{t:af.den}{v:Int}(h:af.wf t)(hk:t.2.1.all (oH v)=true):Rd b t (V5 v t) (ln v b):=
 (Rd.seq (fun a r=>(a,r)) (Rd.txt t.1) (Rd.seq (fun a r=>(a,r)) (Rd.list fun p hp=>Rd.orP (h.2.1.2 p hp) (List.all_eq_true.1 hk p hp)) (Rd.nop b ()))).congr fun s=>by unfold ln gG;rfl
def L3 (m:bN.den):Bool:=da m.2.1&&decide (8*aO (bt m)≤4294967296)
theorem Zz (b:List Int):iU (.sl 2 (.int .i64)) b=b.length+1:=by
 show (List.map (iU (.int .i64)) b).sum+1=_
 rw[Bp]
theorem AY:∀xs:List Int,aD (xs.map (aG 4))=xs.length
 |[]=>by rw[List.map_nil,cw];rfl
 |x::xs=>by rw[List.map_cons,aJ,ct,AY xs,List.length_cons];omega
theorem QM (xs:List Int):aO (gj xs)=1+xs.length:=by rw[ji,jl,AY]
theorem EY (p:aF.den):iU aF p=List.length (α:=Int) p.2.2.1+6:=by
 show 1+(1+((iU (.sl 2 (.int .i64)) p.2.2.1)+(1+(1+(1+(0))))))=_
 rw[Zz];omega
theorem EZ (t:af.den):iU af t=(t.1.length+1)+(((t.2.1.map (iU aF)).sum+1)+0):=rfl
theorem Wh (m:bN.den):iU bN m=1+(((m.2.1.map (iU af)).sum+1)+(0)):=rfl
theorem aaL (p:aF.den):aO (jU p)≤3*iU aF p:=by
 rw[EY]
 show aO (bH [aG 3 p.1,aG 2 p.2.1,gj p.2.2.1,aG 4 p.2.2.2.1,aG 4 p.2.2.2.2.1,aG 3 p.2.2.2.2.2.1])≤_
 rw[iP,aJ,aJ,aJ,aJ,aJ,aJ,cw,QM,ct,ct,ct,ct,ct]
 omega
theorem aaM (t:af.den):aO (fc t)≤3*iU af t:=by
 have h:=oC (T:=aF) (F:=jU) (c:=3) (l:=t.2.1) fun p _=>aaL p
 rw[EZ]
 show aO (bH [gO t.1,bj (t.2.1.map jU)])≤_
 rw[iP,aJ,aJ,cw,vF,jl]
 omega
theorem Xs {m:bN.den}(h:iU bN m≤1048576):L3 m=true:=by
 have h1:=oC (T:=af) (F:=fc) (c:=3) (l:=m.2.1) fun t _=>aaM t
 have h2:=oz (T:=af) (fun t=>by rw[EZ];omega) m.2.1
 rw[Wh] at h
 have hp:∀t∈m.2.1,t.2.1.length≤1048576∧∀p∈t.2.1,List.length (α:=Int) p.2.2.1≤1048576:=fun t htm=>by
  have a1:=qJ (T:=af) htm
  rw[EZ] at a1
  have a2:=oz (T:=aF) (fun p=>by rw[EY];omega) t.2.1
  refine ⟨by omega,fun p hp=>?_⟩
  have a3:=qJ (T:=aF) hp
  rw[EY] at a3
  omega
 unfold L3
 simp only[Bool.and_eq_true,decide_eq_true_eq]
 refine ⟨?_,?_⟩
 ·unfold da
  simp only[Bool.and_eq_true,decide_eq_true_eq]
  refine ⟨by omega,List.all_eq_true.2 fun t htm=>?_⟩
  unfold lk
  simp only[Bool.and_eq_true,decide_eq_true_eq]
  have h3:=hp t htm
  refine ⟨by omega,List.all_eq_true.2 fun p hpm=>decide_eq_true ?_⟩
  have:=h3.2 p hpm
  omega
 ·unfold bt
  show 8*aO (bH [aG 3 m.1,bj (m.2.1.map fc)])≤_
  rw[iP,aJ,aJ,cw,ct,jl]
  omega
abbrev jV:Ty:=.prod (.int .i16) (.prod (.int .i16) (.prod (.int .i32) (.prod lx (.prod VS (.prod Bq (.prod dF .unit))))))
abbrev cD:Ty:=.prod (.int .i16) (.prod (.int .i16) (.prod (.int .i32) (.prod jR (.prod ci (.prod bN .unit)))))
def f6 (k v:Int):Int:=if k≠0∧k≠1∧k≠2 then 160 else if v<0∨3<v then 8 else 0
abbrev iu:Io:=⟨[Kn,Kn],[],[],[dI],none⟩
def uv (d:iu.In):Tr iu.Res:=.ret (.ret ((f6 d.1.1 d.1.2.1,()),()))
abbrev MN:List (Nat×Hc):=[]
def Wt:Hd:=bz MN
def Nt:Lp:=bo []
def B8 (a0 a1:Int):Option iu.Res:=bif a0 != 0 then bif a0 != 1 then bif a0 != 2 then some (Out.ret ((160,()),())) else bif decide (a1<0) then some (Out.ret ((8,()),())) else bif decide (3<a1) then some (Out.ret ((8,()),())) else some (Out.ret ((0,()),())) else bif decide (a1<0) then some (Out.ret ((8,()),())) else bif decide (3<a1) then some (Out.ret ((8,()),())) else some (Out.ret ((0,()),())) else bif decide (a1<0) then some (Out.ret ((8,()),())) else bif decide (3<a1) then some (Out.ret ((8,()),())) else some (Out.ret ((0,()),()))
theorem UA (a0 a1:Int):Io.run tt Wt dr Nt iu Tryz.f40 ((a0,a1,()),())=B8 a0 a1:=by kernel_rfl
theorem xF:HcOk prog 40 (ah iu uv):=by
 refine aj (n:=400) hm (cs:=MN) HcsOk.nil (lp:=Nt) (fn:=Tryz.f40) (by kernel_rfl) (by kernel_rfl) (by kernel_rfl) iu (.done (by kernel_rfl)) uv ?_
 rintro ⟨⟨(k:Int),(v:Int),⟨⟩⟩,⟨⟩⟩ out hw ho
 cases ho
 refine (UA k v).trans ?_
 unfold B8
 show _=some (Out.ret ((f6 k v,()),()))
 unfold f6
 have key:(bif decide (v<0) then some (Out.ret ((8,()),())) else bif decide (3<v) then some (Out.ret ((8,()),())) else some (Out.ret ((0,()),())):Option iu.Res)=some (Out.ret ((if v<0∨3<v then 8 else 0,()),())):=by
  by_cases h3:v<0
  ·rw[aa (by simpa using h3),if_pos (.inl h3)]
  ·rw[ab (by simpa using h3)]
   by_cases h4:3<v
   ·rw[aa (by simpa using h4),if_pos (.inr h4)]
   ·rw[ab (by simpa using h4),if_neg (by omega)]
 rw[key]
 by_cases h0:k=0
 ·rw[ab (by simpa using h0),if_neg (c:=k≠0∧k≠1∧k≠2) (fun h=>h.1 h0)]
 rw[aa (by simpa using h0)]
 by_cases h1:k=1
 ·rw[ab (by simpa using h1),if_neg (c:=k≠0∧k≠1∧k≠2) (fun h=>h.2.1 h1)]
 rw[aa (by simpa using h1)]
 by_cases h2:k=2
 ·rw[ab (by simpa using h2),if_neg (c:=k≠0∧k≠1∧k≠2) (fun h=>h.2.2 h2)]
 rw[aa (by simpa using h2),if_pos ⟨h0,h1,h2⟩]
def xe (n:lx.den):Int:=if n.1=true∧n.2.1≠[] then 70 else if (ca n.2.1).2=false then 6 else if 255<n.2.1.length then 4 else 0
abbrev gW:Io:=⟨[ES],[],[],[dI],none⟩
def sh (d:gW.In):Tr gW.Res:=.ret (.ret ((xe d.1.1,()),()))
abbrev CE:List (Nat×Hc):=[(92,ah mq BW)]
def OM:Hd:=bz CE
def C7:Lp:=bo []
def vV (a0:Bool)(a1:List Int):Option gW.Res:=bif a0 then bif !decide (a1=[]) then some (Out.ret ((70,()),())) else bif !(ca a1).2 then some (Out.ret ((6,()),())) else bif decide (255<(↑a1.length:Int)) then some (Out.ret ((4,()),())) else some (Out.ret ((0,()),())) else bif !(ca a1).2 then some (Out.ret ((6,()),())) else bif decide (255<(↑a1.length:Int)) then some (Out.ret ((4,()),())) else some (Out.ret ((0,()),()))
theorem Lc (a0:Bool)(a1:List Int):Io.run tt OM dr C7 gW Tryz.f41 (((a0,a1,()),()),())=vV a0 a1:=by kernel_rfl
theorem Dy:HcOk prog 41 (ah gW sh):=by
 refine aj (n:=400) hm (cs:=CE) (.cons FO .nil) (lp:=C7) (fn:=Tryz.f41) (by kernel_rfl) (by kernel_rfl) (by kernel_rfl) gW (.done (by kernel_rfl)) sh ?_
 rintro ⟨⟨⟨(z:Bool),(s:List Int),⟨⟩⟩,⟨⟩⟩,⟨⟩⟩ out hw ho
 cases ho
 refine (Lc z s).trans ?_
 unfold vV
 show _=some (Out.ret ((xe (z,(s,())),()),()))
 unfold xe
 have h4:decide ((255:Int)<(s.length:Int))=decide (255<s.length):=by rw[Bool.eq_iff_iff];simp;omega
 rw[h4]
 cases z <;> by_cases h1:s=[] <;> cases h2:(ca s).2 <;> by_cases h3:255<s.length <;> simp[h1,h2,h3]
def Yf (m:VS.den):Bool:=((m.1.1 == false)&&(decide (m.1.2.1=[])&&true))&&((m.2.1 == 0)&&((m.2.2.1 == 0)&&((m.2.2.2.1.length:Int) == 0)))
def Vx (m:Bq.den):Bool:=(m.1 == 0)&&((m.2.1 == 0)&&((m.2.2.1 == 0)&&((m.2.2.2.1 == 0)&&((m.2.2.2.2.1 == 0)&&((m.2.2.2.2.2.1.length:Int) == 0)))))
def LX (m:dF.den):Bool:=(m.1 == 0)&&((m.2.1 == 0)&&((m.2.2.1.length:Int) == 0))
def AQ (c:jV.den):Bool:=(Yf c.2.2.2.2.1 || (c.1 == 0))&&((Vx c.2.2.2.2.2.1 || (c.1 == 1))&&(LX c.2.2.2.2.2.2.1 || (c.1 == 2)))
abbrev iW:Io:=⟨[.dat jV true false],[],[],[dB],none⟩
def xR (d:iW.In):Tr iW.Res:=.ret (.ret ((AQ d.1.1,()),()))
abbrev CF:List (Nat×Hc):=[]
def ON:Hd:=bz CF
def C8:Lp:=bo []
def vW (a0 a1 a2:Int)(a3:Bool)(a4:List Int)(a5:Bool)(a6:List Int)(a7 a8:Int)(a9:List bM.den)(a10 a11 a12 a13 a14:Int)(a15:List aQ.den)(a16 a17:Int)(a18:List am.den):Option iW.Res:=some (Out.ret ((bif !(a5 == false&&(decide (a6=[])&&true)&&(a7 == 0&&(a8 == 0&&Decidable.rec (fun (h:¬(↑(List.length (((a0,a1,a2,(a3,a4,()),((a5,a6,()),a7,a8,a9,()),(a10,a11,a12,a13,a14,a15,()),(a16,a17,a18,()),()),()),()).1.1.2.2.2.2.1.2.2.2.1):Int)=0)=>false) (fun (h:(↑(List.length (((a0,a1,a2,(a3,a4,()),((a5,a6,()),a7,a8,a9,()),(a10,a11,a12,a13,a14,a15,()),(a16,a17,a18,()),()),()),()).1.1.2.2.2.2.1.2.2.2.1):Int)=0)=>true) ((↑(List.length (((a0,a1,a2,(a3,a4,()),((a5,a6,()),a7,a8,a9,()),(a10,a11,a12,a13,a14,a15,()),(a16,a17,a18,()),()),()),()).1.1.2.2.2.2.1.2.2.2.1):Int).instDecidableEq 0)))) then a0 == 0&&bif !(a10 == 0&&(a11 == 0&&(a12 == 0&&(a13 == 0&&(a14 == 0&&Decidable.rec (fun (h:¬(↑(List.length (((a0,a1,a2,(a3,a4,()),((a5,a6,()),a7,a8,a9,()),(a10,a11,a12,a13,a14,a15,()),(a16,a17,a18,()),()),()),()).1.1.2.2.2.2.2.1.2.2.2.2.2.1):Int)=0)=>false) (fun (h:(↑(List.length (((a0,a1,a2,(a3,a4,()),((a5,a6,()),a7,a8,a9,()),(a10,a11,a12,a13,a14,a15,()),(a16,a17,a18,()),()),()),()).1.1.2.2.2.2.2.1.2.2.2.2.2.1):Int)=0)=>true) ((↑(List.length (((a0,a1,a2,(a3,a4,()),((a5,a6,()),a7,a8,a9,()),(a10,a11,a12,a13,a14,a15,()),(a16,a17,a18,()),()),()),()).1.1.2.2.2.2.2.1.2.2.2.2.2.1):Int).instDecidableEq 0)))))) then a0 == 1&&bif !(a16 == 0&&(a17 == 0&&Decidable.rec (fun (h:¬(↑(List.length (((a0,a1,a2,(a3,a4,()),((a5,a6,()),a7,a8,a9,()),(a10,a11,a12,a13,a14,a15,()),(a16,a17,a18,()),()),()),()).1.1.2.2.2.2.2.2.1.2.2.1):Int)=0)=>false) (fun (h:(↑(List.length (((a0,a1,a2,(a3,a4,()),((a5,a6,()),a7,a8,a9,()),(a10,a11,a12,a13,a14,a15,()),(a16,a17,a18,()),()),()),()).1.1.2.2.2.2.2.2.1.2.2.1):Int)=0)=>true) ((↑(List.length (((a0,a1,a2,(a3,a4,()),((a5,a6,()),a7,a8,a9,()),(a10,a11,a12,a13,a14,a15,()),(a16,a17,a18,()),()),()),()).1.1.2.2.2.2.2.2.1.2.2.1):Int).instDecidableEq 0))) then Decidable.rec (fun (h:¬(((a0,a1,a2,(a3,a4,()),((a5,a6,()),a7,a8,a9,()),(a10,a11,a12,a13,a14,a15,()),(a16,a17,a18,()),()),()),()).1.1.1=2)=>false) (fun (h:(((a0,a1,a2,(a3,a4,()),((a5,a6,()),a7,a8,a9,()),(a10,a11,a12,a13,a14,a15,()),(a16,a17,a18,()),()),()),()).1.1.1=2)=>true) (Int.instDecidableEq (((a0,a1,a2,(a3,a4,()),((a5,a6,()),a7,a8,a9,()),(a10,a11,a12,a13,a14,a15,()),(a16,a17,a18,()),()),()),()).1.1.1 2) else true else bif !(a16 == 0&&(a17 == 0&&Decidable.rec (fun (h:¬(↑(List.length (((a0,a1,a2,(a3,a4,()),((a5,a6,()),a7,a8,a9,()),(a10,a11,a12,a13,a14,a15,()),(a16,a17,a18,()),()),()),()).1.1.2.2.2.2.2.2.1.2.2.1):Int)=0)=>false) (fun (h:(↑(List.length (((a0,a1,a2,(a3,a4,()),((a5,a6,()),a7,a8,a9,()),(a10,a11,a12,a13,a14,a15,()),(a16,a17,a18,()),()),()),()).1.1.2.2.2.2.2.2.1.2.2.1):Int)=0)=>true) ((↑(List.length (((a0,a1,a2,(a3,a4,()),((a5,a6,()),a7,a8,a9,()),(a10,a11,a12,a13,a14,a15,()),(a16,a17,a18,()),()),()),()).1.1.2.2.2.2.2.2.1.2.2.1):Int).instDecidableEq 0))) then Decidable.rec (fun (h:¬(((a0,a1,a2,(a3,a4,()),((a5,a6,()),a7,a8,a9,()),(a10,a11,a12,a13,a14,a15,()),(a16,a17,a18,()),()),()),()).1.1.1=2)=>false) (fun (h:(((a0,a1,a2,(a3,a4,()),((a5,a6,()),a7,a8,a9,()),(a10,a11,a12,a13,a14,a15,()),(a16,a17,a18,()),()),()),()).1.1.1=2)=>true) (Int.instDecidableEq (((a0,a1,a2,(a3,a4,()),((a5,a6,()),a7,a8,a9,()),(a10,a11,a12,a13,a14,a15,()),(a16,a17,a18,()),()),()),()).1.1.1 2) else true else bif !(a10 == 0&&(a11 == 0&&(a12 == 0&&(a13 == 0&&(a14 == 0&&Decidable.rec (fun (h:¬(↑(List.length (((a0,a1,a2,(a3,a4,()),((a5,a6,()),a7,a8,a9,()),(a10,a11,a12,a13,a14,a15,()),(a16,a17,a18,()),()),()),()).1.1.2.2.2.2.2.1.2.2.2.2.2.1):Int)=0)=>false) (fun (h:(↑(List.length (((a0,a1,a2,(a3,a4,()),((a5,a6,()),a7,a8,a9,()),(a10,a11,a12,a13,a14,a15,()),(a16,a17,a18,()),()),()),()).1.1.2.2.2.2.2.1.2.2.2.2.2.1):Int)=0)=>true) ((↑(List.length (((a0,a1,a2,(a3,a4,()),((a5,a6,()),a7,a8,a9,()),(a10,a11,a12,a13,a14,a15,()),(a16,a17,a18,()),()),()),()).1.1.2.2.2.2.2.1.2.2.2.2.2.1):Int).instDecidableEq 0)))))) then a0 == 1&&bif !(a16 == 0&&(a17 == 0&&Decidable.rec (fun (h:¬(↑(List.length (((a0,a1,a2,(a3,a4,()),((a5,a6,()),a7,a8,a9,()),(a10,a11,a12,a13,a14,a15,()),(a16,a17,a18,()),()),()),()).1.1.2.2.2.2.2.2.1.2.2.1):Int)=0)=>false) (fun (h:(↑(List.length (((a0,a1,a2,(a3,a4,()),((a5,a6,()),a7,a8,a9,()),(a10,a11,a12,a13,a14,a15,()),(a16,a17,a18,()),()),()),()).1.1.2.2.2.2.2.2.1.2.2.1):Int)=0)=>true) ((↑(List.length (((a0,a1,a2,(a3,a4,()),((a5,a6,()),a7,a8,a9,()),(a10,a11,a12,a13,a14,a15,()),(a16,a17,a18,()),()),()),()).1.1.2.2.2.2.2.2.1.2.2.1):Int).instDecidableEq 0))) then Decidable.rec (fun (h:¬(((a0,a1,a2,(a3,a4,()),((a5,a6,()),a7,a8,a9,()),(a10,a11,a12,a13,a14,a15,()),(a16,a17,a18,()),()),()),()).1.1.1=2)=>false) (fun (h:(((a0,a1,a2,(a3,a4,()),((a5,a6,()),a7,a8,a9,()),(a10,a11,a12,a13,a14,a15,()),(a16,a17,a18,()),()),()),()).1.1.1=2)=>true) (Int.instDecidableEq (((a0,a1,a2,(a3,a4,()),((a5,a6,()),a7,a8,a9,()),(a10,a11,a12,a13,a14,a15,()),(a16,a17,a18,()),()),()),()).1.1.1 2) else true else bif !(a16 == 0&&(a17 == 0&&Decidable.rec (fun (h:¬(↑(List.length (((a0,a1,a2,(a3,a4,()),((a5,a6,()),a7,a8,a9,()),(a10,a11,a12,a13,a14,a15,()),(a16,a17,a18,()),()),()),()).1.1.2.2.2.2.2.2.1.2.2.1):Int)=0)=>false) (fun (h:(↑(List.length (((a0,a1,a2,(a3,a4,()),((a5,a6,()),a7,a8,a9,()),(a10,a11,a12,a13,a14,a15,()),(a16,a17,a18,()),()),()),()).1.1.2.2.2.2.2.2.1.2.2.1):Int)=0)=>true) ((↑(List.length (((a0,a1,a2,(a3,a4,()),((a5,a6,()),a7,a8,a9,()),(a10,a11,a12,a13,a14,a15,()),(a16,a17,a18,()),()),()),()).1.1.2.2.2.2.2.2.1.2.2.1):Int).instDecidableEq 0))) then Decidable.rec (fun (h:¬(((a0,a1,a2,(a3,a4,()),((a5,a6,()),a7,a8,a9,()),(a10,a11,a12,a13,a14,a15,()),(a16,a17,a18,()),()),()),()).1.1.1=2)=>false) (fun (h:(((a0,a1,a2,(a3,a4,()),((a5,a6,()),a7,a8,a9,()),(a10,a11,a12,a13,a14,a15,()),(a16,a17,a18,()),()),()),()).1.1.1=2)=>true) (Int.instDecidableEq (((a0,a1,a2,(a3,a4,()),((a5,a6,()),a7,a8,a9,()),(a10,a11,a12,a13,a14,a15,()),(a16,a17,a18,()),()),()),()).1.1.1 2) else true,()),()))
theorem Ld (a0 a1 a2:Int)(a3:Bool)(a4:List Int)(a5:Bool)(a6:List Int)(a7 a8:Int)(a9:List bM.den)(a10 a11 a12 a13 a14:Int)(a15:List aQ.den)(a16 a17:Int)(a18:List am.den):Io.run tt ON drG C8 iW Tryz.f42 (((a0,a1,a2,(a3,a4,()),((a5,a6,()),a7,a8,a9,()),(a10,a11,a12,a13,a14,a15,()),(a16,a17,a18,()),()),()),())=vW a0 a1 a2 a3 a4 a5 a6 a7 a8 a9 a10 a11 a12 a13 a14 a15 a16 a17 a18:=by kernel_rfl
theorem Pi:HcOk prog 42 (ah iW xR):=by
 refine CX (n:=400) hm (cs:=CF) HcsOk.nil (lp:=C8) (fn:=Tryz.f42) (by kernel_rfl) (by kernel_rfl) (by kernel_rfl) iW (.done (by kernel_rfl)) xR ?_
 rintro ⟨⟨⟨(k:Int),(v:Int),(co:Int),⟨(cz:Bool),(cs:List Int),⟨⟩⟩,⟨⟨(nz:Bool),(ns:List Int),⟨⟩⟩,(ak:Int),(wt:Int),(ts:List bM.den),⟨⟩⟩,⟨(fr:Int),(fw:Int),(fm:Int),(fx:Int),(fl:Int),(ft:List aQ.den),⟨⟩⟩,⟨(lr:Int),(ll:Int),(lt:List am.den),⟨⟩⟩,⟨⟩⟩,⟨⟩⟩,⟨⟩⟩ out hw ho
 cases ho
 refine (Ld k v co cz cs nz ns ak wt ts fr fw fm fx fl ft lr ll lt).trans ?_
 have e:vW k v co cz cs nz ns ak wt ts fr fw fm fx fl ft lr ll lt=some (Out.ret ((bif !(Yf ((nz,(ns,())),(ak,(wt,(ts,()))))) then ((k == 0)&&(bif !(Vx (fr,(fw,(fm,(fx,(fl,(ft,()))))))) then ((k == 1)&&(bif !(LX (lr,(ll,(lt,())))) then (k == 2) else true)) else (bif !(LX (lr,(ll,(lt,())))) then (k == 2) else true)))
   else (bif !(Vx (fr,(fw,(fm,(fx,(fl,(ft,()))))))) then ((k == 1)&&(bif !(LX (lr,(ll,(lt,())))) then (k == 2) else true)) else (bif !(LX (lr,(ll,(lt,())))) then (k == 2) else true)),()),())):=by kernel_rfl
 rw[e]
 show _=some (Out.ret ((AQ (k,(v,(co,((cz,(cs,())),(((nz,(ns,())),(ak,(wt,(ts,())))),((fr,(fw,(fm,(fx,(fl,(ft,())))))),((lr,(ll,(lt,()))),()))))))),()),()))
 unfold AQ
 show _=some (Out.ret (((Yf ((nz,(ns,())),(ak,(wt,(ts,())))) || (k == 0))&&((Vx (fr,(fw,(fm,(fx,(fl,(ft,())))))) || (k == 1))&&(LX (lr,(ll,(lt,()))) || (k == 2))),()),()))
 cases Yf ((nz,(ns,())),(ak,(wt,(ts,())))) <;> cases Vx (fr,(fw,(fm,(fx,(fl,(ft,())))))) <;> cases LX (lr,(ll,(lt,()))) <;> simp
def Ya (c:jV.den):cD.den:=(c.1,(c.2.1,(c.2.2.1,((([]:List aq.den),(0,())),((0,(([]:List ag.den),())),((0,(([]:List af.den),())),()))))))
abbrev kC:Io:=⟨[.dat jV true false],[],[],[.dat cD true false],none⟩
def D6 (d:kC.In):Tr kC.Res:=.ret (.ret ((Ya d.1.1,()),()))
abbrev Hg:List (Nat×Hc):=[]
def SE:Hd:=bz Hg
def Id:Lp:=bo []
def J7 (a0 a1 a2:Int)(a3:Bool)(a4:List Int)(a5:Bool)(a6:List Int)(a7 a8:Int)(a9:List bM.den)(a10 a11 a12 a13 a14:Int)(a15:List aQ.den)(a16 a17:Int)(a18:List am.den):Option kC.Res:=some (Out.ret (((a0,a1,a2,([],0,()),(0,[],()),(0,[],()),()),()),()))
theorem PG (a0 a1 a2:Int)(a3:Bool)(a4:List Int)(a5:Bool)(a6:List Int)(a7 a8:Int)(a9:List bM.den)(a10 a11 a12 a13 a14:Int)(a15:List aQ.den)(a16 a17:Int)(a18:List am.den):Io.run tt SE dr Id kC Tryz.f13 (((a0,a1,a2,(a3,a4,()),((a5,a6,()),a7,a8,a9,()),(a10,a11,a12,a13,a14,a15,()),(a16,a17,a18,()),()),()),())=J7 a0 a1 a2 a3 a4 a5 a6 a7 a8 a9 a10 a11 a12 a13 a14 a15 a16 a17 a18:=by kernel_rfl
theorem TQ:HcOk prog 13 (ah kC D6):=by
 refine aj (n:=400) hm (cs:=Hg) HcsOk.nil (lp:=Id) (fn:=Tryz.f13) (by kernel_rfl) (by kernel_rfl) (by kernel_rfl) kC (.done (by kernel_rfl)) D6 ?_
 rintro ⟨⟨⟨(k:Int),(v:Int),(co:Int),⟨(cz:Bool),(cs:List Int),⟨⟩⟩,⟨⟨(nz:Bool),(ns:List Int),⟨⟩⟩,(ak:Int),(wt:Int),(ts:List bM.den),⟨⟩⟩,⟨(fr:Int),(fw:Int),(fm:Int),(fx:Int),(fl:Int),(ft:List aQ.den),⟨⟩⟩,⟨(lr:Int),(ll:Int),(lt:List am.den),⟨⟩⟩,⟨⟩⟩,⟨⟩⟩,⟨⟩⟩ out hw ho
 cases ho
 exact PG k v co cz cs nz ns ak wt ts fr fw fm fx fl ft lr ll lt
theorem qF {b:List Int}{v:Int}{n:Nat}(h:b.length+n≤131072):aE b 131072 v n=(0,b++aM v n):=by unfold aE;rw[if_neg (by omega)]
theorem tX {b y:List Int}(h:b.length+y.length≤131072):bC b 131072 [y]=(0,b++y):=by
 unfold bC
 rw[if_neg (by simp only[aT];omega)]
 simp[lb]
theorem jI {b:List Int}(h:b.length≤131072):bB b 131072=true:=by
 unfold bB
 simp;omega
def Oi (n:lx.den):List Int:=if n.1=true then aM (-1) 2 else aM n.2.1.length 2++n.2.1
def Vl (k v co:Int)(n:lx.den):List Int:=aM k 2++(aM v 2++(aM co 4++Oi n))
theorem Zu (k v co:Int)(z:Bool)(cs y:List Int)(hy:y.length≤130048)(hc:cs.length≤255):
  (bif bB (aE [] (ao (an 131072 0) 1048576) k 2).2 (ao (an 131072 0) 1048576) then (bif bB (aE (aE [] (ao (an 131072 0) 1048576) k 2).2 (ao (an 131072 0) 1048576) v 2).2 (ao (an 131072 0) 1048576) then (bif z then (bif bB (aE (aE (aE [] (ao (an 131072 0) 1048576) k 2).2 (ao (an 131072 0) 1048576) v 2).2 (ao (an 131072 0) 1048576) co 4).2 (ao (an 131072 0) 1048576) then (bif bB (aE (aE (aE (aE [] (ao (an 131072 0) 1048576) k 2).2 (ao (an 131072 0) 1048576) v 2).2 (ao (an 131072 0) 1048576) co 4).2 (ao (an 131072 0) 1048576) (-1) 2).2 (ao (an 131072 0) 1048576)&&decide (aT [y]≤4294960000) then (bif decide ((bC (aE (aE (aE (aE [] (ao (an 131072 0) 1048576) k 2).2 (ao (an 131072 0) 1048576) v 2).2 (ao (an 131072 0) 1048576) co 4).2 (ao (an 131072 0) 1048576) (-1) 2).2 (ao (an 131072 0) 1048576) [y]).2.length≤4294967296) then some (Out.ret (((bC (aE (aE (aE (aE [] (ao (an 131072 0) 1048576) k 2).2 (ao (an 131072 0) 1048576) v 2).2 (ao (an 131072 0) 1048576) co 4).2 (ao (an 131072 0) 1048576) (-1) 2).2 (ao (an 131072 0) 1048576) [y]).2,(0,())),())) else none) else none) else none) else (bif bB (aE (aE (aE [] (ao (an 131072 0) 1048576) k 2).2 (ao (an 131072 0) 1048576) v 2).2 (ao (an 131072 0) 1048576) co 4).2 (ao (an 131072 0) 1048576) then (bif bB (aE (aE (aE (aE [] (ao (an 131072 0) 1048576) k 2).2 (ao (an 131072 0) 1048576) v 2).2 (ao (an 131072 0) 1048576) co 4).2 (ao (an 131072 0) 1048576) (IntKind.i16.wrap (cs.length:Int)) 2).2 (ao (an 131072 0) 1048576)&&decide (aT [cs]≤4294960000) then (bif bB (bC (aE (aE (aE (aE [] (ao (an 131072 0) 1048576) k 2).2 (ao (an 131072 0) 1048576) v 2).2 (ao (an 131072 0) 1048576) co 4).2 (ao (an 131072 0) 1048576) (IntKind.i16.wrap (cs.length:Int)) 2).2 (ao (an 131072 0) 1048576) [cs]).2 (ao (an 131072 0) 1048576)&&decide (aT [y]≤4294960000) then (bif decide ((bC (bC (aE (aE (aE (aE [] (ao (an 131072 0) 1048576) k 2).2 (ao (an 131072 0) 1048576) v 2).2 (ao (an 131072 0) 1048576) co 4).2 (ao (an 131072 0) 1048576) (IntKind.i16.wrap (cs.length:Int)) 2).2 (ao (an 131072 0) 1048576) [cs]).2 (ao (an 131072 0) 1048576) [y]).2.length≤4294967296) then some (Out.ret (((bC (bC (aE (aE (aE (aE [] (ao (an 131072 0) 1048576) k 2).2 (ao (an 131072 0) 1048576) v 2).2 (ao (an 131072 0) 1048576) co 4).2 (ao (an 131072 0) 1048576) (IntKind.i16.wrap (cs.length:Int)) 2).2 (ao (an 131072 0) 1048576) [cs]).2 (ao (an 131072 0) 1048576) [y]).2,(0,())),())) else none) else none) else none) else none)) else none) else none:Option (Out ((List Int×(Int×Unit))×Unit) Empty))=some (Out.ret ((Vl k v co (z,(cs,()))++y,(0,())),())):=by
 have hM:ao (an 131072 0) 1048576=131072:=by decide
 rw[hM]
 have e1:=qF (b:=[]) (v:=k) (n:=2) (by simp)
 have l1:(([]:List Int)++aM k 2).length=2:=by simp[bY]
 have e2:=qF (b:=[]++aM k 2) (v:=v) (n:=2) (by omega)
 have l2:(([]++aM k 2)++aM v 2).length=4:=by rw[List.length_append,l1,bY]
 have e3:=qF (b:=([]++aM k 2)++aM v 2) (v:=co) (n:=4) (by omega)
 have l3:((([]++aM k 2)++aM v 2)++aM co 4).length=8:=by rw[List.length_append,l2,bY]
 simp only[e1,e2,e3]
 rw[aa (jI (by omega)),aa (jI (by omega))]
 unfold Vl Oi
 cases z with
 |true=>
  have e4:=qF (b:=(([]++aM k 2)++aM v 2)++aM co 4) (v:=-1) (n:=2) (by omega)
  have l4:(((([]++aM k 2)++aM v 2)++aM co 4)++aM (-1) 2).length=10:=by rw[List.length_append,l3,bY]
  have e5:=tX (b:=((([]++aM k 2)++aM v 2)++aM co 4)++aM (-1) 2) (y:=y) (by omega)
  simp only[e4,e5,cond_true]
  refine (aa (jI (by omega)) _ _).trans ?_
  refine (aa (Bool.and_eq_true_iff.2 ⟨jI (by omega),decide_eq_true (show y.length+0≤4294960000 by omega)⟩) _ _).trans ?_
  refine (aa (decide_eq_true (by rw[List.length_append,l4];omega)) _ _).trans ?_
  simp
 |false=>
  have hw:IntKind.i16.wrap (cs.length:Int)=cs.length:=dD (by simp[eE,IntKind.min,IntKind.max,IntKind.signed,IntKind.bits];omega)
  rw[hw]
  have e4:=qF (b:=(([]++aM k 2)++aM v 2)++aM co 4) (v:=cs.length) (n:=2) (by omega)
  have l4:(((([]++aM k 2)++aM v 2)++aM co 4)++aM cs.length 2).length=10:=by rw[List.length_append,l3,bY]
  have e5:=tX (b:=((([]++aM k 2)++aM v 2)++aM co 4)++aM cs.length 2) (y:=cs) (by omega)
  have l5:((((([]++aM k 2)++aM v 2)++aM co 4)++aM cs.length 2)++cs).length=10+cs.length:=by rw[List.length_append,l4]
  have e6:=tX (b:=(((([]++aM k 2)++aM v 2)++aM co 4)++aM cs.length 2)++cs) (y:=y) (by omega)
  simp only[e4,e5,e6,cond_false]
  refine (aa (jI (by omega)) _ _).trans ?_
  refine (aa (Bool.and_eq_true_iff.2 ⟨jI (by omega),decide_eq_true (show cs.length+0≤4294960000 by omega)⟩) _ _).trans ?_
  refine (aa (Bool.and_eq_true_iff.2 ⟨jI (by omega),decide_eq_true (show y.length+0≤4294960000 by omega)⟩) _ _).trans ?_
  refine (aa (decide_eq_true (by rw[List.length_append,l5];omega)) _ _).trans ?_
  simp
def tW (m:jR.den):Bool:=(m.2.1 == 0)&&((m.1.length:Int) == 0)
def tS (m:ci.den):Bool:=(m.1 == 0)&&((m.2.1.length:Int) == 0)
def tV (m:bN.den):Bool:=(m.1 == 0)&&((m.2.1.length:Int) == 0)
def pG (c:cD.den):Bool:=((c.1 == 0) || tW c.2.2.2.1)&&(((c.1 == 1) || tS c.2.2.2.2.1)&&((c.1 == 2) || tV c.2.2.2.2.2.1))
theorem EJ (co:Int)(y:List Int)(hy:y.length≤130048):
  (bif bB (aE [] (ao (an 131072 0) 1048576) co 4).2 (ao (an 131072 0) 1048576)&&decide (aT [y]≤4294960000) then (bif decide ((bC (aE [] (ao (an 131072 0) 1048576) co 4).2 (ao (an 131072 0) 1048576) [y]).2.length≤4294967296) then some (Out.ret (((bC (aE [] (ao (an 131072 0) 1048576) co 4).2 (ao (an 131072 0) 1048576) [y]).2,(0,())),())) else none) else none:Option (Out ((List Int×(Int×Unit))×Unit) Empty))=some (Out.ret ((aM co 4++y,(0,())),())):=by
 have hM:ao (an 131072 0) 1048576=131072:=by decide
 rw[hM]
 have e1:=qF (b:=[]) (v:=co) (n:=4) (by simp)
 have l1:(([]:List Int)++aM co 4).length=4:=by simp[bY]
 have e2:=tX (b:=[]++aM co 4) (y:=y) (by omega)
 simp only[e1,e2]
 refine (aa (Bool.and_eq_true_iff.2 ⟨jI (by omega),decide_eq_true (show y.length+0≤4294960000 by omega)⟩) _ _).trans ?_
 refine (aa (decide_eq_true (by rw[List.length_append,l1];omega)) _ _).trans ?_
 rfl
theorem RF (k v co:Int)(pt:List aq.den)(ph fh lh:Int)(ft:List ag.den)(lt:List af.den):(bif !!(bif !(k == 0) then tW (pt,(ph,())) else true) then (bif !!(bif !(k == 1) then tS (fh,(ft,())) else true) then !(bif !(k == 2) then tV (lh,(lt,())) else true) else true) else true) = !(pG (k,(v,(co,((pt,(ph,())),((fh,(ft,())),((lh,(lt,())),()))))))):=by
 unfold pG
 show _ = !(((k == 0) || tW (pt,(ph,())))&&(((k == 1) || tS (fh,(ft,())))&&((k == 2) || tV (lh,(lt,())))))
 cases tW (pt,(ph,())) <;> cases tS (fh,(ft,())) <;> cases tV (lh,(lt,())) <;> cases (k == 0) <;> cases (k == 1) <;> cases (k == 2) <;> rfl
def ol (c:cD.den):List Int×Int:=if c.1=0 then gi c.2.1 c.2.2.2.1 else if c.1=1 then jT c.2.1 c.2.2.2.2.1 else jJ c.2.1 c.2.2.2.2.2.1
def eC (c:cD.den):List Int×Int:=if f6 c.1 c.2.1≠0 then ([],f6 c.1 c.2.1) else if pG c=false then ([],7) else
 if (ol c).2≠0 then ([],(ol c).2) else (aM c.2.2.1 4++(ol c).1,0)
abbrev lG:Io:=⟨[.dat cD true false],[],[],[dO,dI],none⟩
def D8 (d:lG.In):Tr lG.Res:=.ite (dY d.1.1.2.2.2.2.1.2.1) (.ret (.ret (((eC d.1.1).1,((eC d.1.1).2,())),()))) .no
abbrev MM:List (Nat×Hc):=[(40,ah iu uv),(58,ah xA Rf),(59,ah td Mq),(60,ah tg Ms),(46,ah nP Gy),(48,ah nO Gx),(49,ah mt BY),(50,ah iz sC)]
def Ws:Hd:=bz MM
def Ns:Lp:=bo []
def B7 (a0 a1 a2:Int)(a3:List aq.den)(a4 a5:Int)(a6:List ag.den)(a7:Int)(a8:List af.den):Option lG.Res:=bif f6 a0 a1 != 0 then some (Out.ret (([],f6 a0 a1,()),())) else bif bif !!bif !a0 == 0 then a4 == 0&&Decidable.rec (fun (h:¬(↑(List.length (((a0,a1,a2,(a3,a4,()),(a5,a6,()),(a7,a8,()),()),()),()).1.1.2.2.2.1.1):Int)=0)=>false) (fun (h:(↑(List.length (((a0,a1,a2,(a3,a4,()),(a5,a6,()),(a7,a8,()),()),()),()).1.1.2.2.2.1.1):Int)=0)=>true) ((↑(List.length (((a0,a1,a2,(a3,a4,()),(a5,a6,()),(a7,a8,()),()),()),()).1.1.2.2.2.1.1):Int).instDecidableEq 0) else true then bif !!bif !a0 == 1 then a5 == 0&&Decidable.rec (fun (h:¬(↑(List.length (((a0,a1,a2,(a3,a4,()),(a5,a6,()),(a7,a8,()),()),()),()).1.1.2.2.2.2.1.2.1):Int)=0)=>false) (fun (h:(↑(List.length (((a0,a1,a2,(a3,a4,()),(a5,a6,()),(a7,a8,()),()),()),()).1.1.2.2.2.2.1.2.1):Int)=0)=>true) ((↑(List.length (((a0,a1,a2,(a3,a4,()),(a5,a6,()),(a7,a8,()),()),()),()).1.1.2.2.2.2.1.2.1):Int).instDecidableEq 0) else true then !bif !a0 == 2 then a7 == 0&&Decidable.rec (fun (h:¬(↑(List.length (((a0,a1,a2,(a3,a4,()),(a5,a6,()),(a7,a8,()),()),()),()).1.1.2.2.2.2.2.1.2.1):Int)=0)=>false) (fun (h:(↑(List.length (((a0,a1,a2,(a3,a4,()),(a5,a6,()),(a7,a8,()),()),()),()).1.1.2.2.2.2.2.1.2.1):Int)=0)=>true) ((↑(List.length (((a0,a1,a2,(a3,a4,()),(a5,a6,()),(a7,a8,()),()),()),()).1.1.2.2.2.2.2.1.2.1):Int).instDecidableEq 0) else true else true else true then some (Out.ret (([],7,()),())) else bif a0 == 0 then bif (gi (IntKind.i64.wrap a1) (a3,a4,())).2 != 0 then some (Out.ret (([],(gi (IntKind.i64.wrap a1) (a3,a4,())).2,()),())) else bif bB (aE [] (ao (an 131072 0) 1048576) a2 4).2 (ao (an 131072 0) 1048576)&&decide (aT [(gi (IntKind.i64.wrap a1) (a3,a4,())).1]≤4294960000) then bif decide ((bC (aE [] (ao (an 131072 0) 1048576) a2 4).2 (ao (an 131072 0) 1048576) [(gi (IntKind.i64.wrap a1) (a3,a4,())).1]).2.length≤4294967296) then some (Out.ret (((bC (aE [] (ao (an 131072 0) 1048576) a2 4).2 (ao (an 131072 0) 1048576) [(gi (IntKind.i64.wrap a1) (a3,a4,())).1]).2,0,()),())) else none else none else bif a0 == 1 then bif dY a6 then bif (jT (IntKind.i64.wrap a1) (a5,a6,())).2 != 0 then some (Out.ret (([],(jT (IntKind.i64.wrap a1) (a5,a6,())).2,()),())) else bif bB (aE [] (ao (an 131072 0) 1048576) a2 4).2 (ao (an 131072 0) 1048576)&&decide (aT [(jT (IntKind.i64.wrap a1) (a5,a6,())).1]≤4294960000) then bif decide ((bC (aE [] (ao (an 131072 0) 1048576) a2 4).2 (ao (an 131072 0) 1048576) [(jT (IntKind.i64.wrap a1) (a5,a6,())).1]).2.length≤4294967296) then some (Out.ret (((bC (aE [] (ao (an 131072 0) 1048576) a2 4).2 (ao (an 131072 0) 1048576) [(jT (IntKind.i64.wrap a1) (a5,a6,())).1]).2,0,()),())) else none else none else none else bif a0 == 2 then bif (jJ (IntKind.i64.wrap a1) (a7,a8,())).2 != 0 then some (Out.ret (([],(jJ (IntKind.i64.wrap a1) (a7,a8,())).2,()),())) else bif bB (aE [] (ao (an 131072 0) 1048576) a2 4).2 (ao (an 131072 0) 1048576)&&decide (aT [(jJ (IntKind.i64.wrap a1) (a7,a8,())).1]≤4294960000) then bif decide ((bC (aE [] (ao (an 131072 0) 1048576) a2 4).2 (ao (an 131072 0) 1048576) [(jJ (IntKind.i64.wrap a1) (a7,a8,())).1]).2.length≤4294967296) then some (Out.ret (((bC (aE [] (ao (an 131072 0) 1048576) a2 4).2 (ao (an 131072 0) 1048576) [(jJ (IntKind.i64.wrap a1) (a7,a8,())).1]).2,0,()),())) else none else none else bif bB (aE [] (ao (an 131072 0) 1048576) a2 4).2 (ao (an 131072 0) 1048576)&&decide (aT [[]]≤4294960000) then bif decide ((bC (aE [] (ao (an 131072 0) 1048576) a2 4).2 (ao (an 131072 0) 1048576) [[]]).2.length≤4294967296) then some (Out.ret (((bC (aE [] (ao (an 131072 0) 1048576) a2 4).2 (ao (an 131072 0) 1048576) [[]]).2,0,()),())) else none else none
theorem Uz (a0 a1 a2:Int)(a3:List aq.den)(a4 a5:Int)(a6:List ag.den)(a7:Int)(a8:List af.den):Io.run tt Ws drG Ns lG Tryz.f18 (((a0,a1,a2,(a3,a4,()),(a5,a6,()),(a7,a8,()),()),()),())=B7 a0 a1 a2 a3 a4 a5 a6 a7 a8:=by kernel_rfl
theorem N0:HcOk prog 18 (ah lG D8):=by
 refine CX (n:=400) hm (cs:=MM) (.cons xF (.cons Xj (.cons T2 (.cons T4 (.cons K3 (.cons K2 (.cons FS (.cons z8 .nil)))))))) (lp:=Ns) (fn:=Tryz.f18) (by kernel_rfl) (by kernel_rfl) (by kernel_rfl) lG (.done (by kernel_rfl)) D8 ?_
 rintro ⟨⟨⟨(k:Int),(v:Int),(co:Int),⟨(pt:List aq.den),(ph:Int),⟨⟩⟩,⟨(fh:Int),(ft:List ag.den),⟨⟩⟩,⟨(lh:Int),(lt:List af.den),⟨⟩⟩,⟨⟩⟩,⟨⟩⟩,⟨⟩⟩ out hw ho
 obtain ⟨hg,ho⟩:=Tr.guard ho
 have hg:dY ft=true:=hg
 cases ho
 refine (Uz k v co pt ph fh ft lh lt).trans ?_
 unfold B7
 have hv:IntKind.i64.wrap v=v:=gB hw.1.1.2.1
 rw[hv]
 show _=some (Out.ret (((eC (k,(v,(co,((pt,(ph,())),((fh,(ft,())),((lh,(lt,())),()))))))).1,((eC (k,(v,(co,((pt,(ph,())),((fh,(ft,())),((lh,(lt,())),()))))))).2,())),()))
 unfold eC ol
 dsimp only
 by_cases h1:f6 k v=0
 ·rw[ab (by simpa using h1),if_neg (not_not_intro h1)]
  show (bif (bif !!(bif !(k == 0) then tW (pt,(ph,())) else true) then (bif !!(bif !(k == 1) then tS (fh,(ft,())) else true) then !(bif !(k == 2) then tV (lh,(lt,())) else true) else true) else true) then _ else _)=_
  rw[RF k v co pt ph fh lh ft lt]
  generalize pG (k,(v,(co,((pt,(ph,())),((fh,(ft,())),((lh,(lt,())),()))))))=ot
  cases ot with
  |false=>rw[Bool.not_false,cond_true,if_pos rfl]
  |true=>
   rw[Bool.not_true,cond_false,if_neg (by decide)]
   have hk:k=0∨k=1∨k=2:=by
    unfold f6 at h1
    split at h1
    ·cases h1
    ·omega
   have lq:(gi v (pt,(ph,()))).1.length≤130048:=by unfold gi;exact mX _ _ _ _
   have lf:(jT v (fh,(ft,()))).1.length≤130048:=by unfold jT;exact mX _ _ _ _
   have lo:(jJ v (lh,(lt,()))).1.length≤130048:=by unfold jJ;exact mX _ _ _ _
   by_cases k0:k=0
   ·rw[aa (by simpa using k0),if_pos k0]
    by_cases h4:(gi v (pt,(ph,()))).2=0
    ·rw[ab (by simpa using h4),if_neg (not_not_intro h4)]
     exact EJ co _ lq
    ·rw[aa (by simpa using h4),if_pos h4]
   rw[ab (by simpa using k0),if_neg k0]
   by_cases k1:k=1
   ·rw[aa (by simpa using k1),if_pos k1,aa hg]
    by_cases h4:(jT v (fh,(ft,()))).2=0
    ·rw[ab (by simpa using h4),if_neg (not_not_intro h4)]
     exact EJ co _ lf
    ·rw[aa (by simpa using h4),if_pos h4]
   rw[ab (by simpa using k1),if_neg k1]
   have k2:k=2:=by omega
   rw[aa (by simpa using k2)]
   by_cases h4:(jJ v (lh,(lt,()))).2=0
   ·rw[ab (by simpa using h4),if_neg (not_not_intro h4)]
    exact EJ co _ lo
   ·rw[aa (by simpa using h4),if_pos h4]
 ·rw[aa (by simpa using h1),if_pos h1]
abbrev FD:lx.den:=(false,([],()))
def ie (b:List Int)(p:Int):lx.den×(Int×Int):=
 if (al b p 2).2.2≠0 then (FD,((al b p 2).2.1,(al b p 2).2.2)) else if IntKind.i16.wrap (al b p 2).1 = -1 then ((true,([],())),((al b p 2).2.1,0)) else
 if IntKind.i16.wrap (al b p 2).1<0 then (FD,((al b p 2).2.1,5)) else if 255<IntKind.i16.wrap (al b p 2).1 then (FD,((al b p 2).2.1,4)) else
 if (aR b (al b p 2).2.1 (IntKind.i16.wrap (al b p 2).1)).2.2≠0 then (FD,(aR b (al b p 2).2.1 (IntKind.i16.wrap (al b p 2).1)).2) else
 ((false,((aR b (al b p 2).2.1 (IntKind.i16.wrap (al b p 2).1)).1,())),((aR b (al b p 2).2.1 (IntKind.i16.wrap (al b p 2).1)).2.1,xe (false,((aR b (al b p 2).2.1 (IntKind.i16.wrap (al b p 2).1)).1,()))))
theorem tY {b:List Int}{p:Int}(n:Nat)(h:bi b p=true):bi b (al b p n).2.1=true:=by
 unfold bi at h ⊢
 simp only[Bool.and_eq_true,decide_eq_true_eq] at h
 unfold al
 split
 ·simpa using h
 ·simp;omega
theorem Yh {b:List Int}{p:Int}(n:Int)(h:bi b p=true):bi b (aR b p n).2.1=true:=by
 unfold bi at h ⊢
 simp only[Bool.and_eq_true,decide_eq_true_eq] at h
 unfold aR
 split
 ·simpa using h
 ·split
  ·simpa using h
  ·simp;omega
theorem Vm {b:List Int}{p:Int}(h:bi b p=true):bi b (ie b p).2.1=true:=by
 unfold ie
 have h1:=tY 2 h
 have h2:=Yh (IntKind.i16.wrap (al b p 2).1) h1
 repeat' split
 all_goals first | exact h1 | exact h2
abbrev nu:Io:=⟨[.ptr 0 0],[QZ],[],[ES,dI],none⟩
def JQ (d:nu.In):Tr nu.Res:=.ite (bi d.2.1.1 d.2.1.2.1) (.ret (.ret (((ie d.2.1.1 d.2.1.2.1).1,((ie d.2.1.1 d.2.1.2.1).2.2,())),((d.2.1.1,((ie d.2.1.1 d.2.1.2.1).2.1,())),())))) .no
abbrev MO:List (Nat×Hc):=[(136,ah j3 yd),(63,ah gq pV),(41,ah gW sh)]
def Wu:Hd:=bz MO
def Nu:Lp:=bo []
def B9 (a0:List Int)(a1:Int):Option nu.Res:=bif bi a0 a1 then bif (al a0 a1 2).2.2 != 0 then some (Out.ret (((false,[],()),(al a0 a1 2).2.2,()),(a0,(al a0 a1 2).2.1,()),())) else bif IntKind.i16.wrap (al a0 a1 2).1 == -1 then some (Out.ret (((true,[],()),0,()),(a0,(al a0 a1 2).2.1,()),())) else bif decide (IntKind.i16.wrap (al a0 a1 2).1<0) then some (Out.ret (((false,[],()),5,()),(a0,(al a0 a1 2).2.1,()),())) else bif decide (255<IntKind.i16.wrap (al a0 a1 2).1) then some (Out.ret (((false,[],()),4,()),(a0,(al a0 a1 2).2.1,()),())) else bif bi a0 (al a0 a1 2).2.1 then bif (aR a0 (al a0 a1 2).2.1 (IntKind.i64.wrap (IntKind.i16.wrap (al a0 a1 2).1))).2.2 != 0 then some (Out.ret (((false,[],()),(aR a0 (al a0 a1 2).2.1 (IntKind.i64.wrap (IntKind.i16.wrap (al a0 a1 2).1))).2.2,()),(a0,(aR a0 (al a0 a1 2).2.1 (IntKind.i64.wrap (IntKind.i16.wrap (al a0 a1 2).1))).2.1,()),())) else some (Out.ret (((false,(aR a0 (al a0 a1 2).2.1 (IntKind.i64.wrap (IntKind.i16.wrap (al a0 a1 2).1))).1,()),xe (false,(aR a0 (al a0 a1 2).2.1 (IntKind.i64.wrap (IntKind.i16.wrap (al a0 a1 2).1))).1,()),()),(a0,(aR a0 (al a0 a1 2).2.1 (IntKind.i64.wrap (IntKind.i16.wrap (al a0 a1 2).1))).2.1,()),())) else none else none
theorem UB (a0:List Int)(a1:Int):Io.run tt Wu dr Nu nu Tryz.f137 (((),()),(a0,a1,()),())=B9 a0 a1:=by kernel_rfl
theorem W9:HcOk prog 137 (ah nu JQ):=by
 refine aj (n:=400) hm (cs:=MO) (.cons FP (.cons tI (.cons Dy .nil))) (lp:=Nu) (fn:=Tryz.f137) (by kernel_rfl) (by kernel_rfl) (by kernel_rfl) nu (.done (by kernel_rfl)) JQ ?_
 rintro ⟨⟨⟨⟩,⟨⟩⟩,⟨⟨(b:List Int),(p:Int),⟨⟩⟩,⟨⟩⟩⟩ out hw ho
 obtain ⟨hg,ho⟩:=Tr.guard ho
 have hg:bi b p=true:=hg
 cases ho
 refine (UB b p).trans ?_
 unfold B9
 show _=some (Out.ret (((ie b p).1,((ie b p).2.2,())),((b,((ie b p).2.1,())),())))
 have hw64:IntKind.i64.wrap (IntKind.i16.wrap (al b p 2).1)=IntKind.i16.wrap (al b p 2).1:=gB (ej _ _)
 rw[hw64]
 unfold ie
 have hr:=tY 2 hg
 generalize al b p 2=r at hr ⊢
 obtain ⟨n,q,e⟩:=r
 have hr:bi b q=true:=hr
 refine (aa hg _ _).trans ?_
 dsimp only
 generalize IntKind.i16.wrap n=m
 by_cases h1:e=0
 ·rw[ab (by simpa using h1),if_neg (not_not_intro h1)]
  by_cases h2:m = -1
  ·rw[aa (by simpa using h2),if_pos h2]
  rw[ab (by simpa using h2),if_neg h2]
  by_cases h3:m<0
  ·rw[aa (by simpa using h3),if_pos h3]
  rw[ab (by simpa using h3),if_neg h3]
  by_cases h4:255<m
  ·rw[aa (by simpa using h4),if_pos h4]
  rw[ab (by simpa using h4),if_neg h4,aa hr]
  generalize aR b q m=t
  obtain ⟨x,q2,e2⟩:=t
  dsimp only
  by_cases h5:e2=0
  ·rw[ab (by simpa using h5),if_neg (not_not_intro h5)]
  ·rw[aa (by simpa using h5),if_pos h5]
 ·rw[aa (by simpa using h1),if_pos h1]
def cX (b:List Int)(p:Int):(Int×(Int×(Int×lx.den)))×(Int×Int):=
 if (al b p 2).2.2≠0 then ((IntKind.i16.wrap (al b p 2).1,(0,(0,FD))),(al b p 2).2) else
 if (al b (al b p 2).2.1 2).2.2≠0 then ((IntKind.i16.wrap (al b p 2).1,(IntKind.i16.wrap (al b (al b p 2).2.1 2).1,(0,FD))),(al b (al b p 2).2.1 2).2) else
 if (al b (al b (al b p 2).2.1 2).2.1 4).2.2≠0 then ((IntKind.i16.wrap (al b p 2).1,(IntKind.i16.wrap (al b (al b p 2).2.1 2).1,(IntKind.i32.wrap (al b (al b (al b p 2).2.1 2).2.1 4).1,FD))),(al b (al b (al b p 2).2.1 2).2.1 4).2) else
 ((IntKind.i16.wrap (al b p 2).1,(IntKind.i16.wrap (al b (al b p 2).2.1 2).1,(IntKind.i32.wrap (al b (al b (al b p 2).2.1 2).2.1 4).1,(ie b (al b (al b (al b p 2).2.1 2).2.1 4).2.1).1))),
  ((ie b (al b (al b (al b p 2).2.1 2).2.1 4).2.1).2.1,if (ie b (al b (al b (al b p 2).2.1 2).2.1 4).2.1).2.2≠0 then (ie b (al b (al b (al b p 2).2.1 2).2.1 4).2.1).2.2 else f6 (IntKind.i16.wrap (al b p 2).1) (IntKind.i16.wrap (al b (al b p 2).2.1 2).1)))
abbrev Xv:VS.den:=(FD,(0,(0,(([]:List bM.den),()))))
abbrev fq0:Bq.den:=(0,(0,(0,(0,(0,(([]:List aQ.den),()))))))
abbrev oq0:dF.den:=(0,(0,(([]:List am.den),())))
abbrev Wp (h:Int×(Int×(Int×lx.den)))(q:VS.den)(f:Bq.den)(l:dF.den):jV.den:=(h.1,(h.2.1,(h.2.2.1,(h.2.2.2,(q,(f,(l,())))))))
abbrev kz:Io:=⟨[.ptr 0 0],[QZ],[],[.dat jV true false,dI],none⟩
def D5 (d:kz.In):Tr kz.Res:=.ite (bi d.2.1.1 d.2.1.2.1) (.ret (.ret ((Wp (cX d.2.1.1 d.2.1.2.1).1 Xv fq0 oq0,((cX d.2.1.1 d.2.1.2.1).2.2,())),((d.2.1.1,((cX d.2.1.1 d.2.1.2.1).2.1,())),())))) .no
abbrev Hf:List (Nat×Hc):=[(136,ah j3 yd),(74,ah j4 yf),(137,ah nu JQ),(40,ah iu uv)]
def SD:Hd:=bz Hf
def Ic:Lp:=bo []
def yr (a0:List Int)(a1:Int):Option kz.Res:=bif bi a0 a1 then bif (al a0 a1 2).2.2 != 0 then some (Out.ret (((IntKind.i16.wrap (al a0 a1 2).1,0,0,(false,[],()),((false,[],()),0,0,[],()),(0,0,0,0,0,[],()),(0,0,[],()),()),(al a0 a1 2).2.2,()),(a0,(al a0 a1 2).2.1,()),())) else bif bi a0 (al a0 a1 2).2.1 then bif (al a0 (al a0 a1 2).2.1 2).2.2 != 0 then some (Out.ret (((IntKind.i16.wrap (al a0 a1 2).1,IntKind.i16.wrap (al a0 (al a0 a1 2).2.1 2).1,0,(false,[],()),((false,[],()),0,0,[],()),(0,0,0,0,0,[],()),(0,0,[],()),()),(al a0 (al a0 a1 2).2.1 2).2.2,()),(a0,(al a0 (al a0 a1 2).2.1 2).2.1,()),())) else bif bi a0 (al a0 (al a0 a1 2).2.1 2).2.1 then bif (al a0 (al a0 (al a0 a1 2).2.1 2).2.1 4).2.2 != 0 then some (Out.ret (((IntKind.i16.wrap (al a0 a1 2).1,IntKind.i16.wrap (al a0 (al a0 a1 2).2.1 2).1,IntKind.i32.wrap (al a0 (al a0 (al a0 a1 2).2.1 2).2.1 4).1,(false,[],()),((false,[],()),0,0,[],()),(0,0,0,0,0,[],()),(0,0,[],()),()),(al a0 (al a0 (al a0 a1 2).2.1 2).2.1 4).2.2,()),(a0,(al a0 (al a0 (al a0 a1 2).2.1 2).2.1 4).2.1,()),())) else bif bi a0 (al a0 (al a0 (al a0 a1 2).2.1 2).2.1 4).2.1 then bif (ie a0 (al a0 (al a0 (al a0 a1 2).2.1 2).2.1 4).2.1).2.2 != 0 then some (Out.ret (((IntKind.i16.wrap (al a0 a1 2).1,IntKind.i16.wrap (al a0 (al a0 a1 2).2.1 2).1,IntKind.i32.wrap (al a0 (al a0 (al a0 a1 2).2.1 2).2.1 4).1,(ie a0 (al a0 (al a0 (al a0 a1 2).2.1 2).2.1 4).2.1).1,((false,[],()),0,0,[],()),(0,0,0,0,0,[],()),(0,0,[],()),()),(ie a0 (al a0 (al a0 (al a0 a1 2).2.1 2).2.1 4).2.1).2.2,()),(a0,(ie a0 (al a0 (al a0 (al a0 a1 2).2.1 2).2.1 4).2.1).2.1,()),())) else some (Out.ret (((IntKind.i16.wrap (al a0 a1 2).1,IntKind.i16.wrap (al a0 (al a0 a1 2).2.1 2).1,IntKind.i32.wrap (al a0 (al a0 (al a0 a1 2).2.1 2).2.1 4).1,(ie a0 (al a0 (al a0 (al a0 a1 2).2.1 2).2.1 4).2.1).1,((false,[],()),0,0,[],()),(0,0,0,0,0,[],()),(0,0,[],()),()),f6 (IntKind.i16.wrap (al a0 a1 2).1) (IntKind.i16.wrap (al a0 (al a0 a1 2).2.1 2).1),()),(a0,(ie a0 (al a0 (al a0 (al a0 a1 2).2.1 2).2.1 4).2.1).2.1,()),())) else none else none else none else none
theorem PF (a0:List Int)(a1:Int):Io.run tt SD dr Ic kz Tryz.f62 (((),()),(a0,a1,()),())=yr a0 a1:=by kernel_rfl
theorem TP:HcOk prog 62 (ah kz D5):=by
 refine aj (n:=400) hm (cs:=Hf) (.cons FP (.cons FQ (.cons W9 (.cons xF .nil)))) (lp:=Ic) (fn:=Tryz.f62) (by kernel_rfl) (by kernel_rfl) (by kernel_rfl) kz (.done (by kernel_rfl)) D5 ?_
 rintro ⟨⟨⟨⟩,⟨⟩⟩,⟨⟨(b:List Int),(p:Int),⟨⟩⟩,⟨⟩⟩⟩ out hw ho
 obtain ⟨hg,ho⟩:=Tr.guard ho
 have hg:bi b p=true:=hg
 cases ho
 refine (PF b p).trans ?_
 unfold yr
 show _=some (Out.ret ((Wp (cX b p).1 Xv fq0 oq0,((cX b p).2.2,())),((b,((cX b p).2.1,())),())))
 unfold cX
 have g1:=tY 2 hg
 have g2:=tY 2 g1
 have g3:=tY 4 g2
 refine (aa hg _ _).trans ?_
 by_cases h1:(al b p 2).2.2=0
 ·rw[ab (by simpa using h1),if_neg (not_not_intro h1),aa g1]
  by_cases h2:(al b (al b p 2).2.1 2).2.2=0
  ·rw[ab (by simpa using h2),if_neg (not_not_intro h2),aa g2]
   by_cases h3:(al b (al b (al b p 2).2.1 2).2.1 4).2.2=0
   ·rw[ab (by simpa using h3),if_neg (not_not_intro h3),aa g3]
    dsimp only
    by_cases h4:(ie b (al b (al b (al b p 2).2.1 2).2.1 4).2.1).2.2=0
    ·rw[ab (by simpa using h4),if_neg (not_not_intro h4)]
    ·rw[aa (by simpa using h4),if_pos h4]
   ·rw[aa (by simpa using h3),if_pos h3]
  ·rw[aa (by simpa using h2),if_pos h2]
 ·rw[aa (by simpa using h1),if_pos h1]
theorem X9 {b:List Int}{p:Int}(h:bi b p=true):bi b (cX b p).2.1=true:=by
 have g1:=tY 2 h
 have g2:=tY 2 g1
 have g3:=tY 4 g2
 have g4:=Vm g3
 unfold cX
 split
 ·exact g1
 ·split
  ·exact g2
  ·split
   ·exact g3
   ·exact g4
theorem DI {b:List Int}{p:Int}(h:bi b p=true):aR b p ((b.length:Int) - p)=(b.drop p.toNat,((b.length:Int),0)):=by
 unfold bi at h
 simp only[Bool.and_eq_true,decide_eq_true_eq] at h
 unfold aR
 rw[if_neg (by omega),if_neg (by omega)]
 rw[List.take_of_length_le (by rw[List.length_drop];omega),show p+((b.length:Int) - p)=b.length by omega]
theorem Vk {k v:Int}(h:f6 k v=0):k=0∨k=1∨k=2:=by
 unfold f6 at h
 split at h
 ·cases h
 ·omega
theorem QY:IntKind.i64.wrap 0=0:=az (by decide) (by decide)
theorem Vj {b:List Int}{p:Int}:IntKind.i64.wrap (cX b p).1.2.1=(cX b p).1.2.1:=by
 unfold cX
 split
 ·exact QY
 ·split
  ·exact gB (ej _ _)
  ·split
   ·exact gB (ej _ _)
   ·exact gB (ej _ _)
abbrev YE:jV.den:=Wp (0,(0,(0,FD))) Xv fq0 oq0
abbrev K7:jR.den:=(([]:List aq.den),(0,()))
abbrev ZE:ci.den:=(0,(([]:List ag.den),()))
abbrev Y0:bN.den:=(0,(([]:List af.den),()))
abbrev abl (k v co:Int)(q:jR.den)(f:ci.den)(l:bN.den):cD.den:=(k,(v,(co,(q,(f,(l,()))))))
abbrev Uv:cD.den:=abl 0 0 0 K7 ZE Y0
end
end Go.Proofs.YtomeplopmndbgaaGreat.Sym
