/- Tokens: carried out as they are read. -/
import Derived.Test.YtcbcbjdobbgddaaGreatDoorQ4

set_option linter.unusedVariables false
set_option linter.unusedSimpArgs false
namespace Go.Proofs.YtcbcbjdobbgddaaGreatDoor.Sym
open Go
open Go.IntKind (i8 i16 i32 i64 u8 u16 u32 u64)
noncomputable section
abbrev MI:Ty:=.prod bs (.prod (.int .i64) (.prod (.int .i64) .unit))
abbrev wX:Sh:=.dat MI true false
abbrev Iq:Type:=LI×Int×Int×Unit
def dn:Iq:=([],0,0,())
def az (b:LI):Iq×Int×Int:=
 if b.getD 0 0<128 then (if (b.length:Int)<b.getD 0 0+2 then (dn,0,1) else (((b.drop 1).take (b.getD 0 0+1).toNat,0,0,()),b.getD 0 0+2,0))
 else if (b.length:Int)<3 then (dn,0,1)
 else if b.getD 1 0*256+b.getD 2 0<1∨4096<b.getD 1 0*256+b.getD 2 0 then (dn,0,50)
 else (([],b.getD 1 0*256+b.getD 2 0,b.getD 0 0 - 124,()),3,0)
def iM (t:Iq):Bool:=if t.2.1≠0 then true else decide (t.2.2.1≠0)
def fz (t:Iq):Bool:=
 if iM t=true then decide (0<t.1.length) || (decide (t.2.1<1) || (decide (4096<t.2.1) || (decide (t.2.2.1<4) || decide (131<t.2.2.1))))
 else decide (t.1.length<1) || decide (128<t.1.length)
def ff (d:Nat):Nat→LI→LI
 |0,out=>out
 |n+1,out=>ff d n (out++[out.getD (out.length - d) 0])
def aL (out:LI)(t:Iq)(most:Int):LI×Int:=
 if fz t=true∨(out.length:Int)<t.2.1 then ([],50)
 else if most<(out.length:Int)+t.1.length+t.2.2.1 then ([],4)
 else (ff t.2.1.toNat t.2.2.1.toNat (out++t.1),0)
def bp:Nat→LI→LI→Int→LI×Int
 |0,_,out,_=>(out,0)
 |k+1,b,out,m=>
  if b=[] then (out,0)
  else if (az b).2.2≠0 then ([],(az b).2.2)
  else if (aL out (az b).1 m).2≠0 then ([],(aL out (az b).1 m).2)
  else bp k (b.drop (az b).2.1.toNat) (aL out (az b).1 m).1 m
def aq (m:Int):Int:=lC (cX m 0) 32768
def an (b:LI)(most:Int):LI×Int:=if b=[] then ([],0) else bp (b.length+1) b [] (aq most)
theorem yA {b:LI}(hb:∀c∈b,0≤c∧c≤255)(h:(az b).2.2=0)(hne:b≠[]):2≤(az b).2.1∧(az b).2.1≤b.length:=by
 have h0:0≤b.getD 0 0:=by
  cases b with
  |nil=>exact absurd rfl hne
  |cons x l=>exact (hb x (by simp)).1
 unfold az at h ⊢
 split
 ·rename_i h1
  rw[if_pos h1] at h
  split
  ·rename_i h2;rw[if_pos h2] at h;cases h
  ·simp only;omega
 ·rename_i h1
  rw[if_neg h1] at h
  split
  ·rename_i h2;rw[if_pos h2] at h;cases h
  ·rename_i h2
   rw[if_neg h2] at h
   split
   ·rename_i h3;rw[if_pos h3] at h;cases h
   ·simp only;omega
theorem qJ {b:LI}(h:Ty.wf bs b)(i:Nat):0≤b.getD i 0∧b.getD i 0≤255:=by
 rw[List.getD_eq_getElem?_getD]
 cases e:b[i]? with
 |none=>exact ⟨by decide,by decide⟩
 |some x=>exact cZ h x (List.mem_of_getElem? e)
theorem LA {v c:Int}(h0:0≤v)(h1:v≤255)(h2:0≤c)(h3:c≤255):iO .i64 (dW .i64 v 8) c=v*256+c:=by
 have e1:dW .i64 v 8=v*256:=by
  show IntKind.wrap .i64 (v*2 ^ 8)=_
  rw[show v*2 ^ 8=v*256 by omega]
  exact af (by omega) (by omega)
 rw[e1]
 obtain ⟨v,rfl⟩:=au h0
 obtain ⟨c,rfl⟩:=au h2
 have e4:=Nat.two_pow_add_eq_or_of_lt (show c<2 ^ 8 by omega) v
 show IntKind.wrap .i64 ((BitVec.ofInt 64 ((v:Int)*256) ||| BitVec.ofInt 64 (c:Int)).toNat:Int)=_
 have e2:(BitVec.ofInt 64 (c:Int)).toNat=c:=by rw[BitVec.toNat_ofInt];omega
 have e3:(BitVec.ofInt 64 ((v:Int)*256)).toNat=2 ^ 8*v:=by rw[BitVec.toNat_ofInt];omega
 rw[BitVec.toNat_or,e2,e3,← e4]
 rw[af (by omega) (by omega)]
 omega
theorem F5 {lit:LI}{d len:Int}(h:fz (lit,d,len,())=false):(0≤len∧len≤131∧lit.length≤128)∧(len=0∧d=0∧1≤lit.length∨lit.length=0∧1≤d∧d≤4096∧4≤len):=by
 have e:fz (lit,d,len,())=if iM (lit,d,len,())=true then decide (0<lit.length) || (decide (d<1) || (decide (4096<d) || (decide (len<4) || decide (131<len)))) else decide (lit.length<1) || decide (128<lit.length):=rfl
 have e2:iM (lit,d,len,())=if d≠0 then true else decide (len≠0):=rfl
 rw[e] at h
 split at h
 ·simp only[Bool.or_eq_false_iff,decide_eq_false_iff_not] at h
  omega
 ·rename_i h2
  rw[e2] at h2
  simp only[Bool.or_eq_false_iff,decide_eq_false_iff_not] at h
  split at h2
  ·exact absurd rfl h2
  ·rename_i h3
   simp only[zB] at h2
   omega
theorem rD (d:Nat):∀(n:Nat) (out:LI),(ff d n out).length=out.length+n
 |0,_=>rfl
 |n+1,out=>by rw[ff,rD d n];simp;omega
theorem t4 (b:LI):(az b).1.1.length≤b.length:=by
 unfold az
 split
 ·split
  ·simp[dn]
  ·simp;omega
 ·split
  ·simp[dn]
  ·split
   ·simp[dn]
   ·simp
theorem mw (m:Int):0≤aq m∧aq m≤32768:=by
 unfold aq lC cX
 split <;> split <;> omega
theorem my {out:LI}{t:Iq}{m:Int}(h:(aL out t m).2=0):((aL out t m).1.length:Int)≤m:=by
 obtain ⟨lit,d,len,⟨⟩⟩:=t
 unfold aL at h ⊢
 split
 ·rename_i h1;rw[if_pos h1] at h;cases h
 ·rename_i h1
  rw[if_neg h1] at h
  have hi:fz (lit,d,len,())=false:=by
   cases e:fz (lit,d,len,()) with
   |false=>rfl
   |true=>exact absurd (.inl e) h1
  obtain ⟨i1,i2⟩:=F5 hi
  split
  ·rename_i h2;rw[if_pos h2] at h;cases h
  ·rename_i h2
   have h2:¬ m<(out.length:Int)+lit.length+len:=h2
   show ((ff d.toNat len.toNat (out++lit)).length:Int)≤m
   rw[rD,zH]
   omega
theorem gA:∀(k:Nat) (b out:LI) (m:Int),(bp k b out m).2≠0→(bp k b out m).1=[]
 |0,_,_,_,h=>absurd rfl h
 |k+1,b,out,m,h=>by
  unfold bp at h ⊢
  split
  ·rename_i h1;rw[if_pos h1] at h;exact absurd rfl h
  ·rename_i h1
   rw[if_neg h1] at h
   split
   ·rfl
   ·rename_i h2
    rw[if_neg h2] at h
    split
    ·rfl
    ·rename_i h3
     rw[if_neg h3] at h
     exact gA k _ _ _ h
theorem tW:∀(k:Nat) (b out:LI) (m:Int),(out.length:Int)≤m→((bp k b out m).1.length:Int)≤m
 |0,_,_,_,h=>h
 |k+1,b,out,m,h=>by
  have h0:((([]:LI),(0:Int)).1.length:Int)≤m:=by simp;omega
  unfold bp
  split
  ·exact h
  ·split
   ·simp;omega
   ·split
    ·simp;omega
    ·rename_i h3
     exact tW k _ _ _ (my (by simpa using h3))
theorem fx (b:LI)(m:Int):an b m=bp (b.length+1) b [] (aq m):=by
 unfold an
 split
 ·rename_i h
  subst h
  rfl
 ·rfl
def aO (b:LI):LI×Int:=
 if (aa 10 1 b 0).2.2≠0 then ([],(aa 10 1 b 0).2.2)
 else if aj (aa 10 1 b 0).1<0 then ([],5)
 else if 32768<aj (aa 10 1 b 0).1 then ([],4)
 else if (an (b.drop (aa 10 1 b 0).2.1.toNat) (aj (aa 10 1 b 0).1)).2=4∨(an (b.drop (aa 10 1 b 0).2.1.toNat) (aj (aa 10 1 b 0).1)).2=0∧((an (b.drop (aa 10 1 b 0).2.1.toNat) (aj (aa 10 1 b 0).1)).1.length:Int)<aj (aa 10 1 b 0).1 then ([],60)
 else if (an (b.drop (aa 10 1 b 0).2.1.toNat) (aj (aa 10 1 b 0).1)).2≠0 then ([],(an (b.drop (aa 10 1 b 0).2.1.toNat) (aj (aa 10 1 b 0).1)).2)
 else ((an (b.drop (aa 10 1 b 0).2.1.toNat) (aj (aa 10 1 b 0).1)).1,0)
abbrev jl:Io:=⟨[wX],[],[],[dB],none⟩
def y4 (d:jl.In):Tr jl.Res:=.ret (.ret ((iM d.1.1,()),()))
abbrev BH:List (Nat×Hc):=[]
def IX:Hd:=bt BH
def Cv:Lp:=bG []
def sU (a0:LI)(a1 a2:Int):Option jl.Res:=bif a1 != 0 then oR ((true,()),()) else oR ((a2 != 0,()),())
theorem Hy (a0:LI)(a1 a2:Int):Io.run tt IX dr Cv jl Tryz.f126 (((a0,a1,a2,()),()),())=sU a0 a1 a2:=by kernel_rfl
theorem Js:HcOk prog 126 (ah jl y4):=by
 refine bL (cs:=BH) HcsOk.nil (lp:=Cv) (fn:=Tryz.f126) jl (.done (by kernel_rfl)) y4 ?_
 rintro ⟨⟨⟨(a0:LI),(a1:Int),(a2:Int),⟨⟩⟩,⟨⟩⟩,⟨⟩⟩ out hw ho
 cases ho
 refine (Hy a0 a1 a2).trans ?_
 show _=oR ((iM (a0,a1,a2,()),()),())
 unfold sU
 show _=oR (((if a1≠0 then true else decide (a2≠0)),()),())
 by_cases h1:a1=0
 ·refine bF (by simp[h1]) ?_
  rw[if_neg (by simp[h1])]
  by_cases h2:a2=0 <;> simp[h2]
 ·refine bT (by simp[h1]) ?_
  rw[if_pos h1]
abbrev gW:Io:=⟨[wX],[],[],[dB],none⟩
def ux (d:gW.In):Tr gW.Res:=.ret (.ret ((fz d.1.1,()),()))
abbrev BJ:List (Nat×Hc):=[(126,ah jl y4)]
def IY:Hd:=bt BJ
def Cw:Lp:=bG []
def sW (a0:LI)(a1 a2:Int):Option gW.Res:=bif !iM (a0,a1,a2,()) then bif decide ((↑a0.length:Int)<1) then oR ((true,()),()) else oR ((decide (128<(↑a0.length:Int)),()),()) else bif decide (0<(↑a0.length:Int)) then oR ((true,()),()) else bif decide (a1<1) then oR ((true,()),()) else bif decide (4096<a1) then oR ((true,()),()) else bif decide (a2<4) then oR ((true,()),()) else oR ((decide (131<a2),()),())
theorem HA (a0:LI)(a1 a2:Int):Io.run tt IY dr Cw gW Tryz.f125 (((a0,a1,a2,()),()),())=sW a0 a1 a2:=by kernel_rfl
theorem CU:HcOk prog 125 (ah gW ux):=by
 refine bL (cs:=BJ) (.cons Js .nil) (lp:=Cw) (fn:=Tryz.f125) gW (.done (by kernel_rfl)) ux ?_
 rintro ⟨⟨⟨(a0:LI),(a1:Int),(a2:Int),⟨⟩⟩,⟨⟩⟩,⟨⟩⟩ out hw ho
 cases ho
 refine (HA a0 a1 a2).trans ?_
 show _=oR ((fz (a0,a1,a2,()),()),())
 unfold sW
 have e:fz (a0,a1,a2,())=if iM (a0,a1,a2,())=true then decide (0<a0.length) || (decide (a1<1) || (decide (4096<a1) || (decide (a2<4) || decide (131<a2)))) else decide (a0.length<1) || decide (128<a0.length):=rfl
 rw[e]
 cases iM (a0,a1,a2,()) with
 |false=>
  refine (ab rfl _ _).trans ?_
  rw[if_neg (by decide)]
  by_cases h:a0.length<1
  ·refine bT (by simp;omega) ?_
   simp[h]
  ·refine bF (decide_eq_false (show ¬((a0.length:Int)<1) by omega)) ?_
   have e2:decide (128<(a0.length:Int))=decide (128<a0.length):=by by_cases h2:128<a0.length <;> simp[h2] <;> omega
   simp only[h,decide_false,Bool.false_or,e2]
 |true=>
  refine (ac rfl _ _).trans ?_
  rw[if_pos rfl]
  by_cases h:0<a0.length
  ·refine bT (by simp;omega) ?_
   simp[h]
  ·refine bF (decide_eq_false (show ¬(0<(a0.length:Int)) by omega)) ?_
   by_cases h1:a1<1
   ·refine bT (by simpa using h1) ?_
    simp[h1]
   ·refine bF (by simpa using h1) ?_
    by_cases h2:4096<a1
    ·refine bT (by simpa using h2) ?_
     simp[h2]
    ·refine bF (by simpa using h2) ?_
     by_cases h3:a2<4
     ·refine bT (by simpa using h3) ?_
      simp[h3]
     ·refine bF (by simpa using h3) ?_
      simp only[h,h1,h2,h3,decide_false,Bool.false_or]
abbrev jn:Io:=⟨[dL],[],[],[wX,dI,dI],none⟩
def y6 (d:jn.In):Tr jn.Res:=.ite (decide (1≤d.1.1.length)) (.ret (.ret (((az d.1.1).1,(az d.1.1).2.1,(az d.1.1).2.2,()),()))) .no
abbrev BK:List (Nat×Hc):=[(125,ah gW ux)]
def IZ:Hd:=bt BK
def Cx:Lp:=bG []
def sX (a0:LI):Option jn.Res:=bif decide (0≤0)&&decide (0<(↑a0.length:Int)) then bif decide (i64.wrap (a0.getD (Int.toNat 0) 0)<128) then bif decide ((↑a0.length:Int)<i64.wrap (i64.wrap (a0.getD (Int.toNat 0) 0)+2)) then oR ((([],0,0,()),0,1,()),()) else bif decide (0≤1)&&(decide (1≤i64.wrap (i64.wrap (a0.getD (Int.toNat 0) 0)+2))&&decide (i64.wrap (i64.wrap (a0.getD (Int.toNat 0) 0)+2)≤(↑a0.length:Int))) then oR (((List.drop (Int.toNat 1) (List.take (i64.wrap (i64.wrap (a0.getD (Int.toNat 0) 0)+2)).toNat a0),0,0,()),i64.wrap (i64.wrap (a0.getD (Int.toNat 0) 0)+2),0,()),()) else none else bif decide ((↑a0.length:Int)<3) then oR ((([],0,0,()),0,1,()),()) else bif decide (0≤1)&&decide (1<(↑a0.length:Int)) then bif decide (0≤2)&&decide (2<(↑a0.length:Int)) then bif fz ([],iO i64 (dW i64 (i64.wrap (a0.getD (Int.toNat 1) 0)) 8) (i64.wrap (a0.getD (Int.toNat 2) 0)),i64.wrap (i64.wrap (i64.wrap (a0.getD (Int.toNat 0) 0) - 128)+4),()) then oR ((([],0,0,()),0,50,()),()) else oR ((([],iO i64 (dW i64 (i64.wrap (a0.getD (Int.toNat 1) 0)) 8) (i64.wrap (a0.getD (Int.toNat 2) 0)),i64.wrap (i64.wrap (i64.wrap (a0.getD (Int.toNat 0) 0) - 128)+4),()),3,0,()),()) else none else none else none
theorem HB (a0:LI):Io.run tt IZ dr Cx jn Tryz.f134 ((a0,()),())=sX a0:=by kernel_rfl
theorem Ju:HcOk prog 134 (ah jn y6):=by
 refine bL (cs:=BK) (.cons CU .nil) (lp:=Cx) (fn:=Tryz.f134) jn (.done (by kernel_rfl)) y6 ?_
 rintro ⟨⟨(b:LI),⟨⟩⟩,⟨⟩⟩ out hw ho
 obtain ⟨hg,ho⟩:=Tr.guard ho
 have hg:1≤b.length:=of_decide_eq_true hg
 cases ho
 refine (HB b).trans ?_
 show _=oR (((az b).1,(az b).2.1,(az b).2.2,()),())
 have hb:Ty.wf bs b:=hw.1.1
 have hbl:b.length≤maxLen:=hb.1
 rw[aR] at hbl
 have c0:=qJ hb 0
 have c1:=qJ hb 1
 have c2:=qJ hb 2
 unfold sX
 simp only[show Int.toNat 0=0 from rfl,show Int.toNat 1=1 from rfl,show Int.toNat 2=2 from rfl]
 refine bT (by simp;omega) ?_
 have w0:i64.wrap (b.getD 0 0)=b.getD 0 0:=af (by omega) (by omega)
 have w1:i64.wrap (b.getD 1 0)=b.getD 1 0:=af (by omega) (by omega)
 have w2:i64.wrap (b.getD 2 0)=b.getD 2 0:=af (by omega) (by omega)
 rw[w0,w1,w2,LA c1.1 c1.2 c2.1 c2.2,af (n:=b.getD 0 0+2) (by omega) (by omega),af (n:=b.getD 0 0 - 128) (by omega) (by omega),af (n:=b.getD 0 0 - 128+4) (by omega) (by omega),show b.getD 0 0 - 128+4=b.getD 0 0 - 124 by omega]
 unfold az
 generalize b.getD 0 0=c at *
 generalize b.getD 1 0=x at *
 generalize b.getD 2 0=y at *
 by_cases h1:c<128
 ·refine bT (by simpa using h1) ?_
  rw[if_pos h1]
  by_cases h2:(b.length:Int)<c+2
  ·refine bT (by simpa using h2) ?_
   rw[if_pos h2]
   rfl
  ·refine bF (by simpa using h2) ?_
   refine bT (by simp;omega) ?_
   rw[if_neg h2,List.drop_take,show (c+2).toNat - 1=(c+1).toNat by omega]
 ·refine bF (by simpa using h1) ?_
  rw[if_neg h1]
  by_cases h2:(b.length:Int)<3
  ·refine bT (by simpa using h2) ?_
   rw[if_pos h2]
   rfl
  ·refine bF (by simpa using h2) ?_
   refine bT (by simp;omega) ?_
   refine bT (by simp;omega) ?_
   rw[if_neg h2]
   have hi:fz ([],x*256+y,c - 124,())=decide (x*256+y<1∨4096<x*256+y):=by
    have hc:iM ([],x*256+y,c - 124,())=true:=by
     show (if x*256+y≠0 then true else decide (c - 124≠0))=true
     split
     ·rfl
     ·exact decide_eq_true (by omega)
    show (if iM ([],x*256+y,c - 124,())=true then decide (0<0) || (decide (x*256+y<1) || (decide (4096<x*256+y) || (decide (c - 124<4) || decide (131<c - 124)))) else _)=_
    rw[if_pos hc]
    have g1:decide (c - 124<4)=false:=decide_eq_false (by omega)
    have g2:decide (131<c - 124)=false:=decide_eq_false (by omega)
    rw[g1,g2]
    simp
   by_cases h3:x*256+y<1∨4096<x*256+y
   ·refine bT (by rw[hi];exact decide_eq_true h3) ?_
    rw[if_pos h3]
    rfl
   ·refine bF (by rw[hi];exact decide_eq_false h3) ?_
    rw[if_neg h3]
abbrev eZ:Io:=⟨[dO,wX,dI],[],[],[dO,dI],none⟩
def qm (d:eZ.In):Tr eZ.Res:=.ite (decide (d.1.1.length≤4294960000)&&(decide (d.1.2.1.1.length≤4294960000)&&decide ((d.1.2.2.1:Int)≤(32768:Int)))) (.ret (.ret (((aL d.1.1 d.1.2.1 d.1.2.2.1).1,(aL d.1.1 d.1.2.1 d.1.2.2.1).2,()),()))) .no
abbrev th:List (Nat×Hc):=[(125,ah gW ux)]
def tD:Hd:=bt th
abbrev cf:Lo:=⟨⟨(.one (.onl 5 (Ty.int u8) 1)::.any::bz (.one (.ptr 4 0)::al (dC (cj (.one hI::.one hI::dC (cj (bz []))))))),[none,none,none,none,some [.hol (.sl 5 (Ty.int u8)),hI,hI]]⟩,[(.exit 0,⟨(.one (.onl 5 (Ty.int u8) 1)::al (al (al []))),[]⟩)]⟩
def f5 (d:cf.st.den):Tr (ao cf.xs):=
 .ite (decide (d.1.2.2.1=0)&&(decide ((0:Int)≤d.1.2.1)&&((decide (d.1.2.1=0) || (decide ((1:Int)≤d.2.1.2.1)&&decide (d.2.1.2.1≤(d.1.1.length:Int))))&&decide ((d.1.1.length:Int)+d.1.2.1≤4294967296)))) (.ret (.ret ((),((ff d.2.1.2.1.toNat d.1.2.1.toNat d.1.1,()),())))) .no
def k7:Lp:=bG [(8,aI cf f5)]
def fk {R:Type}(h5:LI)(h6 h7:Int)(h8:LI)(h9 h10:Int)(next:LI→Int→Int→LI→Int→Int→Option R)(out:ao cf.xs→Option R):Option R:=bif decide (h7<h6) then bif decide (0≤i64.wrap ((↑h5.length:Int) - h9))&&decide (i64.wrap ((↑h5.length:Int) - h9)<(↑h5.length:Int)) then bif decide (h5.length+1≤4294967296) then next (h5++[h5.getD (i64.wrap ((↑h5.length:Int) - h9)).toNat 0]) (h6) (i64.wrap (h7+1)) (h8) (h9) (h10) else none else none else out (.ret ((),((h5,()),())))
def hY (n:Nat)(h5:LI)(h6 h7:Int)(h8:LI)(h9 h10:Int):Option (ao cf.xs):=iI tt tD dr k7 0 Tryz.f135 (cR Tryz.f135 0) n (cf.st.mk' ((h5,(h6,(h7,()))),((h8,(h9,(h10,()))),()))) (bS cf.xs)
theorem kH (n:Nat)(h5:LI)(h6 h7:Int)(h8:LI)(h9 h10:Int):hY (n+1) h5 h6 h7 h8 h9 h10=fk h5 h6 h7 h8 h9 h10 (hY n) some:=by kernel_rfl
theorem r9 (lit:LI)(len:Int){d:Nat}:∀(m k i:Nat) (out:LI),m<k→(m=0∨1≤d∧d≤out.length)→out.length+m≤4294967296→i+m≤4294967296→
  hY k out ((i+m:Nat):Int) i lit d len=some (.ret ((),((ff d m out,()),()))):=by
 intro m
 induction m with
 |zero=>
  intro k i out h1 h2 h3 h4
  obtain ⟨k,rfl⟩:∃j,k=j+1:=⟨k - 1,by omega⟩
  rw[kH]
  unfold fk
  refine bF (by simp) ?_
  rfl
 |succ m ih=>
  intro k i out h1 h2 h3 h4
  obtain ⟨k,rfl⟩:∃j,k=j+1:=⟨k - 1,by omega⟩
  rw[kH]
  unfold fk
  have h2:1≤d∧d≤out.length:=by rcases h2 with h | h;omega;exact h
  rw[af (n:=(out.length:Int) - (d:Int)) (by omega) (by omega),af (n:=(i:Int)+1) (by omega) (by omega),show ((out.length:Int) - (d:Int)).toNat=out.length - d by omega]
  refine bT (by simp;omega) ?_
  refine bT (by simp;omega) ?_
  refine bT (by simp;omega) ?_
  have:=ih k (i+1) (out++[out.getD (out.length - d) 0]) (by omega) (.inr ⟨h2.1,by simp;omega⟩) (by simp;omega) (by omega)
  rw[show ((i+1+m:Nat):Int)=((i+(m+1):Nat):Int) by omega] at this
  exact this
def oO (a0 a1:LI)(a2 a3 a4:Int):Option eZ.Res:=bif fz (a1,a2,a3,()) then oR (([],50,()),()) else bif decide ((↑a0.length:Int)<a2) then oR (([],50,()),()) else bif decide (a4<i64.wrap (i64.wrap ((↑a0.length:Int)+(↑a1.length:Int))+a3)) then oR (([],4,()),()) else bif decide (a0.length+a1.length≤4294967296) then (f5 ((a0++a1,(a3,(0,()))),((a1,(a2,(a3,()))),()))).run fun y=>match y with | .ret ((),((x18,()),()))=>(oR ((x18,0,()),())) else none
theorem Az (a0 a1:LI)(a2 a3 a4:Int):Io.run tt tD dr k7 eZ Tryz.f135 ((a0,(a1,a2,a3,()),a4,()),())=oO a0 a1 a2 a3 a4:=by kernel_rfl
theorem oY:HcsOk prog th:=.cons CU .nil
theorem DP:HcOk prog 135 (ah eZ qm):=by
 refine bL oY (lp:=k7) (fn:=Tryz.f135) eZ (.step (h0:=aI cf f5) (by kernel_rfl) (jy oY (lp:=k7) (fn:=Tryz.f135) (.done (by kernel_rfl)) cf f5 ?_) (.done (by kernel_rfl))) qm ?_
 ·rintro ⟨⟨(out:LI),(n:Int),(i:Int),⟨⟩⟩,⟨⟨(lit:LI),(d:Int),(len:Int),⟨⟩⟩,⟨⟩⟩⟩ y hw hy
  obtain ⟨hg,hy⟩:=Tr.guard hy
  simp only[zA,Bool.or_eq_true,zB] at hg
  obtain ⟨h1,h2,h3,h4⟩:=hg
  have h1:i=0:=h1
  have h2:0≤n:=h2
  have h3:n=0∨1≤d∧d≤(out.length:Int):=h3
  have h4:(out.length:Int)+n≤4294967296:=h4
  subst h1
  obtain ⟨m,rfl⟩:=au h2
  rcases h3 with h3 | h3
  ·have h3:m=0:=by omega
   subst h3
   refine ⟨1,?_⟩
   rw[← hy]
   show hY (0+1) out ((0:Nat):Int) 0 lit d len=_
   rw[kH]
   unfold fk
   exact ac (by simp) _ _
  ·obtain ⟨d,rfl⟩:=au (show 0≤d by omega)
   have:=r9 lit len (d:=d) m (m+1) 0 out (by omega) (.inr ⟨by omega,by omega⟩) (by omega) (by omega)
   rw[Nat.zero_add] at this
   refine ⟨m+1,this.trans ?_⟩
   rw[← hy];rfl
 ·rintro ⟨⟨(out:LI),⟨(lit:LI),(d:Int),(len:Int),⟨⟩⟩,(m:Int),⟨⟩⟩,⟨⟩⟩ o hw ho
  obtain ⟨hg,ho⟩:=Tr.guard ho
  simp only[zA,zB] at hg
  obtain ⟨h1,h2,h3⟩:=hg
  have h1:out.length≤4294960000:=h1
  have h2:lit.length≤4294960000:=h2
  have h3:m≤(32768:Int):=h3
  cases ho
  refine (Az out lit d len m).trans ?_
  show _=oR (((aL out (lit,d,len,()) m).1,(aL out (lit,d,len,()) m).2,()),())
  unfold oO aL
  cases hi:fz (lit,d,len,()) with
  |true=>
   refine (ab rfl _ _).trans ?_
   rw[if_pos (.inl rfl)]
  |false=>
   obtain ⟨i1,i2⟩:=F5 hi
   refine (ac rfl _ _).trans ?_
   by_cases h4:(out.length:Int)<d
   ·refine bT (by simpa using h4) ?_
    rw[if_pos (.inr h4)]
   ·refine bF (by simpa using h4) ?_
    rw[if_neg (by rintro (h | h);cases h;exact h4 h),af (n:=(out.length:Int)+(lit.length:Int)) (by omega) (by omega),af (n:=(out.length:Int)+(lit.length:Int)+len) (by omega) (by omega)]
    by_cases h5:m<(out.length:Int)+(lit.length:Int)+len
    ·refine bT (by simpa using h5) ?_
     rw[if_pos h5]
    ·refine bF (by simpa using h5) ?_
     refine bT (by simp;omega) ?_
     rw[if_neg h5]
     have hg:(decide ((0:Int)=0)&&(decide ((0:Int)≤len)&&((decide (len=0) || (decide ((1:Int)≤d)&&decide (d≤((out++lit).length:Int))))&&decide (((out++lit).length:Int)+len≤4294967296))))=true:=by
      simp only[zA,Bool.or_eq_true,zB,zH]
      refine ⟨trivial,i1.1,?_,by omega⟩
      rcases i2 with h | h
      ·exact .inl h.1
      ·exact .inr ⟨h.2.1,by omega⟩
     have e:f5 ((out++lit,(len,(0,()))),((lit,(d,(len,()))),()))=.ite true (.ret (.ret ((),((ff d.toNat len.toNat (out++lit),()),())))) .no:=congrArg (fun c=>Tr.ite c _ _) hg
     rw[e]
     rfl
abbrev eY:Io:=⟨[dI],[],[],[dI],none⟩
def ql (d:eY.In):Tr eY.Res:=.ret (.ret ((aq d.1.1,()),()))
abbrev tg:List (Nat×Hc):=[]
def Dx:Hd:=bt tg
def tK:Lp:=bG []
def ws (a0:Int):Option eY.Res:=oR ((lC (cX a0 0) 32768,()),())
theorem Ay (a0:Int):Io.run tt Dx dr tK eY Tryz.f136 ((a0,()),())=ws a0:=by kernel_rfl
theorem DO:HcOk prog 136 (ah eY ql):=by
 refine bL (cs:=tg) HcsOk.nil (lp:=tK) (fn:=Tryz.f136) eY (.done (by kernel_rfl)) ql ?_
 rintro ⟨⟨(m:Int),⟨⟩⟩,⟨⟩⟩ out hw ho
 cases ho
 exact Ay m
abbrev jm:Io:=⟨[dL,dI],[],[],[dO,dI],none⟩
def y5 (d:jm.In):Tr jm.Res:=.ite (decide (d.1.1.length≤4294960000)) (.ret (.ret (((an d.1.1 d.1.2.1).1,(an d.1.1 d.1.2.1).2,()),()))) .no
abbrev BI:List (Nat×Hc):=[(134,ah jn y6),(136,ah eY ql),(135,ah eZ qm)]
def B2:Hd:=bt BI
abbrev dj:Lo:=⟨⟨(.one (.hol (.sl 5 (Ty.int u8)))::.one hI::cj (.one (.onl 5 (Ty.int u8) 13)::.any::al (dC (cj (bz []))))),[]⟩,[(.ret,⟨(cj (.one (.onl 5 (Ty.int u8) 9)::.one hI::al (al ([])))),[]⟩),(.exit 0,⟨(cj (bz (.one (.onl 5 (Ty.int u8) 13)::.any::al (dC (cj (bz [])))))),[]⟩)]⟩
def j4 (d:dj.st.den):Tr (ao dj.xs):=
 .ite (decide (d.1.1.length≤4294960000)&&decide (d.1.2.2.1.length≤32768)) (.ite (decide ((bp (d.1.1.length+1) d.1.1 d.1.2.2.1 (aq d.1.2.1)).2=0)) (.ret (.pan (.ret ((),(((bp (d.1.1.length+1) d.1.1 d.1.2.2.1 (aq d.1.2.1)).1,()),()))))) (.ret (.ret ((),(([],(bp (d.1.1.length+1) d.1.1 d.1.2.2.1 (aq d.1.2.1)).2,()),()))))) .no
def pY:Lp:=bG [(3,aI dj j4)]
def pk {R:Type}(h2:LI)(h3:Int)(h4:LI)(next:LI→Int→LI→Option R)(out:ao dj.xs→Option R):Option R:=bif decide (0<(↑h2.length:Int)) then bif decide (1≤h2.length) then bif (az h2).2.2 != 0 then out (.ret ((),(([],((az h2).2.2,())),()))) else bif decide (h4.length≤4294960000)&&(decide (List.length (az h2).1.1≤4294960000)&&decide (aq h3≤32768)) then bif (aL h4 (az h2).1 (aq h3)).2 != 0 then out (.ret ((),(([],((aL h4 (az h2).1 (aq h3)).2,())),()))) else bif decide (0≤(az h2).2.1)&&(decide ((az h2).2.1≤(↑h2.length:Int))&&decide ((↑h2.length:Int)≤(↑h2.length:Int))) then next (List.drop (az h2).2.1.toNat (List.take (↑h2.length:Int).toNat h2)) (h3) ((aL h4 (az h2).1 (aq h3)).1) else none else none else none else out (.pan (.ret ((),((h4,()),()))))
def oh (n:Nat)(h2:LI)(h3:Int)(h4:LI):Option (ao dj.xs):=iI tt B2 dr pY 0 Tryz.f100 (cR Tryz.f100 0) n (dj.st.mk' ((h2,(h3,(h4,()))),())) (bS dj.xs)
theorem En (n:Nat)(h2:LI)(h3:Int)(h4:LI):oh (n+1) h2 h3 h4=pk h2 h3 h4 (oh n) some:=by kernel_rfl
theorem xx (m:Int):∀(k:Nat) (b out:LI),(∀c∈b,0≤c∧c≤255)→b.length<k→b.length≤4294960000→out.length≤32768→
  oh k b m out=if (bp k b out (aq m)).2=0 then some (.pan (.ret ((),(((bp k b out (aq m)).1,()),())))) else some (.ret ((),(([],((bp k b out (aq m)).2,())),()))):=by
 intro k
 induction k with
 |zero=>intro b out _ h;omega
 |succ k ih=>
  intro b out hb h1 h2 h3
  rw[En]
  unfold pk
  by_cases hne:b=[]
  ·subst hne
   refine (ac rfl _ _).trans ?_
   rfl
  ·have hp:0<b.length:=List.length_pos_iff.2 hne
   have e:bp (k+1) b out (aq m)=if (az b).2.2≠0 then ([],(az b).2.2) else if (aL out (az b).1 (aq m)).2≠0 then ([],(aL out (az b).1 (aq m)).2) else bp k (b.drop (az b).2.1.toNat) (aL out (az b).1 (aq m)).1 (aq m):=by
    rw[bp,if_neg hne]
   have hlit:=t4 b
   have hbd:=mw m
   refine bT (by simpa using hp) ?_
   refine bT (by simp;omega) ?_
   rw[e]
   by_cases h4:(az b).2.2=0
   ·have ho:=yA hb h4 hne
    refine bF (by simpa using h4) ?_
    refine bT (by simp only[zA,zB];omega) ?_
    rw[if_neg (aD h4)]
    by_cases h5:(aL out (az b).1 (aq m)).2=0
    ·have hle:=my h5
     refine bF (by simpa using h5) ?_
     refine bT (by simp only[zA,zB];omega) ?_
     rw[if_neg (aD h5),zG,List.take_length]
     exact ih _ _ (fun c hc=>hb c (List.mem_of_mem_drop hc)) (by simp;omega) (by simp;omega) (by omega)
    ·refine bT (by simpa using h5) ?_
     rw[if_pos h5,if_neg h5]
   ·refine bT (by simpa using h4) ?_
    rw[if_pos h4,if_neg h4]
def sV (a0:LI)(a1:Int):Option jm.Res:=(j4 ((a0,(a1,([],()))),())).run fun y=>match y with | .ret ((),((x13,x14,()),()))=>(oR ((x13,x14,()),())) | .pan (.ret ((),((x15,()),())))=>(oR ((x15,0,()),()))
theorem Hz (a0:LI)(a1:Int):Io.run tt B2 dr pY jm Tryz.f100 ((a0,a1,()),())=sV a0 a1:=by kernel_rfl
theorem tw:HcsOk prog BI:=.cons Ju (.cons DO (.cons DP .nil))
theorem Jt:HcOk prog 100 (ah jm y5):=by
 refine bL tw (lp:=pY) (fn:=Tryz.f100) jm (.step (h0:=aI dj j4) (by kernel_rfl) (jy tw (lp:=pY) (fn:=Tryz.f100) (.done (by kernel_rfl)) dj j4 ?_) (.done (by kernel_rfl))) y5 ?_
 ·rintro ⟨⟨(b:LI),(m:Int),(out:LI),⟨⟩⟩,⟨⟩⟩ y hw hy
  obtain ⟨hg,hy⟩:=Tr.guard hy
  simp only[zA,zB] at hg
  refine ⟨b.length+1,(xx m (b.length+1) b out (cZ hw.1.1) (by omega) hg.1 hg.2).trans ?_⟩
  rw[← hy]
  simp only[Tr.val_ite,zB,Tr.val_ret]
 ·rintro ⟨⟨(b:LI),(m:Int),⟨⟩⟩,⟨⟩⟩ o hw ho
  obtain ⟨hg,ho⟩:=Tr.guard ho
  have hg:b.length≤4294960000:=of_decide_eq_true hg
  cases ho
  refine (Hz b m).trans ?_
  show _=oR (((an b m).1,(an b m).2,()),())
  unfold sV j4
  rw[fx]
  refine bT (by simp only[zA,zB];exact ⟨hg,by simp⟩) ?_
  by_cases h:(bp (b.length+1) b [] (aq m)).2=0
  ·refine bT (decide_eq_true h) ?_
   rw[h]
   rfl
  ·refine bF (decide_eq_false h) ?_
   rw[gA _ _ _ _ h]
   rfl
def rF (t:Iq):Bool:=if t.2.1=0∧t.2.2.1=0∧0<t.1.length∧t.1.length≤128 then true else false
def jF (t:Iq):Bool:=if t.1.length=0∧1≤t.2.1∧t.2.1≤4096∧4≤t.2.2.1∧t.2.2.1≤131 then true else false
def cQ (b:LI)(p:Int):Iq×Int×Int:=
 if p<0∨(b.length:Int)≤p then (dn,0,1)
 else if (az (b.drop p.toNat)).2.2≠0 then (dn,0,(az (b.drop p.toNat)).2.2)
 else ((az (b.drop p.toNat)).1,p+(az (b.drop p.toNat)).2.1,0)
abbrev jp:Io:=⟨[wX],[],[],[dB],none⟩
def y8 (d:jp.In):Tr jp.Res:=.ret (.ret ((rF d.1.1,()),()))
abbrev BN:List (Nat×Hc):=[]
def I1:Hd:=bt BN
def Cz:Lp:=bG []
def s0 (a0:LI)(a1 a2:Int):Option jp.Res:=bif a1 == 0 then bif a2 == 0 then bif decide (0<(↑a0.length:Int)) then oR ((decide ((↑a0.length:Int)≤128),()),()) else oR ((false,()),()) else oR ((false,()),()) else oR ((false,()),())
theorem HE (a0:LI)(a1 a2:Int):Io.run tt I1 dr Cz jp Tryz.f131 (((a0,a1,a2,()),()),())=s0 a0 a1 a2:=by kernel_rfl
theorem Jw:HcOk prog 131 (ah jp y8):=by
 refine bL (cs:=BN) HcsOk.nil (lp:=Cz) (fn:=Tryz.f131) jp (.done (by kernel_rfl)) y8 ?_
 rintro ⟨⟨⟨(a0:LI),(a1:Int),(a2:Int),⟨⟩⟩,⟨⟩⟩,⟨⟩⟩ out hw ho
 cases ho
 refine (HE a0 a1 a2).trans ?_
 show _=oR (((if a1=0∧a2=0∧0<a0.length∧a0.length≤128 then true else false),()),())
 unfold s0
 by_cases h1:a1=0
 ·refine bT (by simp[h1]) ?_
  by_cases h2:a2=0
  ·refine bT (by simp[h2]) ?_
   by_cases h3:0<a0.length
   ·refine bT (decide_eq_true (show 0<(a0.length:Int) by omega)) ?_
    by_cases h4:a0.length≤128
    ·rw[if_pos ⟨h1,h2,h3,h4⟩,show decide ((a0.length:Int)≤128)=true from decide_eq_true (by omega)]
    ·rw[if_neg (fun h=>h4 h.2.2.2),show decide ((a0.length:Int)≤128)=false from decide_eq_false (by omega)]
   ·refine bF (decide_eq_false (show ¬ 0<(a0.length:Int) by omega)) ?_
    rw[if_neg (fun h=>h3 h.2.2.1)]
  ·refine bF (by simp[h2]) ?_
   rw[if_neg (fun h=>h2 h.2.1)]
 ·refine bF (by simp[h1]) ?_
  rw[if_neg (fun h=>h1 h.1)]
abbrev gX:Io:=⟨[wX],[],[],[dB],none⟩
def uy (d:gX.In):Tr gX.Res:=.ret (.ret ((jF d.1.1,()),()))
abbrev BL:List (Nat×Hc):=[]
def I0:Hd:=bt BL
def Cy:Lp:=bG []
def sY (a0:LI)(a1 a2:Int):Option gX.Res:=bif decide (0<(↑a0.length:Int)) then oR ((false,()),()) else bif decide (a1<1) then oR ((false,()),()) else bif decide (4096<a1) then oR ((false,()),()) else bif decide (4≤a2) then oR ((decide (a2≤131),()),()) else oR ((false,()),())
theorem HC (a0:LI)(a1 a2:Int):Io.run tt I0 dr Cy gX Tryz.f132 (((a0,a1,a2,()),()),())=sY a0 a1 a2:=by kernel_rfl
theorem CV:HcOk prog 132 (ah gX uy):=by
 refine bL (cs:=BL) HcsOk.nil (lp:=Cy) (fn:=Tryz.f132) gX (.done (by kernel_rfl)) uy ?_
 rintro ⟨⟨⟨(a0:LI),(a1:Int),(a2:Int),⟨⟩⟩,⟨⟩⟩,⟨⟩⟩ out hw ho
 cases ho
 refine (HC a0 a1 a2).trans ?_
 show _=oR (((if a0.length=0∧1≤a1∧a1≤4096∧4≤a2∧a2≤131 then true else false),()),())
 unfold sY
 by_cases h0:a0.length=0
 ·refine bF (decide_eq_false (show ¬ 0<(a0.length:Int) by omega)) ?_
  by_cases h1:a1<1
  ·refine bT (decide_eq_true h1) ?_
   rw[if_neg (by omega)]
  ·refine bF (decide_eq_false h1) ?_
   by_cases h2:4096<a1
   ·refine bT (decide_eq_true h2) ?_
    rw[if_neg (by omega)]
   ·refine bF (decide_eq_false h2) ?_
    by_cases h3:4≤a2
    ·refine bT (decide_eq_true h3) ?_
     by_cases h4:a2≤131
     ·rw[if_pos (by omega),decide_eq_true h4]
     ·rw[if_neg (by omega),decide_eq_false h4]
    ·refine bF (decide_eq_false h3) ?_
     rw[if_neg (by omega)]
 ·refine bT (decide_eq_true (show 0<(a0.length:Int) by omega)) ?_
  rw[if_neg (by omega)]
abbrev jq:Io:=⟨[dL,dI],[],[],[wX,dI,dI],none⟩
def y9 (d:jq.In):Tr jq.Res:=.ite (decide (d.1.1.length≤4294960000)) (.ret (.ret (((cQ d.1.1 d.1.2.1).1,(cQ d.1.1 d.1.2.1).2.1,(cQ d.1.1 d.1.2.1).2.2,()),()))) .no
abbrev BO:List (Nat×Hc):=[(132,ah gX uy)]
def B4:Hd:=bt BO
abbrev cL:Lo:=⟨⟨(.one (.hol (.sl 5 (Ty.int u8)))::.one hI::bz (.one (.ptr 4 0)::bz (.one hI::.one (.onl 5 (Ty.int u8) 17)::.one hI::al (al (al (al (dC (cj (bz []))))))))),[none,none,none,none,some [.onl 5 (Ty.int u8) 2050,hI,hI]]⟩,[(.exit 0,⟨(.any::.one hI::bz (.one (.ptr 4 0)::bz (.one hI::.one (.onl 5 (Ty.int u8) 17)::.any::al (al (al (al (dC (cj (bz []))))))))),[none,none,none,none,some [.onl 5 (Ty.int u8) 2050,hI,hI]]⟩)]⟩
def fS (d:cL.st.den):Tr (ao cL.xs):=
 .ite (decide (d.1.2.2.2.2.1=0)&&(decide (d.1.2.2.2.1.length=0)&&((decide ((0:Int)≤d.1.2.1)&&decide (d.1.1.length≤4294960000))&&(decide ((0:Int)≤d.1.2.2.1)&&decide (d.1.2.1+d.1.2.2.1+2≤(d.1.1.length:Int))))))
  (.ret (.ret ((),((d.1.2.1,d.1.2.2.1,(d.1.1.drop (d.1.2.1+1).toNat).take (d.1.2.2.1+1).toNat,()),(d.2.1,()))))) .no
def p3:Lp:=bG [(10,aI cL fS)]
def nK {R:Type}(h2:LI)(h3 h4:Int)(h5:LI)(h6:Int)(h7:LI)(h8 h9:Int)(next:LI→Int→Int→LI→Int→LI→Int→Int→Option R)(out:ao cL.xs→Option R):Option R:=bif decide (h6≤h4) then bif decide (0≤i64.wrap (i64.wrap (h3+1)+h6))&&decide (i64.wrap (i64.wrap (h3+1)+h6)<(↑h2.length:Int)) then bif decide (h5.length+1≤4294967296) then next (h2) (h3) (h4) (h5++[h2.getD (i64.wrap (i64.wrap (h3+1)+h6)).toNat 0]) (i64.wrap (h6+1)) (h7) (h8) (h9) else none else none else out (.ret ((),((h3,(h4,(h5,()))),((h7,(h8,(h9,()))),()))))
def mp (n:Nat)(h2:LI)(h3 h4:Int)(h5:LI)(h6:Int)(h7:LI)(h8 h9:Int):Option (ao cL.xs):=iI tt B4 dr p3 0 Tryz.f112 (cR Tryz.f112 0) n (cL.st.mk' ((h2,(h3,(h4,(h5,(h6,()))))),((h7,(h8,(h9,()))),()))) (bS cL.xs)
theorem AJ (n:Nat)(h2:LI)(h3 h4:Int)(h5:LI)(h6:Int)(h7:LI)(h8 h9:Int):mp (n+1) h2 h3 h4 h5 h6 h7 h8 h9=nK h2 h3 h4 h5 h6 h7 h8 h9 (mp n) some:=by kernel_rfl
theorem nY (b:LI)(p i:Nat):(b.drop p).getD i 0=b.getD (p+i) 0:=by rw[List.getD_eq_getElem?_getD,List.getD_eq_getElem?_getD,List.getElem?_drop]
theorem vi (b g:LI)(u v:Int){p c:Nat}(h0:p+c+2≤b.length)(hl:b.length≤4294960000):∀(k j:Nat) (lit:LI),c+1<j+k→j≤c+1→lit.length=j→
  mp k b p c lit j g u v=some (.ret ((),(((p:Int),((c:Int),(lit++(b.drop (p+1+j)).take (c+1 - j),()))),((g,(u,(v,()))),())))):=by
 intro k
 induction k with
 |zero=>intro j lit h;omega
 |succ k ih=>
  intro j lit h1 h2 h3
  rw[AJ]
  unfold nK
  by_cases hj:j≤c
  ·rw[af (n:=(p:Int)+1) (by omega) (by omega),af (n:=(p:Int)+1+(j:Int)) (by omega) (by omega),af (n:=(j:Int)+1) (by omega) (by omega)]
   refine bT (by simpa using hj) ?_
   refine bT (by simp only[zA,zB];omega) ?_
   refine bT (by simp;omega) ?_
   have hlt:p+1+j<b.length:=by omega
   have e:b.getD ((p:Int)+1+(j:Int)).toNat 0=b[p+1+j]:=by rw[show ((p:Int)+1+(j:Int)).toNat=p+1+j by omega,aE hlt]
   rw[e]
   refine (ih (j+1) _ (by omega) (by omega) (by simp[h3])).trans ?_
   rw[zK,zE hlt,show c+1 - j=(c+1 - (j+1))+1 by omega,List.take_succ_cons]
   rfl
  ·refine bF (by simp;omega) ?_
   rw[show c+1 - j=0 by omega,List.take_zero,List.append_nil]
def s3 (a0:LI)(a1:Int):Option jq.Res:=bif decide (a1<0) then oR ((([],0,0,()),0,1,()),()) else bif decide ((↑a0.length:Int)≤a1) then oR ((([],0,0,()),0,1,()),()) else bif decide (0≤a1)&&decide (a1<(↑a0.length:Int)) then bif decide (i64.wrap (a0.getD a1.toNat 0)<128) then bif decide (i64.wrap (i64.wrap ((↑a0.length:Int) - a1) - 1)<i64.wrap (i64.wrap (a0.getD a1.toNat 0)+1)) then oR ((([],0,0,()),0,1,()),()) else (fS ((a0,(a1,(i64.wrap (a0.getD a1.toNat 0),([],(0,()))))),(([],(0,(0,()))),()))).run fun y=>match y with | .ret ((),((x24,x25,x26,()),(x27,x28,x29,()),()))=>(oR (((x26,0,0,()),i64.wrap (i64.wrap (x24+x25)+2),0,()),())) else bif decide (i64.wrap ((↑a0.length:Int) - a1)<3) then oR ((([],0,0,()),0,1,()),()) else bif decide (0≤i64.wrap (a1+1))&&decide (i64.wrap (a1+1)<(↑a0.length:Int)) then bif decide (0≤i64.wrap (a1+2))&&decide (i64.wrap (a1+2)<(↑a0.length:Int)) then bif !jF ([],i64.wrap (i64.wrap (i64.wrap (a0.getD (i64.wrap (a1+1)).toNat 0)*256)+i64.wrap (a0.getD (i64.wrap (a1+2)).toNat 0)),i64.wrap (i64.wrap (a0.getD a1.toNat 0) - 124),()) then oR ((([],0,0,()),0,50,()),()) else oR ((([],i64.wrap (i64.wrap (i64.wrap (a0.getD (i64.wrap (a1+1)).toNat 0)*256)+i64.wrap (a0.getD (i64.wrap (a1+2)).toNat 0)),i64.wrap (i64.wrap (a0.getD a1.toNat 0) - 124),()),i64.wrap (a1+3),0,()),()) else none else none else none
theorem HF (a0:LI)(a1:Int):Io.run tt B4 dr p3 jq Tryz.f112 ((a0,a1,()),())=s3 a0 a1:=by kernel_rfl
theorem tA:HcsOk prog BO:=.cons CV .nil
theorem Jx:HcOk prog 112 (ah jq y9):=by
 refine bL tA (lp:=p3) (fn:=Tryz.f112) jq (.step (h0:=aI cL fS) (by kernel_rfl) (jy tA (lp:=p3) (fn:=Tryz.f112) (.done (by kernel_rfl)) cL fS ?_) (.done (by kernel_rfl))) y9 ?_
 ·rintro ⟨⟨(b:LI),(p:Int),(c:Int),(lit:LI),(j:Int),⟨⟩⟩,⟨⟨(g:LI),(u:Int),(v:Int),⟨⟩⟩,⟨⟩⟩⟩ y hw hy
  obtain ⟨hg,hy⟩:=Tr.guard hy
  simp only[zA,zB] at hg
  obtain ⟨h1,h2,⟨h3,h4⟩,h5,h6⟩:=hg
  have h1:j=0:=h1
  have h2:lit.length=0:=h2
  have h3:0≤p:=h3
  have h4:b.length≤4294960000:=h4
  have h5:0≤c:=h5
  have h6:p+c+2≤(b.length:Int):=h6
  have h2:lit=[]:=List.length_eq_zero_iff.1 h2
  subst h1 h2
  obtain ⟨p,rfl⟩:=au h3
  obtain ⟨c,rfl⟩:=au h5
  refine ⟨c+2,(vi b g u v (p:=p) (c:=c) (by omega) h4 (c+2) 0 [] (by omega) (by omega) rfl).trans ?_⟩
  rw[← hy]
  show _=some _
  rw[show ((p:Int)+1).toNat=p+1 by omega,show ((c:Int)+1).toNat=c+1 by omega]
  rfl
 ·rintro ⟨⟨(b:LI),(p:Int),⟨⟩⟩,⟨⟩⟩ o hw ho
  obtain ⟨hg,ho⟩:=Tr.guard ho
  have hg2:b.length≤4294960000:=of_decide_eq_true hg
  clear hg
  cases ho
  refine (HF b p).trans ?_
  show _=oR (((cQ b p).1,(cQ b p).2.1,(cQ b p).2.2,()),())
  have hb:Ty.wf bs b:=hw.1.1
  unfold s3
  by_cases h1:p<0
  ·refine bT (decide_eq_true h1) ?_
   unfold cQ
   rw[if_pos (.inl h1)]
   rfl
  refine bF (decide_eq_false h1) ?_
  by_cases h2:(b.length:Int)≤p
  ·refine bT (decide_eq_true h2) ?_
   unfold cQ
   rw[if_pos (.inr h2)]
   rfl
  refine bF (decide_eq_false h2) ?_
  obtain ⟨p,rfl⟩:=au (show 0≤p by omega)
  have eR:cQ b p=if (az (b.drop p)).2.2≠0 then (dn,0,(az (b.drop p)).2.2) else ((az (b.drop p)).1,(p:Int)+(az (b.drop p)).2.1,0):=by
   unfold cQ
   rw[if_neg (by omega),zG]
  have c0:=qJ hb p
  have c1:=qJ hb (p+1)
  have c2:=qJ hb (p+2)
  have e0:(b.drop p).getD 0 0=b.getD p 0:=nY b p 0
  have e1:(b.drop p).getD 1 0=b.getD (p+1) 0:=nY b p 1
  have e2:(b.drop p).getD 2 0=b.getD (p+2) 0:=nY b p 2
  have el:((b.drop p).length:Int)=(b.length:Int) - p:=by simp;omega
  have eO:az (b.drop p)=if b.getD p 0<128 then (if (b.length:Int) - p<b.getD p 0+2 then (dn,0,1) else (((b.drop (p+1)).take (b.getD p 0+1).toNat,0,0,()),b.getD p 0+2,0))
    else if (b.length:Int) - p<3 then (dn,0,1)
    else if b.getD (p+1) 0*256+b.getD (p+2) 0<1∨4096<b.getD (p+1) 0*256+b.getD (p+2) 0 then (dn,0,50)
    else (([],b.getD (p+1) 0*256+b.getD (p+2) 0,b.getD p 0 - 124,()),3,0):=by
   unfold az
   rw[e0,e1,e2,el,List.drop_drop]
  rw[af (n:=(p:Int)+1) (by omega) (by omega),af (n:=(p:Int)+2) (by omega) (by omega),show ((p:Int)+1).toNat=p+1 by omega,show ((p:Int)+2).toNat=p+2 by omega,zG]
  rw[af (n:=b.getD p 0) (by omega) (by omega),af (n:=b.getD (p+1) 0) (by omega) (by omega),af (n:=b.getD (p+2) 0) (by omega) (by omega)]
  generalize hd:(b.drop (p+1)).take (b.getD p 0+1).toNat=L at *
  have hF:∀lit:LI,b.getD p 0<128→(p:Int)+b.getD p 0+2≤(b.length:Int)→fS ((b,((p:Int),(b.getD p 0,([],(0,()))))),(([],(0,(0,()))),()))=.ite true (.ret (.ret ((),(((p:Int),b.getD p 0,L,()),(([],(0,(0,()))),()))))) .no:=by
   intro _ _ hlt
   have hc:(decide ((0:Int)=0)&&(decide (([]:LI).length=0)&&((decide ((0:Int)≤(p:Int))&&decide (b.length≤4294960000))&&(decide ((0:Int)≤b.getD p 0)&&decide ((p:Int)+b.getD p 0+2≤(b.length:Int))))))=true:=by
    simp only[zA,zB]
    exact ⟨trivial,rfl,⟨by omega,hg2⟩,c0.1,hlt⟩
   have:fS ((b,((p:Int),(b.getD p 0,([],(0,()))))),(([],(0,(0,()))),()))=.ite true (.ret (.ret ((),(((p:Int),b.getD p 0,(b.drop ((p:Int)+1).toNat).take (b.getD p 0+1).toNat,()),(([],(0,(0,()))),()))))) .no:=congrArg (fun c=>Tr.ite c _ _) hc
   rw[this,show ((p:Int)+1).toNat=p+1 by omega,hd]
  rw[eR,eO]
  clear eR eO e0 e1 e2 el hd
  generalize b.getD p 0=c at *
  generalize b.getD (p+1) 0=x at *
  generalize b.getD (p+2) 0=y at *
  refine bT (by simp only[zA,zB];omega) ?_
  rw[af (n:=(b.length:Int) - p) (by omega) (by omega),af (n:=(b.length:Int) - p - 1) (by omega) (by omega),af (n:=c+1) (by omega) (by omega)]
  by_cases h3:c<128
  ·refine bT (decide_eq_true h3) ?_
   rw[if_pos h3]
   by_cases h4:(b.length:Int) - p<c+2
   ·refine bT (decide_eq_true (by omega)) ?_
    rw[if_pos h4,if_pos (by decide)]
    rfl
   ·refine bF (decide_eq_false (by omega)) ?_
    rw[hF [] h3 (by omega),if_neg h4,if_neg (aD rfl)]
    show oR (((L,0,0,()),i64.wrap (i64.wrap ((p:Int)+c)+2),0,()),())=_
    rw[af (n:=(p:Int)+c) (by omega) (by omega),af (n:=(p:Int)+c+2) (by omega) (by omega),Int.add_assoc]
  ·refine bF (decide_eq_false h3) ?_
   rw[if_neg h3]
   by_cases h4:(b.length:Int) - p<3
   ·refine bT (decide_eq_true h4) ?_
    rw[if_pos h4,if_pos (by decide)]
    rfl
   ·refine bF (decide_eq_false h4) ?_
    refine bT (by simp only[zA,zB];omega) ?_
    refine bT (by simp only[zA,zB];omega) ?_
    rw[af (n:=x*256) (by omega) (by omega),af (n:=x*256+y) (by omega) (by omega),af (n:=c - 124) (by omega) (by omega),af (n:=(p:Int)+3) (by omega) (by omega),if_neg h4]
    have hi:jF ([],x*256+y,c - 124,()) = !decide (x*256+y<1∨4096<x*256+y):=by
     show (if ([]:LI).length=0∧1≤x*256+y∧x*256+y≤4096∧4≤c - 124∧c - 124≤131 then true else false)=_
     by_cases h5:x*256+y<1∨4096<x*256+y
     ·rw[if_neg (by omega),decide_eq_true h5];rfl
     ·rw[if_pos ⟨rfl,by omega⟩,decide_eq_false h5];rfl
    by_cases h5:x*256+y<1∨4096<x*256+y
    ·refine bT (by rw[hi,decide_eq_true h5];rfl) ?_
     rw[if_pos h5,if_pos (by decide)]
     rfl
    ·refine bF (by rw[hi,decide_eq_false h5];rfl) ?_
     rw[if_neg h5,if_neg (aD rfl)]
abbrev fa:Io:=⟨[dI],[],[],[dI],none⟩
def qn (d:fa.In):Tr fa.Res:=.ret (.ret ((aq d.1.1,()),()))
abbrev tj:List (Nat×Hc):=[]
def Dy:Hd:=bt tj
def tL:Lp:=bG []
def oP (a0:Int):Option fa.Res:=bif decide (a0<0) then oR ((0,()),()) else bif decide (32768<a0) then oR ((32768,()),()) else oR ((a0,()),())
theorem AA (a0:Int):Io.run tt Dy dr tL fa Tryz.f114 ((a0,()),())=oP a0:=by kernel_rfl
theorem DQ:HcOk prog 114 (ah fa qn):=by
 refine bL (cs:=tj) HcsOk.nil (lp:=tL) (fn:=Tryz.f114) fa (.done (by kernel_rfl)) qn ?_
 rintro ⟨⟨(m:Int),⟨⟩⟩,⟨⟩⟩ out hw ho
 cases ho
 refine (AA m).trans ?_
 show _=oR ((aq m,()),())
 unfold oP
 have e1:m<0→cX m 0=0:=fun h=>by unfold cX;exact if_pos h
 have e2:¬ m<0→cX m 0=m:=fun h=>by unfold cX;exact if_neg (by omega)
 unfold aq lC
 by_cases h1:m<0
 ·refine bT (decide_eq_true h1) ?_
  rw[e1 h1,if_neg (by decide)]
 ·refine bF (decide_eq_false h1) ?_
  rw[e2 h1]
  by_cases h2:32768<m
  ·refine bT (decide_eq_true h2) ?_
   rw[if_pos h2]
  ·refine bF (decide_eq_false h2) ?_
   rw[if_neg h2]
abbrev fb:Io:=⟨[dO,wX,dI],[],[],[dO,dI],none⟩
def qo (d:fb.In):Tr fb.Res:=.ite (decide (d.1.1.length≤4294960000)&&(decide (d.1.2.1.1.length≤4294960000)&&(decide ((0:Int)≤d.1.2.2.1)&&decide ((d.1.2.2.1:Int)≤(32768:Int))))) (.ret (.ret (((aL d.1.1 d.1.2.1 d.1.2.2.1).1,(aL d.1.1 d.1.2.1 d.1.2.2.1).2,()),()))) .no
abbrev tk:List (Nat×Hc):=[(131,ah jp y8),(132,ah gX uy)]
def n7:Hd:=bt tk
abbrev cg:Lo:=⟨⟨(.one (.onl 5 (Ty.int u8) 1)::.any::bz (.one (.ptr 4 0)::.any::bz (.one hI::.any::al (al (al (al (cj []))))))),[none,none,none,none,some [.hol (.sl 5 (Ty.int u8)),hI,hI]]⟩,[(.exit 0,⟨(.one (.onl 5 (Ty.int u8) 1)::.any::al (al (al (al (dC (cj [])))))),[]⟩)]⟩
abbrev bO:Lo:=⟨⟨(.one (.onl 5 (Ty.int u8) 1)::.any::bz (.one (.ptr 4 0)::cj (.one hI::.one hI::.any::al (al (al (al (bz []))))))),[none,none,none,none,some [.hol (.sl 5 (Ty.int u8)),hI,hI]]⟩,[(.exit 2,⟨(.one (.onl 5 (Ty.int u8) 1)::.any::al (al (al (al (dC (cj [])))))),[]⟩)]⟩
def f6 (d:cg.st.den):Tr (ao cg.xs):=
 .ite (decide (d.1.2.1=0)&&decide (d.1.1.length+d.2.1.1.length≤4294967296)) (.ret (.ret ((),((d.1.1++d.2.1.1,()),())))) .no
def fo (d:bO.st.den):Tr (ao bO.xs):=
 .ite (decide (d.1.2.2.1=0)&&((decide (d.1.2.1=(d.1.1.length:Int) - d.2.1.2.1)&&decide ((0:Int)≤d.2.1.2.2.1))&&((decide ((1:Int)≤d.2.1.2.1)&&decide (d.2.1.2.1≤(d.1.1.length:Int)))&&decide ((d.1.1.length:Int)+d.2.1.2.2.1≤4294967296)))) (.ret (.ret ((),((ff d.2.1.2.1.toNat d.2.1.2.2.1.toNat d.1.1,()),())))) .no
def fV:Lp:=bG [(6,aI cg f6),(16,aI bO fo)]
def lI {R:Type}(h5:LI)(h6:Int)(h7:LI)(h8 h9:Int)(next:LI→Int→LI→Int→Int→Option R)(out:ao cg.xs→Option R):Option R:=bif decide (h6<(↑h7.length:Int)) then bif decide (0≤h6)&&decide (h6<(↑h7.length:Int)) then bif decide (h5.length+1≤4294967296) then next (h5++[h7.getD h6.toNat 0]) (i64.wrap (h6+1)) (h7) (h8) (h9) else none else none else out (.ret ((),((h5,()),())))
def kq (n:Nat)(h5:LI)(h6:Int)(h7:LI)(h8 h9:Int):Option (ao cg.xs):=iI tt n7 dr fV 0 Tryz.f113 (cR Tryz.f113 0) n (cg.st.mk' ((h5,(h6,())),((h7,(h8,(h9,()))),()))) (bS cg.xs)
theorem yp (n:Nat)(h5:LI)(h6:Int)(h7:LI)(h8 h9:Int):kq (n+1) h5 h6 h7 h8 h9=lI h5 h6 h7 h8 h9 (kq n) some:=by kernel_rfl
def gG {R:Type}(h17:LI)(h18 h19:Int)(h20:LI)(h21 h22:Int)(next:LI→Int→Int→LI→Int→Int→Option R)(out:ao bO.xs→Option R):Option R:=bif decide (h19<h22) then bif decide (h21≠0) then bif decide (0≤i64.wrap (h18+i64.wrap (h19.tmod h21)))&&decide (i64.wrap (h18+i64.wrap (h19.tmod h21))<(↑h17.length:Int)) then bif decide (h17.length+1≤4294967296) then next (h17++[h17.getD (i64.wrap (h18+i64.wrap (h19.tmod h21))).toNat 0]) (h18) (i64.wrap (h19+1)) (h20) (h21) (h22) else none else none else none else out (.ret ((),((h17,()),())))
def jx (n:Nat)(h17:LI)(h18 h19:Int)(h20:LI)(h21 h22:Int):Option (ao bO.xs):=iI tt n7 dr fV 0 Tryz.f113 (cR Tryz.f113 1) n (bO.st.mk' ((h17,(h18,(h19,()))),((h20,(h21,(h22,()))),()))) (bS bO.xs)
theorem nw (n:Nat)(h17:LI)(h18 h19:Int)(h20:LI)(h21 h22:Int):jx (n+1) h17 h18 h19 h20 h21 h22=gG h17 h18 h19 h20 h21 h22 (jx n) some:=by kernel_rfl
theorem sa (lit:LI)(u v:Int)(hl:lit.length≤maxLen):∀(k i:Nat) (out:LI),lit.length<i+k→i≤lit.length→out.length+(lit.length - i)≤4294967296→
  kq k out i lit u v=some (.ret ((),((out++lit.drop i,()),()))):=by
 intro k
 induction k with
 |zero=>intro i out h;omega
 |succ k ih=>
  intro i out h1 h2 h3
  rw[yp]
  unfold lI
  by_cases hi:i<lit.length
  ·refine bT (by simpa using hi) ?_
   refine bT (by simpa using hi) ?_
   refine bT (by simp;omega) ?_
   have e:lit.getD (i:Int).toNat 0=lit[i]:=by rw[zG,aE hi]
   rw[e,bm hi hl]
   refine (ih (i+1) _ (by omega) (by omega) (by simp;omega)).trans ?_
   rw[zK,zE hi]
   rfl
  ·refine bF (by simp;omega) ?_
   rw[zI (by omega),List.append_nil]
def Rep (L d:Nat)(out:LI):Prop:=∀q,L≤q→q<out.length→out.getD q 0=out.getD (q - d) 0
theorem Rep.mod {L d:Nat}{out:LI}(h:Rep L d out)(h1:1≤d)(h2:d≤L):∀i,L - d+i<out.length→out.getD (L - d+i) 0=out.getD (L - d+i % d) 0:=by
 intro i
 induction i using Nat.strongRecOn with
 |ind i ih=>
  intro hi
  by_cases hd:i<d
  ·rw[Nat.mod_eq_of_lt hd]
  ·rw[h (L - d+i) (by omega) hi,show L - d+i - d=L - d+(i - d) by omega,ih (i - d) (by omega) (by omega),Nat.mod_eq_sub_mod (by omega:i ≥ d)]
theorem qS {out:LI}{x:Int}{q:Nat}(h:q<out.length):(out++[x]).getD q 0=out.getD q 0:=by
 rw[List.getD_eq_getElem?_getD,List.getD_eq_getElem?_getD,List.getElem?_append_left h]
theorem Rep.snoc {L d:Nat}{out:LI}(h:Rep L d out)(h1:1≤d)(h2:L≤out.length)(h3:d≤L):Rep L d (out++[out.getD (out.length - d) 0]):=by
 intro q g1 g2
 rw[zH,List.length_singleton] at g2
 by_cases hq:q<out.length
 ·rw[qS hq,qS (by omega),h q g1 hq]
 ·have:q=out.length:=by omega
  subst this
  rw[qS (q:=out.length - d) (by omega)]
  rw[List.getD_eq_getElem?_getD,List.getElem?_append_right (Nat.le_refl _),Nat.sub_self]
  rfl
theorem q9 (lit:LI){L d:Nat}(h1:1≤d)(h2:d≤L):∀(m k i:Nat) (out:LI),m<k→out.length=L+i→Rep L d out→out.length+m≤4294967296→
  jx k out ((L - d:Nat):Int) i lit d ((i+m:Nat):Int)=some (.ret ((),((ff d m out,()),()))):=by
 intro m
 induction m with
 |zero=>
  intro k i out g1 g2 g3 g4
  obtain ⟨k,rfl⟩:∃j,k=j+1:=⟨k - 1,by omega⟩
  rw[nw]
  unfold gG
  refine bF (by simp) ?_
  rfl
 |succ m ih=>
  intro k i out g1 g2 g3 g4
  obtain ⟨k,rfl⟩:∃j,k=j+1:=⟨k - 1,by omega⟩
  rw[nw]
  unfold gG
  have hm:i % d<d:=Nat.mod_lt _ (by omega)
  have e1:i64.wrap ((i:Int).tmod (d:Int))=((i % d:Nat):Int):=by
   rw[Int.tmod_eq_emod_of_nonneg (by omega)]
   exact (af (by omega) (by omega)).trans (by omega)
  have e2:i64.wrap (((L - d:Nat):Int)+((i % d:Nat):Int))=((L - d+i % d:Nat):Int):=(af (by omega) (by omega)).trans (by omega)
  rw[e1,e2,af (n:=(i:Int)+1) (by omega) (by omega),zG]
  refine bT (by simp;omega) ?_
  refine bT (by simp;omega) ?_
  refine bT (by simp only[zA,zB];omega) ?_
  refine bT (by simp;omega) ?_
  have e3:out.getD (L - d+i % d) 0=out.getD (out.length - d) 0:=by
   rw[← g3.mod h1 h2 i (by omega),show out.length - d=L - d+i by omega]
  rw[e3]
  have:=ih k (i+1) (out++[out.getD (out.length - d) 0]) (by omega) (by simp;omega) (g3.snoc h1 (by omega) h2) (by simp;omega)
  rw[show ((i+1+m:Nat):Int)=((i+(m+1):Nat):Int) by omega] at this
  exact this
theorem H1 (lit:LI)(d len:Int):fz (lit,d,len,()) = !(rF (lit,d,len,()) || jF (lit,d,len,())):=by
 have e:fz (lit,d,len,())=if iM (lit,d,len,())=true then decide (0<lit.length) || (decide (d<1) || (decide (4096<d) || (decide (len<4) || decide (131<len)))) else decide (lit.length<1) || decide (128<lit.length):=rfl
 have e2:iM (lit,d,len,())=if d≠0 then true else decide (len≠0):=rfl
 have e3:rF (lit,d,len,())=if d=0∧len=0∧0<lit.length∧lit.length≤128 then true else false:=rfl
 have e4:jF (lit,d,len,())=if lit.length=0∧1≤d∧d≤4096∧4≤len∧len≤131 then true else false:=rfl
 have h1:iM (lit,d,len,())=true↔(d≠0∨len≠0):=by
  rw[e2]
  by_cases h:d=0
  ·rw[if_neg (aD h)];simp[h]
  ·rw[if_pos h];simp[h]
 cases hl:rF (lit,d,len,()) with
 |true=>
  rw[e3] at hl
  split at hl
  ·rename_i h
   rw[e,if_neg (by rw[h1];omega),decide_eq_false (show ¬ lit.length<1 by omega),decide_eq_false (show ¬ 128<lit.length by omega)]
   rfl
  ·cases hl
 |false=>
  rw[e3] at hl
  split at hl
  ·cases hl
  ·rename_i hn
   cases hc:jF (lit,d,len,()) with
   |true=>
    rw[e4] at hc
    split at hc
    ·rename_i h
     rw[e,if_pos (by rw[h1];omega),decide_eq_false (show ¬ 0<lit.length by omega),decide_eq_false (show ¬ d<1 by omega),decide_eq_false (show ¬ 4096<d by omega),decide_eq_false (show ¬ len<4 by omega),decide_eq_false (show ¬ 131<len by omega)]
     rfl
    ·cases hc
   |false=>
    rw[e4] at hc
    split at hc
    ·cases hc
    ·rename_i hm
     rw[e]
     split
     ·rename_i h;rw[h1] at h
      simp only[Bool.or_false,Bool.not_false,Bool.or_eq_true,zB];omega
     ·rename_i h;rw[h1] at h
      simp only[Bool.or_false,Bool.not_false,Bool.or_eq_true,zB];omega
def oQ (a0 a1:LI)(a2 a3 a4:Int):Option fb.Res:=bif rF (a1,a2,a3,()) then bif decide (i64.wrap (a4 - (↑a0.length:Int))<(↑a1.length:Int)) then oR (([],4,()),()) else (f6 ((a0,(0,())),((a1,(a2,(a3,()))),()))).run fun y=>match y with | .ret ((),((x16,()),()))=>(oR ((x16,0,()),())) else bif !jF (a1,a2,a3,()) then oR (([],50,()),()) else bif decide ((↑a0.length:Int)<a2) then oR (([],50,()),()) else bif decide (i64.wrap (a4 - (↑a0.length:Int))<a3) then oR (([],4,()),()) else (fo ((a0,(i64.wrap ((↑a0.length:Int) - a2),(0,()))),((a1,(a2,(a3,()))),()))).run fun y=>match y with | .ret ((),((x30,()),()))=>(oR ((x30,0,()),()))
theorem AB (a0 a1:LI)(a2 a3 a4:Int):Io.run tt n7 dr fV fb Tryz.f113 ((a0,(a1,a2,a3,()),a4,()),())=oQ a0 a1 a2 a3 a4:=by kernel_rfl
theorem kf:HcsOk prog tk:=.cons Jw (.cons CV .nil)
theorem DR:HcOk prog 113 (ah fb qo):=by
 refine bL kf (lp:=fV) (fn:=Tryz.f113) fb (.step (h0:=aI cg f6) (by kernel_rfl) (jy kf (lp:=fV) (fn:=Tryz.f113) (.done (by kernel_rfl)) cg f6 ?_) (.step (h0:=aI bO fo) (by kernel_rfl) (jy kf (lp:=fV) (fn:=Tryz.f113) (.done (by kernel_rfl)) bO fo ?_) (.done (by kernel_rfl)))) qo ?_
 ·rintro ⟨⟨(out:LI),(i:Int),⟨⟩⟩,⟨⟨(lit:LI),(u:Int),(v:Int),⟨⟩⟩,⟨⟩⟩⟩ y hw hy
  obtain ⟨hg,hy⟩:=Tr.guard hy
  simp only[zA,zB] at hg
  obtain ⟨h1,h2⟩:=hg
  have h1:i=0:=h1
  have h2:out.length+lit.length≤4294967296:=h2
  subst h1
  refine ⟨lit.length+1,(sa lit u v hw.2.1.1.1 (lit.length+1) 0 out (by omega) (by omega) (by omega)).trans ?_⟩
  rw[← hy];rfl
 ·rintro ⟨⟨(out:LI),(f:Int),(i:Int),⟨⟩⟩,⟨⟨(lit:LI),(d:Int),(len:Int),⟨⟩⟩,⟨⟩⟩⟩ y hw hy
  obtain ⟨hg,hy⟩:=Tr.guard hy
  simp only[zA,zB] at hg
  obtain ⟨h1,⟨h2,h3⟩,⟨h4,h5⟩,h6⟩:=hg
  have h1:i=0:=h1
  have h2:f=(out.length:Int) - d:=h2
  have h3:0≤len:=h3
  have h4:1≤d:=h4
  have h5:d≤(out.length:Int):=h5
  have h6:(out.length:Int)+len≤4294967296:=h6
  subst h1
  obtain ⟨d,rfl⟩:=au (show 0≤d by omega)
  obtain ⟨n,rfl⟩:=au h3
  have e:f=((out.length - d:Nat):Int):=by omega
  subst e
  have:=q9 lit (L:=out.length) (d:=d) (by omega) (by omega) n (n+1) 0 out (by omega) rfl (fun q g1 g2=>by omega) (by omega)
  rw[Nat.zero_add] at this
  refine ⟨n+1,this.trans ?_⟩
  rw[← hy];rfl
 ·rintro ⟨⟨(out:LI),⟨(lit:LI),(d:Int),(len:Int),⟨⟩⟩,(m:Int),⟨⟩⟩,⟨⟩⟩ o hw ho
  obtain ⟨hg,ho⟩:=Tr.guard ho
  simp only[zA,zB] at hg
  obtain ⟨h1,h2,h0,h3⟩:=hg
  have h1:out.length≤4294960000:=h1
  have h2:lit.length≤4294960000:=h2
  have h0:(0:Int)≤m:=h0
  have h3:m≤(32768:Int):=h3
  cases ho
  refine (AB out lit d len m).trans ?_
  show _=oR (((aL out (lit,d,len,()) m).1,(aL out (lit,d,len,()) m).2,()),())
  have hi:=H1 lit d len
  unfold oQ aL
  cases hl:rF (lit,d,len,()) with
  |true=>
   rw[hl] at hi
   have hi:fz (lit,d,len,())=false:=hi
   have e3:rF (lit,d,len,())=if d=0∧len=0∧0<lit.length∧lit.length≤128 then true else false:=rfl
   rw[e3] at hl
   have hl:d=0∧len=0∧0<lit.length∧lit.length≤128:=by split at hl;assumption;cases hl
   obtain ⟨rfl,rfl,l3,l4⟩:=hl
   refine (ab rfl _ _).trans ?_
   rw[if_neg (by rintro (h | h);rw[hi] at h;cases h;have h:(out.length:Int)<0:=h;omega)]
   rw[af (n:=m - (out.length:Int)) (by omega) (by omega)]
   by_cases h5:m<(out.length:Int)+(lit.length:Int)+0
   ·refine bT (decide_eq_true (by omega)) ?_
    rw[if_pos h5]
   ·refine bF (decide_eq_false (by omega)) ?_
    rw[if_neg h5]
    have e:f6 ((out,(0,())),((lit,((0:Int),((0:Int),()))),()))=.ite true (.ret (.ret ((),((out++lit,()),())))) .no:=congrArg (fun c=>Tr.ite c _ _) (show (decide ((0:Int)=0)&&decide (out.length+lit.length≤4294967296))=true by simp only[zA,zB];exact ⟨trivial,by omega⟩)
    rw[e]
    rfl
  |false=>
   refine (ac rfl _ _).trans ?_
   cases hc:jF (lit,d,len,()) with
   |false=>
    rw[hl,hc] at hi
    have hi:fz (lit,d,len,())=true:=hi
    refine (ab rfl _ _).trans ?_
    rw[if_pos (.inl hi)]
   |true=>
    rw[hl,hc] at hi
    have hi:fz (lit,d,len,())=false:=hi
    have e4:jF (lit,d,len,())=if lit.length=0∧1≤d∧d≤4096∧4≤len∧len≤131 then true else false:=rfl
    rw[e4] at hc
    have hc:lit.length=0∧1≤d∧d≤4096∧4≤len∧len≤131:=by split at hc;assumption;cases hc
    obtain ⟨l1,l2,l3,l4,l5⟩:=hc
    have l1:lit=[]:=List.length_eq_zero_iff.1 l1
    subst l1
    refine (ac rfl _ _).trans ?_
    by_cases h4:(out.length:Int)<d
    ·refine bT (decide_eq_true h4) ?_
     rw[if_pos (.inr h4)]
    ·refine bF (decide_eq_false h4) ?_
     rw[if_neg (by rintro (h | h);rw[hi] at h;cases h;exact h4 h)]
     rw[af (n:=m - (out.length:Int)) (by omega) (by omega),af (n:=(out.length:Int) - d) (by omega) (by omega)]
     by_cases h5:m<(out.length:Int)+(([]:LI).length:Int)+len
     ·refine bT (decide_eq_true (by simp at h5;omega)) ?_
      rw[if_pos h5]
     ·refine bF (decide_eq_false (by simp at h5;omega)) ?_
      rw[if_neg h5]
      simp at h5
      have e:fo ((out,((out.length:Int) - d,(0,()))),(([],(d,(len,()))),()))=.ite true (.ret (.ret ((),((ff d.toNat len.toNat out,()),())))) .no:=congrArg (fun c=>Tr.ite c _ _) (show (decide ((0:Int)=0)&&((decide ((out.length:Int) - d=(out.length:Int) - d)&&decide ((0:Int)≤len))&&((decide ((1:Int)≤d)&&decide (d≤(out.length:Int)))&&decide ((out.length:Int)+len≤4294967296))))=true by simp only[zA,zB];exact ⟨trivial,⟨trivial,by omega⟩,⟨by omega,by omega⟩,by omega⟩)
      rw[e]
      show oR ((ff d.toNat len.toNat out,0,()),())=oR ((ff d.toNat len.toNat (out++[]),0,()),())
      rw[List.append_nil]
abbrev jo:Io:=⟨[dL,dI],[],[],[dO,dI],none⟩
def y7 (d:jo.In):Tr jo.Res:=.ite (decide (d.1.1.length≤4294960000)) (.ret (.ret (((an d.1.1 d.1.2.1).1,(an d.1.1 d.1.2.1).2,()),()))) .no
abbrev BM:List (Nat×Hc):=[(112,ah jq y9),(114,ah fa qn),(113,ah fb qo)]
def B3:Hd:=bt BM
abbrev dk:Lo:=⟨⟨(.one (.hol (.sl 5 (Ty.int u8)))::.one hI::cj (.one (.onl 5 (Ty.int u8) 13)::.one hI::al (al (bz [])))),[]⟩,[(.ret,⟨(cj (.one (.onl 5 (Ty.int u8) 9)::.one hI::al (al (cj [])))),[]⟩),(.exit 0,⟨(cj (bz (.one (.onl 5 (Ty.int u8) 13)::.any::al (al (bz []))))),[]⟩)]⟩
def j5 (d:dk.st.den):Tr (ao dk.xs):=
 .ite (decide (d.1.1.length≤4294960000)&&(decide (d.1.2.2.1.length≤32768)&&decide (d.1.2.2.2.1=0))) (.ite (decide ((bp (d.1.1.length+1) d.1.1 d.1.2.2.1 (aq d.1.2.1)).2=0)) (.ret (.pan (.ret ((),(((bp (d.1.1.length+1) d.1.1 d.1.2.2.1 (aq d.1.2.1)).1,()),()))))) (.ret (.ret ((),(([],(bp (d.1.1.length+1) d.1.1 d.1.2.2.1 (aq d.1.2.1)).2,()),()))))) .no
def pZ:Lp:=bG [(4,aI dk j5)]
def pl {R:Type}(h2:LI)(h3:Int)(h4:LI)(h5:Int)(next:LI→Int→LI→Int→Option R)(out:ao dk.xs→Option R):Option R:=bif decide (h5<(↑h2.length:Int)) then bif decide (h2.length≤4294960000) then bif (cQ h2 h5).2.2 != 0 then out (.ret ((),(([],((cQ h2 h5).2.2,())),()))) else bif decide (h4.length≤4294960000)&&(decide (List.length (cQ h2 h5).1.1≤4294960000)&&(decide (0≤aq h3)&&decide (aq h3≤32768))) then bif (aL h4 (cQ h2 h5).1 (aq h3)).2 != 0 then out (.ret ((),(([],((aL h4 (cQ h2 h5).1 (aq h3)).2,())),()))) else next (h2) (h3) ((aL h4 (cQ h2 h5).1 (aq h3)).1) ((cQ h2 h5).2.1) else none else none else out (.pan (.ret ((),((h4,()),()))))
def ol (n:Nat)(h2:LI)(h3:Int)(h4:LI)(h5:Int):Option (ao dk.xs):=iI tt B3 dr pZ 0 Tryz.f77 (cR Tryz.f77 0) n (dk.st.mk' ((h2,(h3,(h4,(h5,())))),())) (bS dk.xs)
theorem Eo (n:Nat)(h2:LI)(h3:Int)(h4:LI)(h5:Int):ol (n+1) h2 h3 h4 h5=pl h2 h3 h4 h5 (ol n) some:=by kernel_rfl
theorem xy (m:Int){b:LI}(hb:∀c∈b,0≤c∧c≤255)(hl:b.length≤4294960000):∀(k p:Nat) (out:LI),p≤b.length→b.length - p<k→out.length≤32768→
  ol k b m out p=if (bp k (b.drop p) out (aq m)).2=0 then some (.pan (.ret ((),(((bp k (b.drop p) out (aq m)).1,()),())))) else some (.ret ((),(([],((bp k (b.drop p) out (aq m)).2,())),()))):=by
 intro k
 induction k with
 |zero=>intro p out h h';omega
 |succ k ih=>
  intro p out h0 h1 h3
  rw[Eo]
  unfold pl
  by_cases hp:p<b.length
  ·have hne:b.drop p≠[]:=by intro h;have:=congrArg List.length h;simp at this;omega
   have hbd:∀c∈b.drop p,0≤c∧c≤255:=fun c hc=>hb c (List.mem_of_mem_drop hc)
   have e:bp (k+1) (b.drop p) out (aq m)=if (az (b.drop p)).2.2≠0 then ([],(az (b.drop p)).2.2) else if (aL out (az (b.drop p)).1 (aq m)).2≠0 then ([],(aL out (az (b.drop p)).1 (aq m)).2) else bp k ((b.drop p).drop (az (b.drop p)).2.1.toNat) (aL out (az (b.drop p)).1 (aq m)).1 (aq m):=by
    rw[bp,if_neg hne]
   have eR:cQ b p=if (az (b.drop p)).2.2≠0 then (dn,0,(az (b.drop p)).2.2) else ((az (b.drop p)).1,(p:Int)+(az (b.drop p)).2.1,0):=by
    unfold cQ
    rw[if_neg (by omega),zG]
   have hlit:=t4 (b.drop p)
   rw[List.length_drop] at hlit
   have hbm:=mw m
   refine bT (by simpa using hp) ?_
   refine bT (decide_eq_true hl) ?_
   rw[e,eR]
   by_cases h4:(az (b.drop p)).2.2=0
   ·have ho:=yA hbd h4 hne
    rw[List.length_drop] at ho
    rw[if_neg (aD h4),if_neg (aD h4)]
    refine (ac rfl _ _).trans ?_
    refine bT (by simp only[zA,zB];omega) ?_
    by_cases h5:(aL out (az (b.drop p)).1 (aq m)).2=0
    ·have hle:=my h5
     refine bF (by simpa using h5) ?_
     rw[if_neg (aD h5)]
     obtain ⟨n,hn⟩:=au (show 0≤(az (b.drop p)).2.1 by omega)
     rw[hn] at ho ⊢
     have:=ih (p+n) (aL out (az (b.drop p)).1 (aq m)).1 (by omega) (by omega) (by omega)
     rw[List.drop_drop,zG]
     exact this
    ·refine bT (by simpa using h5) ?_
     rw[if_pos h5,if_neg h5]
   ·rw[if_pos h4,if_pos h4]
    refine bT (by simpa using h4) ?_
    rw[if_neg h4]
  ·refine bF (by simp;omega) ?_
   rw[zI (by omega)]
   rfl
def sZ (a0:LI)(a1:Int):Option jo.Res:=(j5 ((a0,(a1,([],(0,())))),())).run fun y=>match y with | .ret ((),((x15,x16,()),()))=>(oR ((x15,x16,()),())) | .pan (.ret ((),((x17,()),())))=>(oR ((x17,0,()),()))
theorem HD (a0:LI)(a1:Int):Io.run tt B3 dr pZ jo Tryz.f77 ((a0,a1,()),())=sZ a0 a1:=by kernel_rfl
theorem tz:HcsOk prog BM:=.cons Jx (.cons DQ (.cons DR .nil))
theorem Jv:HcOk prog 77 (ah jo y7):=by
 refine bL tz (lp:=pZ) (fn:=Tryz.f77) jo (.step (h0:=aI dk j5) (by kernel_rfl) (jy tz (lp:=pZ) (fn:=Tryz.f77) (.done (by kernel_rfl)) dk j5 ?_) (.done (by kernel_rfl))) y7 ?_
 ·rintro ⟨⟨(b:LI),(m:Int),(out:LI),(p:Int),⟨⟩⟩,⟨⟩⟩ y hw hy
  obtain ⟨hg,hy⟩:=Tr.guard hy
  simp only[zA,zB] at hg
  obtain ⟨h1,h2,h3⟩:=hg
  have h3:p=0:=h3
  subst h3
  refine ⟨b.length+1,(xy m (cZ hw.1.1) h1 (b.length+1) 0 out (Nat.zero_le _) (show b.length - 0<b.length+1 by omega) h2).trans ?_⟩
  rw[← hy]
  simp only[Tr.val_ite,zB,Tr.val_ret,List.drop_zero]
 ·rintro ⟨⟨(b:LI),(m:Int),⟨⟩⟩,⟨⟩⟩ o hw ho
  obtain ⟨hg,ho⟩:=Tr.guard ho
  have hg:b.length≤4294960000:=of_decide_eq_true hg
  cases ho
  refine (HD b m).trans ?_
  show _=oR (((an b m).1,(an b m).2,()),())
  unfold sZ j5
  rw[fx]
  refine bT (by simp only[zA,zB];exact ⟨hg,by simp,trivial⟩) ?_
  by_cases h:(bp (b.length+1) b [] (aq m)).2=0
  ·refine bT (decide_eq_true h) ?_
   rw[h]
   rfl
  ·refine bF (decide_eq_false h) ?_
   rw[gA _ _ _ _ h]
   rfl
abbrev Jb:Io:=gm
abbrev jf:Io:=⟨[dL,dI],[],[],[dO,dI],none⟩
def yV (d:jf.In):Tr jf.Res:=.ite (decide ((d.1.2.1:Int)=(32768:Int))&&decide (d.1.1.length≤4294960000)) (.ret (.ret (((aO d.1.1).1,(aO d.1.1).2,()),()))) .no
abbrev By:List (Nat×Hc):=[(99,ah kh A7),(100,ah jm y5)]
def IO:Hd:=bt By
def Cl:Lp:=bG []
def sM (a0:LI)(a1:Int):Option jf.Res:=bif (aa 10 1 a0 0).2.2 != 0 then oR (([],(aa 10 1 a0 0).2.2,()),()) else bif decide (aj (aa 10 1 a0 0).1<0) then oR (([],5,()),()) else bif decide (cX a1 0<aj (aa 10 1 a0 0).1) then oR (([],4,()),()) else bif decide (32768<aj (aa 10 1 a0 0).1) then oR (([],4,()),()) else bif decide (0≤(aa 10 1 a0 0).2.1)&&(decide ((aa 10 1 a0 0).2.1≤(↑a0.length:Int))&&decide ((↑a0.length:Int)≤(↑a0.length:Int))) then bif decide ((List.drop (aa 10 1 a0 0).2.1.toNat (List.take (↑a0.length:Int).toNat a0)).length≤4294960000) then bif (an (List.drop (aa 10 1 a0 0).2.1.toNat (List.take (↑a0.length:Int).toNat a0)) (aj (aa 10 1 a0 0).1)).2 == 4 then bif (an (List.drop (aa 10 1 a0 0).2.1.toNat (List.take (↑a0.length:Int).toNat a0)) (aj (aa 10 1 a0 0).1)).2 == 4 then oR (([],60,()),()) else bif (an (List.drop (aa 10 1 a0 0).2.1.toNat (List.take (↑a0.length:Int).toNat a0)) (aj (aa 10 1 a0 0).1)).2 != 0 then oR (([],(an (List.drop (aa 10 1 a0 0).2.1.toNat (List.take (↑a0.length:Int).toNat a0)) (aj (aa 10 1 a0 0).1)).2,()),()) else oR (((an (List.drop (aa 10 1 a0 0).2.1.toNat (List.take (↑a0.length:Int).toNat a0)) (aj (aa 10 1 a0 0).1)).1,0,()),()) else bif (an (List.drop (aa 10 1 a0 0).2.1.toNat (List.take (↑a0.length:Int).toNat a0)) (aj (aa 10 1 a0 0).1)).2 == 0 then bif decide ((↑(an (List.drop (aa 10 1 a0 0).2.1.toNat (List.take (↑a0.length:Int).toNat a0)) (aj (aa 10 1 a0 0).1)).1.length:Int)<aj (aa 10 1 a0 0).1) then oR (([],60,()),()) else bif (an (List.drop (aa 10 1 a0 0).2.1.toNat (List.take (↑a0.length:Int).toNat a0)) (aj (aa 10 1 a0 0).1)).2 != 0 then oR (([],(an (List.drop (aa 10 1 a0 0).2.1.toNat (List.take (↑a0.length:Int).toNat a0)) (aj (aa 10 1 a0 0).1)).2,()),()) else oR (((an (List.drop (aa 10 1 a0 0).2.1.toNat (List.take (↑a0.length:Int).toNat a0)) (aj (aa 10 1 a0 0).1)).1,0,()),()) else bif (an (List.drop (aa 10 1 a0 0).2.1.toNat (List.take (↑a0.length:Int).toNat a0)) (aj (aa 10 1 a0 0).1)).2 != 0 then oR (([],(an (List.drop (aa 10 1 a0 0).2.1.toNat (List.take (↑a0.length:Int).toNat a0)) (aj (aa 10 1 a0 0).1)).2,()),()) else oR (((an (List.drop (aa 10 1 a0 0).2.1.toNat (List.take (↑a0.length:Int).toNat a0)) (aj (aa 10 1 a0 0).1)).1,0,()),()) else none else none
theorem Ho (a0:LI)(a1:Int):Io.run tt IO dr Cl jf Tryz.f70 ((a0,a1,()),())=sM a0 a1:=by kernel_rfl
theorem Jm:HcOk prog 70 (ah jf yV):=by
 refine bL (cs:=By) (.cons GR (.cons Jt .nil)) (lp:=Cl) (fn:=Tryz.f70) jf (.done (by kernel_rfl)) yV ?_
 rintro ⟨⟨(b:LI),(most:Int),⟨⟩⟩,⟨⟩⟩ o hw ho
 obtain ⟨hg,ho⟩:=Tr.guard ho
 simp only[zA,zB] at hg
 obtain ⟨h0,hl⟩:=hg
 have h0:most=32768:=h0
 have hl:b.length≤4294960000:=hl
 subst h0
 cases ho
 refine (Ho b 32768).trans ?_
 show _=oR (((aO b).1,(aO b).2,()),())
 unfold sM aO
 have hk:=@rE 10 1 b 0
 generalize hge:aa 10 1 b 0=g at *
 obtain ⟨u,q,e⟩:=g
 simp only at hk ⊢
 by_cases h1:e=0
 rotate_left
 ·refine bT (by simpa using h1) ?_
  rw[if_pos h1]
 subst h1
 have hk:=hk rfl
 obtain ⟨q,rfl⟩:=au (show 0≤q by omega)
 refine (ac rfl _ _).trans ?_
 rw[if_neg (aD rfl)]
 generalize aj u=n
 by_cases h2:n<0
 ·refine bT (decide_eq_true h2) ?_
  rw[if_pos h2]
 refine bF (decide_eq_false h2) ?_
 rw[if_neg h2]
 by_cases h3:32768<n
 ·refine bT (decide_eq_true (show cX 32768 0<n from h3)) ?_
  rw[if_pos h3]
 refine bF (decide_eq_false (show ¬ cX 32768 0<n from h3)) ?_
 refine bF (decide_eq_false h3) ?_
 rw[if_neg h3]
 have hx:=fx (b.drop q) n
 rw[zG,zG,List.take_length]
 refine bT (by simp only[zA,zB];omega) ?_
 refine bT (decide_eq_true (by simp;omega)) ?_
 have hx1:(an (b.drop q) n).2≠0→(an (b.drop q) n).1=[]:=by rw[hx];exact gA _ _ _ _
 clear hx
 generalize an (b.drop q) n=x at *
 obtain ⟨o,f⟩:=x
 simp only at hx1 ⊢
 by_cases h4:f=4
 ·subst h4
  refine (ab rfl _ _).trans ?_
  rw[if_pos (.inl rfl)]
  all_goals rfl
 refine bF (by simpa using h4) ?_
 by_cases h5:f=0
 ·subst h5
  refine (ab rfl _ _).trans ?_
  by_cases h6:(o.length:Int)<n
  ·refine bT (decide_eq_true h6) ?_
   rw[if_pos (.inr ⟨rfl,h6⟩)]
  ·refine bF (decide_eq_false h6) ?_
   rw[if_neg (by rintro (h | h);cases h;exact h6 h.2),if_neg (aD rfl)]
   all_goals rfl
 ·refine bF (by simpa using h5) ?_
  rw[if_neg (by rintro (h | h);exact h4 h;exact h5 h.1),if_pos h5]
  exact ab (by simpa using h5) _ _
abbrev jh:Io:=⟨[dL,dI],[],[],[dO,dI],none⟩
def yX (d:jh.In):Tr jh.Res:=.ite (decide ((d.1.2.1:Int)=(32768:Int))&&decide (d.1.1.length≤4294960000)) (.ret (.ret (((aO d.1.1).1,(aO d.1.1).2,()),()))) .no
abbrev Bz:List (Nat×Hc):=[(76,ah Jb uo),(77,ah jo y7)]
def IP:Hd:=bt Bz
def Cm:Lp:=bG []
def sO (a0:LI)(a1:Int):Option jh.Res:=bif (aa 10 1 a0 0).2.2 != 0 then oR (([],(aa 10 1 a0 0).2.2,()),()) else bif decide (aj (aa 10 1 a0 0).1<0) then oR (([],5,()),()) else bif decide (32768<aj (aa 10 1 a0 0).1) then oR (([],4,()),()) else bif decide (a1<aj (aa 10 1 a0 0).1) then bif decide (0≤a1) then oR (([],4,()),()) else bif decide (0<aj (aa 10 1 a0 0).1) then oR (([],4,()),()) else bif decide (0≤(aa 10 1 a0 0).2.1)&&(decide ((aa 10 1 a0 0).2.1≤(↑a0.length:Int))&&decide ((↑a0.length:Int)≤(↑a0.length:Int))) then bif decide ((List.drop (aa 10 1 a0 0).2.1.toNat (List.take (↑a0.length:Int).toNat a0)).length≤4294960000) then bif (an (List.drop (aa 10 1 a0 0).2.1.toNat (List.take (↑a0.length:Int).toNat a0)) (aj (aa 10 1 a0 0).1)).2 == 4 then oR (([],60,()),()) else bif (an (List.drop (aa 10 1 a0 0).2.1.toNat (List.take (↑a0.length:Int).toNat a0)) (aj (aa 10 1 a0 0).1)).2 == 0 then bif decide ((↑(an (List.drop (aa 10 1 a0 0).2.1.toNat (List.take (↑a0.length:Int).toNat a0)) (aj (aa 10 1 a0 0).1)).1.length:Int)<aj (aa 10 1 a0 0).1) then oR (([],60,()),()) else bif (an (List.drop (aa 10 1 a0 0).2.1.toNat (List.take (↑a0.length:Int).toNat a0)) (aj (aa 10 1 a0 0).1)).2 != 0 then oR (([],(an (List.drop (aa 10 1 a0 0).2.1.toNat (List.take (↑a0.length:Int).toNat a0)) (aj (aa 10 1 a0 0).1)).2,()),()) else oR (((an (List.drop (aa 10 1 a0 0).2.1.toNat (List.take (↑a0.length:Int).toNat a0)) (aj (aa 10 1 a0 0).1)).1,0,()),()) else bif (an (List.drop (aa 10 1 a0 0).2.1.toNat (List.take (↑a0.length:Int).toNat a0)) (aj (aa 10 1 a0 0).1)).2 != 0 then oR (([],(an (List.drop (aa 10 1 a0 0).2.1.toNat (List.take (↑a0.length:Int).toNat a0)) (aj (aa 10 1 a0 0).1)).2,()),()) else oR (((an (List.drop (aa 10 1 a0 0).2.1.toNat (List.take (↑a0.length:Int).toNat a0)) (aj (aa 10 1 a0 0).1)).1,0,()),()) else none else none else bif decide (0≤(aa 10 1 a0 0).2.1)&&(decide ((aa 10 1 a0 0).2.1≤(↑a0.length:Int))&&decide ((↑a0.length:Int)≤(↑a0.length:Int))) then bif decide ((List.drop (aa 10 1 a0 0).2.1.toNat (List.take (↑a0.length:Int).toNat a0)).length≤4294960000) then bif (an (List.drop (aa 10 1 a0 0).2.1.toNat (List.take (↑a0.length:Int).toNat a0)) (aj (aa 10 1 a0 0).1)).2 == 4 then oR (([],60,()),()) else bif (an (List.drop (aa 10 1 a0 0).2.1.toNat (List.take (↑a0.length:Int).toNat a0)) (aj (aa 10 1 a0 0).1)).2 == 0 then bif decide ((↑(an (List.drop (aa 10 1 a0 0).2.1.toNat (List.take (↑a0.length:Int).toNat a0)) (aj (aa 10 1 a0 0).1)).1.length:Int)<aj (aa 10 1 a0 0).1) then oR (([],60,()),()) else bif (an (List.drop (aa 10 1 a0 0).2.1.toNat (List.take (↑a0.length:Int).toNat a0)) (aj (aa 10 1 a0 0).1)).2 != 0 then oR (([],(an (List.drop (aa 10 1 a0 0).2.1.toNat (List.take (↑a0.length:Int).toNat a0)) (aj (aa 10 1 a0 0).1)).2,()),()) else oR (((an (List.drop (aa 10 1 a0 0).2.1.toNat (List.take (↑a0.length:Int).toNat a0)) (aj (aa 10 1 a0 0).1)).1,0,()),()) else bif (an (List.drop (aa 10 1 a0 0).2.1.toNat (List.take (↑a0.length:Int).toNat a0)) (aj (aa 10 1 a0 0).1)).2 != 0 then oR (([],(an (List.drop (aa 10 1 a0 0).2.1.toNat (List.take (↑a0.length:Int).toNat a0)) (aj (aa 10 1 a0 0).1)).2,()),()) else oR (((an (List.drop (aa 10 1 a0 0).2.1.toNat (List.take (↑a0.length:Int).toNat a0)) (aj (aa 10 1 a0 0).1)).1,0,()),()) else none else none
theorem Hq (a0:LI)(a1:Int):Io.run tt IP dr Cm jh Tryz.f40 ((a0,a1,()),())=sO a0 a1:=by kernel_rfl
theorem Jn:HcOk prog 40 (ah jh yX):=by
 refine bL (cs:=Bz) (.cons CQ (.cons Jv .nil)) (lp:=Cm) (fn:=Tryz.f40) jh (.done (by kernel_rfl)) yX ?_
 rintro ⟨⟨(b:LI),(most:Int),⟨⟩⟩,⟨⟩⟩ o hw ho
 obtain ⟨hg,ho⟩:=Tr.guard ho
 simp only[zA,zB] at hg
 obtain ⟨h0,hl⟩:=hg
 have h0:most=32768:=h0
 have hl:b.length≤4294960000:=hl
 subst h0
 cases ho
 refine (Hq b 32768).trans ?_
 show _=oR (((aO b).1,(aO b).2,()),())
 unfold sO aO
 have hk:=@rE 10 1 b 0
 generalize hge:aa 10 1 b 0=g at *
 obtain ⟨u,q,e⟩:=g
 simp only at hk ⊢
 by_cases h1:e=0
 rotate_left
 ·refine bT (by simpa using h1) ?_
  rw[if_pos h1]
 subst h1
 have hk:=hk rfl
 obtain ⟨q,rfl⟩:=au (show 0≤q by omega)
 refine (ac rfl _ _).trans ?_
 rw[if_neg (aD rfl)]
 generalize aj u=n
 by_cases h2:n<0
 ·refine bT (decide_eq_true h2) ?_
  rw[if_pos h2]
 refine bF (decide_eq_false h2) ?_
 rw[if_neg h2]
 by_cases h3:32768<n
 ·refine bT (decide_eq_true h3) ?_
  rw[if_pos h3]
 refine bF (decide_eq_false h3) ?_
 refine bF (decide_eq_false h3) ?_
 rw[if_neg h3]
 have hx:=fx (b.drop q) n
 rw[zG,zG,List.take_length]
 refine bT (by simp only[zA,zB];omega) ?_
 refine bT (decide_eq_true (by simp;omega)) ?_
 have hx1:(an (b.drop q) n).2≠0→(an (b.drop q) n).1=[]:=by rw[hx];exact gA _ _ _ _
 clear hx
 generalize an (b.drop q) n=x at *
 obtain ⟨o,f⟩:=x
 simp only at hx1 ⊢
 by_cases h4:f=4
 ·subst h4
  refine (ab rfl _ _).trans ?_
  rw[if_pos (.inl rfl)]
  all_goals rfl
 refine bF (by simpa using h4) ?_
 by_cases h5:f=0
 ·subst h5
  refine (ab rfl _ _).trans ?_
  by_cases h6:(o.length:Int)<n
  ·refine bT (decide_eq_true h6) ?_
   rw[if_pos (.inr ⟨rfl,h6⟩)]
  ·refine bF (decide_eq_false h6) ?_
   rw[if_neg (by rintro (h | h);cases h;exact h6 h.2),if_neg (aD rfl)]
   all_goals rfl
 ·refine bF (by simpa using h5) ?_
  rw[if_neg (by rintro (h | h);exact h4 h;exact h5 h.1),if_pos h5]
  exact ab (by simpa using h5) _ _
abbrev aV:Ty:=.prod (.int .i64) (.prod t7 (.prod t7 (.prod AP .unit)))
abbrev Kz:Ty:=.sl 49 aV
abbrev MG:Ty:=.prod (.int .i64) (.prod (.int .i32) (.prod (.int .i64) (.prod (.int .i16) (.prod (.int .i32) (.prod Kz .unit)))))
abbrev Mn:Ty:=.prod (.int .i64) (.prod (.int .i64) (.prod (.int .i32) (.prod .bool (.prod (.int .i64) (.prod (.int .i64) (.prod (.int .i64) (.prod (.int .i64) (.prod (.int .i16) (.prod (.int .i32) .unit)))))))))
abbrev bn:Type:=Int×vV×vV×List cv×Unit
abbrev fF:Type:=Int×Int×Int×Int×Int×List bn×Unit
abbrev sk:Type:=Int×Int×Int×Bool×Int×Int×Int×Int×Int×Int×Unit
abbrev KD:Sh:=.dat aV true false
abbrev wV:Sh:=.dat Kz false false
abbrev wU:Sh:=.dat MG true false
abbrev Fv:Sh:=.dat Mn true false
def qa:fF:=(0,0,0,0,0,[],())
def aW:sk:=(0,0,0,false,0,0,0,0,0,0,())
def qb:bn:=(0,(false,[],()),(false,[],()),[],())
def aS (base:Int):Bool:=decide (base<0) || decide (4611686018427387648<base)
def aG (pid ep sq:Int):Bool:=if pid = -1∧ep = -1∧sq = -1∨0≤pid∧0≤ep∧0≤sq then false else true
def aA (n:Int):Bool:=if -9223372036854775808≤n∧n≤9223372036854775807 then true else false
def aJ (rs:List bn):Int:=match rs with
 |[]=>0
 |r::_=>r.1
def fN (f:Int)(i:Nat)(r:bn):ll:=(r.1 - f,(i:Int),r.2.1,r.2.2.1,r.2.2.2.1,())
def bP (f:Int):List bn→Nat→LI→LI×Int
 |[],_,out=>(out,0)
 |r::rs,i,out=>
  if aA (r.1 - f)=false then ([],86)
  else if bH (fN f i r)≠0 then ([],bH (fN f i r))
  else bP f rs (i+1) (out++(cz (fN f i r)).1)
def bx (rs:List bn):LI×Int:=
 if (bP (aJ rs) rs 0 []).2≠0 then ([],(bP (aJ rs) rs 0 []).2)
 else if 32768<((bP (aJ rs) rs 0 []).1.length:Int) then ([],4)
 else ((bP (aJ rs) rs 0 []).1,0)
def aK (b:fF):Int:=
 if aS b.1=true then 80
 else if aG b.2.2.1 b.2.2.2.1 b.2.2.2.2.1=true then 84
 else if b.2.2.2.2.2.1=[] then 85
 else if 256<(b.2.2.2.2.2.1.length:Int) then 9
 else (bx b.2.2.2.2.2.1).2
def dq (b:fF):LI×Int:=if aK b≠0 then ([],aK b) else ((bx b.2.2.2.2.2.1).1,0)
def cW:List bn→Int→Int
 |[],t=>t
 |r::rs,t=>cW rs (cX t r.1)
def eF (rs:List bn):Int:=match rs with
 |[]=>-9223372036854775808
 |r::rs=>cW rs r.1
def ck (b:fF)(attrs:Int)(blk:LI):LI:=
 aF attrs 2++(aF ((b.2.2.2.2.2.1.length:Int) - 1) 4++(aF (aJ b.2.2.2.2.2.1) 8++(aF (eF b.2.2.2.2.2.1) 8++(aF b.2.2.1 8++(aF b.2.2.2.1 2++(aF b.2.2.2.2.1 4++(aF (b.2.2.2.2.2.1.length:Int) 4++blk)))))))
def rC (b:fF)(attrs:Int)(blk:LI):LI:=
 aF b.1 8++(aF (49+(blk.length:Int)) 4++(aF b.2.1 4++([2]++(aF (cy 0 (ck b attrs blk)) 4++ck b attrs blk))))
def jI (b:fF):LI×Int:=if aK b≠0 then ([],aK b) else (rC b 0 (bx b.2.2.2.2.2.1).1,0)
def ap (b:LI)(p n:Nat):Int:=bR ((b.drop p).take n)
def ay (b:LI)(p:Int):Int×Int:=
 if p<0∨(b.length:Int)<p then (0,3)
 else if (b.length:Int) - p<12 then (0,1)
 else if ap b (p.toNat+8) 4<49 then (0,5)
 else if 35988<ap b (p.toNat+8) 4 then (0,4)
 else if (b.length:Int) - p - 12<ap b (p.toNat+8) 4 then (0,1)
 else (ap b (p.toNat+8) 4+12,0)
def fP (b:LI):Bool:=if (b.drop 17).take 4=aF (cy 0 (b.drop 21)) 4 then true else false
def gC (b:LI):sk:=(ap b 0 8,(b.length:Int),ap b 12 4,decide (b.getD 22 0=1),ap b 57 4,ap b 27 8,ap b 35 8,ap b 43 8,ap b 51 2,ap b 53 4,())
def aU (b:LI)(summing:Bool):Int:=
 if (b.length:Int)<61 then 1
 else if (ay b 0).2≠0 then (ay b 0).2
 else if (ay b 0).1<(b.length:Int) then 2
 else if b.getD 16 0≠2 then 81
 else if summing=true∧fP b=false then 82
 else if aS (ap b 0 8)=true then 80
 else if b.getD 21 0≠0∨1<b.getD 22 0 then 83
 else if aG (ap b 43 8) (ap b 51 2) (ap b 53 4)=true then 84
 else if ap b 57 4<1 then 85
 else if 256<ap b 57 4 then 9
 else if ap b 23 4≠ap b 57 4 - 1 then 72
 else 0
def ai (b:LI)(summing:Bool):sk×Int:=if aU b summing≠0 then (aW,aU b summing) else (gC b,0)
def aC (blk:LI)(f:Int):Nat→Nat→Int→List bn→List bn×Int×Int
 |0,_,p,out=>(out,p,0)
 |n+1,i,p,out=>
  if (am blk p).2.2≠0 then ([],0,(am blk p).2.2)
  else if (am blk p).1.2.1≠(i:Int) then ([],0,72)
  else if i=0∧(am blk p).1.1≠0∨aA (f+(am blk p).1.1)=false then ([],0,86)
  else aC blk f n (i+1) (am blk p).2.1 (out++[(f+(am blk p).1.1,(am blk p).1.2.2.1,(am blk p).1.2.2.2.1,(am blk p).1.2.2.2.2.1,())])
def cA (blk:LI)(f l:Int)(n:Nat):List bn×Int:=
 if (aC blk f n 0 0 []).2.2≠0 then ([],(aC blk f n 0 0 []).2.2)
 else if (aC blk f n 0 0 []).2.1<(blk.length:Int) then ([],2)
 else if eF (aC blk f n 0 0 []).1≠l then ([],86)
 else ((aC blk f n 0 0 []).1,0)
def aN (b:LI)(packed:Bool):LI×Int:=
 if packed=true then aO (b.drop 61) else if 32768<((b.drop 61).length:Int) then ([],4) else (b.drop 61,0)
def jH (b:LI):List bn×Int:=
 if aU b true≠0 then ([],aU b true)
 else if (aN b (decide (b.getD 22 0=1))).2≠0 then ([],(aN b (decide (b.getD 22 0=1))).2)
 else cA (aN b (decide (b.getD 22 0=1))).1 (ap b 27 8) (ap b 35 8) (ap b 57 4).toNat
def bf (b:LI):fF×Int:=
 if (jH b).2≠0 then (qa,(jH b).2) else ((ap b 0 8,ap b 12 4,ap b 43 8,ap b 51 2,ap b 53 4,(jH b).1,()),0)
abbrev d8:Sh:=.dat (.int .i8) false false
abbrev qX:Io:=⟨[.ptr 0 0,d8],[Je],[],[dI],none⟩
def Im (d:qX.In):Tr qX.Res:=
 .ite (cE d.2.1.1 d.2.1.2.1) (.ret (.ret (((bZ d.2.1.1 d.2.1.2.1 d.1.2.1 1).1,()),(((bZ d.2.1.1 d.2.1.2.1 d.1.2.1 1).2,(d.2.1.2.1,())),())))) .no
abbrev Kt:List (Nat×Hc):=[(87,ah cT iE)]
def L9:Hd:=bt Kt
def Kw:Lp:=bG []
def Bk (a0:Int)(a1:LI)(a2:Int):Option qX.Res:=bif cE a1 a2&&(decide (0≤1)&&decide (1≤8)) then oR (((bZ a1 a2 (u64.wrap a0) (Int.toNat 1)).1,()),((bZ a1 a2 (u64.wrap a0) (Int.toNat 1)).2,a2,()),()) else none
theorem LB (a0:Int)(a1:LI)(a2:Int):Io.run tt L9 dr Kw qX Tryz.f50 (((),a0,()),(a1,a2,()),())=Bk a0 a1 a2:=by kernel_rfl
theorem Mg:HcOk prog 50 (ah qX Im):=by
 refine bL (cs:=Kt) (.cons lf .nil) (lp:=Kw) (fn:=Tryz.f50) qX (.done (by kernel_rfl)) Im ?_
 rintro ⟨⟨⟨⟩,(v:Int),⟨⟩⟩,⟨⟨(b:LI),(m:Int),⟨⟩⟩,⟨⟩⟩⟩ out hw ho
 obtain ⟨hg,ho⟩:=Tr.guard ho
 have hg:cE b m=true:=hg
 cases ho
 refine (LB v b m).trans ?_
 unfold Bk
 have e:bZ b m (u64.wrap v) 1=bZ b m v 1:=by unfold bZ;rw[ny v (by decide)]
 simp[hg,e]
abbrev ma:Io:=⟨[.ptr 0 0],[Kx],[],[d8,dI],none⟩
def Ba (d:ma.In):Tr ma.Res:=
 .ite (cr d.2.1.1 d.2.1.2.1) (.ret (.ret ((i8.wrap (br d.2.1.1 d.2.1.2.1 1).1,((br d.2.1.1 d.2.1.2.1 1).2.2,())),((d.2.1.1,((br d.2.1.1 d.2.1.2.1 1).2.1,())),())))) .no
abbrev Fk:List (Nat×Hc):=[(93,ah cp fR)]
def KT:Hd:=bt Fk
def Gt:Lp:=bG []
def wo (a0:LI)(a1:Int):Option ma.Res:=bif cr a0 a1&&(decide (0≤1)&&decide (1≤8)) then oR ((i8.wrap (br a0 a1 (Int.toNat 1)).1,(br a0 a1 (Int.toNat 1)).2.2,()),(a0,(br a0 a1 (Int.toNat 1)).2.1,()),()) else none
theorem JX (a0:LI)(a1:Int):Io.run tt KT dr Gt ma Tryz.f67 (((),()),(a0,a1,()),())=wo a0 a1:=by kernel_rfl
theorem Lm:HcOk prog 67 (ah ma Ba):=by
 refine bL (cs:=Fk) (.cons jC .nil) (lp:=Gt) (fn:=Tryz.f67) ma (.done (by kernel_rfl)) Ba ?_
 rintro ⟨⟨⟨⟩,⟨⟩⟩,⟨⟨(b:LI),(p:Int),⟨⟩⟩,⟨⟩⟩⟩ out hw ho
 obtain ⟨hg,ho⟩:=Tr.guard ho
 have hg:cr b p=true:=hg
 cases ho
 refine (JX b p).trans ?_
 unfold wo
 rw[ab (by simp[hg])]
 rfl
theorem ga {n:Int}(h:bh .i64 n) : -9223372036854775808≤n∧n≤9223372036854775807:=by
 simpa [bh,IntKind.min,IntKind.max,IntKind.signed,IntKind.bits] using h
theorem zT {n:Int}(h:bh .i32 n) : -2147483648≤n∧n≤2147483647:=by
 simpa [bh,IntKind.min,IntKind.max,IntKind.signed,IntKind.bits] using h
theorem If {n:Int}(h1:9223372036854775807<n)(h2:n≤18446744073709551615):i64.wrap n=n - 18446744073709551616:=by
 simp[IntKind.wrap,IntKind.signed,IntKind.bits] <;> (try split) <;> omega
theorem Ig {n:Int}(h1:n < -9223372036854775808)(h2 : -18446744073709551616≤n):i64.wrap n=n+18446744073709551616:=by
 simp[IntKind.wrap,IntKind.signed,IntKind.bits] <;> (try split) <;> omega
theorem w9 {n:Int}(h1 : -9223372036854775808≤n)(h2:n≤9223372036854775807):aA n=true:=by unfold aA;rw[if_pos ⟨h1,h2⟩]
theorem kU {n:Int}(h:¬(-9223372036854775808≤n∧n≤9223372036854775807)):aA n=false:=by unfold aA;rw[if_neg h]
theorem fi {n:Int}:aA n=true↔-9223372036854775808≤n∧n≤9223372036854775807:=by
 unfold aA
 split
 ·rename_i h;exact ⟨fun _=>h,fun _=>rfl⟩
 ·rename_i h;exact ⟨fun h'=>Bool.noConfusion h',fun h'=>absurd h' h⟩
theorem IE {t f:Int}(ht:bh .i64 t)(hf:bh .i64 f):(decide (i64.wrap (t - f)<0) == decide (t<f))=aA (t - f):=by
 have h1:=ga ht
 have h2:=ga hf
 by_cases a : -9223372036854775808≤t - f
 ·by_cases b:t - f≤9223372036854775807
  ·rw[w9 a b,af a b]
   by_cases c:t<f
   ·rw[decide_eq_true c,decide_eq_true (show t - f<0 by omega)];rfl
   ·rw[decide_eq_false c,decide_eq_false (show ¬ t - f<0 by omega)];rfl
  ·rw[kU (fun h=>b h.2),If (by omega) (by omega),decide_eq_true (show t - f - 18446744073709551616<0 by omega),decide_eq_false (show ¬ t<f by omega)];rfl
 ·rw[kU (fun h=>a h.1),Ig (by omega) (by omega),decide_eq_false (show ¬ t - f+18446744073709551616<0 by omega),decide_eq_true (show t<f by omega)];rfl
theorem ID {d f:Int}(hd:bh .i64 d)(hf:bh .i64 f):(decide (i64.wrap (f+d)<f) == decide (d<0))=aA (f+d):=by
 have h1:=ga hd
 have h2:=ga hf
 by_cases a : -9223372036854775808≤f+d
 ·by_cases b:f+d≤9223372036854775807
  ·rw[w9 a b,af a b]
   by_cases c:d<0
   ·rw[decide_eq_true c,decide_eq_true (show f+d<f by omega)];rfl
   ·rw[decide_eq_false c,decide_eq_false (show ¬ f+d<f by omega)];rfl
  ·rw[kU (fun h=>b h.2),If (by omega) (by omega),decide_eq_true (show f+d - 18446744073709551616<f by omega),decide_eq_false (show ¬ d<0 by omega)];rfl
 ·rw[kU (fun h=>a h.1),Ig (by omega) (by omega),decide_eq_false (show ¬ f+d+18446744073709551616<f by omega),decide_eq_true (show d<0 by omega)];rfl
theorem LF:∀{l:LI},(∀c∈l,0≤c∧c≤255)→l.length=1→i8.wrap (bu l)=bR l
 |[a],h,_=>by
  have ha:=h a (by simp)
  simp only[bu,bR,List.foldl_cons,List.foldl_nil]
  simp[IntKind.wrap,IntKind.signed,IntKind.bits] <;> (try split) <;> omega
theorem C5:∀{l:LI},(∀c∈l,0≤c∧c≤255)→l.length=2→i16.wrap (bu l)=bR l
 |[a,b],h,_=>by
  have ha:=h a (by simp)
  have hb:=h b (by simp)
  simp only[bu,bR,List.foldl_cons,List.foldl_nil]
  simp[IntKind.wrap,IntKind.signed,IntKind.bits] <;> (try split) <;> omega
theorem p8:∀{l:LI},(∀c∈l,0≤c∧c≤255)→l.length=4→i32.wrap (bu l)=bR l
 |[a,b,c,d],h,_=>by
  have ha:=h a (by simp)
  have hb:=h b (by simp)
  have hc:=h c (by simp)
  have hd:=h d (by simp)
  simp only[bu,bR,List.foldl_cons,List.foldl_nil]
  simp[IntKind.wrap,IntKind.signed,IntKind.bits] <;> (try split) <;> omega
theorem J8:∀{l:LI},(∀c∈l,0≤c∧c≤255)→l.length=8→i64.wrap (bu l)=bR l
 |[a,b,c,d,e,f,g,i],h,_=>by
  have ha:=h a (by simp)
  have hb:=h b (by simp)
  have hc:=h c (by simp)
  have hd:=h d (by simp)
  have he:=h e (by simp)
  have hf:=h f (by simp)
  have hg:=h g (by simp)
  have hi:=h i (by simp)
  simp only[bu,bR,List.foldl_cons,List.foldl_nil]
  simp[IntKind.wrap,IntKind.signed,IntKind.bits] <;> (try split) <;> omega
theorem HN:∀{l:LI},(∀c∈l,0≤c∧c≤255)→l.length=4→-2147483648≤bR l∧bR l≤2147483647:=fun h hl=>by
 rw[← p8 h hl]
 exact zT (bJ _ _)
theorem ic {b:LI}(hb:∀c∈b,0≤c∧c≤255)(p n:Nat):∀c∈(b.drop p).take n,0≤c∧c≤255:=fun c hc=>hb c (List.mem_of_mem_drop (List.mem_of_mem_take hc))
theorem ij {b:LI}{p n:Nat}(h:p+n≤b.length):((b.drop p).take n).length=n:=by simp;omega
abbrev gM:Io:=⟨[lm],[],[],[dB],none⟩
def ua (d:gM.In):Tr gM.Res:=.ret (.ret ((aS d.1.1,()),()))
abbrev Bm:List (Nat×Hc):=[]
def IG:Hd:=bt Bm
def Cd:Lp:=bG []
def sx (a0:Int):Option gM.Res:=bif decide (a0<0) then oR ((true,()),()) else oR ((decide (4611686018427387648<a0),()),())
theorem G9 (a0:Int):Io.run tt IG dr Cd gM Tryz.f64 ((a0,()),())=sx a0:=by kernel_rfl
theorem CJ:HcOk prog 64 (ah gM ua):=by
 refine bL (cs:=Bm) HcsOk.nil (lp:=Cd) (fn:=Tryz.f64) gM (.done (by kernel_rfl)) ua ?_
 rintro ⟨⟨(b:Int),⟨⟩⟩,⟨⟩⟩ out hw ho
 cases ho
 refine (G9 b).trans ?_
 show _=oR ((decide (b<0) || decide (4611686018427387648<b),()),())
 unfold sx
 by_cases h:b<0
 ·refine bT (decide_eq_true h) ?_
  rw[decide_eq_true h];rfl
 ·refine bF (decide_eq_false h) ?_
  rw[decide_eq_false h];rfl
abbrev fK:Io:=⟨[lm,Mw,Ix],[],[],[dB],none⟩
def ug (d:fK.In):Tr fK.Res:=.ret (.ret ((aG d.1.1 d.1.2.1 d.1.2.2.1,()),()))
abbrev Br:List (Nat×Hc):=[]
def IK:Hd:=bt Br
def Ch:Lp:=bG []
def sE (a0 a1 a2:Int):Option fK.Res:=bif a0 == -1 then bif a1 == -1 then bif decide (0≤a0) then bif decide (0≤a1) then bif !a2 == -1 then oR ((!decide (0≤a2),()),()) else oR ((false,()),()) else bif !a2 == -1 then oR ((true,()),()) else oR ((false,()),()) else bif !a2 == -1 then oR ((true,()),()) else oR ((false,()),()) else bif decide (0≤a0) then bif decide (0≤a1) then oR ((!decide (0≤a2),()),()) else oR ((true,()),()) else oR ((true,()),()) else bif decide (0≤a0) then bif decide (0≤a1) then oR ((!decide (0≤a2),()),()) else oR ((true,()),()) else oR ((true,()),())
theorem Hg (a0 a1 a2:Int):Io.run tt IK dr Ch fK Tryz.f69 ((a0,a1,a2,()),())=sE a0 a1 a2:=by kernel_rfl
theorem CL:HcOk prog 69 (ah fK ug):=by
 refine bL (cs:=Br) HcsOk.nil (lp:=Ch) (fn:=Tryz.f69) fK (.done (by kernel_rfl)) ug ?_
 rintro ⟨⟨(pid:Int),(ep:Int),(sq:Int),⟨⟩⟩,⟨⟩⟩ out hw ho
 cases ho
 refine (Hg pid ep sq).trans ?_
 show _=oR (((if pid = -1∧ep = -1∧sq = -1∨0≤pid∧0≤ep∧0≤sq then false else true),()),())
 have hs:(!decide (0≤sq))=if 0≤sq then false else true:=by by_cases h:0≤sq <;> simp[h]
 have key:∀c:Prop,[Decidable c]→∀b:Bool,(b=false↔c)→some (Out.ret ((b,()),()):fK.Res)=oR (((if c then false else true),()),()):=by
  intro c _ b h
  by_cases hc:c
  ·rw[if_pos hc,h.2 hc]
  ·rw[if_neg hc]
   cases b with
   |true=>rfl
   |false=>exact absurd (h.1 rfl) hc
 unfold sE
 by_cases h1:pid = -1
 ·refine bT (by simp[h1]) ?_
  by_cases h2:ep = -1
  ·refine bT (by simp[h2]) ?_
   refine bF (decide_eq_false (by omega)) ?_
   by_cases h3:sq = -1
   ·refine bF (by simp[h3]) ?_
    exact key _ _ (by simp;omega)
   ·refine bT (by simp[h3]) ?_
    exact key _ _ (by simp;omega)
  ·refine bF (by simp[h2]) ?_
   refine bF (decide_eq_false (by omega)) ?_
   exact key _ _ (by simp;omega)
 ·refine bF (by simp[h1]) ?_
  by_cases h2:0≤pid
  ·refine bT (decide_eq_true h2) ?_
   by_cases h3:0≤ep
   ·refine bT (decide_eq_true h3) ?_
    exact key _ _ (by simp;omega)
   ·refine bF (decide_eq_false h3) ?_
    exact key _ _ (by simp;omega)
  ·refine bF (decide_eq_false h2) ?_
   exact key _ _ (by simp;omega)
abbrev ge:Io:=⟨[lm,lm],[],[],[lm,dB],none⟩
def ue (d:ge.In):Tr ge.Res:=.ret (.ret ((i64.wrap (d.1.1 - d.1.2.1),aA (d.1.1 - d.1.2.1),()),()))
abbrev wD:List (Nat×Hc):=[]
def FK:Hd:=bt wD
def xF:Lp:=bG []
def qu (a0 a1:Int):Option ge.Res:=oR ((i64.wrap (a0 - a1),decide (i64.wrap (a0 - a1)<0) == decide (a0<a1),()),())
theorem DV (a0 a1:Int):Io.run tt FK dr xF ge Tryz.f82 ((a0,a1,()),())=qu a0 a1:=by kernel_rfl
theorem GH:HcOk prog 82 (ah ge ue):=by
 refine bL (cs:=wD) HcsOk.nil (lp:=xF) (fn:=Tryz.f82) ge (.done (by kernel_rfl)) ue ?_
 rintro ⟨⟨(t:Int),(f:Int),⟨⟩⟩,⟨⟩⟩ out hw ho
 cases ho
 refine (DV t f).trans ?_
 unfold qu
 rw[IE hw.1.1 hw.1.2.1]
def dp (f:Int):List bn→Nat→Bool
 |[],_=>true
 |r::rs,i=>oE (fN f i r)&&dp f rs (i+1)
abbrev gP:Io:=⟨[wU],[],[],[dO,dI],none⟩
def nP (d:gP.In):Tr gP.Res:=.ite (dp (aJ d.1.1.2.2.2.2.2.1) d.1.1.2.2.2.2.2.1 0) (.ret (.ret (((dq d.1.1).1,(dq d.1.1).2,()),()))) .no
abbrev Bs:List (Nat×Hc):=[(64,ah gM ua),(69,ah fK ug),(82,ah ge ue),(83,ah lW EI)]
def BY:Hd:=bt Bs
abbrev cH:Lo:=⟨⟨(.any::.one (.ptr 1 0)::bz (.one (.onl 5 (Ty.int u8) 9)::.any::al (dC (cj (.one (.hol (.sl 49 aV))::.one hI::.one hI::al (al (dC (bz [])))))))),[none,some [hI,hJ,hI,hK,hJ,.hol (.sl 49 aV)]]⟩,[(.ret,⟨(bz (.one (.onl 5 (Ty.int u8) 5)::.one hI::.any::al (al (al (al (dC (bz []))))))),[]⟩),(.exit 1,⟨(cj (.one (.onl 5 (Ty.int u8) 9)::al (al (al (al (dC (bz []))))))),[]⟩)]⟩
def iA (d:cH.st.den):Tr (ao cH.xs):=
 .ite (decide (d.1.2.2.2.1=0)&&(decide (d.1.2.2.1=(d.1.2.1.length:Int))&&(decide (d.1.1.length=0)&&((decide (aJ d.2.1.2.2.2.2.2.1=aJ d.1.2.1)&&decide (1≤d.2.1.2.2.2.2.2.1.length))&&(decide (d.1.2.1.length≤256)&&dp (aJ d.1.2.1) d.1.2.1 0)))))
  (.ite (decide ((bP (aJ d.1.2.1) d.1.2.1 0 []).2=0)) (.ret (.pan (.ret ((),(((bP (aJ d.1.2.1) d.1.2.1 0 []).1,()),()))))) (.ret (.ret ((),(([],(bP (aJ d.1.2.1) d.1.2.1 0 []).2,()),()))))) .no
def pU:Lp:=bG [(12,aI cH iA)]
def nH {R:Type}(h6:LI)(h7:List aV.den)(h8 h9 h10 h11 h12 h13 h14:Int)(h15:List aV.den)(next:LI→List aV.den→Int→Int→Int→Int→Int→Int→Int→List aV.den→Option R)(out:ao cH.xs→Option R):Option R:=bif decide (h9<h8) then bif decide (0≤h9)&&decide (h9<(↑h7.length:Int)) then bif decide (0≤0)&&decide (0<(↑h15.length:Int)) then bif !aA ((h7.getD h9.toNat (0,(false,[],()),(false,[],()),[],())).1 - (h15.getD (Int.toNat 0) (0,(false,[],()),(false,[],()),[],())).1) then out (.ret ((),(([],(86,())),()))) else bif oE (i64.wrap ((h7.getD h9.toNat (0,(false,[],()),(false,[],()),[],())).1 - (h15.getD (Int.toNat 0) (0,(false,[],()),(false,[],()),[],())).1),i32.wrap h9,(h7.getD h9.toNat (0,(false,[],()),(false,[],()),[],())).2) then bif (cz (i64.wrap ((h7.getD h9.toNat (0,(false,[],()),(false,[],()),[],())).1 - (h15.getD (Int.toNat 0) (0,(false,[],()),(false,[],()),[],())).1),i32.wrap h9,(h7.getD h9.toNat (0,(false,[],()),(false,[],()),[],())).2)).2 != 0 then out (.ret ((),(([],((cz (i64.wrap ((h7.getD h9.toNat (0,(false,[],()),(false,[],()),[],())).1 - (h15.getD (Int.toNat 0) (0,(false,[],()),(false,[],()),[],())).1),i32.wrap h9,(h7.getD h9.toNat (0,(false,[],()),(false,[],()),[],())).2)).2,())),()))) else bif decide (h6.length+(cz (i64.wrap ((h7.getD h9.toNat (0,(false,[],()),(false,[],()),[],())).1 - (h15.getD (Int.toNat 0) (0,(false,[],()),(false,[],()),[],())).1),i32.wrap h9,(h7.getD h9.toNat (0,(false,[],()),(false,[],()),[],())).2)).1.length≤4294967296) then next (h6++(cz (i64.wrap ((h7.getD h9.toNat (0,(false,[],()),(false,[],()),[],())).1 - (h15.getD (Int.toNat 0) (0,(false,[],()),(false,[],()),[],())).1),i32.wrap h9,(h7.getD h9.toNat (0,(false,[],()),(false,[],()),[],())).2)).1) (h7) (h8) (i64.wrap (h9+1)) (h10) (h11) (h12) (h13) (h14) (h15) else none else none else none else none else out (.pan (.ret ((),((h6,()),()))))
def mj (n:Nat)(h6:LI)(h7:List aV.den)(h8 h9 h10 h11 h12 h13 h14:Int)(h15:List aV.den):Option (ao cH.xs):=iI tt BY dr pU 0 Tryz.f45 (cR Tryz.f45 0) n (cH.st.mk' ((h6,(h7,(h8,(h9,())))),((h10,(h11,(h12,(h13,(h14,(h15,())))))),()))) (bS cH.xs)
theorem AF (n:Nat)(h6:LI)(h7:List aV.den)(h8 h9 h10 h11 h12 h13 h14:Int)(h15:List aV.den):mj (n+1) h6 h7 h8 h9 h10 h11 h12 h13 h14 h15=nH h6 h7 h8 h9 h10 h11 h12 h13 h14 h15 (mj n) some:=by kernel_rfl
theorem Er {r:ll}(h:bH r=0):(cz r).2=0∧(cz r).1.length≤16400:=by
 have e:cz r=(bW (aY (cN r).length)++cN r,0):=by unfold cz;rw[if_pos h]
 rw[e]
 refine ⟨rfl,?_⟩
 have hs:(cN r).length≤16384:=by
  unfold bH at h
  split at h
  ·rename_i h1;exact absurd h h1
  ·split at h
   ·cases h
   ·omega
 have:=tV (aY (cN r).length)
 simp only[zH]
 omega
theorem rI {r:ll}(h:bH r≠0):(cz r).2=bH r:=by unfold cz;rw[if_neg h]
theorem vg (b1 b2 b3 b4 b5:Int)(rs0:List bn)(h0:1≤rs0.length){f:Int}(hf0:aJ rs0=f)(hf:bh .i64 f)(rs:List bn)(hl:rs.length≤256)(hr:∀r∈rs,bh .i64 r.1):∀(k i:Nat) (out:LI),rs.length<i+k→i≤rs.length→dp f (rs.drop i) i=true→out.length≤i*17000→
  mj k out rs (rs.length:Int) i b1 b2 b3 b4 b5 rs0=if (bP f (rs.drop i) i out).2=0 then some (.pan (.ret ((),(((bP f (rs.drop i) i out).1,()),())))) else some (.ret ((),(([],((bP f (rs.drop i) i out).2,())),()))):=by
 intro k
 induction k with
 |zero=>intro i out h;omega
 |succ k ih=>
  intro i out h1 h2 h3 h4
  rw[AF]
  unfold nH
  by_cases hi:i<rs.length
  ·rw[zE hi] at h3 ⊢
   have hri:=hr rs[i] (List.getElem_mem hi)
   have e0:(rs0.getD (Int.toNat 0) (0,(false,[],()),(false,[],()),[],())).1=f:=by
    rw[← hf0]
    cases rs0 with
    |nil=>simp at h0
    |cons r l=>rfl
   have e1:List.getD rs (i:Int).toNat (0,(false,[],()),(false,[],()),[],())=rs[i]:=by rw[zG,aE hi]
   rw[e0,e1]
   generalize rs[i]=r at *
   simp only[dp,zA] at h3
   obtain ⟨h5,h6⟩:=h3
   refine bT (by simpa using hi) ?_
   refine bT (by simpa using hi) ?_
   refine bT (by simp;omega) ?_
   have eL:bP f (r::rs.drop (i+1)) i out=if aA (r.1 - f)=false then ([],86) else if bH (fN f i r)≠0 then ([],bH (fN f i r)) else bP f (rs.drop (i+1)) (i+1) (out++(cz (fN f i r)).1):=rfl
   rw[eL]
   cases h7:aA (r.1 - f) with
   |false=>
    refine (ab rfl _ _).trans ?_
    rw[if_pos rfl,if_neg (show (86:Int)≠0 by decide)]
   |true=>
    have h8:=fi.1 h7
    refine (ac rfl _ _).trans ?_
    rw[if_neg (show ¬ true=false by decide)]
    have eR:((i64.wrap (r.1 - f),i32.wrap (i:Int),r.2):ll)=fN f i r:=by
     rw[af h8.1 h8.2,bA (k:=.i32) (by simp[bh,IntKind.min,IntKind.max,IntKind.signed,IntKind.bits];omega)]
     rfl
    rw[eR]
    refine (ab h5 _ _).trans ?_
    by_cases h9:bH (fN f i r)=0
    ·obtain ⟨p1,p2⟩:=Er h9
     refine bF (by simpa using p1) ?_
     refine bT (decide_eq_true (by omega)) ?_
     rw[if_neg (aD h9),af (n:=(i:Int)+1) (by omega) (by omega)]
     exact ih (i+1) _ (by omega) (by omega) h6 (by simp;omega)
    ·refine bT (by rw[rI h9];simpa using h9) ?_
     rw[if_pos h9,rI h9]
     rw[if_neg h9]
  ·refine bF (by simp;omega) ?_
   rw[zI (by omega)]
   rfl
def sF (a0 a1 a2 a3 a4:Int)(a5:List aV.den):Option gP.Res:=bif aS a0 then oR (([],80,()),()) else bif aG a2 a3 a4 then oR (([],84,()),()) else bif (↑a5.length:Int) == 0 then oR (([],85,()),()) else bif decide (256<(↑a5.length:Int)) then oR (([],9,()),()) else (iA (([],(a5,((↑a5.length:Int),(0,())))),((a0,(a1,(a2,(a3,(a4,(a5,())))))),()))).run fun y=>match y with | .ret ((),((x31,x32,()),()))=>(oR ((x31,x32,()),())) | .pan (.ret ((),((x33,()),())))=>(bif decide (32768<(↑x33.length:Int)) then oR (([],4,()),()) else oR ((x33,0,()),()))
theorem Hh (a0 a1 a2 a3 a4:Int)(a5:List aV.den):Io.run tt BY dr pU gP Tryz.f45 (((a0,a1,a2,a3,a4,a5,()),()),())=sF a0 a1 a2 a3 a4 a5:=by kernel_rfl
theorem tu:HcsOk prog Bs:=.cons CJ (.cons CL (.cons GH (.cons Ld .nil)))
theorem CM:HcOk prog 45 (ah gP nP):=by
 refine bL tu (lp:=pU) (fn:=Tryz.f45) gP (.step (h0:=aI cH iA) (by kernel_rfl) (jy tu (lp:=pU) (fn:=Tryz.f45) (.done (by kernel_rfl)) cH iA ?_) (.done (by kernel_rfl))) nP ?_
 ·rintro ⟨⟨(out:LI),(rs:List bn),(m:Int),(i:Int),⟨⟩⟩,⟨⟨(b1:Int),(b2:Int),(b3:Int),(b4:Int),(b5:Int),(rs0:List bn),⟨⟩⟩,⟨⟩⟩⟩ y hw hy
  obtain ⟨hg,hy⟩:=Tr.guard hy
  simp only[zA,zB] at hg
  obtain ⟨h1,h2,h3,⟨h4,h5⟩,h6,h7⟩:=hg
  have h1:i=0:=h1
  have h2:m=(rs.length:Int):=h2
  have h3:out=[]:=List.length_eq_zero_iff.1 h3
  have h4:aJ rs0=aJ rs:=h4
  have h5:1≤rs0.length:=h5
  have h6:rs.length≤256:=h6
  subst h1 h2 h3
  have hf:bh .i64 (aJ rs):=by
   cases rs with
   |nil=>exact ⟨by decide,by decide⟩
   |cons r rs=>exact (hw.1.2.1.2 r (by simp)).1
  refine ⟨rs.length+1,(vg b1 b2 b3 b4 b5 rs0 h5 h4 hf rs h6 (fun r hr=>(hw.1.2.1.2 r hr).1) (rs.length+1) 0 [] (by omega) (by omega) h7 (by simp)).trans ?_⟩
  rw[← hy]
  simp only[Tr.val_ite,zB,Tr.val_ret,List.drop_zero]
 ·rintro ⟨⟨⟨(b1:Int),(b2:Int),(b3:Int),(b4:Int),(b5:Int),(rs:List bn),⟨⟩⟩,⟨⟩⟩,⟨⟩⟩ out hw ho
  obtain ⟨hg,ho⟩:=Tr.guard ho
  have hg:dp (aJ rs) rs 0=true:=hg
  cases ho
  refine (Hh b1 b2 b3 b4 b5 rs).trans ?_
  show _=oR (((dq (b1,b2,b3,b4,b5,rs,())).1,(dq (b1,b2,b3,b4,b5,rs,())).2,()),())
  have e:aK (b1,b2,b3,b4,b5,rs,())=if aS b1=true then 80 else if aG b3 b4 b5=true then 84 else if rs=[] then 85 else if 256<(rs.length:Int) then 9 else (bx rs).2:=rfl
  have e2:dq (b1,b2,b3,b4,b5,rs,())=if aK (b1,b2,b3,b4,b5,rs,())≠0 then ([],aK (b1,b2,b3,b4,b5,rs,())) else ((bx rs).1,0):=rfl
  unfold sF
  rw[e2]
  cases h1:aS b1 with
  |true=>
   refine (ab rfl _ _).trans ?_
   rw[show aK (b1,b2,b3,b4,b5,rs,())=80 by rw[e,if_pos h1],if_pos (by decide)]
  |false=>
  refine (ac rfl _ _).trans ?_
  cases h2:aG b3 b4 b5 with
  |true=>
   refine (ab rfl _ _).trans ?_
   rw[show aK (b1,b2,b3,b4,b5,rs,())=84 by rw[e,if_neg (by rw[h1];decide),if_pos h2],if_pos (by decide)]
  |false=>
  refine (ac rfl _ _).trans ?_
  by_cases h3:rs=[]
  ·refine bT (by simp[h3]) ?_
   rw[show aK (b1,b2,b3,b4,b5,rs,())=85 by rw[e,if_neg (by rw[h1];decide),if_neg (by rw[h2];decide),if_pos h3],if_pos (by decide)]
  refine bF (by simp[h3]) ?_
  by_cases h4:256<(rs.length:Int)
  ·refine bT (decide_eq_true h4) ?_
   rw[show aK (b1,b2,b3,b4,b5,rs,())=9 by rw[e,if_neg (by rw[h1];decide),if_neg (by rw[h2];decide),if_neg h3,if_pos h4],if_pos (by decide)]
  refine bF (decide_eq_false h4) ?_
  rw[show aK (b1,b2,b3,b4,b5,rs,())=(bx rs).2 by rw[e,if_neg (by rw[h1];decide),if_neg (by rw[h2];decide),if_neg h3,if_neg h4]]
  have hp:=List.length_pos_iff.2 h3
  unfold iA
  refine bT (by simp only[zA,zB];exact ⟨trivial,trivial,rfl,⟨trivial,hp⟩,show rs.length≤256 by omega,hg⟩) ?_
  show (bif decide ((bP (aJ rs) rs 0 []).2=0) then (bif decide (32768<((bP (aJ rs) rs 0 []).1.length:Int)) then oR (([],4,()),()) else oR (((bP (aJ rs) rs 0 []).1,0,()),())) else oR (([],(bP (aJ rs) rs 0 []).2,()),()))=_
  unfold bx
  by_cases h5:(bP (aJ rs) rs 0 []).2=0
  ·refine bT (decide_eq_true h5) ?_
   rw[if_neg (aD h5)]
   by_cases h6:32768<((bP (aJ rs) rs 0 []).1.length:Int)
   ·refine bT (decide_eq_true h6) ?_
    rw[if_pos h6,if_pos (show (4:Int)≠0 by decide)]
   ·refine bF (decide_eq_false h6) ?_
    rw[if_neg h6,if_neg (aD rfl)]
  ·refine bF (decide_eq_false h5) ?_
   rw[if_pos h5,if_pos h5]
abbrev gO:Io:=⟨[wV],[],[],[lm],none⟩
def uf (d:gO.In):Tr gO.Res:=.ite (decide (1≤d.1.1.length)) (.ret (.ret ((eF d.1.1,()),()))) .no
abbrev uJ:List (Nat×Hc):=[]
def BX:Hd:=bt uJ
abbrev dd:Lo:=⟨⟨(.any::bz (.one hI::cj (bz (.one (.hol (.sl 49 aV))::.one hI::.one hI::.any::dC [])))),[]⟩,[(.exit 0,⟨(.any::bz (.one hI::al (bz []))),[]⟩)]⟩
def jV (d:dd.st.den):Tr (ao dd.xs):=.ite (decide (d.1.2.2.2.1=0)&&decide (d.1.2.2.1=(d.1.2.1.length:Int))) (.ret (.ret ((),((cW d.1.2.1 d.1.1,()),())))) .no
def pT:Lp:=bG [(4,aI dd jV)]
def pc {R:Type}(h1:Int)(h2:List aV.den)(h3 h4:Int)(next:Int→List aV.den→Int→Int→Option R)(out:ao dd.xs→Option R):Option R:=bif decide (h4<h3) then bif decide (0≤h4)&&decide (h4<(↑h2.length:Int)) then next (cX h1 (h2.getD h4.toNat (0,(false,[],()),(false,[],()),[],())).1) (h2) (h3) (i64.wrap (h4+1)) else none else out (.ret ((),((h1,()),())))
def n9 (n:Nat)(h1:Int)(h2:List aV.den)(h3 h4:Int):Option (ao dd.xs):=iI tt BX dr pT 0 Tryz.f38 (cR Tryz.f38 0) n (dd.st.mk' ((h1,(h2,(h3,(h4,())))),())) (bS dd.xs)
theorem Eh (n:Nat)(h1:Int)(h2:List aV.den)(h3 h4:Int):n9 (n+1) h1 h2 h3 h4=pc h1 h2 h3 h4 (n9 n) some:=by kernel_rfl
theorem xq (rs:List bn)(hl:rs.length≤maxLen):∀(k i:Nat) (t:Int),rs.length<i+k→i≤rs.length→n9 k t rs (rs.length:Int) i=some (.ret ((),((cW (rs.drop i) t,()),()))):=by
 intro k
 induction k with
 |zero=>intro i t h;omega
 |succ k ih=>
  intro i t h1 h2
  rw[Eh]
  unfold pc
  by_cases hi:i<rs.length
  ·refine bT (by simpa using hi) ?_
   refine bT (by simpa using hi) ?_
   have e:List.getD rs (i:Int).toNat (0,(false,[],()),(false,[],()),[],())=rs[i]:=by simp only[zG,aE hi]
   rw[e,bm hi hl,zE hi]
   exact ih (i+1) _ (by omega) (by omega)
  ·refine bF (by simp;omega) ?_
   rw[zI (by omega)]
   rfl
def sC (a0:List aV.den):Option gO.Res:=bif decide (0≤0)&&decide (0<(↑a0.length:Int)) then (jV (((a0.getD (Int.toNat 0) (0,(false,[],()),(false,[],()),[],())).1,(a0,((↑a0.length:Int),(0,())))),())).run fun y=>match y with | .ret ((),((x10,()),()))=>(oR ((x10,()),())) else none
theorem He (a0:List aV.den):Io.run tt BX dr pT gO Tryz.f38 ((a0,()),())=sC a0:=by kernel_rfl
theorem CK:HcOk prog 38 (ah gO uf):=by
 refine bL (cs:=uJ) HcsOk.nil (lp:=pT) (fn:=Tryz.f38) gO (.step (h0:=aI dd jV) (by kernel_rfl) (jy (cs:=uJ) HcsOk.nil (lp:=pT) (fn:=Tryz.f38) (.done (by kernel_rfl)) dd jV ?_) (.done (by kernel_rfl))) uf ?_
 ·rintro ⟨⟨(t:Int),(rs:List bn),(m:Int),(i:Int),⟨⟩⟩,⟨⟩⟩ y hw hy
  obtain ⟨hg,hy⟩:=Tr.guard hy
  simp only[zA,zB] at hg
  obtain ⟨h1,h2⟩:=hg
  have h1:i=0:=h1
  have h2:m=(rs.length:Int):=h2
  subst h1 h2
  refine ⟨rs.length+1,(xq rs hw.1.2.1.1 (rs.length+1) 0 t (by omega) (by omega)).trans ?_⟩
  rw[← hy];rfl
 ·rintro ⟨⟨(rs:List bn),⟨⟩⟩,⟨⟩⟩ out hw ho
  obtain ⟨hg,ho⟩:=Tr.guard ho
  have hg:1≤rs.length:=of_decide_eq_true hg
  cases ho
  refine (He rs).trans ?_
  show _=oR ((eF rs,()),())
  unfold sC jV
  refine bT (by simp;omega) ?_
  refine bT (by simp) ?_
  cases rs with
  |nil=>simp at hg
  |cons r rs=>
   have e:cW (r::rs) r.1=cW rs r.1:=by
    show cW rs (cX r.1 r.1)=_
    unfold cX
    rw[if_neg (by omega)]
   exact congrArg (fun x=>oR ((x,()),())) e
abbrev ja:Io:=⟨[dL,dI],[],[],[dI,dI],none⟩
def yQ (d:ja.In):Tr ja.Res:=.ite (decide (d.1.1.length≤4294960000)) (.ret (.ret (((ay d.1.1 d.1.2.1).1,(ay d.1.1 d.1.2.1).2,()),()))) .no
abbrev Bq:List (Nat×Hc):=[(59,ah gU ur),(60,ah gT qj)]
def IJ:Hd:=bt Bq
def Cg:Lp:=bG []
def sD (a0:LI)(a1:Int):Option ja.Res:=bif decide (a1<0) then oR ((0,3,()),()) else bif decide ((↑a0.length:Int)<a1) then oR ((0,3,()),()) else bif decide (i64.wrap ((↑a0.length:Int) - a1)<12) then oR ((0,1,()),()) else bif decide (0≤i64.wrap (a1+8))&&(decide (i64.wrap (a1+8)≤i64.wrap (a1+12))&&decide (i64.wrap (a1+12)≤(↑a0.length:Int))) then bif decide ((List.drop (i64.wrap (a1+8)).toNat (List.take (i64.wrap (a1+12)).toNat a0)).length≤4294967296) then bif cr (List.drop (i64.wrap (a1+8)).toNat (List.take (i64.wrap (a1+12)).toNat a0)) 0 then bif decide (i32.wrap (br (List.drop (i64.wrap (a1+8)).toNat (List.take (i64.wrap (a1+12)).toNat a0)) 0 4).1<49) then oR ((0,5,()),()) else bif decide (35988<i32.wrap (br (List.drop (i64.wrap (a1+8)).toNat (List.take (i64.wrap (a1+12)).toNat a0)) 0 4).1) then oR ((0,4,()),()) else bif decide (i64.wrap (i64.wrap ((↑a0.length:Int) - a1) - 12)<i64.wrap (i32.wrap (br (List.drop (i64.wrap (a1+8)).toNat (List.take (i64.wrap (a1+12)).toNat a0)) 0 4).1)) then oR ((0,1,()),()) else oR ((i64.wrap (12+i64.wrap (i32.wrap (br (List.drop (i64.wrap (a1+8)).toNat (List.take (i64.wrap (a1+12)).toNat a0)) 0 4).1)),0,()),()) else none else none else none
theorem Hf (a0:LI)(a1:Int):Io.run tt IJ dr Cg ja Tryz.f24 ((a0,a1,()),())=sD a0 a1:=by kernel_rfl
theorem Jh:HcOk prog 24 (ah ja yQ):=by
 refine bL (cs:=Bq) (.cons CS (.cons CR .nil)) (lp:=Cg) (fn:=Tryz.f24) ja (.done (by kernel_rfl)) yQ ?_
 rintro ⟨⟨(b:LI),(p:Int),⟨⟩⟩,⟨⟩⟩ out hw ho
 obtain ⟨hg,ho⟩:=Tr.guard ho
 have hg2:b.length≤4294960000:=of_decide_eq_true hg
 clear hg
 cases ho
 have hb:=cZ hw.1.1
 refine (Hf b p).trans ?_
 show _=oR (((ay b p).1,(ay b p).2,()),())
 unfold sD ay
 by_cases h1:p<0
 ·refine bT (decide_eq_true h1) ?_
  rw[if_pos (.inl h1)]
 refine bF (decide_eq_false h1) ?_
 by_cases h2:(b.length:Int)<p
 ·refine bT (decide_eq_true h2) ?_
  rw[if_pos (.inr h2)]
 refine bF (decide_eq_false h2) ?_
 rw[if_neg (by omega)]
 obtain ⟨p,rfl⟩:=au (show 0≤p by omega)
 rw[af (n:=(b.length:Int) - p) (by omega) (by omega),af (n:=(p:Int)+8) (by omega) (by omega),af (n:=(p:Int)+12) (by omega) (by omega),af (n:=(b.length:Int) - p - 12) (by omega) (by omega)]
 by_cases h3:(b.length:Int) - p<12
 ·refine bT (decide_eq_true h3) ?_
  rw[if_pos h3]
 refine bF (decide_eq_false h3) ?_
 rw[if_neg h3]
 refine bT (by simp only[zA,zB];omega) ?_
 have eL:List.drop ((p:Int)+8).toNat (List.take ((p:Int)+12).toNat b)=(b.drop (p+8)).take 4:=by
  rw[List.drop_take,show ((p:Int)+8).toNat=p+8 by omega,show ((p:Int)+12).toNat - (p+8)=4 by omega]
 rw[eL]
 have hL:=ij (b:=b) (p:=p+8) (n:=4) (by omega)
 have hLr:=ic hb (p+8) 4
 have eI:ap b (((p:Nat):Int).toNat+8) 4=bR ((b.drop (p+8)).take 4):=by rw[zG];rfl
 have eR:i32.wrap (br ((b.drop (p+8)).take 4) 0 4).1=bR ((b.drop (p+8)).take 4):=by
  unfold br
  rw[if_neg (by rw[hL];decide)]
  show i32.wrap (bu ((((b.drop (p+8)).take 4).drop 0).take 4))=_
  rw[List.drop_zero,List.take_of_length_le (by rw[hL];exact Nat.le_refl 4)]
  exact p8 hLr hL
 have hbd:=HN hLr hL
 rw[eI,eR]
 refine bT (decide_eq_true (by rw[hL];omega)) ?_
 refine bT (by unfold cr;simp only[zA,zB,hL];omega) ?_
 generalize bR ((b.drop (p+8)).take 4)=n at *
 by_cases h4:n<49
 ·refine bT (decide_eq_true h4) ?_
  rw[if_pos h4]
 refine bF (decide_eq_false h4) ?_
 rw[if_neg h4]
 by_cases h5:35988<n
 ·refine bT (decide_eq_true h5) ?_
  rw[if_pos h5]
 refine bF (decide_eq_false h5) ?_
 rw[if_neg h5,af (n:=n) (by omega) (by omega),af (n:=12+n) (by omega) (by omega)]
 by_cases h6:(b.length:Int) - p - 12<n
 ·refine bT (decide_eq_true h6) ?_
  rw[if_pos h6]
 refine bF (decide_eq_false h6) ?_
 rw[if_neg h6,Int.add_comm]
def bd (g:ll)(i f:Int):bn×Int:=
 if g.2.1≠i then (qb,72)
 else if i=0∧g.1≠0∨aA (f+g.1)=false then (qb,86)
 else ((f+g.1,g.2.2.1,g.2.2.2.1,g.2.2.2.2.1,()),0)
abbrev eQ:Io:=⟨[wW,dI,lm],[],[],[KD,dI],none⟩
def qe (d:eQ.In):Tr eQ.Res:=.ret (.ret (((bd d.1.1 d.1.2.1 d.1.2.2.1).1,(bd d.1.1 d.1.2.1 d.1.2.2.1).2,()),()))
abbrev ta:List (Nat×Hc):=[]
def Dq:Hd:=bt ta
def tG:Lp:=bG []
def oH (a0 a1:Int)(a2:Bool)(a3:LI)(a4:Bool)(a5:LI)(a6:List cm.den)(a7 a8:Int):Option eQ.Res:=bif i64.wrap a1 != a7 then oR (((0,(false,[],()),(false,[],()),[],()),72,()),()) else bif a7 == 0 then bif a0 != 0 then oR (((0,(false,[],()),(false,[],()),[],()),86,()),()) else bif !decide (i64.wrap (a8+a0)<a8) == decide (a0<0) then oR (((0,(false,[],()),(false,[],()),[],()),86,()),()) else oR (((i64.wrap (a8+a0),(a2,a3,()),(a4,a5,()),a6,()),0,()),()) else bif !decide (i64.wrap (a8+a0)<a8) == decide (a0<0) then oR (((0,(false,[],()),(false,[],()),[],()),86,()),()) else oR (((i64.wrap (a8+a0),(a2,a3,()),(a4,a5,()),a6,()),0,()),())
theorem Aq (a0 a1:Int)(a2:Bool)(a3:LI)(a4:Bool)(a5:LI)(a6:List cm.den)(a7 a8:Int):Io.run tt Dq dr tG eQ Tryz.f37 (((a0,a1,(a2,a3,()),(a4,a5,()),a6,()),a7,a8,()),())=oH a0 a1 a2 a3 a4 a5 a6 a7 a8:=by kernel_rfl
theorem DJ:HcOk prog 37 (ah eQ qe):=by
 refine bL (cs:=ta) HcsOk.nil (lp:=tG) (fn:=Tryz.f37) eQ (.done (by kernel_rfl)) qe ?_
 rintro ⟨⟨⟨(a0:Int),(a1:Int),⟨(a2:Bool),(a3:LI),⟨⟩⟩,⟨(a4:Bool),(a5:LI),⟨⟩⟩,(a6:List cv),⟨⟩⟩,(i:Int),(f:Int),⟨⟩⟩,⟨⟩⟩ out hw ho
 cases ho
 refine (Aq a0 a1 a2 a3 a4 a5 a6 i f).trans ?_
 have h0:bh .i64 a0:=hw.1.1.1
 have h1:bh .i32 a1:=hw.1.1.2.1
 have hf:bh .i64 f:=hw.1.2.2.1
 have b1:=zT h1
 show _=oR (((bd (a0,a1,(a2,a3,()),(a4,a5,()),a6,()) i f).1,(bd (a0,a1,(a2,a3,()),(a4,a5,()),a6,()) i f).2,()),())
 unfold oH bd
 simp only
 rw[af (n:=a1) (by omega) (by omega),ID h0 hf]
 have hfit:aA (f+a0)=true→i64.wrap (f+a0)=f+a0:=fun h=>af (fi.1 h).1 (fi.1 h).2
 by_cases c1:a1=i
 rotate_left
 ·refine bT (by simpa using c1) ?_
  rw[if_pos c1]
  rfl
 refine bF (by simpa using c1) ?_
 rw[if_neg (aD c1)]
 by_cases c2:i=0
 ·refine bT (by simpa using c2) ?_
  by_cases c3:a0=0
  ·refine bF (by simpa using c3) ?_
   cases c4:aA (f+a0) with
   |false=>
    refine (ab rfl _ _).trans ?_
    rw[if_pos (.inr rfl)]
    rfl
   |true=>
    refine (ac rfl _ _).trans ?_
    rw[if_neg (by rintro (h | h);exact h.2 c3;cases h),hfit c4]
  ·refine bT (by simpa using c3) ?_
   rw[if_pos (.inl ⟨c2,c3⟩)]
   rfl
 ·refine bF (by simpa using c2) ?_
  cases c4:aA (f+a0) with
  |false=>
   refine (ab rfl _ _).trans ?_
   rw[if_pos (.inr rfl)]
   rfl
  |true=>
   refine (ac rfl _ _).trans ?_
   rw[if_neg (by rintro (h | h);exact c2 h.1;cases h),hfit c4]
abbrev gd:Io:=⟨[dL,dB],[],[],[dL,dI],none⟩
def uc (d:gd.In):Tr gd.Res:=.ite (decide (61≤d.1.1.length)&&decide (d.1.1.length≤4294960000)) (.ret (.ret (((aN d.1.1 d.1.2.1).1,(aN d.1.1 d.1.2.1).2,()),()))) .no
abbrev wC:List (Nat×Hc):=[(70,ah jf yV)]
def FI:Hd:=bt wC
def xE:Lp:=bG []
def qt (a0:LI)(a1:Bool):Option gd.Res:=bif decide (0≤61)&&(decide (61≤(↑a0.length:Int))&&decide ((↑a0.length:Int)≤(↑a0.length:Int))) then bif a1 then bif decide (32768=32768)&&decide ((List.drop (Int.toNat 61) (List.take (↑a0.length:Int).toNat a0)).length≤4294960000) then oR (((aO (List.drop (Int.toNat 61) (List.take (↑a0.length:Int).toNat a0))).1,(aO (List.drop (Int.toNat 61) (List.take (↑a0.length:Int).toNat a0))).2,()),()) else none else bif decide (32768<(↑(List.drop (Int.toNat 61) (List.take (↑a0.length:Int).toNat a0)).length:Int)) then oR (([],4,()),()) else oR ((List.drop (Int.toNat 61) (List.take (↑a0.length:Int).toNat a0),0,()),()) else none
theorem DU (a0:LI)(a1:Bool):Io.run tt FI dr xE gd Tryz.f35 ((a0,a1,()),())=qt a0 a1:=by kernel_rfl
theorem GF:HcOk prog 35 (ah gd uc):=by
 refine bL (cs:=wC) (.cons Jm .nil) (lp:=xE) (fn:=Tryz.f35) gd (.done (by kernel_rfl)) uc ?_
 rintro ⟨⟨(b:LI),(packed:Bool),⟨⟩⟩,⟨⟩⟩ out hw ho
 obtain ⟨hg,ho⟩:=Tr.guard ho
 simp only[zA,zB] at hg
 have h1:61≤b.length:=hg.1
 have h2:b.length≤4294960000:=hg.2
 cases ho
 refine (DU b packed).trans ?_
 show _=oR (((aN b packed).1,(aN b packed).2,()),())
 unfold qt aN
 rw[zG,List.take_length,show Int.toNat 61=61 from rfl]
 refine bT (by simp only[zA,zB];omega) ?_
 cases packed with
 |true=>
  refine (ab rfl _ _).trans ?_
  refine bT (by simp;omega) ?_
  rfl
 |false=>
  refine (ac rfl _ _).trans ?_
  by_cases h3:32768<((b.drop 61).length:Int)
  ·refine bT (decide_eq_true h3) ?_
   rw[if_neg (by decide),if_pos h3]
  ·refine bF (decide_eq_false h3) ?_
   rw[if_neg (by decide),if_neg h3]
theorem HcOk.weakB {f:Nat}{io:Io}{Fn Fn':io.In→Tr io.Res}(h:HcOk prog f (ah io Fn))(hF:∀d y,io.wf d→(Fn' d).val=some y→(Fn d).val=some y):HcOk prog f (ah io Fn'):=by
 intro R args id A K r F G ts cst w vals hid hc Rl hv
 unfold ah at hc
 cases h1:py io.args args (List.replicate io.obs.length Option.none) with
 |none=>rw[h1] at hc;cases hc
 |some p=>
  obtain ⟨a,β1⟩:=p
  rw[h1] at hc
  simp only at hc
  cases h2:EB A.ob io.obs 0 β1 with
  |none=>rw[h2] at hc;cases hc
  |some q=>
   obtain ⟨o,β⟩:=q
   rw[h2] at hc
   simp only at hc
   have hn:=fun y=>hF (a,o) y ⟨vv h1 hv,Ag Rl.ob h2⟩
   refine h R args id A K r F G ts cst w vals hid ?_ Rl hv
   unfold ah
   rw[h1]
   simp only[h2]
   revert hc
   cases ba ((fe (cC 0) io.args args 0++jT A.ob β (j9 io.obs.length 0) io.obs 0).map (·.2))&&(ba ((fe (cC 0) io.args args 0++jT A.ob β (j9 io.obs.length 0) io.obs 0).map (·.1))&&io.ok) with
   |false=>intro hc;cases hc
   |true=>
    intro hc
    obtain ⟨out,ho,hk⟩:=Tr.run_val hc
    exact (Tr.run_of_val (hn out ho)).trans hk
@[irreducible] def aB (b:LI)(p:Int)(n:Nat):Int:=bR ((b.drop p.toNat).take n)
theorem iN (b:LI)(p n:Nat):aB b (p:Int) n=ap b p n:=by unfold aB ap;rw[zG]
def gJ (b:LI)(p n:Int):Bool:=decide (b.length≤4294960000)&&(decide (0≤p)&&decide (p+n≤(b.length:Int)))
theorem kJ {b:LI}{p n:Int}(h:gJ b p n=true):b.length≤4294960000∧0≤p∧p+n≤(b.length:Int):=by
 simpa [gJ] using h
abbrev u9:Io:=jk
def Kj (d:u9.In):Tr u9.Res:=
 .ite (gJ d.2.1.1 d.2.1.2.1 8) (.ret (.ret ((aB d.2.1.1 d.2.1.2.1 8,(0,())),((d.2.1.1,(d.2.1.2.1+8,())),())))) .no
theorem K6:HcOk prog 65 (ah u9 Kj):=by
 refine HcOk.weakB Jr ?_
 rintro ⟨⟨⟨⟩,⟨⟩⟩,⟨⟨(b:LI),(p:Int),⟨⟩⟩,⟨⟩⟩⟩ y hw hy
 obtain ⟨hg,hy⟩:=Tr.guard hy
 obtain ⟨h1,h2,h3⟩:=kJ (b:=b) (p:=p) (n:=8) hg
 rw[← hy]
 obtain ⟨p,rfl⟩:=au h2
 have hb:=cZ hw.2.1.1
 have hL:=ij (b:=b) (p:=p) (n:=8) (by omega)
 have hk:cr b p=true:=by unfold cr;simp only[zA,zB];omega
 have e:br b (p:Int) 8=(bu ((b.drop p).take 8),((p:Int)+8,0)):=by unfold br;rw[if_neg (by omega),zG];rfl
 have e2:i64.wrap (bu ((b.drop p).take 8))=aB b (p:Int) 8:=by rw[iN];exact J8 (ic hb p 8) hL
 show (uq (((),()),((b,((p:Int),())),()))).val=some (.ret ((aB b (p:Int) 8,(0,())),((b,((p:Int)+8,())),())))
 unfold uq
 rw[Tr.val_ite,if_pos hk,Tr.val_ret]
 show oR ((i64.wrap (br b (p:Int) 8).1,((br b (p:Int) 8).2.2,())),((b,((br b (p:Int) 8).2.1,())),()))=_
 rw[e,← e2]
abbrev uZ:Io:=gT
def Ki (d:uZ.In):Tr uZ.Res:=
 .ite (gJ d.2.1.1 d.2.1.2.1 4) (.ret (.ret ((aB d.2.1.1 d.2.1.2.1 4,(0,())),((d.2.1.1,(d.2.1.2.1+4,())),())))) .no
theorem K5:HcOk prog 60 (ah uZ Ki):=by
 refine HcOk.weakB CR ?_
 rintro ⟨⟨⟨⟩,⟨⟩⟩,⟨⟨(b:LI),(p:Int),⟨⟩⟩,⟨⟩⟩⟩ y hw hy
 obtain ⟨hg,hy⟩:=Tr.guard hy
 obtain ⟨h1,h2,h3⟩:=kJ (b:=b) (p:=p) (n:=4) hg
 rw[← hy]
 obtain ⟨p,rfl⟩:=au h2
 have hb:=cZ hw.2.1.1
 have hL:=ij (b:=b) (p:=p) (n:=4) (by omega)
 have hk:cr b p=true:=by unfold cr;simp only[zA,zB];omega
 have e:br b (p:Int) 4=(bu ((b.drop p).take 4),((p:Int)+4,0)):=by unfold br;rw[if_neg (by omega),zG];rfl
 have e2:i32.wrap (bu ((b.drop p).take 4))=aB b (p:Int) 4:=by rw[iN];exact p8 (ic hb p 4) hL
 show (qj (((),()),((b,((p:Int),())),()))).val=some (.ret ((aB b (p:Int) 4,(0,())),((b,((p:Int)+4,())),())))
 unfold qj
 rw[Tr.val_ite,if_pos hk,Tr.val_ret]
 show oR ((i32.wrap (br b (p:Int) 4).1,((br b (p:Int) 4).2.2,())),((b,((br b (p:Int) 4).2.1,())),()))=_
 rw[e,← e2]
abbrev uY:Io:=jj
def Kh (d:uY.In):Tr uY.Res:=
 .ite (gJ d.2.1.1 d.2.1.2.1 2) (.ret (.ret ((aB d.2.1.1 d.2.1.2.1 2,(0,())),((d.2.1.1,(d.2.1.2.1+2,())),())))) .no
theorem K4:HcOk prog 68 (ah uY Kh):=by
 refine HcOk.weakB Jq ?_
 rintro ⟨⟨⟨⟩,⟨⟩⟩,⟨⟨(b:LI),(p:Int),⟨⟩⟩,⟨⟩⟩⟩ y hw hy
 obtain ⟨hg,hy⟩:=Tr.guard hy
 obtain ⟨h1,h2,h3⟩:=kJ (b:=b) (p:=p) (n:=2) hg
 rw[← hy]
 obtain ⟨p,rfl⟩:=au h2
 have hb:=cZ hw.2.1.1
 have hL:=ij (b:=b) (p:=p) (n:=2) (by omega)
 have hk:cr b p=true:=by unfold cr;simp only[zA,zB];omega
 have e:br b (p:Int) 2=(bu ((b.drop p).take 2),((p:Int)+2,0)):=by unfold br;rw[if_neg (by omega),zG];rfl
 have e2:i16.wrap (bu ((b.drop p).take 2))=aB b (p:Int) 2:=by rw[iN];exact C5 (ic hb p 2) hL
 show (up (((),()),((b,((p:Int),())),()))).val=some (.ret ((aB b (p:Int) 2,(0,())),((b,((p:Int)+2,())),())))
 unfold up
 rw[Tr.val_ite,if_pos hk,Tr.val_ret]
 show oR ((i16.wrap (br b (p:Int) 2).1,((br b (p:Int) 2).2.2,())),((b,((br b (p:Int) 2).2.1,())),()))=_
 rw[e,← e2]
abbrev Ca:Io:=ma
def LV (d:Ca.In):Tr Ca.Res:=
 .ite (gJ d.2.1.1 d.2.1.2.1 1) (.ret (.ret ((aB d.2.1.1 d.2.1.2.1 1,(0,())),((d.2.1.1,(d.2.1.2.1+1,())),())))) .no
theorem Me:HcOk prog 67 (ah Ca LV):=by
 refine HcOk.weakB Lm ?_
 rintro ⟨⟨⟨⟩,⟨⟩⟩,⟨⟨(b:LI),(p:Int),⟨⟩⟩,⟨⟩⟩⟩ y hw hy
 obtain ⟨hg,hy⟩:=Tr.guard hy
 obtain ⟨h1,h2,h3⟩:=kJ (b:=b) (p:=p) (n:=1) hg
 rw[← hy]
 obtain ⟨p,rfl⟩:=au h2
 have hb:=cZ hw.2.1.1
 have hL:=ij (b:=b) (p:=p) (n:=1) (by omega)
 have hk:cr b p=true:=by unfold cr;simp only[zA,zB];omega
 have e:br b (p:Int) 1=(bu ((b.drop p).take 1),((p:Int)+1,0)):=by unfold br;rw[if_neg (by omega),zG];rfl
 have e2:i8.wrap (bu ((b.drop p).take 1))=aB b (p:Int) 1:=by rw[iN];exact LF (ic hb p 1) hL
 show (Ba (((),()),((b,((p:Int),())),()))).val=some (.ret ((aB b (p:Int) 1,(0,())),((b,((p:Int)+1,())),())))
 unfold Ba
 rw[Tr.val_ite,if_pos hk,Tr.val_ret]
 show oR ((i8.wrap (br b (p:Int) 1).1,((br b (p:Int) 1).2.2,())),((b,((br b (p:Int) 1).2.1,())),()))=_
 rw[e,← e2]
abbrev pR:Io:=gn
def EG (d:pR.In):Tr pR.Res:=
 .ite (gJ d.2.1.1 d.2.1.2.1 d.1.2.1&&decide (0≤d.1.2.1)) (.ret (.ret ((0,()),((d.2.1.1,(d.2.1.2.1+d.1.2.1,())),())))) .no
theorem Jj:HcOk prog 66 (ah pR EG):=by
 refine HcOk.weakB GW ?_
 rintro ⟨⟨⟨⟩,(n:Int),⟨⟩⟩,⟨⟨(b:LI),(p:Int),⟨⟩⟩,⟨⟩⟩⟩ y hw hy
 obtain ⟨hg,hy⟩:=Tr.guard hy
 simp only[zA,zB] at hg
 obtain ⟨h1,h2,h3⟩:=kJ (b:=b) (p:=p) (n:=n) hg.1
 have h4:0≤n:=hg.2
 rw[← hy]
 have hk:cr b p=true:=by unfold cr;simp only[zA,zB];omega
 have e:mz b p n=(p+n,0):=by unfold mz;rw[if_neg (by omega),if_neg (by omega)]
 show (pH (((),(n,())),((b,(p,())),()))).val=some (.ret ((0,()),((b,(p+n,())),())))
 unfold pH
 rw[Tr.val_ite,if_pos hk,Tr.val_ret]
 show oR (((mz b p n).2,()),((b,((mz b p n).1,())),()))=_
 rw[e]
def zh (a0:LI):Option (Out ((sk×Int×Unit)×Unit) Empty):=bif aS (aB (a0.take 61) 0 8) then oR (((0,0,0,false,0,0,0,0,0,0,()),80,()),()) else bif aB (a0.take 61) (0+8+4+4+1+4) 2 != 0&&!aB (a0.take 61) (0+8+4+4+1+4) 2 == 1 then oR (((0,0,0,false,0,0,0,0,0,0,()),83,()),()) else bif aG (aB (a0.take 61) (0+8+4+4+1+4+2+4+8+8) 8) (aB (a0.take 61) (0+8+4+4+1+4+2+4+8+8+8) 2) (aB (a0.take 61) (0+8+4+4+1+4+2+4+8+8+8+2) 4) then oR (((0,0,0,false,0,0,0,0,0,0,()),84,()),()) else bif decide (aB (a0.take 61) (0+8+4+4+1+4+2+4+8+8+8+2+4) 4<1) then oR (((0,0,0,false,0,0,0,0,0,0,()),85,()),()) else bif decide (256<aB (a0.take 61) (0+8+4+4+1+4+2+4+8+8+8+2+4) 4) then oR (((0,0,0,false,0,0,0,0,0,0,()),9,()),()) else bif aB (a0.take 61) (0+8+4+4+1+4+2) 4 != i32.wrap (aB (a0.take 61) (0+8+4+4+1+4+2+4+8+8+8+2+4) 4 - 1) then oR (((0,0,0,false,0,0,0,0,0,0,()),72,()),()) else bif (ay a0 0).2 != 0 then oR (((0,0,0,false,0,0,0,0,0,0,()),(ay a0 0).2,()),()) else oR (((aB (a0.take 61) 0 8,(ay a0 0).1,aB (a0.take 61) (0+8+4) 4,aB (a0.take 61) (0+8+4+4+1+4) 2 == 1,i64.wrap (aB (a0.take 61) (0+8+4+4+1+4+2+4+8+8+8+2+4) 4),aB (a0.take 61) (0+8+4+4+1+4+2+4) 8,aB (a0.take 61) (0+8+4+4+1+4+2+4+8) 8,aB (a0.take 61) (0+8+4+4+1+4+2+4+8+8) 8,aB (a0.take 61) (0+8+4+4+1+4+2+4+8+8+8) 2,aB (a0.take 61) (0+8+4+4+1+4+2+4+8+8+8+2) 4,()),0,()),())
theorem KB {b:LI}{p:Nat}(h:p<b.length):(b.drop p).take 1=[b.getD p 0]:=by
 rw[zE h,List.take_succ_cons,List.take_zero,aE h]
theorem Mq {b:LI}{p:Nat}(h:p+1<b.length):(b.drop p).take 2=[b.getD p 0,b.getD (p+1) 0]:=by
 rw[zE (show p<b.length by omega),List.take_succ_cons,KB h,aE (show p<b.length by omega)]
theorem Mk {b:LI}{p:Nat}(h:p<b.length):ap b p 1=if 128≤b.getD p 0 then b.getD p 0 - 256 else b.getD p 0:=by
 unfold ap;rw[KB h];rfl
theorem Ml {b:LI}{p:Nat}(h:p+1<b.length):ap b p 2=(if 128≤b.getD p 0 then b.getD p 0 - 256 else b.getD p 0)*256+b.getD (p+1) 0:=by
 unfold ap;rw[Mq h];rfl
theorem Ke:∀{l:LI},(∀c∈l,0≤c∧c≤255)→l.length=4→u32.wrap (bR l)=bu l
 |[a,b,c,d],h,_=>by
  have ha:=h a (by simp)
  have hb:=h b (by simp)
  have hc:=h c (by simp)
  have hd:=h d (by simp)
  simp only[bu,bR,List.foldl_cons,List.foldl_nil]
  simp[IntKind.wrap,IntKind.signed,IntKind.bits] <;> (try split) <;> omega
theorem Bj:∀{l:LI},(∀c∈l,0≤c∧c≤255)→l.length=4→∀{x:Int},0≤x→x<4294967296→(l=aF x 4↔bu l=x)
 |[a,b,c,d],h,_,x,h0,h1=>by
  have ha:=h a (by simp)
  have hb:=h b (by simp)
  have hc:=h c (by simp)
  have hd:=h d (by simp)
  simp only[bu,aF,List.foldl_cons,List.foldl_nil,List.cons.injEq,and_true]
  constructor
  ·rintro ⟨rfl,rfl,rfl,rfl⟩
   omega
  ·intro h
   omega
theorem yw (c:Int){b:LI}(hc:0≤c∧c<4294967296)(hb:∀x∈b,0≤x∧x≤255):0≤cy c b∧cy c b<4294967296:=by
 unfold cy
 have h1:=Nat.xor_lt_two_pow (n:=32) (show c.toNat<2 ^ 32 by omega) (show 4294967295<2 ^ 32 by decide)
 have h2:=Nat.xor_lt_two_pow (n:=32) (pK hb h1) (show 4294967295<2 ^ 32 by decide)
 omega
theorem tZ {b:LI}{p:Int}(h:(ay b p).2=0):61≤(ay b p).1∧(ay b p).1≤36000∧p+(ay b p).1≤(b.length:Int)∧0≤p:=by
 unfold ay at h ⊢
 split
 ·rename_i h1;rw[if_pos h1] at h;cases h
 rename_i h1;rw[if_neg h1] at h
 split
 ·rename_i h2;rw[if_pos h2] at h;cases h
 rename_i h2;rw[if_neg h2] at h
 split
 ·rename_i h3;rw[if_pos h3] at h;cases h
 rename_i h3;rw[if_neg h3] at h
 split
 ·rename_i h4;rw[if_pos h4] at h;cases h
 rename_i h4;rw[if_neg h4] at h
 split
 ·rename_i h5;rw[if_pos h5] at h;cases h
 simp only
 omega
theorem Dd {b:LI}(hb:∀c∈b,0≤c∧c≤255)(hl:61≤b.length)(h0:(ay b 0).2=0)(h1:¬(ay b 0).1<(b.length:Int)):
  zh b=some (.ret ((if aS (ap b 0 8)=true then (aW,(80,())) else if b.getD 21 0≠0∨1<b.getD 22 0 then (aW,(83,())) else if aG (ap b 43 8) (ap b 51 2) (ap b 53 4)=true then (aW,(84,())) else if ap b 57 4<1 then (aW,(85,())) else if 256<ap b 57 4 then (aW,(9,())) else if ap b 23 4≠ap b 57 4 - 1 then (aW,(72,())) else (gC b,(0,()))),())):=by
 have hz:∀p n:Nat,p+n≤61→aB (b.take 61) (p:Int) n=ap b p n:=by
  intro p n h
  rw[iN]
  unfold ap
  rw[List.drop_take,List.take_take,Nat.min_eq_left (by omega)]
 have z0:aB (b.take 61) 0 8=ap b 0 8:=hz 0 8 (by decide)
 have z12:aB (b.take 61) (0+8+4) 4=ap b 12 4:=hz 12 4 (by decide)
 have z21:aB (b.take 61) (0+8+4+4+1+4) 2=ap b 21 2:=hz 21 2 (by decide)
 have z23:aB (b.take 61) (0+8+4+4+1+4+2) 4=ap b 23 4:=hz 23 4 (by decide)
 have z27:aB (b.take 61) (0+8+4+4+1+4+2+4) 8=ap b 27 8:=hz 27 8 (by decide)
 have z35:aB (b.take 61) (0+8+4+4+1+4+2+4+8) 8=ap b 35 8:=hz 35 8 (by decide)
 have z43:aB (b.take 61) (0+8+4+4+1+4+2+4+8+8) 8=ap b 43 8:=hz 43 8 (by decide)
 have z51:aB (b.take 61) (0+8+4+4+1+4+2+4+8+8+8) 2=ap b 51 2:=hz 51 2 (by decide)
 have z53:aB (b.take 61) (0+8+4+4+1+4+2+4+8+8+8+2) 4=ap b 53 4:=hz 53 4 (by decide)
 have z57:aB (b.take 61) (0+8+4+4+1+4+2+4+8+8+8+2+4) 4=ap b 57 4:=hz 57 4 (by decide)
 have a21:=Ml (b:=b) (p:=21) (by omega)
 have hat:∀i,0≤b.getD i 0∧b.getD i 0≤255:=fun i=>by
  rw[List.getD_eq_getElem?_getD]
  cases e:b[i]? with
  |none=>exact ⟨by decide,by decide⟩
  |some x=>exact hb x (List.mem_of_getElem? e)
 have g21:=hat 21
 have g22:=hat 22
 have hm:=tZ h0
 have hsz:(ay b 0).1=(b.length:Int):=by omega
 unfold zh
 rw[z0,z12,z21,z23,z27,z35,z43,z51,z53,z57,h0,hsz]
 have hI:gC b=(ap b 0 8,(b.length:Int),ap b 12 4,decide (b.getD 22 0=1),ap b 57 4,ap b 27 8,ap b 35 8,ap b 43 8,ap b 51 2,ap b 53 4,()):=rfl
 rw[hI,a21]
 generalize b.getD 21 0=x at *
 generalize b.getD (21+1) 0=y at *
 generalize ap b 0 8=base at *
 generalize ap b 57 4=cnt at *
 generalize ap b 23 4=mst at *
 cases c1:aS base with
 |true=>exact (ab rfl _ _)
 |false=>
 refine (ac rfl _ _).trans ?_
 rw[if_neg (show ¬ false=true by decide)]
 by_cases c2:x≠0∨1<y
 ·refine (ab ?_ _ _).trans ?_
  ·simp only[zA,Bool.not_eq_true',bne_iff_ne,beq_eq_false_iff_ne]
   split <;> omega
  ·rw[if_pos c2]
   rfl
 refine (ac ?_ _ _).trans ?_
 ·by_cases hy:y=0
  ·rw[show (if 128≤x then x - 256 else x)*256+y=0 by rw[if_neg (by omega)];omega]
   rfl
  ·rw[show (if 128≤x then x - 256 else x)*256+y=1 by rw[if_neg (by omega)];omega]
   rfl
 rw[if_neg c2]
 have hx:x=0:=by omega
 have hxy:((if 128≤x then x - 256 else x)*256+y == 1)=decide (y=1):=by
  subst hx
  rw[if_neg (by decide),show (0:Int)*256+y=y by omega]
  by_cases h:y=1 <;> simp[h]
 rw[hxy]
 cases c3:aG (ap b 43 8) (ap b 51 2) (ap b 53 4) with
 |true=>exact (ab rfl _ _)
 |false=>
 refine (ac rfl _ _).trans ?_
 rw[if_neg (show ¬ false=true by decide)]
 by_cases c4:cnt<1
 ·refine bT (decide_eq_true c4) ?_
  rw[if_pos c4]
  rfl
 refine bF (decide_eq_false c4) ?_
 rw[if_neg c4]
 by_cases c5:256<cnt
 ·refine bT (decide_eq_true c5) ?_
  rw[if_pos c5]
  rfl
 refine bF (decide_eq_false c5) ?_
 rw[if_neg c5,bA (k:=.i32) (n:=cnt - 1) (by simp[bh,IntKind.min,IntKind.max,IntKind.signed,IntKind.bits];omega),af (n:=cnt) (by omega) (by omega)]
 by_cases c6:mst=cnt - 1
 ·refine bF (by simpa using c6) ?_
  rw[if_neg (aD c6)]
  exact ac rfl _ _
 ·refine bT (by simpa using c6) ?_
  rw[if_pos c6]
  rfl
abbrev gN:Io:=⟨[dL,dB],[],[],[Fv,dI],none⟩
def yP (d:gN.In):Tr gN.Res:=.ite (decide (d.1.1.length≤4294960000)) (.ret (.ret (((ai d.1.1 d.1.2.1).1,(ai d.1.1 d.1.2.1).2,()),()))) .no
abbrev Bp:List (Nat×Hc):=[(24,ah ja yQ),(59,ah gU ur),(65,ah u9 Kj),(66,ah pR EG),(60,ah uZ Ki),(67,ah Ca LV),(68,ah uY Kh),(54,ah gQ uj),(64,ah gM ua),(69,ah fK ug)]
def II:Hd:=bt Bp
def Cf:Lp:=bG []
def sA (a0:LI)(a1:Bool):Option gN.Res:=bif decide ((↑a0.length:Int)<61) then oR (((0,0,0,false,0,0,0,0,0,0,()),1,()),()) else bif decide (a0.length≤4294960000) then bif (ay a0 0).2 != 0 then oR (((0,0,0,false,0,0,0,0,0,0,()),(ay a0 0).2,()),()) else bif decide ((ay a0 0).1<(↑a0.length:Int)) then oR (((0,0,0,false,0,0,0,0,0,0,()),2,()),()) else bif decide (0≤0)&&(decide (0≤61)&&decide (61≤(↑a0.length:Int))) then bif decide ((List.drop (Int.toNat 0) (List.take (Int.toNat 61) a0)).length≤4294967296) then bif gJ (List.drop (Int.toNat 0) (List.take (Int.toNat 61) a0)) 0 8 then bif gJ (List.drop (Int.toNat 0) (List.take (Int.toNat 61) a0)) (0+8) 4&&decide (0≤4) then bif gJ (List.drop (Int.toNat 0) (List.take (Int.toNat 61) a0)) (0+8+4) 4 then bif gJ (List.drop (Int.toNat 0) (List.take (Int.toNat 61) a0)) (0+8+4+4) 1 then bif gJ (List.drop (Int.toNat 0) (List.take (Int.toNat 61) a0)) (0+8+4+4+1) 4 then bif gJ (List.drop (Int.toNat 0) (List.take (Int.toNat 61) a0)) (0+8+4+4+1+4) 2 then bif gJ (List.drop (Int.toNat 0) (List.take (Int.toNat 61) a0)) (0+8+4+4+1+4+2) 4 then bif gJ (List.drop (Int.toNat 0) (List.take (Int.toNat 61) a0)) (0+8+4+4+1+4+2+4) 8 then bif gJ (List.drop (Int.toNat 0) (List.take (Int.toNat 61) a0)) (0+8+4+4+1+4+2+4+8) 8 then bif gJ (List.drop (Int.toNat 0) (List.take (Int.toNat 61) a0)) (0+8+4+4+1+4+2+4+8+8) 8 then bif gJ (List.drop (Int.toNat 0) (List.take (Int.toNat 61) a0)) (0+8+4+4+1+4+2+4+8+8+8) 2 then bif gJ (List.drop (Int.toNat 0) (List.take (Int.toNat 61) a0)) (0+8+4+4+1+4+2+4+8+8+8+2) 4 then bif gJ (List.drop (Int.toNat 0) (List.take (Int.toNat 61) a0)) (0+8+4+4+1+4+2+4+8+8+8+2+4) 4 then bif aB (List.drop (Int.toNat 0) (List.take (Int.toNat 61) a0)) (0+8+4+4) 1 != 2 then oR (((0,0,0,false,0,0,0,0,0,0,()),81,()),()) else bif a1 then bif decide (0≤21)&&(decide (21≤(↑a0.length:Int))&&decide ((↑a0.length:Int)≤(↑a0.length:Int))) then bif u32.wrap (aB (List.drop (Int.toNat 0) (List.take (Int.toNat 61) a0)) (0+8+4+4+1) 4) != oC [List.drop (Int.toNat 21) (List.take (↑a0.length:Int).toNat a0)] 0 then oR (((0,0,0,false,0,0,0,0,0,0,()),82,()),()) else bif aS (aB (List.drop (Int.toNat 0) (List.take (Int.toNat 61) a0)) 0 8) then oR (((0,0,0,false,0,0,0,0,0,0,()),80,()),()) else bif aB (List.drop (Int.toNat 0) (List.take (Int.toNat 61) a0)) (0+8+4+4+1+4) 2 != 0&&!aB (List.drop (Int.toNat 0) (List.take (Int.toNat 61) a0)) (0+8+4+4+1+4) 2 == 1 then oR (((0,0,0,false,0,0,0,0,0,0,()),83,()),()) else bif aG (aB (List.drop (Int.toNat 0) (List.take (Int.toNat 61) a0)) (0+8+4+4+1+4+2+4+8+8) 8) (aB (List.drop (Int.toNat 0) (List.take (Int.toNat 61) a0)) (0+8+4+4+1+4+2+4+8+8+8) 2) (aB (List.drop (Int.toNat 0) (List.take (Int.toNat 61) a0)) (0+8+4+4+1+4+2+4+8+8+8+2) 4) then oR (((0,0,0,false,0,0,0,0,0,0,()),84,()),()) else bif decide (aB (List.drop (Int.toNat 0) (List.take (Int.toNat 61) a0)) (0+8+4+4+1+4+2+4+8+8+8+2+4) 4<1) then oR (((0,0,0,false,0,0,0,0,0,0,()),85,()),()) else bif decide (256<aB (List.drop (Int.toNat 0) (List.take (Int.toNat 61) a0)) (0+8+4+4+1+4+2+4+8+8+8+2+4) 4) then oR (((0,0,0,false,0,0,0,0,0,0,()),9,()),()) else bif aB (List.drop (Int.toNat 0) (List.take (Int.toNat 61) a0)) (0+8+4+4+1+4+2) 4 != i32.wrap (aB (List.drop (Int.toNat 0) (List.take (Int.toNat 61) a0)) (0+8+4+4+1+4+2+4+8+8+8+2+4) 4 - 1) then oR (((0,0,0,false,0,0,0,0,0,0,()),72,()),()) else bif (ay a0 0).2 != 0 then oR (((0,0,0,false,0,0,0,0,0,0,()),(ay a0 0).2,()),()) else oR (((aB (List.drop (Int.toNat 0) (List.take (Int.toNat 61) a0)) 0 8,(ay a0 0).1,aB (List.drop (Int.toNat 0) (List.take (Int.toNat 61) a0)) (0+8+4) 4,aB (List.drop (Int.toNat 0) (List.take (Int.toNat 61) a0)) (0+8+4+4+1+4) 2 == 1,i64.wrap (aB (List.drop (Int.toNat 0) (List.take (Int.toNat 61) a0)) (0+8+4+4+1+4+2+4+8+8+8+2+4) 4),aB (List.drop (Int.toNat 0) (List.take (Int.toNat 61) a0)) (0+8+4+4+1+4+2+4) 8,aB (List.drop (Int.toNat 0) (List.take (Int.toNat 61) a0)) (0+8+4+4+1+4+2+4+8) 8,aB (List.drop (Int.toNat 0) (List.take (Int.toNat 61) a0)) (0+8+4+4+1+4+2+4+8+8) 8,aB (List.drop (Int.toNat 0) (List.take (Int.toNat 61) a0)) (0+8+4+4+1+4+2+4+8+8+8) 2,aB (List.drop (Int.toNat 0) (List.take (Int.toNat 61) a0)) (0+8+4+4+1+4+2+4+8+8+8+2) 4,()),0,()),()) else none else bif aS (aB (List.drop (Int.toNat 0) (List.take (Int.toNat 61) a0)) 0 8) then oR (((0,0,0,false,0,0,0,0,0,0,()),80,()),()) else bif aB (List.drop (Int.toNat 0) (List.take (Int.toNat 61) a0)) (0+8+4+4+1+4) 2 != 0&&!aB (List.drop (Int.toNat 0) (List.take (Int.toNat 61) a0)) (0+8+4+4+1+4) 2 == 1 then oR (((0,0,0,false,0,0,0,0,0,0,()),83,()),()) else bif aG (aB (List.drop (Int.toNat 0) (List.take (Int.toNat 61) a0)) (0+8+4+4+1+4+2+4+8+8) 8) (aB (List.drop (Int.toNat 0) (List.take (Int.toNat 61) a0)) (0+8+4+4+1+4+2+4+8+8+8) 2) (aB (List.drop (Int.toNat 0) (List.take (Int.toNat 61) a0)) (0+8+4+4+1+4+2+4+8+8+8+2) 4) then oR (((0,0,0,false,0,0,0,0,0,0,()),84,()),()) else bif decide (aB (List.drop (Int.toNat 0) (List.take (Int.toNat 61) a0)) (0+8+4+4+1+4+2+4+8+8+8+2+4) 4<1) then oR (((0,0,0,false,0,0,0,0,0,0,()),85,()),()) else bif decide (256<aB (List.drop (Int.toNat 0) (List.take (Int.toNat 61) a0)) (0+8+4+4+1+4+2+4+8+8+8+2+4) 4) then oR (((0,0,0,false,0,0,0,0,0,0,()),9,()),()) else bif aB (List.drop (Int.toNat 0) (List.take (Int.toNat 61) a0)) (0+8+4+4+1+4+2) 4 != i32.wrap (aB (List.drop (Int.toNat 0) (List.take (Int.toNat 61) a0)) (0+8+4+4+1+4+2+4+8+8+8+2+4) 4 - 1) then oR (((0,0,0,false,0,0,0,0,0,0,()),72,()),()) else bif (ay a0 0).2 != 0 then oR (((0,0,0,false,0,0,0,0,0,0,()),(ay a0 0).2,()),()) else oR (((aB (List.drop (Int.toNat 0) (List.take (Int.toNat 61) a0)) 0 8,(ay a0 0).1,aB (List.drop (Int.toNat 0) (List.take (Int.toNat 61) a0)) (0+8+4) 4,aB (List.drop (Int.toNat 0) (List.take (Int.toNat 61) a0)) (0+8+4+4+1+4) 2 == 1,i64.wrap (aB (List.drop (Int.toNat 0) (List.take (Int.toNat 61) a0)) (0+8+4+4+1+4+2+4+8+8+8+2+4) 4),aB (List.drop (Int.toNat 0) (List.take (Int.toNat 61) a0)) (0+8+4+4+1+4+2+4) 8,aB (List.drop (Int.toNat 0) (List.take (Int.toNat 61) a0)) (0+8+4+4+1+4+2+4+8) 8,aB (List.drop (Int.toNat 0) (List.take (Int.toNat 61) a0)) (0+8+4+4+1+4+2+4+8+8) 8,aB (List.drop (Int.toNat 0) (List.take (Int.toNat 61) a0)) (0+8+4+4+1+4+2+4+8+8+8) 2,aB (List.drop (Int.toNat 0) (List.take (Int.toNat 61) a0)) (0+8+4+4+1+4+2+4+8+8+8+2) 4,()),0,()),()) else none else none else none else none else none else none else none else none else none else none else none else none else none else none else none else none
theorem Hb (a0:LI)(a1:Bool):Io.run tt II MY Cf gN Tryz.f34 ((a0,a1,()),())=sA a0 a1:=by kernel_rfl
theorem Jg:HcOk prog 34 (ah gN yP):=by
 refine Dp (n:=400) hm (cs:=Bp) (.cons Jh (.cons CS (.cons K6 (.cons Jj (.cons K5 (.cons Me (.cons K4 (.cons CN (.cons CJ (.cons CL .nil)))))))))) (lp:=Cf) (fn:=Tryz.f34) (by kernel_rfl) (by kernel_rfl) (by kernel_rfl) gN (.done (by kernel_rfl)) yP ?_
 rintro ⟨⟨(b:LI),(sm:Bool),⟨⟩⟩,⟨⟩⟩ out hw ho
 obtain ⟨hg,ho⟩:=Tr.guard ho
 have hg2:b.length≤4294960000:=of_decide_eq_true hg
 clear hg
 cases ho
 have hb:∀c∈b,0≤c∧c≤255:=cZ hw.1.1
 refine (Hb b sm).trans ?_
 show _=oR (((ai b sm).1,(ai b sm).2,()),())
 have eE:aU b sm=if (b.length:Int)<61 then 1 else if (ay b 0).2≠0 then (ay b 0).2 else if (ay b 0).1<(b.length:Int) then 2 else if b.getD 16 0≠2 then 81 else if sm=true∧fP b=false then 82
   else if aS (ap b 0 8)=true then 80 else if b.getD 21 0≠0∨1<b.getD 22 0 then 83 else if aG (ap b 43 8) (ap b 51 2) (ap b 53 4)=true then 84 else if ap b 57 4<1 then 85 else if 256<ap b 57 4 then 9 else if ap b 23 4≠ap b 57 4 - 1 then 72 else 0:=rfl
 have fin:∀e:Int,e≠0→aU b sm=e→some (Out.ret ((aW,(e,())),()):gN.Res)=oR (((ai b sm).1,(ai b sm).2,()),()):=by
  intro e he h
  have:ai b sm=(aW,e):=by unfold ai;rw[h,if_pos he]
  rw[this]
 unfold sA
 by_cases h1:(b.length:Int)<61
 ·refine bT (decide_eq_true h1) ?_
  exact fin 1 (by decide) (by rw[eE,if_pos h1])
 refine bF (decide_eq_false h1) ?_
 rw[if_neg h1] at eE
 refine bT (decide_eq_true hg2) ?_
 by_cases h2:(ay b 0).2=0
 rotate_left
 ·refine bT (by simpa using h2) ?_
  exact fin _ h2 (by rw[eE,if_pos h2])
 refine bF (by simpa using h2) ?_
 rw[if_neg (aD h2)] at eE
 by_cases h3:(ay b 0).1<(b.length:Int)
 ·refine bT (decide_eq_true h3) ?_
  exact fin 2 (by decide) (by rw[eE,if_pos h3])
 refine bF (decide_eq_false h3) ?_
 rw[if_neg h3] at eE
 have hH:(List.drop (Int.toNat 0) (List.take (Int.toNat 61) b))=b.take 61:=rfl
 have hHl:(b.take 61).length=61:=by simp;omega
 rw[hH]
 refine bT (by simp only[zA,zB];omega) ?_
 refine bT (by rw[hHl];decide) ?_
 have rm:∀p n:Int,0≤p→p+n≤61→gJ (b.take 61) p n=true:=by
  intro p n g1 g2
  unfold gJ
  simp only[hHl,zA,zB]
  omega
 refine (ab (rm 0 8 (by decide) (by decide)) _ _).trans ?_
 refine bT (by rw[rm (0+8) 4 (by decide) (by decide)];rfl) ?_
 refine (ab (rm (0+8+4) 4 (by decide) (by decide)) _ _).trans ?_
 refine (ab (rm (0+8+4+4) 1 (by decide) (by decide)) _ _).trans ?_
 refine (ab (rm (0+8+4+4+1) 4 (by decide) (by decide)) _ _).trans ?_
 refine (ab (rm (0+8+4+4+1+4) 2 (by decide) (by decide)) _ _).trans ?_
 refine (ab (rm (0+8+4+4+1+4+2) 4 (by decide) (by decide)) _ _).trans ?_
 refine (ab (rm (0+8+4+4+1+4+2+4) 8 (by decide) (by decide)) _ _).trans ?_
 refine (ab (rm (0+8+4+4+1+4+2+4+8) 8 (by decide) (by decide)) _ _).trans ?_
 refine (ab (rm (0+8+4+4+1+4+2+4+8+8) 8 (by decide) (by decide)) _ _).trans ?_
 refine (ab (rm (0+8+4+4+1+4+2+4+8+8+8) 2 (by decide) (by decide)) _ _).trans ?_
 refine (ab (rm (0+8+4+4+1+4+2+4+8+8+8+2) 4 (by decide) (by decide)) _ _).trans ?_
 refine (ab (rm (0+8+4+4+1+4+2+4+8+8+8+2+4) 4 (by decide) (by decide)) _ _).trans ?_
 have hz:∀p n:Nat,p+n≤61→aB (b.take 61) (p:Int) n=ap b p n:=by
  intro p n h
  rw[iN]
  unfold ap
  rw[List.drop_take,List.take_take,Nat.min_eq_left (by omega)]
 have z16:aB (b.take 61) (0+8+4+4) 1=ap b 16 1:=hz 16 1 (by decide)
 have z17:aB (b.take 61) (0+8+4+4+1) 4=ap b 17 4:=hz 17 4 (by decide)
 have a16:=Mk (b:=b) (p:=16) (by omega)
 have c16:=qJ hw.1.1 16
 rw[z16,a16]
 by_cases h4:b.getD 16 0=2
 rotate_left
 ·refine bT (by simp only[bne_iff_ne];have c16:0≤b.getD 16 0∧b.getD 16 0≤255:=c16;split <;> omega) ?_
  exact fin 81 (by decide) (by rw[eE,if_pos h4])
 refine bF (by rw[h4];rfl) ?_
 rw[if_neg (aD h4)] at eE
 have hT:=Dd hb (by omega) h2 h3
 have fin2:¬(sm=true∧fP b=false)→zh b=oR (((ai b sm).1,(ai b sm).2,()),()):=by
  intro hn
  rw[if_neg hn] at eE
  rw[hT]
  have hs:ai b sm=if aU b sm≠0 then (aW,aU b sm) else (gC b,0):=rfl
  rw[hs,eE]
  by_cases d1:aS (ap b 0 8)=true
  ·rw[if_pos d1,if_pos d1,if_pos (by decide)]
  rw[if_neg d1,if_neg d1]
  by_cases d2:b.getD 21 0≠0∨1<b.getD 22 0
  ·rw[if_pos d2,if_pos d2,if_pos (by decide)]
  rw[if_neg d2,if_neg d2]
  by_cases d3:aG (ap b 43 8) (ap b 51 2) (ap b 53 4)=true
  ·rw[if_pos d3,if_pos d3,if_pos (by decide)]
  rw[if_neg d3,if_neg d3]
  by_cases d4:ap b 57 4<1
  ·rw[if_pos d4,if_pos d4,if_pos (by decide)]
  rw[if_neg d4,if_neg d4]
  by_cases d5:256<ap b 57 4
  ·rw[if_pos d5,if_pos d5,if_pos (by decide)]
  rw[if_neg d5,if_neg d5]
  by_cases d6:ap b 23 4≠ap b 57 4 - 1
  ·rw[if_pos d6,if_pos d6,if_pos (by decide)]
  rw[if_neg d6,if_neg d6,if_neg (by decide)]
 cases sm with
 |false=>
  refine (ac rfl _ _).trans ?_
  exact fin2 (fun h=>by cases h.1)
 |true=>
  refine (ab rfl _ _).trans ?_
  rw[zG,List.take_length,show Int.toNat 21=21 from rfl]
  refine bT (by simp only[zA,zB];omega) ?_
  rw[z17]
  have hL:=ij (b:=b) (p:=17) (n:=4) (by omega)
  have hLr:=ic hb 17 4
  have hcr:=yw 0 (by decide) (b:=b.drop 21) (fun c hc=>hb c (List.mem_of_mem_drop hc))
  have hS:fP b=decide (bu ((b.drop 17).take 4)=cy 0 (b.drop 21)):=by
   unfold fP
   by_cases h:(b.drop 17).take 4=aF (cy 0 (b.drop 21)) 4
   ·rw[if_pos h,decide_eq_true ((Bj hLr hL hcr.1 hcr.2).1 h)]
   ·rw[if_neg h,decide_eq_false (fun h'=>h ((Bj hLr hL hcr.1 hcr.2).2 h'))]
  have hw17:u32.wrap (ap b 17 4)=bu ((b.drop 17).take 4):=Ke hLr hL
  rw[hw17]
  by_cases h5:bu ((b.drop 17).take 4)=cy 0 (b.drop 21)
  ·refine bF (by show (bu ((b.drop 17).take 4) != cy 0 (b.drop 21))=false;simp[h5]) ?_
   exact fin2 (fun h=>by rw[hS,decide_eq_true h5] at h;cases h.2)
  ·refine bT (by show (bu ((b.drop 17).take 4) != cy 0 (b.drop 21))=true;simp[h5]) ?_
   exact fin 82 (by decide) (by rw[eE,if_pos ⟨rfl,by rw[hS,decide_eq_false h5]⟩])
abbrev i0:Io:=⟨[dL],[],[],[wU,dI],none⟩
def A4 (d:i0.In):Tr i0.Res:=.ite (decide (d.1.1.length≤4294960000)) (.ret (.ret (((bf d.1.1).1,(bf d.1.1).2,()),()))) .no
abbrev E8:List (Nat×Hc):=[(34,ah gN yP),(35,ah gd uc),(36,ah lV EH),(37,ah eQ qe),(38,ah gO uf)]
def FJ:Hd:=bt E8
abbrev cU:Lo:=⟨⟨(bz (.one (.ptr 2 0)::.any::.one (.ptr 4 0)::.any::.one (.hol (.sl 5 (Ty.int u8)))::.one (.ptr 7 0)::.one hI::.any::al (al (cj (.one hI::.one hI::al (al (dC (cj (bz []))))))))),[none,none,some [hI,hJ,hI,hK,hJ,.onl 49 aV 1036],none,some [hI,hI,hJ,hL,hI,hI,hI,hI,hK,hJ],none,none,some [hI,hJ,hI,hK,hJ,.onl 49 aV 3596]]⟩,[(.ret,⟨(bz (.one (.ptr 2 0)::.one hI::al (al (al (al (al (dC (bz [])))))))),[none,none,some [hI,hJ,hI,hK,hJ,.onl 49 aV 129]]⟩),(.ret,⟨(bz (.one (.ptr 2 0)::.one hI::al (al (al (al (al (dC (bz [])))))))),[none,none,some [hI,hJ,hI,hK,hJ,.onl 49 aV 153]]⟩),(.exit 0,⟨(bz (.one (.ptr 2 0)::.any::.one (.ptr 4 0)::.any::.one (.hol (.sl 5 (Ty.int u8)))::.one (.ptr 7 0)::.one hI::.any::al (al (al (al (al (cj []))))))),[none,none,some [hI,hJ,hI,hK,hJ,.onl 49 aV 1036],none,some [hI,hI,hJ,hL,hI,hI,hI,hI,hK,hJ],none,none,some [hI,hJ,hI,hK,hJ,.onl 49 aV 3596]]⟩)]⟩
def LO:fF:=(0,(0,(0,(0,(0,([],()))))))
def jG (blk:LI)(f:Int):Nat→Nat→Int→List bn→Int×Int×Int×List bn
 |0,_,p,out=>(0,0,p,out)
 |n+1,i,p,out=>
  if (am blk p).2.2≠0 then ((am blk p).2.2,0,0,[])
  else if (bd (am blk p).1 (i:Int) f).2≠0 then (0,(bd (am blk p).1 (i:Int) f).2,0,[])
  else jG blk f n (i+1) (am blk p).2.1 (out++[(bd (am blk p).1 (i:Int) f).1])
def Bi (blk:LI)(z:fF)(info:sk)(b1 b2 b3 b4 b5:Int)(x:Int×Int×Int×List bn):Tr (ao cU.xs):=
 .ite (decide (x.1≠0)) (.ret (.ret ((),((x.1,()),(LO,())))))
  (.ite (decide (x.2.1≠0)) (.ret (.pan (.ret ((),((x.2.1,()),(LO,()))))))
   (.ret (.pan (.pan (.ret ((),((blk,(x.2.2.1,())),(z,(info,((b1,(b2,(b3,(b4,(b5,(x.2.2.2,())))))),()))))))))))
def qd (d:cU.st.den):Tr (ao cU.xs):=
 .ite (decide (d.1.2.2.2.1=0)&&(decide (d.2.2.2.1.2.2.2.2.2.1.length=0)&&(decide ((0:Int)≤d.1.2.2.1)&&decide (d.1.2.2.1≤(4294960000:Int)))))
  (Bi d.1.1 d.2.1 d.2.2.1 d.2.2.2.1.1 d.2.2.2.1.2.1 d.2.2.2.1.2.2.1 d.2.2.2.1.2.2.2.1 d.2.2.2.1.2.2.2.2.1 (jG d.1.1 d.2.2.1.2.2.2.2.2.1 d.1.2.2.1.toNat 0 d.1.2.1 [])) .no
def vn:Lp:=bG [(11,aI cU qd)]
def kK {R:Type}(h1:LI)(h2 h3 h4 h5 h6 h7 h8 h9:Int)(h10:List aV.den)(h11 h12 h13:Int)(h14:Bool)(h15 h16 h17 h18 h19 h20 h21 h22 h23 h24 h25:Int)(h26:List aV.den)(next:LI→Int→Int→Int→Int→Int→Int→Int→Int→List aV.den→Int→Int→Int→Bool→Int→Int→Int→Int→Int→Int→Int→Int→Int→Int→Int→List aV.den→Option R)(out:ao cU.xs→Option R):Option R:=bif decide (h4<h3) then bif (am h1 h2).2.2 != 0 then out (.ret ((),(((am h1 h2).2.2,()),((0,(0,(0,(0,(0,([],())))))),())))) else bif (bd (am h1 h2).1 h4 h16).2 != 0 then out (.pan (.ret ((),(((bd (am h1 h2).1 h4 h16).2,()),((0,(0,(0,(0,(0,([],())))))),()))))) else bif decide (h26.length+1≤4294967296) then next (h1) ((am h1 h2).2.1) (h3) (i64.wrap (h4+1)) (h5) (h6) (h7) (h8) (h9) (h10) (h11) (h12) (h13) (h14) (h15) (h16) (h17) (h18) (h19) (h20) (h21) (h22) (h23) (h24) (h25) (h26++[(bd (am h1 h2).1 h4 h16).1]) else none else out (.pan (.pan (.ret ((),((h1,(h2,())),((h5,(h6,(h7,(h8,(h9,(h10,())))))),((h11,(h12,(h13,(h14,(h15,(h16,(h17,(h18,(h19,(h20,())))))))))),((h21,(h22,(h23,(h24,(h25,(h26,())))))),()))))))))
def n8 (n:Nat)(h1:LI)(h2 h3 h4 h5 h6 h7 h8 h9:Int)(h10:List aV.den)(h11 h12 h13:Int)(h14:Bool)(h15 h16 h17 h18 h19 h20 h21 h22 h23 h24 h25:Int)(h26:List aV.den):Option (ao cU.xs):=iI tt FJ dr vn 0 Tryz.f12 (cR Tryz.f12 0) n (cU.st.mk' ((h1,(h2,(h3,(h4,())))),((h5,(h6,(h7,(h8,(h9,(h10,())))))),((h11,(h12,(h13,(h14,(h15,(h16,(h17,(h18,(h19,(h20,())))))))))),((h21,(h22,(h23,(h24,(h25,(h26,())))))),()))))) (bS cU.xs)
theorem tT (n:Nat)(h1:LI)(h2 h3 h4 h5 h6 h7 h8 h9:Int)(h10:List aV.den)(h11 h12 h13:Int)(h14:Bool)(h15 h16 h17 h18 h19 h20 h21 h22 h23 h24 h25:Int)(h26:List aV.den):n8 (n+1) h1 h2 h3 h4 h5 h6 h7 h8 h9 h10 h11 h12 h13 h14 h15 h16 h17 h18 h19 h20 h21 h22 h23 h24 h25 h26=kK h1 h2 h3 h4 h5 h6 h7 h8 h9 h10 h11 h12 h13 h14 h15 h16 h17 h18 h19 h20 h21 h22 h23 h24 h25 h26 (n8 n) some:=by kernel_rfl
theorem xp (blk:LI)(z1 z2 z3 z4 z5:Int)(z6:List bn)(i1 i2 i3:Int)(i4:Bool)(i5 i6 i7 i8 i9 i10 b1 b2 b3 b4 b5:Int):∀(n k i:Nat) (p:Int) (out:List bn),n<k→out.length=i→i+n≤4294960000→
  n8 k blk p ((i+n:Nat):Int) i z1 z2 z3 z4 z5 z6 i1 i2 i3 i4 i5 i6 i7 i8 i9 i10 b1 b2 b3 b4 b5 out=(Bi blk (z1,z2,z3,z4,z5,z6,()) (i1,i2,i3,i4,i5,i6,i7,i8,i9,i10,()) b1 b2 b3 b4 b5 (jG blk i6 n i p out)).val:=by
 intro n
 induction n with
 |zero=>
  intro k i p out h1 h2 h3
  obtain ⟨k,rfl⟩:∃j,k=j+1:=⟨k - 1,by omega⟩
  rw[tT]
  unfold kK
  refine bF (by simp) ?_
  rfl
 |succ n ih=>
  intro k i p out h1 h2 h3
  obtain ⟨k,rfl⟩:∃j,k=j+1:=⟨k - 1,by omega⟩
  rw[tT]
  unfold kK
  refine bT (decide_eq_true (by omega)) ?_
  have e:jG blk i6 (n+1) i p out=if (am blk p).2.2≠0 then ((am blk p).2.2,0,0,[]) else if (bd (am blk p).1 (i:Int) i6).2≠0 then (0,(bd (am blk p).1 (i:Int) i6).2,0,[]) else jG blk i6 n (i+1) (am blk p).2.1 (out++[(bd (am blk p).1 (i:Int) i6).1]):=rfl
  rw[e]
  by_cases c1:(am blk p).2.2=0
  ·refine bF (by simpa using c1) ?_
   rw[if_neg (aD c1)]
   by_cases c2:(bd (am blk p).1 (i:Int) i6).2=0
   ·refine bF (by simpa using c2) ?_
    rw[if_neg (aD c2)]
    refine bT (decide_eq_true (by omega)) ?_
    rw[af (n:=(i:Int)+1) (by omega) (by omega)]
    have:=ih k (i+1) (am blk p).2.1 (out++[(bd (am blk p).1 (i:Int) i6).1]) (by omega) (by simp;omega) (by omega)
    rw[show i+1+n=i+(n+1) by omega] at this
    exact this
   ·refine bT (by simpa using c2) ?_
    rw[if_pos c2]
    unfold Bi
    rw[Tr.val_ite,Tr.val_ite,if_neg (by simp),if_pos (decide_eq_true c2)]
    rfl
  ·refine bT (by simpa using c1) ?_
   rw[if_pos c1]
   unfold Bi
   rw[Tr.val_ite,if_pos (decide_eq_true c1)]
   rfl
theorem pa (blk:LI)(f:Int):∀(n i:Nat) (p:Int) (out:List bn),(aC blk f n i p out).2.2=0→(aC blk f n i p out).1.length=out.length+n
 |0,_,_,_,_=>rfl
 |n+1,i,p,out,h=>by
  unfold aC at h ⊢
  split
  ·rename_i c;rw[if_pos c] at h;exact absurd h c
  rename_i c;rw[if_neg c] at h
  split
  ·rename_i c2;rw[if_pos c2] at h;cases h
  rename_i c2;rw[if_neg c2] at h
  split
  ·rename_i c3;rw[if_pos c3] at h;cases h
  rename_i c3;rw[if_neg c3] at h
  rw[pa blk f n (i+1) _ _ h]
  simp;omega
theorem C6 (blk:LI)(f:Int):∀(n i:Nat) (p:Int) (out:List bn),
  ((aC blk f n i p out).2.2=0→(jG blk f n i p out)=(0,0,(aC blk f n i p out).2.1,(aC blk f n i p out).1))∧
  ((aC blk f n i p out).2.2≠0→(jG blk f n i p out).1=(aC blk f n i p out).2.2∨(jG blk f n i p out).1=0∧(jG blk f n i p out).2.1=(aC blk f n i p out).2.2)
 |0,i,p,out=>⟨fun _=>rfl,fun h=>absurd rfl h⟩
 |n+1,i,p,out=>by
  have e:aC blk f (n+1) i p out=if (am blk p).2.2≠0 then ([],0,(am blk p).2.2) else if (am blk p).1.2.1≠(i:Int) then ([],0,72) else if i=0∧(am blk p).1.1≠0∨aA (f+(am blk p).1.1)=false then ([],0,86)
    else aC blk f n (i+1) (am blk p).2.1 (out++[(f+(am blk p).1.1,(am blk p).1.2.2.1,(am blk p).1.2.2.2.1,(am blk p).1.2.2.2.2.1,())]):=rfl
  have e2:jG blk f (n+1) i p out=if (am blk p).2.2≠0 then ((am blk p).2.2,0,0,[]) else if (bd (am blk p).1 (i:Int) f).2≠0 then (0,(bd (am blk p).1 (i:Int) f).2,0,[]) else jG blk f n (i+1) (am blk p).2.1 (out++[(bd (am blk p).1 (i:Int) f).1]):=rfl
  have eO:bd (am blk p).1 (i:Int) f=if (am blk p).1.2.1≠(i:Int) then (qb,72) else if (i:Int)=0∧(am blk p).1.1≠0∨aA (f+(am blk p).1.1)=false then (qb,86)
    else ((f+(am blk p).1.1,(am blk p).1.2.2.1,(am blk p).1.2.2.2.1,(am blk p).1.2.2.2.2.1,()),0):=rfl
  rw[e,e2]
  by_cases c1:(am blk p).2.2=0
  rotate_left
  ·rw[if_pos c1,if_pos c1]
   exact ⟨fun h=>absurd h c1,fun _=>.inl rfl⟩
  rw[if_neg (aD c1),if_neg (aD c1)]
  by_cases c2:(am blk p).1.2.1=(i:Int)
  rotate_left
  ·rw[if_pos c2,eO,if_pos c2,if_pos (by decide)]
   exact ⟨(fun h=>by cases h),fun _=>.inr ⟨rfl,rfl⟩⟩
  rw[if_neg (aD c2)]
  by_cases c3:i=0∧(am blk p).1.1≠0∨aA (f+(am blk p).1.1)=false
  ·have c3':(i:Int)=0∧(am blk p).1.1≠0∨aA (f+(am blk p).1.1)=false:=by
    rcases c3 with h | h
    ·exact .inl ⟨by omega,h.2⟩
    ·exact .inr h
   rw[if_pos c3,eO,if_neg (aD c2),if_pos c3',if_pos (by decide)]
   exact ⟨(fun h=>by cases h),fun _=>.inr ⟨rfl,rfl⟩⟩
  ·have c3':¬((i:Int)=0∧(am blk p).1.1≠0∨aA (f+(am blk p).1.1)=false):=by
    rintro (h | h)
    ·exact c3 (.inl ⟨by omega,h.2⟩)
    ·exact c3 (.inr h)
   rw[if_neg c3,eO,if_neg (aD c2),if_neg c3',if_neg (aD rfl)]
   exact C6 blk f n (i+1) _ _
theorem su {b:LI}{sm:Bool}(h:aU b sm=0):61≤b.length∧(ay b 0).2=0∧(ay b 0).1=(b.length:Int)∧b.getD 16 0=2∧¬(sm=true∧fP b=false)∧aS (ap b 0 8)=false∧b.getD 21 0=0∧b.getD 22 0≤1∧aG (ap b 43 8) (ap b 51 2) (ap b 53 4)=false∧1≤ap b 57 4∧ap b 57 4≤256∧ap b 23 4=ap b 57 4 - 1:=by
 unfold aU at h
 split at h
 ·cases h
 split at h
 ·rename_i c;exact absurd h c
 rename_i h1 h2
 split at h
 ·cases h
 rename_i h3
 split at h
 ·cases h
 rename_i h4
 split at h
 ·cases h
 rename_i h5
 split at h
 ·cases h
 rename_i h6
 split at h
 ·cases h
 rename_i h7
 split at h
 ·cases h
 rename_i h8
 split at h
 ·cases h
 rename_i h9
 split at h
 ·cases h
 rename_i h10
 split at h
 ·cases h
 rename_i h11
 have h2:(ay b 0).2=0:=Classical.byContradiction h2
 have hm:=tZ h2
 refine ⟨by omega,h2,by omega,Classical.byContradiction h4,h5,by simpa using h6,?_,by omega,by simpa using h8,by omega,by omega,Classical.byContradiction h11⟩
 exact Classical.byContradiction fun h=>h7 (.inl h)
def wb (a0:LI):Option i0.Res:=bif decide (a0.length≤4294960000) then bif (ai a0 true).2 != 0 then oR (((0,0,0,0,0,[],()),(ai a0 true).2,()),()) else bif decide (61≤a0.length)&&decide (a0.length≤4294960000) then bif (aN a0 (ai a0 true).1.2.2.2.1).2 != 0 then oR (((0,0,0,0,0,[],()),(aN a0 (ai a0 true).1.2.2.2.1).2,()),()) else (bif decide ((0:Int)=0)&&(decide (([]:List bn).length=0)&&(decide ((0:Int)≤(ai a0 true).1.2.2.2.2.1)&&decide ((ai a0 true).1.2.2.2.2.1≤(4294960000:Int)))) then (bif decide ((jG (aN a0 (ai a0 true).1.2.2.2.1).1 (ai a0 true).1.2.2.2.2.2.1 ((ai a0 true).1.2.2.2.2.1).toNat 0 0 []).1≠0) then oR (((0,0,0,0,0,[],()),(jG (aN a0 (ai a0 true).1.2.2.2.1).1 (ai a0 true).1.2.2.2.2.2.1 ((ai a0 true).1.2.2.2.2.1).toNat 0 0 []).1,()),()) else bif decide ((jG (aN a0 (ai a0 true).1.2.2.2.1).1 (ai a0 true).1.2.2.2.2.2.1 ((ai a0 true).1.2.2.2.2.1).toNat 0 0 []).2.1≠0) then oR (((0,0,0,0,0,[],()),(jG (aN a0 (ai a0 true).1.2.2.2.1).1 (ai a0 true).1.2.2.2.2.2.1 ((ai a0 true).1.2.2.2.2.1).toNat 0 0 []).2.1,()),()) else bif decide ((jG (aN a0 (ai a0 true).1.2.2.2.1).1 (ai a0 true).1.2.2.2.2.2.1 ((ai a0 true).1.2.2.2.2.1).toNat 0 0 []).2.2.1<(↑(aN a0 (ai a0 true).1.2.2.2.1).1.length:Int)) then oR (((0,0,0,0,0,[],()),2,()),()) else bif decide (1≤(jG (aN a0 (ai a0 true).1.2.2.2.1).1 (ai a0 true).1.2.2.2.2.2.1 ((ai a0 true).1.2.2.2.2.1).toNat 0 0 []).2.2.2.length) then bif eF (jG (aN a0 (ai a0 true).1.2.2.2.1).1 (ai a0 true).1.2.2.2.2.2.1 ((ai a0 true).1.2.2.2.2.1).toNat 0 0 []).2.2.2 != (ai a0 true).1.2.2.2.2.2.2.1 then oR (((0,0,0,0,0,[],()),86,()),()) else oR ((((ai a0 true).1.1,(ai a0 true).1.2.2.1,(ai a0 true).1.2.2.2.2.2.2.2.1,(ai a0 true).1.2.2.2.2.2.2.2.2.1,(ai a0 true).1.2.2.2.2.2.2.2.2.2.1,(jG (aN a0 (ai a0 true).1.2.2.2.1).1 (ai a0 true).1.2.2.2.2.2.1 ((ai a0 true).1.2.2.2.2.1).toNat 0 0 []).2.2.2,()),0,()),()) else none) else none) else none else none
theorem JI (a0:LI):Io.run tt FJ dr vn i0 Tryz.f12 ((a0,()),())=wb a0:=by kernel_rfl
theorem xd:HcsOk prog E8:=.cons Jg (.cons GF (.cons Lc (.cons DJ (.cons CK .nil))))
theorem GG:HcOk prog 12 (ah i0 A4):=by
 refine bL xd (lp:=vn) (fn:=Tryz.f12) i0 (.step (h0:=aI cU qd) (by kernel_rfl) (jy xd (lp:=vn) (fn:=Tryz.f12) (.done (by kernel_rfl)) cU qd ?_) (.done (by kernel_rfl))) A4 ?_
 ·rintro ⟨⟨(blk:LI),(p:Int),(n:Int),(i:Int),⟨⟩⟩,⟨⟨(z1:Int),(z2:Int),(z3:Int),(z4:Int),(z5:Int),(z6:List bn),⟨⟩⟩,⟨(i1:Int),(i2:Int),(i3:Int),(i4:Bool),(i5:Int),(i6:Int),(i7:Int),(i8:Int),(i9:Int),(i10:Int),⟨⟩⟩,⟨(b1:Int),(b2:Int),(b3:Int),(b4:Int),(b5:Int),(out:List bn),⟨⟩⟩,⟨⟩⟩⟩ y hw hy
  obtain ⟨hg,hy⟩:=Tr.guard hy
  simp only[zA,zB] at hg
  obtain ⟨h1,h2,h3,h4⟩:=hg
  have h1:i=0:=h1
  have h2:out=[]:=List.length_eq_zero_iff.1 h2
  have h3:0≤n:=h3
  have h4:n≤(4294960000:Int):=h4
  subst h1 h2
  obtain ⟨n,rfl⟩:=au h3
  have:=xp blk z1 z2 z3 z4 z5 z6 i1 i2 i3 i4 i5 i6 i7 i8 i9 i10 b1 b2 b3 b4 b5 n (n+1) 0 p [] (by omega) rfl (by omega)
  rw[Nat.zero_add] at this
  exact ⟨n+1,this.trans hy⟩
 ·rintro ⟨⟨(b:LI),⟨⟩⟩,⟨⟩⟩ out hw ho
  obtain ⟨hg,ho⟩:=Tr.guard ho
  have hg2:b.length≤4294960000:=of_decide_eq_true hg
  clear hg
  cases ho
  refine (JI b).trans ?_
  show _=oR (((bf b).1,(bf b).2,()),())
  have eE:jH b=if aU b true≠0 then ([],aU b true) else if (aN b (decide (b.getD 22 0=1))).2≠0 then ([],(aN b (decide (b.getD 22 0=1))).2) else cA (aN b (decide (b.getD 22 0=1))).1 (ap b 27 8) (ap b 35 8) (ap b 57 4).toNat:=rfl
  have fin:∀e:Int,e≠0→(jH b).2=e→some (Out.ret ((LO,(e,())),()):i0.Res)=oR (((bf b).1,(bf b).2,()),()):=by
   intro e he h
   have:bf b=(qa,e):=by unfold bf;rw[h,if_pos he]
   rw[this]
   rfl
  unfold wb
  refine bT (decide_eq_true hg2) ?_
  by_cases h1:aU b true=0
  rotate_left
  ·have eh:ai b true=(aW,aU b true):=by unfold ai;rw[if_pos h1]
   rw[eh]
   refine bT (by simpa using h1) ?_
   exact fin _ h1 (by rw[eE,if_pos h1])
  have eh:ai b true=(gC b,0):=by unfold ai;rw[if_neg (aD h1)]
  rw[if_neg (aD h1)] at eE
  obtain ⟨k1,_,_,_,_,_,_,_,_,k2,k3,_⟩:=su h1
  have hI:gC b=(ap b 0 8,(b.length:Int),ap b 12 4,decide (b.getD 22 0=1),ap b 57 4,ap b 27 8,ap b 35 8,ap b 43 8,ap b 51 2,ap b 53 4,()):=rfl
  rw[eh,hI]
  dsimp only
  refine (ac rfl _ _).trans ?_
  refine bT (by simp only[zA,zB];exact ⟨k1,hg2⟩) ?_
  by_cases h2:(aN b (decide (b.getD 22 0=1))).2=0
  rotate_left
  ·refine bT (by simpa using h2) ?_
   exact fin _ h2 (by rw[eE,if_pos h2])
  refine bF (by simpa using h2) ?_
  rw[if_neg (aD h2)] at eE
  generalize (aN b (decide (b.getD 22 0=1))).1=blk at *
  refine bT (by simp only[zA,zB];exact ⟨trivial,rfl,show (0:Int)≤ap b 57 4 by omega,show ap b 57 4≤(4294960000:Int) by omega⟩) ?_
  have eR:cA blk (ap b 27 8) (ap b 35 8) (ap b 57 4).toNat=if (aC blk (ap b 27 8) (ap b 57 4).toNat 0 0 []).2.2≠0 then ([],(aC blk (ap b 27 8) (ap b 57 4).toNat 0 0 []).2.2)
    else if (aC blk (ap b 27 8) (ap b 57 4).toNat 0 0 []).2.1<(blk.length:Int) then ([],2)
    else if eF (aC blk (ap b 27 8) (ap b 57 4).toNat 0 0 []).1≠ap b 35 8 then ([],86) else ((aC blk (ap b 27 8) (ap b 57 4).toNat 0 0 []).1,0):=rfl
  have hlen:=pa blk (ap b 27 8) (ap b 57 4).toNat 0 0 []
  obtain ⟨x1,x2⟩:=C6 blk (ap b 27 8) (ap b 57 4).toNat 0 0 []
  rw[eR] at eE
  generalize aC blk (ap b 27 8) (ap b 57 4).toNat 0 0 []=r at *
  obtain ⟨rs,q,e⟩:=r
  simp only at eE hlen x1 x2
  by_cases h3:e=0
  rotate_left
  ·rw[if_pos h3] at eE
   rcases x2 h3 with x | ⟨x,x'⟩
   ·rw[x]
    refine bT (decide_eq_true h3) ?_
    exact fin e h3 (by rw[eE])
   ·rw[x,x']
    refine (ac rfl _ _).trans ?_
    refine bT (decide_eq_true h3) ?_
    exact fin e h3 (by rw[eE])
  rw[if_neg (aD h3)] at eE
  rw[x1 h3]
  have hlen:=hlen h3
  refine (ac rfl _ _).trans ?_
  refine (ac rfl _ _).trans ?_
  by_cases h4:q<(blk.length:Int)
  ·refine bT (decide_eq_true h4) ?_
   exact fin 2 (by decide) (by rw[eE,if_pos h4])
  refine bF (decide_eq_false h4) ?_
  refine bT (decide_eq_true (show 1≤rs.length by rw[hlen];simp;omega)) ?_
  rw[if_neg h4] at eE
  by_cases h5:eF rs=ap b 35 8
  ·refine bF (by simpa using h5) ?_
   rw[if_neg (aD h5)] at eE
   have:bf b=((ap b 0 8,ap b 12 4,ap b 43 8,ap b 51 2,ap b 53 4,rs,()),0):=by unfold bf;rw[eE,if_neg (aD rfl)]
   rw[this]
  ·refine bT (by simpa using h5) ?_
   exact fin 86 (by decide) (by rw[eE,if_pos h5])
end
end Go.Proofs.YtcbcbjdobbgddaaGreatDoor.Sym
namespace Go.Proofs.YtcbcbjdobbgddaaGreatDoor.Sym
open Go
noncomputable section
def pb (b:LI)(m:Int)(n:Nat):Bool:=decide (m=36000)&&Nat.ble (b.length+n) 36000
theorem fW {b:LI}{m:Int}{n:Nat}:pb b m n=true↔m=36000∧b.length+n≤36000:=by
 unfold pb;rw[zA,zB,Nat.ble_eq]
abbrev vd:Io:=mh
def Kn (d:vd.In):Tr vd.Res:=
 .ite (decide (d.1.1=36000)) (.ret (.ret (((),()),((([]:LI),(36000,())),())))) .no
theorem La:HcOk prog 47 (ah vd Kn):=by
 refine HcOk.weakB Lu ?_
 rintro ⟨⟨(m:Int),⟨⟩⟩,⟨⟩⟩ y hw hy
 obtain ⟨hg,hy⟩:=Tr.guard hy
 have hg:m=36000:=of_decide_eq_true hg
 subst hg
 rw[← hy]
 rfl
abbrev vc:Io:=mg
def Km (d:vc.In):Tr vc.Res:=
 .ite (pb d.2.1.1 d.2.1.2.1 8) (.ret (.ret ((0,()),((d.2.1.1++aF d.1.2.1 8,(36000,())),())))) .no
theorem K9:HcOk prog 48 (ah vc Km):=by
 refine HcOk.weakB Lt ?_
 rintro ⟨⟨⟨⟩,(v:Int),⟨⟩⟩,⟨⟨(b:LI),(m:Int),⟨⟩⟩,⟨⟩⟩⟩ y hw hy
 obtain ⟨hg,hy⟩:=Tr.guard hy
 obtain ⟨h1,h2⟩:=(fW (b:=b) (m:=m) (n:=8)).1 hg
 subst h1
 rw[← hy]
 have hk:cE b 36000=true:=by unfold cE;simp only[zA,zB];omega
 have e:bZ b 36000 v 8=(0,b++aF v 8):=by unfold bZ;rw[if_neg (by omega)]
 show (Be (((),(v,())),((b,(36000,())),()))).val=some (.ret ((0,()),((b++aF v 8,(36000,())),())))
 unfold Be
 rw[Tr.val_ite,if_pos hk,Tr.val_ret]
 show oR (((bZ b 36000 v 8).1,()),(((bZ b 36000 v 8).2,(36000,())),()))=_
 rw[e]
abbrev vb:Io:=mf
def Kl (d:vb.In):Tr vb.Res:=
 .ite (pb d.2.1.1 d.2.1.2.1 4) (.ret (.ret ((0,()),((d.2.1.1++aF d.1.2.1 4,(36000,())),())))) .no
theorem K8:HcOk prog 49 (ah vb Kl):=by
 refine HcOk.weakB Lr ?_
 rintro ⟨⟨⟨⟩,(v:Int),⟨⟩⟩,⟨⟨(b:LI),(m:Int),⟨⟩⟩,⟨⟩⟩⟩ y hw hy
 obtain ⟨hg,hy⟩:=Tr.guard hy
 obtain ⟨h1,h2⟩:=(fW (b:=b) (m:=m) (n:=4)).1 hg
 subst h1
 rw[← hy]
 have hk:cE b 36000=true:=by unfold cE;simp only[zA,zB];omega
 have e:bZ b 36000 v 4=(0,b++aF v 4):=by unfold bZ;rw[if_neg (by omega)]
 show (Bd (((),(v,())),((b,(36000,())),()))).val=some (.ret ((0,()),((b++aF v 4,(36000,())),())))
 unfold Bd
 rw[Tr.val_ite,if_pos hk,Tr.val_ret]
 show oR (((bZ b 36000 v 4).1,()),(((bZ b 36000 v 4).2,(36000,())),()))=_
 rw[e]
abbrev va:Io:=me
def Kk (d:va.In):Tr va.Res:=
 .ite (pb d.2.1.1 d.2.1.2.1 2) (.ret (.ret ((0,()),((d.2.1.1++aF d.1.2.1 2,(36000,())),())))) .no
theorem K7:HcOk prog 51 (ah va Kk):=by
 refine HcOk.weakB Lq ?_
 rintro ⟨⟨⟨⟩,(v:Int),⟨⟩⟩,⟨⟨(b:LI),(m:Int),⟨⟩⟩,⟨⟩⟩⟩ y hw hy
 obtain ⟨hg,hy⟩:=Tr.guard hy
 obtain ⟨h1,h2⟩:=(fW (b:=b) (m:=m) (n:=2)).1 hg
 subst h1
 rw[← hy]
 have hk:cE b 36000=true:=by unfold cE;simp only[zA,zB];omega
 have e:bZ b 36000 v 2=(0,b++aF v 2):=by unfold bZ;rw[if_neg (by omega)]
 show (Bc (((),(v,())),((b,(36000,())),()))).val=some (.ret ((0,()),((b++aF v 2,(36000,())),())))
 unfold Bc
 rw[Tr.val_ite,if_pos hk,Tr.val_ret]
 show oR (((bZ b 36000 v 2).1,()),(((bZ b 36000 v 2).2,(36000,())),()))=_
 rw[e]
abbrev Cb:Io:=qX
def LW (d:Cb.In):Tr Cb.Res:=
 .ite (pb d.2.1.1 d.2.1.2.1 1) (.ret (.ret ((0,()),((d.2.1.1++aF d.1.2.1 1,(36000,())),())))) .no
theorem Mf:HcOk prog 50 (ah Cb LW):=by
 refine HcOk.weakB Mg ?_
 rintro ⟨⟨⟨⟩,(v:Int),⟨⟩⟩,⟨⟨(b:LI),(m:Int),⟨⟩⟩,⟨⟩⟩⟩ y hw hy
 obtain ⟨hg,hy⟩:=Tr.guard hy
 obtain ⟨h1,h2⟩:=(fW (b:=b) (m:=m) (n:=1)).1 hg
 subst h1
 rw[← hy]
 have hk:cE b 36000=true:=by unfold cE;simp only[zA,zB];omega
 have e:bZ b 36000 v 1=(0,b++aF v 1):=by unfold bZ;rw[if_neg (by omega)]
 show (Im (((),(v,())),((b,(36000,())),()))).val=some (.ret ((0,()),((b++aF v 1,(36000,())),())))
 unfold Im
 rw[Tr.val_ite,if_pos hk,Tr.val_ret]
 show oR (((bZ b 36000 v 1).1,()),(((bZ b 36000 v 1).2,(36000,())),()))=_
 rw[e]
abbrev ve:Io:=mi
def Ko (d:ve.In):Tr ve.Res:=
 .ite (pb d.2.1.1 d.2.1.2.1 (aX d.1.2.1)) (.ret (.ret ((0,()),((d.2.1.1++fg d.1.2.1,(36000,())),())))) .no
theorem Lb:HcOk prog 52 (ah ve Ko):=by
 refine HcOk.weakB Lv ?_
 rintro ⟨⟨⟨⟩,(ps:List (LI)),⟨⟩⟩,⟨⟨(b:LI),(m:Int),⟨⟩⟩,⟨⟩⟩⟩ y hw hy
 obtain ⟨hg,hy⟩:=Tr.guard hy
 obtain ⟨h1,h2⟩:=(fW (b:=b) (m:=m) (n:=aX ps)).1 hg
 subst h1
 rw[← hy]
 have hk:(cE b 36000&&decide (aX ps≤4294960000))=true:=by unfold cE;simp only[zA,zB];omega
 have e:rJ b 36000 ps=(0,b++fg ps):=by unfold rJ;rw[if_neg (by omega)]
 show (Bf (((),(ps,())),((b,(36000,())),()))).val=some (.ret ((0,()),((b++fg ps,(36000,())),())))
 unfold Bf
 rw[Tr.val_ite,if_pos hk,Tr.val_ret]
 show oR (((rJ b 36000 ps).1,()),(((rJ b 36000 ps).2,(36000,())),()))=_
 rw[e]
end
end Go.Proofs.YtcbcbjdobbgddaaGreatDoor.Sym
namespace Go.Proofs.YtcbcbjdobbgddaaGreatDoor.Sym
open Go
open Go.IntKind (i8 i16 i32 i64 u8 u16 u32 u64)
noncomputable section
def dT (a b:bn):Bool:=@ite Bool (a=b) (Classical.propDecidable _) true false
def bX (a b:List bn):Bool:=@ite Bool (a=b) (Classical.propDecidable _) true false
def du (a b:fF):Bool:=@ite Bool (a=b) (Classical.propDecidable _) true false
theorem xY {p:Prop}(h:¬ p):(false=true↔p):=⟨fun h=>(by cases h),fun x=>absurd x h⟩
theorem iy {a b:bn}:dT a b=true↔a=b:=by unfold dT;split <;> simp[*]
theorem bE {a b:List bn}:bX a b=true↔a=b:=by unfold bX;split <;> simp[*]
theorem ix {a b:fF}:du a b=true↔a=b:=by unfold du;split <;> simp[*]
abbrev fw:Io:=⟨[KD,KD],[],[],[dB],none⟩
def uB (d:fw.In):Tr fw.Res:=.ret (.ret ((dT d.1.1 d.1.2.1,()),()))
abbrev wR:List (Nat×Hc):=[(117,ah b9 gK),(118,ah co iP)]
def F3:Hd:=bt wR
def xS:Lp:=bG []
def qG (a0:Int)(a1:Bool)(a2:LI)(a3:Bool)(a4:LI)(a5:List cm.den)(a6:Int)(a7:Bool)(a8:LI)(a9:Bool)(a10:LI)(a11:List cm.den):Option fw.Res:=bif a0 != a6 then oR ((false,()),()) else bif !decide ((a1,a2,())=(a7,a8,())) then oR ((false,()),()) else bif !decide ((a3,a4,())=(a9,a10,())) then oR ((false,()),()) else oR ((decide (a5=a11),()),())
theorem Ec (a0:Int)(a1:Bool)(a2:LI)(a3:Bool)(a4:LI)(a5:List cm.den)(a6:Int)(a7:Bool)(a8:LI)(a9:Bool)(a10:LI)(a11:List cm.den):Io.run tt F3 dr xS fw Tryz.f80 (((a0,(a1,a2,()),(a3,a4,()),a5,()),(a6,(a7,a8,()),(a9,a10,()),a11,()),()),())=qG a0 a1 a2 a3 a4 a5 a6 a7 a8 a9 a10 a11:=by kernel_rfl
theorem G4:HcOk prog 80 (ah fw uB):=by
 refine bL (cs:=wR) (.cons nr (.cons sb .nil)) (lp:=xS) (fn:=Tryz.f80) fw (.done (by kernel_rfl)) uB ?_
 rintro ⟨⟨⟨(a0:Int),⟨(a1:Bool),(a2:LI),⟨⟩⟩,⟨(a3:Bool),(a4:LI),⟨⟩⟩,(a5:List cv),⟨⟩⟩,⟨(b0:Int),⟨(b1:Bool),(b2:LI),⟨⟩⟩,⟨(b3:Bool),(b4:LI),⟨⟩⟩,(b5:List cv),⟨⟩⟩,⟨⟩⟩,⟨⟩⟩ out hw ho
 cases ho
 refine (Ec a0 a1 a2 a3 a4 a5 b0 b1 b2 b3 b4 b5).trans ?_
 show _=oR ((dT (a0,(a1,a2,()),(a3,a4,()),a5,()) (b0,(b1,b2,()),(b3,b4,()),b5,()),()),())
 have fin:∀c:Bool,(c=true↔((a0,(a1,a2,()),(a3,a4,()),a5,()):bn)=(b0,(b1,b2,()),(b3,b4,()),b5,()))→some (Out.ret ((c,()),()):fw.Res)=oR ((dT (a0,(a1,a2,()),(a3,a4,()),a5,()) (b0,(b1,b2,()),(b3,b4,()),b5,()),()),()):=by
  intro c hc
  have:c=dT (a0,(a1,a2,()),(a3,a4,()),a5,()) (b0,(b1,b2,()),(b3,b4,()),b5,()):=Bool.eq_iff_iff.2 (hc.trans iy.symm)
  rw[this]
 unfold qG
 by_cases h0:a0=b0
 rotate_left
 ·refine (ab (by simpa using h0) _ _).trans (fin false (xY fun h=>h0 (congrArg Prod.fst h)))
 refine bF (by simpa using h0) ?_
 by_cases h1:(a1,a2,())=(b1,b2,())
 rotate_left
 ·refine (ab (by rw[decide_eq_false h1];rfl) _ _).trans (fin false (xY fun h=>h1 (congrArg (fun x:bn=>x.2.1) h)))
 refine bF (by rw[decide_eq_true h1];rfl) ?_
 by_cases h2:(a3,a4,())=(b3,b4,())
 rotate_left
 ·refine (ab (by rw[decide_eq_false h2];rfl) _ _).trans (fin false (xY fun h=>h2 (congrArg (fun x:bn=>x.2.2.1) h)))
 refine (ac (by rw[decide_eq_true h2];rfl) _ _).trans (fin _ ?_)
 rw[zB]
 constructor
 ·intro h
  rw[h0,h1,h2,h]
 ·intro h
  exact congrArg (fun x:bn=>x.2.2.2.1) h
abbrev fc:Io:=⟨[wV,wV],[],[],[dB],none⟩
def qp (d:fc.In):Tr fc.Res:=.ret (.ret ((bX d.1.1 d.1.2.1,()),()))
abbrev tn:List (Nat×Hc):=[(80,ah fw uB)]
def tF:Hd:=bt tn
abbrev ci:Lo:=⟨⟨(.one (.hol (.sl 49 aV))::.one (.hol (.sl 49 aV))::.any::bz (.one hI::.any::al (cj []))),[]⟩,[(.ret,⟨(cj (.one hL::al (cj (bz [])))),[]⟩),(.exit 0,⟨(.any::al (dC (bz []))),[]⟩)]⟩
def f8 (d:ci.st.den):Tr (ao ci.xs):=
 .ite (decide (d.1.2.2.1=(0:Int))&&decide (d.1.1.length=d.1.2.1.length)) (.ite (bX d.1.1 d.1.2.1) (.ret (.pan (.ret ((),((),()))))) (.ret (.ret ((),((false,()),()))))) .no
def k9:Lp:=bG [(5,aI ci f8)]
def lK {R:Type}(h2 h3:List aV.den)(h4:Int)(next:List aV.den→List aV.den→Int→Option R)(out:ao ci.xs→Option R):Option R:=bif decide (h4<(↑h2.length:Int)) then bif decide (0≤h4)&&decide (h4<(↑h2.length:Int)) then bif decide (0≤h4)&&decide (h4<(↑h3.length:Int)) then bif !dT (h2.getD h4.toNat (0,(false,[],()),(false,[],()),[],())) (h3.getD h4.toNat (0,(false,[],()),(false,[],()),[],())) then out (.ret ((),((false,()),()))) else next (h2) (h3) (i64.wrap (h4+1)) else none else none else out (.pan (.ret ((),((),()))))
def ku (n:Nat)(h2 h3:List aV.den)(h4:Int):Option (ao ci.xs):=iI tt tF dr k9 0 Tryz.f42 (cR Tryz.f42 0) n (ci.st.mk' ((h2,(h3,(h4,()))),())) (bS ci.xs)
theorem yt (n:Nat)(h2 h3:List aV.den)(h4:Int):ku (n+1) h2 h3 h4=lK h2 h3 h4 (ku n) some:=by kernel_rfl
theorem xB (xs ys:List bn)(hl:xs.length=ys.length)(hb:xs.length≤maxLen):∀(k i:Nat),i≤xs.length→xs.length<i+k→
  ku k xs ys (i:Int)=if bX (xs.drop i) (ys.drop i)=true then some (.pan (.ret ((),((),())))) else some (.ret ((),((false,()),()))):=by
 intro k
 induction k with
 |zero=>intro i h h';omega
 |succ k ih=>
  intro i hi h
  rw[yt]
  unfold lK
  by_cases h1:i<xs.length
  ·have h2:i<ys.length:=by omega
   rw[bm h1 hb,ih (i+1) h1 (by omega)]
   have e1:(xs.getD (i:Int).toNat (0,(false,[],()),(false,[],()),[],()):bn)=xs[i]:=aE h1
   have e2:(ys.getD (i:Int).toNat (0,(false,[],()),(false,[],()),[],()):bn)=ys[i]:=aE h2
   refine bT (by simpa using h1) ?_
   refine bT (by simpa using h1) ?_
   refine bT (by simpa using h2) ?_
   rw[e1,e2,zE h1,zE h2]
   cases hc:dT xs[i] ys[i] with
   |false=>
    refine (ab rfl _ _).trans ?_
    rw[if_neg]
    intro h
    have h:=bE.1 h
    rw[List.cons.injEq] at h
    rw[iy.2 h.1] at hc
    cases hc
   |true=>
    refine (ac rfl _ _).trans ?_
    have e:=iy.1 hc
    by_cases hd:bX (xs.drop (i+1)) (ys.drop (i+1))=true
    ·rw[if_pos hd,if_pos (bE.2 (by rw[e,bE.1 hd]))]
    ·rw[if_neg hd,if_neg]
     intro h
     have h:=bE.1 h
     rw[List.cons.injEq] at h
     exact hd (bE.2 h.2)
  ·rw[zI (by omega),zI (by omega),if_pos (bE.2 rfl)]
   exact ac (by simpa using h1) _ _
def oT (a0 a1:List aV.den):Option fc.Res:=bif (↑a0.length:Int) != (↑a1.length:Int) then oR ((false,()),()) else (f8 ((a0,(a1,(0,()))),())).run fun y=>match y with | .ret ((),((x9,()),()))=>(oR ((x9,()),())) | .pan (.ret ((),((),())))=>(oR ((true,()),()))
theorem AD (a0 a1:List aV.den):Io.run tt tF dr k9 fc Tryz.f42 ((a0,a1,()),())=oT a0 a1:=by kernel_rfl
theorem o3:HcsOk prog tn:=.cons G4 .nil
theorem DS:HcOk prog 42 (ah fc qp):=by
 refine bL o3 (lp:=k9) (fn:=Tryz.f42) fc (.step (h0:=aI ci f8) (by kernel_rfl) (jy o3 (lp:=k9) (fn:=Tryz.f42) (.done (by kernel_rfl)) ci f8 ?_) (.done (by kernel_rfl))) qp ?_
 ·rintro ⟨⟨(xs:List bn),(ys:List bn),(i:Int),⟨⟩⟩,⟨⟩⟩ y hw hy
  obtain ⟨hg,hy⟩:=Tr.guard hy
  simp only[zA,zB] at hg
  obtain ⟨hi,hl⟩:=hg
  have hi:i=0:=hi
  have hl:xs.length=ys.length:=hl
  subst hi
  refine ⟨xs.length+1,(xB xs ys hl hw.1.1.1 _ 0 (by omega) (by omega)).trans ?_⟩
  rw[← hy,List.drop_zero,List.drop_zero]
  simp only[Tr.val_ite,Tr.val_ret]
 ·rintro ⟨⟨(xs:List bn),(ys:List bn),⟨⟩⟩,⟨⟩⟩ out hw ho
  cases ho
  refine (AD xs ys).trans ?_
  unfold oT f8
  show _=oR ((bX xs ys,()),())
  by_cases hl:xs.length=ys.length
  ·refine bF (by rw[hl];exact bne_self_eq_false' _) ?_
   refine bT (by simpa using hl) ?_
   cases h:bX xs ys with
   |true=>rfl
   |false=>rfl
  ·have e:bX xs ys=false:=by
    cases h:bX xs ys with
    |false=>rfl
    |true=>exact absurd (congrArg List.length (bE.1 h)) hl
   rw[e]
   refine ab ?_ _ _
   have:(xs.length:Int)≠ys.length:=by omega
   simpa using this
abbrev d0:Io:=⟨[wU,wU],[],[],[dB],none⟩
def pI (d:d0.In):Tr d0.Res:=.ret (.ret ((du d.1.1 d.1.2.1,()),()))
abbrev wS:List (Nat×Hc):=[(42,ah fc qp)]
def F4:Hd:=bt wS
def xU:Lp:=bG []
def qH (a0 a1 a2 a3 a4:Int)(a5:List aV.den)(a6 a7 a8 a9 a10:Int)(a11:List aV.den):Option d0.Res:=bif a0 != a6 then oR ((false,()),()) else bif a1 != a7 then oR ((false,()),()) else bif a2 != a8 then oR ((false,()),()) else bif a3 != a9 then oR ((false,()),()) else bif a4 != a10 then oR ((false,()),()) else oR ((bX a5 a11,()),())
theorem Ed (a0 a1 a2 a3 a4:Int)(a5:List aV.den)(a6 a7 a8 a9 a10:Int)(a11:List aV.den):Io.run tt F4 dr xU d0 Tryz.f14 (((a0,a1,a2,a3,a4,a5,()),(a6,a7,a8,a9,a10,a11,()),()),())=qH a0 a1 a2 a3 a4 a5 a6 a7 a8 a9 a10 a11:=by kernel_rfl
theorem x7:HcOk prog 14 (ah d0 pI):=by
 refine bL (cs:=wS) (.cons DS .nil) (lp:=xU) (fn:=Tryz.f14) d0 (.done (by kernel_rfl)) pI ?_
 rintro ⟨⟨⟨(a0:Int),(a1:Int),(a2:Int),(a3:Int),(a4:Int),(a5:List bn),⟨⟩⟩,⟨(b0:Int),(b1:Int),(b2:Int),(b3:Int),(b4:Int),(b5:List bn),⟨⟩⟩,⟨⟩⟩,⟨⟩⟩ out hw ho
 cases ho
 refine (Ed a0 a1 a2 a3 a4 a5 b0 b1 b2 b3 b4 b5).trans ?_
 show _=oR ((du (a0,a1,a2,a3,a4,a5,()) (b0,b1,b2,b3,b4,b5,()),()),())
 have fin:∀c:Bool,(c=true↔((a0,a1,a2,a3,a4,a5,()):fF)=(b0,b1,b2,b3,b4,b5,()))→some (Out.ret ((c,()),()):d0.Res)=oR ((du (a0,a1,a2,a3,a4,a5,()) (b0,b1,b2,b3,b4,b5,()),()),()):=by
  intro c hc
  have:c=du (a0,a1,a2,a3,a4,a5,()) (b0,b1,b2,b3,b4,b5,()):=Bool.eq_iff_iff.2 (hc.trans ix.symm)
  rw[this]
 unfold qH
 by_cases h0:a0=b0
 rotate_left
 ·exact (ab (by simpa using h0) _ _).trans (fin false (xY fun h=>h0 (congrArg Prod.fst h)))
 refine bF (by simpa using h0) ?_
 by_cases h1:a1=b1
 rotate_left
 ·exact (ab (by simpa using h1) _ _).trans (fin false (xY fun h=>h1 (congrArg (fun x:fF=>x.2.1) h)))
 refine bF (by simpa using h1) ?_
 by_cases h2:a2=b2
 rotate_left
 ·exact (ab (by simpa using h2) _ _).trans (fin false (xY fun h=>h2 (congrArg (fun x:fF=>x.2.2.1) h)))
 refine bF (by simpa using h2) ?_
 by_cases h3:a3=b3
 rotate_left
 ·exact (ab (by simpa using h3) _ _).trans (fin false (xY fun h=>h3 (congrArg (fun x:fF=>x.2.2.2.1) h)))
 refine bF (by simpa using h3) ?_
 by_cases h4:a4=b4
 rotate_left
 ·exact (ab (by simpa using h4) _ _).trans (fin false (xY fun h=>h4 (congrArg (fun x:fF=>x.2.2.2.2.1) h)))
 refine (ac (by simpa using h4) _ _).trans (fin _ ?_)
 rw[bE]
 constructor
 ·intro h
  rw[h0,h1,h2,h3,h4,h]
 ·intro h
  exact congrArg (fun x:fF=>x.2.2.2.2.2.1) h
abbrev kj:Io:=⟨[dL,dI,dI],[],[],[lm],none⟩
def Bg (d:kj.In):Tr kj.Res:=.ite (decide ((0:Int)≤d.1.2.2.1)&&decide (d.1.2.2.1≤(8:Int))) (.ret (.ret (((ak d.1.1 d.1.2.1 d.1.2.2.1).1,()),()))) .no
abbrev Fu:List (Nat×Hc):=[(108,ah eV qi)]
def K0:Hd:=bt Fu
def GA:Lp:=bG []
def E2 (a0:LI)(a1 a2:Int):Option kj.Res:=bif decide (0≤a2)&&decide (a2≤8) then oR (((ak a0 a1 a2).1,()),()) else none
theorem J6 (a0:LI)(a1 a2:Int):Io.run tt K0 dr GA kj Tryz.f75 ((a0,a1,a2,()),())=E2 a0 a1 a2:=by kernel_rfl
theorem G6:HcOk prog 75 (ah kj Bg):=by
 refine bL (cs:=Fu) (.cons DM .nil) (lp:=GA) (fn:=Tryz.f75) kj (.done (by kernel_rfl)) Bg ?_
 rintro ⟨⟨(b:LI),(p:Int),(n:Int),⟨⟩⟩,⟨⟩⟩ out hw ho
 obtain ⟨hg,ho⟩:=Tr.guard ho
 cases ho
 refine (J6 b p n).trans ?_
 exact ab hg _ _
abbrev hC:Io:=⟨[lm,Mw,Ix],[],[],[dB],none⟩
def zc (d:hC.In):Tr hC.Res:=.ret (.ret ((!aG d.1.1 d.1.2.1 d.1.2.2.1,()),()))
abbrev BS:List (Nat×Hc):=[]
def I5:Hd:=bt BS
def CD:Lp:=bG []
def s6 (a0 a1 a2:Int):Option hC.Res:=bif decide (a0<0) then bif a0 == -1 then bif a1 == -1 then oR ((a2 == -1,()),()) else oR ((false,()),()) else oR ((false,()),()) else bif decide (0≤a1) then oR ((decide (0≤a2),()),()) else oR ((false,()),())
theorem HJ (a0 a1 a2:Int):Io.run tt I5 dr CD hC Tryz.f43 ((a0,a1,a2,()),())=s6 a0 a1 a2:=by kernel_rfl
theorem JA:HcOk prog 43 (ah hC zc):=by
 refine bL (cs:=BS) HcsOk.nil (lp:=CD) (fn:=Tryz.f43) hC (.done (by kernel_rfl)) zc ?_
 rintro ⟨⟨(pid:Int),(ep:Int),(sq:Int),⟨⟩⟩,⟨⟩⟩ out hw ho
 cases ho
 refine (HJ pid ep sq).trans ?_
 show _=oR ((!(if pid = -1∧ep = -1∧sq = -1∨0≤pid∧0≤ep∧0≤sq then false else true),()),())
 have key:∀c:Prop,[Decidable c]→∀b:Bool,(b=true↔c)→some (Out.ret ((b,()),()):hC.Res)=oR ((!(if c then false else true),()),()):=by
  intro c _ b h
  by_cases hc:c
  ·rw[if_pos hc,h.2 hc];rfl
  ·rw[if_neg hc]
   cases b with
   |false=>rfl
   |true=>exact absurd (h.1 rfl) hc
 unfold s6
 by_cases h1:pid<0
 ·refine bT (decide_eq_true h1) ?_
  by_cases h2:pid = -1
  ·refine bT (by simp[h2]) ?_
   by_cases h3:ep = -1
   ·refine bT (by simp[h3]) ?_
    exact key _ _ (by simp;omega)
   ·refine bF (by simp[h3]) ?_
    exact key _ _ (by simp;omega)
  ·refine bF (by simp[h2]) ?_
   exact key _ _ (by simp;omega)
 ·refine bF (decide_eq_false h1) ?_
  by_cases h2:0≤ep
  ·refine bT (decide_eq_true h2) ?_
   exact key _ _ (by simp;omega)
  ·refine bF (decide_eq_false h2) ?_
   exact key _ _ (by simp;omega)
def bY (a b:Int):Int×Bool:=if aA (a - b)=true then (a - b,true) else (0,false)
abbrev fM:Io:=⟨[lm,lm],[],[],[lm,dB],none⟩
def ze (d:fM.In):Tr fM.Res:=.ret (.ret (((bY d.1.1 d.1.2.1).1,(bY d.1.1 d.1.2.1).2,()),()))
abbrev BU:List (Nat×Hc):=[]
def I6:Hd:=bt BU
def CE:Lp:=bG []
def s8 (a0 a1:Int):Option fM.Res:=bif decide (0≤a1) then bif decide (a0<i64.wrap (-9223372036854775808+a1)) then oR ((0,false,()),()) else bif decide (a1<0) then bif decide (i64.wrap (9223372036854775807+a1)<a0) then oR ((0,false,()),()) else oR ((i64.wrap (a0 - a1),true,()),()) else oR ((i64.wrap (a0 - a1),true,()),()) else bif decide (a1<0) then bif decide (i64.wrap (9223372036854775807+a1)<a0) then oR ((0,false,()),()) else oR ((i64.wrap (a0 - a1),true,()),()) else oR ((i64.wrap (a0 - a1),true,()),())
theorem HL (a0 a1:Int):Io.run tt I6 dr CE fM Tryz.f79 ((a0,a1,()),())=s8 a0 a1:=by kernel_rfl
theorem JC:HcOk prog 79 (ah fM ze):=by
 refine bL (cs:=BU) HcsOk.nil (lp:=CE) (fn:=Tryz.f79) fM (.done (by kernel_rfl)) ze ?_
 rintro ⟨⟨(a:Int),(b:Int),⟨⟩⟩,⟨⟩⟩ out hw ho
 cases ho
 refine (HL a b).trans ?_
 have ha:bh .i64 a:=hw.1.1
 have hb:bh .i64 b:=hw.1.2.1
 have ha:=ga ha
 have hb:=ga hb
 show _=oR (((bY a b).1,(bY a b).2,()),())
 unfold s8
 have fin:aA (a - b)=true→some (Out.ret ((i64.wrap (a - b),true,()),()):fM.Res)=oR (((bY a b).1,(bY a b).2,()),()):=by
  intro h
  have e:bY a b=(a - b,true):=by unfold bY;rw[if_pos h]
  rw[e,af (fi.1 h).1 (fi.1 h).2]
 have fin2:aA (a - b)=false→some (Out.ret ((0,false,()),()):fM.Res)=oR (((bY a b).1,(bY a b).2,()),()):=by
  intro h
  have e:bY a b=(0,false):=by unfold bY;rw[if_neg (by rw[h];exact fun h=>by cases h)]
  rw[e]
 have fy:(-9223372036854775808≤a - b∧a - b≤9223372036854775807)→aA (a - b)=true:=fun h=>fi.2 h
 have fn:¬(-9223372036854775808≤a - b∧a - b≤9223372036854775807)→aA (a - b)=false:=fun h=>by
  cases h2:aA (a - b) with
  |false=>rfl
  |true=>exact absurd (fi.1 h2) h
 by_cases h0:0≤b
 ·refine bT (decide_eq_true h0) ?_
  rw[af (n:=-9223372036854775808+b) (by omega) (by omega)]
  by_cases h1:a < -9223372036854775808+b
  ·exact (ab (decide_eq_true h1) _ _).trans (fin2 (fn (by omega)))
  ·refine bF (decide_eq_false h1) ?_
   exact (ac (decide_eq_false (by omega)) _ _).trans (fin (fy (by omega)))
 ·refine bF (decide_eq_false h0) ?_
  refine bT (decide_eq_true (show b<0 by omega)) ?_
  rw[af (n:=9223372036854775807+b) (by omega) (by omega)]
  by_cases h1:9223372036854775807+b<a
  ·exact (ab (decide_eq_true h1) _ _).trans (fin2 (fn (by omega)))
  ·exact (ac (decide_eq_false h1) _ _).trans (fin (fy (by omega)))
abbrev gt:Io:=⟨[wV],[],[],[lm],none⟩
def uC (d:gt.In):Tr gt.Res:=.ret (.ret ((eF d.1.1,()),()))
abbrev qO:List (Nat×Hc):=[]
def xj:Hd:=bt qO
abbrev cM:Lo:=⟨⟨(.one (.hol (.sl 49 aV))::bz (.one hI::.one hI::.any::al (bz []))),[]⟩,[(.exit 0,⟨(.any::bz (.one hI::al (cj []))),[]⟩)]⟩
def iF (d:cM.st.den):Tr (ao cM.xs):=.ite (decide (d.1.2.2.1=(0:Int))) (.ret (.ret ((),((cW d.1.1 d.1.2.1,()),())))) .no
def nk:Lp:=bG [(4,aI cM iF)]
def nL {R:Type}(h1:List aV.den)(h2 h3:Int)(next:List aV.den→Int→Int→Option R)(out:ao cM.xs→Option R):Option R:=bif decide (h3<(↑h1.length:Int)) then bif decide (0≤h3)&&decide (h3<(↑h1.length:Int)) then bif decide (h2<(h1.getD h3.toNat (0,(false,[],()),(false,[],()),[],())).1) then bif decide (0≤h3)&&decide (h3<(↑h1.length:Int)) then next (h1) ((h1.getD h3.toNat (0,(false,[],()),(false,[],()),[],())).1) (i64.wrap (h3+1)) else none else next (h1) (h2) (i64.wrap (h3+1)) else none else out (.ret ((),((h2,()),())))
def mq (n:Nat)(h1:List aV.den)(h2 h3:Int):Option (ao cM.xs):=iI tt xj dr nk 0 Tryz.f23 (cR Tryz.f23 0) n (cM.st.mk' ((h1,(h2,(h3,()))),())) (bS cM.xs)
theorem AK (n:Nat)(h1:List aV.den)(h2 h3:Int):mq (n+1) h1 h2 h3=nL h1 h2 h3 (mq n) some:=by kernel_rfl
theorem vj (rs:List bn)(hl:rs.length≤maxLen):∀(k i:Nat) (t:Int),rs.length<i+k→i≤rs.length→mq k rs t i=some (.ret ((),((cW (rs.drop i) t,()),()))):=by
 intro k
 induction k with
 |zero=>intro i t h;omega
 |succ k ih=>
  intro i t h1 h2
  rw[AK]
  unfold nL
  by_cases hi:i<rs.length
  ·refine bT (by simpa using hi) ?_
   refine bT (by simpa using hi) ?_
   have e:List.getD rs (i:Int).toNat (0,(false,[],()),(false,[],()),[],())=rs[i]:=by simp only[zG,aE hi]
   rw[e,bm hi hl,zE hi]
   have e2:cW (rs[i]::rs.drop (i+1)) t=cW (rs.drop (i+1)) (cX t rs[i].1):=rfl
   rw[e2]
   unfold cX
   by_cases hc:t<rs[i].1
   ·refine bT (decide_eq_true hc) ?_
    refine bT (by simpa using hi) ?_
    rw[if_pos hc]
    exact ih (i+1) _ (by omega) (by omega)
   ·refine bF (decide_eq_false hc) ?_
    rw[if_neg hc]
    exact ih (i+1) _ (by omega) (by omega)
  ·refine bF (by simp;omega) ?_
   rw[zI (by omega)]
   rfl
def qI (a0:List aV.den):Option gt.Res:=(iF ((a0,(-9223372036854775808,(0,()))),())).run fun y=>match y with | .ret ((),((x11,()),()))=>(oR ((x11,()),()))
theorem Ee (a0:List aV.den):Io.run tt xj dr nk gt Tryz.f23 ((a0,()),())=qI a0:=by kernel_rfl
theorem G5:HcOk prog 23 (ah gt uC):=by
 refine bL (cs:=qO) HcsOk.nil (lp:=nk) (fn:=Tryz.f23) gt (.step (h0:=aI cM iF) (by kernel_rfl) (jy (cs:=qO) HcsOk.nil (lp:=nk) (fn:=Tryz.f23) (.done (by kernel_rfl)) cM iF ?_) (.done (by kernel_rfl))) uC ?_
 ·rintro ⟨⟨(rs:List bn),(t:Int),(i:Int),⟨⟩⟩,⟨⟩⟩ y hw hy
  obtain ⟨hg,hy⟩:=Tr.guard hy
  have h1:i=0:=of_decide_eq_true hg
  subst h1
  refine ⟨rs.length+1,(vj rs hw.1.1.1 (rs.length+1) 0 t (by omega) (by omega)).trans ?_⟩
  rw[← hy];rfl
 ·rintro ⟨⟨(rs:List bn),⟨⟩⟩,⟨⟩⟩ out hw ho
  cases ho
  refine (Ee rs).trans ?_
  show _=oR ((eF rs,()),())
  unfold qI iF
  refine (ab rfl _ _).trans ?_
  cases rs with
  |nil=>rfl
  |cons r rs=>
   have hr:bh .i64 r.1:=(hw.1.1.2 r (by simp)).1
   have hr:=ga hr
   have e:cW (r::rs) (-9223372036854775808)=cW rs r.1:=by
    show cW rs (cX (-9223372036854775808) r.1)=_
    unfold cX
    by_cases h:r.1 > -9223372036854775808
    ·rw[if_pos h]
    ·rw[if_neg h]
     have:r.1 = -9223372036854775808:=by omega
     rw[this]
   exact congrArg (fun x=>oR ((x,()),())) e
theorem nC {b:LI}{p n:Nat}(h:p+n≤b.length):(ak b (p:Int) (n:Int)).1=ap b p n:=by
 unfold ak ap
 rw[if_neg (by omega),zG,zG]
abbrev jr:Io:=⟨[dL,dI],[],[],[dI,dI],none⟩
def zb (d:jr.In):Tr jr.Res:=.ret (.ret (((ay d.1.1 d.1.2.1).1,(ay d.1.1 d.1.2.1).2,()),()))
abbrev BR:List (Nat×Hc):=[(75,ah kj Bg)]
def I4:Hd:=bt BR
def CC:Lp:=bG []
def s5 (a0:LI)(a1:Int):Option jr.Res:=bif decide (a1<0) then oR ((0,3,()),()) else bif decide ((↑a0.length:Int)<a1) then oR ((0,3,()),()) else bif decide (i64.wrap ((↑a0.length:Int) - a1)<12) then oR ((0,1,()),()) else bif decide ((ak a0 (i64.wrap (a1+8)) 4).1<49) then oR ((0,5,()),()) else bif decide (35988<(ak a0 (i64.wrap (a1+8)) 4).1) then oR ((0,4,()),()) else bif decide (i64.wrap (i64.wrap ((↑a0.length:Int) - a1) - 12)<(ak a0 (i64.wrap (a1+8)) 4).1) then oR ((0,1,()),()) else oR ((i64.wrap ((ak a0 (i64.wrap (a1+8)) 4).1+12),0,()),())
theorem HI (a0:LI)(a1:Int):Io.run tt I4 dr CC jr Tryz.f74 ((a0,a1,()),())=s5 a0 a1:=by kernel_rfl
theorem Jz:HcOk prog 74 (ah jr zb):=by
 refine bL (cs:=BR) (.cons G6 .nil) (lp:=CC) (fn:=Tryz.f74) jr (.done (by kernel_rfl)) zb ?_
 rintro ⟨⟨(b:LI),(p:Int),⟨⟩⟩,⟨⟩⟩ out hw ho
 cases ho
 refine (HI b p).trans ?_
 have hl:b.length≤9223372036854775807:=hw.1.1.1
 show _=oR (((ay b p).1,(ay b p).2,()),())
 unfold s5 ay
 by_cases h1:p<0
 ·refine bT (decide_eq_true h1) ?_
  rw[if_pos (.inl h1)]
 refine bF (decide_eq_false h1) ?_
 by_cases h2:(b.length:Int)<p
 ·refine bT (decide_eq_true h2) ?_
  rw[if_pos (.inr h2)]
 refine bF (decide_eq_false h2) ?_
 rw[if_neg (by omega),af (n:=(b.length:Int) - p) (by omega) (by omega)]
 by_cases h3:(b.length:Int) - p<12
 ·refine bT (decide_eq_true h3) ?_
  rw[if_pos h3]
 refine bF (decide_eq_false h3) ?_
 obtain ⟨p,rfl⟩:=au (show 0≤p by omega)
 have e:(ak b (i64.wrap ((p:Int)+8)) 4).1=ap b (p+8) 4:=by
  rw[af (n:=(p:Int)+8) (by omega) (by omega)]
  exact nC (b:=b) (p:=p+8) (n:=4) (by omega)
 rw[if_neg h3,e,zG,af (n:=(b.length:Int) - p - 12) (by omega) (by omega)]
 by_cases h4:ap b (p+8) 4<49
 ·refine bT (decide_eq_true h4) ?_
  rw[if_pos h4]
 refine bF (decide_eq_false h4) ?_
 rw[if_neg h4]
 by_cases h5:35988<ap b (p+8) 4
 ·refine bT (decide_eq_true h5) ?_
  rw[if_pos h5]
 refine bF (decide_eq_false h5) ?_
 rw[if_neg h5]
 by_cases h6:(b.length:Int) - p - 12<ap b (p+8) 4
 ·refine bT (decide_eq_true h6) ?_
  rw[if_pos h6]
 refine bF (decide_eq_false h6) ?_
 rw[if_neg h6,af (n:=ap b (p+8) 4+12) (by omega) (by omega)]
def AY (a0:LI):Option (Out ((sk×Int×Unit)×Unit) Empty):=bif decide (0≤22)&&decide (22<(↑a0.length:Int)) then bif decide ((ak a0 0 8).1<0) then oR (((0,0,0,false,0,0,0,0,0,0,()),80,()),()) else bif decide (4611686018427387648<(ak a0 0 8).1) then oR (((0,0,0,false,0,0,0,0,0,0,()),80,()),()) else bif decide (0≤21)&&decide (21<(↑a0.length:Int)) then bif a0.getD (Int.toNat 21) 0 != 0 then oR (((0,0,0,false,0,0,0,0,0,0,()),83,()),()) else bif decide (0≤22)&&decide (22<(↑a0.length:Int)) then bif decide (1<a0.getD (Int.toNat 22) 0) then oR (((0,0,0,false,0,0,0,0,0,0,()),83,()),()) else bif !!aG (ak a0 43 8).1 (i16.wrap (ak a0 51 2).1) (i32.wrap (ak a0 53 4).1) then oR (((0,0,0,false,0,0,0,0,0,0,()),84,()),()) else bif decide ((ak a0 57 4).1<1) then oR (((0,0,0,false,0,0,0,0,0,0,()),85,()),()) else bif decide (256<(ak a0 57 4).1) then oR (((0,0,0,false,0,0,0,0,0,0,()),9,()),()) else bif (ak a0 23 4).1 != i64.wrap ((ak a0 57 4).1 - 1) then oR (((0,0,0,false,0,0,0,0,0,0,()),72,()),()) else oR ((((ak a0 0 8).1,(↑a0.length:Int),i32.wrap (ak a0 12 4).1,a0.getD (Int.toNat 22) 0 == 1,(ak a0 57 4).1,(ak a0 27 8).1,(ak a0 35 8).1,(ak a0 43 8).1,i16.wrap (ak a0 51 2).1,i32.wrap (ak a0 53 4).1,()),0,()),()) else none else none else none
theorem Ez {b:LI}(hb:∀c∈b,0≤c∧c≤255){p:Nat}(h:p+2≤b.length):i16.wrap (ap b p 2)=ap b p 2:=by
 unfold ap
 rw[← C5 (ic hb p 2) (ij h)]
 exact bA (bJ _ _)
theorem t8 {b:LI}(hb:∀c∈b,0≤c∧c≤255){p:Nat}(h:p+4≤b.length):i32.wrap (ap b p 4)=ap b p 4:=by
 unfold ap
 rw[← p8 (ic hb p 4) (ij h)]
 exact bA (bJ _ _)
theorem EA {b:LI}(hb:∀c∈b,0≤c∧c≤255)(hl:61≤b.length):
  AY b=some (.ret ((if aS (ap b 0 8)=true then (aW,(80,())) else if b.getD 21 0≠0∨1<b.getD 22 0 then (aW,(83,())) else if aG (ap b 43 8) (ap b 51 2) (ap b 53 4)=true then (aW,(84,())) else if ap b 57 4<1 then (aW,(85,())) else if 256<ap b 57 4 then (aW,(9,())) else if ap b 23 4≠ap b 57 4 - 1 then (aW,(72,())) else (gC b,(0,()))),())):=by
 have hz:∀p n:Nat,p+n≤61→(ak b (p:Int) (n:Int)).1=ap b p n:=fun p n h=>nC (by omega)
 have z0:(ak b 0 8).1=ap b 0 8:=hz 0 8 (by decide)
 have z12:(ak b 12 4).1=ap b 12 4:=hz 12 4 (by decide)
 have z23:(ak b 23 4).1=ap b 23 4:=hz 23 4 (by decide)
 have z27:(ak b 27 8).1=ap b 27 8:=hz 27 8 (by decide)
 have z35:(ak b 35 8).1=ap b 35 8:=hz 35 8 (by decide)
 have z43:(ak b 43 8).1=ap b 43 8:=hz 43 8 (by decide)
 have z51:(ak b 51 2).1=ap b 51 2:=hz 51 2 (by decide)
 have z53:(ak b 53 4).1=ap b 53 4:=hz 53 4 (by decide)
 have z57:(ak b 57 4).1=ap b 57 4:=hz 57 4 (by decide)
 have w51:=Ez hb (p:=51) (by omega)
 have w53:=t8 hb (p:=53) (by omega)
 have w12:=t8 hb (p:=12) (by omega)
 unfold AY
 rw[z0,z12,z23,z27,z35,z43,z51,z53,z57,w51,w53,w12]
 have hI:gC b=(ap b 0 8,(b.length:Int),ap b 12 4,decide (b.getD 22 0=1),ap b 57 4,ap b 27 8,ap b 35 8,ap b 43 8,ap b 51 2,ap b 53 4,()):=rfl
 have hB:aS (ap b 0 8)=(decide (ap b 0 8<0) || decide (4611686018427387648<ap b 0 8)):=rfl
 have hxy:(b.getD (Int.toNat 22) 0 == 1)=decide (b.getD 22 0=1):=by
  show (b.getD 22 0 == 1)=_
  by_cases h:b.getD 22 0=1
  ·rw[h];rfl
  ·rw[decide_eq_false h];exact beq_eq_false_iff_ne.2 h
 rw[hI,hB,hxy,show Int.toNat 21=21 from rfl,show Int.toNat 22=22 from rfl]
 generalize b.getD 21 0=x at *
 generalize b.getD 22 0=y at *
 generalize ap b 0 8=base at *
 generalize ap b 57 4=cnt at *
 generalize ap b 23 4=mst at *
 refine bT (by simp only[zA,zB];omega) ?_
 by_cases c0:base<0
 ·refine bT (decide_eq_true c0) ?_
  rw[if_pos (by rw[decide_eq_true c0];rfl)]
  rfl
 refine bF (decide_eq_false c0) ?_
 by_cases c1:4611686018427387648<base
 ·refine bT (decide_eq_true c1) ?_
  rw[if_pos (by rw[decide_eq_true c1,Bool.or_true])]
  rfl
 refine bF (decide_eq_false c1) ?_
 rw[if_neg (by rw[decide_eq_false c0,decide_eq_false c1];decide)]
 refine bT (by simp only[zA,zB];omega) ?_
 by_cases c2:x=0
 rotate_left
 ·refine bT (by simpa using c2) ?_
  rw[if_pos (.inl c2)]
  rfl
 refine bF (by simpa using c2) ?_
 refine bT (by simp only[zA,zB];omega) ?_
 by_cases c3:1<y
 ·refine bT (decide_eq_true c3) ?_
  rw[if_pos (.inr c3)]
  rfl
 refine bF (decide_eq_false c3) ?_
 rw[if_neg (by rintro (h | h);exact h c2;exact c3 h)]
 cases c3:aG (ap b 43 8) (ap b 51 2) (ap b 53 4) with
 |true=>exact (ab rfl _ _)
 |false=>
 refine (ac rfl _ _).trans ?_
 rw[if_neg (show ¬ false=true by decide)]
 by_cases c4:cnt<1
 ·refine bT (decide_eq_true c4) ?_
  rw[if_pos c4]
  rfl
 refine bF (decide_eq_false c4) ?_
 rw[if_neg c4]
 by_cases c5:256<cnt
 ·refine bT (decide_eq_true c5) ?_
  rw[if_pos c5]
  rfl
 refine bF (decide_eq_false c5) ?_
 rw[if_neg c5,af (n:=cnt - 1) (by omega) (by omega)]
 by_cases c6:mst=cnt - 1
 ·refine bF (by simpa using c6) ?_
  rw[if_neg (aD c6)]
 ·refine bT (by simpa using c6) ?_
  rw[if_pos c6]
  rfl
abbrev gZ:Io:=⟨[dL,dB],[],[],[Fv,dI],none⟩
def za (d:gZ.In):Tr gZ.Res:=.ret (.ret (((ai d.1.1 d.1.2.1).1,(ai d.1.1 d.1.2.1).2,()),()))
abbrev BQ:List (Nat×Hc):=[(74,ah jr zb),(75,ah kj Bg),(43,ah hC zc),(31,ah iZ vX),(62,ah eU qh),(63,ah gf uh)]
def I3:Hd:=bt BQ
def CB:Lp:=bG []
def s4 (a0:LI)(a1:Bool):Option gZ.Res:=bif decide ((↑a0.length:Int)<61) then oR (((0,0,0,false,0,0,0,0,0,0,()),1,()),()) else bif (ay a0 0).2 != 0 then oR (((0,0,0,false,0,0,0,0,0,0,()),(ay a0 0).2,()),()) else bif decide ((ay a0 0).1<(↑a0.length:Int)) then oR (((0,0,0,false,0,0,0,0,0,0,()),2,()),()) else bif decide (0≤16)&&decide (16<(↑a0.length:Int)) then bif a0.getD (Int.toNat 16) 0 != 2 then oR (((0,0,0,false,0,0,0,0,0,0,()),81,()),()) else bif a1 then bif decide (0≤17)&&(decide (17≤21)&&decide (21≤(↑a0.length:Int))) then bif decide (0≤21)&&(decide (21≤(↑a0.length:Int))&&decide ((↑a0.length:Int)≤(↑a0.length:Int))) then bif !decide (List.drop (Int.toNat 17) (List.take (Int.toNat 21) a0)=aF (i64.wrap (cy 0 (List.drop (Int.toNat 21) (List.take (↑a0.length:Int).toNat a0)))) (Int.toNat 4)) then oR (((0,0,0,false,0,0,0,0,0,0,()),82,()),()) else bif decide (0≤22)&&decide (22<(↑a0.length:Int)) then bif decide ((ak a0 0 8).1<0) then oR (((0,0,0,false,0,0,0,0,0,0,()),80,()),()) else bif decide (4611686018427387648<(ak a0 0 8).1) then oR (((0,0,0,false,0,0,0,0,0,0,()),80,()),()) else bif decide (0≤21)&&decide (21<(↑a0.length:Int)) then bif a0.getD (Int.toNat 21) 0 != 0 then oR (((0,0,0,false,0,0,0,0,0,0,()),83,()),()) else bif decide (0≤22)&&decide (22<(↑a0.length:Int)) then bif decide (1<a0.getD (Int.toNat 22) 0) then oR (((0,0,0,false,0,0,0,0,0,0,()),83,()),()) else bif !!aG (ak a0 43 8).1 (i16.wrap (ak a0 51 2).1) (i32.wrap (ak a0 53 4).1) then oR (((0,0,0,false,0,0,0,0,0,0,()),84,()),()) else bif decide ((ak a0 57 4).1<1) then oR (((0,0,0,false,0,0,0,0,0,0,()),85,()),()) else bif decide (256<(ak a0 57 4).1) then oR (((0,0,0,false,0,0,0,0,0,0,()),9,()),()) else bif (ak a0 23 4).1 != i64.wrap ((ak a0 57 4).1 - 1) then oR (((0,0,0,false,0,0,0,0,0,0,()),72,()),()) else oR ((((ak a0 0 8).1,(↑a0.length:Int),i32.wrap (ak a0 12 4).1,a0.getD (Int.toNat 22) 0 == 1,(ak a0 57 4).1,(ak a0 27 8).1,(ak a0 35 8).1,(ak a0 43 8).1,i16.wrap (ak a0 51 2).1,i32.wrap (ak a0 53 4).1,()),0,()),()) else none else none else none else none else none else bif decide (0≤22)&&decide (22<(↑a0.length:Int)) then bif decide ((ak a0 0 8).1<0) then oR (((0,0,0,false,0,0,0,0,0,0,()),80,()),()) else bif decide (4611686018427387648<(ak a0 0 8).1) then oR (((0,0,0,false,0,0,0,0,0,0,()),80,()),()) else bif decide (0≤21)&&decide (21<(↑a0.length:Int)) then bif a0.getD (Int.toNat 21) 0 != 0 then oR (((0,0,0,false,0,0,0,0,0,0,()),83,()),()) else bif decide (0≤22)&&decide (22<(↑a0.length:Int)) then bif decide (1<a0.getD (Int.toNat 22) 0) then oR (((0,0,0,false,0,0,0,0,0,0,()),83,()),()) else bif !!aG (ak a0 43 8).1 (i16.wrap (ak a0 51 2).1) (i32.wrap (ak a0 53 4).1) then oR (((0,0,0,false,0,0,0,0,0,0,()),84,()),()) else bif decide ((ak a0 57 4).1<1) then oR (((0,0,0,false,0,0,0,0,0,0,()),85,()),()) else bif decide (256<(ak a0 57 4).1) then oR (((0,0,0,false,0,0,0,0,0,0,()),9,()),()) else bif (ak a0 23 4).1 != i64.wrap ((ak a0 57 4).1 - 1) then oR (((0,0,0,false,0,0,0,0,0,0,()),72,()),()) else oR ((((ak a0 0 8).1,(↑a0.length:Int),i32.wrap (ak a0 12 4).1,a0.getD (Int.toNat 22) 0 == 1,(ak a0 57 4).1,(ak a0 27 8).1,(ak a0 35 8).1,(ak a0 43 8).1,i16.wrap (ak a0 51 2).1,i32.wrap (ak a0 53 4).1,()),0,()),()) else none else none else none else none
theorem HH (a0:LI)(a1:Bool):Io.run tt I3 dr CB gZ Tryz.f39 ((a0,a1,()),())=s4 a0 a1:=by kernel_rfl
theorem Jy:HcOk prog 39 (ah gZ za):=by
 refine bL (cs:=BQ) (.cons Jz (.cons G6 (.cons JA (.cons Aj (.cons DL (.cons GI .nil)))))) (lp:=CB) (fn:=Tryz.f39) gZ (.done (by kernel_rfl)) za ?_
 rintro ⟨⟨(b:LI),(sm:Bool),⟨⟩⟩,⟨⟩⟩ out hw ho
 cases ho
 have hb:∀c∈b,0≤c∧c≤255:=cZ hw.1.1
 refine (HH b sm).trans ?_
 show _=oR (((ai b sm).1,(ai b sm).2,()),())
 have eE:aU b sm=if (b.length:Int)<61 then 1 else if (ay b 0).2≠0 then (ay b 0).2 else if (ay b 0).1<(b.length:Int) then 2 else if b.getD 16 0≠2 then 81 else if sm=true∧fP b=false then 82
   else if aS (ap b 0 8)=true then 80 else if b.getD 21 0≠0∨1<b.getD 22 0 then 83 else if aG (ap b 43 8) (ap b 51 2) (ap b 53 4)=true then 84 else if ap b 57 4<1 then 85 else if 256<ap b 57 4 then 9 else if ap b 23 4≠ap b 57 4 - 1 then 72 else 0:=rfl
 have fin:∀e:Int,e≠0→aU b sm=e→some (Out.ret ((aW,(e,())),()):gZ.Res)=oR (((ai b sm).1,(ai b sm).2,()),()):=by
  intro e he h
  have:ai b sm=(aW,e):=by unfold ai;rw[h,if_pos he]
  rw[this]
 unfold s4
 by_cases h1:(b.length:Int)<61
 ·refine bT (decide_eq_true h1) ?_
  exact fin 1 (by decide) (by rw[eE,if_pos h1])
 refine bF (decide_eq_false h1) ?_
 rw[if_neg h1] at eE
 by_cases h2:(ay b 0).2=0
 rotate_left
 ·refine bT (by simpa using h2) ?_
  exact fin _ h2 (by rw[eE,if_pos h2])
 refine bF (by simpa using h2) ?_
 rw[if_neg (aD h2)] at eE
 by_cases h3:(ay b 0).1<(b.length:Int)
 ·refine bT (decide_eq_true h3) ?_
  exact fin 2 (by decide) (by rw[eE,if_pos h3])
 refine bF (decide_eq_false h3) ?_
 rw[if_neg h3] at eE
 refine bT (by simp only[zA,zB];omega) ?_
 rw[show Int.toNat 16=16 from rfl]
 by_cases h4:b.getD 16 0=2
 rotate_left
 ·refine bT (by simpa using h4) ?_
  exact fin 81 (by decide) (by rw[eE,if_pos h4])
 refine bF (by simpa using h4) ?_
 rw[if_neg (aD h4)] at eE
 have hT:=EA hb (by omega)
 have fin2:¬(sm=true∧fP b=false)→AY b=oR (((ai b sm).1,(ai b sm).2,()),()):=by
  intro hn
  rw[if_neg hn] at eE
  rw[hT]
  have hs:ai b sm=if aU b sm≠0 then (aW,aU b sm) else (gC b,0):=rfl
  rw[hs,eE]
  by_cases d1:aS (ap b 0 8)=true
  ·rw[if_pos d1,if_pos d1,if_pos (by decide)]
  rw[if_neg d1,if_neg d1]
  by_cases d2:b.getD 21 0≠0∨1<b.getD 22 0
  ·rw[if_pos d2,if_pos d2,if_pos (by decide)]
  rw[if_neg d2,if_neg d2]
  by_cases d3:aG (ap b 43 8) (ap b 51 2) (ap b 53 4)=true
  ·rw[if_pos d3,if_pos d3,if_pos (by decide)]
  rw[if_neg d3,if_neg d3]
  by_cases d4:ap b 57 4<1
  ·rw[if_pos d4,if_pos d4,if_pos (by decide)]
  rw[if_neg d4,if_neg d4]
  by_cases d5:256<ap b 57 4
  ·rw[if_pos d5,if_pos d5,if_pos (by decide)]
  rw[if_neg d5,if_neg d5]
  by_cases d6:ap b 23 4≠ap b 57 4 - 1
  ·rw[if_pos d6,if_pos d6,if_pos (by decide)]
  rw[if_neg d6,if_neg d6,if_neg (by decide)]
 cases sm with
 |false=>
  refine (ac rfl _ _).trans ?_
  exact fin2 (fun h=>by cases h.1)
 |true=>
  refine (ab rfl _ _).trans ?_
  rw[zG,List.take_length,show Int.toNat 21=21 from rfl,show Int.toNat 17=17 from rfl]
  refine bT (by simp only[zA,zB];omega) ?_
  refine bT (by simp only[zA,zB];omega) ?_
  have hc:=yw 0 (b:=b.drop 21) (by decide) (fun x h=>hb x (List.mem_of_mem_drop h))
  have e17:List.drop 17 (List.take 21 b)=(b.drop 17).take 4:=by rw[List.drop_take]
  rw[af (by omega) (by omega),e17]
  have hS:fP b=if (b.drop 17).take 4=aF (cy 0 (b.drop 21)) 4 then true else false:=rfl
  by_cases h5:(b.drop 17).take 4=aF (cy 0 (b.drop 21)) 4
  ·rw[if_pos h5] at hS
   refine bF (by rw[show Int.toNat 4=4 from rfl,decide_eq_true h5];rfl) ?_
   exact fin2 (by rw[hS];exact fun h=>by cases h.2)
  ·rw[if_neg h5] at hS
   refine bT (by rw[show Int.toNat 4=4 from rfl,decide_eq_false h5];rfl) ?_
   exact fin 82 (by decide) (by rw[eE,if_pos ⟨rfl,hS⟩])
end
end Go.Proofs.YtcbcbjdobbgddaaGreatDoor.Sym
