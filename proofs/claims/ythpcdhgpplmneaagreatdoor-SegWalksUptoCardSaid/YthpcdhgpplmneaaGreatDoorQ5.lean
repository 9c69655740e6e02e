/- Tokens: carried out as they are read. -/
import Derived.Test.YthpcdhgpplmneaaGreatDoorQ4

set_option linter.unusedVariables false
set_option linter.unusedSimpArgs false
namespace Go.Proofs.YthpcdhgpplmneaaGreatDoor.Sym
open Go
open Go.IntKind (i8 i16 i32 i64 u8 u16 u32 u64)
noncomputable section
abbrev dH:Ty:=.prod bs (.prod (.int .i64) (.prod (.int .i64) .unit))
abbrev BQ:Sh:=.dat dH true false
abbrev gu:Type:=LI×Int×Int×Unit
def ew:gu:=([],0,0,())
def aN (b:LI):gu×Int×Int:=
 if b.getD 0 0<128 then (if (b.length:Int)<b.getD 0 0+2 then (ew,0,1) else (((b.drop 1).take (b.getD 0 0+1).toNat,0,0,()),b.getD 0 0+2,0))
 else if (b.length:Int)<3 then (ew,0,1)
 else if b.getD 1 0*256+b.getD 2 0<1∨4096<b.getD 1 0*256+b.getD 2 0 then (ew,0,50)
 else (([],b.getD 1 0*256+b.getD 2 0,b.getD 0 0 - 124,()),3,0)
def iK (t:gu):Bool:=if t.2.1≠0 then true else decide (t.2.2.1≠0)
def fF (t:gu):Bool:=
 if iK t=true then decide (0<t.1.length) || (decide (t.2.1<1) || (decide (4096<t.2.1) || (decide (t.2.2.1<4) || decide (131<t.2.2.1))))
 else decide (t.1.length<1) || decide (128<t.1.length)
def ch (d:Nat):Nat→LI→LI
 |0,out=>out
 |n+1,out=>ch d n (out++[out.getD (out.length - d) 0])
def aX (out:LI)(t:gu)(most:Int):LI×Int:=
 if fF t=true∨(out.length:Int)<t.2.1 then ([],50)
 else if most<(out.length:Int)+t.1.length+t.2.2.1 then ([],4)
 else (ch t.2.1.toNat t.2.2.1.toNat (out++t.1),0)
def bn:Nat→LI→LI→Int→LI×Int
 |0,_,out,_=>(out,0)
 |k+1,b,out,m=>
  if b=[] then (out,0)
  else if (aN b).2.2≠0 then ([],(aN b).2.2)
  else if (aX out (aN b).1 m).2≠0 then ([],(aX out (aN b).1 m).2)
  else bn k (b.drop (aN b).2.1.toNat) (aX out (aN b).1 m).1 m
def ay (m:Int):Int:=pS (cp m 0) 32768
def aq (b:LI)(most:Int):LI×Int:=if b=[] then ([],0) else bn (b.length+1) b [] (ay most)
theorem Dg {b:LI}(hb:∀c∈b,0≤c∧c≤255)(h:(aN b).2.2=0)(hne:b≠[]):2≤(aN b).2.1∧(aN b).2.1≤b.length:=by
 have h0:0≤b.getD 0 0:=by
  cases b with
  |nil=>exact absurd rfl hne
  |cons x l=>exact (hb x (by simp)).1
 unfold aN at h ⊢
 split
 ·rename_i h1
  rw[if_pos h1] at h
  split
  ·rename_i h2;rw[if_pos h2] at h;cases h
  ·simp only;omega
 ·rename_i h1
  rw[if_neg h1] at h
  split
  ·rename_i h2;rw[if_pos h2] at h;cases h
  ·rename_i h2
   rw[if_neg h2] at h
   split
   ·rename_i h3;rw[if_pos h3] at h;cases h
   ·simp only;omega
theorem t3 {b:LI}(h:Ty.wf bs b)(i:Nat):0≤b.getD i 0∧b.getD i 0≤255:=by
 rw[List.getD_eq_getElem?_getD]
 cases e:b[i]? with
 |none=>exact ⟨by decide,by decide⟩
 |some x=>exact dA h x (List.mem_of_getElem? e)
theorem Qo {v c:Int}(h0:0≤v)(h1:v≤255)(h2:0≤c)(h3:c≤255):nh .i64 (fQ .i64 v 8) c=v*256+c:=by
 have e1:fQ .i64 v 8=v*256:=by
  show IntKind.wrap .i64 (v*2 ^ 8)=_
  rw[show v*2 ^ 8=v*256 by omega]
  exact ae (by omega) (by omega)
 rw[e1]
 obtain ⟨v,rfl⟩:=au h0
 obtain ⟨c,rfl⟩:=au h2
 have e4:=Nat.two_pow_add_eq_or_of_lt (show c<2 ^ 8 by omega) v
 show IntKind.wrap .i64 ((BitVec.ofInt 64 ((v:Int)*256) ||| BitVec.ofInt 64 (c:Int)).toNat:Int)=_
 have e2:(BitVec.ofInt 64 (c:Int)).toNat=c:=by rw[BitVec.toNat_ofInt];omega
 have e3:(BitVec.ofInt 64 ((v:Int)*256)).toNat=2 ^ 8*v:=by rw[BitVec.toNat_ofInt];omega
 rw[BitVec.toNat_or,e2,e3,← e4]
 rw[ae (by omega) (by omega)]
 omega
theorem K1 {lit:LI}{d len:Int}(h:fF (lit,d,len,())=false):(0≤len∧len≤131∧lit.length≤128)∧(len=0∧d=0∧1≤lit.length∨lit.length=0∧1≤d∧d≤4096∧4≤len):=by
 have e:fF (lit,d,len,())=if iK (lit,d,len,())=true then decide (0<lit.length) || (decide (d<1) || (decide (4096<d) || (decide (len<4) || decide (131<len)))) else decide (lit.length<1) || decide (128<lit.length):=rfl
 have e2:iK (lit,d,len,())=if d≠0 then true else decide (len≠0):=rfl
 rw[e] at h
 split at h
 ·simp only[Bool.or_eq_false_iff,decide_eq_false_iff_not] at h
  omega
 ·rename_i h2
  rw[e2] at h2
  simp only[Bool.or_eq_false_iff,decide_eq_false_iff_not] at h
  split at h2
  ·exact absurd rfl h2
  ·rename_i h3
   simp only[zB] at h2
   omega
theorem kY (d:Nat):∀(n:Nat) (out:LI),(ch d n out).length=out.length+n
 |0,_=>rfl
 |n+1,out=>by rw[ch,kY d n];simp;omega
theorem yg (b:LI):(aN b).1.1.length≤b.length:=by
 unfold aN
 split
 ·split
  ·simp[ew]
  ·simp;omega
 ·split
  ·simp[ew]
  ·split
   ·simp[ew]
   ·simp
theorem oB (m:Int):0≤ay m∧ay m≤32768:=by
 unfold ay pS cp
 split <;> split <;> omega
theorem oC {out:LI}{t:gu}{m:Int}(h:(aX out t m).2=0):((aX out t m).1.length:Int)≤m:=by
 obtain ⟨lit,d,len,⟨⟩⟩:=t
 unfold aX at h ⊢
 split
 ·rename_i h1;rw[if_pos h1] at h;cases h
 ·rename_i h1
  rw[if_neg h1] at h
  have hi:fF (lit,d,len,())=false:=by
   cases e:fF (lit,d,len,()) with
   |false=>rfl
   |true=>exact absurd (.inl e) h1
  obtain ⟨i1,i2⟩:=K1 hi
  split
  ·rename_i h2;rw[if_pos h2] at h;cases h
  ·rename_i h2
   have h2:¬ m<(out.length:Int)+lit.length+len:=h2
   show ((ch d.toNat len.toNat (out++lit)).length:Int)≤m
   rw[kY,zH]
   omega
theorem iL:∀(k:Nat) (b out:LI) (m:Int),(bn k b out m).2≠0→(bn k b out m).1=[]
 |0,_,_,_,h=>absurd rfl h
 |k+1,b,out,m,h=>by
  unfold bn at h ⊢
  split
  ·rename_i h1;rw[if_pos h1] at h;exact absurd rfl h
  ·rename_i h1
   rw[if_neg h1] at h
   split
   ·rfl
   ·rename_i h2
    rw[if_neg h2] at h
    split
    ·rfl
    ·rename_i h3
     rw[if_neg h3] at h
     exact iL k _ _ _ h
theorem ya:∀(k:Nat) (b out:LI) (m:Int),(out.length:Int)≤m→((bn k b out m).1.length:Int)≤m
 |0,_,_,_,h=>h
 |k+1,b,out,m,h=>by
  have h0:((([]:LI),(0:Int)).1.length:Int)≤m:=by simp;omega
  unfold bn
  split
  ·exact h
  ·split
   ·simp;omega
   ·split
    ·simp;omega
    ·rename_i h3
     exact ya k _ _ _ (oC (by simpa using h3))
theorem dE (b:LI)(m:Int):aq b m=bn (b.length+1) b [] (ay m):=by
 unfold aq
 split
 ·rename_i h
  subst h
  rfl
 ·rfl
def aY (b:LI):LI×Int:=
 if (ab 10 1 b 0).2.2≠0 then ([],(ab 10 1 b 0).2.2)
 else if al (ab 10 1 b 0).1<0 then ([],5)
 else if 32768<al (ab 10 1 b 0).1 then ([],4)
 else if (aq (b.drop (ab 10 1 b 0).2.1.toNat) (al (ab 10 1 b 0).1)).2=4∨(aq (b.drop (ab 10 1 b 0).2.1.toNat) (al (ab 10 1 b 0).1)).2=0∧((aq (b.drop (ab 10 1 b 0).2.1.toNat) (al (ab 10 1 b 0).1)).1.length:Int)<al (ab 10 1 b 0).1 then ([],60)
 else if (aq (b.drop (ab 10 1 b 0).2.1.toNat) (al (ab 10 1 b 0).1)).2≠0 then ([],(aq (b.drop (ab 10 1 b 0).2.1.toNat) (al (ab 10 1 b 0).1)).2)
 else ((aq (b.drop (ab 10 1 b 0).2.1.toNat) (al (ab 10 1 b 0).1)).1,0)
abbrev kD:Io:=⟨[BQ],[],[],[dB],none⟩
def DP (d:kD.In):Tr kD.Res:=.ret (.ret ((iK d.1.1,()),()))
abbrev FW:List (Nat×Hc):=[]
def N0:Hd:=bG FW
def GZ:Lp:=bM []
def wO (a0:LI)(a1 a2:Int):Option kD.Res:=bif a1 != 0 then oR ((true,()),()) else oR ((a2 != 0,()),())
theorem MB (a0:LI)(a1 a2:Int):Io.run tt N0 dr GZ kD Tryz.f165 (((a0,a1,a2,()),()),())=wO a0 a1 a2:=by kernel_rfl
theorem OH:HcOk prog 165 (ah kD DP):=by
 refine bQ (cs:=FW) HcsOk.nil (lp:=GZ) (fn:=Tryz.f165) kD (.done (by kernel_rfl)) DP ?_
 rintro ⟨⟨⟨(a0:LI),(a1:Int),(a2:Int),⟨⟩⟩,⟨⟩⟩,⟨⟩⟩ out hw ho
 cases ho
 refine (MB a0 a1 a2).trans ?_
 show _=oR ((iK (a0,a1,a2,()),()),())
 unfold wO
 show _=oR (((if a1≠0 then true else decide (a2≠0)),()),())
 by_cases h1:a1=0
 ·refine bF (by simp[h1]) ?_
  rw[if_neg (by simp[h1])]
  by_cases h2:a2=0 <;> simp[h2]
 ·refine bT (by simp[h1]) ?_
  rw[if_pos h1]
abbrev jk:Io:=⟨[BQ],[],[],[dB],none⟩
def yO (d:jk.In):Tr jk.Res:=.ret (.ret ((fF d.1.1,()),()))
abbrev FY:List (Nat×Hc):=[(165,ah kD DP)]
def N1:Hd:=bG FY
def G4:Lp:=bM []
def wQ (a0:LI)(a1 a2:Int):Option jk.Res:=bif !iK (a0,a1,a2,()) then bif decide ((↑a0.length:Int)<1) then oR ((true,()),()) else oR ((decide (128<(↑a0.length:Int)),()),()) else bif decide (0<(↑a0.length:Int)) then oR ((true,()),()) else bif decide (a1<1) then oR ((true,()),()) else bif decide (4096<a1) then oR ((true,()),()) else bif decide (a2<4) then oR ((true,()),()) else oR ((decide (131<a2),()),())
theorem MD (a0:LI)(a1 a2:Int):Io.run tt N1 dr G4 jk Tryz.f164 (((a0,a1,a2,()),()),())=wQ a0 a1 a2:=by kernel_rfl
theorem Ht:HcOk prog 164 (ah jk yO):=by
 refine bQ (cs:=FY) (.cons OH .nil) (lp:=G4) (fn:=Tryz.f164) jk (.done (by kernel_rfl)) yO ?_
 rintro ⟨⟨⟨(a0:LI),(a1:Int),(a2:Int),⟨⟩⟩,⟨⟩⟩,⟨⟩⟩ out hw ho
 cases ho
 refine (MD a0 a1 a2).trans ?_
 show _=oR ((fF (a0,a1,a2,()),()),())
 unfold wQ
 have e:fF (a0,a1,a2,())=if iK (a0,a1,a2,())=true then decide (0<a0.length) || (decide (a1<1) || (decide (4096<a1) || (decide (a2<4) || decide (131<a2)))) else decide (a0.length<1) || decide (128<a0.length):=rfl
 rw[e]
 cases iK (a0,a1,a2,()) with
 |false=>
  refine (aa rfl _ _).trans ?_
  rw[if_neg (by decide)]
  by_cases h:a0.length<1
  ·refine bT (by simp;omega) ?_
   simp[h]
  ·refine bF (decide_eq_false (show ¬((a0.length:Int)<1) by omega)) ?_
   have e2:decide (128<(a0.length:Int))=decide (128<a0.length):=by by_cases h2:128<a0.length <;> simp[h2] <;> omega
   simp only[h,decide_false,Bool.false_or,e2]
 |true=>
  refine (af rfl _ _).trans ?_
  rw[if_pos rfl]
  by_cases h:0<a0.length
  ·refine bT (by simp;omega) ?_
   simp[h]
  ·refine bF (decide_eq_false (show ¬(0<(a0.length:Int)) by omega)) ?_
   by_cases h1:a1<1
   ·refine bT (by simpa using h1) ?_
    simp[h1]
   ·refine bF (by simpa using h1) ?_
    by_cases h2:4096<a1
    ·refine bT (by simpa using h2) ?_
     simp[h2]
    ·refine bF (by simpa using h2) ?_
     by_cases h3:a2<4
     ·refine bT (by simpa using h3) ?_
      simp[h3]
     ·refine bF (by simpa using h3) ?_
      simp only[h,h1,h2,h3,decide_false,Bool.false_or]
abbrev kF:Io:=⟨[dL],[],[],[BQ,dI,dI],none⟩
def DR (d:kF.In):Tr kF.Res:=.ite (decide (1≤d.1.1.length)) (.ret (.ret (((aN d.1.1).1,(aN d.1.1).2.1,(aN d.1.1).2.2,()),()))) .no
abbrev FZ:List (Nat×Hc):=[(164,ah jk yO)]
def N2:Hd:=bG FZ
def G5:Lp:=bM []
def wR (a0:LI):Option kF.Res:=bif decide (0≤0)&&decide (0<(↑a0.length:Int)) then bif decide (i64.wrap (a0.getD (Int.toNat 0) 0)<128) then bif decide ((↑a0.length:Int)<i64.wrap (i64.wrap (a0.getD (Int.toNat 0) 0)+2)) then oR ((([],0,0,()),0,1,()),()) else bif decide (0≤1)&&(decide (1≤i64.wrap (i64.wrap (a0.getD (Int.toNat 0) 0)+2))&&decide (i64.wrap (i64.wrap (a0.getD (Int.toNat 0) 0)+2)≤(↑a0.length:Int))) then oR (((List.drop (Int.toNat 1) (List.take (i64.wrap (i64.wrap (a0.getD (Int.toNat 0) 0)+2)).toNat a0),0,0,()),i64.wrap (i64.wrap (a0.getD (Int.toNat 0) 0)+2),0,()),()) else none else bif decide ((↑a0.length:Int)<3) then oR ((([],0,0,()),0,1,()),()) else bif decide (0≤1)&&decide (1<(↑a0.length:Int)) then bif decide (0≤2)&&decide (2<(↑a0.length:Int)) then bif fF ([],nh i64 (fQ i64 (i64.wrap (a0.getD (Int.toNat 1) 0)) 8) (i64.wrap (a0.getD (Int.toNat 2) 0)),i64.wrap (i64.wrap (i64.wrap (a0.getD (Int.toNat 0) 0) - 128)+4),()) then oR ((([],0,0,()),0,50,()),()) else oR ((([],nh i64 (fQ i64 (i64.wrap (a0.getD (Int.toNat 1) 0)) 8) (i64.wrap (a0.getD (Int.toNat 2) 0)),i64.wrap (i64.wrap (i64.wrap (a0.getD (Int.toNat 0) 0) - 128)+4),()),3,0,()),()) else none else none else none
theorem ME (a0:LI):Io.run tt N2 dr G5 kF Tryz.f167 ((a0,()),())=wR a0:=by kernel_rfl
theorem OJ:HcOk prog 167 (ah kF DR):=by
 refine bQ (cs:=FZ) (.cons Ht .nil) (lp:=G5) (fn:=Tryz.f167) kF (.done (by kernel_rfl)) DR ?_
 rintro ⟨⟨(b:LI),⟨⟩⟩,⟨⟩⟩ out hw ho
 obtain ⟨hg,ho⟩:=Tr.guard ho
 have hg:1≤b.length:=of_decide_eq_true hg
 cases ho
 refine (ME b).trans ?_
 show _=oR (((aN b).1,(aN b).2.1,(aN b).2.2,()),())
 have hb:Ty.wf bs b:=hw.1.1
 have hbl:b.length≤maxLen:=hb.1
 rw[ba] at hbl
 have c0:=t3 hb 0
 have c1:=t3 hb 1
 have c2:=t3 hb 2
 unfold wR
 simp only[show Int.toNat 0=0 from rfl,show Int.toNat 1=1 from rfl,show Int.toNat 2=2 from rfl]
 refine bT (by simp;omega) ?_
 have w0:i64.wrap (b.getD 0 0)=b.getD 0 0:=ae (by omega) (by omega)
 have w1:i64.wrap (b.getD 1 0)=b.getD 1 0:=ae (by omega) (by omega)
 have w2:i64.wrap (b.getD 2 0)=b.getD 2 0:=ae (by omega) (by omega)
 rw[w0,w1,w2,Qo c1.1 c1.2 c2.1 c2.2,ae (n:=b.getD 0 0+2) (by omega) (by omega),ae (n:=b.getD 0 0 - 128) (by omega) (by omega),ae (n:=b.getD 0 0 - 128+4) (by omega) (by omega),show b.getD 0 0 - 128+4=b.getD 0 0 - 124 by omega]
 unfold aN
 generalize b.getD 0 0=c at *
 generalize b.getD 1 0=x at *
 generalize b.getD 2 0=y at *
 by_cases h1:c<128
 ·refine bT (by simpa using h1) ?_
  rw[if_pos h1]
  by_cases h2:(b.length:Int)<c+2
  ·refine bT (by simpa using h2) ?_
   rw[if_pos h2]
   rfl
  ·refine bF (by simpa using h2) ?_
   refine bT (by simp;omega) ?_
   rw[if_neg h2,List.drop_take,show (c+2).toNat - 1=(c+1).toNat by omega]
 ·refine bF (by simpa using h1) ?_
  rw[if_neg h1]
  by_cases h2:(b.length:Int)<3
  ·refine bT (by simpa using h2) ?_
   rw[if_pos h2]
   rfl
  ·refine bF (by simpa using h2) ?_
   refine bT (by simp;omega) ?_
   refine bT (by simp;omega) ?_
   rw[if_neg h2]
   have hi:fF ([],x*256+y,c - 124,())=decide (x*256+y<1∨4096<x*256+y):=by
    have hc:iK ([],x*256+y,c - 124,())=true:=by
     show (if x*256+y≠0 then true else decide (c - 124≠0))=true
     split
     ·rfl
     ·exact decide_eq_true (by omega)
    show (if iK ([],x*256+y,c - 124,())=true then decide (0<0) || (decide (x*256+y<1) || (decide (4096<x*256+y) || (decide (c - 124<4) || decide (131<c - 124)))) else _)=_
    rw[if_pos hc]
    have g1:decide (c - 124<4)=false:=decide_eq_false (by omega)
    have g2:decide (131<c - 124)=false:=decide_eq_false (by omega)
    rw[g1,g2]
    simp
   by_cases h3:x*256+y<1∨4096<x*256+y
   ·refine bT (by rw[hi];exact decide_eq_true h3) ?_
    rw[if_pos h3]
    rfl
   ·refine bF (by rw[hi];exact decide_eq_false h3) ?_
    rw[if_neg h3]
abbrev f3:Io:=⟨[dO,BQ,dI],[],[],[dO,dI],none⟩
def tu (d:f3.In):Tr f3.Res:=.ite (decide (d.1.1.length≤4294960000)&&(decide (d.1.2.1.1.length≤4294960000)&&decide ((d.1.2.2.1:Int)≤(32768:Int)))) (.ret (.ret (((aX d.1.1 d.1.2.1 d.1.2.2.1).1,(aX d.1.1 d.1.2.1 d.1.2.2.1).2,()),()))) .no
abbrev xl:List (Nat×Hc):=[(164,ah jk yO)]
def xF:Hd:=bG xl
abbrev cD:Lo:=⟨⟨(.one (.onl 5 (Ty.int u8) 1)::.any::bk (.one (.ptr 4 0)::ai (dm (bz (.one hI::.one hI::dm (bz (bk []))))))),[none,none,none,none,some [.hol (.sl 5 (Ty.int u8)),hI,hI]]⟩,[(.exit 0,⟨(.one (.onl 5 (Ty.int u8) 1)::ai (ai (ai []))),[]⟩)]⟩
def hC (d:cD.st.den):Tr (ap cD.xs):=
 .ite (decide (d.1.2.2.1=0)&&(decide ((0:Int)≤d.1.2.1)&&((decide (d.1.2.1=0) || (decide ((1:Int)≤d.2.1.2.1)&&decide (d.2.1.2.1≤(d.1.1.length:Int))))&&decide ((d.1.1.length:Int)+d.1.2.1≤4294967296)))) (.ret (.ret ((),((ch d.2.1.2.1.toNat d.1.2.1.toNat d.1.1,()),())))) .no
def mW:Lp:=bM [(8,aD cD hC)]
def gg {R:Type}(h5:LI)(h6 h7:Int)(h8:LI)(h9 h10:Int)(next:LI→Int→Int→LI→Int→Int→Option R)(out:ap cD.xs→Option R):Option R:=bif decide (h7<h6) then bif decide (0≤i64.wrap ((↑h5.length:Int) - h9))&&decide (i64.wrap ((↑h5.length:Int) - h9)<(↑h5.length:Int)) then bif decide (h5.length+1≤4294967296) then next (h5++[h5.getD (i64.wrap ((↑h5.length:Int) - h9)).toNat 0]) (h6) (i64.wrap (h7+1)) (h8) (h9) (h10) else none else none else out (.ret ((),((h5,()),())))
def jq (n:Nat)(h5:LI)(h6 h7:Int)(h8:LI)(h9 h10:Int):Option (ap cD.xs):=fJ tt xF dr mW 0 Tryz.f168 (bP Tryz.f168 0) n (cD.st.mk' ((h5,(h6,(h7,()))),((h8,(h9,(h10,()))),()))) (bt cD.xs)
theorem mq (n:Nat)(h5:LI)(h6 h7:Int)(h8:LI)(h9 h10:Int):jq (n+1) h5 h6 h7 h8 h9 h10=gg h5 h6 h7 h8 h9 h10 (jq n) some:=by kernel_rfl
theorem vT (lit:LI)(len:Int){d:Nat}:∀(m k i:Nat) (out:LI),m<k→(m=0∨1≤d∧d≤out.length)→out.length+m≤4294967296→i+m≤4294967296→
  jq k out ((i+m:Nat):Int) i lit d len=some (.ret ((),((ch d m out,()),()))):=by
 intro m
 induction m with
 |zero=>
  intro k i out h1 h2 h3 h4
  obtain ⟨k,rfl⟩:∃j,k=j+1:=⟨k - 1,by omega⟩
  rw[mq]
  unfold gg
  refine bF (by simp) ?_
  rfl
 |succ m ih=>
  intro k i out h1 h2 h3 h4
  obtain ⟨k,rfl⟩:∃j,k=j+1:=⟨k - 1,by omega⟩
  rw[mq]
  unfold gg
  have h2:1≤d∧d≤out.length:=by rcases h2 with h | h;omega;exact h
  rw[ae (n:=(out.length:Int) - (d:Int)) (by omega) (by omega),ae (n:=(i:Int)+1) (by omega) (by omega),show ((out.length:Int) - (d:Int)).toNat=out.length - d by omega]
  refine bT (by simp;omega) ?_
  refine bT (by simp;omega) ?_
  refine bT (by simp;omega) ?_
  have:=ih k (i+1) (out++[out.getD (out.length - d) 0]) (by omega) (.inr ⟨h2.1,by simp;omega⟩) (by simp;omega) (by omega)
  rw[show ((i+1+m:Nat):Int)=((i+(m+1):Nat):Int) by omega] at this
  exact this
def ru (a0 a1:LI)(a2 a3 a4:Int):Option f3.Res:=bif fF (a1,a2,a3,()) then oR (([],50,()),()) else bif decide ((↑a0.length:Int)<a2) then oR (([],50,()),()) else bif decide (a4<i64.wrap (i64.wrap ((↑a0.length:Int)+(↑a1.length:Int))+a3)) then oR (([],4,()),()) else bif decide (a0.length+a1.length≤4294967296) then (hC ((a0++a1,(a3,(0,()))),((a1,(a2,(a3,()))),()))).run fun y=>match y with | .ret ((),((x18,()),()))=>(oR ((x18,0,()),())) else none
theorem EF (a0 a1:LI)(a2 a3 a4:Int):Io.run tt xF dr mW f3 Tryz.f168 ((a0,(a1,a2,a3,()),a4,()),())=ru a0 a1 a2 a3 a4:=by kernel_rfl
theorem rG:HcsOk prog xl:=.cons Ht .nil
theorem IC:HcOk prog 168 (ah f3 tu):=by
 refine bQ rG (lp:=mW) (fn:=Tryz.f168) f3 (.step (h0:=aD cD hC) (by kernel_rfl) (f9 rG (lp:=mW) (fn:=Tryz.f168) (.done (by kernel_rfl)) cD hC ?_) (.done (by kernel_rfl))) tu ?_
 ·rintro ⟨⟨(out:LI),(n:Int),(i:Int),⟨⟩⟩,⟨⟨(lit:LI),(d:Int),(len:Int),⟨⟩⟩,⟨⟩⟩⟩ y hw hy
  obtain ⟨hg,hy⟩:=Tr.guard hy
  simp only[zA,Bool.or_eq_true,zB] at hg
  obtain ⟨h1,h2,h3,h4⟩:=hg
  have h1:i=0:=h1
  have h2:0≤n:=h2
  have h3:n=0∨1≤d∧d≤(out.length:Int):=h3
  have h4:(out.length:Int)+n≤4294967296:=h4
  subst h1
  obtain ⟨m,rfl⟩:=au h2
  rcases h3 with h3 | h3
  ·have h3:m=0:=by omega
   subst h3
   refine ⟨1,?_⟩
   rw[← hy]
   show jq (0+1) out ((0:Nat):Int) 0 lit d len=_
   rw[mq]
   unfold gg
   exact af (by simp) _ _
  ·obtain ⟨d,rfl⟩:=au (show 0≤d by omega)
   have:=vT lit len (d:=d) m (m+1) 0 out (by omega) (.inr ⟨by omega,by omega⟩) (by omega) (by omega)
   rw[Nat.zero_add] at this
   refine ⟨m+1,this.trans ?_⟩
   rw[← hy];rfl
 ·rintro ⟨⟨(out:LI),⟨(lit:LI),(d:Int),(len:Int),⟨⟩⟩,(m:Int),⟨⟩⟩,⟨⟩⟩ o hw ho
  obtain ⟨hg,ho⟩:=Tr.guard ho
  simp only[zA,zB] at hg
  obtain ⟨h1,h2,h3⟩:=hg
  have h1:out.length≤4294960000:=h1
  have h2:lit.length≤4294960000:=h2
  have h3:m≤(32768:Int):=h3
  cases ho
  refine (EF out lit d len m).trans ?_
  show _=oR (((aX out (lit,d,len,()) m).1,(aX out (lit,d,len,()) m).2,()),())
  unfold ru aX
  cases hi:fF (lit,d,len,()) with
  |true=>
   refine (aa rfl _ _).trans ?_
   rw[if_pos (.inl rfl)]
  |false=>
   obtain ⟨i1,i2⟩:=K1 hi
   refine (af rfl _ _).trans ?_
   by_cases h4:(out.length:Int)<d
   ·refine bT (by simpa using h4) ?_
    rw[if_pos (.inr h4)]
   ·refine bF (by simpa using h4) ?_
    rw[if_neg (by rintro (h | h);cases h;exact h4 h),ae (n:=(out.length:Int)+(lit.length:Int)) (by omega) (by omega),ae (n:=(out.length:Int)+(lit.length:Int)+len) (by omega) (by omega)]
    by_cases h5:m<(out.length:Int)+(lit.length:Int)+len
    ·refine bT (by simpa using h5) ?_
     rw[if_pos h5]
    ·refine bF (by simpa using h5) ?_
     refine bT (by simp;omega) ?_
     rw[if_neg h5]
     have hg:(decide ((0:Int)=0)&&(decide ((0:Int)≤len)&&((decide (len=0) || (decide ((1:Int)≤d)&&decide (d≤((out++lit).length:Int))))&&decide (((out++lit).length:Int)+len≤4294967296))))=true:=by
      simp only[zA,Bool.or_eq_true,zB,zH]
      refine ⟨trivial,i1.1,?_,by omega⟩
      rcases i2 with h | h
      ·exact .inl h.1
      ·exact .inr ⟨h.2.1,by omega⟩
     have e:hC ((out++lit,(len,(0,()))),((lit,(d,(len,()))),()))=.ite true (.ret (.ret ((),((ch d.toNat len.toNat (out++lit),()),())))) .no:=congrArg (fun c=>Tr.ite c _ _) hg
     rw[e]
     rfl
abbrev f2:Io:=⟨[dI],[],[],[dI],none⟩
def tr (d:f2.In):Tr f2.Res:=.ret (.ret ((ay d.1.1,()),()))
abbrev xk:List (Nat×Hc):=[]
def Ii:Hd:=bG xk
def xL:Lp:=bM []
def Bm (a0:Int):Option f2.Res:=oR ((pS (cp a0 0) 32768,()),())
theorem EE (a0:Int):Io.run tt Ii dr xL f2 Tryz.f169 ((a0,()),())=Bm a0:=by kernel_rfl
theorem IB:HcOk prog 169 (ah f2 tr):=by
 refine bQ (cs:=xk) HcsOk.nil (lp:=xL) (fn:=Tryz.f169) f2 (.done (by kernel_rfl)) tr ?_
 rintro ⟨⟨(m:Int),⟨⟩⟩,⟨⟩⟩ out hw ho
 cases ho
 exact EE m
abbrev kE:Io:=⟨[dL,dI],[],[],[dO,dI],none⟩
def DQ (d:kE.In):Tr kE.Res:=.ite (decide (d.1.1.length≤4294960000)) (.ret (.ret (((aq d.1.1 d.1.2.1).1,(aq d.1.1 d.1.2.1).2,()),()))) .no
abbrev FX:List (Nat×Hc):=[(167,ah kF DR),(169,ah f2 tr),(168,ah f3 tu)]
def Gu:Hd:=bG FX
abbrev d0:Lo:=⟨⟨(.one (.hol (.sl 5 (Ty.int u8)))::.one hI::bz (.one (.onl 5 (Ty.int u8) 13)::.any::ai (dm (bz (bk []))))),[]⟩,[(.ret,⟨(bz (.one (.onl 5 (Ty.int u8) 9)::.one hI::ai (ai ([])))),[]⟩),(.exit 0,⟨(bz (bk (.one (.onl 5 (Ty.int u8) 13)::.any::ai (dm (bz (bk [])))))),[]⟩)]⟩
def lG (d:d0.st.den):Tr (ap d0.xs):=
 .ite (decide (d.1.1.length≤4294960000)&&decide (d.1.2.2.1.length≤32768)) (.ite (decide ((bn (d.1.1.length+1) d.1.1 d.1.2.2.1 (ay d.1.2.1)).2=0)) (.ret (.pan (.ret ((),(((bn (d.1.1.length+1) d.1.1 d.1.2.2.1 (ay d.1.2.1)).1,()),()))))) (.ret (.ret ((),(([],(bn (d.1.1.length+1) d.1.1 d.1.2.2.1 (ay d.1.2.1)).2,()),()))))) .no
def sU:Lp:=bM [(3,aD d0 lG)]
def sa {R:Type}(h2:LI)(h3:Int)(h4:LI)(next:LI→Int→LI→Option R)(out:ap d0.xs→Option R):Option R:=bif decide (0<(↑h2.length:Int)) then bif decide (1≤h2.length) then bif (aN h2).2.2 != 0 then out (.ret ((),(([],((aN h2).2.2,())),()))) else bif decide (h4.length≤4294960000)&&(decide (List.length (aN h2).1.1≤4294960000)&&decide (ay h3≤32768)) then bif (aX h4 (aN h2).1 (ay h3)).2 != 0 then out (.ret ((),(([],((aX h4 (aN h2).1 (ay h3)).2,())),()))) else bif decide (0≤(aN h2).2.1)&&(decide ((aN h2).2.1≤(↑h2.length:Int))&&decide ((↑h2.length:Int)≤(↑h2.length:Int))) then next (List.drop (aN h2).2.1.toNat (List.take (↑h2.length:Int).toNat h2)) (h3) ((aX h4 (aN h2).1 (ay h3)).1) else none else none else none else out (.pan (.ret ((),((h4,()),()))))
def qR (n:Nat)(h2:LI)(h3:Int)(h4:LI):Option (ap d0.xs):=fJ tt Gu dr sU 0 Tryz.f136 (bP Tryz.f136 0) n (d0.st.mk' ((h2,(h3,(h4,()))),())) (bt d0.xs)
theorem Jk (n:Nat)(h2:LI)(h3:Int)(h4:LI):qR (n+1) h2 h3 h4=sa h2 h3 h4 (qR n) some:=by kernel_rfl
theorem Ct (m:Int):∀(k:Nat) (b out:LI),(∀c∈b,0≤c∧c≤255)→b.length<k→b.length≤4294960000→out.length≤32768→
  qR k b m out=if (bn k b out (ay m)).2=0 then some (.pan (.ret ((),(((bn k b out (ay m)).1,()),())))) else some (.ret ((),(([],((bn k b out (ay m)).2,())),()))):=by
 intro k
 induction k with
 |zero=>intro b out _ h;omega
 |succ k ih=>
  intro b out hb h1 h2 h3
  rw[Jk]
  unfold sa
  by_cases hne:b=[]
  ·subst hne
   refine (af rfl _ _).trans ?_
   rfl
  ·have hp:0<b.length:=List.length_pos_iff.2 hne
   have e:bn (k+1) b out (ay m)=if (aN b).2.2≠0 then ([],(aN b).2.2) else if (aX out (aN b).1 (ay m)).2≠0 then ([],(aX out (aN b).1 (ay m)).2) else bn k (b.drop (aN b).2.1.toNat) (aX out (aN b).1 (ay m)).1 (ay m):=by
    rw[bn,if_neg hne]
   have hlit:=yg b
   have hbd:=oB m
   refine bT (by simpa using hp) ?_
   refine bT (by simp;omega) ?_
   rw[e]
   by_cases h4:(aN b).2.2=0
   ·have ho:=Dg hb h4 hne
    refine bF (by simpa using h4) ?_
    refine bT (by simp only[zA,zB];omega) ?_
    rw[if_neg (az h4)]
    by_cases h5:(aX out (aN b).1 (ay m)).2=0
    ·have hle:=oC h5
     refine bF (by simpa using h5) ?_
     refine bT (by simp only[zA,zB];omega) ?_
     rw[if_neg (az h5),zG,List.take_length]
     exact ih _ _ (fun c hc=>hb c (List.mem_of_mem_drop hc)) (by simp;omega) (by simp;omega) (by omega)
    ·refine bT (by simpa using h5) ?_
     rw[if_pos h5,if_neg h5]
   ·refine bT (by simpa using h4) ?_
    rw[if_pos h4,if_neg h4]
def wP (a0:LI)(a1:Int):Option kE.Res:=(lG ((a0,(a1,([],()))),())).run fun y=>match y with | .ret ((),((x13,x14,()),()))=>(oR ((x13,x14,()),())) | .pan (.ret ((),((x15,()),())))=>(oR ((x15,0,()),()))
theorem MC (a0:LI)(a1:Int):Io.run tt Gu dr sU kE Tryz.f136 ((a0,a1,()),())=wP a0 a1:=by kernel_rfl
theorem xz:HcsOk prog FX:=.cons OJ (.cons IB (.cons IC .nil))
theorem OI:HcOk prog 136 (ah kE DQ):=by
 refine bQ xz (lp:=sU) (fn:=Tryz.f136) kE (.step (h0:=aD d0 lG) (by kernel_rfl) (f9 xz (lp:=sU) (fn:=Tryz.f136) (.done (by kernel_rfl)) d0 lG ?_) (.done (by kernel_rfl))) DQ ?_
 ·rintro ⟨⟨(b:LI),(m:Int),(out:LI),⟨⟩⟩,⟨⟩⟩ y hw hy
  obtain ⟨hg,hy⟩:=Tr.guard hy
  simp only[zA,zB] at hg
  refine ⟨b.length+1,(Ct m (b.length+1) b out (dA hw.1.1) (by omega) hg.1 hg.2).trans ?_⟩
  rw[← hy]
  simp only[Tr.val_ite,zB,Tr.val_ret]
 ·rintro ⟨⟨(b:LI),(m:Int),⟨⟩⟩,⟨⟩⟩ o hw ho
  obtain ⟨hg,ho⟩:=Tr.guard ho
  have hg:b.length≤4294960000:=of_decide_eq_true hg
  cases ho
  refine (MC b m).trans ?_
  show _=oR (((aq b m).1,(aq b m).2,()),())
  unfold wP lG
  rw[dE]
  refine bT (by simp only[zA,zB];exact ⟨hg,by simp⟩) ?_
  by_cases h:(bn (b.length+1) b [] (ay m)).2=0
  ·refine bT (decide_eq_true h) ?_
   rw[h]
   rfl
  ·refine bF (decide_eq_false h) ?_
   rw[iL _ _ _ _ h]
   rfl
def j8 (t:gu):Bool:=if t.2.1=0∧t.2.2.1=0∧0<t.1.length∧t.1.length≤128 then true else false
def fE (t:gu):Bool:=if t.1.length=0∧1≤t.2.1∧t.2.1≤4096∧4≤t.2.2.1∧t.2.2.1≤131 then true else false
def dq (b:LI)(p:Int):gu×Int×Int:=
 if p<0∨(b.length:Int)≤p then (ew,0,1)
 else if (aN (b.drop p.toNat)).2.2≠0 then (ew,0,(aN (b.drop p.toNat)).2.2)
 else ((aN (b.drop p.toNat)).1,p+(aN (b.drop p.toNat)).2.1,0)
abbrev jl:Io:=⟨[BQ],[],[],[dB],none⟩
def yP (d:jl.In):Tr jl.Res:=.ret (.ret ((j8 d.1.1,()),()))
abbrev F3:List (Nat×Hc):=[]
def N4:Hd:=bG F3
def G7:Lp:=bM []
def wU (a0:LI)(a1 a2:Int):Option jl.Res:=bif a1 == 0 then bif a2 == 0 then bif decide (0<(↑a0.length:Int)) then oR ((decide ((↑a0.length:Int)≤128),()),()) else oR ((false,()),()) else oR ((false,()),()) else oR ((false,()),())
theorem MH (a0:LI)(a1 a2:Int):Io.run tt N4 dr G7 jl Tryz.f157 (((a0,a1,a2,()),()),())=wU a0 a1 a2:=by kernel_rfl
theorem Hu:HcOk prog 157 (ah jl yP):=by
 refine bQ (cs:=F3) HcsOk.nil (lp:=G7) (fn:=Tryz.f157) jl (.done (by kernel_rfl)) yP ?_
 rintro ⟨⟨⟨(a0:LI),(a1:Int),(a2:Int),⟨⟩⟩,⟨⟩⟩,⟨⟩⟩ out hw ho
 cases ho
 refine (MH a0 a1 a2).trans ?_
 show _=oR (((if a1=0∧a2=0∧0<a0.length∧a0.length≤128 then true else false),()),())
 unfold wU
 by_cases h1:a1=0
 ·refine bT (by simp[h1]) ?_
  by_cases h2:a2=0
  ·refine bT (by simp[h2]) ?_
   by_cases h3:0<a0.length
   ·refine bT (decide_eq_true (show 0<(a0.length:Int) by omega)) ?_
    by_cases h4:a0.length≤128
    ·rw[if_pos ⟨h1,h2,h3,h4⟩,show decide ((a0.length:Int)≤128)=true from decide_eq_true (by omega)]
    ·rw[if_neg (fun h=>h4 h.2.2.2),show decide ((a0.length:Int)≤128)=false from decide_eq_false (by omega)]
   ·refine bF (decide_eq_false (show ¬ 0<(a0.length:Int) by omega)) ?_
    rw[if_neg (fun h=>h3 h.2.2.1)]
  ·refine bF (by simp[h2]) ?_
   rw[if_neg (fun h=>h2 h.2.1)]
 ·refine bF (by simp[h1]) ?_
  rw[if_neg (fun h=>h1 h.1)]
abbrev gI:Io:=⟨[BQ],[],[],[dB],none⟩
def tz (d:gI.In):Tr gI.Res:=.ret (.ret ((fE d.1.1,()),()))
abbrev F1:List (Nat×Hc):=[]
def N3:Hd:=bG F1
def G6:Lp:=bM []
def wS (a0:LI)(a1 a2:Int):Option gI.Res:=bif decide (0<(↑a0.length:Int)) then oR ((false,()),()) else bif decide (a1<1) then oR ((false,()),()) else bif decide (4096<a1) then oR ((false,()),()) else bif decide (4≤a2) then oR ((decide (a2≤131),()),()) else oR ((false,()),())
theorem MF (a0:LI)(a1 a2:Int):Io.run tt N3 dr G6 gI Tryz.f158 (((a0,a1,a2,()),()),())=wS a0 a1 a2:=by kernel_rfl
theorem As:HcOk prog 158 (ah gI tz):=by
 refine bQ (cs:=F1) HcsOk.nil (lp:=G6) (fn:=Tryz.f158) gI (.done (by kernel_rfl)) tz ?_
 rintro ⟨⟨⟨(a0:LI),(a1:Int),(a2:Int),⟨⟩⟩,⟨⟩⟩,⟨⟩⟩ out hw ho
 cases ho
 refine (MF a0 a1 a2).trans ?_
 show _=oR (((if a0.length=0∧1≤a1∧a1≤4096∧4≤a2∧a2≤131 then true else false),()),())
 unfold wS
 by_cases h0:a0.length=0
 ·refine bF (decide_eq_false (show ¬ 0<(a0.length:Int) by omega)) ?_
  by_cases h1:a1<1
  ·refine bT (decide_eq_true h1) ?_
   rw[if_neg (by omega)]
  ·refine bF (decide_eq_false h1) ?_
   by_cases h2:4096<a1
   ·refine bT (decide_eq_true h2) ?_
    rw[if_neg (by omega)]
   ·refine bF (decide_eq_false h2) ?_
    by_cases h3:4≤a2
    ·refine bT (decide_eq_true h3) ?_
     by_cases h4:a2≤131
     ·rw[if_pos (by omega),decide_eq_true h4]
     ·rw[if_neg (by omega),decide_eq_false h4]
    ·refine bF (decide_eq_false h3) ?_
     rw[if_neg (by omega)]
 ·refine bT (decide_eq_true (show 0<(a0.length:Int) by omega)) ?_
  rw[if_neg (by omega)]
abbrev kH:Io:=⟨[dL,dI],[],[],[BQ,dI,dI],none⟩
def DT (d:kH.In):Tr kH.Res:=.ite (decide (d.1.1.length≤4294960000)) (.ret (.ret (((dq d.1.1 d.1.2.1).1,(dq d.1.1 d.1.2.1).2.1,(dq d.1.1 d.1.2.1).2.2,()),()))) .no
abbrev F4:List (Nat×Hc):=[(158,ah gI tz)]
def Gw:Hd:=bG F4
abbrev dj:Lo:=⟨⟨(.one (.hol (.sl 5 (Ty.int u8)))::.one hI::bk (.one (.ptr 4 0)::bk (.one hI::.one (.onl 5 (Ty.int u8) 17)::.one hI::ai (ai (ai (ai (dm (bz (bk []))))))))),[none,none,none,none,some [.onl 5 (Ty.int u8) 2050,hI,hI]]⟩,[(.exit 0,⟨(.any::.one hI::bk (.one (.ptr 4 0)::bk (.one hI::.one (.onl 5 (Ty.int u8) 17)::.any::ai (ai (ai (ai (dm (bz (bk []))))))))),[none,none,none,none,some [.onl 5 (Ty.int u8) 2050,hI,hI]]⟩)]⟩
def gO (d:dj.st.den):Tr (ap dj.xs):=
 .ite (decide (d.1.2.2.2.2.1=0)&&(decide (d.1.2.2.2.1.length=0)&&((decide ((0:Int)≤d.1.2.1)&&decide (d.1.1.length≤4294960000))&&(decide ((0:Int)≤d.1.2.2.1)&&decide (d.1.2.1+d.1.2.2.1+2≤(d.1.1.length:Int))))))
  (.ret (.ret ((),((d.1.2.1,d.1.2.2.1,(d.1.1.drop (d.1.2.1+1).toNat).take (d.1.2.2.1+1).toNat,()),(d.2.1,()))))) .no
def sW:Lp:=bM [(10,aD dj gO)]
def qc {R:Type}(h2:LI)(h3 h4:Int)(h5:LI)(h6:Int)(h7:LI)(h8 h9:Int)(next:LI→Int→Int→LI→Int→LI→Int→Int→Option R)(out:ap dj.xs→Option R):Option R:=bif decide (h6≤h4) then bif decide (0≤i64.wrap (i64.wrap (h3+1)+h6))&&decide (i64.wrap (i64.wrap (h3+1)+h6)<(↑h2.length:Int)) then bif decide (h5.length+1≤4294967296) then next (h2) (h3) (h4) (h5++[h2.getD (i64.wrap (i64.wrap (h3+1)+h6)).toNat 0]) (i64.wrap (h6+1)) (h7) (h8) (h9) else none else none else out (.ret ((),((h3,(h4,(h5,()))),((h7,(h8,(h9,()))),()))))
def ou (n:Nat)(h2:LI)(h3 h4:Int)(h5:LI)(h6:Int)(h7:LI)(h8 h9:Int):Option (ap dj.xs):=fJ tt Gw dr sW 0 Tryz.f147 (bP Tryz.f147 0) n (dj.st.mk' ((h2,(h3,(h4,(h5,(h6,()))))),((h7,(h8,(h9,()))),()))) (bt dj.xs)
theorem EW (n:Nat)(h2:LI)(h3 h4:Int)(h5:LI)(h6:Int)(h7:LI)(h8 h9:Int):ou (n+1) h2 h3 h4 h5 h6 h7 h8 h9=qc h2 h3 h4 h5 h6 h7 h8 h9 (ou n) some:=by kernel_rfl
theorem qz (b:LI)(p i:Nat):(b.drop p).getD i 0=b.getD (p+i) 0:=by rw[List.getD_eq_getElem?_getD,List.getD_eq_getElem?_getD,List.getElem?_drop]
theorem zQ (b g:LI)(u v:Int){p c:Nat}(h0:p+c+2≤b.length)(hl:b.length≤4294960000):∀(k j:Nat) (lit:LI),c+1<j+k→j≤c+1→lit.length=j→
  ou k b p c lit j g u v=some (.ret ((),(((p:Int),((c:Int),(lit++(b.drop (p+1+j)).take (c+1 - j),()))),((g,(u,(v,()))),())))):=by
 intro k
 induction k with
 |zero=>intro j lit h;omega
 |succ k ih=>
  intro j lit h1 h2 h3
  rw[EW]
  unfold qc
  by_cases hj:j≤c
  ·rw[ae (n:=(p:Int)+1) (by omega) (by omega),ae (n:=(p:Int)+1+(j:Int)) (by omega) (by omega),ae (n:=(j:Int)+1) (by omega) (by omega)]
   refine bT (by simpa using hj) ?_
   refine bT (by simp only[zA,zB];omega) ?_
   refine bT (by simp;omega) ?_
   have hlt:p+1+j<b.length:=by omega
   have e:b.getD ((p:Int)+1+(j:Int)).toNat 0=b[p+1+j]:=by rw[show ((p:Int)+1+(j:Int)).toNat=p+1+j by omega,aA hlt]
   rw[e]
   refine (ih (j+1) _ (by omega) (by omega) (by simp[h3])).trans ?_
   rw[zK,zE hlt,show c+1 - j=(c+1 - (j+1))+1 by omega,List.take_succ_cons]
   rfl
  ·refine bF (by simp;omega) ?_
   rw[show c+1 - j=0 by omega,List.take_zero,List.append_nil]
def wV (a0:LI)(a1:Int):Option kH.Res:=bif decide (a1<0) then oR ((([],0,0,()),0,1,()),()) else bif decide ((↑a0.length:Int)≤a1) then oR ((([],0,0,()),0,1,()),()) else bif decide (0≤a1)&&decide (a1<(↑a0.length:Int)) then bif decide (i64.wrap (a0.getD a1.toNat 0)<128) then bif decide (i64.wrap (i64.wrap ((↑a0.length:Int) - a1) - 1)<i64.wrap (i64.wrap (a0.getD a1.toNat 0)+1)) then oR ((([],0,0,()),0,1,()),()) else (gO ((a0,(a1,(i64.wrap (a0.getD a1.toNat 0),([],(0,()))))),(([],(0,(0,()))),()))).run fun y=>match y with | .ret ((),((x24,x25,x26,()),(x27,x28,x29,()),()))=>(oR (((x26,0,0,()),i64.wrap (i64.wrap (x24+x25)+2),0,()),())) else bif decide (i64.wrap ((↑a0.length:Int) - a1)<3) then oR ((([],0,0,()),0,1,()),()) else bif decide (0≤i64.wrap (a1+1))&&decide (i64.wrap (a1+1)<(↑a0.length:Int)) then bif decide (0≤i64.wrap (a1+2))&&decide (i64.wrap (a1+2)<(↑a0.length:Int)) then bif !fE ([],i64.wrap (i64.wrap (i64.wrap (a0.getD (i64.wrap (a1+1)).toNat 0)*256)+i64.wrap (a0.getD (i64.wrap (a1+2)).toNat 0)),i64.wrap (i64.wrap (a0.getD a1.toNat 0) - 124),()) then oR ((([],0,0,()),0,50,()),()) else oR ((([],i64.wrap (i64.wrap (i64.wrap (a0.getD (i64.wrap (a1+1)).toNat 0)*256)+i64.wrap (a0.getD (i64.wrap (a1+2)).toNat 0)),i64.wrap (i64.wrap (a0.getD a1.toNat 0) - 124),()),i64.wrap (a1+3),0,()),()) else none else none else none
theorem MI (a0:LI)(a1:Int):Io.run tt Gw dr sW kH Tryz.f147 ((a0,a1,()),())=wV a0 a1:=by kernel_rfl
theorem xB:HcsOk prog F4:=.cons As .nil
theorem OL:HcOk prog 147 (ah kH DT):=by
 refine bQ xB (lp:=sW) (fn:=Tryz.f147) kH (.step (h0:=aD dj gO) (by kernel_rfl) (f9 xB (lp:=sW) (fn:=Tryz.f147) (.done (by kernel_rfl)) dj gO ?_) (.done (by kernel_rfl))) DT ?_
 ·rintro ⟨⟨(b:LI),(p:Int),(c:Int),(lit:LI),(j:Int),⟨⟩⟩,⟨⟨(g:LI),(u:Int),(v:Int),⟨⟩⟩,⟨⟩⟩⟩ y hw hy
  obtain ⟨hg,hy⟩:=Tr.guard hy
  simp only[zA,zB] at hg
  obtain ⟨h1,h2,⟨h3,h4⟩,h5,h6⟩:=hg
  have h1:j=0:=h1
  have h2:lit.length=0:=h2
  have h3:0≤p:=h3
  have h4:b.length≤4294960000:=h4
  have h5:0≤c:=h5
  have h6:p+c+2≤(b.length:Int):=h6
  have h2:lit=[]:=List.length_eq_zero_iff.1 h2
  subst h1 h2
  obtain ⟨p,rfl⟩:=au h3
  obtain ⟨c,rfl⟩:=au h5
  refine ⟨c+2,(zQ b g u v (p:=p) (c:=c) (by omega) h4 (c+2) 0 [] (by omega) (by omega) rfl).trans ?_⟩
  rw[← hy]
  show _=some _
  rw[show ((p:Int)+1).toNat=p+1 by omega,show ((c:Int)+1).toNat=c+1 by omega]
  rfl
 ·rintro ⟨⟨(b:LI),(p:Int),⟨⟩⟩,⟨⟩⟩ o hw ho
  obtain ⟨hg,ho⟩:=Tr.guard ho
  have hg2:b.length≤4294960000:=of_decide_eq_true hg
  clear hg
  cases ho
  refine (MI b p).trans ?_
  show _=oR (((dq b p).1,(dq b p).2.1,(dq b p).2.2,()),())
  have hb:Ty.wf bs b:=hw.1.1
  unfold wV
  by_cases h1:p<0
  ·refine bT (decide_eq_true h1) ?_
   unfold dq
   rw[if_pos (.inl h1)]
   rfl
  refine bF (decide_eq_false h1) ?_
  by_cases h2:(b.length:Int)≤p
  ·refine bT (decide_eq_true h2) ?_
   unfold dq
   rw[if_pos (.inr h2)]
   rfl
  refine bF (decide_eq_false h2) ?_
  obtain ⟨p,rfl⟩:=au (show 0≤p by omega)
  have eR:dq b p=if (aN (b.drop p)).2.2≠0 then (ew,0,(aN (b.drop p)).2.2) else ((aN (b.drop p)).1,(p:Int)+(aN (b.drop p)).2.1,0):=by
   unfold dq
   rw[if_neg (by omega),zG]
  have c0:=t3 hb p
  have c1:=t3 hb (p+1)
  have c2:=t3 hb (p+2)
  have e0:(b.drop p).getD 0 0=b.getD p 0:=qz b p 0
  have e1:(b.drop p).getD 1 0=b.getD (p+1) 0:=qz b p 1
  have e2:(b.drop p).getD 2 0=b.getD (p+2) 0:=qz b p 2
  have el:((b.drop p).length:Int)=(b.length:Int) - p:=by simp;omega
  have eO:aN (b.drop p)=if b.getD p 0<128 then (if (b.length:Int) - p<b.getD p 0+2 then (ew,0,1) else (((b.drop (p+1)).take (b.getD p 0+1).toNat,0,0,()),b.getD p 0+2,0))
    else if (b.length:Int) - p<3 then (ew,0,1)
    else if b.getD (p+1) 0*256+b.getD (p+2) 0<1∨4096<b.getD (p+1) 0*256+b.getD (p+2) 0 then (ew,0,50)
    else (([],b.getD (p+1) 0*256+b.getD (p+2) 0,b.getD p 0 - 124,()),3,0):=by
   unfold aN
   rw[e0,e1,e2,el,List.drop_drop]
  rw[ae (n:=(p:Int)+1) (by omega) (by omega),ae (n:=(p:Int)+2) (by omega) (by omega),show ((p:Int)+1).toNat=p+1 by omega,show ((p:Int)+2).toNat=p+2 by omega,zG]
  rw[ae (n:=b.getD p 0) (by omega) (by omega),ae (n:=b.getD (p+1) 0) (by omega) (by omega),ae (n:=b.getD (p+2) 0) (by omega) (by omega)]
  generalize hd:(b.drop (p+1)).take (b.getD p 0+1).toNat=L at *
  have hF:∀lit:LI,b.getD p 0<128→(p:Int)+b.getD p 0+2≤(b.length:Int)→gO ((b,((p:Int),(b.getD p 0,([],(0,()))))),(([],(0,(0,()))),()))=.ite true (.ret (.ret ((),(((p:Int),b.getD p 0,L,()),(([],(0,(0,()))),()))))) .no:=by
   intro _ _ hlt
   have hc:(decide ((0:Int)=0)&&(decide (([]:LI).length=0)&&((decide ((0:Int)≤(p:Int))&&decide (b.length≤4294960000))&&(decide ((0:Int)≤b.getD p 0)&&decide ((p:Int)+b.getD p 0+2≤(b.length:Int))))))=true:=by
    simp only[zA,zB]
    exact ⟨trivial,rfl,⟨by omega,hg2⟩,c0.1,hlt⟩
   have:gO ((b,((p:Int),(b.getD p 0,([],(0,()))))),(([],(0,(0,()))),()))=.ite true (.ret (.ret ((),(((p:Int),b.getD p 0,(b.drop ((p:Int)+1).toNat).take (b.getD p 0+1).toNat,()),(([],(0,(0,()))),()))))) .no:=congrArg (fun c=>Tr.ite c _ _) hc
   rw[this,show ((p:Int)+1).toNat=p+1 by omega,hd]
  rw[eR,eO]
  clear eR eO e0 e1 e2 el hd
  generalize b.getD p 0=c at *
  generalize b.getD (p+1) 0=x at *
  generalize b.getD (p+2) 0=y at *
  refine bT (by simp only[zA,zB];omega) ?_
  rw[ae (n:=(b.length:Int) - p) (by omega) (by omega),ae (n:=(b.length:Int) - p - 1) (by omega) (by omega),ae (n:=c+1) (by omega) (by omega)]
  by_cases h3:c<128
  ·refine bT (decide_eq_true h3) ?_
   rw[if_pos h3]
   by_cases h4:(b.length:Int) - p<c+2
   ·refine bT (decide_eq_true (by omega)) ?_
    rw[if_pos h4,if_pos (by decide)]
    rfl
   ·refine bF (decide_eq_false (by omega)) ?_
    rw[hF [] h3 (by omega),if_neg h4,if_neg (az rfl)]
    show oR (((L,0,0,()),i64.wrap (i64.wrap ((p:Int)+c)+2),0,()),())=_
    rw[ae (n:=(p:Int)+c) (by omega) (by omega),ae (n:=(p:Int)+c+2) (by omega) (by omega),Int.add_assoc]
  ·refine bF (decide_eq_false h3) ?_
   rw[if_neg h3]
   by_cases h4:(b.length:Int) - p<3
   ·refine bT (decide_eq_true h4) ?_
    rw[if_pos h4,if_pos (by decide)]
    rfl
   ·refine bF (decide_eq_false h4) ?_
    refine bT (by simp only[zA,zB];omega) ?_
    refine bT (by simp only[zA,zB];omega) ?_
    rw[ae (n:=x*256) (by omega) (by omega),ae (n:=x*256+y) (by omega) (by omega),ae (n:=c - 124) (by omega) (by omega),ae (n:=(p:Int)+3) (by omega) (by omega),if_neg h4]
    have hi:fE ([],x*256+y,c - 124,()) = !decide (x*256+y<1∨4096<x*256+y):=by
     show (if ([]:LI).length=0∧1≤x*256+y∧x*256+y≤4096∧4≤c - 124∧c - 124≤131 then true else false)=_
     by_cases h5:x*256+y<1∨4096<x*256+y
     ·rw[if_neg (by omega),decide_eq_true h5];rfl
     ·rw[if_pos ⟨rfl,by omega⟩,decide_eq_false h5];rfl
    by_cases h5:x*256+y<1∨4096<x*256+y
    ·refine bT (by rw[hi,decide_eq_true h5];rfl) ?_
     rw[if_pos h5,if_pos (by decide)]
     rfl
    ·refine bF (by rw[hi,decide_eq_false h5];rfl) ?_
     rw[if_neg h5,if_neg (az rfl)]
abbrev f6:Io:=⟨[dI],[],[],[dI],none⟩
def tv (d:f6.In):Tr f6.Res:=.ret (.ret ((ay d.1.1,()),()))
abbrev xm:List (Nat×Hc):=[]
def Ij:Hd:=bG xm
def xM:Lp:=bM []
def rx (a0:Int):Option f6.Res:=bif decide (a0<0) then oR ((0,()),()) else bif decide (32768<a0) then oR ((32768,()),()) else oR ((a0,()),())
theorem EG (a0:Int):Io.run tt Ij dr xM f6 Tryz.f149 ((a0,()),())=rx a0:=by kernel_rfl
theorem ID:HcOk prog 149 (ah f6 tv):=by
 refine bQ (cs:=xm) HcsOk.nil (lp:=xM) (fn:=Tryz.f149) f6 (.done (by kernel_rfl)) tv ?_
 rintro ⟨⟨(m:Int),⟨⟩⟩,⟨⟩⟩ out hw ho
 cases ho
 refine (EG m).trans ?_
 show _=oR ((ay m,()),())
 unfold rx
 have e1:m<0→cp m 0=0:=fun h=>by unfold cp;exact if_pos h
 have e2:¬ m<0→cp m 0=m:=fun h=>by unfold cp;exact if_neg (by omega)
 unfold ay pS
 by_cases h1:m<0
 ·refine bT (decide_eq_true h1) ?_
  rw[e1 h1,if_neg (by decide)]
 ·refine bF (decide_eq_false h1) ?_
  rw[e2 h1]
  by_cases h2:32768<m
  ·refine bT (decide_eq_true h2) ?_
   rw[if_pos h2]
  ·refine bF (decide_eq_false h2) ?_
   rw[if_neg h2]
abbrev f7:Io:=⟨[dO,BQ,dI],[],[],[dO,dI],none⟩
def tw (d:f7.In):Tr f7.Res:=.ite (decide (d.1.1.length≤4294960000)&&(decide (d.1.2.1.1.length≤4294960000)&&(decide ((0:Int)≤d.1.2.2.1)&&decide ((d.1.2.2.1:Int)≤(32768:Int))))) (.ret (.ret (((aX d.1.1 d.1.2.1 d.1.2.2.1).1,(aX d.1.1 d.1.2.1 d.1.2.2.1).2,()),()))) .no
abbrev xn:List (Nat×Hc):=[(157,ah jl yP),(158,ah gI tz)]
def qE:Hd:=bG xn
abbrev cE:Lo:=⟨⟨(.one (.onl 5 (Ty.int u8) 1)::.any::bk (.one (.ptr 4 0)::.any::bk (.one hI::.any::ai (ai (ai (ai (bz []))))))),[none,none,none,none,some [.hol (.sl 5 (Ty.int u8)),hI,hI]]⟩,[(.exit 0,⟨(.one (.onl 5 (Ty.int u8) 1)::.any::ai (ai (ai (ai (dm (bz [])))))),[]⟩)]⟩
abbrev ce:Lo:=⟨⟨(.one (.onl 5 (Ty.int u8) 1)::.any::bk (.one (.ptr 4 0)::bz (.one hI::.one hI::.any::ai (ai (ai (ai (bk []))))))),[none,none,none,none,some [.hol (.sl 5 (Ty.int u8)),hI,hI]]⟩,[(.exit 2,⟨(.one (.onl 5 (Ty.int u8) 1)::.any::ai (ai (ai (ai (dm (bz [])))))),[]⟩)]⟩
def hY (d:cE.st.den):Tr (ap cE.xs):=
 .ite (decide (d.1.2.1=0)&&decide (d.1.1.length+d.2.1.1.length≤4294967296)) (.ret (.ret ((),((d.1.1++d.2.1.1,()),())))) .no
def gj (d:ce.st.den):Tr (ap ce.xs):=
 .ite (decide (d.1.2.2.1=0)&&((decide (d.1.2.1=(d.1.1.length:Int) - d.2.1.2.1)&&decide ((0:Int)≤d.2.1.2.2.1))&&((decide ((1:Int)≤d.2.1.2.1)&&decide (d.2.1.2.1≤(d.1.1.length:Int)))&&decide ((d.1.1.length:Int)+d.2.1.2.2.1≤4294967296)))) (.ret (.ret ((),((ch d.2.1.2.1.toNat d.2.1.2.2.1.toNat d.1.1,()),())))) .no
def gS:Lp:=bM [(6,aD cE hY),(16,aD ce gj)]
def nC {R:Type}(h5:LI)(h6:Int)(h7:LI)(h8 h9:Int)(next:LI→Int→LI→Int→Int→Option R)(out:ap cE.xs→Option R):Option R:=bif decide (h6<(↑h7.length:Int)) then bif decide (0≤h6)&&decide (h6<(↑h7.length:Int)) then bif decide (h5.length+1≤4294967296) then next (h5++[h7.getD h6.toNat 0]) (i64.wrap (h6+1)) (h7) (h8) (h9) else none else none else out (.ret ((),((h5,()),())))
def ma (n:Nat)(h5:LI)(h6:Int)(h7:LI)(h8 h9:Int):Option (ap cE.xs):=fJ tt qE dr gS 0 Tryz.f148 (bP Tryz.f148 0) n (cE.st.mk' ((h5,(h6,())),((h7,(h8,(h9,()))),()))) (bt cE.xs)
theorem C8 (n:Nat)(h5:LI)(h6:Int)(h7:LI)(h8 h9:Int):ma (n+1) h5 h6 h7 h8 h9=nC h5 h6 h7 h8 h9 (ma n) some:=by kernel_rfl
def iR {R:Type}(h17:LI)(h18 h19:Int)(h20:LI)(h21 h22:Int)(next:LI→Int→Int→LI→Int→Int→Option R)(out:ap ce.xs→Option R):Option R:=bif decide (h19<h22) then bif decide (h21≠0) then bif decide (0≤i64.wrap (h18+i64.wrap (h19.tmod h21)))&&decide (i64.wrap (h18+i64.wrap (h19.tmod h21))<(↑h17.length:Int)) then bif decide (h17.length+1≤4294967296) then next (h17++[h17.getD (i64.wrap (h18+i64.wrap (h19.tmod h21))).toNat 0]) (h18) (i64.wrap (h19+1)) (h20) (h21) (h22) else none else none else none else out (.ret ((),((h17,()),())))
def kP (n:Nat)(h17:LI)(h18 h19:Int)(h20:LI)(h21 h22:Int):Option (ap ce.xs):=fJ tt qE dr gS 0 Tryz.f148 (bP Tryz.f148 1) n (ce.st.mk' ((h17,(h18,(h19,()))),((h20,(h21,(h22,()))),()))) (bt ce.xs)
theorem pI (n:Nat)(h17:LI)(h18 h19:Int)(h20:LI)(h21 h22:Int):kP (n+1) h17 h18 h19 h20 h21 h22=iR h17 h18 h19 h20 h21 h22 (kP n) some:=by kernel_rfl
theorem vU (lit:LI)(u v:Int)(hl:lit.length≤maxLen):∀(k i:Nat) (out:LI),lit.length<i+k→i≤lit.length→out.length+(lit.length - i)≤4294967296→
  ma k out i lit u v=some (.ret ((),((out++lit.drop i,()),()))):=by
 intro k
 induction k with
 |zero=>intro i out h;omega
 |succ k ih=>
  intro i out h1 h2 h3
  rw[C8]
  unfold nC
  by_cases hi:i<lit.length
  ·refine bT (by simpa using hi) ?_
   refine bT (by simpa using hi) ?_
   refine bT (by simp;omega) ?_
   have e:lit.getD (i:Int).toNat 0=lit[i]:=by rw[zG,aA hi]
   rw[e,b7 hi hl]
   refine (ih (i+1) _ (by omega) (by omega) (by simp;omega)).trans ?_
   rw[zK,zE hi]
   rfl
  ·refine bF (by simp;omega) ?_
   rw[zI (by omega),List.append_nil]
def Rep (L d:Nat)(out:LI):Prop:=∀q,L≤q→q<out.length→out.getD q 0=out.getD (q - d) 0
theorem Rep.mod {L d:Nat}{out:LI}(h:Rep L d out)(h1:1≤d)(h2:d≤L):∀i,L - d+i<out.length→out.getD (L - d+i) 0=out.getD (L - d+i % d) 0:=by
 intro i
 induction i using Nat.strongRecOn with
 |ind i ih=>
  intro hi
  by_cases hd:i<d
  ·rw[Nat.mod_eq_of_lt hd]
  ·rw[h (L - d+i) (by omega) hi,show L - d+i - d=L - d+(i - d) by omega,ih (i - d) (by omega) (by omega),Nat.mod_eq_sub_mod (by omega:i ≥ d)]
theorem uk {out:LI}{x:Int}{q:Nat}(h:q<out.length):(out++[x]).getD q 0=out.getD q 0:=by
 rw[List.getD_eq_getElem?_getD,List.getD_eq_getElem?_getD,List.getElem?_append_left h]
theorem Rep.snoc {L d:Nat}{out:LI}(h:Rep L d out)(h1:1≤d)(h2:L≤out.length)(h3:d≤L):Rep L d (out++[out.getD (out.length - d) 0]):=by
 intro q g1 g2
 rw[zH,List.length_singleton] at g2
 by_cases hq:q<out.length
 ·rw[uk hq,uk (by omega),h q g1 hq]
 ·have:q=out.length:=by omega
  subst this
  rw[uk (q:=out.length - d) (by omega)]
  rw[List.getD_eq_getElem?_getD,List.getElem?_append_right (Nat.le_refl _),Nat.sub_self]
  rfl
theorem uG (lit:LI){L d:Nat}(h1:1≤d)(h2:d≤L):∀(m k i:Nat) (out:LI),m<k→out.length=L+i→Rep L d out→out.length+m≤4294967296→
  kP k out ((L - d:Nat):Int) i lit d ((i+m:Nat):Int)=some (.ret ((),((ch d m out,()),()))):=by
 intro m
 induction m with
 |zero=>
  intro k i out g1 g2 g3 g4
  obtain ⟨k,rfl⟩:∃j,k=j+1:=⟨k - 1,by omega⟩
  rw[pI]
  unfold iR
  refine bF (by simp) ?_
  rfl
 |succ m ih=>
  intro k i out g1 g2 g3 g4
  obtain ⟨k,rfl⟩:∃j,k=j+1:=⟨k - 1,by omega⟩
  rw[pI]
  unfold iR
  have hm:i % d<d:=Nat.mod_lt _ (by omega)
  have e1:i64.wrap ((i:Int).tmod (d:Int))=((i % d:Nat):Int):=by
   rw[Int.tmod_eq_emod_of_nonneg (by omega)]
   exact (ae (by omega) (by omega)).trans (by omega)
  have e2:i64.wrap (((L - d:Nat):Int)+((i % d:Nat):Int))=((L - d+i % d:Nat):Int):=(ae (by omega) (by omega)).trans (by omega)
  rw[e1,e2,ae (n:=(i:Int)+1) (by omega) (by omega),zG]
  refine bT (by simp;omega) ?_
  refine bT (by simp;omega) ?_
  refine bT (by simp only[zA,zB];omega) ?_
  refine bT (by simp;omega) ?_
  have e3:out.getD (L - d+i % d) 0=out.getD (out.length - d) 0:=by
   rw[← g3.mod h1 h2 i (by omega),show out.length - d=L - d+i by omega]
  rw[e3]
  have:=ih k (i+1) (out++[out.getD (out.length - d) 0]) (by omega) (by simp;omega) (g3.snoc h1 (by omega) h2) (by simp;omega)
  rw[show ((i+1+m:Nat):Int)=((i+(m+1):Nat):Int) by omega] at this
  exact this
theorem M3 (lit:LI)(d len:Int):fF (lit,d,len,()) = !(j8 (lit,d,len,()) || fE (lit,d,len,())):=by
 have e:fF (lit,d,len,())=if iK (lit,d,len,())=true then decide (0<lit.length) || (decide (d<1) || (decide (4096<d) || (decide (len<4) || decide (131<len)))) else decide (lit.length<1) || decide (128<lit.length):=rfl
 have e2:iK (lit,d,len,())=if d≠0 then true else decide (len≠0):=rfl
 have e3:j8 (lit,d,len,())=if d=0∧len=0∧0<lit.length∧lit.length≤128 then true else false:=rfl
 have e4:fE (lit,d,len,())=if lit.length=0∧1≤d∧d≤4096∧4≤len∧len≤131 then true else false:=rfl
 have h1:iK (lit,d,len,())=true↔(d≠0∨len≠0):=by
  rw[e2]
  by_cases h:d=0
  ·rw[if_neg (az h)];simp[h]
  ·rw[if_pos h];simp[h]
 cases hl:j8 (lit,d,len,()) with
 |true=>
  rw[e3] at hl
  split at hl
  ·rename_i h
   rw[e,if_neg (by rw[h1];omega),decide_eq_false (show ¬ lit.length<1 by omega),decide_eq_false (show ¬ 128<lit.length by omega)]
   rfl
  ·cases hl
 |false=>
  rw[e3] at hl
  split at hl
  ·cases hl
  ·rename_i hn
   cases hc:fE (lit,d,len,()) with
   |true=>
    rw[e4] at hc
    split at hc
    ·rename_i h
     rw[e,if_pos (by rw[h1];omega),decide_eq_false (show ¬ 0<lit.length by omega),decide_eq_false (show ¬ d<1 by omega),decide_eq_false (show ¬ 4096<d by omega),decide_eq_false (show ¬ len<4 by omega),decide_eq_false (show ¬ 131<len by omega)]
     rfl
    ·cases hc
   |false=>
    rw[e4] at hc
    split at hc
    ·cases hc
    ·rename_i hm
     rw[e]
     split
     ·rename_i h;rw[h1] at h
      simp only[Bool.or_false,Bool.not_false,Bool.or_eq_true,zB];omega
     ·rename_i h;rw[h1] at h
      simp only[Bool.or_false,Bool.not_false,Bool.or_eq_true,zB];omega
def ry (a0 a1:LI)(a2 a3 a4:Int):Option f7.Res:=bif j8 (a1,a2,a3,()) then bif decide (i64.wrap (a4 - (↑a0.length:Int))<(↑a1.length:Int)) then oR (([],4,()),()) else (hY ((a0,(0,())),((a1,(a2,(a3,()))),()))).run fun y=>match y with | .ret ((),((x16,()),()))=>(oR ((x16,0,()),())) else bif !fE (a1,a2,a3,()) then oR (([],50,()),()) else bif decide ((↑a0.length:Int)<a2) then oR (([],50,()),()) else bif decide (i64.wrap (a4 - (↑a0.length:Int))<a3) then oR (([],4,()),()) else (gj ((a0,(i64.wrap ((↑a0.length:Int) - a2),(0,()))),((a1,(a2,(a3,()))),()))).run fun y=>match y with | .ret ((),((x30,()),()))=>(oR ((x30,0,()),()))
theorem EH (a0 a1:LI)(a2 a3 a4:Int):Io.run tt qE dr gS f7 Tryz.f148 ((a0,(a1,a2,a3,()),a4,()),())=ry a0 a1 a2 a3 a4:=by kernel_rfl
theorem lQ:HcsOk prog xn:=.cons Hu (.cons As .nil)
theorem IE:HcOk prog 148 (ah f7 tw):=by
 refine bQ lQ (lp:=gS) (fn:=Tryz.f148) f7 (.step (h0:=aD cE hY) (by kernel_rfl) (f9 lQ (lp:=gS) (fn:=Tryz.f148) (.done (by kernel_rfl)) cE hY ?_) (.step (h0:=aD ce gj) (by kernel_rfl) (f9 lQ (lp:=gS) (fn:=Tryz.f148) (.done (by kernel_rfl)) ce gj ?_) (.done (by kernel_rfl)))) tw ?_
 ·rintro ⟨⟨(out:LI),(i:Int),⟨⟩⟩,⟨⟨(lit:LI),(u:Int),(v:Int),⟨⟩⟩,⟨⟩⟩⟩ y hw hy
  obtain ⟨hg,hy⟩:=Tr.guard hy
  simp only[zA,zB] at hg
  obtain ⟨h1,h2⟩:=hg
  have h1:i=0:=h1
  have h2:out.length+lit.length≤4294967296:=h2
  subst h1
  refine ⟨lit.length+1,(vU lit u v hw.2.1.1.1 (lit.length+1) 0 out (by omega) (by omega) (by omega)).trans ?_⟩
  rw[← hy];rfl
 ·rintro ⟨⟨(out:LI),(f:Int),(i:Int),⟨⟩⟩,⟨⟨(lit:LI),(d:Int),(len:Int),⟨⟩⟩,⟨⟩⟩⟩ y hw hy
  obtain ⟨hg,hy⟩:=Tr.guard hy
  simp only[zA,zB] at hg
  obtain ⟨h1,⟨h2,h3⟩,⟨h4,h5⟩,h6⟩:=hg
  have h1:i=0:=h1
  have h2:f=(out.length:Int) - d:=h2
  have h3:0≤len:=h3
  have h4:1≤d:=h4
  have h5:d≤(out.length:Int):=h5
  have h6:(out.length:Int)+len≤4294967296:=h6
  subst h1
  obtain ⟨d,rfl⟩:=au (show 0≤d by omega)
  obtain ⟨n,rfl⟩:=au h3
  have e:f=((out.length - d:Nat):Int):=by omega
  subst e
  have:=uG lit (L:=out.length) (d:=d) (by omega) (by omega) n (n+1) 0 out (by omega) rfl (fun q g1 g2=>by omega) (by omega)
  rw[Nat.zero_add] at this
  refine ⟨n+1,this.trans ?_⟩
  rw[← hy];rfl
 ·rintro ⟨⟨(out:LI),⟨(lit:LI),(d:Int),(len:Int),⟨⟩⟩,(m:Int),⟨⟩⟩,⟨⟩⟩ o hw ho
  obtain ⟨hg,ho⟩:=Tr.guard ho
  simp only[zA,zB] at hg
  obtain ⟨h1,h2,h0,h3⟩:=hg
  have h1:out.length≤4294960000:=h1
  have h2:lit.length≤4294960000:=h2
  have h0:(0:Int)≤m:=h0
  have h3:m≤(32768:Int):=h3
  cases ho
  refine (EH out lit d len m).trans ?_
  show _=oR (((aX out (lit,d,len,()) m).1,(aX out (lit,d,len,()) m).2,()),())
  have hi:=M3 lit d len
  unfold ry aX
  cases hl:j8 (lit,d,len,()) with
  |true=>
   rw[hl] at hi
   have hi:fF (lit,d,len,())=false:=hi
   have e3:j8 (lit,d,len,())=if d=0∧len=0∧0<lit.length∧lit.length≤128 then true else false:=rfl
   rw[e3] at hl
   have hl:d=0∧len=0∧0<lit.length∧lit.length≤128:=by split at hl;assumption;cases hl
   obtain ⟨rfl,rfl,l3,l4⟩:=hl
   refine (aa rfl _ _).trans ?_
   rw[if_neg (by rintro (h | h);rw[hi] at h;cases h;have h:(out.length:Int)<0:=h;omega)]
   rw[ae (n:=m - (out.length:Int)) (by omega) (by omega)]
   by_cases h5:m<(out.length:Int)+(lit.length:Int)+0
   ·refine bT (decide_eq_true (by omega)) ?_
    rw[if_pos h5]
   ·refine bF (decide_eq_false (by omega)) ?_
    rw[if_neg h5]
    have e:hY ((out,(0,())),((lit,((0:Int),((0:Int),()))),()))=.ite true (.ret (.ret ((),((out++lit,()),())))) .no:=congrArg (fun c=>Tr.ite c _ _) (show (decide ((0:Int)=0)&&decide (out.length+lit.length≤4294967296))=true by simp only[zA,zB];exact ⟨trivial,by omega⟩)
    rw[e]
    rfl
  |false=>
   refine (af rfl _ _).trans ?_
   cases hc:fE (lit,d,len,()) with
   |false=>
    rw[hl,hc] at hi
    have hi:fF (lit,d,len,())=true:=hi
    refine (aa rfl _ _).trans ?_
    rw[if_pos (.inl hi)]
   |true=>
    rw[hl,hc] at hi
    have hi:fF (lit,d,len,())=false:=hi
    have e4:fE (lit,d,len,())=if lit.length=0∧1≤d∧d≤4096∧4≤len∧len≤131 then true else false:=rfl
    rw[e4] at hc
    have hc:lit.length=0∧1≤d∧d≤4096∧4≤len∧len≤131:=by split at hc;assumption;cases hc
    obtain ⟨l1,l2,l3,l4,l5⟩:=hc
    have l1:lit=[]:=List.length_eq_zero_iff.1 l1
    subst l1
    refine (af rfl _ _).trans ?_
    by_cases h4:(out.length:Int)<d
    ·refine bT (decide_eq_true h4) ?_
     rw[if_pos (.inr h4)]
    ·refine bF (decide_eq_false h4) ?_
     rw[if_neg (by rintro (h | h);rw[hi] at h;cases h;exact h4 h)]
     rw[ae (n:=m - (out.length:Int)) (by omega) (by omega),ae (n:=(out.length:Int) - d) (by omega) (by omega)]
     by_cases h5:m<(out.length:Int)+(([]:LI).length:Int)+len
     ·refine bT (decide_eq_true (by simp at h5;omega)) ?_
      rw[if_pos h5]
     ·refine bF (decide_eq_false (by simp at h5;omega)) ?_
      rw[if_neg h5]
      simp at h5
      have e:gj ((out,((out.length:Int) - d,(0,()))),(([],(d,(len,()))),()))=.ite true (.ret (.ret ((),((ch d.toNat len.toNat out,()),())))) .no:=congrArg (fun c=>Tr.ite c _ _) (show (decide ((0:Int)=0)&&((decide ((out.length:Int) - d=(out.length:Int) - d)&&decide ((0:Int)≤len))&&((decide ((1:Int)≤d)&&decide (d≤(out.length:Int)))&&decide ((out.length:Int)+len≤4294967296))))=true by simp only[zA,zB];exact ⟨trivial,⟨trivial,by omega⟩,⟨by omega,by omega⟩,by omega⟩)
      rw[e]
      show oR ((ch d.toNat len.toNat out,0,()),())=oR ((ch d.toNat len.toNat (out++[]),0,()),())
      rw[List.append_nil]
abbrev kG:Io:=⟨[dL,dI],[],[],[dO,dI],none⟩
def DS (d:kG.In):Tr kG.Res:=.ite (decide (d.1.1.length≤4294960000)) (.ret (.ret (((aq d.1.1 d.1.2.1).1,(aq d.1.1 d.1.2.1).2,()),()))) .no
abbrev F2:List (Nat×Hc):=[(147,ah kH DT),(149,ah f6 tv),(148,ah f7 tw)]
def Gv:Hd:=bG F2
abbrev d7:Lo:=⟨⟨(.one (.hol (.sl 5 (Ty.int u8)))::.one hI::bz (.one (.onl 5 (Ty.int u8) 13)::.one hI::ai (ai (bk [])))),[]⟩,[(.ret,⟨(bz (.one (.onl 5 (Ty.int u8) 9)::.one hI::ai (ai (bz [])))),[]⟩),(.exit 0,⟨(bz (bk (.one (.onl 5 (Ty.int u8) 13)::.any::ai (ai (bk []))))),[]⟩)]⟩
def lH (d:d7.st.den):Tr (ap d7.xs):=
 .ite (decide (d.1.1.length≤4294960000)&&(decide (d.1.2.2.1.length≤32768)&&decide (d.1.2.2.2.1=0))) (.ite (decide ((bn (d.1.1.length+1) d.1.1 d.1.2.2.1 (ay d.1.2.1)).2=0)) (.ret (.pan (.ret ((),(((bn (d.1.1.length+1) d.1.1 d.1.2.2.1 (ay d.1.2.1)).1,()),()))))) (.ret (.ret ((),(([],(bn (d.1.1.length+1) d.1.1 d.1.2.2.1 (ay d.1.2.1)).2,()),()))))) .no
def sV:Lp:=bM [(4,aD d7 lH)]
def sb {R:Type}(h2:LI)(h3:Int)(h4:LI)(h5:Int)(next:LI→Int→LI→Int→Option R)(out:ap d7.xs→Option R):Option R:=bif decide (h5<(↑h2.length:Int)) then bif decide (h2.length≤4294960000) then bif (dq h2 h5).2.2 != 0 then out (.ret ((),(([],((dq h2 h5).2.2,())),()))) else bif decide (h4.length≤4294960000)&&(decide (List.length (dq h2 h5).1.1≤4294960000)&&(decide (0≤ay h3)&&decide (ay h3≤32768))) then bif (aX h4 (dq h2 h5).1 (ay h3)).2 != 0 then out (.ret ((),(([],((aX h4 (dq h2 h5).1 (ay h3)).2,())),()))) else next (h2) (h3) ((aX h4 (dq h2 h5).1 (ay h3)).1) ((dq h2 h5).2.1) else none else none else out (.pan (.ret ((),((h4,()),()))))
def qS (n:Nat)(h2:LI)(h3:Int)(h4:LI)(h5:Int):Option (ap d7.xs):=fJ tt Gv dr sV 0 Tryz.f114 (bP Tryz.f114 0) n (d7.st.mk' ((h2,(h3,(h4,(h5,())))),())) (bt d7.xs)
theorem Jl (n:Nat)(h2:LI)(h3:Int)(h4:LI)(h5:Int):qS (n+1) h2 h3 h4 h5=sb h2 h3 h4 h5 (qS n) some:=by kernel_rfl
theorem Cu (m:Int){b:LI}(hb:∀c∈b,0≤c∧c≤255)(hl:b.length≤4294960000):∀(k p:Nat) (out:LI),p≤b.length→b.length - p<k→out.length≤32768→
  qS k b m out p=if (bn k (b.drop p) out (ay m)).2=0 then some (.pan (.ret ((),(((bn k (b.drop p) out (ay m)).1,()),())))) else some (.ret ((),(([],((bn k (b.drop p) out (ay m)).2,())),()))):=by
 intro k
 induction k with
 |zero=>intro p out h h';omega
 |succ k ih=>
  intro p out h0 h1 h3
  rw[Jl]
  unfold sb
  by_cases hp:p<b.length
  ·have hne:b.drop p≠[]:=by intro h;have:=congrArg List.length h;simp at this;omega
   have hbd:∀c∈b.drop p,0≤c∧c≤255:=fun c hc=>hb c (List.mem_of_mem_drop hc)
   have e:bn (k+1) (b.drop p) out (ay m)=if (aN (b.drop p)).2.2≠0 then ([],(aN (b.drop p)).2.2) else if (aX out (aN (b.drop p)).1 (ay m)).2≠0 then ([],(aX out (aN (b.drop p)).1 (ay m)).2) else bn k ((b.drop p).drop (aN (b.drop p)).2.1.toNat) (aX out (aN (b.drop p)).1 (ay m)).1 (ay m):=by
    rw[bn,if_neg hne]
   have eR:dq b p=if (aN (b.drop p)).2.2≠0 then (ew,0,(aN (b.drop p)).2.2) else ((aN (b.drop p)).1,(p:Int)+(aN (b.drop p)).2.1,0):=by
    unfold dq
    rw[if_neg (by omega),zG]
   have hlit:=yg (b.drop p)
   rw[List.length_drop] at hlit
   have hbm:=oB m
   refine bT (by simpa using hp) ?_
   refine bT (decide_eq_true hl) ?_
   rw[e,eR]
   by_cases h4:(aN (b.drop p)).2.2=0
   ·have ho:=Dg hbd h4 hne
    rw[List.length_drop] at ho
    rw[if_neg (az h4),if_neg (az h4)]
    refine (af rfl _ _).trans ?_
    refine bT (by simp only[zA,zB];omega) ?_
    by_cases h5:(aX out (aN (b.drop p)).1 (ay m)).2=0
    ·have hle:=oC h5
     refine bF (by simpa using h5) ?_
     rw[if_neg (az h5)]
     obtain ⟨n,hn⟩:=au (show 0≤(aN (b.drop p)).2.1 by omega)
     rw[hn] at ho ⊢
     have:=ih (p+n) (aX out (aN (b.drop p)).1 (ay m)).1 (by omega) (by omega) (by omega)
     rw[List.drop_drop,zG]
     exact this
    ·refine bT (by simpa using h5) ?_
     rw[if_pos h5,if_neg h5]
   ·rw[if_pos h4,if_pos h4]
    refine bT (by simpa using h4) ?_
    rw[if_neg h4]
  ·refine bF (by simp;omega) ?_
   rw[zI (by omega)]
   rfl
def wT (a0:LI)(a1:Int):Option kG.Res:=(lH ((a0,(a1,([],(0,())))),())).run fun y=>match y with | .ret ((),((x15,x16,()),()))=>(oR ((x15,x16,()),())) | .pan (.ret ((),((x17,()),())))=>(oR ((x17,0,()),()))
theorem MG (a0:LI)(a1:Int):Io.run tt Gv dr sV kG Tryz.f114 ((a0,a1,()),())=wT a0 a1:=by kernel_rfl
theorem xA:HcsOk prog F2:=.cons OL (.cons ID (.cons IE .nil))
theorem OK:HcOk prog 114 (ah kG DS):=by
 refine bQ xA (lp:=sV) (fn:=Tryz.f114) kG (.step (h0:=aD d7 lH) (by kernel_rfl) (f9 xA (lp:=sV) (fn:=Tryz.f114) (.done (by kernel_rfl)) d7 lH ?_) (.done (by kernel_rfl))) DS ?_
 ·rintro ⟨⟨(b:LI),(m:Int),(out:LI),(p:Int),⟨⟩⟩,⟨⟩⟩ y hw hy
  obtain ⟨hg,hy⟩:=Tr.guard hy
  simp only[zA,zB] at hg
  obtain ⟨h1,h2,h3⟩:=hg
  have h3:p=0:=h3
  subst h3
  refine ⟨b.length+1,(Cu m (dA hw.1.1) h1 (b.length+1) 0 out (Nat.zero_le _) (show b.length - 0<b.length+1 by omega) h2).trans ?_⟩
  rw[← hy]
  simp only[Tr.val_ite,zB,Tr.val_ret,List.drop_zero]
 ·rintro ⟨⟨(b:LI),(m:Int),⟨⟩⟩,⟨⟩⟩ o hw ho
  obtain ⟨hg,ho⟩:=Tr.guard ho
  have hg:b.length≤4294960000:=of_decide_eq_true hg
  cases ho
  refine (MG b m).trans ?_
  show _=oR (((aq b m).1,(aq b m).2,()),())
  unfold wT lH
  rw[dE]
  refine bT (by simp only[zA,zB];exact ⟨hg,by simp,trivial⟩) ?_
  by_cases h:(bn (b.length+1) b [] (ay m)).2=0
  ·refine bT (decide_eq_true h) ?_
   rw[h]
   rfl
  ·refine bF (decide_eq_false h) ?_
   rw[iL _ _ _ _ h]
   rfl
abbrev Of:Io:=iB
abbrev kq:Io:=⟨[dL,dI],[],[],[dO,dI],none⟩
def DF (d:kq.In):Tr kq.Res:=.ite (decide ((d.1.2.1:Int)=(32768:Int))&&decide (d.1.1.length≤4294960000)) (.ret (.ret (((aY d.1.1).1,(aY d.1.1).2,()),()))) .no
abbrev FI:List (Nat×Hc):=[(135,ah lU Fh),(136,ah kE DQ)]
def NO:Hd:=bG FI
def GN:Lp:=bM []
def wA (a0:LI)(a1:Int):Option kq.Res:=bif (ab 10 1 a0 0).2.2 != 0 then oR (([],(ab 10 1 a0 0).2.2,()),()) else bif decide (al (ab 10 1 a0 0).1<0) then oR (([],5,()),()) else bif decide (cp a1 0<al (ab 10 1 a0 0).1) then oR (([],4,()),()) else bif decide (32768<al (ab 10 1 a0 0).1) then oR (([],4,()),()) else bif decide (0≤(ab 10 1 a0 0).2.1)&&(decide ((ab 10 1 a0 0).2.1≤(↑a0.length:Int))&&decide ((↑a0.length:Int)≤(↑a0.length:Int))) then bif decide ((List.drop (ab 10 1 a0 0).2.1.toNat (List.take (↑a0.length:Int).toNat a0)).length≤4294960000) then bif (aq (List.drop (ab 10 1 a0 0).2.1.toNat (List.take (↑a0.length:Int).toNat a0)) (al (ab 10 1 a0 0).1)).2 == 4 then bif (aq (List.drop (ab 10 1 a0 0).2.1.toNat (List.take (↑a0.length:Int).toNat a0)) (al (ab 10 1 a0 0).1)).2 == 4 then oR (([],60,()),()) else bif (aq (List.drop (ab 10 1 a0 0).2.1.toNat (List.take (↑a0.length:Int).toNat a0)) (al (ab 10 1 a0 0).1)).2 != 0 then oR (([],(aq (List.drop (ab 10 1 a0 0).2.1.toNat (List.take (↑a0.length:Int).toNat a0)) (al (ab 10 1 a0 0).1)).2,()),()) else oR (((aq (List.drop (ab 10 1 a0 0).2.1.toNat (List.take (↑a0.length:Int).toNat a0)) (al (ab 10 1 a0 0).1)).1,0,()),()) else bif (aq (List.drop (ab 10 1 a0 0).2.1.toNat (List.take (↑a0.length:Int).toNat a0)) (al (ab 10 1 a0 0).1)).2 == 0 then bif decide ((↑(aq (List.drop (ab 10 1 a0 0).2.1.toNat (List.take (↑a0.length:Int).toNat a0)) (al (ab 10 1 a0 0).1)).1.length:Int)<al (ab 10 1 a0 0).1) then oR (([],60,()),()) else bif (aq (List.drop (ab 10 1 a0 0).2.1.toNat (List.take (↑a0.length:Int).toNat a0)) (al (ab 10 1 a0 0).1)).2 != 0 then oR (([],(aq (List.drop (ab 10 1 a0 0).2.1.toNat (List.take (↑a0.length:Int).toNat a0)) (al (ab 10 1 a0 0).1)).2,()),()) else oR (((aq (List.drop (ab 10 1 a0 0).2.1.toNat (List.take (↑a0.length:Int).toNat a0)) (al (ab 10 1 a0 0).1)).1,0,()),()) else bif (aq (List.drop (ab 10 1 a0 0).2.1.toNat (List.take (↑a0.length:Int).toNat a0)) (al (ab 10 1 a0 0).1)).2 != 0 then oR (([],(aq (List.drop (ab 10 1 a0 0).2.1.toNat (List.take (↑a0.length:Int).toNat a0)) (al (ab 10 1 a0 0).1)).2,()),()) else oR (((aq (List.drop (ab 10 1 a0 0).2.1.toNat (List.take (↑a0.length:Int).toNat a0)) (al (ab 10 1 a0 0).1)).1,0,()),()) else none else none
theorem Mk (a0:LI)(a1:Int):Io.run tt NO dr GN kq Tryz.f109 ((a0,a1,()),())=wA a0 a1:=by kernel_rfl
theorem Ow:HcOk prog 109 (ah kq DF):=by
 refine bQ (cs:=FI) (.cons LL (.cons OI .nil)) (lp:=GN) (fn:=Tryz.f109) kq (.done (by kernel_rfl)) DF ?_
 rintro ⟨⟨(b:LI),(most:Int),⟨⟩⟩,⟨⟩⟩ o hw ho
 obtain ⟨hg,ho⟩:=Tr.guard ho
 simp only[zA,zB] at hg
 obtain ⟨h0,hl⟩:=hg
 have h0:most=32768:=h0
 have hl:b.length≤4294960000:=hl
 subst h0
 cases ho
 refine (Mk b 32768).trans ?_
 show _=oR (((aY b).1,(aY b).2,()),())
 unfold wA aY
 have hk:=@mt 10 1 b 0
 generalize hge:ab 10 1 b 0=g at *
 obtain ⟨u,q,e⟩:=g
 simp only at hk ⊢
 by_cases h1:e=0
 rotate_left
 ·refine bT (by simpa using h1) ?_
  rw[if_pos h1]
 subst h1
 have hk:=hk rfl
 obtain ⟨q,rfl⟩:=au (show 0≤q by omega)
 refine (af rfl _ _).trans ?_
 rw[if_neg (az rfl)]
 generalize al u=n
 by_cases h2:n<0
 ·refine bT (decide_eq_true h2) ?_
  rw[if_pos h2]
 refine bF (decide_eq_false h2) ?_
 rw[if_neg h2]
 by_cases h3:32768<n
 ·refine bT (decide_eq_true (show cp 32768 0<n from h3)) ?_
  rw[if_pos h3]
 refine bF (decide_eq_false (show ¬ cp 32768 0<n from h3)) ?_
 refine bF (decide_eq_false h3) ?_
 rw[if_neg h3]
 have hx:=dE (b.drop q) n
 rw[zG,zG,List.take_length]
 refine bT (by simp only[zA,zB];omega) ?_
 refine bT (decide_eq_true (by simp;omega)) ?_
 have hx1:(aq (b.drop q) n).2≠0→(aq (b.drop q) n).1=[]:=by rw[hx];exact iL _ _ _ _
 clear hx
 generalize aq (b.drop q) n=x at *
 obtain ⟨o,f⟩:=x
 simp only at hx1 ⊢
 by_cases h4:f=4
 ·subst h4
  refine (aa rfl _ _).trans ?_
  rw[if_pos (.inl rfl)]
  all_goals rfl
 refine bF (by simpa using h4) ?_
 by_cases h5:f=0
 ·subst h5
  refine (aa rfl _ _).trans ?_
  by_cases h6:(o.length:Int)<n
  ·refine bT (decide_eq_true h6) ?_
   rw[if_pos (.inr ⟨rfl,h6⟩)]
  ·refine bF (decide_eq_false h6) ?_
   rw[if_neg (by rintro (h | h);cases h;exact h6 h.2),if_neg (az rfl)]
   all_goals rfl
 ·refine bF (by simpa using h5) ?_
  rw[if_neg (by rintro (h | h);exact h4 h;exact h5 h.1),if_pos h5]
  exact aa (by simpa using h5) _ _
abbrev ku:Io:=⟨[dL,dI],[],[],[dO,dI],none⟩
def DI (d:ku.In):Tr ku.Res:=.ite (decide ((d.1.2.1:Int)=(32768:Int))&&decide (d.1.1.length≤4294960000)) (.ret (.ret (((aY d.1.1).1,(aY d.1.1).2,()),()))) .no
abbrev FJ:List (Nat×Hc):=[(113,ah Of yF),(114,ah kG DS)]
def NP:Hd:=bG FJ
def GO:Lp:=bM []
def wD (a0:LI)(a1:Int):Option ku.Res:=bif (ab 10 1 a0 0).2.2 != 0 then oR (([],(ab 10 1 a0 0).2.2,()),()) else bif decide (al (ab 10 1 a0 0).1<0) then oR (([],5,()),()) else bif decide (32768<al (ab 10 1 a0 0).1) then oR (([],4,()),()) else bif decide (a1<al (ab 10 1 a0 0).1) then bif decide (0≤a1) then oR (([],4,()),()) else bif decide (0<al (ab 10 1 a0 0).1) then oR (([],4,()),()) else bif decide (0≤(ab 10 1 a0 0).2.1)&&(decide ((ab 10 1 a0 0).2.1≤(↑a0.length:Int))&&decide ((↑a0.length:Int)≤(↑a0.length:Int))) then bif decide ((List.drop (ab 10 1 a0 0).2.1.toNat (List.take (↑a0.length:Int).toNat a0)).length≤4294960000) then bif (aq (List.drop (ab 10 1 a0 0).2.1.toNat (List.take (↑a0.length:Int).toNat a0)) (al (ab 10 1 a0 0).1)).2 == 4 then oR (([],60,()),()) else bif (aq (List.drop (ab 10 1 a0 0).2.1.toNat (List.take (↑a0.length:Int).toNat a0)) (al (ab 10 1 a0 0).1)).2 == 0 then bif decide ((↑(aq (List.drop (ab 10 1 a0 0).2.1.toNat (List.take (↑a0.length:Int).toNat a0)) (al (ab 10 1 a0 0).1)).1.length:Int)<al (ab 10 1 a0 0).1) then oR (([],60,()),()) else bif (aq (List.drop (ab 10 1 a0 0).2.1.toNat (List.take (↑a0.length:Int).toNat a0)) (al (ab 10 1 a0 0).1)).2 != 0 then oR (([],(aq (List.drop (ab 10 1 a0 0).2.1.toNat (List.take (↑a0.length:Int).toNat a0)) (al (ab 10 1 a0 0).1)).2,()),()) else oR (((aq (List.drop (ab 10 1 a0 0).2.1.toNat (List.take (↑a0.length:Int).toNat a0)) (al (ab 10 1 a0 0).1)).1,0,()),()) else bif (aq (List.drop (ab 10 1 a0 0).2.1.toNat (List.take (↑a0.length:Int).toNat a0)) (al (ab 10 1 a0 0).1)).2 != 0 then oR (([],(aq (List.drop (ab 10 1 a0 0).2.1.toNat (List.take (↑a0.length:Int).toNat a0)) (al (ab 10 1 a0 0).1)).2,()),()) else oR (((aq (List.drop (ab 10 1 a0 0).2.1.toNat (List.take (↑a0.length:Int).toNat a0)) (al (ab 10 1 a0 0).1)).1,0,()),()) else none else none else bif decide (0≤(ab 10 1 a0 0).2.1)&&(decide ((ab 10 1 a0 0).2.1≤(↑a0.length:Int))&&decide ((↑a0.length:Int)≤(↑a0.length:Int))) then bif decide ((List.drop (ab 10 1 a0 0).2.1.toNat (List.take (↑a0.length:Int).toNat a0)).length≤4294960000) then bif (aq (List.drop (ab 10 1 a0 0).2.1.toNat (List.take (↑a0.length:Int).toNat a0)) (al (ab 10 1 a0 0).1)).2 == 4 then oR (([],60,()),()) else bif (aq (List.drop (ab 10 1 a0 0).2.1.toNat (List.take (↑a0.length:Int).toNat a0)) (al (ab 10 1 a0 0).1)).2 == 0 then bif decide ((↑(aq (List.drop (ab 10 1 a0 0).2.1.toNat (List.take (↑a0.length:Int).toNat a0)) (al (ab 10 1 a0 0).1)).1.length:Int)<al (ab 10 1 a0 0).1) then oR (([],60,()),()) else bif (aq (List.drop (ab 10 1 a0 0).2.1.toNat (List.take (↑a0.length:Int).toNat a0)) (al (ab 10 1 a0 0).1)).2 != 0 then oR (([],(aq (List.drop (ab 10 1 a0 0).2.1.toNat (List.take (↑a0.length:Int).toNat a0)) (al (ab 10 1 a0 0).1)).2,()),()) else oR (((aq (List.drop (ab 10 1 a0 0).2.1.toNat (List.take (↑a0.length:Int).toNat a0)) (al (ab 10 1 a0 0).1)).1,0,()),()) else bif (aq (List.drop (ab 10 1 a0 0).2.1.toNat (List.take (↑a0.length:Int).toNat a0)) (al (ab 10 1 a0 0).1)).2 != 0 then oR (([],(aq (List.drop (ab 10 1 a0 0).2.1.toNat (List.take (↑a0.length:Int).toNat a0)) (al (ab 10 1 a0 0).1)).2,()),()) else oR (((aq (List.drop (ab 10 1 a0 0).2.1.toNat (List.take (↑a0.length:Int).toNat a0)) (al (ab 10 1 a0 0).1)).1,0,()),()) else none else none
theorem Mn (a0:LI)(a1:Int):Io.run tt NP dr GO ku Tryz.f79 ((a0,a1,()),())=wD a0 a1:=by kernel_rfl
theorem Oy:HcOk prog 79 (ah ku DI):=by
 refine bQ (cs:=FJ) (.cons Ho (.cons OK .nil)) (lp:=GO) (fn:=Tryz.f79) ku (.done (by kernel_rfl)) DI ?_
 rintro ⟨⟨(b:LI),(most:Int),⟨⟩⟩,⟨⟩⟩ o hw ho
 obtain ⟨hg,ho⟩:=Tr.guard ho
 simp only[zA,zB] at hg
 obtain ⟨h0,hl⟩:=hg
 have h0:most=32768:=h0
 have hl:b.length≤4294960000:=hl
 subst h0
 cases ho
 refine (Mn b 32768).trans ?_
 show _=oR (((aY b).1,(aY b).2,()),())
 unfold wD aY
 have hk:=@mt 10 1 b 0
 generalize hge:ab 10 1 b 0=g at *
 obtain ⟨u,q,e⟩:=g
 simp only at hk ⊢
 by_cases h1:e=0
 rotate_left
 ·refine bT (by simpa using h1) ?_
  rw[if_pos h1]
 subst h1
 have hk:=hk rfl
 obtain ⟨q,rfl⟩:=au (show 0≤q by omega)
 refine (af rfl _ _).trans ?_
 rw[if_neg (az rfl)]
 generalize al u=n
 by_cases h2:n<0
 ·refine bT (decide_eq_true h2) ?_
  rw[if_pos h2]
 refine bF (decide_eq_false h2) ?_
 rw[if_neg h2]
 by_cases h3:32768<n
 ·refine bT (decide_eq_true h3) ?_
  rw[if_pos h3]
 refine bF (decide_eq_false h3) ?_
 refine bF (decide_eq_false h3) ?_
 rw[if_neg h3]
 have hx:=dE (b.drop q) n
 rw[zG,zG,List.take_length]
 refine bT (by simp only[zA,zB];omega) ?_
 refine bT (decide_eq_true (by simp;omega)) ?_
 have hx1:(aq (b.drop q) n).2≠0→(aq (b.drop q) n).1=[]:=by rw[hx];exact iL _ _ _ _
 clear hx
 generalize aq (b.drop q) n=x at *
 obtain ⟨o,f⟩:=x
 simp only at hx1 ⊢
 by_cases h4:f=4
 ·subst h4
  refine (aa rfl _ _).trans ?_
  rw[if_pos (.inl rfl)]
  all_goals rfl
 refine bF (by simpa using h4) ?_
 by_cases h5:f=0
 ·subst h5
  refine (aa rfl _ _).trans ?_
  by_cases h6:(o.length:Int)<n
  ·refine bT (decide_eq_true h6) ?_
   rw[if_pos (.inr ⟨rfl,h6⟩)]
  ·refine bF (decide_eq_false h6) ?_
   rw[if_neg (by rintro (h | h);cases h;exact h6 h.2),if_neg (az rfl)]
   all_goals rfl
 ·refine bF (by simpa using h5) ?_
  rw[if_neg (by rintro (h | h);exact h4 h;exact h5 h.1),if_pos h5]
  exact aa (by simpa using h5) _ _
abbrev aR:Ty:=.prod (.int .i64) (.prod yi (.prod yi (.prod E8 .unit)))
abbrev PH:Ty:=.sl 91 aR
abbrev fN:Ty:=.prod (.int .i64) (.prod (.int .i32) (.prod (.int .i64) (.prod (.int .i16) (.prod (.int .i32) (.prod PH .unit)))))
abbrev Rb:Ty:=.prod (.int .i64) (.prod (.int .i64) (.prod (.int .i32) (.prod .bool (.prod (.int .i64) (.prod (.int .i64) (.prod (.int .i64) (.prod (.int .i64) (.prod (.int .i16) (.prod (.int .i32) .unit)))))))))
abbrev bm:Type:=Int×AX×AX×List eB×Unit
abbrev bR:Type:=Int×Int×Int×Int×Int×List bm×Unit
abbrev wc:Type:=Int×Int×Int×Bool×Int×Int×Int×Int×Int×Int×Unit
abbrev Ry:Sh:=.dat aR true false
abbrev Kt:Sh:=.dat PH false false
abbrev BO:Sh:=.dat fN true false
abbrev Kr:Sh:=.dat Rb true false
def s6:bR:=(0,0,0,0,0,[],())
def bq:wc:=(0,0,0,false,0,0,0,0,0,0,())
def s7:bm:=(0,(false,[],()),(false,[],()),[],())
def bh (base:Int):Bool:=decide (base<0) || decide (4611686018427387648<base)
def aW (pid ep sq:Int):Bool:=if pid = -1∧ep = -1∧sq = -1∨0≤pid∧0≤ep∧0≤sq then false else true
def aP (n:Int):Bool:=if -9223372036854775808≤n∧n≤9223372036854775807 then true else false
def aM (rs:List bm):Int:=match rs with
 |[]=>0
 |r::_=>r.1
def cH (f:Int)(i:Nat)(r:bm):oV:=(r.1 - f,(i:Int),r.2.1,r.2.2.1,r.2.2.2.1,())
def bp (f:Int):List bm→Nat→LI→LI×Int
 |[],_,out=>(out,0)
 |r::rs,i,out=>
  if aP (r.1 - f)=false then ([],86)
  else if bi (cH f i r)≠0 then ([],bi (cH f i r))
  else bp f rs (i+1) (out++(ck (cH f i r)).1)
def ez (rs:List bm):LI×Int:=
 if (bp (aM rs) rs 0 []).2≠0 then ([],(bp (aM rs) rs 0 []).2)
 else if 32768<((bp (aM rs) rs 0 []).1.length:Int) then ([],4)
 else ((bp (aM rs) rs 0 []).1,0)
def du (b:bR):Int:=
 if bh b.1=true then 80
 else if aW b.2.2.1 b.2.2.2.1 b.2.2.2.2.1=true then 84
 else if b.2.2.2.2.2.1=[] then 85
 else if 256<(b.2.2.2.2.2.1.length:Int) then 9
 else (ez b.2.2.2.2.2.1).2
def bu:List bm→Int→Int
 |[],t=>t
 |r::rs,t=>bu rs (cp t r.1)
def cj (rs:List bm):Int:=match rs with
 |[]=>-9223372036854775808
 |r::rs=>bu rs r.1
def eo (b:bR)(attrs:Int)(blk:LI):LI:=
 aU attrs 2++(aU ((b.2.2.2.2.2.1.length:Int) - 1) 4++(aU (aM b.2.2.2.2.2.1) 8++(aU (cj b.2.2.2.2.2.1) 8++(aU b.2.2.1 8++(aU b.2.2.2.1 2++(aU b.2.2.2.2.1 4++(aU (b.2.2.2.2.2.1.length:Int) 4++blk)))))))
def qZ (b:bR)(attrs:Int)(blk:LI):LI:=
 aU b.1 8++(aU (49+(blk.length:Int)) 4++(aU b.2.1 4++([2]++(aU (cG 0 (eo b attrs blk)) 4++eo b attrs blk))))
def ar (b:LI)(p n:Nat):Int:=cm ((b.drop p).take n)
def aj (b:LI)(p:Int):Int×Int:=
 if p<0∨(b.length:Int)<p then (0,3)
 else if (b.length:Int) - p<12 then (0,1)
 else if ar b (p.toNat+8) 4<49 then (0,5)
 else if 35988<ar b (p.toNat+8) 4 then (0,4)
 else if (b.length:Int) - p - 12<ar b (p.toNat+8) 4 then (0,1)
 else (ar b (p.toNat+8) 4+12,0)
def eN (b:LI):Bool:=if (b.drop 17).take 4=aU (cG 0 (b.drop 21)) 4 then true else false
def iN (b:LI):wc:=(ar b 0 8,(b.length:Int),ar b 12 4,decide (b.getD 22 0=1),ar b 57 4,ar b 27 8,ar b 35 8,ar b 43 8,ar b 51 2,ar b 53 4,())
def bd (b:LI)(summing:Bool):Int:=
 if (b.length:Int)<61 then 1
 else if (aj b 0).2≠0 then (aj b 0).2
 else if (aj b 0).1<(b.length:Int) then 2
 else if b.getD 16 0≠2 then 81
 else if summing=true∧eN b=false then 82
 else if bh (ar b 0 8)=true then 80
 else if b.getD 21 0≠0∨1<b.getD 22 0 then 83
 else if aW (ar b 43 8) (ar b 51 2) (ar b 53 4)=true then 84
 else if ar b 57 4<1 then 85
 else if 256<ar b 57 4 then 9
 else if ar b 23 4≠ar b 57 4 - 1 then 72
 else 0
def ak (b:LI)(summing:Bool):wc×Int:=if bd b summing≠0 then (bq,bd b summing) else (iN b,0)
def aE (blk:LI)(f:Int):Nat→Nat→Int→List bm→List bm×Int×Int
 |0,_,p,out=>(out,p,0)
 |n+1,i,p,out=>
  if (an blk p).2.2≠0 then ([],0,(an blk p).2.2)
  else if (an blk p).1.2.1≠(i:Int) then ([],0,72)
  else if i=0∧(an blk p).1.1≠0∨aP (f+(an blk p).1.1)=false then ([],0,86)
  else aE blk f n (i+1) (an blk p).2.1 (out++[(f+(an blk p).1.1,(an blk p).1.2.2.1,(an blk p).1.2.2.2.1,(an blk p).1.2.2.2.2.1,())])
def cO (blk:LI)(f l:Int)(n:Nat):List bm×Int:=
 if (aE blk f n 0 0 []).2.2≠0 then ([],(aE blk f n 0 0 []).2.2)
 else if (aE blk f n 0 0 []).2.1<(blk.length:Int) then ([],2)
 else if cj (aE blk f n 0 0 []).1≠l then ([],86)
 else ((aE blk f n 0 0 []).1,0)
def aO (b:LI)(packed:Bool):LI×Int:=
 if packed=true then aY (b.drop 61) else if 32768<((b.drop 61).length:Int) then ([],4) else (b.drop 61,0)
def eV (b:LI):List bm×Int:=
 if bd b true≠0 then ([],bd b true)
 else if (aO b (decide (b.getD 22 0=1))).2≠0 then ([],(aO b (decide (b.getD 22 0=1))).2)
 else cO (aO b (decide (b.getD 22 0=1))).1 (ar b 27 8) (ar b 35 8) (ar b 57 4).toNat
def ao (b:LI):bR×Int:=
 if (eV b).2≠0 then (s6,(eV b).2) else ((ar b 0 8,ar b 12 4,ar b 43 8,ar b 51 2,ar b 53 4,(eV b).1,()),0)
abbrev d8:Sh:=.dat (.int .i8) false false
abbrev nZ:Io:=⟨[.ptr 0 0],[PE],[],[d8,dI],none⟩
def Fk (d:nZ.In):Tr nZ.Res:=
 .ite (cP d.2.1.1 d.2.1.2.1) (.ret (.ret ((i8.wrap (bJ d.2.1.1 d.2.1.2.1 1).1,((bJ d.2.1.1 d.2.1.2.1 1).2.2,())),((d.2.1.1,((bJ d.2.1.1 d.2.1.2.1 1).2.1,())),())))) .no
abbrev Kl:List (Nat×Hc):=[(132,ah cL gN)]
def PZ:Hd:=bG Kl
def Ln:Lp:=bM []
def Bj (a0:LI)(a1:Int):Option nZ.Res:=bif cP a0 a1&&(decide (0≤1)&&decide (1≤8)) then oR ((i8.wrap (bJ a0 a1 (Int.toNat 1)).1,(bJ a0 a1 (Int.toNat 1)).2.2,()),(a0,(bJ a0 a1 (Int.toNat 1)).2.1,()),()) else none
theorem O8 (a0:LI)(a1:Int):Io.run tt PZ dr Ln nZ Tryz.f106 (((),()),(a0,a1,()),())=Bj a0 a1:=by kernel_rfl
theorem Qi:HcOk prog 106 (ah nZ Fk):=by
 refine bQ (cs:=Kl) (.cons kU .nil) (lp:=Ln) (fn:=Tryz.f106) nZ (.done (by kernel_rfl)) Fk ?_
 rintro ⟨⟨⟨⟩,⟨⟩⟩,⟨⟨(b:LI),(p:Int),⟨⟩⟩,⟨⟩⟩⟩ out hw ho
 obtain ⟨hg,ho⟩:=Tr.guard ho
 have hg:cP b p=true:=hg
 cases ho
 refine (O8 b p).trans ?_
 unfold Bj
 rw[aa (by simp[hg])]
 rfl
theorem jC {n:Int}(h:bH .i64 n) : -9223372036854775808≤n∧n≤9223372036854775807:=by
 simpa [bH,IntKind.min,IntKind.max,IntKind.signed,IntKind.bits] using h
theorem Ee {n:Int}(h:bH .i32 n) : -2147483648≤n∧n≤2147483647:=by
 simpa [bH,IntKind.min,IntKind.max,IntKind.signed,IntKind.bits] using h
theorem QA {n:Int}(h1:9223372036854775807<n)(h2:n≤18446744073709551615):i64.wrap n=n - 18446744073709551616:=by
 simp[IntKind.wrap,IntKind.signed,IntKind.bits] <;> (try split) <;> omega
theorem QB {n:Int}(h1:n < -9223372036854775808)(h2 : -18446744073709551616≤n):i64.wrap n=n+18446744073709551616:=by
 simp[IntKind.wrap,IntKind.signed,IntKind.bits] <;> (try split) <;> omega
theorem KC {n:Int}(h1 : -9223372036854775808≤n)(h2:n≤9223372036854775807):aP n=true:=by unfold aP;rw[if_pos ⟨h1,h2⟩]
theorem xr {n:Int}(h:¬(-9223372036854775808≤n∧n≤9223372036854775807)):aP n=false:=by unfold aP;rw[if_neg h]
theorem fm {n:Int}:aP n=true↔-9223372036854775808≤n∧n≤9223372036854775807:=by
 unfold aP
 split
 ·rename_i h;exact ⟨fun _=>h,fun _=>rfl⟩
 ·rename_i h;exact ⟨fun h'=>Bool.noConfusion h',fun h'=>absurd h' h⟩
theorem NC {d f:Int}(hd:bH .i64 d)(hf:bH .i64 f):(decide (i64.wrap (f+d)<f) == decide (d<0))=aP (f+d):=by
 have h1:=jC hd
 have h2:=jC hf
 by_cases a : -9223372036854775808≤f+d
 ·by_cases b:f+d≤9223372036854775807
  ·rw[KC a b,ae a b]
   by_cases c:d<0
   ·rw[decide_eq_true c,decide_eq_true (show f+d<f by omega)];rfl
   ·rw[decide_eq_false c,decide_eq_false (show ¬ f+d<f by omega)];rfl
  ·rw[xr (fun h=>b h.2),QA (by omega) (by omega),decide_eq_true (show f+d - 18446744073709551616<f by omega),decide_eq_false (show ¬ d<0 by omega)];rfl
 ·rw[xr (fun h=>a h.1),QB (by omega) (by omega),decide_eq_false (show ¬ f+d+18446744073709551616<f by omega),decide_eq_true (show d<0 by omega)];rfl
theorem Qs:∀{l:LI},(∀c∈l,0≤c∧c≤255)→l.length=1→i8.wrap (aS l)=cm l
 |[a],h,_=>by
  have ha:=h a (by simp)
  simp only[aS,cm,List.foldl_cons,List.foldl_nil]
  simp[IntKind.wrap,IntKind.signed,IntKind.bits] <;> (try split) <;> omega
theorem s5:∀{l:LI},(∀c∈l,0≤c∧c≤255)→l.length=2→i16.wrap (aS l)=cm l
 |[a,b],h,_=>by
  have ha:=h a (by simp)
  have hb:=h b (by simp)
  simp only[aS,cm,List.foldl_cons,List.foldl_nil]
  simp[IntKind.wrap,IntKind.signed,IntKind.bits] <;> (try split) <;> omega
theorem m8:∀{l:LI},(∀c∈l,0≤c∧c≤255)→l.length=4→i32.wrap (aS l)=cm l
 |[a,b,c,d],h,_=>by
  have ha:=h a (by simp)
  have hb:=h b (by simp)
  have hc:=h c (by simp)
  have hd:=h d (by simp)
  simp only[aS,cm,List.foldl_cons,List.foldl_nil]
  simp[IntKind.wrap,IntKind.signed,IntKind.bits] <;> (try split) <;> omega
theorem AE:∀{l:LI},(∀c∈l,0≤c∧c≤255)→l.length=8→i64.wrap (aS l)=cm l
 |[a,b,c,d,e,f,g,i],h,_=>by
  have ha:=h a (by simp)
  have hb:=h b (by simp)
  have hc:=h c (by simp)
  have hd:=h d (by simp)
  have he:=h e (by simp)
  have hf:=h f (by simp)
  have hg:=h g (by simp)
  have hi:=h i (by simp)
  simp only[aS,cm,List.foldl_cons,List.foldl_nil]
  simp[IntKind.wrap,IntKind.signed,IntKind.bits] <;> (try split) <;> omega
theorem MP:∀{l:LI},(∀c∈l,0≤c∧c≤255)→l.length=4→-2147483648≤cm l∧cm l≤2147483647:=fun h hl=>by
 rw[← m8 h hl]
 exact Ee (bL _ _)
theorem dz {b:LI}(hb:∀c∈b,0≤c∧c≤255)(p n:Nat):∀c∈(b.drop p).take n,0≤c∧c≤255:=fun c hc=>hb c (List.mem_of_mem_drop (List.mem_of_mem_take hc))
theorem cI {b:LI}{p n:Nat}(h:p+n≤b.length):((b.drop p).take n).length=n:=by simp;omega
abbrev kj:Io:=⟨[cw],[],[],[dB],none⟩
def Dy (d:kj.In):Tr kj.Res:=.ret (.ret ((bh d.1.1,()),()))
abbrev Fu:List (Nat×Hc):=[]
def NE:Hd:=bG Fu
def GD:Lp:=bM []
def wk (a0:Int):Option kj.Res:=bif decide (a0<0) then oR ((true,()),()) else oR ((decide (4611686018427387648<a0),()),())
theorem L5 (a0:Int):Io.run tt NE dr GD kj Tryz.f100 ((a0,()),())=wk a0:=by kernel_rfl
theorem Ok:HcOk prog 100 (ah kj Dy):=by
 refine bQ (cs:=Fu) HcsOk.nil (lp:=GD) (fn:=Tryz.f100) kj (.done (by kernel_rfl)) Dy ?_
 rintro ⟨⟨(b:Int),⟨⟩⟩,⟨⟩⟩ out hw ho
 cases ho
 refine (L5 b).trans ?_
 show _=oR ((decide (b<0) || decide (4611686018427387648<b),()),())
 unfold wk
 by_cases h:b<0
 ·refine bT (decide_eq_true h) ?_
  rw[decide_eq_true h];rfl
 ·refine bF (decide_eq_false h) ?_
  rw[decide_eq_false h];rfl
abbrev iY:Io:=⟨[cw,Ru,PO],[],[],[dB],none⟩
def DB (d:iY.In):Tr iY.Res:=.ret (.ret ((aW d.1.1 d.1.2.1 d.1.2.2.1,()),()))
abbrev Fx:List (Nat×Hc):=[]
def NH:Hd:=bG Fx
def GG:Lp:=bM []
def wo (a0 a1 a2:Int):Option iY.Res:=bif a0 == -1 then bif a1 == -1 then bif decide (0≤a0) then bif decide (0≤a1) then bif !a2 == -1 then oR ((!decide (0≤a2),()),()) else oR ((false,()),()) else bif !a2 == -1 then oR ((true,()),()) else oR ((false,()),()) else bif !a2 == -1 then oR ((true,()),()) else oR ((false,()),()) else bif decide (0≤a0) then bif decide (0≤a1) then oR ((!decide (0≤a2),()),()) else oR ((true,()),()) else oR ((true,()),()) else bif decide (0≤a0) then bif decide (0≤a1) then oR ((!decide (0≤a2),()),()) else oR ((true,()),()) else oR ((true,()),())
theorem L9 (a0 a1 a2:Int):Io.run tt NH dr GG iY Tryz.f108 ((a0,a1,a2,()),())=wo a0 a1 a2:=by kernel_rfl
theorem On:HcOk prog 108 (ah iY DB):=by
 refine bQ (cs:=Fx) HcsOk.nil (lp:=GG) (fn:=Tryz.f108) iY (.done (by kernel_rfl)) DB ?_
 rintro ⟨⟨(pid:Int),(ep:Int),(sq:Int),⟨⟩⟩,⟨⟩⟩ out hw ho
 cases ho
 refine (L9 pid ep sq).trans ?_
 show _=oR (((if pid = -1∧ep = -1∧sq = -1∨0≤pid∧0≤ep∧0≤sq then false else true),()),())
 have hs:(!decide (0≤sq))=if 0≤sq then false else true:=by by_cases h:0≤sq <;> simp[h]
 have key:∀c:Prop,[Decidable c]→∀b:Bool,(b=false↔c)→some (Out.ret ((b,()),()):iY.Res)=oR (((if c then false else true),()),()):=by
  intro c _ b h
  by_cases hc:c
  ·rw[if_pos hc,h.2 hc]
  ·rw[if_neg hc]
   cases b with
   |true=>rfl
   |false=>exact absurd (h.1 rfl) hc
 unfold wo
 by_cases h1:pid = -1
 ·refine bT (by simp[h1]) ?_
  by_cases h2:ep = -1
  ·refine bT (by simp[h2]) ?_
   refine bF (decide_eq_false (by omega)) ?_
   by_cases h3:sq = -1
   ·refine bF (by simp[h3]) ?_
    exact key _ _ (by simp;omega)
   ·refine bT (by simp[h3]) ?_
    exact key _ _ (by simp;omega)
  ·refine bF (by simp[h2]) ?_
   refine bF (decide_eq_false (by omega)) ?_
   exact key _ _ (by simp;omega)
 ·refine bF (by simp[h1]) ?_
  by_cases h2:0≤pid
  ·refine bT (decide_eq_true h2) ?_
   by_cases h3:0≤ep
   ·refine bT (decide_eq_true h3) ?_
    exact key _ _ (by simp;omega)
   ·refine bF (decide_eq_false h3) ?_
    exact key _ _ (by simp;omega)
  ·refine bF (decide_eq_false h2) ?_
   exact key _ _ (by simp;omega)
def ct (f:Int):List bm→Nat→Bool
 |[],_=>true
 |r::rs,i=>gd (cH f i r)&&ct f rs (i+1)
theorem Jq {r:oV}(h:bi r=0):(ck r).2=0∧(ck r).1.length≤16400:=by
 have e:ck r=(aH (aC (cg r).length)++cg r,0):=by unfold ck;rw[if_pos h]
 rw[e]
 refine ⟨rfl,?_⟩
 have hs:(cg r).length≤16384:=by
  unfold bi at h
  split at h
  ·rename_i h1;exact absurd h h1
  ·split at h
   ·cases h
   ·omega
 have:=m9 (aC (cg r).length)
 simp only[zH]
 omega
theorem vr {r:oV}(h:bi r≠0):(ck r).2=bi r:=by unfold ck;rw[if_neg h]
abbrev kl:Io:=⟨[Kt],[],[],[cw],none⟩
def DA (d:kl.In):Tr kl.Res:=.ite (decide (1≤d.1.1.length)) (.ret (.ret ((cj d.1.1,()),()))) .no
abbrev y7:List (Nat×Hc):=[]
def Gl:Hd:=bG y7
abbrev dK:Lo:=⟨⟨(.any::bk (.one hI::bz (bk (.one (.hol (.sl 91 aR))::.one hI::.one hI::.any::dm [])))),[]⟩,[(.exit 0,⟨(.any::bk (.one hI::ai (bk []))),[]⟩)]⟩
def lm (d:dK.st.den):Tr (ap dK.xs):=.ite (decide (d.1.2.2.2.1=0)&&decide (d.1.2.2.1=(d.1.2.1.length:Int))) (.ret (.ret ((),((bu d.1.2.1 d.1.1,()),())))) .no
def sM:Lp:=bM [(4,aD dK lm)]
def rQ {R:Type}(h1:Int)(h2:List aR.den)(h3 h4:Int)(next:Int→List aR.den→Int→Int→Option R)(out:ap dK.xs→Option R):Option R:=bif decide (h4<h3) then bif decide (0≤h4)&&decide (h4<(↑h2.length:Int)) then next (cp h1 (h2.getD h4.toNat (0,(false,[],()),(false,[],()),[],())).1) (h2) (h3) (i64.wrap (h4+1)) else none else out (.ret ((),((h1,()),())))
def qJ (n:Nat)(h1:Int)(h2:List aR.den)(h3 h4:Int):Option (ap dK.xs):=fJ tt Gl dr sM 0 Tryz.f77 (bP Tryz.f77 0) n (dK.st.mk' ((h1,(h2,(h3,(h4,())))),())) (bt dK.xs)
theorem I8 (n:Nat)(h1:Int)(h2:List aR.den)(h3 h4:Int):qJ (n+1) h1 h2 h3 h4=rQ h1 h2 h3 h4 (qJ n) some:=by kernel_rfl
theorem Ci (rs:List bm)(hl:rs.length≤maxLen):∀(k i:Nat) (t:Int),rs.length<i+k→i≤rs.length→qJ k t rs (rs.length:Int) i=some (.ret ((),((bu (rs.drop i) t,()),()))):=by
 intro k
 induction k with
 |zero=>intro i t h;omega
 |succ k ih=>
  intro i t h1 h2
  rw[I8]
  unfold rQ
  by_cases hi:i<rs.length
  ·refine bT (by simpa using hi) ?_
   refine bT (by simpa using hi) ?_
   have e:List.getD rs (i:Int).toNat (0,(false,[],()),(false,[],()),[],())=rs[i]:=by simp only[zG,aA hi]
   rw[e,b7 hi hl,zE hi]
   exact ih (i+1) _ (by omega) (by omega)
  ·refine bF (by simp;omega) ?_
   rw[zI (by omega)]
   rfl
def wm (a0:List aR.den):Option kl.Res:=bif decide (0≤0)&&decide (0<(↑a0.length:Int)) then (lm (((a0.getD (Int.toNat 0) (0,(false,[],()),(false,[],()),[],())).1,(a0,((↑a0.length:Int),(0,())))),())).run fun y=>match y with | .ret ((),((x10,()),()))=>(oR ((x10,()),())) else none
theorem L7 (a0:List aR.den):Io.run tt Gl dr sM kl Tryz.f77 ((a0,()),())=wm a0:=by kernel_rfl
theorem Om:HcOk prog 77 (ah kl DA):=by
 refine bQ (cs:=y7) HcsOk.nil (lp:=sM) (fn:=Tryz.f77) kl (.step (h0:=aD dK lm) (by kernel_rfl) (f9 (cs:=y7) HcsOk.nil (lp:=sM) (fn:=Tryz.f77) (.done (by kernel_rfl)) dK lm ?_) (.done (by kernel_rfl))) DA ?_
 ·rintro ⟨⟨(t:Int),(rs:List bm),(m:Int),(i:Int),⟨⟩⟩,⟨⟩⟩ y hw hy
  obtain ⟨hg,hy⟩:=Tr.guard hy
  simp only[zA,zB] at hg
  obtain ⟨h1,h2⟩:=hg
  have h1:i=0:=h1
  have h2:m=(rs.length:Int):=h2
  subst h1 h2
  refine ⟨rs.length+1,(Ci rs hw.1.2.1.1 (rs.length+1) 0 t (by omega) (by omega)).trans ?_⟩
  rw[← hy];rfl
 ·rintro ⟨⟨(rs:List bm),⟨⟩⟩,⟨⟩⟩ out hw ho
  obtain ⟨hg,ho⟩:=Tr.guard ho
  have hg:1≤rs.length:=of_decide_eq_true hg
  cases ho
  refine (L7 rs).trans ?_
  show _=oR ((cj rs,()),())
  unfold wm lm
  refine bT (by simp;omega) ?_
  refine bT (by simp) ?_
  cases rs with
  |nil=>simp at hg
  |cons r rs=>
   have e:bu (r::rs) r.1=bu rs r.1:=by
    show bu rs (cp r.1 r.1)=_
    unfold cp
    rw[if_neg (by omega)]
   exact congrArg (fun x=>oR ((x,()),())) e
abbrev gG:Io:=⟨[dL,dI],[],[],[dI,dI],none⟩
def tg (d:gG.In):Tr gG.Res:=.ite (decide (d.1.1.length≤4294960000)) (.ret (.ret (((aj d.1.1 d.1.2.1).1,(aj d.1.1 d.1.2.1).2,()),()))) .no
abbrev Fw:List (Nat×Hc):=[(98,ah ji yJ),(99,ah jh tp)]
def NG:Hd:=bG Fw
def GF:Lp:=bM []
def wn (a0:LI)(a1:Int):Option gG.Res:=bif decide (a1<0) then oR ((0,3,()),()) else bif decide ((↑a0.length:Int)<a1) then oR ((0,3,()),()) else bif decide (i64.wrap ((↑a0.length:Int) - a1)<12) then oR ((0,1,()),()) else bif decide (0≤i64.wrap (a1+8))&&(decide (i64.wrap (a1+8)≤i64.wrap (a1+12))&&decide (i64.wrap (a1+12)≤(↑a0.length:Int))) then bif decide ((List.drop (i64.wrap (a1+8)).toNat (List.take (i64.wrap (a1+12)).toNat a0)).length≤4294967296) then bif cP (List.drop (i64.wrap (a1+8)).toNat (List.take (i64.wrap (a1+12)).toNat a0)) 0 then bif decide (i32.wrap (bJ (List.drop (i64.wrap (a1+8)).toNat (List.take (i64.wrap (a1+12)).toNat a0)) 0 4).1<49) then oR ((0,5,()),()) else bif decide (35988<i32.wrap (bJ (List.drop (i64.wrap (a1+8)).toNat (List.take (i64.wrap (a1+12)).toNat a0)) 0 4).1) then oR ((0,4,()),()) else bif decide (i64.wrap (i64.wrap ((↑a0.length:Int) - a1) - 12)<i64.wrap (i32.wrap (bJ (List.drop (i64.wrap (a1+8)).toNat (List.take (i64.wrap (a1+12)).toNat a0)) 0 4).1)) then oR ((0,1,()),()) else oR ((i64.wrap (12+i64.wrap (i32.wrap (bJ (List.drop (i64.wrap (a1+8)).toNat (List.take (i64.wrap (a1+12)).toNat a0)) 0 4).1)),0,()),()) else none else none else none
theorem L8 (a0:LI)(a1:Int):Io.run tt NG dr GF gG Tryz.f67 ((a0,a1,()),())=wn a0 a1:=by kernel_rfl
theorem Ao:HcOk prog 67 (ah gG tg):=by
 refine bQ (cs:=Fw) (.cons Hr (.cons Hq .nil)) (lp:=GF) (fn:=Tryz.f67) gG (.done (by kernel_rfl)) tg ?_
 rintro ⟨⟨(b:LI),(p:Int),⟨⟩⟩,⟨⟩⟩ out hw ho
 obtain ⟨hg,ho⟩:=Tr.guard ho
 have hg2:b.length≤4294960000:=of_decide_eq_true hg
 clear hg
 cases ho
 have hb:=dA hw.1.1
 refine (L8 b p).trans ?_
 show _=oR (((aj b p).1,(aj b p).2,()),())
 unfold wn aj
 by_cases h1:p<0
 ·refine bT (decide_eq_true h1) ?_
  rw[if_pos (.inl h1)]
 refine bF (decide_eq_false h1) ?_
 by_cases h2:(b.length:Int)<p
 ·refine bT (decide_eq_true h2) ?_
  rw[if_pos (.inr h2)]
 refine bF (decide_eq_false h2) ?_
 rw[if_neg (by omega)]
 obtain ⟨p,rfl⟩:=au (show 0≤p by omega)
 rw[ae (n:=(b.length:Int) - p) (by omega) (by omega),ae (n:=(p:Int)+8) (by omega) (by omega),ae (n:=(p:Int)+12) (by omega) (by omega),ae (n:=(b.length:Int) - p - 12) (by omega) (by omega)]
 by_cases h3:(b.length:Int) - p<12
 ·refine bT (decide_eq_true h3) ?_
  rw[if_pos h3]
 refine bF (decide_eq_false h3) ?_
 rw[if_neg h3]
 refine bT (by simp only[zA,zB];omega) ?_
 have eL:List.drop ((p:Int)+8).toNat (List.take ((p:Int)+12).toNat b)=(b.drop (p+8)).take 4:=by
  rw[List.drop_take,show ((p:Int)+8).toNat=p+8 by omega,show ((p:Int)+12).toNat - (p+8)=4 by omega]
 rw[eL]
 have hL:=cI (b:=b) (p:=p+8) (n:=4) (by omega)
 have hLr:=dz hb (p+8) 4
 have eI:ar b (((p:Nat):Int).toNat+8) 4=cm ((b.drop (p+8)).take 4):=by rw[zG];rfl
 have eR:i32.wrap (bJ ((b.drop (p+8)).take 4) 0 4).1=cm ((b.drop (p+8)).take 4):=by
  unfold bJ
  rw[if_neg (by rw[hL];decide)]
  show i32.wrap (aS ((((b.drop (p+8)).take 4).drop 0).take 4))=_
  rw[List.drop_zero,List.take_of_length_le (by rw[hL];exact Nat.le_refl 4)]
  exact m8 hLr hL
 have hbd:=MP hLr hL
 rw[eI,eR]
 refine bT (decide_eq_true (by rw[hL];omega)) ?_
 refine bT (by unfold cP;simp only[zA,zB,hL];omega) ?_
 generalize cm ((b.drop (p+8)).take 4)=n at *
 by_cases h4:n<49
 ·refine bT (decide_eq_true h4) ?_
  rw[if_pos h4]
 refine bF (decide_eq_false h4) ?_
 rw[if_neg h4]
 by_cases h5:35988<n
 ·refine bT (decide_eq_true h5) ?_
  rw[if_pos h5]
 refine bF (decide_eq_false h5) ?_
 rw[if_neg h5,ae (n:=n) (by omega) (by omega),ae (n:=12+n) (by omega) (by omega)]
 by_cases h6:(b.length:Int) - p - 12<n
 ·refine bT (decide_eq_true h6) ?_
  rw[if_pos h6]
 refine bF (decide_eq_false h6) ?_
 rw[if_neg h6,Int.add_comm]
def bx (g:oV)(i f:Int):bm×Int:=
 if g.2.1≠i then (s7,72)
 else if i=0∧g.1≠0∨aP (f+g.1)=false then (s7,86)
 else ((f+g.1,g.2.2.1,g.2.2.2.1,g.2.2.2.2.1,()),0)
abbrev fV:Io:=⟨[BP,dI,cw],[],[],[Ry,dI],none⟩
def th (d:fV.In):Tr fV.Res:=.ret (.ret (((bx d.1.1 d.1.2.1 d.1.2.2.1).1,(bx d.1.1 d.1.2.1 d.1.2.2.1).2,()),()))
abbrev xe:List (Nat×Hc):=[]
def Id:Hd:=bG xe
def xG:Lp:=bM []
def ri (a0 a1:Int)(a2:Bool)(a3:LI)(a4:Bool)(a5:LI)(a6:List fS.den)(a7 a8:Int):Option fV.Res:=bif i64.wrap a1 != a7 then oR (((0,(false,[],()),(false,[],()),[],()),72,()),()) else bif a7 == 0 then bif a0 != 0 then oR (((0,(false,[],()),(false,[],()),[],()),86,()),()) else bif !decide (i64.wrap (a8+a0)<a8) == decide (a0<0) then oR (((0,(false,[],()),(false,[],()),[],()),86,()),()) else oR (((i64.wrap (a8+a0),(a2,a3,()),(a4,a5,()),a6,()),0,()),()) else bif !decide (i64.wrap (a8+a0)<a8) == decide (a0<0) then oR (((0,(false,[],()),(false,[],()),[],()),86,()),()) else oR (((i64.wrap (a8+a0),(a2,a3,()),(a4,a5,()),a6,()),0,()),())
theorem Ev (a0 a1:Int)(a2:Bool)(a3:LI)(a4:Bool)(a5:LI)(a6:List fS.den)(a7 a8:Int):Io.run tt Id dr xG fV Tryz.f76 (((a0,a1,(a2,a3,()),(a4,a5,()),a6,()),a7,a8,()),())=ri a0 a1 a2 a3 a4 a5 a6 a7 a8:=by kernel_rfl
theorem Iw:HcOk prog 76 (ah fV th):=by
 refine bQ (cs:=xe) HcsOk.nil (lp:=xG) (fn:=Tryz.f76) fV (.done (by kernel_rfl)) th ?_
 rintro ⟨⟨⟨(a0:Int),(a1:Int),⟨(a2:Bool),(a3:LI),⟨⟩⟩,⟨(a4:Bool),(a5:LI),⟨⟩⟩,(a6:List eB),⟨⟩⟩,(i:Int),(f:Int),⟨⟩⟩,⟨⟩⟩ out hw ho
 cases ho
 refine (Ev a0 a1 a2 a3 a4 a5 a6 i f).trans ?_
 have h0:bH .i64 a0:=hw.1.1.1
 have h1:bH .i32 a1:=hw.1.1.2.1
 have hf:bH .i64 f:=hw.1.2.2.1
 have b1:=Ee h1
 show _=oR (((bx (a0,a1,(a2,a3,()),(a4,a5,()),a6,()) i f).1,(bx (a0,a1,(a2,a3,()),(a4,a5,()),a6,()) i f).2,()),())
 unfold ri bx
 simp only
 rw[ae (n:=a1) (by omega) (by omega),NC h0 hf]
 have hfit:aP (f+a0)=true→i64.wrap (f+a0)=f+a0:=fun h=>ae (fm.1 h).1 (fm.1 h).2
 by_cases c1:a1=i
 rotate_left
 ·refine bT (by simpa using c1) ?_
  rw[if_pos c1]
  rfl
 refine bF (by simpa using c1) ?_
 rw[if_neg (az c1)]
 by_cases c2:i=0
 ·refine bT (by simpa using c2) ?_
  by_cases c3:a0=0
  ·refine bF (by simpa using c3) ?_
   cases c4:aP (f+a0) with
   |false=>
    refine (aa rfl _ _).trans ?_
    rw[if_pos (.inr rfl)]
    rfl
   |true=>
    refine (af rfl _ _).trans ?_
    rw[if_neg (by rintro (h | h);exact h.2 c3;cases h),hfit c4]
  ·refine bT (by simpa using c3) ?_
   rw[if_pos (.inl ⟨c2,c3⟩)]
   rfl
 ·refine bF (by simpa using c2) ?_
  cases c4:aP (f+a0) with
  |false=>
   refine (aa rfl _ _).trans ?_
   rw[if_pos (.inr rfl)]
   rfl
  |true=>
   refine (af rfl _ _).trans ?_
   rw[if_neg (by rintro (h | h);exact c2 h.1;cases h),hfit c4]
abbrev ik:Io:=⟨[dL,dB],[],[],[dL,dI],none⟩
def yl (d:ik.In):Tr ik.Res:=.ite (decide (61≤d.1.1.length)&&decide (d.1.1.length≤4294960000)) (.ret (.ret (((aO d.1.1 d.1.2.1).1,(aO d.1.1 d.1.2.1).2,()),()))) .no
abbrev Bv:List (Nat×Hc):=[(109,ah kq DF)]
def KJ:Hd:=bG Bv
def Cy:Lp:=bM []
def tF (a0:LI)(a1:Bool):Option ik.Res:=bif decide (0≤61)&&(decide (61≤(↑a0.length:Int))&&decide ((↑a0.length:Int)≤(↑a0.length:Int))) then bif a1 then bif decide (32768=32768)&&decide ((List.drop (Int.toNat 61) (List.take (↑a0.length:Int).toNat a0)).length≤4294960000) then oR (((aY (List.drop (Int.toNat 61) (List.take (↑a0.length:Int).toNat a0))).1,(aY (List.drop (Int.toNat 61) (List.take (↑a0.length:Int).toNat a0))).2,()),()) else none else bif decide (32768<(↑(List.drop (Int.toNat 61) (List.take (↑a0.length:Int).toNat a0)).length:Int)) then oR (([],4,()),()) else oR ((List.drop (Int.toNat 61) (List.take (↑a0.length:Int).toNat a0),0,()),()) else none
theorem IJ (a0:LI)(a1:Bool):Io.run tt KJ dr Cy ik Tryz.f74 ((a0,a1,()),())=tF a0 a1:=by kernel_rfl
theorem LC:HcOk prog 74 (ah ik yl):=by
 refine bQ (cs:=Bv) (.cons Ow .nil) (lp:=Cy) (fn:=Tryz.f74) ik (.done (by kernel_rfl)) yl ?_
 rintro ⟨⟨(b:LI),(packed:Bool),⟨⟩⟩,⟨⟩⟩ out hw ho
 obtain ⟨hg,ho⟩:=Tr.guard ho
 simp only[zA,zB] at hg
 have h1:61≤b.length:=hg.1
 have h2:b.length≤4294960000:=hg.2
 cases ho
 refine (IJ b packed).trans ?_
 show _=oR (((aO b packed).1,(aO b packed).2,()),())
 unfold tF aO
 rw[zG,List.take_length,show Int.toNat 61=61 from rfl]
 refine bT (by simp only[zA,zB];omega) ?_
 cases packed with
 |true=>
  refine (aa rfl _ _).trans ?_
  refine bT (by simp;omega) ?_
  rfl
 |false=>
  refine (af rfl _ _).trans ?_
  by_cases h3:32768<((b.drop 61).length:Int)
  ·refine bT (decide_eq_true h3) ?_
   rw[if_neg (by decide),if_pos h3]
  ·refine bF (decide_eq_false h3) ?_
   rw[if_neg (by decide),if_neg h3]
theorem HcOk.weakB {f:Nat}{io:Io}{Fn Fn':io.In→Tr io.Res}(h:HcOk prog f (ah io Fn))(hF:∀d y,io.wf d→(Fn' d).val=some y→(Fn d).val=some y):HcOk prog f (ah io Fn'):=by
 intro R args id A K r F G ts cst w vals hid hc Rl hv
 unfold ah at hc
 cases h1:sk io.args args (List.replicate io.obs.length Option.none) with
 |none=>rw[h1] at hc;cases hc
 |some p=>
  obtain ⟨a,β1⟩:=p
  rw[h1] at hc
  simp only at hc
  cases h2:JE A.ob io.obs 0 β1 with
  |none=>rw[h2] at hc;cases hc
  |some q=>
   obtain ⟨o,β⟩:=q
   rw[h2] at hc
   simp only at hc
   have hn:=fun y=>hF (a,o) y ⟨Ah h1 hv,Eo Rl.ob h2⟩
   refine h R args id A K r F G ts cst w vals hid ?_ Rl hv
   unfold ah
   rw[h1]
   simp only[h2]
   revert hc
   cases bv ((ga (cV 0) io.args args 0++li A.ob β (lM io.obs.length 0) io.obs 0).map (·.2))&&(bv ((ga (cV 0) io.args args 0++li A.ob β (lM io.obs.length 0) io.obs 0).map (·.1))&&io.ok) with
   |false=>intro hc;cases hc
   |true=>
    intro hc
    obtain ⟨out,ho,hk⟩:=Tr.run_val hc
    exact (Tr.run_of_val (hn out ho)).trans hk
@[irreducible] def aV (b:LI)(p:Int)(n:Nat):Int:=cm ((b.drop p.toNat).take n)
theorem j7 (b:LI)(p n:Nat):aV b (p:Int) n=ar b p n:=by unfold aV ar;rw[zG]
def iV (b:LI)(p n:Int):Bool:=decide (b.length≤4294960000)&&(decide (0≤p)&&decide (p+n≤(b.length:Int)))
theorem mw {b:LI}{p n:Int}(h:iV b p n=true):b.length≤4294960000∧0≤p∧p+n≤(b.length:Int):=by
 simpa [iV] using h
abbrev zn:Io:=kB
def Pv (d:zn.In):Tr zn.Res:=
 .ite (iV d.2.1.1 d.2.1.2.1 8) (.ret (.ret ((aV d.2.1.1 d.2.1.2.1 8,(0,())),((d.2.1.1,(d.2.1.2.1+8,())),())))) .no
theorem P9:HcOk prog 104 (ah zn Pv):=by
 refine HcOk.weakB OF ?_
 rintro ⟨⟨⟨⟩,⟨⟩⟩,⟨⟨(b:LI),(p:Int),⟨⟩⟩,⟨⟩⟩⟩ y hw hy
 obtain ⟨hg,hy⟩:=Tr.guard hy
 obtain ⟨h1,h2,h3⟩:=mw (b:=b) (p:=p) (n:=8) hg
 rw[← hy]
 obtain ⟨p,rfl⟩:=au h2
 have hb:=dA hw.2.1.1
 have hL:=cI (b:=b) (p:=p) (n:=8) (by omega)
 have hk:cP b p=true:=by unfold cP;simp only[zA,zB];omega
 have e:bJ b (p:Int) 8=(aS ((b.drop p).take 8),((p:Int)+8,0)):=by unfold bJ;rw[if_neg (by omega),zG];rfl
 have e2:i64.wrap (aS ((b.drop p).take 8))=aV b (p:Int) 8:=by rw[j7];exact AE (dz hb p 8) hL
 show (yI (((),()),((b,((p:Int),())),()))).val=some (.ret ((aV b (p:Int) 8,(0,())),((b,((p:Int)+8,())),())))
 unfold yI
 rw[Tr.val_ite,if_pos hk,Tr.val_ret]
 show oR ((i64.wrap (bJ b (p:Int) 8).1,((bJ b (p:Int) 8).2.2,())),((b,((bJ b (p:Int) 8).2.1,())),()))=_
 rw[e,← e2]
abbrev zm:Io:=jh
def Pu (d:zm.In):Tr zm.Res:=
 .ite (iV d.2.1.1 d.2.1.2.1 4) (.ret (.ret ((aV d.2.1.1 d.2.1.2.1 4,(0,())),((d.2.1.1,(d.2.1.2.1+4,())),())))) .no
theorem P8:HcOk prog 99 (ah zm Pu):=by
 refine HcOk.weakB Hq ?_
 rintro ⟨⟨⟨⟩,⟨⟩⟩,⟨⟨(b:LI),(p:Int),⟨⟩⟩,⟨⟩⟩⟩ y hw hy
 obtain ⟨hg,hy⟩:=Tr.guard hy
 obtain ⟨h1,h2,h3⟩:=mw (b:=b) (p:=p) (n:=4) hg
 rw[← hy]
 obtain ⟨p,rfl⟩:=au h2
 have hb:=dA hw.2.1.1
 have hL:=cI (b:=b) (p:=p) (n:=4) (by omega)
 have hk:cP b p=true:=by unfold cP;simp only[zA,zB];omega
 have e:bJ b (p:Int) 4=(aS ((b.drop p).take 4),((p:Int)+4,0)):=by unfold bJ;rw[if_neg (by omega),zG];rfl
 have e2:i32.wrap (aS ((b.drop p).take 4))=aV b (p:Int) 4:=by rw[j7];exact m8 (dz hb p 4) hL
 show (tp (((),()),((b,((p:Int),())),()))).val=some (.ret ((aV b (p:Int) 4,(0,())),((b,((p:Int)+4,())),())))
 unfold tp
 rw[Tr.val_ite,if_pos hk,Tr.val_ret]
 show oR ((i32.wrap (bJ b (p:Int) 4).1,((bJ b (p:Int) 4).2.2,())),((b,((bJ b (p:Int) 4).2.1,())),()))=_
 rw[e,← e2]
abbrev zl:Io:=kA
def Pt (d:zl.In):Tr zl.Res:=
 .ite (iV d.2.1.1 d.2.1.2.1 2) (.ret (.ret ((aV d.2.1.1 d.2.1.2.1 2,(0,())),((d.2.1.1,(d.2.1.2.1+2,())),())))) .no
theorem P7:HcOk prog 107 (ah zl Pt):=by
 refine HcOk.weakB OE ?_
 rintro ⟨⟨⟨⟩,⟨⟩⟩,⟨⟨(b:LI),(p:Int),⟨⟩⟩,⟨⟩⟩⟩ y hw hy
 obtain ⟨hg,hy⟩:=Tr.guard hy
 obtain ⟨h1,h2,h3⟩:=mw (b:=b) (p:=p) (n:=2) hg
 rw[← hy]
 obtain ⟨p,rfl⟩:=au h2
 have hb:=dA hw.2.1.1
 have hL:=cI (b:=b) (p:=p) (n:=2) (by omega)
 have hk:cP b p=true:=by unfold cP;simp only[zA,zB];omega
 have e:bJ b (p:Int) 2=(aS ((b.drop p).take 2),((p:Int)+2,0)):=by unfold bJ;rw[if_neg (by omega),zG];rfl
 have e2:i16.wrap (aS ((b.drop p).take 2))=aV b (p:Int) 2:=by rw[j7];exact s5 (dz hb p 2) hL
 show (yH (((),()),((b,((p:Int),())),()))).val=some (.ret ((aV b (p:Int) 2,(0,())),((b,((p:Int)+2,())),())))
 unfold yH
 rw[Tr.val_ite,if_pos hk,Tr.val_ret]
 show oR ((i16.wrap (bJ b (p:Int) 2).1,((bJ b (p:Int) 2).2.2,())),((b,((bJ b (p:Int) 2).2.1,())),()))=_
 rw[e,← e2]
abbrev GA:Io:=nZ
def QP (d:GA.In):Tr GA.Res:=
 .ite (iV d.2.1.1 d.2.1.2.1 1) (.ret (.ret ((aV d.2.1.1 d.2.1.2.1 1,(0,())),((d.2.1.1,(d.2.1.2.1+1,())),())))) .no
theorem Q5:HcOk prog 106 (ah GA QP):=by
 refine HcOk.weakB Qi ?_
 rintro ⟨⟨⟨⟩,⟨⟩⟩,⟨⟨(b:LI),(p:Int),⟨⟩⟩,⟨⟩⟩⟩ y hw hy
 obtain ⟨hg,hy⟩:=Tr.guard hy
 obtain ⟨h1,h2,h3⟩:=mw (b:=b) (p:=p) (n:=1) hg
 rw[← hy]
 obtain ⟨p,rfl⟩:=au h2
 have hb:=dA hw.2.1.1
 have hL:=cI (b:=b) (p:=p) (n:=1) (by omega)
 have hk:cP b p=true:=by unfold cP;simp only[zA,zB];omega
 have e:bJ b (p:Int) 1=(aS ((b.drop p).take 1),((p:Int)+1,0)):=by unfold bJ;rw[if_neg (by omega),zG];rfl
 have e2:i8.wrap (aS ((b.drop p).take 1))=aV b (p:Int) 1:=by rw[j7];exact Qs (dz hb p 1) hL
 show (Fk (((),()),((b,((p:Int),())),()))).val=some (.ret ((aV b (p:Int) 1,(0,())),((b,((p:Int)+1,())),())))
 unfold Fk
 rw[Tr.val_ite,if_pos hk,Tr.val_ret]
 show oR ((i8.wrap (bJ b (p:Int) 1).1,((bJ b (p:Int) 1).2.2,())),((b,((bJ b (p:Int) 1).2.1,())),()))=_
 rw[e,← e2]
abbrev sJ:Io:=iC
def JH (d:sJ.In):Tr sJ.Res:=
 .ite (iV d.2.1.1 d.2.1.2.1 d.1.2.1&&decide (0≤d.1.2.1)) (.ret (.ret ((0,()),((d.2.1.1,(d.2.1.2.1+d.1.2.1,())),())))) .no
theorem Or:HcOk prog 105 (ah sJ JH):=by
 refine HcOk.weakB LW ?_
 rintro ⟨⟨⟨⟩,(n:Int),⟨⟩⟩,⟨⟨(b:LI),(p:Int),⟨⟩⟩,⟨⟩⟩⟩ y hw hy
 obtain ⟨hg,hy⟩:=Tr.guard hy
 simp only[zA,zB] at hg
 obtain ⟨h1,h2,h3⟩:=mw (b:=b) (p:=p) (n:=n) hg.1
 have h4:0≤n:=hg.2
 rw[← hy]
 have hk:cP b p=true:=by unfold cP;simp only[zA,zB];omega
 have e:oD b p n=(p+n,0):=by unfold oD;rw[if_neg (by omega),if_neg (by omega)]
 show (sx (((),(n,())),((b,(p,())),()))).val=some (.ret ((0,()),((b,(p+n,())),())))
 unfold sx
 rw[Tr.val_ite,if_pos hk,Tr.val_ret]
 show oR (((oD b p n).2,()),((b,((oD b p n).1,())),()))=_
 rw[e]
def DY (a0:LI):Option (Out ((wc×Int×Unit)×Unit) Empty):=bif bh (aV (a0.take 61) 0 8) then oR (((0,0,0,false,0,0,0,0,0,0,()),80,()),()) else bif aV (a0.take 61) (0+8+4+4+1+4) 2 != 0&&!aV (a0.take 61) (0+8+4+4+1+4) 2 == 1 then oR (((0,0,0,false,0,0,0,0,0,0,()),83,()),()) else bif aW (aV (a0.take 61) (0+8+4+4+1+4+2+4+8+8) 8) (aV (a0.take 61) (0+8+4+4+1+4+2+4+8+8+8) 2) (aV (a0.take 61) (0+8+4+4+1+4+2+4+8+8+8+2) 4) then oR (((0,0,0,false,0,0,0,0,0,0,()),84,()),()) else bif decide (aV (a0.take 61) (0+8+4+4+1+4+2+4+8+8+8+2+4) 4<1) then oR (((0,0,0,false,0,0,0,0,0,0,()),85,()),()) else bif decide (256<aV (a0.take 61) (0+8+4+4+1+4+2+4+8+8+8+2+4) 4) then oR (((0,0,0,false,0,0,0,0,0,0,()),9,()),()) else bif aV (a0.take 61) (0+8+4+4+1+4+2) 4 != i32.wrap (aV (a0.take 61) (0+8+4+4+1+4+2+4+8+8+8+2+4) 4 - 1) then oR (((0,0,0,false,0,0,0,0,0,0,()),72,()),()) else bif (aj a0 0).2 != 0 then oR (((0,0,0,false,0,0,0,0,0,0,()),(aj a0 0).2,()),()) else oR (((aV (a0.take 61) 0 8,(aj a0 0).1,aV (a0.take 61) (0+8+4) 4,aV (a0.take 61) (0+8+4+4+1+4) 2 == 1,i64.wrap (aV (a0.take 61) (0+8+4+4+1+4+2+4+8+8+8+2+4) 4),aV (a0.take 61) (0+8+4+4+1+4+2+4) 8,aV (a0.take 61) (0+8+4+4+1+4+2+4+8) 8,aV (a0.take 61) (0+8+4+4+1+4+2+4+8+8) 8,aV (a0.take 61) (0+8+4+4+1+4+2+4+8+8+8) 2,aV (a0.take 61) (0+8+4+4+1+4+2+4+8+8+8+2) 4,()),0,()),())
theorem Ng {b:LI}{p:Nat}(h:p<b.length):(b.drop p).take 1=[b.getD p 0]:=by
 rw[zE h,List.take_succ_cons,List.take_zero,aA h]
theorem PK {b:LI}{p:Nat}(h:p+1<b.length):(b.drop p).take 2=[b.getD p 0,b.getD (p+1) 0]:=by
 rw[zE (show p<b.length by omega),List.take_succ_cons,Ng h,aA (show p<b.length by omega)]
theorem Q9 {b:LI}{p:Nat}(h:p<b.length):ar b p 1=if 128≤b.getD p 0 then b.getD p 0 - 256 else b.getD p 0:=by
 unfold ar;rw[Ng h];rfl
theorem Ra {b:LI}{p:Nat}(h:p+1<b.length):ar b p 2=(if 128≤b.getD p 0 then b.getD p 0 - 256 else b.getD p 0)*256+b.getD (p+1) 0:=by
 unfold ar;rw[PK h];rfl
theorem Po:∀{l:LI},(∀c∈l,0≤c∧c≤255)→l.length=4→u32.wrap (cm l)=aS l
 |[a,b,c,d],h,_=>by
  have ha:=h a (by simp)
  have hb:=h b (by simp)
  have hc:=h c (by simp)
  have hd:=h d (by simp)
  simp only[aS,cm,List.foldl_cons,List.foldl_nil]
  simp[IntKind.wrap,IntKind.signed,IntKind.bits] <;> (try split) <;> omega
theorem Fq:∀{l:LI},(∀c∈l,0≤c∧c≤255)→l.length=4→∀{x:Int},0≤x→x<4294967296→(l=aU x 4↔aS l=x)
 |[a,b,c,d],h,_,x,h0,h1=>by
  have ha:=h a (by simp)
  have hb:=h b (by simp)
  have hc:=h c (by simp)
  have hd:=h d (by simp)
  simp only[aS,aU,List.foldl_cons,List.foldl_nil,List.cons.injEq,and_true]
  constructor
  ·rintro ⟨rfl,rfl,rfl,rfl⟩
   omega
  ·intro h
   omega
theorem Dc (c:Int){b:LI}(hc:0≤c∧c<4294967296)(hb:∀x∈b,0≤x∧x≤255):0≤cG c b∧cG c b<4294967296:=by
 unfold cG
 have h1:=Nat.xor_lt_two_pow (n:=32) (show c.toNat<2 ^ 32 by omega) (show 4294967295<2 ^ 32 by decide)
 have h2:=Nat.xor_lt_two_pow (n:=32) (sC hb h1) (show 4294967295<2 ^ 32 by decide)
 omega
theorem fk {b:LI}{p:Int}(h:(aj b p).2=0):61≤(aj b p).1∧(aj b p).1≤36000∧p+(aj b p).1≤(b.length:Int)∧0≤p:=by
 unfold aj at h ⊢
 split
 ·rename_i h1;rw[if_pos h1] at h;cases h
 rename_i h1;rw[if_neg h1] at h
 split
 ·rename_i h2;rw[if_pos h2] at h;cases h
 rename_i h2;rw[if_neg h2] at h
 split
 ·rename_i h3;rw[if_pos h3] at h;cases h
 rename_i h3;rw[if_neg h3] at h
 split
 ·rename_i h4;rw[if_pos h4] at h;cases h
 rename_i h4;rw[if_neg h4] at h
 split
 ·rename_i h5;rw[if_pos h5] at h;cases h
 simp only
 omega
theorem HY {b:LI}(hb:∀c∈b,0≤c∧c≤255)(hl:61≤b.length)(h0:(aj b 0).2=0)(h1:¬(aj b 0).1<(b.length:Int)):
  DY b=some (.ret ((if bh (ar b 0 8)=true then (bq,(80,())) else if b.getD 21 0≠0∨1<b.getD 22 0 then (bq,(83,())) else if aW (ar b 43 8) (ar b 51 2) (ar b 53 4)=true then (bq,(84,())) else if ar b 57 4<1 then (bq,(85,())) else if 256<ar b 57 4 then (bq,(9,())) else if ar b 23 4≠ar b 57 4 - 1 then (bq,(72,())) else (iN b,(0,()))),())):=by
 have hz:∀p n:Nat,p+n≤61→aV (b.take 61) (p:Int) n=ar b p n:=by
  intro p n h
  rw[j7]
  unfold ar
  rw[List.drop_take,List.take_take,Nat.min_eq_left (by omega)]
 have z0:aV (b.take 61) 0 8=ar b 0 8:=hz 0 8 (by decide)
 have z12:aV (b.take 61) (0+8+4) 4=ar b 12 4:=hz 12 4 (by decide)
 have z21:aV (b.take 61) (0+8+4+4+1+4) 2=ar b 21 2:=hz 21 2 (by decide)
 have z23:aV (b.take 61) (0+8+4+4+1+4+2) 4=ar b 23 4:=hz 23 4 (by decide)
 have z27:aV (b.take 61) (0+8+4+4+1+4+2+4) 8=ar b 27 8:=hz 27 8 (by decide)
 have z35:aV (b.take 61) (0+8+4+4+1+4+2+4+8) 8=ar b 35 8:=hz 35 8 (by decide)
 have z43:aV (b.take 61) (0+8+4+4+1+4+2+4+8+8) 8=ar b 43 8:=hz 43 8 (by decide)
 have z51:aV (b.take 61) (0+8+4+4+1+4+2+4+8+8+8) 2=ar b 51 2:=hz 51 2 (by decide)
 have z53:aV (b.take 61) (0+8+4+4+1+4+2+4+8+8+8+2) 4=ar b 53 4:=hz 53 4 (by decide)
 have z57:aV (b.take 61) (0+8+4+4+1+4+2+4+8+8+8+2+4) 4=ar b 57 4:=hz 57 4 (by decide)
 have a21:=Ra (b:=b) (p:=21) (by omega)
 have hat:∀i,0≤b.getD i 0∧b.getD i 0≤255:=fun i=>by
  rw[List.getD_eq_getElem?_getD]
  cases e:b[i]? with
  |none=>exact ⟨by decide,by decide⟩
  |some x=>exact hb x (List.mem_of_getElem? e)
 have g21:=hat 21
 have g22:=hat 22
 have hm:=fk h0
 have hsz:(aj b 0).1=(b.length:Int):=by omega
 unfold DY
 rw[z0,z12,z21,z23,z27,z35,z43,z51,z53,z57,h0,hsz]
 have hI:iN b=(ar b 0 8,(b.length:Int),ar b 12 4,decide (b.getD 22 0=1),ar b 57 4,ar b 27 8,ar b 35 8,ar b 43 8,ar b 51 2,ar b 53 4,()):=rfl
 rw[hI,a21]
 generalize b.getD 21 0=x at *
 generalize b.getD (21+1) 0=y at *
 generalize ar b 0 8=base at *
 generalize ar b 57 4=cnt at *
 generalize ar b 23 4=mst at *
 cases c1:bh base with
 |true=>exact (aa rfl _ _)
 |false=>
 refine (af rfl _ _).trans ?_
 rw[if_neg (show ¬ false=true by decide)]
 by_cases c2:x≠0∨1<y
 ·refine (aa ?_ _ _).trans ?_
  ·simp only[zA,Bool.not_eq_true',bne_iff_ne,beq_eq_false_iff_ne]
   split <;> omega
  ·rw[if_pos c2]
   rfl
 refine (af ?_ _ _).trans ?_
 ·by_cases hy:y=0
  ·rw[show (if 128≤x then x - 256 else x)*256+y=0 by rw[if_neg (by omega)];omega]
   rfl
  ·rw[show (if 128≤x then x - 256 else x)*256+y=1 by rw[if_neg (by omega)];omega]
   rfl
 rw[if_neg c2]
 have hx:x=0:=by omega
 have hxy:((if 128≤x then x - 256 else x)*256+y == 1)=decide (y=1):=by
  subst hx
  rw[if_neg (by decide),show (0:Int)*256+y=y by omega]
  by_cases h:y=1 <;> simp[h]
 rw[hxy]
 cases c3:aW (ar b 43 8) (ar b 51 2) (ar b 53 4) with
 |true=>exact (aa rfl _ _)
 |false=>
 refine (af rfl _ _).trans ?_
 rw[if_neg (show ¬ false=true by decide)]
 by_cases c4:cnt<1
 ·refine bT (decide_eq_true c4) ?_
  rw[if_pos c4]
  rfl
 refine bF (decide_eq_false c4) ?_
 rw[if_neg c4]
 by_cases c5:256<cnt
 ·refine bT (decide_eq_true c5) ?_
  rw[if_pos c5]
  rfl
 refine bF (decide_eq_false c5) ?_
 rw[if_neg c5,bK (k:=.i32) (n:=cnt - 1) (by simp[bH,IntKind.min,IntKind.max,IntKind.signed,IntKind.bits];omega),ae (n:=cnt) (by omega) (by omega)]
 by_cases c6:mst=cnt - 1
 ·refine bF (by simpa using c6) ?_
  rw[if_neg (az c6)]
  exact af rfl _ _
 ·refine bT (by simpa using c6) ?_
  rw[if_pos c6]
  rfl
abbrev iX:Io:=⟨[dL,dB],[],[],[Kr,dI],none⟩
def Dz (d:iX.In):Tr iX.Res:=.ite (decide (d.1.1.length≤4294960000)) (.ret (.ret (((ak d.1.1 d.1.2.1).1,(ak d.1.1 d.1.2.1).2,()),()))) .no
abbrev Fv:List (Nat×Hc):=[(67,ah gG tg),(98,ah ji yJ),(104,ah zn Pv),(105,ah sJ JH),(99,ah zm Pu),(106,ah GA QP),(107,ah zl Pt),(96,ah ko DD),(100,ah kj Dy),(108,ah iY DB)]
def NF:Hd:=bG Fv
def GE:Lp:=bM []
def wl (a0:LI)(a1:Bool):Option iX.Res:=bif decide ((↑a0.length:Int)<61) then oR (((0,0,0,false,0,0,0,0,0,0,()),1,()),()) else bif decide (a0.length≤4294960000) then bif (aj a0 0).2 != 0 then oR (((0,0,0,false,0,0,0,0,0,0,()),(aj a0 0).2,()),()) else bif decide ((aj a0 0).1<(↑a0.length:Int)) then oR (((0,0,0,false,0,0,0,0,0,0,()),2,()),()) else bif decide (0≤0)&&(decide (0≤61)&&decide (61≤(↑a0.length:Int))) then bif decide ((List.drop (Int.toNat 0) (List.take (Int.toNat 61) a0)).length≤4294967296) then bif iV (List.drop (Int.toNat 0) (List.take (Int.toNat 61) a0)) 0 8 then bif iV (List.drop (Int.toNat 0) (List.take (Int.toNat 61) a0)) (0+8) 4&&decide (0≤4) then bif iV (List.drop (Int.toNat 0) (List.take (Int.toNat 61) a0)) (0+8+4) 4 then bif iV (List.drop (Int.toNat 0) (List.take (Int.toNat 61) a0)) (0+8+4+4) 1 then bif iV (List.drop (Int.toNat 0) (List.take (Int.toNat 61) a0)) (0+8+4+4+1) 4 then bif iV (List.drop (Int.toNat 0) (List.take (Int.toNat 61) a0)) (0+8+4+4+1+4) 2 then bif iV (List.drop (Int.toNat 0) (List.take (Int.toNat 61) a0)) (0+8+4+4+1+4+2) 4 then bif iV (List.drop (Int.toNat 0) (List.take (Int.toNat 61) a0)) (0+8+4+4+1+4+2+4) 8 then bif iV (List.drop (Int.toNat 0) (List.take (Int.toNat 61) a0)) (0+8+4+4+1+4+2+4+8) 8 then bif iV (List.drop (Int.toNat 0) (List.take (Int.toNat 61) a0)) (0+8+4+4+1+4+2+4+8+8) 8 then bif iV (List.drop (Int.toNat 0) (List.take (Int.toNat 61) a0)) (0+8+4+4+1+4+2+4+8+8+8) 2 then bif iV (List.drop (Int.toNat 0) (List.take (Int.toNat 61) a0)) (0+8+4+4+1+4+2+4+8+8+8+2) 4 then bif iV (List.drop (Int.toNat 0) (List.take (Int.toNat 61) a0)) (0+8+4+4+1+4+2+4+8+8+8+2+4) 4 then bif aV (List.drop (Int.toNat 0) (List.take (Int.toNat 61) a0)) (0+8+4+4) 1 != 2 then oR (((0,0,0,false,0,0,0,0,0,0,()),81,()),()) else bif a1 then bif decide (0≤21)&&(decide (21≤(↑a0.length:Int))&&decide ((↑a0.length:Int)≤(↑a0.length:Int))) then bif u32.wrap (aV (List.drop (Int.toNat 0) (List.take (Int.toNat 61) a0)) (0+8+4+4+1) 4) != vm [List.drop (Int.toNat 21) (List.take (↑a0.length:Int).toNat a0)] 0 then oR (((0,0,0,false,0,0,0,0,0,0,()),82,()),()) else bif bh (aV (List.drop (Int.toNat 0) (List.take (Int.toNat 61) a0)) 0 8) then oR (((0,0,0,false,0,0,0,0,0,0,()),80,()),()) else bif aV (List.drop (Int.toNat 0) (List.take (Int.toNat 61) a0)) (0+8+4+4+1+4) 2 != 0&&!aV (List.drop (Int.toNat 0) (List.take (Int.toNat 61) a0)) (0+8+4+4+1+4) 2 == 1 then oR (((0,0,0,false,0,0,0,0,0,0,()),83,()),()) else bif aW (aV (List.drop (Int.toNat 0) (List.take (Int.toNat 61) a0)) (0+8+4+4+1+4+2+4+8+8) 8) (aV (List.drop (Int.toNat 0) (List.take (Int.toNat 61) a0)) (0+8+4+4+1+4+2+4+8+8+8) 2) (aV (List.drop (Int.toNat 0) (List.take (Int.toNat 61) a0)) (0+8+4+4+1+4+2+4+8+8+8+2) 4) then oR (((0,0,0,false,0,0,0,0,0,0,()),84,()),()) else bif decide (aV (List.drop (Int.toNat 0) (List.take (Int.toNat 61) a0)) (0+8+4+4+1+4+2+4+8+8+8+2+4) 4<1) then oR (((0,0,0,false,0,0,0,0,0,0,()),85,()),()) else bif decide (256<aV (List.drop (Int.toNat 0) (List.take (Int.toNat 61) a0)) (0+8+4+4+1+4+2+4+8+8+8+2+4) 4) then oR (((0,0,0,false,0,0,0,0,0,0,()),9,()),()) else bif aV (List.drop (Int.toNat 0) (List.take (Int.toNat 61) a0)) (0+8+4+4+1+4+2) 4 != i32.wrap (aV (List.drop (Int.toNat 0) (List.take (Int.toNat 61) a0)) (0+8+4+4+1+4+2+4+8+8+8+2+4) 4 - 1) then oR (((0,0,0,false,0,0,0,0,0,0,()),72,()),()) else bif (aj a0 0).2 != 0 then oR (((0,0,0,false,0,0,0,0,0,0,()),(aj a0 0).2,()),()) else oR (((aV (List.drop (Int.toNat 0) (List.take (Int.toNat 61) a0)) 0 8,(aj a0 0).1,aV (List.drop (Int.toNat 0) (List.take (Int.toNat 61) a0)) (0+8+4) 4,aV (List.drop (Int.toNat 0) (List.take (Int.toNat 61) a0)) (0+8+4+4+1+4) 2 == 1,i64.wrap (aV (List.drop (Int.toNat 0) (List.take (Int.toNat 61) a0)) (0+8+4+4+1+4+2+4+8+8+8+2+4) 4),aV (List.drop (Int.toNat 0) (List.take (Int.toNat 61) a0)) (0+8+4+4+1+4+2+4) 8,aV (List.drop (Int.toNat 0) (List.take (Int.toNat 61) a0)) (0+8+4+4+1+4+2+4+8) 8,aV (List.drop (Int.toNat 0) (List.take (Int.toNat 61) a0)) (0+8+4+4+1+4+2+4+8+8) 8,aV (List.drop (Int.toNat 0) (List.take (Int.toNat 61) a0)) (0+8+4+4+1+4+2+4+8+8+8) 2,aV (List.drop (Int.toNat 0) (List.take (Int.toNat 61) a0)) (0+8+4+4+1+4+2+4+8+8+8+2) 4,()),0,()),()) else none else bif bh (aV (List.drop (Int.toNat 0) (List.take (Int.toNat 61) a0)) 0 8) then oR (((0,0,0,false,0,0,0,0,0,0,()),80,()),()) else bif aV (List.drop (Int.toNat 0) (List.take (Int.toNat 61) a0)) (0+8+4+4+1+4) 2 != 0&&!aV (List.drop (Int.toNat 0) (List.take (Int.toNat 61) a0)) (0+8+4+4+1+4) 2 == 1 then oR (((0,0,0,false,0,0,0,0,0,0,()),83,()),()) else bif aW (aV (List.drop (Int.toNat 0) (List.take (Int.toNat 61) a0)) (0+8+4+4+1+4+2+4+8+8) 8) (aV (List.drop (Int.toNat 0) (List.take (Int.toNat 61) a0)) (0+8+4+4+1+4+2+4+8+8+8) 2) (aV (List.drop (Int.toNat 0) (List.take (Int.toNat 61) a0)) (0+8+4+4+1+4+2+4+8+8+8+2) 4) then oR (((0,0,0,false,0,0,0,0,0,0,()),84,()),()) else bif decide (aV (List.drop (Int.toNat 0) (List.take (Int.toNat 61) a0)) (0+8+4+4+1+4+2+4+8+8+8+2+4) 4<1) then oR (((0,0,0,false,0,0,0,0,0,0,()),85,()),()) else bif decide (256<aV (List.drop (Int.toNat 0) (List.take (Int.toNat 61) a0)) (0+8+4+4+1+4+2+4+8+8+8+2+4) 4) then oR (((0,0,0,false,0,0,0,0,0,0,()),9,()),()) else bif aV (List.drop (Int.toNat 0) (List.take (Int.toNat 61) a0)) (0+8+4+4+1+4+2) 4 != i32.wrap (aV (List.drop (Int.toNat 0) (List.take (Int.toNat 61) a0)) (0+8+4+4+1+4+2+4+8+8+8+2+4) 4 - 1) then oR (((0,0,0,false,0,0,0,0,0,0,()),72,()),()) else bif (aj a0 0).2 != 0 then oR (((0,0,0,false,0,0,0,0,0,0,()),(aj a0 0).2,()),()) else oR (((aV (List.drop (Int.toNat 0) (List.take (Int.toNat 61) a0)) 0 8,(aj a0 0).1,aV (List.drop (Int.toNat 0) (List.take (Int.toNat 61) a0)) (0+8+4) 4,aV (List.drop (Int.toNat 0) (List.take (Int.toNat 61) a0)) (0+8+4+4+1+4) 2 == 1,i64.wrap (aV (List.drop (Int.toNat 0) (List.take (Int.toNat 61) a0)) (0+8+4+4+1+4+2+4+8+8+8+2+4) 4),aV (List.drop (Int.toNat 0) (List.take (Int.toNat 61) a0)) (0+8+4+4+1+4+2+4) 8,aV (List.drop (Int.toNat 0) (List.take (Int.toNat 61) a0)) (0+8+4+4+1+4+2+4+8) 8,aV (List.drop (Int.toNat 0) (List.take (Int.toNat 61) a0)) (0+8+4+4+1+4+2+4+8+8) 8,aV (List.drop (Int.toNat 0) (List.take (Int.toNat 61) a0)) (0+8+4+4+1+4+2+4+8+8+8) 2,aV (List.drop (Int.toNat 0) (List.take (Int.toNat 61) a0)) (0+8+4+4+1+4+2+4+8+8+8+2) 4,()),0,()),()) else none else none else none else none else none else none else none else none else none else none else none else none else none else none else none else none
theorem L6 (a0:LI)(a1:Bool):Io.run tt NF RP GE iX Tryz.f73 ((a0,a1,()),())=wl a0 a1:=by kernel_rfl
theorem Ol:HcOk prog 73 (ah iX Dz):=by
 refine Ic (n:=400) hm (cs:=Fv) (.cons Ao (.cons Hr (.cons P9 (.cons Or (.cons P8 (.cons Q5 (.cons P7 (.cons Oq (.cons Ok (.cons On .nil)))))))))) (lp:=GE) (fn:=Tryz.f73) (by kernel_rfl) (by kernel_rfl) (by kernel_rfl) iX (.done (by kernel_rfl)) Dz ?_
 rintro ⟨⟨(b:LI),(sm:Bool),⟨⟩⟩,⟨⟩⟩ out hw ho
 obtain ⟨hg,ho⟩:=Tr.guard ho
 have hg2:b.length≤4294960000:=of_decide_eq_true hg
 clear hg
 cases ho
 have hb:∀c∈b,0≤c∧c≤255:=dA hw.1.1
 refine (L6 b sm).trans ?_
 show _=oR (((ak b sm).1,(ak b sm).2,()),())
 have eE:bd b sm=if (b.length:Int)<61 then 1 else if (aj b 0).2≠0 then (aj b 0).2 else if (aj b 0).1<(b.length:Int) then 2 else if b.getD 16 0≠2 then 81 else if sm=true∧eN b=false then 82
   else if bh (ar b 0 8)=true then 80 else if b.getD 21 0≠0∨1<b.getD 22 0 then 83 else if aW (ar b 43 8) (ar b 51 2) (ar b 53 4)=true then 84 else if ar b 57 4<1 then 85 else if 256<ar b 57 4 then 9 else if ar b 23 4≠ar b 57 4 - 1 then 72 else 0:=rfl
 have fin:∀e:Int,e≠0→bd b sm=e→some (Out.ret ((bq,(e,())),()):iX.Res)=oR (((ak b sm).1,(ak b sm).2,()),()):=by
  intro e he h
  have:ak b sm=(bq,e):=by unfold ak;rw[h,if_pos he]
  rw[this]
 unfold wl
 by_cases h1:(b.length:Int)<61
 ·refine bT (decide_eq_true h1) ?_
  exact fin 1 (by decide) (by rw[eE,if_pos h1])
 refine bF (decide_eq_false h1) ?_
 rw[if_neg h1] at eE
 refine bT (decide_eq_true hg2) ?_
 by_cases h2:(aj b 0).2=0
 rotate_left
 ·refine bT (by simpa using h2) ?_
  exact fin _ h2 (by rw[eE,if_pos h2])
 refine bF (by simpa using h2) ?_
 rw[if_neg (az h2)] at eE
 by_cases h3:(aj b 0).1<(b.length:Int)
 ·refine bT (decide_eq_true h3) ?_
  exact fin 2 (by decide) (by rw[eE,if_pos h3])
 refine bF (decide_eq_false h3) ?_
 rw[if_neg h3] at eE
 have hH:(List.drop (Int.toNat 0) (List.take (Int.toNat 61) b))=b.take 61:=rfl
 have hHl:(b.take 61).length=61:=by simp;omega
 rw[hH]
 refine bT (by simp only[zA,zB];omega) ?_
 refine bT (by rw[hHl];decide) ?_
 have rm:∀p n:Int,0≤p→p+n≤61→iV (b.take 61) p n=true:=by
  intro p n g1 g2
  unfold iV
  simp only[hHl,zA,zB]
  omega
 refine (aa (rm 0 8 (by decide) (by decide)) _ _).trans ?_
 refine bT (by rw[rm (0+8) 4 (by decide) (by decide)];rfl) ?_
 refine (aa (rm (0+8+4) 4 (by decide) (by decide)) _ _).trans ?_
 refine (aa (rm (0+8+4+4) 1 (by decide) (by decide)) _ _).trans ?_
 refine (aa (rm (0+8+4+4+1) 4 (by decide) (by decide)) _ _).trans ?_
 refine (aa (rm (0+8+4+4+1+4) 2 (by decide) (by decide)) _ _).trans ?_
 refine (aa (rm (0+8+4+4+1+4+2) 4 (by decide) (by decide)) _ _).trans ?_
 refine (aa (rm (0+8+4+4+1+4+2+4) 8 (by decide) (by decide)) _ _).trans ?_
 refine (aa (rm (0+8+4+4+1+4+2+4+8) 8 (by decide) (by decide)) _ _).trans ?_
 refine (aa (rm (0+8+4+4+1+4+2+4+8+8) 8 (by decide) (by decide)) _ _).trans ?_
 refine (aa (rm (0+8+4+4+1+4+2+4+8+8+8) 2 (by decide) (by decide)) _ _).trans ?_
 refine (aa (rm (0+8+4+4+1+4+2+4+8+8+8+2) 4 (by decide) (by decide)) _ _).trans ?_
 refine (aa (rm (0+8+4+4+1+4+2+4+8+8+8+2+4) 4 (by decide) (by decide)) _ _).trans ?_
 have hz:∀p n:Nat,p+n≤61→aV (b.take 61) (p:Int) n=ar b p n:=by
  intro p n h
  rw[j7]
  unfold ar
  rw[List.drop_take,List.take_take,Nat.min_eq_left (by omega)]
 have z16:aV (b.take 61) (0+8+4+4) 1=ar b 16 1:=hz 16 1 (by decide)
 have z17:aV (b.take 61) (0+8+4+4+1) 4=ar b 17 4:=hz 17 4 (by decide)
 have a16:=Q9 (b:=b) (p:=16) (by omega)
 have c16:=t3 hw.1.1 16
 rw[z16,a16]
 by_cases h4:b.getD 16 0=2
 rotate_left
 ·refine bT (by simp only[bne_iff_ne];have c16:0≤b.getD 16 0∧b.getD 16 0≤255:=c16;split <;> omega) ?_
  exact fin 81 (by decide) (by rw[eE,if_pos h4])
 refine bF (by rw[h4];rfl) ?_
 rw[if_neg (az h4)] at eE
 have hT:=HY hb (by omega) h2 h3
 have fin2:¬(sm=true∧eN b=false)→DY b=oR (((ak b sm).1,(ak b sm).2,()),()):=by
  intro hn
  rw[if_neg hn] at eE
  rw[hT]
  have hs:ak b sm=if bd b sm≠0 then (bq,bd b sm) else (iN b,0):=rfl
  rw[hs,eE]
  by_cases d1:bh (ar b 0 8)=true
  ·rw[if_pos d1,if_pos d1,if_pos (by decide)]
  rw[if_neg d1,if_neg d1]
  by_cases d2:b.getD 21 0≠0∨1<b.getD 22 0
  ·rw[if_pos d2,if_pos d2,if_pos (by decide)]
  rw[if_neg d2,if_neg d2]
  by_cases d3:aW (ar b 43 8) (ar b 51 2) (ar b 53 4)=true
  ·rw[if_pos d3,if_pos d3,if_pos (by decide)]
  rw[if_neg d3,if_neg d3]
  by_cases d4:ar b 57 4<1
  ·rw[if_pos d4,if_pos d4,if_pos (by decide)]
  rw[if_neg d4,if_neg d4]
  by_cases d5:256<ar b 57 4
  ·rw[if_pos d5,if_pos d5,if_pos (by decide)]
  rw[if_neg d5,if_neg d5]
  by_cases d6:ar b 23 4≠ar b 57 4 - 1
  ·rw[if_pos d6,if_pos d6,if_pos (by decide)]
  rw[if_neg d6,if_neg d6,if_neg (by decide)]
 cases sm with
 |false=>
  refine (af rfl _ _).trans ?_
  exact fin2 (fun h=>by cases h.1)
 |true=>
  refine (aa rfl _ _).trans ?_
  rw[zG,List.take_length,show Int.toNat 21=21 from rfl]
  refine bT (by simp only[zA,zB];omega) ?_
  rw[z17]
  have hL:=cI (b:=b) (p:=17) (n:=4) (by omega)
  have hLr:=dz hb 17 4
  have hcr:=Dc 0 (by decide) (b:=b.drop 21) (fun c hc=>hb c (List.mem_of_mem_drop hc))
  have hS:eN b=decide (aS ((b.drop 17).take 4)=cG 0 (b.drop 21)):=by
   unfold eN
   by_cases h:(b.drop 17).take 4=aU (cG 0 (b.drop 21)) 4
   ·rw[if_pos h,decide_eq_true ((Fq hLr hL hcr.1 hcr.2).1 h)]
   ·rw[if_neg h,decide_eq_false (fun h'=>h ((Fq hLr hL hcr.1 hcr.2).2 h'))]
  have hw17:u32.wrap (ar b 17 4)=aS ((b.drop 17).take 4):=Po hLr hL
  rw[hw17]
  by_cases h5:aS ((b.drop 17).take 4)=cG 0 (b.drop 21)
  ·refine bF (by show (aS ((b.drop 17).take 4) != cG 0 (b.drop 21))=false;simp[h5]) ?_
   exact fin2 (fun h=>by rw[hS,decide_eq_true h5] at h;cases h.2)
  ·refine bT (by show (aS ((b.drop 17).take 4) != cG 0 (b.drop 21))=true;simp[h5]) ?_
   exact fin 82 (by decide) (by rw[eE,if_pos ⟨rfl,by rw[hS,decide_eq_false h5]⟩])
abbrev kk:Io:=⟨[dL],[],[],[BO,dI],none⟩
def Fg (d:kk.In):Tr kk.Res:=.ite (decide (d.1.1.length≤4294960000)) (.ret (.ret (((ao d.1.1).1,(ao d.1.1).2,()),()))) .no
abbrev Kb:List (Nat×Hc):=[(73,ah iX Dz),(74,ah ik yl),(75,ah nR JI),(76,ah fV th),(77,ah kl DA)]
def KK:Hd:=bG Kb
abbrev dw:Lo:=⟨⟨(bk (.one (.ptr 2 0)::.any::.one (.ptr 4 0)::.any::.one (.hol (.sl 5 (Ty.int u8)))::.one (.ptr 7 0)::.one hI::.any::ai (ai (bz (.one hI::.one hI::ai (ai (dm (bz (bk []))))))))),[none,none,some [hI,hJ,hI,hK,hJ,.onl 91 aR 1036],none,some [hI,hI,hJ,hL,hI,hI,hI,hI,hK,hJ],none,none,some [hI,hJ,hI,hK,hJ,.onl 91 aR 3596]]⟩,[(.ret,⟨(bk (.one (.ptr 2 0)::.one hI::ai (ai (ai (ai (ai (dm (bk [])))))))),[none,none,some [hI,hJ,hI,hK,hJ,.onl 91 aR 129]]⟩),(.ret,⟨(bk (.one (.ptr 2 0)::.one hI::ai (ai (ai (ai (ai (dm (bk [])))))))),[none,none,some [hI,hJ,hI,hK,hJ,.onl 91 aR 153]]⟩),(.exit 0,⟨(bk (.one (.ptr 2 0)::.any::.one (.ptr 4 0)::.any::.one (.hol (.sl 5 (Ty.int u8)))::.one (.ptr 7 0)::.one hI::.any::ai (ai (ai (ai (ai (bz []))))))),[none,none,some [hI,hJ,hI,hK,hJ,.onl 91 aR 1036],none,some [hI,hI,hJ,hL,hI,hI,hI,hI,hK,hJ],none,none,some [hI,hJ,hI,hK,hJ,.onl 91 aR 3596]]⟩)]⟩
def QH:bR:=(0,(0,(0,(0,(0,([],()))))))
def kZ (blk:LI)(f:Int):Nat→Nat→Int→List bm→Int×Int×Int×List bm
 |0,_,p,out=>(0,0,p,out)
 |n+1,i,p,out=>
  if (an blk p).2.2≠0 then ((an blk p).2.2,0,0,[])
  else if (bx (an blk p).1 (i:Int) f).2≠0 then (0,(bx (an blk p).1 (i:Int) f).2,0,[])
  else kZ blk f n (i+1) (an blk p).2.1 (out++[(bx (an blk p).1 (i:Int) f).1])
def Fp (blk:LI)(z:bR)(info:wc)(b1 b2 b3 b4 b5:Int)(x:Int×Int×Int×List bm):Tr (ap dw.xs):=
 .ite (decide (x.1≠0)) (.ret (.ret ((),((x.1,()),(QH,())))))
  (.ite (decide (x.2.1≠0)) (.ret (.pan (.ret ((),((x.2.1,()),(QH,()))))))
   (.ret (.pan (.pan (.ret ((),((blk,(x.2.2.1,())),(z,(info,((b1,(b2,(b3,(b4,(b5,(x.2.2.2,())))))),()))))))))))
def tf (d:dw.st.den):Tr (ap dw.xs):=
 .ite (decide (d.1.2.2.2.1=0)&&(decide (d.2.2.2.1.2.2.2.2.2.1.length=0)&&(decide ((0:Int)≤d.1.2.2.1)&&decide (d.1.2.2.1≤(4294960000:Int)))))
  (Fp d.1.1 d.2.1 d.2.2.1 d.2.2.2.1.1 d.2.2.2.1.2.1 d.2.2.2.1.2.2.1 d.2.2.2.1.2.2.2.1 d.2.2.2.1.2.2.2.2.1 (kZ d.1.1 d.2.2.1.2.2.2.2.2.1 d.1.2.2.1.toNat 0 d.1.2.1 [])) .no
def zW:Lp:=bM [(11,aD dw tf)]
def mz {R:Type}(h1:LI)(h2 h3 h4 h5 h6 h7 h8 h9:Int)(h10:List aR.den)(h11 h12 h13:Int)(h14:Bool)(h15 h16 h17 h18 h19 h20 h21 h22 h23 h24 h25:Int)(h26:List aR.den)(next:LI→Int→Int→Int→Int→Int→Int→Int→Int→List aR.den→Int→Int→Int→Bool→Int→Int→Int→Int→Int→Int→Int→Int→Int→Int→Int→List aR.den→Option R)(out:ap dw.xs→Option R):Option R:=bif decide (h4<h3) then bif (an h1 h2).2.2 != 0 then out (.ret ((),(((an h1 h2).2.2,()),((0,(0,(0,(0,(0,([],())))))),())))) else bif (bx (an h1 h2).1 h4 h16).2 != 0 then out (.pan (.ret ((),(((bx (an h1 h2).1 h4 h16).2,()),((0,(0,(0,(0,(0,([],())))))),()))))) else bif decide (h26.length+1≤4294967296) then next (h1) ((an h1 h2).2.1) (h3) (i64.wrap (h4+1)) (h5) (h6) (h7) (h8) (h9) (h10) (h11) (h12) (h13) (h14) (h15) (h16) (h17) (h18) (h19) (h20) (h21) (h22) (h23) (h24) (h25) (h26++[(bx (an h1 h2).1 h4 h16).1]) else none else out (.pan (.pan (.ret ((),((h1,(h2,())),((h5,(h6,(h7,(h8,(h9,(h10,())))))),((h11,(h12,(h13,(h14,(h15,(h16,(h17,(h18,(h19,(h20,())))))))))),((h21,(h22,(h23,(h24,(h25,(h26,())))))),()))))))))
def qI (n:Nat)(h1:LI)(h2 h3 h4 h5 h6 h7 h8 h9:Int)(h10:List aR.den)(h11 h12 h13:Int)(h14:Bool)(h15 h16 h17 h18 h19 h20 h21 h22 h23 h24 h25:Int)(h26:List aR.den):Option (ap dw.xs):=fJ tt KK dr zW 0 Tryz.f56 (bP Tryz.f56 0) n (dw.st.mk' ((h1,(h2,(h3,(h4,())))),((h5,(h6,(h7,(h8,(h9,(h10,())))))),((h11,(h12,(h13,(h14,(h15,(h16,(h17,(h18,(h19,(h20,())))))))))),((h21,(h22,(h23,(h24,(h25,(h26,())))))),()))))) (bt dw.xs)
theorem xX (n:Nat)(h1:LI)(h2 h3 h4 h5 h6 h7 h8 h9:Int)(h10:List aR.den)(h11 h12 h13:Int)(h14:Bool)(h15 h16 h17 h18 h19 h20 h21 h22 h23 h24 h25:Int)(h26:List aR.den):qI (n+1) h1 h2 h3 h4 h5 h6 h7 h8 h9 h10 h11 h12 h13 h14 h15 h16 h17 h18 h19 h20 h21 h22 h23 h24 h25 h26=mz h1 h2 h3 h4 h5 h6 h7 h8 h9 h10 h11 h12 h13 h14 h15 h16 h17 h18 h19 h20 h21 h22 h23 h24 h25 h26 (qI n) some:=by kernel_rfl
theorem Ch (blk:LI)(z1 z2 z3 z4 z5:Int)(z6:List bm)(i1 i2 i3:Int)(i4:Bool)(i5 i6 i7 i8 i9 i10 b1 b2 b3 b4 b5:Int):∀(n k i:Nat) (p:Int) (out:List bm),n<k→out.length=i→i+n≤4294960000→
  qI k blk p ((i+n:Nat):Int) i z1 z2 z3 z4 z5 z6 i1 i2 i3 i4 i5 i6 i7 i8 i9 i10 b1 b2 b3 b4 b5 out=(Fp blk (z1,z2,z3,z4,z5,z6,()) (i1,i2,i3,i4,i5,i6,i7,i8,i9,i10,()) b1 b2 b3 b4 b5 (kZ blk i6 n i p out)).val:=by
 intro n
 induction n with
 |zero=>
  intro k i p out h1 h2 h3
  obtain ⟨k,rfl⟩:∃j,k=j+1:=⟨k - 1,by omega⟩
  rw[xX]
  unfold mz
  refine bF (by simp) ?_
  rfl
 |succ n ih=>
  intro k i p out h1 h2 h3
  obtain ⟨k,rfl⟩:∃j,k=j+1:=⟨k - 1,by omega⟩
  rw[xX]
  unfold mz
  refine bT (decide_eq_true (by omega)) ?_
  have e:kZ blk i6 (n+1) i p out=if (an blk p).2.2≠0 then ((an blk p).2.2,0,0,[]) else if (bx (an blk p).1 (i:Int) i6).2≠0 then (0,(bx (an blk p).1 (i:Int) i6).2,0,[]) else kZ blk i6 n (i+1) (an blk p).2.1 (out++[(bx (an blk p).1 (i:Int) i6).1]):=rfl
  rw[e]
  by_cases c1:(an blk p).2.2=0
  ·refine bF (by simpa using c1) ?_
   rw[if_neg (az c1)]
   by_cases c2:(bx (an blk p).1 (i:Int) i6).2=0
   ·refine bF (by simpa using c2) ?_
    rw[if_neg (az c2)]
    refine bT (decide_eq_true (by omega)) ?_
    rw[ae (n:=(i:Int)+1) (by omega) (by omega)]
    have:=ih k (i+1) (an blk p).2.1 (out++[(bx (an blk p).1 (i:Int) i6).1]) (by omega) (by simp;omega) (by omega)
    rw[show i+1+n=i+(n+1) by omega] at this
    exact this
   ·refine bT (by simpa using c2) ?_
    rw[if_pos c2]
    unfold Fp
    rw[Tr.val_ite,Tr.val_ite,if_neg (by simp),if_pos (decide_eq_true c2)]
    rfl
  ·refine bT (by simpa using c1) ?_
   rw[if_pos c1]
   unfold Fp
   rw[Tr.val_ite,if_pos (decide_eq_true c1)]
   rfl
theorem rN (blk:LI)(f:Int):∀(n i:Nat) (p:Int) (out:List bm),(aE blk f n i p out).2.2=0→(aE blk f n i p out).1.length=out.length+n
 |0,_,_,_,_=>rfl
 |n+1,i,p,out,h=>by
  unfold aE at h ⊢
  split
  ·rename_i c;rw[if_pos c] at h;exact absurd h c
  rename_i c;rw[if_neg c] at h
  split
  ·rename_i c2;rw[if_pos c2] at h;cases h
  rename_i c2;rw[if_neg c2] at h
  split
  ·rename_i c3;rw[if_pos c3] at h;cases h
  rename_i c3;rw[if_neg c3] at h
  rw[rN blk f n (i+1) _ _ h]
  simp;omega
theorem HJ (blk:LI)(f:Int):∀(n i:Nat) (p:Int) (out:List bm),
  ((aE blk f n i p out).2.2=0→(kZ blk f n i p out)=(0,0,(aE blk f n i p out).2.1,(aE blk f n i p out).1))∧
  ((aE blk f n i p out).2.2≠0→(kZ blk f n i p out).1=(aE blk f n i p out).2.2∨(kZ blk f n i p out).1=0∧(kZ blk f n i p out).2.1=(aE blk f n i p out).2.2)
 |0,i,p,out=>⟨fun _=>rfl,fun h=>absurd rfl h⟩
 |n+1,i,p,out=>by
  have e:aE blk f (n+1) i p out=if (an blk p).2.2≠0 then ([],0,(an blk p).2.2) else if (an blk p).1.2.1≠(i:Int) then ([],0,72) else if i=0∧(an blk p).1.1≠0∨aP (f+(an blk p).1.1)=false then ([],0,86)
    else aE blk f n (i+1) (an blk p).2.1 (out++[(f+(an blk p).1.1,(an blk p).1.2.2.1,(an blk p).1.2.2.2.1,(an blk p).1.2.2.2.2.1,())]):=rfl
  have e2:kZ blk f (n+1) i p out=if (an blk p).2.2≠0 then ((an blk p).2.2,0,0,[]) else if (bx (an blk p).1 (i:Int) f).2≠0 then (0,(bx (an blk p).1 (i:Int) f).2,0,[]) else kZ blk f n (i+1) (an blk p).2.1 (out++[(bx (an blk p).1 (i:Int) f).1]):=rfl
  have eO:bx (an blk p).1 (i:Int) f=if (an blk p).1.2.1≠(i:Int) then (s7,72) else if (i:Int)=0∧(an blk p).1.1≠0∨aP (f+(an blk p).1.1)=false then (s7,86)
    else ((f+(an blk p).1.1,(an blk p).1.2.2.1,(an blk p).1.2.2.2.1,(an blk p).1.2.2.2.2.1,()),0):=rfl
  rw[e,e2]
  by_cases c1:(an blk p).2.2=0
  rotate_left
  ·rw[if_pos c1,if_pos c1]
   exact ⟨fun h=>absurd h c1,fun _=>.inl rfl⟩
  rw[if_neg (az c1),if_neg (az c1)]
  by_cases c2:(an blk p).1.2.1=(i:Int)
  rotate_left
  ·rw[if_pos c2,eO,if_pos c2,if_pos (by decide)]
   exact ⟨(fun h=>by cases h),fun _=>.inr ⟨rfl,rfl⟩⟩
  rw[if_neg (az c2)]
  by_cases c3:i=0∧(an blk p).1.1≠0∨aP (f+(an blk p).1.1)=false
  ·have c3':(i:Int)=0∧(an blk p).1.1≠0∨aP (f+(an blk p).1.1)=false:=by
    rcases c3 with h | h
    ·exact .inl ⟨by omega,h.2⟩
    ·exact .inr h
   rw[if_pos c3,eO,if_neg (az c2),if_pos c3',if_pos (by decide)]
   exact ⟨(fun h=>by cases h),fun _=>.inr ⟨rfl,rfl⟩⟩
  ·have c3':¬((i:Int)=0∧(an blk p).1.1≠0∨aP (f+(an blk p).1.1)=false):=by
    rintro (h | h)
    ·exact c3 (.inl ⟨by omega,h.2⟩)
    ·exact c3 (.inr h)
   rw[if_neg c3,eO,if_neg (az c2),if_neg c3',if_neg (az rfl)]
   exact HJ blk f n (i+1) _ _
theorem gP {b:LI}{sm:Bool}(h:bd b sm=0):61≤b.length∧(aj b 0).2=0∧(aj b 0).1=(b.length:Int)∧b.getD 16 0=2∧¬(sm=true∧eN b=false)∧bh (ar b 0 8)=false∧b.getD 21 0=0∧b.getD 22 0≤1∧aW (ar b 43 8) (ar b 51 2) (ar b 53 4)=false∧1≤ar b 57 4∧ar b 57 4≤256∧ar b 23 4=ar b 57 4 - 1:=by
 unfold bd at h
 split at h
 ·cases h
 split at h
 ·rename_i c;exact absurd h c
 rename_i h1 h2
 split at h
 ·cases h
 rename_i h3
 split at h
 ·cases h
 rename_i h4
 split at h
 ·cases h
 rename_i h5
 split at h
 ·cases h
 rename_i h6
 split at h
 ·cases h
 rename_i h7
 split at h
 ·cases h
 rename_i h8
 split at h
 ·cases h
 rename_i h9
 split at h
 ·cases h
 rename_i h10
 split at h
 ·cases h
 rename_i h11
 have h2:(aj b 0).2=0:=Classical.byContradiction h2
 have hm:=fk h2
 refine ⟨by omega,h2,by omega,Classical.byContradiction h4,h5,by simpa using h6,?_,by omega,by simpa using h8,by omega,by omega,Classical.byContradiction h11⟩
 exact Classical.byContradiction fun h=>h7 (.inl h)
def A8 (a0:LI):Option kk.Res:=bif decide (a0.length≤4294960000) then bif (ak a0 true).2 != 0 then oR (((0,0,0,0,0,[],()),(ak a0 true).2,()),()) else bif decide (61≤a0.length)&&decide (a0.length≤4294960000) then bif (aO a0 (ak a0 true).1.2.2.2.1).2 != 0 then oR (((0,0,0,0,0,[],()),(aO a0 (ak a0 true).1.2.2.2.1).2,()),()) else (bif decide ((0:Int)=0)&&(decide (([]:List bm).length=0)&&(decide ((0:Int)≤(ak a0 true).1.2.2.2.2.1)&&decide ((ak a0 true).1.2.2.2.2.1≤(4294960000:Int)))) then (bif decide ((kZ (aO a0 (ak a0 true).1.2.2.2.1).1 (ak a0 true).1.2.2.2.2.2.1 ((ak a0 true).1.2.2.2.2.1).toNat 0 0 []).1≠0) then oR (((0,0,0,0,0,[],()),(kZ (aO a0 (ak a0 true).1.2.2.2.1).1 (ak a0 true).1.2.2.2.2.2.1 ((ak a0 true).1.2.2.2.2.1).toNat 0 0 []).1,()),()) else bif decide ((kZ (aO a0 (ak a0 true).1.2.2.2.1).1 (ak a0 true).1.2.2.2.2.2.1 ((ak a0 true).1.2.2.2.2.1).toNat 0 0 []).2.1≠0) then oR (((0,0,0,0,0,[],()),(kZ (aO a0 (ak a0 true).1.2.2.2.1).1 (ak a0 true).1.2.2.2.2.2.1 ((ak a0 true).1.2.2.2.2.1).toNat 0 0 []).2.1,()),()) else bif decide ((kZ (aO a0 (ak a0 true).1.2.2.2.1).1 (ak a0 true).1.2.2.2.2.2.1 ((ak a0 true).1.2.2.2.2.1).toNat 0 0 []).2.2.1<(↑(aO a0 (ak a0 true).1.2.2.2.1).1.length:Int)) then oR (((0,0,0,0,0,[],()),2,()),()) else bif decide (1≤(kZ (aO a0 (ak a0 true).1.2.2.2.1).1 (ak a0 true).1.2.2.2.2.2.1 ((ak a0 true).1.2.2.2.2.1).toNat 0 0 []).2.2.2.length) then bif cj (kZ (aO a0 (ak a0 true).1.2.2.2.1).1 (ak a0 true).1.2.2.2.2.2.1 ((ak a0 true).1.2.2.2.2.1).toNat 0 0 []).2.2.2 != (ak a0 true).1.2.2.2.2.2.2.1 then oR (((0,0,0,0,0,[],()),86,()),()) else oR ((((ak a0 true).1.1,(ak a0 true).1.2.2.1,(ak a0 true).1.2.2.2.2.2.2.2.1,(ak a0 true).1.2.2.2.2.2.2.2.2.1,(ak a0 true).1.2.2.2.2.2.2.2.2.2.1,(kZ (aO a0 (ak a0 true).1.2.2.2.1).1 (ak a0 true).1.2.2.2.2.2.1 ((ak a0 true).1.2.2.2.2.1).toNat 0 0 []).2.2.2,()),0,()),()) else none) else none) else none else none
theorem OT (a0:LI):Io.run tt KK dr zW kk Tryz.f56 ((a0,()),())=A8 a0:=by kernel_rfl
theorem BY:HcsOk prog Kb:=.cons Ol (.cons LC (.cons Qa (.cons Iw (.cons Om .nil))))
theorem LD:HcOk prog 56 (ah kk Fg):=by
 refine bQ BY (lp:=zW) (fn:=Tryz.f56) kk (.step (h0:=aD dw tf) (by kernel_rfl) (f9 BY (lp:=zW) (fn:=Tryz.f56) (.done (by kernel_rfl)) dw tf ?_) (.done (by kernel_rfl))) Fg ?_
 ·rintro ⟨⟨(blk:LI),(p:Int),(n:Int),(i:Int),⟨⟩⟩,⟨⟨(z1:Int),(z2:Int),(z3:Int),(z4:Int),(z5:Int),(z6:List bm),⟨⟩⟩,⟨(i1:Int),(i2:Int),(i3:Int),(i4:Bool),(i5:Int),(i6:Int),(i7:Int),(i8:Int),(i9:Int),(i10:Int),⟨⟩⟩,⟨(b1:Int),(b2:Int),(b3:Int),(b4:Int),(b5:Int),(out:List bm),⟨⟩⟩,⟨⟩⟩⟩ y hw hy
  obtain ⟨hg,hy⟩:=Tr.guard hy
  simp only[zA,zB] at hg
  obtain ⟨h1,h2,h3,h4⟩:=hg
  have h1:i=0:=h1
  have h2:out=[]:=List.length_eq_zero_iff.1 h2
  have h3:0≤n:=h3
  have h4:n≤(4294960000:Int):=h4
  subst h1 h2
  obtain ⟨n,rfl⟩:=au h3
  have:=Ch blk z1 z2 z3 z4 z5 z6 i1 i2 i3 i4 i5 i6 i7 i8 i9 i10 b1 b2 b3 b4 b5 n (n+1) 0 p [] (by omega) rfl (by omega)
  rw[Nat.zero_add] at this
  exact ⟨n+1,this.trans hy⟩
 ·rintro ⟨⟨(b:LI),⟨⟩⟩,⟨⟩⟩ out hw ho
  obtain ⟨hg,ho⟩:=Tr.guard ho
  have hg2:b.length≤4294960000:=of_decide_eq_true hg
  clear hg
  cases ho
  refine (OT b).trans ?_
  show _=oR (((ao b).1,(ao b).2,()),())
  have eE:eV b=if bd b true≠0 then ([],bd b true) else if (aO b (decide (b.getD 22 0=1))).2≠0 then ([],(aO b (decide (b.getD 22 0=1))).2) else cO (aO b (decide (b.getD 22 0=1))).1 (ar b 27 8) (ar b 35 8) (ar b 57 4).toNat:=rfl
  have fin:∀e:Int,e≠0→(eV b).2=e→some (Out.ret ((QH,(e,())),()):kk.Res)=oR (((ao b).1,(ao b).2,()),()):=by
   intro e he h
   have:ao b=(s6,e):=by unfold ao;rw[h,if_pos he]
   rw[this]
   rfl
  unfold A8
  refine bT (decide_eq_true hg2) ?_
  by_cases h1:bd b true=0
  rotate_left
  ·have eh:ak b true=(bq,bd b true):=by unfold ak;rw[if_pos h1]
   rw[eh]
   refine bT (by simpa using h1) ?_
   exact fin _ h1 (by rw[eE,if_pos h1])
  have eh:ak b true=(iN b,0):=by unfold ak;rw[if_neg (az h1)]
  rw[if_neg (az h1)] at eE
  obtain ⟨k1,_,_,_,_,_,_,_,_,k2,k3,_⟩:=gP h1
  have hI:iN b=(ar b 0 8,(b.length:Int),ar b 12 4,decide (b.getD 22 0=1),ar b 57 4,ar b 27 8,ar b 35 8,ar b 43 8,ar b 51 2,ar b 53 4,()):=rfl
  rw[eh,hI]
  dsimp only
  refine (af rfl _ _).trans ?_
  refine bT (by simp only[zA,zB];exact ⟨k1,hg2⟩) ?_
  by_cases h2:(aO b (decide (b.getD 22 0=1))).2=0
  rotate_left
  ·refine bT (by simpa using h2) ?_
   exact fin _ h2 (by rw[eE,if_pos h2])
  refine bF (by simpa using h2) ?_
  rw[if_neg (az h2)] at eE
  generalize (aO b (decide (b.getD 22 0=1))).1=blk at *
  refine bT (by simp only[zA,zB];exact ⟨trivial,rfl,show (0:Int)≤ar b 57 4 by omega,show ar b 57 4≤(4294960000:Int) by omega⟩) ?_
  have eR:cO blk (ar b 27 8) (ar b 35 8) (ar b 57 4).toNat=if (aE blk (ar b 27 8) (ar b 57 4).toNat 0 0 []).2.2≠0 then ([],(aE blk (ar b 27 8) (ar b 57 4).toNat 0 0 []).2.2)
    else if (aE blk (ar b 27 8) (ar b 57 4).toNat 0 0 []).2.1<(blk.length:Int) then ([],2)
    else if cj (aE blk (ar b 27 8) (ar b 57 4).toNat 0 0 []).1≠ar b 35 8 then ([],86) else ((aE blk (ar b 27 8) (ar b 57 4).toNat 0 0 []).1,0):=rfl
  have hlen:=rN blk (ar b 27 8) (ar b 57 4).toNat 0 0 []
  obtain ⟨x1,x2⟩:=HJ blk (ar b 27 8) (ar b 57 4).toNat 0 0 []
  rw[eR] at eE
  generalize aE blk (ar b 27 8) (ar b 57 4).toNat 0 0 []=r at *
  obtain ⟨rs,q,e⟩:=r
  simp only at eE hlen x1 x2
  by_cases h3:e=0
  rotate_left
  ·rw[if_pos h3] at eE
   rcases x2 h3 with x | ⟨x,x'⟩
   ·rw[x]
    refine bT (decide_eq_true h3) ?_
    exact fin e h3 (by rw[eE])
   ·rw[x,x']
    refine (af rfl _ _).trans ?_
    refine bT (decide_eq_true h3) ?_
    exact fin e h3 (by rw[eE])
  rw[if_neg (az h3)] at eE
  rw[x1 h3]
  have hlen:=hlen h3
  refine (af rfl _ _).trans ?_
  refine (af rfl _ _).trans ?_
  by_cases h4:q<(blk.length:Int)
  ·refine bT (decide_eq_true h4) ?_
   exact fin 2 (by decide) (by rw[eE,if_pos h4])
  refine bF (decide_eq_false h4) ?_
  refine bT (decide_eq_true (show 1≤rs.length by rw[hlen];simp;omega)) ?_
  rw[if_neg h4] at eE
  by_cases h5:cj rs=ar b 35 8
  ·refine bF (by simpa using h5) ?_
   rw[if_neg (az h5)] at eE
   have:ao b=((ar b 0 8,ar b 12 4,ar b 43 8,ar b 51 2,ar b 53 4,rs,()),0):=by unfold ao;rw[eE,if_neg (az rfl)]
   rw[this]
  ·refine bT (by simpa using h5) ?_
   exact fin 86 (by decide) (by rw[eE,if_pos h5])
end
end Go.Proofs.YthpcdhgpplmneaaGreatDoor.Sym
namespace Go.Proofs.YthpcdhgpplmneaaGreatDoor.Sym
open Go
noncomputable section
end
end Go.Proofs.YthpcdhgpplmneaaGreatDoor.Sym
namespace Go.Proofs.YthpcdhgpplmneaaGreatDoor.Sym
open Go
open Go.IntKind (i8 i16 i32 i64 u8 u16 u32 u64)
noncomputable section
abbrev lX:Io:=⟨[dL,dI,dI],[],[],[cw],none⟩
def Fm (d:lX.In):Tr lX.Res:=.ite (decide ((0:Int)≤d.1.2.2.1)&&decide (d.1.2.2.1≤(8:Int))) (.ret (.ret (((am d.1.1 d.1.2.1 d.1.2.2.1).1,()),()))) .no
abbrev Kq:List (Nat×Hc):=[(133,ah fY tn)]
def P4:Hd:=bG Kq
def Lv:Lp:=bM []
def J5 (a0:LI)(a1 a2:Int):Option lX.Res:=bif decide (0≤a2)&&decide (a2≤8) then oR (((am a0 a1 a2).1,()),()) else none
theorem Pe (a0:LI)(a1 a2:Int):Io.run tt P4 dr Lv lX Tryz.f103 ((a0,a1,a2,()),())=J5 a0 a1 a2:=by kernel_rfl
theorem L0:HcOk prog 103 (ah lX Fm):=by
 refine bQ (cs:=Kq) (.cons Iz .nil) (lp:=Lv) (fn:=Tryz.f103) lX (.done (by kernel_rfl)) Fm ?_
 rintro ⟨⟨(b:LI),(p:Int),(n:Int),⟨⟩⟩,⟨⟩⟩ out hw ho
 obtain ⟨hg,ho⟩:=Tr.guard ho
 cases ho
 refine (Pe b p n).trans ?_
 exact aa hg _ _
abbrev gJ:Io:=⟨[cw,Ru,PO],[],[],[dB],none⟩
def yR (d:gJ.In):Tr gJ.Res:=.ret (.ret ((!aW d.1.1 d.1.2.1 d.1.2.2.1,()),()))
abbrev F7:List (Nat×Hc):=[]
def N7:Hd:=bG F7
def Ha:Lp:=bM []
def wY (a0 a1 a2:Int):Option gJ.Res:=bif decide (a0<0) then bif a0 == -1 then bif a1 == -1 then oR ((a2 == -1,()),()) else oR ((false,()),()) else oR ((false,()),()) else bif decide (0≤a1) then oR ((decide (0≤a2),()),()) else oR ((false,()),())
theorem ML (a0 a1 a2:Int):Io.run tt N7 dr Ha gJ Tryz.f82 ((a0,a1,a2,()),())=wY a0 a1 a2:=by kernel_rfl
theorem Hw:HcOk prog 82 (ah gJ yR):=by
 refine bQ (cs:=F7) HcsOk.nil (lp:=Ha) (fn:=Tryz.f82) gJ (.done (by kernel_rfl)) yR ?_
 rintro ⟨⟨(pid:Int),(ep:Int),(sq:Int),⟨⟩⟩,⟨⟩⟩ out hw ho
 cases ho
 refine (ML pid ep sq).trans ?_
 show _=oR ((!(if pid = -1∧ep = -1∧sq = -1∨0≤pid∧0≤ep∧0≤sq then false else true),()),())
 have key:∀c:Prop,[Decidable c]→∀b:Bool,(b=true↔c)→some (Out.ret ((b,()),()):gJ.Res)=oR ((!(if c then false else true),()),()):=by
  intro c _ b h
  by_cases hc:c
  ·rw[if_pos hc,h.2 hc];rfl
  ·rw[if_neg hc]
   cases b with
   |false=>rfl
   |true=>exact absurd (h.1 rfl) hc
 unfold wY
 by_cases h1:pid<0
 ·refine bT (decide_eq_true h1) ?_
  by_cases h2:pid = -1
  ·refine bT (by simp[h2]) ?_
   by_cases h3:ep = -1
   ·refine bT (by simp[h3]) ?_
    exact key _ _ (by simp;omega)
   ·refine bF (by simp[h3]) ?_
    exact key _ _ (by simp;omega)
  ·refine bF (by simp[h2]) ?_
   exact key _ _ (by simp;omega)
 ·refine bF (decide_eq_false h1) ?_
  by_cases h2:0≤ep
  ·refine bT (decide_eq_true h2) ?_
   exact key _ _ (by simp;omega)
  ·refine bF (decide_eq_false h2) ?_
   exact key _ _ (by simp;omega)
def br (a b:Int):Int×Bool:=if aP (a - b)=true then (a - b,true) else (0,false)
abbrev gf:Io:=⟨[cw,cw],[],[],[cw,dB],none⟩
def yU (d:gf.In):Tr gf.Res:=.ret (.ret (((br d.1.1 d.1.2.1).1,(br d.1.1 d.1.2.1).2,()),()))
abbrev Ga:List (Nat×Hc):=[]
def N8:Hd:=bG Ga
def Hb:Lp:=bM []
def w9 (a0 a1:Int):Option gf.Res:=bif decide (0≤a1) then bif decide (a0<i64.wrap (-9223372036854775808+a1)) then oR ((0,false,()),()) else bif decide (a1<0) then bif decide (i64.wrap (9223372036854775807+a1)<a0) then oR ((0,false,()),()) else oR ((i64.wrap (a0 - a1),true,()),()) else oR ((i64.wrap (a0 - a1),true,()),()) else bif decide (a1<0) then bif decide (i64.wrap (9223372036854775807+a1)<a0) then oR ((0,false,()),()) else oR ((i64.wrap (a0 - a1),true,()),()) else oR ((i64.wrap (a0 - a1),true,()),())
theorem MO (a0 a1:Int):Io.run tt N8 dr Hb gf Tryz.f116 ((a0,a1,()),())=w9 a0 a1:=by kernel_rfl
theorem Hy:HcOk prog 116 (ah gf yU):=by
 refine bQ (cs:=Ga) HcsOk.nil (lp:=Hb) (fn:=Tryz.f116) gf (.done (by kernel_rfl)) yU ?_
 rintro ⟨⟨(a:Int),(b:Int),⟨⟩⟩,⟨⟩⟩ out hw ho
 cases ho
 refine (MO a b).trans ?_
 have ha:bH .i64 a:=hw.1.1
 have hb:bH .i64 b:=hw.1.2.1
 have ha:=jC ha
 have hb:=jC hb
 show _=oR (((br a b).1,(br a b).2,()),())
 unfold w9
 have fin:aP (a - b)=true→some (Out.ret ((i64.wrap (a - b),true,()),()):gf.Res)=oR (((br a b).1,(br a b).2,()),()):=by
  intro h
  have e:br a b=(a - b,true):=by unfold br;rw[if_pos h]
  rw[e,ae (fm.1 h).1 (fm.1 h).2]
 have fin2:aP (a - b)=false→some (Out.ret ((0,false,()),()):gf.Res)=oR (((br a b).1,(br a b).2,()),()):=by
  intro h
  have e:br a b=(0,false):=by unfold br;rw[if_neg (by rw[h];exact fun h=>by cases h)]
  rw[e]
 have fy:(-9223372036854775808≤a - b∧a - b≤9223372036854775807)→aP (a - b)=true:=fun h=>fm.2 h
 have fn:¬(-9223372036854775808≤a - b∧a - b≤9223372036854775807)→aP (a - b)=false:=fun h=>by
  cases h2:aP (a - b) with
  |false=>rfl
  |true=>exact absurd (fm.1 h2) h
 by_cases h0:0≤b
 ·refine bT (decide_eq_true h0) ?_
  rw[ae (n:=-9223372036854775808+b) (by omega) (by omega)]
  by_cases h1:a < -9223372036854775808+b
  ·exact (aa (decide_eq_true h1) _ _).trans (fin2 (fn (by omega)))
  ·refine bF (decide_eq_false h1) ?_
   exact (af (decide_eq_false (by omega)) _ _).trans (fin (fy (by omega)))
 ·refine bF (decide_eq_false h0) ?_
  refine bT (decide_eq_true (show b<0 by omega)) ?_
  rw[ae (n:=9223372036854775807+b) (by omega) (by omega)]
  by_cases h1:9223372036854775807+b<a
  ·exact (aa (decide_eq_true h1) _ _).trans (fin2 (fn (by omega)))
  ·exact (af (decide_eq_false h1) _ _).trans (fin (fy (by omega)))
abbrev fq:Io:=⟨[Kt],[],[],[cw],none⟩
def oU (d:fq.In):Tr fq.Res:=.ret (.ret ((cj d.1.1,()),()))
abbrev ue:List (Nat×Hc):=[]
def Cc:Hd:=bG ue
abbrev dk:Lo:=⟨⟨(.one (.hol (.sl 91 aR))::bk (.one hI::.one hI::.any::ai (bk []))),[]⟩,[(.exit 0,⟨(.any::bk (.one hI::ai (bz []))),[]⟩)]⟩
def jW (d:dk.st.den):Tr (ap dk.xs):=.ite (decide (d.1.2.2.1=(0:Int))) (.ret (.ret ((),((bu d.1.1 d.1.2.1,()),())))) .no
def pA:Lp:=bM [(4,aD dk jW)]
def qd {R:Type}(h1:List aR.den)(h2 h3:Int)(next:List aR.den→Int→Int→Option R)(out:ap dk.xs→Option R):Option R:=bif decide (h3<(↑h1.length:Int)) then bif decide (0≤h3)&&decide (h3<(↑h1.length:Int)) then bif decide (h2<(h1.getD h3.toNat (0,(false,[],()),(false,[],()),[],())).1) then bif decide (0≤h3)&&decide (h3<(↑h1.length:Int)) then next (h1) ((h1.getD h3.toNat (0,(false,[],()),(false,[],()),[],())).1) (i64.wrap (h3+1)) else none else next (h1) (h2) (i64.wrap (h3+1)) else none else out (.ret ((),((h2,()),())))
def ov (n:Nat)(h1:List aR.den)(h2 h3:Int):Option (ap dk.xs):=fJ tt Cc dr pA 0 Tryz.f72 (bP Tryz.f72 0) n (dk.st.mk' ((h1,(h2,(h3,()))),())) (bt dk.xs)
theorem EX (n:Nat)(h1:List aR.den)(h2 h3:Int):ov (n+1) h1 h2 h3=qd h1 h2 h3 (ov n) some:=by kernel_rfl
theorem zR (rs:List bm)(hl:rs.length≤maxLen):∀(k i:Nat) (t:Int),rs.length<i+k→i≤rs.length→ov k rs t i=some (.ret ((),((bu (rs.drop i) t,()),()))):=by
 intro k
 induction k with
 |zero=>intro i t h;omega
 |succ k ih=>
  intro i t h1 h2
  rw[EX]
  unfold qd
  by_cases hi:i<rs.length
  ·refine bT (by simpa using hi) ?_
   refine bT (by simpa using hi) ?_
   have e:List.getD rs (i:Int).toNat (0,(false,[],()),(false,[],()),[],())=rs[i]:=by simp only[zG,aA hi]
   rw[e,b7 hi hl,zE hi]
   have e2:bu (rs[i]::rs.drop (i+1)) t=bu (rs.drop (i+1)) (cp t rs[i].1):=rfl
   rw[e2]
   unfold cp
   by_cases hc:t<rs[i].1
   ·refine bT (decide_eq_true hc) ?_
    refine bT (by simpa using hi) ?_
    rw[if_pos hc]
    exact ih (i+1) _ (by omega) (by omega)
   ·refine bF (decide_eq_false hc) ?_
    rw[if_neg hc]
    exact ih (i+1) _ (by omega) (by omega)
  ·refine bF (by simp;omega) ?_
   rw[zI (by omega)]
   rfl
def tZ (a0:List aR.den):Option fq.Res:=(jW ((a0,(-9223372036854775808,(0,()))),())).run fun y=>match y with | .ret ((),((x11,()),()))=>(oR ((x11,()),()))
theorem I6 (a0:List aR.den):Io.run tt Cc dr pA fq Tryz.f72 ((a0,()),())=tZ a0:=by kernel_rfl
theorem uN:HcOk prog 72 (ah fq oU):=by
 refine bQ (cs:=ue) HcsOk.nil (lp:=pA) (fn:=Tryz.f72) fq (.step (h0:=aD dk jW) (by kernel_rfl) (f9 (cs:=ue) HcsOk.nil (lp:=pA) (fn:=Tryz.f72) (.done (by kernel_rfl)) dk jW ?_) (.done (by kernel_rfl))) oU ?_
 ·rintro ⟨⟨(rs:List bm),(t:Int),(i:Int),⟨⟩⟩,⟨⟩⟩ y hw hy
  obtain ⟨hg,hy⟩:=Tr.guard hy
  have h1:i=0:=of_decide_eq_true hg
  subst h1
  refine ⟨rs.length+1,(zR rs hw.1.1.1 (rs.length+1) 0 t (by omega) (by omega)).trans ?_⟩
  rw[← hy];rfl
 ·rintro ⟨⟨(rs:List bm),⟨⟩⟩,⟨⟩⟩ out hw ho
  cases ho
  refine (I6 rs).trans ?_
  show _=oR ((cj rs,()),())
  unfold tZ jW
  refine (aa rfl _ _).trans ?_
  cases rs with
  |nil=>rfl
  |cons r rs=>
   have hr:bH .i64 r.1:=(hw.1.1.2 r (by simp)).1
   have hr:=jC hr
   have e:bu (r::rs) (-9223372036854775808)=bu rs r.1:=by
    show bu rs (cp (-9223372036854775808) r.1)=_
    unfold cp
    by_cases h:r.1 > -9223372036854775808
    ·rw[if_pos h]
    ·rw[if_neg h]
     have:r.1 = -9223372036854775808:=by omega
     rw[this]
   exact congrArg (fun x=>oR ((x,()),())) e
theorem pT {b:LI}{p n:Nat}(h:p+n≤b.length):(am b (p:Int) (n:Int)).1=ar b p n:=by
 unfold am ar
 rw[if_neg (by omega),zG,zG]
abbrev jn:Io:=⟨[dL,dI],[],[],[dI,dI],none⟩
def yQ (d:jn.In):Tr jn.Res:=.ret (.ret (((aj d.1.1 d.1.2.1).1,(aj d.1.1 d.1.2.1).2,()),()))
abbrev F6:List (Nat×Hc):=[(103,ah lX Fm)]
def N6:Hd:=bG F6
def G9:Lp:=bM []
def wX (a0:LI)(a1:Int):Option jn.Res:=bif decide (a1<0) then oR ((0,3,()),()) else bif decide ((↑a0.length:Int)<a1) then oR ((0,3,()),()) else bif decide (i64.wrap ((↑a0.length:Int) - a1)<12) then oR ((0,1,()),()) else bif decide ((am a0 (i64.wrap (a1+8)) 4).1<49) then oR ((0,5,()),()) else bif decide (35988<(am a0 (i64.wrap (a1+8)) 4).1) then oR ((0,4,()),()) else bif decide (i64.wrap (i64.wrap ((↑a0.length:Int) - a1) - 12)<(am a0 (i64.wrap (a1+8)) 4).1) then oR ((0,1,()),()) else oR ((i64.wrap ((am a0 (i64.wrap (a1+8)) 4).1+12),0,()),())
theorem MK (a0:LI)(a1:Int):Io.run tt N6 dr G9 jn Tryz.f71 ((a0,a1,()),())=wX a0 a1:=by kernel_rfl
theorem Hv:HcOk prog 71 (ah jn yQ):=by
 refine bQ (cs:=F6) (.cons L0 .nil) (lp:=G9) (fn:=Tryz.f71) jn (.done (by kernel_rfl)) yQ ?_
 rintro ⟨⟨(b:LI),(p:Int),⟨⟩⟩,⟨⟩⟩ out hw ho
 cases ho
 refine (MK b p).trans ?_
 have hl:b.length≤9223372036854775807:=hw.1.1.1
 show _=oR (((aj b p).1,(aj b p).2,()),())
 unfold wX aj
 by_cases h1:p<0
 ·refine bT (decide_eq_true h1) ?_
  rw[if_pos (.inl h1)]
 refine bF (decide_eq_false h1) ?_
 by_cases h2:(b.length:Int)<p
 ·refine bT (decide_eq_true h2) ?_
  rw[if_pos (.inr h2)]
 refine bF (decide_eq_false h2) ?_
 rw[if_neg (by omega),ae (n:=(b.length:Int) - p) (by omega) (by omega)]
 by_cases h3:(b.length:Int) - p<12
 ·refine bT (decide_eq_true h3) ?_
  rw[if_pos h3]
 refine bF (decide_eq_false h3) ?_
 obtain ⟨p,rfl⟩:=au (show 0≤p by omega)
 have e:(am b (i64.wrap ((p:Int)+8)) 4).1=ar b (p+8) 4:=by
  rw[ae (n:=(p:Int)+8) (by omega) (by omega)]
  exact pT (b:=b) (p:=p+8) (n:=4) (by omega)
 rw[if_neg h3,e,zG,ae (n:=(b.length:Int) - p - 12) (by omega) (by omega)]
 by_cases h4:ar b (p+8) 4<49
 ·refine bT (decide_eq_true h4) ?_
  rw[if_pos h4]
 refine bF (decide_eq_false h4) ?_
 rw[if_neg h4]
 by_cases h5:35988<ar b (p+8) 4
 ·refine bT (decide_eq_true h5) ?_
  rw[if_pos h5]
 refine bF (decide_eq_false h5) ?_
 rw[if_neg h5]
 by_cases h6:(b.length:Int) - p - 12<ar b (p+8) 4
 ·refine bT (decide_eq_true h6) ?_
  rw[if_pos h6]
 refine bF (decide_eq_false h6) ?_
 rw[if_neg h6,ae (n:=ar b (p+8) 4+12) (by omega) (by omega)]
def Fe (a0:LI):Option (Out ((wc×Int×Unit)×Unit) Empty):=bif decide (0≤22)&&decide (22<(↑a0.length:Int)) then bif decide ((am a0 0 8).1<0) then oR (((0,0,0,false,0,0,0,0,0,0,()),80,()),()) else bif decide (4611686018427387648<(am a0 0 8).1) then oR (((0,0,0,false,0,0,0,0,0,0,()),80,()),()) else bif decide (0≤21)&&decide (21<(↑a0.length:Int)) then bif a0.getD (Int.toNat 21) 0 != 0 then oR (((0,0,0,false,0,0,0,0,0,0,()),83,()),()) else bif decide (0≤22)&&decide (22<(↑a0.length:Int)) then bif decide (1<a0.getD (Int.toNat 22) 0) then oR (((0,0,0,false,0,0,0,0,0,0,()),83,()),()) else bif !!aW (am a0 43 8).1 (i16.wrap (am a0 51 2).1) (i32.wrap (am a0 53 4).1) then oR (((0,0,0,false,0,0,0,0,0,0,()),84,()),()) else bif decide ((am a0 57 4).1<1) then oR (((0,0,0,false,0,0,0,0,0,0,()),85,()),()) else bif decide (256<(am a0 57 4).1) then oR (((0,0,0,false,0,0,0,0,0,0,()),9,()),()) else bif (am a0 23 4).1 != i64.wrap ((am a0 57 4).1 - 1) then oR (((0,0,0,false,0,0,0,0,0,0,()),72,()),()) else oR ((((am a0 0 8).1,(↑a0.length:Int),i32.wrap (am a0 12 4).1,a0.getD (Int.toNat 22) 0 == 1,(am a0 57 4).1,(am a0 27 8).1,(am a0 35 8).1,(am a0 43 8).1,i16.wrap (am a0 51 2).1,i32.wrap (am a0 53 4).1,()),0,()),()) else none else none else none
theorem JC {b:LI}(hb:∀c∈b,0≤c∧c≤255){p:Nat}(h:p+2≤b.length):i16.wrap (ar b p 2)=ar b p 2:=by
 unfold ar
 rw[← s5 (dz hb p 2) (cI h)]
 exact bK (bL _ _)
theorem yj {b:LI}(hb:∀c∈b,0≤c∧c≤255){p:Nat}(h:p+4≤b.length):i32.wrap (ar b p 4)=ar b p 4:=by
 unfold ar
 rw[← m8 (dz hb p 4) (cI h)]
 exact bK (bL _ _)
theorem JD {b:LI}(hb:∀c∈b,0≤c∧c≤255)(hl:61≤b.length):
  Fe b=some (.ret ((if bh (ar b 0 8)=true then (bq,(80,())) else if b.getD 21 0≠0∨1<b.getD 22 0 then (bq,(83,())) else if aW (ar b 43 8) (ar b 51 2) (ar b 53 4)=true then (bq,(84,())) else if ar b 57 4<1 then (bq,(85,())) else if 256<ar b 57 4 then (bq,(9,())) else if ar b 23 4≠ar b 57 4 - 1 then (bq,(72,())) else (iN b,(0,()))),())):=by
 have hz:∀p n:Nat,p+n≤61→(am b (p:Int) (n:Int)).1=ar b p n:=fun p n h=>pT (by omega)
 have z0:(am b 0 8).1=ar b 0 8:=hz 0 8 (by decide)
 have z12:(am b 12 4).1=ar b 12 4:=hz 12 4 (by decide)
 have z23:(am b 23 4).1=ar b 23 4:=hz 23 4 (by decide)
 have z27:(am b 27 8).1=ar b 27 8:=hz 27 8 (by decide)
 have z35:(am b 35 8).1=ar b 35 8:=hz 35 8 (by decide)
 have z43:(am b 43 8).1=ar b 43 8:=hz 43 8 (by decide)
 have z51:(am b 51 2).1=ar b 51 2:=hz 51 2 (by decide)
 have z53:(am b 53 4).1=ar b 53 4:=hz 53 4 (by decide)
 have z57:(am b 57 4).1=ar b 57 4:=hz 57 4 (by decide)
 have w51:=JC hb (p:=51) (by omega)
 have w53:=yj hb (p:=53) (by omega)
 have w12:=yj hb (p:=12) (by omega)
 unfold Fe
 rw[z0,z12,z23,z27,z35,z43,z51,z53,z57,w51,w53,w12]
 have hI:iN b=(ar b 0 8,(b.length:Int),ar b 12 4,decide (b.getD 22 0=1),ar b 57 4,ar b 27 8,ar b 35 8,ar b 43 8,ar b 51 2,ar b 53 4,()):=rfl
 have hB:bh (ar b 0 8)=(decide (ar b 0 8<0) || decide (4611686018427387648<ar b 0 8)):=rfl
 have hxy:(b.getD (Int.toNat 22) 0 == 1)=decide (b.getD 22 0=1):=by
  show (b.getD 22 0 == 1)=_
  by_cases h:b.getD 22 0=1
  ·rw[h];rfl
  ·rw[decide_eq_false h];exact beq_eq_false_iff_ne.2 h
 rw[hI,hB,hxy,show Int.toNat 21=21 from rfl,show Int.toNat 22=22 from rfl]
 generalize b.getD 21 0=x at *
 generalize b.getD 22 0=y at *
 generalize ar b 0 8=base at *
 generalize ar b 57 4=cnt at *
 generalize ar b 23 4=mst at *
 refine bT (by simp only[zA,zB];omega) ?_
 by_cases c0:base<0
 ·refine bT (decide_eq_true c0) ?_
  rw[if_pos (by rw[decide_eq_true c0];rfl)]
  rfl
 refine bF (decide_eq_false c0) ?_
 by_cases c1:4611686018427387648<base
 ·refine bT (decide_eq_true c1) ?_
  rw[if_pos (by rw[decide_eq_true c1,Bool.or_true])]
  rfl
 refine bF (decide_eq_false c1) ?_
 rw[if_neg (by rw[decide_eq_false c0,decide_eq_false c1];decide)]
 refine bT (by simp only[zA,zB];omega) ?_
 by_cases c2:x=0
 rotate_left
 ·refine bT (by simpa using c2) ?_
  rw[if_pos (.inl c2)]
  rfl
 refine bF (by simpa using c2) ?_
 refine bT (by simp only[zA,zB];omega) ?_
 by_cases c3:1<y
 ·refine bT (decide_eq_true c3) ?_
  rw[if_pos (.inr c3)]
  rfl
 refine bF (decide_eq_false c3) ?_
 rw[if_neg (by rintro (h | h);exact h c2;exact c3 h)]
 cases c3:aW (ar b 43 8) (ar b 51 2) (ar b 53 4) with
 |true=>exact (aa rfl _ _)
 |false=>
 refine (af rfl _ _).trans ?_
 rw[if_neg (show ¬ false=true by decide)]
 by_cases c4:cnt<1
 ·refine bT (decide_eq_true c4) ?_
  rw[if_pos c4]
  rfl
 refine bF (decide_eq_false c4) ?_
 rw[if_neg c4]
 by_cases c5:256<cnt
 ·refine bT (decide_eq_true c5) ?_
  rw[if_pos c5]
  rfl
 refine bF (decide_eq_false c5) ?_
 rw[if_neg c5,ae (n:=cnt - 1) (by omega) (by omega)]
 by_cases c6:mst=cnt - 1
 ·refine bF (by simpa using c6) ?_
  rw[if_neg (az c6)]
 ·refine bT (by simpa using c6) ?_
  rw[if_pos c6]
  rfl
abbrev jm:Io:=⟨[dL,dB],[],[],[Kr,dI],none⟩
def DU (d:jm.In):Tr jm.Res:=.ret (.ret (((ak d.1.1 d.1.2.1).1,(ak d.1.1 d.1.2.1).2,()),()))
abbrev F5:List (Nat×Hc):=[(71,ah jn yQ),(103,ah lX Fm),(82,ah gJ yR),(22,ah jD v9),(85,ah fg oM),(86,ah gp so)]
def N5:Hd:=bG F5
def G8:Lp:=bM []
def wW (a0:LI)(a1:Bool):Option jm.Res:=bif decide ((↑a0.length:Int)<61) then oR (((0,0,0,false,0,0,0,0,0,0,()),1,()),()) else bif (aj a0 0).2 != 0 then oR (((0,0,0,false,0,0,0,0,0,0,()),(aj a0 0).2,()),()) else bif decide ((aj a0 0).1<(↑a0.length:Int)) then oR (((0,0,0,false,0,0,0,0,0,0,()),2,()),()) else bif decide (0≤16)&&decide (16<(↑a0.length:Int)) then bif a0.getD (Int.toNat 16) 0 != 2 then oR (((0,0,0,false,0,0,0,0,0,0,()),81,()),()) else bif a1 then bif decide (0≤17)&&(decide (17≤21)&&decide (21≤(↑a0.length:Int))) then bif decide (0≤21)&&(decide (21≤(↑a0.length:Int))&&decide ((↑a0.length:Int)≤(↑a0.length:Int))) then bif !decide (List.drop (Int.toNat 17) (List.take (Int.toNat 21) a0)=aU (i64.wrap (cG 0 (List.drop (Int.toNat 21) (List.take (↑a0.length:Int).toNat a0)))) (Int.toNat 4)) then oR (((0,0,0,false,0,0,0,0,0,0,()),82,()),()) else bif decide (0≤22)&&decide (22<(↑a0.length:Int)) then bif decide ((am a0 0 8).1<0) then oR (((0,0,0,false,0,0,0,0,0,0,()),80,()),()) else bif decide (4611686018427387648<(am a0 0 8).1) then oR (((0,0,0,false,0,0,0,0,0,0,()),80,()),()) else bif decide (0≤21)&&decide (21<(↑a0.length:Int)) then bif a0.getD (Int.toNat 21) 0 != 0 then oR (((0,0,0,false,0,0,0,0,0,0,()),83,()),()) else bif decide (0≤22)&&decide (22<(↑a0.length:Int)) then bif decide (1<a0.getD (Int.toNat 22) 0) then oR (((0,0,0,false,0,0,0,0,0,0,()),83,()),()) else bif !!aW (am a0 43 8).1 (i16.wrap (am a0 51 2).1) (i32.wrap (am a0 53 4).1) then oR (((0,0,0,false,0,0,0,0,0,0,()),84,()),()) else bif decide ((am a0 57 4).1<1) then oR (((0,0,0,false,0,0,0,0,0,0,()),85,()),()) else bif decide (256<(am a0 57 4).1) then oR (((0,0,0,false,0,0,0,0,0,0,()),9,()),()) else bif (am a0 23 4).1 != i64.wrap ((am a0 57 4).1 - 1) then oR (((0,0,0,false,0,0,0,0,0,0,()),72,()),()) else oR ((((am a0 0 8).1,(↑a0.length:Int),i32.wrap (am a0 12 4).1,a0.getD (Int.toNat 22) 0 == 1,(am a0 57 4).1,(am a0 27 8).1,(am a0 35 8).1,(am a0 43 8).1,i16.wrap (am a0 51 2).1,i32.wrap (am a0 53 4).1,()),0,()),()) else none else none else none else none else none else bif decide (0≤22)&&decide (22<(↑a0.length:Int)) then bif decide ((am a0 0 8).1<0) then oR (((0,0,0,false,0,0,0,0,0,0,()),80,()),()) else bif decide (4611686018427387648<(am a0 0 8).1) then oR (((0,0,0,false,0,0,0,0,0,0,()),80,()),()) else bif decide (0≤21)&&decide (21<(↑a0.length:Int)) then bif a0.getD (Int.toNat 21) 0 != 0 then oR (((0,0,0,false,0,0,0,0,0,0,()),83,()),()) else bif decide (0≤22)&&decide (22<(↑a0.length:Int)) then bif decide (1<a0.getD (Int.toNat 22) 0) then oR (((0,0,0,false,0,0,0,0,0,0,()),83,()),()) else bif !!aW (am a0 43 8).1 (i16.wrap (am a0 51 2).1) (i32.wrap (am a0 53 4).1) then oR (((0,0,0,false,0,0,0,0,0,0,()),84,()),()) else bif decide ((am a0 57 4).1<1) then oR (((0,0,0,false,0,0,0,0,0,0,()),85,()),()) else bif decide (256<(am a0 57 4).1) then oR (((0,0,0,false,0,0,0,0,0,0,()),9,()),()) else bif (am a0 23 4).1 != i64.wrap ((am a0 57 4).1 - 1) then oR (((0,0,0,false,0,0,0,0,0,0,()),72,()),()) else oR ((((am a0 0 8).1,(↑a0.length:Int),i32.wrap (am a0 12 4).1,a0.getD (Int.toNat 22) 0 == 1,(am a0 57 4).1,(am a0 27 8).1,(am a0 35 8).1,(am a0 43 8).1,i16.wrap (am a0 51 2).1,i32.wrap (am a0 53 4).1,()),0,()),()) else none else none else none else none
theorem MJ (a0:LI)(a1:Bool):Io.run tt N5 dr G8 jm Tryz.f78 ((a0,a1,()),())=wW a0 a1:=by kernel_rfl
theorem OM:HcOk prog 78 (ah jm DU):=by
 refine bQ (cs:=F5) (.cons Hv (.cons L0 (.cons Hw (.cons An (.cons xU (.cons CM .nil)))))) (lp:=G8) (fn:=Tryz.f78) jm (.done (by kernel_rfl)) DU ?_
 rintro ⟨⟨(b:LI),(sm:Bool),⟨⟩⟩,⟨⟩⟩ out hw ho
 cases ho
 have hb:∀c∈b,0≤c∧c≤255:=dA hw.1.1
 refine (MJ b sm).trans ?_
 show _=oR (((ak b sm).1,(ak b sm).2,()),())
 have eE:bd b sm=if (b.length:Int)<61 then 1 else if (aj b 0).2≠0 then (aj b 0).2 else if (aj b 0).1<(b.length:Int) then 2 else if b.getD 16 0≠2 then 81 else if sm=true∧eN b=false then 82
   else if bh (ar b 0 8)=true then 80 else if b.getD 21 0≠0∨1<b.getD 22 0 then 83 else if aW (ar b 43 8) (ar b 51 2) (ar b 53 4)=true then 84 else if ar b 57 4<1 then 85 else if 256<ar b 57 4 then 9 else if ar b 23 4≠ar b 57 4 - 1 then 72 else 0:=rfl
 have fin:∀e:Int,e≠0→bd b sm=e→some (Out.ret ((bq,(e,())),()):jm.Res)=oR (((ak b sm).1,(ak b sm).2,()),()):=by
  intro e he h
  have:ak b sm=(bq,e):=by unfold ak;rw[h,if_pos he]
  rw[this]
 unfold wW
 by_cases h1:(b.length:Int)<61
 ·refine bT (decide_eq_true h1) ?_
  exact fin 1 (by decide) (by rw[eE,if_pos h1])
 refine bF (decide_eq_false h1) ?_
 rw[if_neg h1] at eE
 by_cases h2:(aj b 0).2=0
 rotate_left
 ·refine bT (by simpa using h2) ?_
  exact fin _ h2 (by rw[eE,if_pos h2])
 refine bF (by simpa using h2) ?_
 rw[if_neg (az h2)] at eE
 by_cases h3:(aj b 0).1<(b.length:Int)
 ·refine bT (decide_eq_true h3) ?_
  exact fin 2 (by decide) (by rw[eE,if_pos h3])
 refine bF (decide_eq_false h3) ?_
 rw[if_neg h3] at eE
 refine bT (by simp only[zA,zB];omega) ?_
 rw[show Int.toNat 16=16 from rfl]
 by_cases h4:b.getD 16 0=2
 rotate_left
 ·refine bT (by simpa using h4) ?_
  exact fin 81 (by decide) (by rw[eE,if_pos h4])
 refine bF (by simpa using h4) ?_
 rw[if_neg (az h4)] at eE
 have hT:=JD hb (by omega)
 have fin2:¬(sm=true∧eN b=false)→Fe b=oR (((ak b sm).1,(ak b sm).2,()),()):=by
  intro hn
  rw[if_neg hn] at eE
  rw[hT]
  have hs:ak b sm=if bd b sm≠0 then (bq,bd b sm) else (iN b,0):=rfl
  rw[hs,eE]
  by_cases d1:bh (ar b 0 8)=true
  ·rw[if_pos d1,if_pos d1,if_pos (by decide)]
  rw[if_neg d1,if_neg d1]
  by_cases d2:b.getD 21 0≠0∨1<b.getD 22 0
  ·rw[if_pos d2,if_pos d2,if_pos (by decide)]
  rw[if_neg d2,if_neg d2]
  by_cases d3:aW (ar b 43 8) (ar b 51 2) (ar b 53 4)=true
  ·rw[if_pos d3,if_pos d3,if_pos (by decide)]
  rw[if_neg d3,if_neg d3]
  by_cases d4:ar b 57 4<1
  ·rw[if_pos d4,if_pos d4,if_pos (by decide)]
  rw[if_neg d4,if_neg d4]
  by_cases d5:256<ar b 57 4
  ·rw[if_pos d5,if_pos d5,if_pos (by decide)]
  rw[if_neg d5,if_neg d5]
  by_cases d6:ar b 23 4≠ar b 57 4 - 1
  ·rw[if_pos d6,if_pos d6,if_pos (by decide)]
  rw[if_neg d6,if_neg d6,if_neg (by decide)]
 cases sm with
 |false=>
  refine (af rfl _ _).trans ?_
  exact fin2 (fun h=>by cases h.1)
 |true=>
  refine (aa rfl _ _).trans ?_
  rw[zG,List.take_length,show Int.toNat 21=21 from rfl,show Int.toNat 17=17 from rfl]
  refine bT (by simp only[zA,zB];omega) ?_
  refine bT (by simp only[zA,zB];omega) ?_
  have hc:=Dc 0 (b:=b.drop 21) (by decide) (fun x h=>hb x (List.mem_of_mem_drop h))
  have e17:List.drop 17 (List.take 21 b)=(b.drop 17).take 4:=by rw[List.drop_take]
  rw[ae (by omega) (by omega),e17]
  have hS:eN b=if (b.drop 17).take 4=aU (cG 0 (b.drop 21)) 4 then true else false:=rfl
  by_cases h5:(b.drop 17).take 4=aU (cG 0 (b.drop 21)) 4
  ·rw[if_pos h5] at hS
   refine bF (by rw[show Int.toNat 4=4 from rfl,decide_eq_true h5];rfl) ?_
   exact fin2 (by rw[hS];exact fun h=>by cases h.2)
  ·rw[if_neg h5] at hS
   refine bT (by rw[show Int.toNat 4=4 from rfl,decide_eq_false h5];rfl) ?_
   exact fin 82 (by decide) (by rw[eE,if_pos ⟨rfl,hS⟩])
theorem Gy {n:Int}(h : -9223372036854775808≤n)(h':n≤9223372036854775807):bH .i64 n:=by simp[bH,IntKind.min,IntKind.max,IntKind.signed,IntKind.bits];omega
theorem M1 (m:Nat)(t:Int)(b:LI)(p:Int):0≤(ab m t b p).1∧(ab m t b p).1<18446744073709551616:=by
 unfold ab
 split
 ·exact ⟨by decide,by decide⟩
 split
 ·simp only;omega
 ·simp only;omega
theorem M7 (b:LI):bH .i64 (aQ b).1.1∧bH .i32 (aQ b).1.2.1:=by
 have h0:bH .i64 aI.1∧bH .i32 aI.2.1:=⟨Gy (n:=0) (by omega) (by omega),(⟨by decide,by decide⟩:bH .i32 0)⟩
 have hz:=M1 10 1 b 1
 have h1:bH .i64 (al (ab 10 1 b 1).1):=by
  unfold al
  split
  ·exact Gy (by omega) (by omega)
  ·exact Gy (by omega) (by omega)
 have h2:bH .i32 (ag b (ab 10 1 b 1).2.1).1:=bL _ _
 unfold aQ
 repeat' split
 all_goals first | exact h0 | exact ⟨h1,h2⟩
theorem Di (b:LI)(p:Int):bH .i64 (an b p).1.1∧bH .i32 (an b p).1.2.1:=by
 have h0:bH .i64 aI.1∧bH .i32 aI.2.1:=⟨Gy (n:=0) (by omega) (by omega),(⟨by decide,by decide⟩:bH .i32 0)⟩
 unfold an
 repeat' split
 all_goals first | exact h0 | exact M7 _
abbrev kI:Io:=⟨[dL,Kr],[],[],[Kt,dI],none⟩
def DV (d:kI.In):Tr kI.Res:=.ite (decide (d.1.2.1.2.2.2.2.1≤(4294960000:Int))) (.ret (.ret (((cO d.1.1 d.1.2.1.2.2.2.2.2.1 d.1.2.1.2.2.2.2.2.2.1 d.1.2.1.2.2.2.2.1.toNat).1,(cO d.1.1 d.1.2.1.2.2.2.2.2.1 d.1.2.1.2.2.2.2.2.2.1 d.1.2.1.2.2.2.2.1.toNat).2,()),()))) .no
abbrev F8:List (Nat×Hc):=[(115,ah ky DM),(116,ah gf yU),(72,ah fq oU)]
def Gx:Hd:=bG F8
abbrev dy:Lo:=⟨⟨(.one (.hol (.sl 5 (Ty.int u8)))::bk (.one (.ptr 3 0)::bk (.one (.onl 91 aR 13)::.one hI::.one hI::ai (ai (ai (ai (ai (dm (bk []))))))))),[none,none,none,some [hI,hI,hJ,hL,hI,hI,hI,hI,hK,hJ]]⟩,[(.ret,⟨(bz (.one (.onl 91 aR 9)::.one hI::.any::ai (ai (ai (ai (ai (dm (bz [])))))))),[]⟩),(.exit 0,⟨(.one (.hol (.sl 5 (Ty.int u8)))::bk (.one (.ptr 3 0)::bk (.one (.onl 91 aR 13)::.one hI::.any::ai (ai (ai (ai (ai (dm (bk []))))))))),[none,none,none,some [hI,hI,hJ,hL,hI,hI,hI,hI,hK,hJ]]⟩)]⟩
def vM (blk:LI)(z1 z2 z3:Int)(z4:Bool)(z5 z6 z7 z8 z9 z10:Int)(x:List bm×Int×Int):Tr (ap dy.xs):=
 .ite (decide (x.2.2≠0)) (.ret (.ret ((),(([],(x.2.2,())),())))) (.ret (.pan (.ret ((),((blk,(x.1,(x.2.1,()))),((z1,(z2,(z3,(z4,(z5,(z6,(z7,(z8,(z9,(z10,())))))))))),()))))))
def lI (d:dy.st.den):Tr (ap dy.xs):=
 .ite (decide (d.1.2.2.2.1=0)&&(decide (d.1.2.1.length=0)&&decide (d.2.1.2.2.2.2.1≤(4294960000:Int))))
  (vM d.1.1 d.2.1.1 d.2.1.2.1 d.2.1.2.2.1 d.2.1.2.2.2.1 d.2.1.2.2.2.2.1 d.2.1.2.2.2.2.2.1 d.2.1.2.2.2.2.2.2.1 d.2.1.2.2.2.2.2.2.2.1 d.2.1.2.2.2.2.2.2.2.2.1 d.2.1.2.2.2.2.2.2.2.2.2.1 (aE d.1.1 d.2.1.2.2.2.2.2.1 d.2.1.2.2.2.2.1.toNat 0 d.1.2.2.1 [])) .no
def sX:Lp:=bM [(5,aD dy lI)]
def mC {R:Type}(h11:LI)(h12:List aR.den)(h13 h14 h15 h16 h17:Int)(h18:Bool)(h19 h20 h21 h22 h23 h24:Int)(next:LI→List aR.den→Int→Int→Int→Int→Int→Bool→Int→Int→Int→Int→Int→Int→Option R)(out:ap dy.xs→Option R):Option R:=bif decide (h14<h19) then bif (an h11 h13).2.2 != 0 then out (.ret ((),(([],((an h11 h13).2.2,())),()))) else bif i64.wrap (an h11 h13).1.2.1 != h14 then out (.ret ((),(([],(72,())),()))) else bif (an h11 h13).1.1 == -9223372036854775808 then bif !decide (0≤h20) then out (.ret ((),(([],(86,())),()))) else bif h14 == 0 then bif (an h11 h13).1.1 != 0 then out (.ret ((),(([],(86,())),()))) else bif decide (h12.length+1≤4294967296) then next (h11) (h12++[(i64.wrap (h20+(an h11 h13).1.1),(an h11 h13).1.2.2)]) ((an h11 h13).2.1) (i64.wrap (h14+1)) (h15) (h16) (h17) (h18) (h19) (h20) (h21) (h22) (h23) (h24) else none else bif decide (h12.length+1≤4294967296) then next (h11) (h12++[(i64.wrap (h20+(an h11 h13).1.1),(an h11 h13).1.2.2)]) ((an h11 h13).2.1) (i64.wrap (h14+1)) (h15) (h16) (h17) (h18) (h19) (h20) (h21) (h22) (h23) (h24) else none else bif !(br 0 (an h11 h13).1.1).2 then out (.ret ((),(([],(86,())),()))) else bif !(br h20 (br 0 (an h11 h13).1.1).1).2 then out (.ret ((),(([],(86,())),()))) else bif h14 == 0 then bif (an h11 h13).1.1 != 0 then out (.ret ((),(([],(86,())),()))) else bif decide (h12.length+1≤4294967296) then next (h11) (h12++[((br h20 (br 0 (an h11 h13).1.1).1).1,(an h11 h13).1.2.2)]) ((an h11 h13).2.1) (i64.wrap (h14+1)) (h15) (h16) (h17) (h18) (h19) (h20) (h21) (h22) (h23) (h24) else none else bif decide (h12.length+1≤4294967296) then next (h11) (h12++[((br h20 (br 0 (an h11 h13).1.1).1).1,(an h11 h13).1.2.2)]) ((an h11 h13).2.1) (i64.wrap (h14+1)) (h15) (h16) (h17) (h18) (h19) (h20) (h21) (h22) (h23) (h24) else none else out (.pan (.ret ((),((h11,(h12,(h13,()))),((h15,(h16,(h17,(h18,(h19,(h20,(h21,(h22,(h23,(h24,())))))))))),())))))
def mP (n:Nat)(h11:LI)(h12:List aR.den)(h13 h14 h15 h16 h17:Int)(h18:Bool)(h19 h20 h21 h22 h23 h24:Int):Option (ap dy.xs):=fJ tt Gx dr sX 0 Tryz.f80 (bP Tryz.f80 0) n (dy.st.mk' ((h11,(h12,(h13,(h14,())))),((h15,(h16,(h17,(h18,(h19,(h20,(h21,(h22,(h23,(h24,())))))))))),()))) (bt dy.xs)
theorem xY (n:Nat)(h11:LI)(h12:List aR.den)(h13 h14 h15 h16 h17:Int)(h18:Bool)(h19 h20 h21 h22 h23 h24:Int):mP (n+1) h11 h12 h13 h14 h15 h16 h17 h18 h19 h20 h21 h22 h23 h24=mC h11 h12 h13 h14 h15 h16 h17 h18 h19 h20 h21 h22 h23 h24 (mP n) some:=by kernel_rfl
theorem QI {d f:Int}(hd:bH .i64 d)(hf:bH .i64 f)(hne:d≠-9223372036854775808):br 0 d=(-d,true)∧br f (-d)=(if aP (f+d)=true then (f+d,true) else (0,false)):=by
 have h1:=jC hd
 have h2:=jC hf
 constructor
 ·unfold br
  rw[if_pos (fm.2 (by omega)),Int.zero_sub]
 ·unfold br
  rw[Int.sub_neg]
theorem Cv (blk:LI)(z1 z2 z3:Int)(z4:Bool)(cnt f z7 z8 z9 z10:Int)(hf:bH .i64 f):∀(n k i:Nat) (p:Int) (out:List bm),n<k→out.length=i→i+n≤4294960000→(cnt=((i+n:Nat):Int)∨cnt≤i∧n=0)→
  mP k blk out p i z1 z2 z3 z4 cnt f z7 z8 z9 z10=(vM blk z1 z2 z3 z4 cnt f z7 z8 z9 z10 (aE blk f n i p out)).val:=by
 intro n
 induction n with
 |zero=>
  intro k i p out h1 h2 h3 h4
  obtain ⟨k,rfl⟩:∃j,k=j+1:=⟨k - 1,by omega⟩
  rw[xY]
  unfold mC
  refine bF (decide_eq_false (by omega)) ?_
  rfl
 |succ n ih=>
  intro k i p out h1 h2 h3 h4
  have h4:cnt=((i+(n+1):Nat):Int):=by
   rcases h4 with h | h
   ·exact h
   ·omega
  obtain ⟨k,rfl⟩:∃j,k=j+1:=⟨k - 1,by omega⟩
  rw[xY]
  unfold mC
  refine bT (decide_eq_true (by omega)) ?_
  have e:aE blk f (n+1) i p out=if (an blk p).2.2≠0 then ([],0,(an blk p).2.2) else if (an blk p).1.2.1≠(i:Int) then ([],0,72) else if i=0∧(an blk p).1.1≠0∨aP (f+(an blk p).1.1)=false then ([],0,86)
   else aE blk f n (i+1) (an blk p).2.1 (out++[(f+(an blk p).1.1,(an blk p).1.2.2.1,(an blk p).1.2.2.2.1,(an blk p).1.2.2.2.2.1,())]):=rfl
  rw[e]
  obtain ⟨b1,b2⟩:=Di blk p
  generalize an blk p=r at *
  obtain ⟨⟨d,o,kv⟩,q,er⟩:=r
  simp only at b1 b2 ⊢
  have b1':=jC b1
  have b2':=Ee b2
  have b3:=jC hf
  by_cases c1:er=0
  rotate_left
  ·refine bT (by simpa using c1) ?_
   rw[if_pos c1]
   unfold vM
   rw[Tr.val_ite,if_pos (by simpa using c1),Tr.val_ret]
  refine bF (by simpa using c1) ?_
  rw[if_neg (az c1),ae (n:=o) (by omega) (by omega)]
  by_cases c2:o=(i:Int)
  rotate_left
  ·refine bT (by simpa using c2) ?_
   rw[if_pos c2]
   rfl
  refine bF (by simpa using c2) ?_
  rw[if_neg (az c2),ae (n:=(i:Int)+1) (by omega) (by omega)]
  have next:aP (f+d)=true→(bif decide (out.length+1≤4294967296) then mP k blk (out++[(f+d,kv)]) q ((i:Int)+1) z1 z2 z3 z4 cnt f z7 z8 z9 z10 else none)=(vM blk z1 z2 z3 z4 cnt f z7 z8 z9 z10 (aE blk f n (i+1) q (out++[(f+d,kv)]))).val:=by
   intro hfit
   refine bT (decide_eq_true (by omega)) ?_
   exact ih k (i+1) q _ (by omega) (by simp[h2]) (by omega) (.inl (by rw[h4];omega))
  have fin:∀e:Int,e≠0→oR ((),(([],(e,())),()))=(vM blk z1 z2 z3 z4 cnt f z7 z8 z9 z10 ([],0,e)).val:=by
   intro e he
   unfold vM
   rw[Tr.val_ite,if_pos (by simpa using he),Tr.val_ret]
  by_cases c3:d = -9223372036854775808
  ·refine bT (by simpa using c3) ?_
   by_cases c4:0≤f
   ·refine bF (by rw[decide_eq_true c4];rfl) ?_
    have hfit:aP (f+d)=true:=fm.2 (by omega)
    by_cases c5:i=0
    ·refine bT (by simp[c5]) ?_
     refine bT (by rw[c3];rfl) ?_
     rw[if_pos (.inl ⟨c5,by omega⟩)]
     exact fin 86 (by decide)
    ·refine bF (by simp[c5]) ?_
     rw[if_neg (by rintro (h | h);exact c5 h.1;rw[hfit] at h;cases h),ae (n:=f+d) (by omega) (by omega)]
     exact next hfit
   ·refine bT (by rw[decide_eq_false c4];rfl) ?_
    rw[if_pos (.inr (by
     cases h:aP (f+d) with
     |false=>rfl
     |true=>have:=fm.1 h;omega))]
    exact fin 86 (by decide)
  refine bF (by simpa using c3) ?_
  obtain ⟨s1,s2⟩:=QI b1 hf c3
  rw[s1]
  refine (af rfl _ _).trans ?_
  rw[s2]
  cases hfit:aP (f+d) with
  |false=>
   rw[if_neg (by decide)]
   refine (aa rfl _ _).trans ?_
   rw[if_pos (.inr rfl)]
   exact fin 86 (by decide)
  |true=>
   rw[if_pos rfl]
   refine (af rfl _ _).trans ?_
   by_cases c5:i=0
   ·refine bT (by simp[c5]) ?_
    by_cases c6:d=0
    ·refine bF (by simpa using c6) ?_
     rw[if_neg (by rintro (h | h);exact h.2 c6;cases h)]
     exact next hfit
    ·refine bT (by simpa using c6) ?_
     rw[if_pos (.inl ⟨c5,c6⟩)]
     exact fin 86 (by decide)
   ·refine bF (by simp[c5]) ?_
    rw[if_neg (by rintro (h | h);exact c5 h.1;cases h)]
    exact next hfit
def wZ (a0:LI)(a1 a2 a3:Int)(a4:Bool)(a5 a6 a7 a8 a9 a10:Int):Option kI.Res:=(lI ((a0,([],(0,(0,())))),((a1,(a2,(a3,(a4,(a5,(a6,(a7,(a8,(a9,(a10,())))))))))),()))).run fun y=>match y with | .ret ((),((x108,x109,()),()))=>(oR ((x108,x109,()),())) | .pan (.ret ((),((x110,x111,x112,()),(x113,x114,x115,x116,x117,x118,x119,x120,x121,x122,()),())))=>(bif decide (x112<(↑x110.length:Int)) then oR (([],2,()),()) else bif cj x111 != x119 then oR (([],86,()),()) else oR ((x111,0,()),()))
theorem MM (a0:LI)(a1 a2 a3:Int)(a4:Bool)(a5 a6 a7 a8 a9 a10:Int):Io.run tt Gx dr sX kI Tryz.f80 ((a0,(a1,a2,a3,a4,a5,a6,a7,a8,a9,a10,()),()),())=wZ a0 a1 a2 a3 a4 a5 a6 a7 a8 a9 a10:=by kernel_rfl
theorem xC:HcsOk prog F8:=.cons OC (.cons Hy (.cons uN .nil))
theorem ON:HcOk prog 80 (ah kI DV):=by
 refine bQ xC (lp:=sX) (fn:=Tryz.f80) kI (.step (h0:=aD dy lI) (by kernel_rfl) (f9 xC (lp:=sX) (fn:=Tryz.f80) (.done (by kernel_rfl)) dy lI ?_) (.done (by kernel_rfl))) DV ?_
 ·rintro ⟨⟨(blk:LI),(out:List bm),(p:Int),(i:Int),⟨⟩⟩,⟨⟨(z1:Int),(z2:Int),(z3:Int),(z4:Bool),(cnt:Int),(f:Int),(z7:Int),(z8:Int),(z9:Int),(z10:Int),⟨⟩⟩,⟨⟩⟩⟩ y hw hy
  obtain ⟨hg,hy⟩:=Tr.guard hy
  simp only[zA,zB] at hg
  obtain ⟨h1,h2,h3⟩:=hg
  have h1:i=0:=h1
  have h2:out.length=0:=h2
  have h3:cnt≤(4294960000:Int):=h3
  subst h1
  obtain rfl:=List.length_eq_zero_iff.1 h2
  have hf:bH .i64 f:=hw.2.1.2.2.2.2.2.1
  refine ⟨cnt.toNat+1,(Cv blk z1 z2 z3 z4 cnt f z7 z8 z9 z10 hf cnt.toNat (cnt.toNat+1) 0 p [] (by omega) rfl (by omega) (by omega)).trans ?_⟩
  exact hy
 ·rintro ⟨⟨(blk:LI),⟨(z1:Int),(z2:Int),(z3:Int),(z4:Bool),(cnt:Int),(f:Int),(z7:Int),(z8:Int),(z9:Int),(z10:Int),⟨⟩⟩,⟨⟩⟩,⟨⟩⟩ out hw ho
  obtain ⟨hg,ho⟩:=Tr.guard ho
  have hg:cnt≤(4294960000:Int):=of_decide_eq_true hg
  cases ho
  refine (MM blk z1 z2 z3 z4 cnt f z7 z8 z9 z10).trans ?_
  show _=oR (((cO blk f z7 cnt.toNat).1,(cO blk f z7 cnt.toNat).2,()),())
  unfold wZ lI
  refine bT (by simp only[zA,zB];exact ⟨trivial,rfl,hg⟩) ?_
  have eR:cO blk f z7 cnt.toNat=if (aE blk f cnt.toNat 0 0 []).2.2≠0 then ([],(aE blk f cnt.toNat 0 0 []).2.2)
    else if (aE blk f cnt.toNat 0 0 []).2.1<(blk.length:Int) then ([],2)
    else if cj (aE blk f cnt.toNat 0 0 []).1≠z7 then ([],86) else ((aE blk f cnt.toNat 0 0 []).1,0):=rfl
  rw[eR]
  unfold vM
  generalize aE blk f cnt.toNat 0 0 []=r
  obtain ⟨rs,q,e⟩:=r
  by_cases h3:e=0
  rotate_left
  ·refine bT (decide_eq_true h3) ?_
   rw[if_pos h3]
   rfl
  refine bF (decide_eq_false (az h3)) ?_
  rw[if_neg (az h3)]
  by_cases h4:q<(blk.length:Int)
  ·refine bT (decide_eq_true h4) ?_
   rw[if_pos h4]
  refine bF (decide_eq_false h4) ?_
  rw[if_neg h4]
  by_cases h5:cj rs=z7
  ·refine bF (by simpa using h5) ?_
   rw[if_neg (az h5)]
  ·refine bT (by simpa using h5) ?_
   rw[if_pos h5]
end
end Go.Proofs.YthpcdhgpplmneaaGreatDoor.Sym
namespace Go.Proofs.YthpcdhgpplmneaaGreatDoor.Sym
open Go
noncomputable section
theorem rO (b:LI):(aY b).1.length≤32768:=by
 unfold aY
 repeat' split
 all_goals first | (simp;done) | skip
 rw[dE]
 have h:=oB (al (ab 10 1 b 0).1)
 have:=ya ((b.drop (ab 10 1 b 0).2.1.toNat).length+1) (b.drop (ab 10 1 b 0).2.1.toNat) [] (ay (al (ab 10 1 b 0).1)) h.1
 simp only
 omega
abbrev jF:Io:=⟨[dL],[],[],[BO,dI],none⟩
def JS (d:jF.In):Tr jF.Res:=.ite (decide (d.1.1.length≤4294960000)) (.ret (.ret (((ao d.1.1).1,(ao d.1.1).2,()),()))) .no
abbrev Ko:List (Nat×Hc):=[(78,ah jm DU),(21,ah ii td),(79,ah ku DI),(80,ah kI DV)]
def P2:Hd:=bG Ko
def Lt:Lp:=bM []
def Bp (a0:LI):Option jF.Res:=bif (ak a0 true).2 != 0 then oR (((0,0,0,0,0,[],()),(ak a0 true).2,()),()) else bif decide (0≤61)&&(decide (61≤(↑a0.length:Int))&&decide ((↑a0.length:Int)≤(↑a0.length:Int))) then bif decide ((List.drop (Int.toNat 61) (List.take (↑a0.length:Int).toNat a0)).length≤4294967296) then bif (ak a0 true).1.2.2.2.1 then bif decide (32768=32768)&&decide ((List.drop (Int.toNat 61) (List.take (↑a0.length:Int).toNat a0)).length≤4294960000) then bif (aY (List.drop (Int.toNat 61) (List.take (↑a0.length:Int).toNat a0))).2 != 0 then oR (((0,0,0,0,0,[],()),(aY (List.drop (Int.toNat 61) (List.take (↑a0.length:Int).toNat a0))).2,()),()) else bif decide (32768<(↑(aY (List.drop (Int.toNat 61) (List.take (↑a0.length:Int).toNat a0))).1.length:Int)) then oR (((0,0,0,0,0,[],()),4,()),()) else bif decide ((ak a0 true).1.2.2.2.2.1≤4294960000) then bif (cO (aY (List.drop (Int.toNat 61) (List.take (↑a0.length:Int).toNat a0))).1 (ak a0 true).1.2.2.2.2.2.1 (ak a0 true).1.2.2.2.2.2.2.1 (Int.toNat (ak a0 true).1.2.2.2.2.1)).2 != 0 then oR (((0,0,0,0,0,[],()),(cO (aY (List.drop (Int.toNat 61) (List.take (↑a0.length:Int).toNat a0))).1 (ak a0 true).1.2.2.2.2.2.1 (ak a0 true).1.2.2.2.2.2.2.1 (Int.toNat (ak a0 true).1.2.2.2.2.1)).2,()),()) else oR ((((ak a0 true).1.1,(ak a0 true).1.2.2.1,(ak a0 true).1.2.2.2.2.2.2.2.1,(ak a0 true).1.2.2.2.2.2.2.2.2.1,(ak a0 true).1.2.2.2.2.2.2.2.2.2.1,(cO (aY (List.drop (Int.toNat 61) (List.take (↑a0.length:Int).toNat a0))).1 (ak a0 true).1.2.2.2.2.2.1 (ak a0 true).1.2.2.2.2.2.2.1 (Int.toNat (ak a0 true).1.2.2.2.2.1)).1,()),0,()),()) else none else none else bif decide (32768<(↑(List.drop (Int.toNat 61) (List.take (↑a0.length:Int).toNat a0)).length:Int)) then oR (((0,0,0,0,0,[],()),4,()),()) else bif decide ((ak a0 true).1.2.2.2.2.1≤4294960000) then bif (cO (List.drop (Int.toNat 61) (List.take (↑a0.length:Int).toNat a0)) (ak a0 true).1.2.2.2.2.2.1 (ak a0 true).1.2.2.2.2.2.2.1 (Int.toNat (ak a0 true).1.2.2.2.2.1)).2 != 0 then oR (((0,0,0,0,0,[],()),(cO (List.drop (Int.toNat 61) (List.take (↑a0.length:Int).toNat a0)) (ak a0 true).1.2.2.2.2.2.1 (ak a0 true).1.2.2.2.2.2.2.1 (Int.toNat (ak a0 true).1.2.2.2.2.1)).2,()),()) else oR ((((ak a0 true).1.1,(ak a0 true).1.2.2.1,(ak a0 true).1.2.2.2.2.2.2.2.1,(ak a0 true).1.2.2.2.2.2.2.2.2.1,(ak a0 true).1.2.2.2.2.2.2.2.2.2.1,(cO (List.drop (Int.toNat 61) (List.take (↑a0.length:Int).toNat a0)) (ak a0 true).1.2.2.2.2.2.1 (ak a0 true).1.2.2.2.2.2.2.1 (Int.toNat (ak a0 true).1.2.2.2.2.1)).1,()),0,()),()) else none else none else none
theorem Pc (a0:LI):Io.run tt P2 dr Lt jF Tryz.f59 ((a0,()),())=Bp a0:=by kernel_rfl
theorem Ql:HcOk prog 59 (ah jF JS):=by
 refine bQ (cs:=Ko) (.cons OM (.cons uK (.cons Oy (.cons ON .nil)))) (lp:=Lt) (fn:=Tryz.f59) jF (.done (by kernel_rfl)) JS ?_
 rintro ⟨⟨(b:LI),⟨⟩⟩,⟨⟩⟩ out hw ho
 obtain ⟨hg,ho⟩:=Tr.guard ho
 have hg2:b.length≤4294960000:=of_decide_eq_true hg
 clear hg
 cases ho
 refine (Pc b).trans ?_
 show _=oR (((ao b).1,(ao b).2,()),())
 have eE:eV b=if bd b true≠0 then ([],bd b true) else if (aO b (decide (b.getD 22 0=1))).2≠0 then ([],(aO b (decide (b.getD 22 0=1))).2) else cO (aO b (decide (b.getD 22 0=1))).1 (ar b 27 8) (ar b 35 8) (ar b 57 4).toNat:=rfl
 have fin:∀e:Int,e≠0→(eV b).2=e→some (Out.ret ((s6,(e,())),()):jF.Res)=oR (((ao b).1,(ao b).2,()),()):=by
  intro e he h
  have:ao b=(s6,e):=by unfold ao;rw[h,if_pos he]
  rw[this]
 have fin2:∀rs:List bm,eV b=(rs,0)→some (Out.ret (((ar b 0 8,ar b 12 4,ar b 43 8,ar b 51 2,ar b 53 4,rs,()),(0,())),()):jF.Res)=oR (((ao b).1,(ao b).2,()),()):=by
  intro rs h
  have:ao b=((ar b 0 8,ar b 12 4,ar b 43 8,ar b 51 2,ar b 53 4,rs,()),0):=by unfold ao;rw[h,if_neg (az rfl)]
  rw[this]
 unfold Bp
 by_cases h1:bd b true=0
 rotate_left
 ·have eh:ak b true=(bq,bd b true):=by unfold ak;rw[if_pos h1]
  rw[eh]
  refine bT (by simpa using h1) ?_
  exact fin _ h1 (by rw[eE,if_pos h1])
 have eh:ak b true=(iN b,0):=by unfold ak;rw[if_neg (az h1)]
 rw[if_neg (az h1)] at eE
 obtain ⟨k1,_,_,_,_,_,_,_,_,k2,k3,_⟩:=gP h1
 have hI:iN b=(ar b 0 8,(b.length:Int),ar b 12 4,decide (b.getD 22 0=1),ar b 57 4,ar b 27 8,ar b 35 8,ar b 43 8,ar b 51 2,ar b 53 4,()):=rfl
 rw[eh,hI]
 dsimp only
 have e61:List.drop (Int.toNat 61) (List.take (b.length:Int).toNat b)=b.drop 61:=by
  show List.drop 61 (List.take (b.length:Int).toNat b)=_
  rw[zG,List.take_length]
 have l61:(b.drop 61).length=b.length - 61:=List.length_drop
 rw[e61]
 refine (af rfl _ _).trans ?_
 refine bT (by simp only[zA,zB];omega) ?_
 refine bT (decide_eq_true (by omega)) ?_
 have rest:∀blk:LI,eV b=cO blk (ar b 27 8) (ar b 35 8) (ar b 57 4).toNat→(bif decide (ar b 57 4≤4294960000) then bif (cO blk (ar b 27 8) (ar b 35 8) (ar b 57 4).toNat).2 != 0 then oR (((0,0,0,0,0,[],()),(cO blk (ar b 27 8) (ar b 35 8) (ar b 57 4).toNat).2,()),()) else oR (((ar b 0 8,ar b 12 4,ar b 43 8,ar b 51 2,ar b 53 4,(cO blk (ar b 27 8) (ar b 35 8) (ar b 57 4).toNat).1,()),0,()),()) else none:Option jF.Res)=oR (((ao b).1,(ao b).2,()),()):=by
  intro blk hb
  refine bT (decide_eq_true (by omega)) ?_
  by_cases h4:(cO blk (ar b 27 8) (ar b 35 8) (ar b 57 4).toNat).2=0
  ·refine bF (by simpa using h4) ?_
   exact fin2 _ (by rw[hb,← h4])
  ·refine bT (by simpa using h4) ?_
   exact fin _ h4 (by rw[hb])
 by_cases h22:b.getD 22 0=1
 ·rw[decide_eq_true h22] at eE ⊢
  have hB:aO b true=aY (b.drop 61):=rfl
  rw[hB] at eE
  refine (aa rfl _ _).trans ?_
  have l62:(b.drop 61).length≤4294960000:=by omega
  refine bT (by rw[zA];exact ⟨rfl,decide_eq_true l62⟩) ?_
  by_cases h2:(aY (b.drop 61)).2=0
  rotate_left
  ·refine bT (by simpa using h2) ?_
   exact fin _ h2 (by rw[eE,if_pos h2])
  refine bF (by simpa using h2) ?_
  rw[if_neg (az h2)] at eE
  have:=rO (b.drop 61)
  have this:¬(32768:Int)<((aY (b.drop 61)).1.length:Int):=by omega
  refine bF (decide_eq_false this) ?_
  exact rest _ eE
 ·rw[decide_eq_false h22] at eE ⊢
  have hB:aO b false=if 32768<((b.drop 61).length:Int) then ([],4) else (b.drop 61,0):=rfl
  rw[hB] at eE
  refine (af rfl _ _).trans ?_
  by_cases h2:32768<((b.drop 61).length:Int)
  ·rw[if_pos h2] at eE
   refine bT (decide_eq_true h2) ?_
   exact fin 4 (by decide) (by rw[eE,if_pos (by decide)])
  ·rw[if_neg h2,if_neg (az rfl)] at eE
   refine bF (decide_eq_false h2) ?_
   exact rest _ eE
end
end Go.Proofs.YthpcdhgpplmneaaGreatDoor.Sym
