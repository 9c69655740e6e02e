/- Tokens: carried out as they are read. -/
import Derived.Test.YthpcdhgpplmneaaGreatDoorQ4

set_option linter.unusedVariables false
set_option linter.unusedSimpArgs false
namespace Go.Proofs.YthpcdhgpplmneaaGreatDoor.Sym
open Go
open Go.IntKind (i8 i16 i32 i64 u8 u16 u32 u64)
noncomputable section
abbrev ST:Ty:=.prod bs (.prod (.int .i64) (.prod (.int .i64) .unit))
abbrev BV:Sh:=.dat ST true false
abbrev Oh:Type:=LI×Int×Int×Unit
def eU:Oh:=([],0,0,())
def aR (b:LI):Oh×Int×Int:=
 if b.getD 0 0<128 then (if (b.length:Int)<b.getD 0 0+2 then (eU,0,1) else (((b.drop 1).take (b.getD 0 0+1).toNat,0,0,()),b.getD 0 0+2,0))
 else if (b.length:Int)<3 then (eU,0,1)
 else if b.getD 1 0*256+b.getD 2 0<1∨4096<b.getD 1 0*256+b.getD 2 0 then (eU,0,50)
 else (([],b.getD 1 0*256+b.getD 2 0,b.getD 0 0 - 124,()),3,0)
def kf (t:Oh):Bool:=if t.2.1≠0 then true else decide (t.2.2.1≠0)
def gE (t:Oh):Bool:=
 if kf t=true then decide (0<t.1.length) || (decide (t.2.1<1) || (decide (4096<t.2.1) || (decide (t.2.2.1<4) || decide (131<t.2.2.1))))
 else decide (t.1.length<1) || decide (128<t.1.length)
def fO (d:Nat):Nat→LI→LI
 |0,out=>out
 |n+1,out=>fO d n (out++[out.getD (out.length - d) 0])
def bd (out:LI)(t:Oh)(most:Int):LI×Int:=
 if gE t=true∨(out.length:Int)<t.2.1 then ([],50)
 else if most<(out.length:Int)+t.1.length+t.2.2.1 then ([],4)
 else (fO t.2.1.toNat t.2.2.1.toNat (out++t.1),0)
def bO:Nat→LI→LI→Int→LI×Int
 |0,_,out,_=>(out,0)
 |k+1,b,out,m=>
  if b=[] then (out,0)
  else if (aR b).2.2≠0 then ([],(aR b).2.2)
  else if (bd out (aR b).1 m).2≠0 then ([],(bd out (aR b).1 m).2)
  else bO k (b.drop (aR b).2.1.toNat) (bd out (aR b).1 m).1 m
def aD (m:Int):Int:=nx (dW m 0) 32768
def ar (b:LI)(most:Int):LI×Int:=if b=[] then ([],0) else bO (b.length+1) b [] (aD most)
theorem DE {b:LI}(hb:∀c∈b,0≤c∧c≤255)(h:(aR b).2.2=0)(hne:b≠[]):2≤(aR b).2.1∧(aR b).2.1≤b.length:=by
 have h0:0≤b.getD 0 0:=by
  cases b with
  |nil=>exact absurd rfl hne
  |cons x l=>exact (hb x (by simp)).1
 unfold aR at h ⊢
 split
 ·rename_i h1
  rw[if_pos h1] at h
  split
  ·rename_i h2;rw[if_pos h2] at h;cases h
  ·simp only;omega
 ·rename_i h1
  rw[if_neg h1] at h
  split
  ·rename_i h2;rw[if_pos h2] at h;cases h
  ·rename_i h2
   rw[if_neg h2] at h
   split
   ·rename_i h3;rw[if_pos h3] at h;cases h
   ·simp only;omega
theorem ua {b:LI}(h:Ty.wf bs b)(i:Nat):0≤b.getD i 0∧b.getD i 0≤255:=by
 rw[List.getD_eq_getElem?_getD]
 cases e:b[i]? with
 |none=>exact ⟨by decide,by decide⟩
 |some x=>exact dY h x (List.mem_of_getElem? e)
theorem RD {v c:Int}(h0:0≤v)(h1:v≤255)(h2:0≤c)(h3:c≤255):ki .i64 (fx .i64 v 8) c=v*256+c:=by
 have e1:fx .i64 v 8=v*256:=by
  show IntKind.wrap .i64 (v*2 ^ 8)=_
  rw[show v*2 ^ 8=v*256 by omega]
  exact af (by omega) (by omega)
 rw[e1]
 obtain ⟨v,rfl⟩:=aA h0
 obtain ⟨c,rfl⟩:=aA h2
 have e4:=Nat.two_pow_add_eq_or_of_lt (show c<2 ^ 8 by omega) v
 show IntKind.wrap .i64 ((BitVec.ofInt 64 ((v:Int)*256) ||| BitVec.ofInt 64 (c:Int)).toNat:Int)=_
 have e2:(BitVec.ofInt 64 (c:Int)).toNat=c:=by rw[BitVec.toNat_ofInt];omega
 have e3:(BitVec.ofInt 64 ((v:Int)*256)).toNat=2 ^ 8*v:=by rw[BitVec.toNat_ofInt];omega
 rw[BitVec.toNat_or,e2,e3,← e4]
 rw[af (by omega) (by omega)]
 omega
theorem LM {lit:LI}{d len:Int}(h:gE (lit,d,len,())=false):(0≤len∧len≤131∧lit.length≤128)∧(len=0∧d=0∧1≤lit.length∨lit.length=0∧1≤d∧d≤4096∧4≤len):=by
 have e:gE (lit,d,len,())=if kf (lit,d,len,())=true then decide (0<lit.length) || (decide (d<1) || (decide (4096<d) || (decide (len<4) || decide (131<len)))) else decide (lit.length<1) || decide (128<lit.length):=rfl
 have e2:kf (lit,d,len,())=if d≠0 then true else decide (len≠0):=rfl
 rw[e] at h
 split at h
 ·simp only[Bool.or_eq_false_iff,decide_eq_false_iff_not] at h
  omega
 ·rename_i h2
  rw[e2] at h2
  simp only[Bool.or_eq_false_iff,decide_eq_false_iff_not] at h
  split at h2
  ·exact absurd rfl h2
  ·rename_i h3
   simp only[zB] at h2
   omega
theorem vw (d:Nat):∀(n:Nat) (out:LI),(fO d n out).length=out.length+n
 |0,_=>rfl
 |n+1,out=>by rw[fO,vw d n];simp;omega
theorem yb (b:LI):(aR b).1.1.length≤b.length:=by
 unfold aR
 split
 ·split
  ·simp[eU]
  ·simp;omega
 ·split
  ·simp[eU]
  ·split
   ·simp[eU]
   ·simp
theorem oK (m:Int):0≤aD m∧aD m≤32768:=by
 unfold aD nx dW
 split <;> split <;> omega
theorem oL {out:LI}{t:Oh}{m:Int}(h:(bd out t m).2=0):((bd out t m).1.length:Int)≤m:=by
 obtain ⟨lit,d,len,⟨⟩⟩:=t
 unfold bd at h ⊢
 split
 ·rename_i h1;rw[if_pos h1] at h;cases h
 ·rename_i h1
  rw[if_neg h1] at h
  have hi:gE (lit,d,len,())=false:=by
   cases e:gE (lit,d,len,()) with
   |false=>rfl
   |true=>exact absurd (.inl e) h1
  obtain ⟨i1,i2⟩:=LM hi
  split
  ·rename_i h2;rw[if_pos h2] at h;cases h
  ·rename_i h2
   have h2:¬ m<(out.length:Int)+lit.length+len:=h2
   show ((fO d.toNat len.toNat (out++lit)).length:Int)≤m
   rw[vw,zH]
   omega
theorem iQ:∀(k:Nat) (b out:LI) (m:Int),(bO k b out m).2≠0→(bO k b out m).1=[]
 |0,_,_,_,h=>absurd rfl h
 |k+1,b,out,m,h=>by
  unfold bO at h ⊢
  split
  ·rename_i h1;rw[if_pos h1] at h;exact absurd rfl h
  ·rename_i h1
   rw[if_neg h1] at h
   split
   ·rfl
   ·rename_i h2
    rw[if_neg h2] at h
    split
    ·rfl
    ·rename_i h3
     rw[if_neg h3] at h
     exact iQ k _ _ _ h
theorem x4:∀(k:Nat) (b out:LI) (m:Int),(out.length:Int)≤m→((bO k b out m).1.length:Int)≤m
 |0,_,_,_,h=>h
 |k+1,b,out,m,h=>by
  have h0:((([]:LI),(0:Int)).1.length:Int)≤m:=by simp;omega
  unfold bO
  split
  ·exact h
  ·split
   ·simp;omega
   ·split
    ·simp;omega
    ·rename_i h3
     exact x4 k _ _ _ (oL (by simpa using h3))
theorem ft (b:LI)(m:Int):ar b m=bO (b.length+1) b [] (aD m):=by
 unfold ar
 split
 ·rename_i h
  subst h
  rfl
 ·rfl
def bf (b:LI):LI×Int:=
 if (ab 10 1 b 0).2.2≠0 then ([],(ab 10 1 b 0).2.2)
 else if ak (ab 10 1 b 0).1<0 then ([],5)
 else if 32768<ak (ab 10 1 b 0).1 then ([],4)
 else if (ar (b.drop (ab 10 1 b 0).2.1.toNat) (ak (ab 10 1 b 0).1)).2=4∨(ar (b.drop (ab 10 1 b 0).2.1.toNat) (ak (ab 10 1 b 0).1)).2=0∧((ar (b.drop (ab 10 1 b 0).2.1.toNat) (ak (ab 10 1 b 0).1)).1.length:Int)<ak (ab 10 1 b 0).1 then ([],60)
 else if (ar (b.drop (ab 10 1 b 0).2.1.toNat) (ak (ab 10 1 b 0).1)).2≠0 then ([],(ar (b.drop (ab 10 1 b 0).2.1.toNat) (ak (ab 10 1 b 0).1)).2)
 else ((ar (b.drop (ab 10 1 b 0).2.1.toNat) (ak (ab 10 1 b 0).1)).1,0)
abbrev kL:Io:=⟨[BV],[],[],[dB],none⟩
def D3 (d:kL.In):Tr kL.Res:=.ret (.ret ((kf d.1.1,()),()))
abbrev GA:List (Nat×Hc):=[]
def OT:Hd:=bA GA
def Hy:Lp:=bQ []
def wQ (a0:LI)(a1 a2:Int):Option kL.Res:=bif a1 != 0 then oR ((true,()),()) else oR ((a2 != 0,()),())
theorem Nm (a0:LI)(a1 a2:Int):Io.run tt OT dr Hy kL Tryz.f165 (((a0,a1,a2,()),()),())=wQ a0 a1 a2:=by kernel_rfl
theorem Pt:HcOk prog 165 (ah kL D3):=by
 refine bW (cs:=GA) HcsOk.nil (lp:=Hy) (fn:=Tryz.f165) kL (.done (by kernel_rfl)) D3 ?_
 rintro ⟨⟨⟨(a0:LI),(a1:Int),(a2:Int),⟨⟩⟩,⟨⟩⟩,⟨⟩⟩ out hw ho
 cases ho
 refine (Nm a0 a1 a2).trans ?_
 show _=oR ((kf (a0,a1,a2,()),()),())
 unfold wQ
 show _=oR (((if a1≠0 then true else decide (a2≠0)),()),())
 by_cases h1:a1=0
 ·refine bF (by simp[h1]) ?_
  rw[if_neg (by simp[h1])]
  by_cases h2:a2=0 <;> simp[h2]
 ·refine bT (by simp[h1]) ?_
  rw[if_pos h1]
abbrev jn:Io:=⟨[BV],[],[],[dB],none⟩
def yD (d:jn.In):Tr jn.Res:=.ret (.ret ((gE d.1.1,()),()))
abbrev GC:List (Nat×Hc):=[(165,ah kL D3)]
def OU:Hd:=bA GC
def Hz:Lp:=bQ []
def wS (a0:LI)(a1 a2:Int):Option jn.Res:=bif !kf (a0,a1,a2,()) then bif decide ((↑a0.length:Int)<1) then oR ((true,()),()) else oR ((decide (128<(↑a0.length:Int)),()),()) else bif decide (0<(↑a0.length:Int)) then oR ((true,()),()) else bif decide (a1<1) then oR ((true,()),()) else bif decide (4096<a1) then oR ((true,()),()) else bif decide (a2<4) then oR ((true,()),()) else oR ((decide (131<a2),()),())
theorem No (a0:LI)(a1 a2:Int):Io.run tt OU dr Hz jn Tryz.f164 (((a0,a1,a2,()),()),())=wS a0 a1 a2:=by kernel_rfl
theorem HX:HcOk prog 164 (ah jn yD):=by
 refine bW (cs:=GC) (.cons Pt .nil) (lp:=Hz) (fn:=Tryz.f164) jn (.done (by kernel_rfl)) yD ?_
 rintro ⟨⟨⟨(a0:LI),(a1:Int),(a2:Int),⟨⟩⟩,⟨⟩⟩,⟨⟩⟩ out hw ho
 cases ho
 refine (No a0 a1 a2).trans ?_
 show _=oR ((gE (a0,a1,a2,()),()),())
 unfold wS
 have e:gE (a0,a1,a2,())=if kf (a0,a1,a2,())=true then decide (0<a0.length) || (decide (a1<1) || (decide (4096<a1) || (decide (a2<4) || decide (131<a2)))) else decide (a0.length<1) || decide (128<a0.length):=rfl
 rw[e]
 cases kf (a0,a1,a2,()) with
 |false=>
  refine (aa rfl _ _).trans ?_
  rw[if_neg (by decide)]
  by_cases h:a0.length<1
  ·refine bT (by simp;omega) ?_
   simp[h]
  ·refine bF (decide_eq_false (show ¬((a0.length:Int)<1) by omega)) ?_
   have e2:decide (128<(a0.length:Int))=decide (128<a0.length):=by by_cases h2:128<a0.length <;> simp[h2] <;> omega
   simp only[h,decide_false,Bool.false_or,e2]
 |true=>
  refine (ae rfl _ _).trans ?_
  rw[if_pos rfl]
  by_cases h:0<a0.length
  ·refine bT (by simp;omega) ?_
   simp[h]
  ·refine bF (decide_eq_false (show ¬(0<(a0.length:Int)) by omega)) ?_
   by_cases h1:a1<1
   ·refine bT (by simpa using h1) ?_
    simp[h1]
   ·refine bF (by simpa using h1) ?_
    by_cases h2:4096<a1
    ·refine bT (by simpa using h2) ?_
     simp[h2]
    ·refine bF (by simpa using h2) ?_
     by_cases h3:a2<4
     ·refine bT (by simpa using h3) ?_
      simp[h3]
     ·refine bF (by simpa using h3) ?_
      simp only[h,h1,h2,h3,decide_false,Bool.false_or]
abbrev kN:Io:=⟨[dL],[],[],[BV,dI,dI],none⟩
def D5 (d:kN.In):Tr kN.Res:=.ite (decide (1≤d.1.1.length)) (.ret (.ret (((aR d.1.1).1,(aR d.1.1).2.1,(aR d.1.1).2.2,()),()))) .no
abbrev GD:List (Nat×Hc):=[(164,ah jn yD)]
def OV:Hd:=bA GD
def HA:Lp:=bQ []
def wT (a0:LI):Option kN.Res:=bif decide (0≤0)&&decide (0<(↑a0.length:Int)) then bif decide (i64.wrap (a0.getD (Int.toNat 0) 0)<128) then bif decide ((↑a0.length:Int)<i64.wrap (i64.wrap (a0.getD (Int.toNat 0) 0)+2)) then oR ((([],0,0,()),0,1,()),()) else bif decide (0≤1)&&(decide (1≤i64.wrap (i64.wrap (a0.getD (Int.toNat 0) 0)+2))&&decide (i64.wrap (i64.wrap (a0.getD (Int.toNat 0) 0)+2)≤(↑a0.length:Int))) then oR (((List.drop (Int.toNat 1) (List.take (i64.wrap (i64.wrap (a0.getD (Int.toNat 0) 0)+2)).toNat a0),0,0,()),i64.wrap (i64.wrap (a0.getD (Int.toNat 0) 0)+2),0,()),()) else none else bif decide ((↑a0.length:Int)<3) then oR ((([],0,0,()),0,1,()),()) else bif decide (0≤1)&&decide (1<(↑a0.length:Int)) then bif decide (0≤2)&&decide (2<(↑a0.length:Int)) then bif gE ([],ki i64 (fx i64 (i64.wrap (a0.getD (Int.toNat 1) 0)) 8) (i64.wrap (a0.getD (Int.toNat 2) 0)),i64.wrap (i64.wrap (i64.wrap (a0.getD (Int.toNat 0) 0) - 128)+4),()) then oR ((([],0,0,()),0,50,()),()) else oR ((([],ki i64 (fx i64 (i64.wrap (a0.getD (Int.toNat 1) 0)) 8) (i64.wrap (a0.getD (Int.toNat 2) 0)),i64.wrap (i64.wrap (i64.wrap (a0.getD (Int.toNat 0) 0) - 128)+4),()),3,0,()),()) else none else none else none
theorem Np (a0:LI):Io.run tt OV dr HA kN Tryz.f167 ((a0,()),())=wT a0:=by kernel_rfl
theorem Pv:HcOk prog 167 (ah kN D5):=by
 refine bW (cs:=GD) (.cons HX .nil) (lp:=HA) (fn:=Tryz.f167) kN (.done (by kernel_rfl)) D5 ?_
 rintro ⟨⟨(b:LI),⟨⟩⟩,⟨⟩⟩ out hw ho
 obtain ⟨hg,ho⟩:=Tr.guard ho
 have hg:1≤b.length:=of_decide_eq_true hg
 cases ho
 refine (Np b).trans ?_
 show _=oR (((aR b).1,(aR b).2.1,(aR b).2.2,()),())
 have hb:Ty.wf bs b:=hw.1.1
 have hbl:b.length≤maxLen:=hb.1
 rw[bg] at hbl
 have c0:=ua hb 0
 have c1:=ua hb 1
 have c2:=ua hb 2
 unfold wT
 simp only[show Int.toNat 0=0 from rfl,show Int.toNat 1=1 from rfl,show Int.toNat 2=2 from rfl]
 refine bT (by simp;omega) ?_
 have w0:i64.wrap (b.getD 0 0)=b.getD 0 0:=af (by omega) (by omega)
 have w1:i64.wrap (b.getD 1 0)=b.getD 1 0:=af (by omega) (by omega)
 have w2:i64.wrap (b.getD 2 0)=b.getD 2 0:=af (by omega) (by omega)
 rw[w0,w1,w2,RD c1.1 c1.2 c2.1 c2.2,af (n:=b.getD 0 0+2) (by omega) (by omega),af (n:=b.getD 0 0 - 128) (by omega) (by omega),af (n:=b.getD 0 0 - 128+4) (by omega) (by omega),show b.getD 0 0 - 128+4=b.getD 0 0 - 124 by omega]
 unfold aR
 generalize b.getD 0 0=c at *
 generalize b.getD 1 0=x at *
 generalize b.getD 2 0=y at *
 by_cases h1:c<128
 ·refine bT (by simpa using h1) ?_
  rw[if_pos h1]
  by_cases h2:(b.length:Int)<c+2
  ·refine bT (by simpa using h2) ?_
   rw[if_pos h2]
   rfl
  ·refine bF (by simpa using h2) ?_
   refine bT (by simp;omega) ?_
   rw[if_neg h2,List.drop_take,show (c+2).toNat - 1=(c+1).toNat by omega]
 ·refine bF (by simpa using h1) ?_
  rw[if_neg h1]
  by_cases h2:(b.length:Int)<3
  ·refine bT (by simpa using h2) ?_
   rw[if_pos h2]
   rfl
  ·refine bF (by simpa using h2) ?_
   refine bT (by simp;omega) ?_
   refine bT (by simp;omega) ?_
   rw[if_neg h2]
   have hi:gE ([],x*256+y,c - 124,())=decide (x*256+y<1∨4096<x*256+y):=by
    have hc:kf ([],x*256+y,c - 124,())=true:=by
     show (if x*256+y≠0 then true else decide (c - 124≠0))=true
     split
     ·rfl
     ·exact decide_eq_true (by omega)
    show (if kf ([],x*256+y,c - 124,())=true then decide (0<0) || (decide (x*256+y<1) || (decide (4096<x*256+y) || (decide (c - 124<4) || decide (131<c - 124)))) else _)=_
    rw[if_pos hc]
    have g1:decide (c - 124<4)=false:=decide_eq_false (by omega)
    have g2:decide (131<c - 124)=false:=decide_eq_false (by omega)
    rw[g1,g2]
    simp
   by_cases h3:x*256+y<1∨4096<x*256+y
   ·refine bT (by rw[hi];exact decide_eq_true h3) ?_
    rw[if_pos h3]
    rfl
   ·refine bF (by rw[hi];exact decide_eq_false h3) ?_
    rw[if_neg h3]
abbrev f9:Io:=⟨[dO,BV,dI],[],[],[dO,dI],none⟩
def tz (d:f9.In):Tr f9.Res:=.ite (decide (d.1.1.length≤4294960000)&&(decide (d.1.2.1.1.length≤4294960000)&&decide ((d.1.2.2.1:Int)≤(32768:Int)))) (.ret (.ret (((bd d.1.1 d.1.2.1 d.1.2.2.1).1,(bd d.1.1 d.1.2.1 d.1.2.2.1).2,()),()))) .no
abbrev xl:List (Nat×Hc):=[(164,ah jn yD)]
def xD:Hd:=bA xl
abbrev cL:Lo:=⟨⟨(.one (.onl 5 (Ty.int u8) 1)::.any::bh (.one (.ptr 4 0)::ai (cy (bz (.one hI::.one hI::cy (bz (bh []))))))),[none,none,none,none,some [.hol (.sl 5 (Ty.int u8)),hI,hI]]⟩,[(.exit 0,⟨(.one (.onl 5 (Ty.int u8) 1)::ai (ai (ai []))),[]⟩)]⟩
def ij (d:cL.st.den):Tr (ao cL.xs):=
 .ite (decide (d.1.2.2.1=0)&&(decide ((0:Int)≤d.1.2.1)&&((decide (d.1.2.1=0) || (decide ((1:Int)≤d.2.1.2.1)&&decide (d.2.1.2.1≤(d.1.1.length:Int))))&&decide ((d.1.1.length:Int)+d.1.2.1≤4294967296)))) (.ret (.ret ((),((fO d.2.1.2.1.toNat d.1.2.1.toNat d.1.1,()),())))) .no
def mW:Lp:=bQ [(8,aG cL ij)]
def gl {R:Type}(h5:LI)(h6 h7:Int)(h8:LI)(h9 h10:Int)(next:LI→Int→Int→LI→Int→Int→Option R)(out:ao cL.xs→Option R):Option R:=bif decide (h7<h6) then bif decide (0≤i64.wrap ((↑h5.length:Int) - h9))&&decide (i64.wrap ((↑h5.length:Int) - h9)<(↑h5.length:Int)) then bif decide (h5.length+1≤4294967296) then next (h5++[h5.getD (i64.wrap ((↑h5.length:Int) - h9)).toNat 0]) (h6) (i64.wrap (h7+1)) (h8) (h9) (h10) else none else none else out (.ret ((),((h5,()),())))
def jv (n:Nat)(h5:LI)(h6 h7:Int)(h8:LI)(h9 h10:Int):Option (ao cL.xs):=fV tt xD dr mW 0 Tryz.f168 (b9 Tryz.f168 0) n (cL.st.mk' ((h5,(h6,(h7,()))),((h8,(h9,(h10,()))),()))) (bH cL.xs)
theorem mv (n:Nat)(h5:LI)(h6 h7:Int)(h8:LI)(h9 h10:Int):jv (n+1) h5 h6 h7 h8 h9 h10=gl h5 h6 h7 h8 h9 h10 (jv n) some:=by kernel_rfl
theorem v8 (lit:LI)(len:Int){d:Nat}:∀(m k i:Nat) (out:LI),m<k→(m=0∨1≤d∧d≤out.length)→out.length+m≤4294967296→i+m≤4294967296→
  jv k out ((i+m:Nat):Int) i lit d len=some (.ret ((),((fO d m out,()),()))):=by
 intro m
 induction m with
 |zero=>
  intro k i out h1 h2 h3 h4
  obtain ⟨k,rfl⟩:∃j,k=j+1:=⟨k - 1,by omega⟩
  rw[mv]
  unfold gl
  refine bF (by simp) ?_
  rfl
 |succ m ih=>
  intro k i out h1 h2 h3 h4
  obtain ⟨k,rfl⟩:∃j,k=j+1:=⟨k - 1,by omega⟩
  rw[mv]
  unfold gl
  have h2:1≤d∧d≤out.length:=by rcases h2 with h | h;omega;exact h
  rw[af (n:=(out.length:Int) - (d:Int)) (by omega) (by omega),af (n:=(i:Int)+1) (by omega) (by omega),show ((out.length:Int) - (d:Int)).toNat=out.length - d by omega]
  refine bT (by simp;omega) ?_
  refine bT (by simp;omega) ?_
  refine bT (by simp;omega) ?_
  have:=ih k (i+1) (out++[out.getD (out.length - d) 0]) (by omega) (.inr ⟨h2.1,by simp;omega⟩) (by simp;omega) (by omega)
  rw[show ((i+1+m:Nat):Int)=((i+(m+1):Nat):Int) by omega] at this
  exact this
def ry (a0 a1:LI)(a2 a3 a4:Int):Option f9.Res:=bif gE (a1,a2,a3,()) then oR (([],50,()),()) else bif decide ((↑a0.length:Int)<a2) then oR (([],50,()),()) else bif decide (a4<i64.wrap (i64.wrap ((↑a0.length:Int)+(↑a1.length:Int))+a3)) then oR (([],4,()),()) else bif decide (a0.length+a1.length≤4294967296) then (ij ((a0++a1,(a3,(0,()))),((a1,(a2,(a3,()))),()))).run fun y=>match y with | .ret ((),((x18,()),()))=>(oR ((x18,0,()),())) else none
theorem Fd (a0 a1:LI)(a2 a3 a4:Int):Io.run tt xD dr mW f9 Tryz.f168 ((a0,(a1,a2,a3,()),a4,()),())=ry a0 a1 a2 a3 a4:=by kernel_rfl
theorem rJ:HcsOk prog xl:=.cons HX .nil
theorem I1:HcOk prog 168 (ah f9 tz):=by
 refine bW rJ (lp:=mW) (fn:=Tryz.f168) f9 (.step (h0:=aG cL ij) (by kernel_rfl) (gi rJ (lp:=mW) (fn:=Tryz.f168) (.done (by kernel_rfl)) cL ij ?_) (.done (by kernel_rfl))) tz ?_
 ·rintro ⟨⟨(out:LI),(n:Int),(i:Int),⟨⟩⟩,⟨⟨(lit:LI),(d:Int),(len:Int),⟨⟩⟩,⟨⟩⟩⟩ y hw hy
  obtain ⟨hg,hy⟩:=Tr.guard hy
  simp only[zA,Bool.or_eq_true,zB] at hg
  obtain ⟨h1,h2,h3,h4⟩:=hg
  have h1:i=0:=h1
  have h2:0≤n:=h2
  have h3:n=0∨1≤d∧d≤(out.length:Int):=h3
  have h4:(out.length:Int)+n≤4294967296:=h4
  subst h1
  obtain ⟨m,rfl⟩:=aA h2
  rcases h3 with h3 | h3
  ·have h3:m=0:=by omega
   subst h3
   refine ⟨1,?_⟩
   rw[← hy]
   show jv (0+1) out ((0:Nat):Int) 0 lit d len=_
   rw[mv]
   unfold gl
   exact ae (by simp) _ _
  ·obtain ⟨d,rfl⟩:=aA (show 0≤d by omega)
   have:=v8 lit len (d:=d) m (m+1) 0 out (by omega) (.inr ⟨by omega,by omega⟩) (by omega) (by omega)
   rw[Nat.zero_add] at this
   refine ⟨m+1,this.trans ?_⟩
   rw[← hy];rfl
 ·rintro ⟨⟨(out:LI),⟨(lit:LI),(d:Int),(len:Int),⟨⟩⟩,(m:Int),⟨⟩⟩,⟨⟩⟩ o hw ho
  obtain ⟨hg,ho⟩:=Tr.guard ho
  simp only[zA,zB] at hg
  obtain ⟨h1,h2,h3⟩:=hg
  have h1:out.length≤4294960000:=h1
  have h2:lit.length≤4294960000:=h2
  have h3:m≤(32768:Int):=h3
  cases ho
  refine (Fd out lit d len m).trans ?_
  show _=oR (((bd out (lit,d,len,()) m).1,(bd out (lit,d,len,()) m).2,()),())
  unfold ry bd
  cases hi:gE (lit,d,len,()) with
  |true=>
   refine (aa rfl _ _).trans ?_
   rw[if_pos (.inl rfl)]
  |false=>
   obtain ⟨i1,i2⟩:=LM hi
   refine (ae rfl _ _).trans ?_
   by_cases h4:(out.length:Int)<d
   ·refine bT (by simpa using h4) ?_
    rw[if_pos (.inr h4)]
   ·refine bF (by simpa using h4) ?_
    rw[if_neg (by rintro (h | h);cases h;exact h4 h),af (n:=(out.length:Int)+(lit.length:Int)) (by omega) (by omega),af (n:=(out.length:Int)+(lit.length:Int)+len) (by omega) (by omega)]
    by_cases h5:m<(out.length:Int)+(lit.length:Int)+len
    ·refine bT (by simpa using h5) ?_
     rw[if_pos h5]
    ·refine bF (by simpa using h5) ?_
     refine bT (by simp;omega) ?_
     rw[if_neg h5]
     have hg:(decide ((0:Int)=0)&&(decide ((0:Int)≤len)&&((decide (len=0) || (decide ((1:Int)≤d)&&decide (d≤((out++lit).length:Int))))&&decide (((out++lit).length:Int)+len≤4294967296))))=true:=by
      simp only[zA,Bool.or_eq_true,zB,zH]
      refine ⟨trivial,i1.1,?_,by omega⟩
      rcases i2 with h | h
      ·exact .inl h.1
      ·exact .inr ⟨h.2.1,by omega⟩
     have e:ij ((out++lit,(len,(0,()))),((lit,(d,(len,()))),()))=.ite true (.ret (.ret ((),((fO d.toNat len.toNat (out++lit),()),())))) .no:=congrArg (fun c=>Tr.ite c _ _) hg
     rw[e]
     rfl
abbrev f8:Io:=⟨[dI],[],[],[dI],none⟩
def tw (d:f8.In):Tr f8.Res:=.ret (.ret ((aD d.1.1,()),()))
abbrev xk:List (Nat×Hc):=[]
def IH:Hd:=bA xk
def xL:Lp:=bQ []
def Bl (a0:Int):Option f8.Res:=oR ((nx (dW a0 0) 32768,()),())
theorem Fc (a0:Int):Io.run tt IH dr xL f8 Tryz.f169 ((a0,()),())=Bl a0:=by kernel_rfl
theorem I0:HcOk prog 169 (ah f8 tw):=by
 refine bW (cs:=xk) HcsOk.nil (lp:=xL) (fn:=Tryz.f169) f8 (.done (by kernel_rfl)) tw ?_
 rintro ⟨⟨(m:Int),⟨⟩⟩,⟨⟩⟩ out hw ho
 cases ho
 exact Fc m
abbrev kM:Io:=⟨[dL,dI],[],[],[dO,dI],none⟩
def D4 (d:kM.In):Tr kM.Res:=.ite (decide (d.1.1.length≤4294960000)) (.ret (.ret (((ar d.1.1 d.1.2.1).1,(ar d.1.1 d.1.2.1).2,()),()))) .no
abbrev GB:List (Nat×Hc):=[(167,ah kN D5),(169,ah f8 tw),(168,ah f9 tz)]
def GY:Hd:=bA GB
abbrev eK:Lo:=⟨⟨(.one (.hol (.sl 5 (Ty.int u8)))::.one hI::bz (.one (.onl 5 (Ty.int u8) 13)::.any::ai (cy (bz (bh []))))),[]⟩,[(.ret,⟨(bz (.one (.onl 5 (Ty.int u8) 9)::.one hI::ai (ai ([])))),[]⟩),(.exit 0,⟨(bz (bh (.one (.onl 5 (Ty.int u8) 13)::.any::ai (cy (bz (bh [])))))),[]⟩)]⟩
def lK (d:eK.st.den):Tr (ao eK.xs):=
 .ite (decide (d.1.1.length≤4294960000)&&decide (d.1.2.2.1.length≤32768)) (.ite (decide ((bO (d.1.1.length+1) d.1.1 d.1.2.2.1 (aD d.1.2.1)).2=0)) (.ret (.pan (.ret ((),(((bO (d.1.1.length+1) d.1.1 d.1.2.2.1 (aD d.1.2.1)).1,()),()))))) (.ret (.ret ((),(([],(bO (d.1.1.length+1) d.1.1 d.1.2.2.1 (aD d.1.2.1)).2,()),()))))) .no
def s4:Lp:=bQ [(3,aG eK lK)]
def sd {R:Type}(h2:LI)(h3:Int)(h4:LI)(next:LI→Int→LI→Option R)(out:ao eK.xs→Option R):Option R:=bif decide (0<(↑h2.length:Int)) then bif decide (1≤h2.length) then bif (aR h2).2.2 != 0 then out (.ret ((),(([],((aR h2).2.2,())),()))) else bif decide (h4.length≤4294960000)&&(decide (List.length (aR h2).1.1≤4294960000)&&decide (aD h3≤32768)) then bif (bd h4 (aR h2).1 (aD h3)).2 != 0 then out (.ret ((),(([],((bd h4 (aR h2).1 (aD h3)).2,())),()))) else bif decide (0≤(aR h2).2.1)&&(decide ((aR h2).2.1≤(↑h2.length:Int))&&decide ((↑h2.length:Int)≤(↑h2.length:Int))) then next (List.drop (aR h2).2.1.toNat (List.take (↑h2.length:Int).toNat h2)) (h3) ((bd h4 (aR h2).1 (aD h3)).1) else none else none else none else out (.pan (.ret ((),((h4,()),()))))
def qU (n:Nat)(h2:LI)(h3:Int)(h4:LI):Option (ao eK.xs):=fV tt GY dr s4 0 Tryz.f136 (b9 Tryz.f136 0) n (eK.st.mk' ((h2,(h3,(h4,()))),())) (bH eK.xs)
theorem JI (n:Nat)(h2:LI)(h3:Int)(h4:LI):qU (n+1) h2 h3 h4=sd h2 h3 h4 (qU n) some:=by kernel_rfl
theorem CH (m:Int):∀(k:Nat) (b out:LI),(∀c∈b,0≤c∧c≤255)→b.length<k→b.length≤4294960000→out.length≤32768→
  qU k b m out=if (bO k b out (aD m)).2=0 then some (.pan (.ret ((),(((bO k b out (aD m)).1,()),())))) else some (.ret ((),(([],((bO k b out (aD m)).2,())),()))):=by
 intro k
 induction k with
 |zero=>intro b out _ h;omega
 |succ k ih=>
  intro b out hb h1 h2 h3
  rw[JI]
  unfold sd
  by_cases hne:b=[]
  ·subst hne
   refine (ae rfl _ _).trans ?_
   rfl
  ·have hp:0<b.length:=List.length_pos_iff.2 hne
   have e:bO (k+1) b out (aD m)=if (aR b).2.2≠0 then ([],(aR b).2.2) else if (bd out (aR b).1 (aD m)).2≠0 then ([],(bd out (aR b).1 (aD m)).2) else bO k (b.drop (aR b).2.1.toNat) (bd out (aR b).1 (aD m)).1 (aD m):=by
    rw[bO,if_neg hne]
   have hlit:=yb b
   have hbd:=oK m
   refine bT (by simpa using hp) ?_
   refine bT (by simp;omega) ?_
   rw[e]
   by_cases h4:(aR b).2.2=0
   ·have ho:=DE hb h4 hne
    refine bF (by simpa using h4) ?_
    refine bT (by simp only[zA,zB];omega) ?_
    rw[if_neg (aq h4)]
    by_cases h5:(bd out (aR b).1 (aD m)).2=0
    ·have hle:=oL h5
     refine bF (by simpa using h5) ?_
     refine bT (by simp only[zA,zB];omega) ?_
     rw[if_neg (aq h5),zG,List.take_length]
     exact ih _ _ (fun c hc=>hb c (List.mem_of_mem_drop hc)) (by simp;omega) (by simp;omega) (by omega)
    ·refine bT (by simpa using h5) ?_
     rw[if_pos h5,if_neg h5]
   ·refine bT (by simpa using h4) ?_
    rw[if_pos h4,if_neg h4]
def wR (a0:LI)(a1:Int):Option kM.Res:=(lK ((a0,(a1,([],()))),())).run fun y=>match y with | .ret ((),((x13,x14,()),()))=>(oR ((x13,x14,()),())) | .pan (.ret ((),((x15,()),())))=>(oR ((x15,0,()),()))
theorem Nn (a0:LI)(a1:Int):Io.run tt GY dr s4 kM Tryz.f136 ((a0,a1,()),())=wR a0 a1:=by kernel_rfl
theorem xy:HcsOk prog GB:=.cons Pv (.cons I0 (.cons I1 .nil))
theorem Pu:HcOk prog 136 (ah kM D4):=by
 refine bW xy (lp:=s4) (fn:=Tryz.f136) kM (.step (h0:=aG eK lK) (by kernel_rfl) (gi xy (lp:=s4) (fn:=Tryz.f136) (.done (by kernel_rfl)) eK lK ?_) (.done (by kernel_rfl))) D4 ?_
 ·rintro ⟨⟨(b:LI),(m:Int),(out:LI),⟨⟩⟩,⟨⟩⟩ y hw hy
  obtain ⟨hg,hy⟩:=Tr.guard hy
  simp only[zA,zB] at hg
  refine ⟨b.length+1,(CH m (b.length+1) b out (dY hw.1.1) (by omega) hg.1 hg.2).trans ?_⟩
  rw[← hy]
  simp only[Tr.val_ite,zB,Tr.val_ret]
 ·rintro ⟨⟨(b:LI),(m:Int),⟨⟩⟩,⟨⟩⟩ o hw ho
  obtain ⟨hg,ho⟩:=Tr.guard ho
  have hg:b.length≤4294960000:=of_decide_eq_true hg
  cases ho
  refine (Nn b m).trans ?_
  show _=oR (((ar b m).1,(ar b m).2,()),())
  unfold wR lK
  rw[ft]
  refine bT (by simp only[zA,zB];exact ⟨hg,by simp⟩) ?_
  by_cases h:(bO (b.length+1) b [] (aD m)).2=0
  ·refine bT (decide_eq_true h) ?_
   rw[h]
   rfl
  ·refine bF (decide_eq_false h) ?_
   rw[iQ _ _ _ _ h]
   rfl
def vx (t:Oh):Bool:=if t.2.1=0∧t.2.2.1=0∧0<t.1.length∧t.1.length≤128 then true else false
def ld (t:Oh):Bool:=if t.1.length=0∧1≤t.2.1∧t.2.1≤4096∧4≤t.2.2.1∧t.2.2.1≤131 then true else false
def dE (b:LI)(p:Int):Oh×Int×Int:=
 if p<0∨(b.length:Int)≤p then (eU,0,1)
 else if (aR (b.drop p.toNat)).2.2≠0 then (eU,0,(aR (b.drop p.toNat)).2.2)
 else ((aR (b.drop p.toNat)).1,p+(aR (b.drop p.toNat)).2.1,0)
abbrev kP:Io:=⟨[BV],[],[],[dB],none⟩
def D7 (d:kP.In):Tr kP.Res:=.ret (.ret ((vx d.1.1,()),()))
abbrev GG:List (Nat×Hc):=[]
def OY:Hd:=bA GG
def HC:Lp:=bQ []
def wW (a0:LI)(a1 a2:Int):Option kP.Res:=bif a1 == 0 then bif a2 == 0 then bif decide (0<(↑a0.length:Int)) then oR ((decide ((↑a0.length:Int)≤128),()),()) else oR ((false,()),()) else oR ((false,()),()) else oR ((false,()),())
theorem Ns (a0:LI)(a1 a2:Int):Io.run tt OY dr HC kP Tryz.f157 (((a0,a1,a2,()),()),())=wW a0 a1 a2:=by kernel_rfl
theorem Px:HcOk prog 157 (ah kP D7):=by
 refine bW (cs:=GG) HcsOk.nil (lp:=HC) (fn:=Tryz.f157) kP (.done (by kernel_rfl)) D7 ?_
 rintro ⟨⟨⟨(a0:LI),(a1:Int),(a2:Int),⟨⟩⟩,⟨⟩⟩,⟨⟩⟩ out hw ho
 cases ho
 refine (Ns a0 a1 a2).trans ?_
 show _=oR (((if a1=0∧a2=0∧0<a0.length∧a0.length≤128 then true else false),()),())
 unfold wW
 by_cases h1:a1=0
 ·refine bT (by simp[h1]) ?_
  by_cases h2:a2=0
  ·refine bT (by simp[h2]) ?_
   by_cases h3:0<a0.length
   ·refine bT (decide_eq_true (show 0<(a0.length:Int) by omega)) ?_
    by_cases h4:a0.length≤128
    ·rw[if_pos ⟨h1,h2,h3,h4⟩,show decide ((a0.length:Int)≤128)=true from decide_eq_true (by omega)]
    ·rw[if_neg (fun h=>h4 h.2.2.2),show decide ((a0.length:Int)≤128)=false from decide_eq_false (by omega)]
   ·refine bF (decide_eq_false (show ¬ 0<(a0.length:Int) by omega)) ?_
    rw[if_neg (fun h=>h3 h.2.2.1)]
  ·refine bF (by simp[h2]) ?_
   rw[if_neg (fun h=>h2 h.2.1)]
 ·refine bF (by simp[h1]) ?_
  rw[if_neg (fun h=>h1 h.1)]
abbrev jo:Io:=⟨[BV],[],[],[dB],none⟩
def yE (d:jo.In):Tr jo.Res:=.ret (.ret ((ld d.1.1,()),()))
abbrev GE:List (Nat×Hc):=[]
def OX:Hd:=bA GE
def HB:Lp:=bQ []
def wU (a0:LI)(a1 a2:Int):Option jo.Res:=bif decide (0<(↑a0.length:Int)) then oR ((false,()),()) else bif decide (a1<1) then oR ((false,()),()) else bif decide (4096<a1) then oR ((false,()),()) else bif decide (4≤a2) then oR ((decide (a2≤131),()),()) else oR ((false,()),())
theorem Nq (a0:LI)(a1 a2:Int):Io.run tt OX dr HB jo Tryz.f158 (((a0,a1,a2,()),()),())=wU a0 a1 a2:=by kernel_rfl
theorem HY:HcOk prog 158 (ah jo yE):=by
 refine bW (cs:=GE) HcsOk.nil (lp:=HB) (fn:=Tryz.f158) jo (.done (by kernel_rfl)) yE ?_
 rintro ⟨⟨⟨(a0:LI),(a1:Int),(a2:Int),⟨⟩⟩,⟨⟩⟩,⟨⟩⟩ out hw ho
 cases ho
 refine (Nq a0 a1 a2).trans ?_
 show _=oR (((if a0.length=0∧1≤a1∧a1≤4096∧4≤a2∧a2≤131 then true else false),()),())
 unfold wU
 by_cases h0:a0.length=0
 ·refine bF (decide_eq_false (show ¬ 0<(a0.length:Int) by omega)) ?_
  by_cases h1:a1<1
  ·refine bT (decide_eq_true h1) ?_
   rw[if_neg (by omega)]
  ·refine bF (decide_eq_false h1) ?_
   by_cases h2:4096<a1
   ·refine bT (decide_eq_true h2) ?_
    rw[if_neg (by omega)]
   ·refine bF (decide_eq_false h2) ?_
    by_cases h3:4≤a2
    ·refine bT (decide_eq_true h3) ?_
     by_cases h4:a2≤131
     ·rw[if_pos (by omega),decide_eq_true h4]
     ·rw[if_neg (by omega),decide_eq_false h4]
    ·refine bF (decide_eq_false h3) ?_
     rw[if_neg (by omega)]
 ·refine bT (decide_eq_true (show 0<(a0.length:Int) by omega)) ?_
  rw[if_neg (by omega)]
abbrev kQ:Io:=⟨[dL,dI],[],[],[BV,dI,dI],none⟩
def D8 (d:kQ.In):Tr kQ.Res:=.ite (decide (d.1.1.length≤4294960000)) (.ret (.ret (((dE d.1.1 d.1.2.1).1,(dE d.1.1 d.1.2.1).2.1,(dE d.1.1 d.1.2.1).2.2,()),()))) .no
abbrev GH:List (Nat×Hc):=[(158,ah jo yE)]
def G4:Hd:=bA GH
abbrev dq:Lo:=⟨⟨(.one (.hol (.sl 5 (Ty.int u8)))::.one hI::bh (.one (.ptr 4 0)::bh (.one hI::.one (.onl 5 (Ty.int u8) 17)::.one hI::ai (ai (ai (ai (cy (bz (bh []))))))))),[none,none,none,none,some [.onl 5 (Ty.int u8) 2050,hI,hI]]⟩,[(.exit 0,⟨(.any::.one hI::bh (.one (.ptr 4 0)::bh (.one hI::.one (.onl 5 (Ty.int u8) 17)::.any::ai (ai (ai (ai (cy (bz (bh []))))))))),[none,none,none,none,some [.onl 5 (Ty.int u8) 2050,hI,hI]]⟩)]⟩
def gX (d:dq.st.den):Tr (ao dq.xs):=
 .ite (decide (d.1.2.2.2.2.1=0)&&(decide (d.1.2.2.2.1.length=0)&&((decide ((0:Int)≤d.1.2.1)&&decide (d.1.1.length≤4294960000))&&(decide ((0:Int)≤d.1.2.2.1)&&decide (d.1.2.1+d.1.2.2.1+2≤(d.1.1.length:Int))))))
  (.ret (.ret ((),((d.1.2.1,d.1.2.2.1,(d.1.1.drop (d.1.2.1+1).toNat).take (d.1.2.2.1+1).toNat,()),(d.2.1,()))))) .no
def s6:Lp:=bQ [(10,aG dq gX)]
def qo {R:Type}(h2:LI)(h3 h4:Int)(h5:LI)(h6:Int)(h7:LI)(h8 h9:Int)(next:LI→Int→Int→LI→Int→LI→Int→Int→Option R)(out:ao dq.xs→Option R):Option R:=bif decide (h6≤h4) then bif decide (0≤i64.wrap (i64.wrap (h3+1)+h6))&&decide (i64.wrap (i64.wrap (h3+1)+h6)<(↑h2.length:Int)) then bif decide (h5.length+1≤4294967296) then next (h2) (h3) (h4) (h5++[h2.getD (i64.wrap (i64.wrap (h3+1)+h6)).toNat 0]) (i64.wrap (h6+1)) (h7) (h8) (h9) else none else none else out (.ret ((),((h3,(h4,(h5,()))),((h7,(h8,(h9,()))),()))))
def oA (n:Nat)(h2:LI)(h3 h4:Int)(h5:LI)(h6:Int)(h7:LI)(h8 h9:Int):Option (ao dq.xs):=fV tt G4 dr s6 0 Tryz.f147 (b9 Tryz.f147 0) n (dq.st.mk' ((h2,(h3,(h4,(h5,(h6,()))))),((h7,(h8,(h9,()))),()))) (bH dq.xs)
theorem Fv (n:Nat)(h2:LI)(h3 h4:Int)(h5:LI)(h6:Int)(h7:LI)(h8 h9:Int):oA (n+1) h2 h3 h4 h5 h6 h7 h8 h9=qo h2 h3 h4 h5 h6 h7 h8 h9 (oA n) some:=by kernel_rfl
theorem qH (b:LI)(p i:Nat):(b.drop p).getD i 0=b.getD (p+i) 0:=by rw[List.getD_eq_getElem?_getD,List.getD_eq_getElem?_getD,List.getElem?_drop]
theorem zv (b g:LI)(u v:Int){p c:Nat}(h0:p+c+2≤b.length)(hl:b.length≤4294960000):∀(k j:Nat) (lit:LI),c+1<j+k→j≤c+1→lit.length=j→
  oA k b p c lit j g u v=some (.ret ((),(((p:Int),((c:Int),(lit++(b.drop (p+1+j)).take (c+1 - j),()))),((g,(u,(v,()))),())))):=by
 intro k
 induction k with
 |zero=>intro j lit h;omega
 |succ k ih=>
  intro j lit h1 h2 h3
  rw[Fv]
  unfold qo
  by_cases hj:j≤c
  ·rw[af (n:=(p:Int)+1) (by omega) (by omega),af (n:=(p:Int)+1+(j:Int)) (by omega) (by omega),af (n:=(j:Int)+1) (by omega) (by omega)]
   refine bT (by simpa using hj) ?_
   refine bT (by simp only[zA,zB];omega) ?_
   refine bT (by simp;omega) ?_
   have hlt:p+1+j<b.length:=by omega
   have e:b.getD ((p:Int)+1+(j:Int)).toNat 0=b[p+1+j]:=by rw[show ((p:Int)+1+(j:Int)).toNat=p+1+j by omega,aC hlt]
   rw[e]
   refine (ih (j+1) _ (by omega) (by omega) (by simp[h3])).trans ?_
   rw[zK,zE hlt,show c+1 - j=(c+1 - (j+1))+1 by omega,List.take_succ_cons]
   rfl
  ·refine bF (by simp;omega) ?_
   rw[show c+1 - j=0 by omega,List.take_zero,List.append_nil]
def wX (a0:LI)(a1:Int):Option kQ.Res:=bif decide (a1<0) then oR ((([],0,0,()),0,1,()),()) else bif decide ((↑a0.length:Int)≤a1) then oR ((([],0,0,()),0,1,()),()) else bif decide (0≤a1)&&decide (a1<(↑a0.length:Int)) then bif decide (i64.wrap (a0.getD a1.toNat 0)<128) then bif decide (i64.wrap (i64.wrap ((↑a0.length:Int) - a1) - 1)<i64.wrap (i64.wrap (a0.getD a1.toNat 0)+1)) then oR ((([],0,0,()),0,1,()),()) else (gX ((a0,(a1,(i64.wrap (a0.getD a1.toNat 0),([],(0,()))))),(([],(0,(0,()))),()))).run fun y=>match y with | .ret ((),((x24,x25,x26,()),(x27,x28,x29,()),()))=>(oR (((x26,0,0,()),i64.wrap (i64.wrap (x24+x25)+2),0,()),())) else bif decide (i64.wrap ((↑a0.length:Int) - a1)<3) then oR ((([],0,0,()),0,1,()),()) else bif decide (0≤i64.wrap (a1+1))&&decide (i64.wrap (a1+1)<(↑a0.length:Int)) then bif decide (0≤i64.wrap (a1+2))&&decide (i64.wrap (a1+2)<(↑a0.length:Int)) then bif !ld ([],i64.wrap (i64.wrap (i64.wrap (a0.getD (i64.wrap (a1+1)).toNat 0)*256)+i64.wrap (a0.getD (i64.wrap (a1+2)).toNat 0)),i64.wrap (i64.wrap (a0.getD a1.toNat 0) - 124),()) then oR ((([],0,0,()),0,50,()),()) else oR ((([],i64.wrap (i64.wrap (i64.wrap (a0.getD (i64.wrap (a1+1)).toNat 0)*256)+i64.wrap (a0.getD (i64.wrap (a1+2)).toNat 0)),i64.wrap (i64.wrap (a0.getD a1.toNat 0) - 124),()),i64.wrap (a1+3),0,()),()) else none else none else none
theorem Nt (a0:LI)(a1:Int):Io.run tt G4 dr s6 kQ Tryz.f147 ((a0,a1,()),())=wX a0 a1:=by kernel_rfl
theorem xA:HcsOk prog GH:=.cons HY .nil
theorem Py:HcOk prog 147 (ah kQ D8):=by
 refine bW xA (lp:=s6) (fn:=Tryz.f147) kQ (.step (h0:=aG dq gX) (by kernel_rfl) (gi xA (lp:=s6) (fn:=Tryz.f147) (.done (by kernel_rfl)) dq gX ?_) (.done (by kernel_rfl))) D8 ?_
 ·rintro ⟨⟨(b:LI),(p:Int),(c:Int),(lit:LI),(j:Int),⟨⟩⟩,⟨⟨(g:LI),(u:Int),(v:Int),⟨⟩⟩,⟨⟩⟩⟩ y hw hy
  obtain ⟨hg,hy⟩:=Tr.guard hy
  simp only[zA,zB] at hg
  obtain ⟨h1,h2,⟨h3,h4⟩,h5,h6⟩:=hg
  have h1:j=0:=h1
  have h2:lit.length=0:=h2
  have h3:0≤p:=h3
  have h4:b.length≤4294960000:=h4
  have h5:0≤c:=h5
  have h6:p+c+2≤(b.length:Int):=h6
  have h2:lit=[]:=List.length_eq_zero_iff.1 h2
  subst h1 h2
  obtain ⟨p,rfl⟩:=aA h3
  obtain ⟨c,rfl⟩:=aA h5
  refine ⟨c+2,(zv b g u v (p:=p) (c:=c) (by omega) h4 (c+2) 0 [] (by omega) (by omega) rfl).trans ?_⟩
  rw[← hy]
  show _=some _
  rw[show ((p:Int)+1).toNat=p+1 by omega,show ((c:Int)+1).toNat=c+1 by omega]
  rfl
 ·rintro ⟨⟨(b:LI),(p:Int),⟨⟩⟩,⟨⟩⟩ o hw ho
  obtain ⟨hg,ho⟩:=Tr.guard ho
  have hg2:b.length≤4294960000:=of_decide_eq_true hg
  clear hg
  cases ho
  refine (Nt b p).trans ?_
  show _=oR (((dE b p).1,(dE b p).2.1,(dE b p).2.2,()),())
  have hb:Ty.wf bs b:=hw.1.1
  unfold wX
  by_cases h1:p<0
  ·refine bT (decide_eq_true h1) ?_
   unfold dE
   rw[if_pos (.inl h1)]
   rfl
  refine bF (decide_eq_false h1) ?_
  by_cases h2:(b.length:Int)≤p
  ·refine bT (decide_eq_true h2) ?_
   unfold dE
   rw[if_pos (.inr h2)]
   rfl
  refine bF (decide_eq_false h2) ?_
  obtain ⟨p,rfl⟩:=aA (show 0≤p by omega)
  have eR:dE b p=if (aR (b.drop p)).2.2≠0 then (eU,0,(aR (b.drop p)).2.2) else ((aR (b.drop p)).1,(p:Int)+(aR (b.drop p)).2.1,0):=by
   unfold dE
   rw[if_neg (by omega),zG]
  have c0:=ua hb p
  have c1:=ua hb (p+1)
  have c2:=ua hb (p+2)
  have e0:(b.drop p).getD 0 0=b.getD p 0:=qH b p 0
  have e1:(b.drop p).getD 1 0=b.getD (p+1) 0:=qH b p 1
  have e2:(b.drop p).getD 2 0=b.getD (p+2) 0:=qH b p 2
  have el:((b.drop p).length:Int)=(b.length:Int) - p:=by simp;omega
  have eO:aR (b.drop p)=if b.getD p 0<128 then (if (b.length:Int) - p<b.getD p 0+2 then (eU,0,1) else (((b.drop (p+1)).take (b.getD p 0+1).toNat,0,0,()),b.getD p 0+2,0))
    else if (b.length:Int) - p<3 then (eU,0,1)
    else if b.getD (p+1) 0*256+b.getD (p+2) 0<1∨4096<b.getD (p+1) 0*256+b.getD (p+2) 0 then (eU,0,50)
    else (([],b.getD (p+1) 0*256+b.getD (p+2) 0,b.getD p 0 - 124,()),3,0):=by
   unfold aR
   rw[e0,e1,e2,el,List.drop_drop]
  rw[af (n:=(p:Int)+1) (by omega) (by omega),af (n:=(p:Int)+2) (by omega) (by omega),show ((p:Int)+1).toNat=p+1 by omega,show ((p:Int)+2).toNat=p+2 by omega,zG]
  rw[af (n:=b.getD p 0) (by omega) (by omega),af (n:=b.getD (p+1) 0) (by omega) (by omega),af (n:=b.getD (p+2) 0) (by omega) (by omega)]
  generalize hd:(b.drop (p+1)).take (b.getD p 0+1).toNat=L at *
  have hF:∀lit:LI,b.getD p 0<128→(p:Int)+b.getD p 0+2≤(b.length:Int)→gX ((b,((p:Int),(b.getD p 0,([],(0,()))))),(([],(0,(0,()))),()))=.ite true (.ret (.ret ((),(((p:Int),b.getD p 0,L,()),(([],(0,(0,()))),()))))) .no:=by
   intro _ _ hlt
   have hc:(decide ((0:Int)=0)&&(decide (([]:LI).length=0)&&((decide ((0:Int)≤(p:Int))&&decide (b.length≤4294960000))&&(decide ((0:Int)≤b.getD p 0)&&decide ((p:Int)+b.getD p 0+2≤(b.length:Int))))))=true:=by
    simp only[zA,zB]
    exact ⟨trivial,rfl,⟨by omega,hg2⟩,c0.1,hlt⟩
   have:gX ((b,((p:Int),(b.getD p 0,([],(0,()))))),(([],(0,(0,()))),()))=.ite true (.ret (.ret ((),(((p:Int),b.getD p 0,(b.drop ((p:Int)+1).toNat).take (b.getD p 0+1).toNat,()),(([],(0,(0,()))),()))))) .no:=congrArg (fun c=>Tr.ite c _ _) hc
   rw[this,show ((p:Int)+1).toNat=p+1 by omega,hd]
  rw[eR,eO]
  clear eR eO e0 e1 e2 el hd
  generalize b.getD p 0=c at *
  generalize b.getD (p+1) 0=x at *
  generalize b.getD (p+2) 0=y at *
  refine bT (by simp only[zA,zB];omega) ?_
  rw[af (n:=(b.length:Int) - p) (by omega) (by omega),af (n:=(b.length:Int) - p - 1) (by omega) (by omega),af (n:=c+1) (by omega) (by omega)]
  by_cases h3:c<128
  ·refine bT (decide_eq_true h3) ?_
   rw[if_pos h3]
   by_cases h4:(b.length:Int) - p<c+2
   ·refine bT (decide_eq_true (by omega)) ?_
    rw[if_pos h4,if_pos (by decide)]
    rfl
   ·refine bF (decide_eq_false (by omega)) ?_
    rw[hF [] h3 (by omega),if_neg h4,if_neg (aq rfl)]
    show oR (((L,0,0,()),i64.wrap (i64.wrap ((p:Int)+c)+2),0,()),())=_
    rw[af (n:=(p:Int)+c) (by omega) (by omega),af (n:=(p:Int)+c+2) (by omega) (by omega),Int.add_assoc]
  ·refine bF (decide_eq_false h3) ?_
   rw[if_neg h3]
   by_cases h4:(b.length:Int) - p<3
   ·refine bT (decide_eq_true h4) ?_
    rw[if_pos h4,if_pos (by decide)]
    rfl
   ·refine bF (decide_eq_false h4) ?_
    refine bT (by simp only[zA,zB];omega) ?_
    refine bT (by simp only[zA,zB];omega) ?_
    rw[af (n:=x*256) (by omega) (by omega),af (n:=x*256+y) (by omega) (by omega),af (n:=c - 124) (by omega) (by omega),af (n:=(p:Int)+3) (by omega) (by omega),if_neg h4]
    have hi:ld ([],x*256+y,c - 124,()) = !decide (x*256+y<1∨4096<x*256+y):=by
     show (if ([]:LI).length=0∧1≤x*256+y∧x*256+y≤4096∧4≤c - 124∧c - 124≤131 then true else false)=_
     by_cases h5:x*256+y<1∨4096<x*256+y
     ·rw[if_neg (by omega),decide_eq_true h5];rfl
     ·rw[if_pos ⟨rfl,by omega⟩,decide_eq_false h5];rfl
    by_cases h5:x*256+y<1∨4096<x*256+y
    ·refine bT (by rw[hi,decide_eq_true h5];rfl) ?_
     rw[if_pos h5,if_pos (by decide)]
     rfl
    ·refine bF (by rw[hi,decide_eq_false h5];rfl) ?_
     rw[if_neg h5,if_neg (aq rfl)]
abbrev ga:Io:=⟨[dI],[],[],[dI],none⟩
def tA (d:ga.In):Tr ga.Res:=.ret (.ret ((aD d.1.1,()),()))
abbrev xm:List (Nat×Hc):=[]
def II:Hd:=bA xm
def xM:Lp:=bQ []
def rz (a0:Int):Option ga.Res:=bif decide (a0<0) then oR ((0,()),()) else bif decide (32768<a0) then oR ((32768,()),()) else oR ((a0,()),())
theorem Fe (a0:Int):Io.run tt II dr xM ga Tryz.f149 ((a0,()),())=rz a0:=by kernel_rfl
theorem I2:HcOk prog 149 (ah ga tA):=by
 refine bW (cs:=xm) HcsOk.nil (lp:=xM) (fn:=Tryz.f149) ga (.done (by kernel_rfl)) tA ?_
 rintro ⟨⟨(m:Int),⟨⟩⟩,⟨⟩⟩ out hw ho
 cases ho
 refine (Fe m).trans ?_
 show _=oR ((aD m,()),())
 unfold rz
 have e1:m<0→dW m 0=0:=fun h=>by unfold dW;exact if_pos h
 have e2:¬ m<0→dW m 0=m:=fun h=>by unfold dW;exact if_neg (by omega)
 unfold aD nx
 by_cases h1:m<0
 ·refine bT (decide_eq_true h1) ?_
  rw[e1 h1,if_neg (by decide)]
 ·refine bF (decide_eq_false h1) ?_
  rw[e2 h1]
  by_cases h2:32768<m
  ·refine bT (decide_eq_true h2) ?_
   rw[if_pos h2]
  ·refine bF (decide_eq_false h2) ?_
   rw[if_neg h2]
abbrev gb:Io:=⟨[dO,BV,dI],[],[],[dO,dI],none⟩
def tB (d:gb.In):Tr gb.Res:=.ite (decide (d.1.1.length≤4294960000)&&(decide (d.1.2.1.1.length≤4294960000)&&(decide ((0:Int)≤d.1.2.2.1)&&decide ((d.1.2.2.1:Int)≤(32768:Int))))) (.ret (.ret (((bd d.1.1 d.1.2.1 d.1.2.2.1).1,(bd d.1.1 d.1.2.1 d.1.2.2.1).2,()),()))) .no
abbrev xn:List (Nat×Hc):=[(157,ah kP D7),(158,ah jo yE)]
def qL:Hd:=bA xn
abbrev cM:Lo:=⟨⟨(.one (.onl 5 (Ty.int u8) 1)::.any::bh (.one (.ptr 4 0)::.any::bh (.one hI::.any::ai (ai (ai (ai (bz []))))))),[none,none,none,none,some [.hol (.sl 5 (Ty.int u8)),hI,hI]]⟩,[(.exit 0,⟨(.one (.onl 5 (Ty.int u8) 1)::.any::ai (ai (ai (ai (cy (bz [])))))),[]⟩)]⟩
abbrev cm:Lo:=⟨⟨(.one (.onl 5 (Ty.int u8) 1)::.any::bh (.one (.ptr 4 0)::bz (.one hI::.one hI::.any::ai (ai (ai (ai (bh []))))))),[none,none,none,none,some [.hol (.sl 5 (Ty.int u8)),hI,hI]]⟩,[(.exit 2,⟨(.one (.onl 5 (Ty.int u8) 1)::.any::ai (ai (ai (ai (cy (bz [])))))),[]⟩)]⟩
def ik (d:cM.st.den):Tr (ao cM.xs):=
 .ite (decide (d.1.2.1=0)&&decide (d.1.1.length+d.2.1.1.length≤4294967296)) (.ret (.ret ((),((d.1.1++d.2.1.1,()),())))) .no
def gn (d:cm.st.den):Tr (ao cm.xs):=
 .ite (decide (d.1.2.2.1=0)&&((decide (d.1.2.1=(d.1.1.length:Int) - d.2.1.2.1)&&decide ((0:Int)≤d.2.1.2.2.1))&&((decide ((1:Int)≤d.2.1.2.1)&&decide (d.2.1.2.1≤(d.1.1.length:Int)))&&decide ((d.1.1.length:Int)+d.2.1.2.2.1≤4294967296)))) (.ret (.ret ((),((fO d.2.1.2.1.toNat d.2.1.2.2.1.toNat d.1.1,()),())))) .no
def hC:Lp:=bQ [(6,aG cM ik),(16,aG cm gn)]
def nD {R:Type}(h5:LI)(h6:Int)(h7:LI)(h8 h9:Int)(next:LI→Int→LI→Int→Int→Option R)(out:ao cM.xs→Option R):Option R:=bif decide (h6<(↑h7.length:Int)) then bif decide (0≤h6)&&decide (h6<(↑h7.length:Int)) then bif decide (h5.length+1≤4294967296) then next (h5++[h7.getD h6.toNat 0]) (i64.wrap (h6+1)) (h7) (h8) (h9) else none else none else out (.ret ((),((h5,()),())))
def mb (n:Nat)(h5:LI)(h6:Int)(h7:LI)(h8 h9:Int):Option (ao cM.xs):=fV tt qL dr hC 0 Tryz.f148 (b9 Tryz.f148 0) n (cM.st.mk' ((h5,(h6,())),((h7,(h8,(h9,()))),()))) (bH cM.xs)
theorem Du (n:Nat)(h5:LI)(h6:Int)(h7:LI)(h8 h9:Int):mb (n+1) h5 h6 h7 h8 h9=nD h5 h6 h7 h8 h9 (mb n) some:=by kernel_rfl
def iW {R:Type}(h17:LI)(h18 h19:Int)(h20:LI)(h21 h22:Int)(next:LI→Int→Int→LI→Int→Int→Option R)(out:ao cm.xs→Option R):Option R:=bif decide (h19<h22) then bif decide (h21≠0) then bif decide (0≤i64.wrap (h18+i64.wrap (h19.tmod h21)))&&decide (i64.wrap (h18+i64.wrap (h19.tmod h21))<(↑h17.length:Int)) then bif decide (h17.length+1≤4294967296) then next (h17++[h17.getD (i64.wrap (h18+i64.wrap (h19.tmod h21))).toNat 0]) (h18) (i64.wrap (h19+1)) (h20) (h21) (h22) else none else none else none else out (.ret ((),((h17,()),())))
def kV (n:Nat)(h17:LI)(h18 h19:Int)(h20:LI)(h21 h22:Int):Option (ao cm.xs):=fV tt qL dr hC 0 Tryz.f148 (b9 Tryz.f148 1) n (cm.st.mk' ((h17,(h18,(h19,()))),((h20,(h21,(h22,()))),()))) (bH cm.xs)
theorem p3 (n:Nat)(h17:LI)(h18 h19:Int)(h20:LI)(h21 h22:Int):kV (n+1) h17 h18 h19 h20 h21 h22=iW h17 h18 h19 h20 h21 h22 (kV n) some:=by kernel_rfl
theorem wa (lit:LI)(u v:Int)(hl:lit.length≤maxLen):∀(k i:Nat) (out:LI),lit.length<i+k→i≤lit.length→out.length+(lit.length - i)≤4294967296→
  mb k out i lit u v=some (.ret ((),((out++lit.drop i,()),()))):=by
 intro k
 induction k with
 |zero=>intro i out h;omega
 |succ k ih=>
  intro i out h1 h2 h3
  rw[Du]
  unfold nD
  by_cases hi:i<lit.length
  ·refine bT (by simpa using hi) ?_
   refine bT (by simpa using hi) ?_
   refine bT (by simp;omega) ?_
   have e:lit.getD (i:Int).toNat 0=lit[i]:=by rw[zG,aC hi]
   rw[e,aM hi hl]
   refine (ih (i+1) _ (by omega) (by omega) (by simp;omega)).trans ?_
   rw[zK,zE hi]
   rfl
  ·refine bF (by simp;omega) ?_
   rw[zI (by omega),List.append_nil]
def Rep (L d:Nat)(out:LI):Prop:=∀q,L≤q→q<out.length→out.getD q 0=out.getD (q - d) 0
theorem Rep.mod {L d:Nat}{out:LI}(h:Rep L d out)(h1:1≤d)(h2:d≤L):∀i,L - d+i<out.length→out.getD (L - d+i) 0=out.getD (L - d+i % d) 0:=by
 intro i
 induction i using Nat.strongRecOn with
 |ind i ih=>
  intro hi
  by_cases hd:i<d
  ·rw[Nat.mod_eq_of_lt hd]
  ·rw[h (L - d+i) (by omega) hi,show L - d+i - d=L - d+(i - d) by omega,ih (i - d) (by omega) (by omega),Nat.mod_eq_sub_mod (by omega:i ≥ d)]
theorem ur {out:LI}{x:Int}{q:Nat}(h:q<out.length):(out++[x]).getD q 0=out.getD q 0:=by
 rw[List.getD_eq_getElem?_getD,List.getD_eq_getElem?_getD,List.getElem?_append_left h]
theorem Rep.snoc {L d:Nat}{out:LI}(h:Rep L d out)(h1:1≤d)(h2:L≤out.length)(h3:d≤L):Rep L d (out++[out.getD (out.length - d) 0]):=by
 intro q g1 g2
 rw[zH,List.length_singleton] at g2
 by_cases hq:q<out.length
 ·rw[ur hq,ur (by omega),h q g1 hq]
 ·have:q=out.length:=by omega
  subst this
  rw[ur (q:=out.length - d) (by omega)]
  rw[List.getD_eq_getElem?_getD,List.getElem?_append_right (Nat.le_refl _),Nat.sub_self]
  rfl
theorem uU (lit:LI){L d:Nat}(h1:1≤d)(h2:d≤L):∀(m k i:Nat) (out:LI),m<k→out.length=L+i→Rep L d out→out.length+m≤4294967296→
  kV k out ((L - d:Nat):Int) i lit d ((i+m:Nat):Int)=some (.ret ((),((fO d m out,()),()))):=by
 intro m
 induction m with
 |zero=>
  intro k i out g1 g2 g3 g4
  obtain ⟨k,rfl⟩:∃j,k=j+1:=⟨k - 1,by omega⟩
  rw[p3]
  unfold iW
  refine bF (by simp) ?_
  rfl
 |succ m ih=>
  intro k i out g1 g2 g3 g4
  obtain ⟨k,rfl⟩:∃j,k=j+1:=⟨k - 1,by omega⟩
  rw[p3]
  unfold iW
  have hm:i % d<d:=Nat.mod_lt _ (by omega)
  have e1:i64.wrap ((i:Int).tmod (d:Int))=((i % d:Nat):Int):=by
   rw[Int.tmod_eq_emod_of_nonneg (by omega)]
   exact (af (by omega) (by omega)).trans (by omega)
  have e2:i64.wrap (((L - d:Nat):Int)+((i % d:Nat):Int))=((L - d+i % d:Nat):Int):=(af (by omega) (by omega)).trans (by omega)
  rw[e1,e2,af (n:=(i:Int)+1) (by omega) (by omega),zG]
  refine bT (by simp;omega) ?_
  refine bT (by simp;omega) ?_
  refine bT (by simp only[zA,zB];omega) ?_
  refine bT (by simp;omega) ?_
  have e3:out.getD (L - d+i % d) 0=out.getD (out.length - d) 0:=by
   rw[← g3.mod h1 h2 i (by omega),show out.length - d=L - d+i by omega]
  rw[e3]
  have:=ih k (i+1) (out++[out.getD (out.length - d) 0]) (by omega) (by simp;omega) (g3.snoc h1 (by omega) h2) (by simp;omega)
  rw[show ((i+1+m:Nat):Int)=((i+(m+1):Nat):Int) by omega] at this
  exact this
theorem NS (lit:LI)(d len:Int):gE (lit,d,len,()) = !(vx (lit,d,len,()) || ld (lit,d,len,())):=by
 have e:gE (lit,d,len,())=if kf (lit,d,len,())=true then decide (0<lit.length) || (decide (d<1) || (decide (4096<d) || (decide (len<4) || decide (131<len)))) else decide (lit.length<1) || decide (128<lit.length):=rfl
 have e2:kf (lit,d,len,())=if d≠0 then true else decide (len≠0):=rfl
 have e3:vx (lit,d,len,())=if d=0∧len=0∧0<lit.length∧lit.length≤128 then true else false:=rfl
 have e4:ld (lit,d,len,())=if lit.length=0∧1≤d∧d≤4096∧4≤len∧len≤131 then true else false:=rfl
 have h1:kf (lit,d,len,())=true↔(d≠0∨len≠0):=by
  rw[e2]
  by_cases h:d=0
  ·rw[if_neg (aq h)];simp[h]
  ·rw[if_pos h];simp[h]
 cases hl:vx (lit,d,len,()) with
 |true=>
  rw[e3] at hl
  split at hl
  ·rename_i h
   rw[e,if_neg (by rw[h1];omega),decide_eq_false (show ¬ lit.length<1 by omega),decide_eq_false (show ¬ 128<lit.length by omega)]
   rfl
  ·cases hl
 |false=>
  rw[e3] at hl
  split at hl
  ·cases hl
  ·rename_i hn
   cases hc:ld (lit,d,len,()) with
   |true=>
    rw[e4] at hc
    split at hc
    ·rename_i h
     rw[e,if_pos (by rw[h1];omega),decide_eq_false (show ¬ 0<lit.length by omega),decide_eq_false (show ¬ d<1 by omega),decide_eq_false (show ¬ 4096<d by omega),decide_eq_false (show ¬ len<4 by omega),decide_eq_false (show ¬ 131<len by omega)]
     rfl
    ·cases hc
   |false=>
    rw[e4] at hc
    split at hc
    ·cases hc
    ·rename_i hm
     rw[e]
     split
     ·rename_i h;rw[h1] at h
      simp only[Bool.or_false,Bool.not_false,Bool.or_eq_true,zB];omega
     ·rename_i h;rw[h1] at h
      simp only[Bool.or_false,Bool.not_false,Bool.or_eq_true,zB];omega
def rA (a0 a1:LI)(a2 a3 a4:Int):Option gb.Res:=bif vx (a1,a2,a3,()) then bif decide (i64.wrap (a4 - (↑a0.length:Int))<(↑a1.length:Int)) then oR (([],4,()),()) else (ik ((a0,(0,())),((a1,(a2,(a3,()))),()))).run fun y=>match y with | .ret ((),((x16,()),()))=>(oR ((x16,0,()),())) else bif !ld (a1,a2,a3,()) then oR (([],50,()),()) else bif decide ((↑a0.length:Int)<a2) then oR (([],50,()),()) else bif decide (i64.wrap (a4 - (↑a0.length:Int))<a3) then oR (([],4,()),()) else (gn ((a0,(i64.wrap ((↑a0.length:Int) - a2),(0,()))),((a1,(a2,(a3,()))),()))).run fun y=>match y with | .ret ((),((x30,()),()))=>(oR ((x30,0,()),()))
theorem Ff (a0 a1:LI)(a2 a3 a4:Int):Io.run tt qL dr hC gb Tryz.f148 ((a0,(a1,a2,a3,()),a4,()),())=rA a0 a1 a2 a3 a4:=by kernel_rfl
theorem lU:HcsOk prog xn:=.cons Px (.cons HY .nil)
theorem I3:HcOk prog 148 (ah gb tB):=by
 refine bW lU (lp:=hC) (fn:=Tryz.f148) gb (.step (h0:=aG cM ik) (by kernel_rfl) (gi lU (lp:=hC) (fn:=Tryz.f148) (.done (by kernel_rfl)) cM ik ?_) (.step (h0:=aG cm gn) (by kernel_rfl) (gi lU (lp:=hC) (fn:=Tryz.f148) (.done (by kernel_rfl)) cm gn ?_) (.done (by kernel_rfl)))) tB ?_
 ·rintro ⟨⟨(out:LI),(i:Int),⟨⟩⟩,⟨⟨(lit:LI),(u:Int),(v:Int),⟨⟩⟩,⟨⟩⟩⟩ y hw hy
  obtain ⟨hg,hy⟩:=Tr.guard hy
  simp only[zA,zB] at hg
  obtain ⟨h1,h2⟩:=hg
  have h1:i=0:=h1
  have h2:out.length+lit.length≤4294967296:=h2
  subst h1
  refine ⟨lit.length+1,(wa lit u v hw.2.1.1.1 (lit.length+1) 0 out (by omega) (by omega) (by omega)).trans ?_⟩
  rw[← hy];rfl
 ·rintro ⟨⟨(out:LI),(f:Int),(i:Int),⟨⟩⟩,⟨⟨(lit:LI),(d:Int),(len:Int),⟨⟩⟩,⟨⟩⟩⟩ y hw hy
  obtain ⟨hg,hy⟩:=Tr.guard hy
  simp only[zA,zB] at hg
  obtain ⟨h1,⟨h2,h3⟩,⟨h4,h5⟩,h6⟩:=hg
  have h1:i=0:=h1
  have h2:f=(out.length:Int) - d:=h2
  have h3:0≤len:=h3
  have h4:1≤d:=h4
  have h5:d≤(out.length:Int):=h5
  have h6:(out.length:Int)+len≤4294967296:=h6
  subst h1
  obtain ⟨d,rfl⟩:=aA (show 0≤d by omega)
  obtain ⟨n,rfl⟩:=aA h3
  have e:f=((out.length - d:Nat):Int):=by omega
  subst e
  have:=uU lit (L:=out.length) (d:=d) (by omega) (by omega) n (n+1) 0 out (by omega) rfl (fun q g1 g2=>by omega) (by omega)
  rw[Nat.zero_add] at this
  refine ⟨n+1,this.trans ?_⟩
  rw[← hy];rfl
 ·rintro ⟨⟨(out:LI),⟨(lit:LI),(d:Int),(len:Int),⟨⟩⟩,(m:Int),⟨⟩⟩,⟨⟩⟩ o hw ho
  obtain ⟨hg,ho⟩:=Tr.guard ho
  simp only[zA,zB] at hg
  obtain ⟨h1,h2,h0,h3⟩:=hg
  have h1:out.length≤4294960000:=h1
  have h2:lit.length≤4294960000:=h2
  have h0:(0:Int)≤m:=h0
  have h3:m≤(32768:Int):=h3
  cases ho
  refine (Ff out lit d len m).trans ?_
  show _=oR (((bd out (lit,d,len,()) m).1,(bd out (lit,d,len,()) m).2,()),())
  have hi:=NS lit d len
  unfold rA bd
  cases hl:vx (lit,d,len,()) with
  |true=>
   rw[hl] at hi
   have hi:gE (lit,d,len,())=false:=hi
   have e3:vx (lit,d,len,())=if d=0∧len=0∧0<lit.length∧lit.length≤128 then true else false:=rfl
   rw[e3] at hl
   have hl:d=0∧len=0∧0<lit.length∧lit.length≤128:=by split at hl;assumption;cases hl
   obtain ⟨rfl,rfl,l3,l4⟩:=hl
   refine (aa rfl _ _).trans ?_
   rw[if_neg (by rintro (h | h);rw[hi] at h;cases h;have h:(out.length:Int)<0:=h;omega)]
   rw[af (n:=m - (out.length:Int)) (by omega) (by omega)]
   by_cases h5:m<(out.length:Int)+(lit.length:Int)+0
   ·refine bT (decide_eq_true (by omega)) ?_
    rw[if_pos h5]
   ·refine bF (decide_eq_false (by omega)) ?_
    rw[if_neg h5]
    have e:ik ((out,(0,())),((lit,((0:Int),((0:Int),()))),()))=.ite true (.ret (.ret ((),((out++lit,()),())))) .no:=congrArg (fun c=>Tr.ite c _ _) (show (decide ((0:Int)=0)&&decide (out.length+lit.length≤4294967296))=true by simp only[zA,zB];exact ⟨trivial,by omega⟩)
    rw[e]
    rfl
  |false=>
   refine (ae rfl _ _).trans ?_
   cases hc:ld (lit,d,len,()) with
   |false=>
    rw[hl,hc] at hi
    have hi:gE (lit,d,len,())=true:=hi
    refine (aa rfl _ _).trans ?_
    rw[if_pos (.inl hi)]
   |true=>
    rw[hl,hc] at hi
    have hi:gE (lit,d,len,())=false:=hi
    have e4:ld (lit,d,len,())=if lit.length=0∧1≤d∧d≤4096∧4≤len∧len≤131 then true else false:=rfl
    rw[e4] at hc
    have hc:lit.length=0∧1≤d∧d≤4096∧4≤len∧len≤131:=by split at hc;assumption;cases hc
    obtain ⟨l1,l2,l3,l4,l5⟩:=hc
    have l1:lit=[]:=List.length_eq_zero_iff.1 l1
    subst l1
    refine (ae rfl _ _).trans ?_
    by_cases h4:(out.length:Int)<d
    ·refine bT (decide_eq_true h4) ?_
     rw[if_pos (.inr h4)]
    ·refine bF (decide_eq_false h4) ?_
     rw[if_neg (by rintro (h | h);rw[hi] at h;cases h;exact h4 h)]
     rw[af (n:=m - (out.length:Int)) (by omega) (by omega),af (n:=(out.length:Int) - d) (by omega) (by omega)]
     by_cases h5:m<(out.length:Int)+(([]:LI).length:Int)+len
     ·refine bT (decide_eq_true (by simp at h5;omega)) ?_
      rw[if_pos h5]
     ·refine bF (decide_eq_false (by simp at h5;omega)) ?_
      rw[if_neg h5]
      simp at h5
      have e:gn ((out,((out.length:Int) - d,(0,()))),(([],(d,(len,()))),()))=.ite true (.ret (.ret ((),((fO d.toNat len.toNat out,()),())))) .no:=congrArg (fun c=>Tr.ite c _ _) (show (decide ((0:Int)=0)&&((decide ((out.length:Int) - d=(out.length:Int) - d)&&decide ((0:Int)≤len))&&((decide ((1:Int)≤d)&&decide (d≤(out.length:Int)))&&decide ((out.length:Int)+len≤4294967296))))=true by simp only[zA,zB];exact ⟨trivial,⟨trivial,by omega⟩,⟨by omega,by omega⟩,by omega⟩)
      rw[e]
      show oR ((fO d.toNat len.toNat out,0,()),())=oR ((fO d.toNat len.toNat (out++[]),0,()),())
      rw[List.append_nil]
abbrev kO:Io:=⟨[dL,dI],[],[],[dO,dI],none⟩
def D6 (d:kO.In):Tr kO.Res:=.ite (decide (d.1.1.length≤4294960000)) (.ret (.ret (((ar d.1.1 d.1.2.1).1,(ar d.1.1 d.1.2.1).2,()),()))) .no
abbrev GF:List (Nat×Hc):=[(147,ah kQ D8),(149,ah ga tA),(148,ah gb tB)]
def GZ:Hd:=bA GF
abbrev eM:Lo:=⟨⟨(.one (.hol (.sl 5 (Ty.int u8)))::.one hI::bz (.one (.onl 5 (Ty.int u8) 13)::.one hI::ai (ai (bh [])))),[]⟩,[(.ret,⟨(bz (.one (.onl 5 (Ty.int u8) 9)::.one hI::ai (ai (bz [])))),[]⟩),(.exit 0,⟨(bz (bh (.one (.onl 5 (Ty.int u8) 13)::.any::ai (ai (bh []))))),[]⟩)]⟩
def lL (d:eM.st.den):Tr (ao eM.xs):=
 .ite (decide (d.1.1.length≤4294960000)&&(decide (d.1.2.2.1.length≤32768)&&decide (d.1.2.2.2.1=0))) (.ite (decide ((bO (d.1.1.length+1) d.1.1 d.1.2.2.1 (aD d.1.2.1)).2=0)) (.ret (.pan (.ret ((),(((bO (d.1.1.length+1) d.1.1 d.1.2.2.1 (aD d.1.2.1)).1,()),()))))) (.ret (.ret ((),(([],(bO (d.1.1.length+1) d.1.1 d.1.2.2.1 (aD d.1.2.1)).2,()),()))))) .no
def s5:Lp:=bQ [(4,aG eM lL)]
def se {R:Type}(h2:LI)(h3:Int)(h4:LI)(h5:Int)(next:LI→Int→LI→Int→Option R)(out:ao eM.xs→Option R):Option R:=bif decide (h5<(↑h2.length:Int)) then bif decide (h2.length≤4294960000) then bif (dE h2 h5).2.2 != 0 then out (.ret ((),(([],((dE h2 h5).2.2,())),()))) else bif decide (h4.length≤4294960000)&&(decide (List.length (dE h2 h5).1.1≤4294960000)&&(decide (0≤aD h3)&&decide (aD h3≤32768))) then bif (bd h4 (dE h2 h5).1 (aD h3)).2 != 0 then out (.ret ((),(([],((bd h4 (dE h2 h5).1 (aD h3)).2,())),()))) else next (h2) (h3) ((bd h4 (dE h2 h5).1 (aD h3)).1) ((dE h2 h5).2.1) else none else none else out (.pan (.ret ((),((h4,()),()))))
def qV (n:Nat)(h2:LI)(h3:Int)(h4:LI)(h5:Int):Option (ao eM.xs):=fV tt GZ dr s5 0 Tryz.f114 (b9 Tryz.f114 0) n (eM.st.mk' ((h2,(h3,(h4,(h5,())))),())) (bH eM.xs)
theorem JJ (n:Nat)(h2:LI)(h3:Int)(h4:LI)(h5:Int):qV (n+1) h2 h3 h4 h5=se h2 h3 h4 h5 (qV n) some:=by kernel_rfl
theorem CI (m:Int){b:LI}(hb:∀c∈b,0≤c∧c≤255)(hl:b.length≤4294960000):∀(k p:Nat) (out:LI),p≤b.length→b.length - p<k→out.length≤32768→
  qV k b m out p=if (bO k (b.drop p) out (aD m)).2=0 then some (.pan (.ret ((),(((bO k (b.drop p) out (aD m)).1,()),())))) else some (.ret ((),(([],((bO k (b.drop p) out (aD m)).2,())),()))):=by
 intro k
 induction k with
 |zero=>intro p out h h';omega
 |succ k ih=>
  intro p out h0 h1 h3
  rw[JJ]
  unfold se
  by_cases hp:p<b.length
  ·have hne:b.drop p≠[]:=by intro h;have:=congrArg List.length h;simp at this;omega
   have hbd:∀c∈b.drop p,0≤c∧c≤255:=fun c hc=>hb c (List.mem_of_mem_drop hc)
   have e:bO (k+1) (b.drop p) out (aD m)=if (aR (b.drop p)).2.2≠0 then ([],(aR (b.drop p)).2.2) else if (bd out (aR (b.drop p)).1 (aD m)).2≠0 then ([],(bd out (aR (b.drop p)).1 (aD m)).2) else bO k ((b.drop p).drop (aR (b.drop p)).2.1.toNat) (bd out (aR (b.drop p)).1 (aD m)).1 (aD m):=by
    rw[bO,if_neg hne]
   have eR:dE b p=if (aR (b.drop p)).2.2≠0 then (eU,0,(aR (b.drop p)).2.2) else ((aR (b.drop p)).1,(p:Int)+(aR (b.drop p)).2.1,0):=by
    unfold dE
    rw[if_neg (by omega),zG]
   have hlit:=yb (b.drop p)
   rw[List.length_drop] at hlit
   have hbm:=oK m
   refine bT (by simpa using hp) ?_
   refine bT (decide_eq_true hl) ?_
   rw[e,eR]
   by_cases h4:(aR (b.drop p)).2.2=0
   ·have ho:=DE hbd h4 hne
    rw[List.length_drop] at ho
    rw[if_neg (aq h4),if_neg (aq h4)]
    refine (ae rfl _ _).trans ?_
    refine bT (by simp only[zA,zB];omega) ?_
    by_cases h5:(bd out (aR (b.drop p)).1 (aD m)).2=0
    ·have hle:=oL h5
     refine bF (by simpa using h5) ?_
     rw[if_neg (aq h5)]
     obtain ⟨n,hn⟩:=aA (show 0≤(aR (b.drop p)).2.1 by omega)
     rw[hn] at ho ⊢
     have:=ih (p+n) (bd out (aR (b.drop p)).1 (aD m)).1 (by omega) (by omega) (by omega)
     rw[List.drop_drop,zG]
     exact this
    ·refine bT (by simpa using h5) ?_
     rw[if_pos h5,if_neg h5]
   ·rw[if_pos h4,if_pos h4]
    refine bT (by simpa using h4) ?_
    rw[if_neg h4]
  ·refine bF (by simp;omega) ?_
   rw[zI (by omega)]
   rfl
def wV (a0:LI)(a1:Int):Option kO.Res:=(lL ((a0,(a1,([],(0,())))),())).run fun y=>match y with | .ret ((),((x15,x16,()),()))=>(oR ((x15,x16,()),())) | .pan (.ret ((),((x17,()),())))=>(oR ((x17,0,()),()))
theorem Nr (a0:LI)(a1:Int):Io.run tt GZ dr s5 kO Tryz.f114 ((a0,a1,()),())=wV a0 a1:=by kernel_rfl
theorem xz:HcsOk prog GF:=.cons Py (.cons I2 (.cons I3 .nil))
theorem Pw:HcOk prog 114 (ah kO D6):=by
 refine bW xz (lp:=s5) (fn:=Tryz.f114) kO (.step (h0:=aG eM lL) (by kernel_rfl) (gi xz (lp:=s5) (fn:=Tryz.f114) (.done (by kernel_rfl)) eM lL ?_) (.done (by kernel_rfl))) D6 ?_
 ·rintro ⟨⟨(b:LI),(m:Int),(out:LI),(p:Int),⟨⟩⟩,⟨⟩⟩ y hw hy
  obtain ⟨hg,hy⟩:=Tr.guard hy
  simp only[zA,zB] at hg
  obtain ⟨h1,h2,h3⟩:=hg
  have h3:p=0:=h3
  subst h3
  refine ⟨b.length+1,(CI m (dY hw.1.1) h1 (b.length+1) 0 out (Nat.zero_le _) (show b.length - 0<b.length+1 by omega) h2).trans ?_⟩
  rw[← hy]
  simp only[Tr.val_ite,zB,Tr.val_ret,List.drop_zero]
 ·rintro ⟨⟨(b:LI),(m:Int),⟨⟩⟩,⟨⟩⟩ o hw ho
  obtain ⟨hg,ho⟩:=Tr.guard ho
  have hg:b.length≤4294960000:=of_decide_eq_true hg
  cases ho
  refine (Nr b m).trans ?_
  show _=oR (((ar b m).1,(ar b m).2,()),())
  unfold wV lL
  rw[ft]
  refine bT (by simp only[zA,zB];exact ⟨hg,by simp,trivial⟩) ?_
  by_cases h:(bO (b.length+1) b [] (aD m)).2=0
  ·refine bT (decide_eq_true h) ?_
   rw[h]
   rfl
  ·refine bF (decide_eq_false h) ?_
   rw[iQ _ _ _ _ h]
   rfl
abbrev O9:Io:=iA
abbrev kE:Io:=⟨[dL,dI],[],[],[dO,dI],none⟩
def DX (d:kE.In):Tr kE.Res:=.ite (decide ((d.1.2.1:Int)=(32768:Int))&&decide (d.1.1.length≤4294960000)) (.ret (.ret (((bf d.1.1).1,(bf d.1.1).2,()),()))) .no
abbrev Gq:List (Nat×Hc):=[(135,ah lW FV),(136,ah kM D4)]
def OJ:Hd:=bA Gq
def Ho:Lp:=bQ []
def wI (a0:LI)(a1:Int):Option kE.Res:=bif (ab 10 1 a0 0).2.2 != 0 then oR (([],(ab 10 1 a0 0).2.2,()),()) else bif decide (ak (ab 10 1 a0 0).1<0) then oR (([],5,()),()) else bif decide (dW a1 0<ak (ab 10 1 a0 0).1) then oR (([],4,()),()) else bif decide (32768<ak (ab 10 1 a0 0).1) then oR (([],4,()),()) else bif decide (0≤(ab 10 1 a0 0).2.1)&&(decide ((ab 10 1 a0 0).2.1≤(↑a0.length:Int))&&decide ((↑a0.length:Int)≤(↑a0.length:Int))) then bif decide ((List.drop (ab 10 1 a0 0).2.1.toNat (List.take (↑a0.length:Int).toNat a0)).length≤4294960000) then bif (ar (List.drop (ab 10 1 a0 0).2.1.toNat (List.take (↑a0.length:Int).toNat a0)) (ak (ab 10 1 a0 0).1)).2 == 4 then bif (ar (List.drop (ab 10 1 a0 0).2.1.toNat (List.take (↑a0.length:Int).toNat a0)) (ak (ab 10 1 a0 0).1)).2 == 4 then oR (([],60,()),()) else bif (ar (List.drop (ab 10 1 a0 0).2.1.toNat (List.take (↑a0.length:Int).toNat a0)) (ak (ab 10 1 a0 0).1)).2 != 0 then oR (([],(ar (List.drop (ab 10 1 a0 0).2.1.toNat (List.take (↑a0.length:Int).toNat a0)) (ak (ab 10 1 a0 0).1)).2,()),()) else oR (((ar (List.drop (ab 10 1 a0 0).2.1.toNat (List.take (↑a0.length:Int).toNat a0)) (ak (ab 10 1 a0 0).1)).1,0,()),()) else bif (ar (List.drop (ab 10 1 a0 0).2.1.toNat (List.take (↑a0.length:Int).toNat a0)) (ak (ab 10 1 a0 0).1)).2 == 0 then bif decide ((↑(ar (List.drop (ab 10 1 a0 0).2.1.toNat (List.take (↑a0.length:Int).toNat a0)) (ak (ab 10 1 a0 0).1)).1.length:Int)<ak (ab 10 1 a0 0).1) then oR (([],60,()),()) else bif (ar (List.drop (ab 10 1 a0 0).2.1.toNat (List.take (↑a0.length:Int).toNat a0)) (ak (ab 10 1 a0 0).1)).2 != 0 then oR (([],(ar (List.drop (ab 10 1 a0 0).2.1.toNat (List.take (↑a0.length:Int).toNat a0)) (ak (ab 10 1 a0 0).1)).2,()),()) else oR (((ar (List.drop (ab 10 1 a0 0).2.1.toNat (List.take (↑a0.length:Int).toNat a0)) (ak (ab 10 1 a0 0).1)).1,0,()),()) else bif (ar (List.drop (ab 10 1 a0 0).2.1.toNat (List.take (↑a0.length:Int).toNat a0)) (ak (ab 10 1 a0 0).1)).2 != 0 then oR (([],(ar (List.drop (ab 10 1 a0 0).2.1.toNat (List.take (↑a0.length:Int).toNat a0)) (ak (ab 10 1 a0 0).1)).2,()),()) else oR (((ar (List.drop (ab 10 1 a0 0).2.1.toNat (List.take (↑a0.length:Int).toNat a0)) (ak (ab 10 1 a0 0).1)).1,0,()),()) else none else none
theorem Na (a0:LI)(a1:Int):Io.run tt OJ dr Ho kE Tryz.f109 ((a0,a1,()),())=wI a0 a1:=by kernel_rfl
theorem Pl:HcOk prog 109 (ah kE DX):=by
 refine bW (cs:=Gq) (.cons My (.cons Pu .nil)) (lp:=Ho) (fn:=Tryz.f109) kE (.done (by kernel_rfl)) DX ?_
 rintro ⟨⟨(b:LI),(most:Int),⟨⟩⟩,⟨⟩⟩ o hw ho
 obtain ⟨hg,ho⟩:=Tr.guard ho
 simp only[zA,zB] at hg
 obtain ⟨h0,hl⟩:=hg
 have h0:most=32768:=h0
 have hl:b.length≤4294960000:=hl
 subst h0
 cases ho
 refine (Na b 32768).trans ?_
 show _=oR (((bf b).1,(bf b).2,()),())
 unfold wI bf
 have hk:=@mz 10 1 b 0
 generalize hge:ab 10 1 b 0=g at *
 obtain ⟨u,q,e⟩:=g
 simp only at hk ⊢
 by_cases h1:e=0
 rotate_left
 ·refine bT (by simpa using h1) ?_
  rw[if_pos h1]
 subst h1
 have hk:=hk rfl
 obtain ⟨q,rfl⟩:=aA (show 0≤q by omega)
 refine (ae rfl _ _).trans ?_
 rw[if_neg (aq rfl)]
 generalize ak u=n
 by_cases h2:n<0
 ·refine bT (decide_eq_true h2) ?_
  rw[if_pos h2]
 refine bF (decide_eq_false h2) ?_
 rw[if_neg h2]
 by_cases h3:32768<n
 ·refine bT (decide_eq_true (show dW 32768 0<n from h3)) ?_
  rw[if_pos h3]
 refine bF (decide_eq_false (show ¬ dW 32768 0<n from h3)) ?_
 refine bF (decide_eq_false h3) ?_
 rw[if_neg h3]
 have hx:=ft (b.drop q) n
 rw[zG,zG,List.take_length]
 refine bT (by simp only[zA,zB];omega) ?_
 refine bT (decide_eq_true (by simp;omega)) ?_
 have hx1:(ar (b.drop q) n).2≠0→(ar (b.drop q) n).1=[]:=by rw[hx];exact iQ _ _ _ _
 clear hx
 generalize ar (b.drop q) n=x at *
 obtain ⟨o,f⟩:=x
 simp only at hx1 ⊢
 by_cases h4:f=4
 ·subst h4
  refine (aa rfl _ _).trans ?_
  rw[if_pos (.inl rfl)]
  all_goals rfl
 refine bF (by simpa using h4) ?_
 by_cases h5:f=0
 ·subst h5
  refine (aa rfl _ _).trans ?_
  by_cases h6:(o.length:Int)<n
  ·refine bT (decide_eq_true h6) ?_
   rw[if_pos (.inr ⟨rfl,h6⟩)]
  ·refine bF (decide_eq_false h6) ?_
   rw[if_neg (by rintro (h | h);cases h;exact h6 h.2),if_neg (aq rfl)]
   all_goals rfl
 ·refine bF (by simpa using h5) ?_
  rw[if_neg (by rintro (h | h);exact h4 h;exact h5 h.1),if_pos h5]
  exact aa (by simpa using h5) _ _
abbrev kG:Io:=⟨[dL,dI],[],[],[dO,dI],none⟩
def DZ (d:kG.In):Tr kG.Res:=.ite (decide ((d.1.2.1:Int)=(32768:Int))&&decide (d.1.1.length≤4294960000)) (.ret (.ret (((bf d.1.1).1,(bf d.1.1).2,()),()))) .no
abbrev Gr:List (Nat×Hc):=[(113,ah O9 yv),(114,ah kO D6)]
def OK:Hd:=bA Gr
def Hp:Lp:=bQ []
def wK (a0:LI)(a1:Int):Option kG.Res:=bif (ab 10 1 a0 0).2.2 != 0 then oR (([],(ab 10 1 a0 0).2.2,()),()) else bif decide (ak (ab 10 1 a0 0).1<0) then oR (([],5,()),()) else bif decide (32768<ak (ab 10 1 a0 0).1) then oR (([],4,()),()) else bif decide (a1<ak (ab 10 1 a0 0).1) then bif decide (0≤a1) then oR (([],4,()),()) else bif decide (0<ak (ab 10 1 a0 0).1) then oR (([],4,()),()) else bif decide (0≤(ab 10 1 a0 0).2.1)&&(decide ((ab 10 1 a0 0).2.1≤(↑a0.length:Int))&&decide ((↑a0.length:Int)≤(↑a0.length:Int))) then bif decide ((List.drop (ab 10 1 a0 0).2.1.toNat (List.take (↑a0.length:Int).toNat a0)).length≤4294960000) then bif (ar (List.drop (ab 10 1 a0 0).2.1.toNat (List.take (↑a0.length:Int).toNat a0)) (ak (ab 10 1 a0 0).1)).2 == 4 then oR (([],60,()),()) else bif (ar (List.drop (ab 10 1 a0 0).2.1.toNat (List.take (↑a0.length:Int).toNat a0)) (ak (ab 10 1 a0 0).1)).2 == 0 then bif decide ((↑(ar (List.drop (ab 10 1 a0 0).2.1.toNat (List.take (↑a0.length:Int).toNat a0)) (ak (ab 10 1 a0 0).1)).1.length:Int)<ak (ab 10 1 a0 0).1) then oR (([],60,()),()) else bif (ar (List.drop (ab 10 1 a0 0).2.1.toNat (List.take (↑a0.length:Int).toNat a0)) (ak (ab 10 1 a0 0).1)).2 != 0 then oR (([],(ar (List.drop (ab 10 1 a0 0).2.1.toNat (List.take (↑a0.length:Int).toNat a0)) (ak (ab 10 1 a0 0).1)).2,()),()) else oR (((ar (List.drop (ab 10 1 a0 0).2.1.toNat (List.take (↑a0.length:Int).toNat a0)) (ak (ab 10 1 a0 0).1)).1,0,()),()) else bif (ar (List.drop (ab 10 1 a0 0).2.1.toNat (List.take (↑a0.length:Int).toNat a0)) (ak (ab 10 1 a0 0).1)).2 != 0 then oR (([],(ar (List.drop (ab 10 1 a0 0).2.1.toNat (List.take (↑a0.length:Int).toNat a0)) (ak (ab 10 1 a0 0).1)).2,()),()) else oR (((ar (List.drop (ab 10 1 a0 0).2.1.toNat (List.take (↑a0.length:Int).toNat a0)) (ak (ab 10 1 a0 0).1)).1,0,()),()) else none else none else bif decide (0≤(ab 10 1 a0 0).2.1)&&(decide ((ab 10 1 a0 0).2.1≤(↑a0.length:Int))&&decide ((↑a0.length:Int)≤(↑a0.length:Int))) then bif decide ((List.drop (ab 10 1 a0 0).2.1.toNat (List.take (↑a0.length:Int).toNat a0)).length≤4294960000) then bif (ar (List.drop (ab 10 1 a0 0).2.1.toNat (List.take (↑a0.length:Int).toNat a0)) (ak (ab 10 1 a0 0).1)).2 == 4 then oR (([],60,()),()) else bif (ar (List.drop (ab 10 1 a0 0).2.1.toNat (List.take (↑a0.length:Int).toNat a0)) (ak (ab 10 1 a0 0).1)).2 == 0 then bif decide ((↑(ar (List.drop (ab 10 1 a0 0).2.1.toNat (List.take (↑a0.length:Int).toNat a0)) (ak (ab 10 1 a0 0).1)).1.length:Int)<ak (ab 10 1 a0 0).1) then oR (([],60,()),()) else bif (ar (List.drop (ab 10 1 a0 0).2.1.toNat (List.take (↑a0.length:Int).toNat a0)) (ak (ab 10 1 a0 0).1)).2 != 0 then oR (([],(ar (List.drop (ab 10 1 a0 0).2.1.toNat (List.take (↑a0.length:Int).toNat a0)) (ak (ab 10 1 a0 0).1)).2,()),()) else oR (((ar (List.drop (ab 10 1 a0 0).2.1.toNat (List.take (↑a0.length:Int).toNat a0)) (ak (ab 10 1 a0 0).1)).1,0,()),()) else bif (ar (List.drop (ab 10 1 a0 0).2.1.toNat (List.take (↑a0.length:Int).toNat a0)) (ak (ab 10 1 a0 0).1)).2 != 0 then oR (([],(ar (List.drop (ab 10 1 a0 0).2.1.toNat (List.take (↑a0.length:Int).toNat a0)) (ak (ab 10 1 a0 0).1)).2,()),()) else oR (((ar (List.drop (ab 10 1 a0 0).2.1.toNat (List.take (↑a0.length:Int).toNat a0)) (ak (ab 10 1 a0 0).1)).1,0,()),()) else none else none
theorem Nc (a0:LI)(a1:Int):Io.run tt OK dr Hp kG Tryz.f79 ((a0,a1,()),())=wK a0 a1:=by kernel_rfl
theorem Pm:HcOk prog 79 (ah kG DZ):=by
 refine bW (cs:=Gr) (.cons HT (.cons Pw .nil)) (lp:=Hp) (fn:=Tryz.f79) kG (.done (by kernel_rfl)) DZ ?_
 rintro ⟨⟨(b:LI),(most:Int),⟨⟩⟩,⟨⟩⟩ o hw ho
 obtain ⟨hg,ho⟩:=Tr.guard ho
 simp only[zA,zB] at hg
 obtain ⟨h0,hl⟩:=hg
 have h0:most=32768:=h0
 have hl:b.length≤4294960000:=hl
 subst h0
 cases ho
 refine (Nc b 32768).trans ?_
 show _=oR (((bf b).1,(bf b).2,()),())
 unfold wK bf
 have hk:=@mz 10 1 b 0
 generalize hge:ab 10 1 b 0=g at *
 obtain ⟨u,q,e⟩:=g
 simp only at hk ⊢
 by_cases h1:e=0
 rotate_left
 ·refine bT (by simpa using h1) ?_
  rw[if_pos h1]
 subst h1
 have hk:=hk rfl
 obtain ⟨q,rfl⟩:=aA (show 0≤q by omega)
 refine (ae rfl _ _).trans ?_
 rw[if_neg (aq rfl)]
 generalize ak u=n
 by_cases h2:n<0
 ·refine bT (decide_eq_true h2) ?_
  rw[if_pos h2]
 refine bF (decide_eq_false h2) ?_
 rw[if_neg h2]
 by_cases h3:32768<n
 ·refine bT (decide_eq_true h3) ?_
  rw[if_pos h3]
 refine bF (decide_eq_false h3) ?_
 refine bF (decide_eq_false h3) ?_
 rw[if_neg h3]
 have hx:=ft (b.drop q) n
 rw[zG,zG,List.take_length]
 refine bT (by simp only[zA,zB];omega) ?_
 refine bT (decide_eq_true (by simp;omega)) ?_
 have hx1:(ar (b.drop q) n).2≠0→(ar (b.drop q) n).1=[]:=by rw[hx];exact iQ _ _ _ _
 clear hx
 generalize ar (b.drop q) n=x at *
 obtain ⟨o,f⟩:=x
 simp only at hx1 ⊢
 by_cases h4:f=4
 ·subst h4
  refine (aa rfl _ _).trans ?_
  rw[if_pos (.inl rfl)]
  all_goals rfl
 refine bF (by simpa using h4) ?_
 by_cases h5:f=0
 ·subst h5
  refine (aa rfl _ _).trans ?_
  by_cases h6:(o.length:Int)<n
  ·refine bT (decide_eq_true h6) ?_
   rw[if_pos (.inr ⟨rfl,h6⟩)]
  ·refine bF (decide_eq_false h6) ?_
   rw[if_neg (by rintro (h | h);cases h;exact h6 h.2),if_neg (aq rfl)]
   all_goals rfl
 ·refine bF (by simpa using h5) ?_
  rw[if_neg (by rintro (h | h);exact h4 h;exact h5 h.1),if_pos h5]
  exact aa (by simpa using h5) _ _
abbrev bv:Ty:=.prod (.int .i64) (.prod yf (.prod yf (.prod FJ .unit)))
abbrev QC:Ty:=.sl 91 bv
abbrev aZ:Ty:=.prod (.int .i64) (.prod (.int .i32) (.prod (.int .i64) (.prod (.int .i16) (.prod (.int .i32) (.prod QC .unit)))))
abbrev Sz:Ty:=.prod (.int .i64) (.prod (.int .i64) (.prod (.int .i32) (.prod .bool (.prod (.int .i64) (.prod (.int .i64) (.prod (.int .i64) (.prod (.int .i64) (.prod (.int .i16) (.prod (.int .i32) .unit)))))))))
abbrev bJ:Type:=Int×AO×AO×List cE×Unit
abbrev aX:Type:=Int×Int×Int×Int×Int×List bJ×Unit
abbrev wl:Type:=Int×Int×Int×Bool×Int×Int×Int×Int×Int×Int×Unit
abbrev QI:Sh:=.dat bv true false
abbrev BT:Sh:=.dat QC false false
abbrev BS:Sh:=.dat aZ true false
abbrev K2:Sh:=.dat Sz true false
def te:aX:=(0,0,0,0,0,[],())
def bx:wl:=(0,0,0,false,0,0,0,0,0,0,())
def tf:bJ:=(0,(false,[],()),(false,[],()),[],())
def aQ (base:Int):Bool:=decide (base<0) || decide (4611686018427387648<base)
def aW (pid ep sq:Int):Bool:=if pid = -1∧ep = -1∧sq = -1∨0≤pid∧0≤ep∧0≤sq then false else true
def aK (n:Int):Bool:=if -9223372036854775808≤n∧n≤9223372036854775807 then true else false
def aI (rs:List bJ):Int:=match rs with
 |[]=>0
 |r::_=>r.1
def dF (f:Int)(i:Nat)(r:bJ):nh:=(r.1 - f,(i:Int),r.2.1,r.2.2.1,r.2.2.2.1,())
def bu (f:Int):List bJ→Nat→LI→LI×Int
 |[],_,out=>(out,0)
 |r::rs,i,out=>
  if aK (r.1 - f)=false then ([],86)
  else if bC (dF f i r)≠0 then ([],bC (dF f i r))
  else bu f rs (i+1) (out++(cr (dF f i r)).1)
def bp (rs:List bJ):LI×Int:=
 if (bu (aI rs) rs 0 []).2≠0 then ([],(bu (aI rs) rs 0 []).2)
 else if 32768<((bu (aI rs) rs 0 []).1.length:Int) then ([],4)
 else ((bu (aI rs) rs 0 []).1,0)
def aO (b:aX):Int:=
 if aQ b.1=true then 80
 else if aW b.2.2.1 b.2.2.2.1 b.2.2.2.2.1=true then 84
 else if b.2.2.2.2.2.1=[] then 85
 else if 256<(b.2.2.2.2.2.1.length:Int) then 9
 else (bp b.2.2.2.2.2.1).2
def eV (b:aX):LI×Int:=if aO b≠0 then ([],aO b) else ((bp b.2.2.2.2.2.1).1,0)
def dT:List bJ→Int→Int
 |[],t=>t
 |r::rs,t=>dT rs (dW t r.1)
def dD (rs:List bJ):Int:=match rs with
 |[]=>-9223372036854775808
 |r::rs=>dT rs r.1
def b7 (b:aX)(attrs:Int)(blk:LI):LI:=
 az attrs 2++(az ((b.2.2.2.2.2.1.length:Int) - 1) 4++(az (aI b.2.2.2.2.2.1) 8++(az (dD b.2.2.2.2.2.1) 8++(az b.2.2.1 8++(az b.2.2.2.1 2++(az b.2.2.2.2.1 4++(az (b.2.2.2.2.2.1.length:Int) 4++blk)))))))
def my (b:aX)(attrs:Int)(blk:LI):LI:=
 az b.1 8++(az (49+(blk.length:Int)) 4++(az b.2.1 4++([2]++(az (cB 0 (b7 b attrs blk)) 4++b7 b attrs blk))))
def bN (b:aX):LI×Int:=if aO b≠0 then ([],aO b) else (my b 0 (bp b.2.2.2.2.2.1).1,0)
def av (b:LI)(p n:Nat):Int:=co ((b.drop p).take n)
def aw (b:LI)(p:Int):Int×Int:=
 if p<0∨(b.length:Int)<p then (0,3)
 else if (b.length:Int) - p<12 then (0,1)
 else if av b (p.toNat+8) 4<49 then (0,5)
 else if 35988<av b (p.toNat+8) 4 then (0,4)
 else if (b.length:Int) - p - 12<av b (p.toNat+8) 4 then (0,1)
 else (av b (p.toNat+8) 4+12,0)
def ff (b:LI):Bool:=if (b.drop 17).take 4=az (cB 0 (b.drop 21)) 4 then true else false
def iS (b:LI):wl:=(av b 0 8,(b.length:Int),av b 12 4,decide (b.getD 22 0=1),av b 57 4,av b 27 8,av b 35 8,av b 43 8,av b 51 2,av b 53 4,())
def ba (b:LI)(summing:Bool):Int:=
 if (b.length:Int)<61 then 1
 else if (aw b 0).2≠0 then (aw b 0).2
 else if (aw b 0).1<(b.length:Int) then 2
 else if b.getD 16 0≠2 then 81
 else if summing=true∧ff b=false then 82
 else if aQ (av b 0 8)=true then 80
 else if b.getD 21 0≠0∨1<b.getD 22 0 then 83
 else if aW (av b 43 8) (av b 51 2) (av b 53 4)=true then 84
 else if av b 57 4<1 then 85
 else if 256<av b 57 4 then 9
 else if av b 23 4≠av b 57 4 - 1 then 72
 else 0
def aj (b:LI)(summing:Bool):wl×Int:=if ba b summing≠0 then (bx,ba b summing) else (iS b,0)
def aF (blk:LI)(f:Int):Nat→Nat→Int→List bJ→List bJ×Int×Int
 |0,_,p,out=>(out,p,0)
 |n+1,i,p,out=>
  if (an blk p).2.2≠0 then ([],0,(an blk p).2.2)
  else if (an blk p).1.2.1≠(i:Int) then ([],0,72)
  else if i=0∧(an blk p).1.1≠0∨aK (f+(an blk p).1.1)=false then ([],0,86)
  else aF blk f n (i+1) (an blk p).2.1 (out++[(f+(an blk p).1.1,(an blk p).1.2.2.1,(an blk p).1.2.2.2.1,(an blk p).1.2.2.2.2.1,())])
def cU (blk:LI)(f l:Int)(n:Nat):List bJ×Int:=
 if (aF blk f n 0 0 []).2.2≠0 then ([],(aF blk f n 0 0 []).2.2)
 else if (aF blk f n 0 0 []).2.1<(blk.length:Int) then ([],2)
 else if dD (aF blk f n 0 0 []).1≠l then ([],86)
 else ((aF blk f n 0 0 []).1,0)
def aN (b:LI)(packed:Bool):LI×Int:=
 if packed=true then bf (b.drop 61) else if 32768<((b.drop 61).length:Int) then ([],4) else (b.drop 61,0)
def d9 (b:LI):List bJ×Int:=
 if ba b true≠0 then ([],ba b true)
 else if (aN b (decide (b.getD 22 0=1))).2≠0 then ([],(aN b (decide (b.getD 22 0=1))).2)
 else cU (aN b (decide (b.getD 22 0=1))).1 (av b 27 8) (av b 35 8) (av b 57 4).toNat
def aE (b:LI):aX×Int:=
 if (d9 b).2≠0 then (te,(d9 b).2) else ((av b 0 8,av b 12 4,av b 43 8,av b 51 2,av b 53 4,(d9 b).1,()),0)
def aP (b:LI)(base epoch:Int):LI×Int:=
 if (aE b).2≠0 then ([],(aE b).2)
 else if aQ base=true then ([],80)
 else (az base 8++((b.drop 8).take 4++(az epoch 4++b.drop 16)),0)
abbrev d8:Sh:=.dat (.int .i8) false false
abbrev uI:Io:=⟨[.ptr 0 0,d8],[Pc],[],[dI],none⟩
def Of (d:uI.In):Tr uI.Res:=
 .ite (dd d.2.1.1 d.2.1.2.1) (.ret (.ret (((cw d.2.1.1 d.2.1.2.1 d.1.2.1 1).1,()),(((cw d.2.1.1 d.2.1.2.1 d.1.2.1 1).2,(d.2.1.2.1,())),())))) .no
abbrev Qv:List (Nat×Hc):=[(129,ah dJ j6)]
def Sk:Hd:=bA Qv
def Qy:Lp:=bQ []
def Ga (a0:Int)(a1:LI)(a2:Int):Option uI.Res:=bif dd a1 a2&&(decide (0≤1)&&decide (1≤8)) then oR (((cw a1 a2 (u64.wrap a0) (Int.toNat 1)).1,()),((cw a1 a2 (u64.wrap a0) (Int.toNat 1)).2,a2,()),()) else none
theorem RF (a0:Int)(a1:LI)(a2:Int):Io.run tt Sk dr Qy uI Tryz.f92 (((),a0,()),(a1,a2,()),())=Ga a0 a1 a2:=by kernel_rfl
theorem Sr:HcOk prog 92 (ah uI Of):=by
 refine bW (cs:=Qv) (.cons m9 .nil) (lp:=Qy) (fn:=Tryz.f92) uI (.done (by kernel_rfl)) Of ?_
 rintro ⟨⟨⟨⟩,(v:Int),⟨⟩⟩,⟨⟨(b:LI),(m:Int),⟨⟩⟩,⟨⟩⟩⟩ out hw ho
 obtain ⟨hg,ho⟩:=Tr.guard ho
 have hg:dd b m=true:=hg
 cases ho
 refine (RF v b m).trans ?_
 unfold Ga
 have e:cw b m (u64.wrap v) 1=cw b m v 1:=by unfold cw;rw[p5 v (by decide)]
 simp[hg,e]
abbrev n6:Io:=⟨[.ptr 0 0],[Qz],[],[d8,dI],none⟩
def FY (d:n6.In):Tr n6.Res:=
 .ite (cV d.2.1.1 d.2.1.2.1) (.ret (.ret ((i8.wrap (bX d.2.1.1 d.2.1.2.1 1).1,((bX d.2.1.1 d.2.1.2.1 1).2.2,())),((d.2.1.1,((bX d.2.1.1 d.2.1.2.1 1).2.1,())),())))) .no
abbrev KQ:List (Nat×Hc):=[(132,ah cS gW)]
def Q0:Hd:=bA KQ
def L8:Lp:=bQ []
def Bg (a0:LI)(a1:Int):Option n6.Res:=bif cV a0 a1&&(decide (0≤1)&&decide (1≤8)) then oR ((i8.wrap (bX a0 a1 (Int.toNat 1)).1,(bX a0 a1 (Int.toNat 1)).2.2,()),(a0,(bX a0 a1 (Int.toNat 1)).2.1,()),()) else none
theorem PZ (a0:LI)(a1:Int):Io.run tt Q0 dr L8 n6 Tryz.f106 (((),()),(a0,a1,()),())=Bg a0 a1:=by kernel_rfl
theorem Rp:HcOk prog 106 (ah n6 FY):=by
 refine bW (cs:=KQ) (.cons la .nil) (lp:=L8) (fn:=Tryz.f106) n6 (.done (by kernel_rfl)) FY ?_
 rintro ⟨⟨⟨⟩,⟨⟩⟩,⟨⟨(b:LI),(p:Int),⟨⟩⟩,⟨⟩⟩⟩ out hw ho
 obtain ⟨hg,ho⟩:=Tr.guard ho
 have hg:cV b p=true:=hg
 cases ho
 refine (PZ b p).trans ?_
 unfold Bg
 rw[aa (by simp[hg])]
 rfl
abbrev jf:Io:=⟨[.dat (.sl 22 bs) false false],[],[],[dO],none⟩
def yn (d:jf.In):Tr jf.Res:=.ite (decide (ap d.1.1≤4294967296)) (.ret (.ret ((bP d.1.1,()),()))) .no
abbrev yZ:List (Nat×Hc):=[]
def GU:Hd:=bA yZ
abbrev eB:Lo:=⟨⟨(.any::bh (.one (.onl 5 (Ty.int u8) 7)::.any::bh (.one (.hol (.sl 22 (Ty.sl 5 (Ty.int u8))))::.one hI::.one hI::cy []))),[]⟩,[(.exit 0,⟨(.any::bh (.one (.onl 5 (Ty.int u8) 7)::cy (bz (bh [])))),[]⟩)]⟩
def lD (d:eB.st.den):Tr (ao eB.xs):=
 .ite (decide (d.1.2.2.2.1=0)&&(decide (d.1.2.2.1=(d.1.2.1.length:Int))&&decide (d.1.1.length+ap d.1.2.1≤4294967296))) (.ret (.ret ((),((d.1.1++bP d.1.2.1,()),())))) .no
def sY:Lp:=bQ [(4,aG eB lD)]
def rY {R:Type}(h1:LI)(h2:List bs.den)(h3 h4:Int)(next:LI→List bs.den→Int→Int→Option R)(out:ao eB.xs→Option R):Option R:=bif decide (h4<h3) then bif decide (0≤h4)&&decide (h4<(↑h2.length:Int)) then bif decide (h1.length+List.length (h2.getD h4.toNat [])≤4294967296) then next (h1++h2.getD h4.toNat []) (h2) (h3) (i64.wrap (h4+1)) else none else none else out (.ret ((),((h1,()),())))
def qP (n:Nat)(h1:LI)(h2:List bs.den)(h3 h4:Int):Option (ao eB.xs):=fV tt GU dr sY 0 Tryz.f66 (b9 Tryz.f66 0) n (eB.st.mk' ((h1,(h2,(h3,(h4,())))),())) (bH eB.xs)
theorem JC (n:Nat)(h1:LI)(h2:List bs.den)(h3 h4:Int):qP (n+1) h1 h2 h3 h4=rY h1 h2 h3 h4 (qP n) some:=by kernel_rfl
theorem CC (ps:List (LI))(hl:ps.length≤maxLen):∀(k i:Nat) (b:LI),ps.length<i+k→i≤ps.length→b.length+ap (ps.drop i)≤4294967296→
  qP k b ps (ps.length:Int) i=some (.ret ((),((b++bP (ps.drop i),()),()))):=by
 intro k
 induction k with
 |zero=>intro i b h;omega
 |succ k ih=>
  intro i b h1 h2 h3
  rw[JC]
  unfold rY
  by_cases hi:i<ps.length
  ·rw[jN hi] at h3
   rw[rT hi]
   have e:List.getD ps (i:Int).toNat []=ps[i]:=by simp only[zG,aC hi]
   rw[aa (by simpa using hi),aa (by simpa using hi),e,aM hi hl,aa (by simp;omega),ih (i+1) _ (by omega) (by omega) (by simp;omega),zK]
  ·rw[ae (by simp;omega),zI (by omega)]
   simp[bP]
def wA (a0:List bs.den):Option jf.Res:=(lD (([],(a0,((↑a0.length:Int),(0,())))),())).run fun y=>match y with | .ret ((),((x10,()),()))=>(oR ((x10,()),()))
theorem M2 (a0:List bs.den):Io.run tt GU dr sY jf Tryz.f66 ((a0,()),())=wA a0:=by kernel_rfl
theorem An:HcOk prog 66 (ah jf yn):=by
 refine bW (cs:=yZ) HcsOk.nil (lp:=sY) (fn:=Tryz.f66) jf (.step (h0:=aG eB lD) (by kernel_rfl) (gi (cs:=yZ) HcsOk.nil (lp:=sY) (fn:=Tryz.f66) (.done (by kernel_rfl)) eB lD ?_) (.done (by kernel_rfl))) yn ?_
 ·rintro ⟨⟨b,ps,n,i,⟨⟩⟩,⟨⟩⟩ y hw hy
  obtain ⟨hg,hy⟩:=Tr.guard hy
  simp only[zA,zB] at hg
  obtain ⟨rfl,rfl,h4⟩:=hg
  refine ⟨ps.length+1,(CC ps hw.1.2.1.1 _ 0 b (by omega) (by omega) (by simpa using h4)).trans ?_⟩
  rw[← hy];rfl
 ·rintro ⟨⟨(ps:List (LI)),⟨⟩⟩,⟨⟩⟩ out hw ho
  obtain ⟨hg,ho⟩:=Tr.guard ho
  have hg:ap ps≤4294967296:=of_decide_eq_true hg
  cases ho
  refine (M2 ps).trans ?_
  unfold wA lD
  refine bT (by simp only[zA,zB];exact ⟨trivial,trivial,by simpa using hg⟩) ?_
  rfl
theorem gH {n:Int}(h:bt .i64 n) : -9223372036854775808≤n∧n≤9223372036854775807:=by
 simpa [bt,IntKind.min,IntKind.max,IntKind.signed,IntKind.bits] using h
theorem EF {n:Int}(h:bt .i32 n) : -2147483648≤n∧n≤2147483647:=by
 simpa [bt,IntKind.min,IntKind.max,IntKind.signed,IntKind.bits] using h
theorem N7 {n:Int}(h1:9223372036854775807<n)(h2:n≤18446744073709551615):i64.wrap n=n - 18446744073709551616:=by
 simp[IntKind.wrap,IntKind.signed,IntKind.bits] <;> (try split) <;> omega
theorem N8 {n:Int}(h1:n < -9223372036854775808)(h2 : -18446744073709551616≤n):i64.wrap n=n+18446744073709551616:=by
 simp[IntKind.wrap,IntKind.signed,IntKind.bits] <;> (try split) <;> omega
theorem B7 {n:Int}(h1 : -9223372036854775808≤n)(h2:n≤9223372036854775807):aK n=true:=by unfold aK;rw[if_pos ⟨h1,h2⟩]
theorem mN {n:Int}(h:¬(-9223372036854775808≤n∧n≤9223372036854775807)):aK n=false:=by unfold aK;rw[if_neg h]
theorem fb {n:Int}:aK n=true↔-9223372036854775808≤n∧n≤9223372036854775807:=by
 unfold aK
 split
 ·rename_i h;exact ⟨fun _=>h,fun _=>rfl⟩
 ·rename_i h;exact ⟨fun h'=>Bool.noConfusion h',fun h'=>absurd h' h⟩
theorem Oy {t f:Int}(ht:bt .i64 t)(hf:bt .i64 f):(decide (i64.wrap (t - f)<0) == decide (t<f))=aK (t - f):=by
 have h1:=gH ht
 have h2:=gH hf
 by_cases a : -9223372036854775808≤t - f
 ·by_cases b:t - f≤9223372036854775807
  ·rw[B7 a b,af a b]
   by_cases c:t<f
   ·rw[decide_eq_true c,decide_eq_true (show t - f<0 by omega)];rfl
   ·rw[decide_eq_false c,decide_eq_false (show ¬ t - f<0 by omega)];rfl
  ·rw[mN (fun h=>b h.2),N7 (by omega) (by omega),decide_eq_true (show t - f - 18446744073709551616<0 by omega),decide_eq_false (show ¬ t<f by omega)];rfl
 ·rw[mN (fun h=>a h.1),N8 (by omega) (by omega),decide_eq_false (show ¬ t - f+18446744073709551616<0 by omega),decide_eq_true (show t<f by omega)];rfl
theorem Ox {d f:Int}(hd:bt .i64 d)(hf:bt .i64 f):(decide (i64.wrap (f+d)<f) == decide (d<0))=aK (f+d):=by
 have h1:=gH hd
 have h2:=gH hf
 by_cases a : -9223372036854775808≤f+d
 ·by_cases b:f+d≤9223372036854775807
  ·rw[B7 a b,af a b]
   by_cases c:d<0
   ·rw[decide_eq_true c,decide_eq_true (show f+d<f by omega)];rfl
   ·rw[decide_eq_false c,decide_eq_false (show ¬ f+d<f by omega)];rfl
  ·rw[mN (fun h=>b h.2),N7 (by omega) (by omega),decide_eq_true (show f+d - 18446744073709551616<f by omega),decide_eq_false (show ¬ d<0 by omega)];rfl
 ·rw[mN (fun h=>a h.1),N8 (by omega) (by omega),decide_eq_false (show ¬ f+d+18446744073709551616<f by omega),decide_eq_true (show d<0 by omega)];rfl
theorem RJ:∀{l:LI},(∀c∈l,0≤c∧c≤255)→l.length=1→i8.wrap (aV l)=co l
 |[a],h,_=>by
  have ha:=h a (by simp)
  simp only[aV,co,List.foldl_cons,List.foldl_nil]
  simp[IntKind.wrap,IntKind.signed,IntKind.bits] <;> (try split) <;> omega
theorem tc:∀{l:LI},(∀c∈l,0≤c∧c≤255)→l.length=2→i16.wrap (aV l)=co l
 |[a,b],h,_=>by
  have ha:=h a (by simp)
  have hb:=h b (by simp)
  simp only[aV,co,List.foldl_cons,List.foldl_nil]
  simp[IntKind.wrap,IntKind.signed,IntKind.bits] <;> (try split) <;> omega
theorem na:∀{l:LI},(∀c∈l,0≤c∧c≤255)→l.length=4→i32.wrap (aV l)=co l
 |[a,b,c,d],h,_=>by
  have ha:=h a (by simp)
  have hb:=h b (by simp)
  have hc:=h c (by simp)
  have hd:=h d (by simp)
  simp only[aV,co,List.foldl_cons,List.foldl_nil]
  simp[IntKind.wrap,IntKind.signed,IntKind.bits] <;> (try split) <;> omega
theorem AA:∀{l:LI},(∀c∈l,0≤c∧c≤255)→l.length=8→i64.wrap (aV l)=co l
 |[a,b,c,d,e,f,g,i],h,_=>by
  have ha:=h a (by simp)
  have hb:=h b (by simp)
  have hc:=h c (by simp)
  have hd:=h d (by simp)
  have he:=h e (by simp)
  have hf:=h f (by simp)
  have hg:=h g (by simp)
  have hi:=h i (by simp)
  simp only[aV,co,List.foldl_cons,List.foldl_nil]
  simp[IntKind.wrap,IntKind.signed,IntKind.bits] <;> (try split) <;> omega
theorem NB:∀{l:LI},(∀c∈l,0≤c∧c≤255)→l.length=4→-2147483648≤co l∧co l≤2147483647:=fun h hl=>by
 rw[← na h hl]
 exact EF (bS _ _)
theorem dR {b:LI}(hb:∀c∈b,0≤c∧c≤255)(p n:Nat):∀c∈(b.drop p).take n,0≤c∧c≤255:=fun c hc=>hb c (List.mem_of_mem_drop (List.mem_of_mem_take hc))
theorem cA {b:LI}{p n:Nat}(h:p+n≤b.length):((b.drop p).take n).length=n:=by simp;omega
abbrev gQ:Io:=⟨[gL],[],[],[dB],none⟩
def th (d:gQ.In):Tr gQ.Res:=.ret (.ret ((aQ d.1.1,()),()))
abbrev Gc:List (Nat×Hc):=[]
def OA:Hd:=bA Gc
def Hf:Lp:=bQ []
def wt (a0:Int):Option gQ.Res:=bif decide (a0<0) then oR ((true,()),()) else oR ((decide (4611686018427387648<a0),()),())
theorem MV (a0:Int):Io.run tt OA dr Hf gQ Tryz.f100 ((a0,()),())=wt a0:=by kernel_rfl
theorem Am:HcOk prog 100 (ah gQ th):=by
 refine bW (cs:=Gc) HcsOk.nil (lp:=Hf) (fn:=Tryz.f100) gQ (.done (by kernel_rfl)) th ?_
 rintro ⟨⟨(b:Int),⟨⟩⟩,⟨⟩⟩ out hw ho
 cases ho
 refine (MV b).trans ?_
 show _=oR ((decide (b<0) || decide (4611686018427387648<b),()),())
 unfold wt
 by_cases h:b<0
 ·refine bT (decide_eq_true h) ?_
  rw[decide_eq_true h];rfl
 ·refine bF (decide_eq_false h) ?_
  rw[decide_eq_false h];rfl
abbrev gR:Io:=⟨[gL,SI,Iw],[],[],[dB],none⟩
def ym (d:gR.In):Tr gR.Res:=.ret (.ret ((aW d.1.1 d.1.2.1 d.1.2.2.1,()),()))
abbrev Gg:List (Nat×Hc):=[]
def OE:Hd:=bA Gg
def Hj:Lp:=bQ []
def wy (a0 a1 a2:Int):Option gR.Res:=bif a0 == -1 then bif a1 == -1 then bif decide (0≤a0) then bif decide (0≤a1) then bif !a2 == -1 then oR ((!decide (0≤a2),()),()) else oR ((false,()),()) else bif !a2 == -1 then oR ((true,()),()) else oR ((false,()),()) else bif !a2 == -1 then oR ((true,()),()) else oR ((false,()),()) else bif decide (0≤a0) then bif decide (0≤a1) then oR ((!decide (0≤a2),()),()) else oR ((true,()),()) else oR ((true,()),()) else bif decide (0≤a0) then bif decide (0≤a1) then oR ((!decide (0≤a2),()),()) else oR ((true,()),()) else oR ((true,()),())
theorem M0 (a0 a1 a2:Int):Io.run tt OE dr Hj gR Tryz.f108 ((a0,a1,a2,()),())=wy a0 a1 a2:=by kernel_rfl
theorem HO:HcOk prog 108 (ah gR ym):=by
 refine bW (cs:=Gg) HcsOk.nil (lp:=Hj) (fn:=Tryz.f108) gR (.done (by kernel_rfl)) ym ?_
 rintro ⟨⟨(pid:Int),(ep:Int),(sq:Int),⟨⟩⟩,⟨⟩⟩ out hw ho
 cases ho
 refine (M0 pid ep sq).trans ?_
 show _=oR (((if pid = -1∧ep = -1∧sq = -1∨0≤pid∧0≤ep∧0≤sq then false else true),()),())
 have hs:(!decide (0≤sq))=if 0≤sq then false else true:=by by_cases h:0≤sq <;> simp[h]
 have key:∀c:Prop,[Decidable c]→∀b:Bool,(b=false↔c)→some (Out.ret ((b,()),()):gR.Res)=oR (((if c then false else true),()),()):=by
  intro c _ b h
  by_cases hc:c
  ·rw[if_pos hc,h.2 hc]
  ·rw[if_neg hc]
   cases b with
   |true=>rfl
   |false=>exact absurd (h.1 rfl) hc
 unfold wy
 by_cases h1:pid = -1
 ·refine bT (by simp[h1]) ?_
  by_cases h2:ep = -1
  ·refine bT (by simp[h2]) ?_
   refine bF (decide_eq_false (by omega)) ?_
   by_cases h3:sq = -1
   ·refine bF (by simp[h3]) ?_
    exact key _ _ (by simp;omega)
   ·refine bT (by simp[h3]) ?_
    exact key _ _ (by simp;omega)
  ·refine bF (by simp[h2]) ?_
   refine bF (decide_eq_false (by omega)) ?_
   exact key _ _ (by simp;omega)
 ·refine bF (by simp[h1]) ?_
  by_cases h2:0≤pid
  ·refine bT (decide_eq_true h2) ?_
   by_cases h3:0≤ep
   ·refine bT (decide_eq_true h3) ?_
    exact key _ _ (by simp;omega)
   ·refine bF (decide_eq_false h3) ?_
    exact key _ _ (by simp;omega)
  ·refine bF (decide_eq_false h2) ?_
   exact key _ _ (by simp;omega)
abbrev iv:Io:=⟨[gL,gL],[],[],[gL,dB],none⟩
def yj (d:iv.In):Tr iv.Res:=.ret (.ret ((i64.wrap (d.1.1 - d.1.2.1),aK (d.1.1 - d.1.2.1),()),()))
abbrev By:List (Nat×Hc):=[]
def Ln:Hd:=bA By
def CP:Lp:=bQ []
def tI (a0 a1:Int):Option iv.Res:=oR ((i64.wrap (a0 - a1),decide (i64.wrap (a0 - a1)<0) == decide (a0<a1),()),())
theorem I7 (a0 a1:Int):Io.run tt Ln dr CP iv Tryz.f124 ((a0,a1,()),())=tI a0 a1:=by kernel_rfl
theorem Mm:HcOk prog 124 (ah iv yj):=by
 refine bW (cs:=By) HcsOk.nil (lp:=CP) (fn:=Tryz.f124) iv (.done (by kernel_rfl)) yj ?_
 rintro ⟨⟨(t:Int),(f:Int),⟨⟩⟩,⟨⟩⟩ out hw ho
 cases ho
 refine (I7 t f).trans ?_
 unfold tI
 rw[Oy hw.1.1 hw.1.2.1]
def cz (f:Int):List bJ→Nat→Bool
 |[],_=>true
 |r::rs,i=>lh (dF f i r)&&cz f rs (i+1)
abbrev je:Io:=⟨[BS],[],[],[dO,dI],none⟩
def qx (d:je.In):Tr je.Res:=.ite (cz (aI d.1.1.2.2.2.2.2.1) d.1.1.2.2.2.2.2.1 0) (.ret (.ret (((eV d.1.1).1,(eV d.1.1).2,()),()))) .no
abbrev Gi:List (Nat×Hc):=[(100,ah gQ th),(108,ah gR ym),(124,ah iv yj),(125,ah nS J9)]
def GT:Hd:=bA Gi
abbrev dg:Lo:=⟨⟨(.any::.one (.ptr 1 0)::bh (.one (.onl 5 (Ty.int u8) 9)::.any::ai (cy (bz (.one (.hol (.sl 91 bv))::.one hI::.one hI::ai (ai (cy (bh [])))))))),[none,some [hI,hJ,hI,hK,hJ,.hol (.sl 91 bv)]]⟩,[(.ret,⟨(bh (.one (.onl 5 (Ty.int u8) 5)::.one hI::.any::ai (ai (ai (ai (cy (bh []))))))),[]⟩),(.exit 1,⟨(bz (.one (.onl 5 (Ty.int u8) 9)::ai (ai (ai (ai (cy (bh []))))))),[]⟩)]⟩
def jQ (d:dg.st.den):Tr (ao dg.xs):=
 .ite (decide (d.1.2.2.2.1=0)&&(decide (d.1.2.2.1=(d.1.2.1.length:Int))&&(decide (d.1.1.length=0)&&((decide (aI d.2.1.2.2.2.2.2.1=aI d.1.2.1)&&decide (1≤d.2.1.2.2.2.2.2.1.length))&&(decide (d.1.2.1.length≤256)&&cz (aI d.1.2.1) d.1.2.1 0)))))
  (.ite (decide ((bu (aI d.1.2.1) d.1.2.1 0 []).2=0)) (.ret (.pan (.ret ((),(((bu (aI d.1.2.1) d.1.2.1 0 []).1,()),()))))) (.ret (.ret ((),(([],(bu (aI d.1.2.1) d.1.2.1 0 []).2,()),()))))) .no
def sX:Lp:=bQ [(12,aG dg jQ)]
def qg {R:Type}(h6:LI)(h7:List bv.den)(h8 h9 h10 h11 h12 h13 h14:Int)(h15:List bv.den)(next:LI→List bv.den→Int→Int→Int→Int→Int→Int→Int→List bv.den→Option R)(out:ao dg.xs→Option R):Option R:=bif decide (h9<h8) then bif decide (0≤h9)&&decide (h9<(↑h7.length:Int)) then bif decide (0≤0)&&decide (0<(↑h15.length:Int)) then bif !aK ((h7.getD h9.toNat (0,(false,[],()),(false,[],()),[],())).1 - (h15.getD (Int.toNat 0) (0,(false,[],()),(false,[],()),[],())).1) then out (.ret ((),(([],(86,())),()))) else bif lh (i64.wrap ((h7.getD h9.toNat (0,(false,[],()),(false,[],()),[],())).1 - (h15.getD (Int.toNat 0) (0,(false,[],()),(false,[],()),[],())).1),i32.wrap h9,(h7.getD h9.toNat (0,(false,[],()),(false,[],()),[],())).2) then bif (cr (i64.wrap ((h7.getD h9.toNat (0,(false,[],()),(false,[],()),[],())).1 - (h15.getD (Int.toNat 0) (0,(false,[],()),(false,[],()),[],())).1),i32.wrap h9,(h7.getD h9.toNat (0,(false,[],()),(false,[],()),[],())).2)).2 != 0 then out (.ret ((),(([],((cr (i64.wrap ((h7.getD h9.toNat (0,(false,[],()),(false,[],()),[],())).1 - (h15.getD (Int.toNat 0) (0,(false,[],()),(false,[],()),[],())).1),i32.wrap h9,(h7.getD h9.toNat (0,(false,[],()),(false,[],()),[],())).2)).2,())),()))) else bif decide (h6.length+(cr (i64.wrap ((h7.getD h9.toNat (0,(false,[],()),(false,[],()),[],())).1 - (h15.getD (Int.toNat 0) (0,(false,[],()),(false,[],()),[],())).1),i32.wrap h9,(h7.getD h9.toNat (0,(false,[],()),(false,[],()),[],())).2)).1.length≤4294967296) then next (h6++(cr (i64.wrap ((h7.getD h9.toNat (0,(false,[],()),(false,[],()),[],())).1 - (h15.getD (Int.toNat 0) (0,(false,[],()),(false,[],()),[],())).1),i32.wrap h9,(h7.getD h9.toNat (0,(false,[],()),(false,[],()),[],())).2)).1) (h7) (h8) (i64.wrap (h9+1)) (h10) (h11) (h12) (h13) (h14) (h15) else none else none else none else none else out (.pan (.ret ((),((h6,()),()))))
def ol (n:Nat)(h6:LI)(h7:List bv.den)(h8 h9 h10 h11 h12 h13 h14:Int)(h15:List bv.den):Option (ao dg.xs):=fV tt GT dr sX 0 Tryz.f87 (b9 Tryz.f87 0) n (dg.st.mk' ((h6,(h7,(h8,(h9,())))),((h10,(h11,(h12,(h13,(h14,(h15,())))))),()))) (bH dg.xs)
theorem Fk (n:Nat)(h6:LI)(h7:List bv.den)(h8 h9 h10 h11 h12 h13 h14:Int)(h15:List bv.den):ol (n+1) h6 h7 h8 h9 h10 h11 h12 h13 h14 h15=qg h6 h7 h8 h9 h10 h11 h12 h13 h14 h15 (ol n) some:=by kernel_rfl
theorem JM {r:nh}(h:bC r=0):(cr r).2=0∧(cr r).1.length≤16400:=by
 have e:cr r=(bG (be (cT r).length)++cT r,0):=by unfold cr;rw[if_pos h]
 rw[e]
 refine ⟨rfl,?_⟩
 have hs:(cT r).length≤16384:=by
  unfold bC at h
  split at h
  ·rename_i h1;exact absurd h h1
  ·split at h
   ·cases h
   ·omega
 have:=xZ (be (cT r).length)
 simp only[zH]
 omega
theorem vA {r:nh}(h:bC r≠0):(cr r).2=bC r:=by unfold cr;rw[if_neg h]
theorem zn (b1 b2 b3 b4 b5:Int)(rs0:List bJ)(h0:1≤rs0.length){f:Int}(hf0:aI rs0=f)(hf:bt .i64 f)(rs:List bJ)(hl:rs.length≤256)(hr:∀r∈rs,bt .i64 r.1):∀(k i:Nat) (out:LI),rs.length<i+k→i≤rs.length→cz f (rs.drop i) i=true→out.length≤i*17000→
  ol k out rs (rs.length:Int) i b1 b2 b3 b4 b5 rs0=if (bu f (rs.drop i) i out).2=0 then some (.pan (.ret ((),(((bu f (rs.drop i) i out).1,()),())))) else some (.ret ((),(([],((bu f (rs.drop i) i out).2,())),()))):=by
 intro k
 induction k with
 |zero=>intro i out h;omega
 |succ k ih=>
  intro i out h1 h2 h3 h4
  rw[Fk]
  unfold qg
  by_cases hi:i<rs.length
  ·rw[zE hi] at h3 ⊢
   have hri:=hr rs[i] (List.getElem_mem hi)
   have e0:(rs0.getD (Int.toNat 0) (0,(false,[],()),(false,[],()),[],())).1=f:=by
    rw[← hf0]
    cases rs0 with
    |nil=>simp at h0
    |cons r l=>rfl
   have e1:List.getD rs (i:Int).toNat (0,(false,[],()),(false,[],()),[],())=rs[i]:=by rw[zG,aC hi]
   rw[e0,e1]
   generalize rs[i]=r at *
   simp only[cz,zA] at h3
   obtain ⟨h5,h6⟩:=h3
   refine bT (by simpa using hi) ?_
   refine bT (by simpa using hi) ?_
   refine bT (by simp;omega) ?_
   have eL:bu f (r::rs.drop (i+1)) i out=if aK (r.1 - f)=false then ([],86) else if bC (dF f i r)≠0 then ([],bC (dF f i r)) else bu f (rs.drop (i+1)) (i+1) (out++(cr (dF f i r)).1):=rfl
   rw[eL]
   cases h7:aK (r.1 - f) with
   |false=>
    refine (aa rfl _ _).trans ?_
    rw[if_pos rfl,if_neg (show (86:Int)≠0 by decide)]
   |true=>
    have h8:=fb.1 h7
    refine (ae rfl _ _).trans ?_
    rw[if_neg (show ¬ true=false by decide)]
    have eR:((i64.wrap (r.1 - f),i32.wrap (i:Int),r.2):nh)=dF f i r:=by
     rw[af h8.1 h8.2,bY (k:=.i32) (by simp[bt,IntKind.min,IntKind.max,IntKind.signed,IntKind.bits];omega)]
     rfl
    rw[eR]
    refine (aa h5 _ _).trans ?_
    by_cases h9:bC (dF f i r)=0
    ·obtain ⟨p1,p2⟩:=JM h9
     refine bF (by simpa using p1) ?_
     refine bT (decide_eq_true (by omega)) ?_
     rw[if_neg (aq h9),af (n:=(i:Int)+1) (by omega) (by omega)]
     exact ih (i+1) _ (by omega) (by omega) h6 (by simp;omega)
    ·refine bT (by rw[vA h9];simpa using h9) ?_
     rw[if_pos h9,vA h9]
     rw[if_neg h9]
  ·refine bF (by simp;omega) ?_
   rw[zI (by omega)]
   rfl
def wz (a0 a1 a2 a3 a4:Int)(a5:List bv.den):Option je.Res:=bif aQ a0 then oR (([],80,()),()) else bif aW a2 a3 a4 then oR (([],84,()),()) else bif (↑a5.length:Int) == 0 then oR (([],85,()),()) else bif decide (256<(↑a5.length:Int)) then oR (([],9,()),()) else (jQ (([],(a5,((↑a5.length:Int),(0,())))),((a0,(a1,(a2,(a3,(a4,(a5,())))))),()))).run fun y=>match y with | .ret ((),((x31,x32,()),()))=>(oR ((x31,x32,()),())) | .pan (.ret ((),((x33,()),())))=>(bif decide (32768<(↑x33.length:Int)) then oR (([],4,()),()) else oR ((x33,0,()),()))
theorem M1 (a0 a1 a2 a3 a4:Int)(a5:List bv.den):Io.run tt GT dr sX je Tryz.f87 (((a0,a1,a2,a3,a4,a5,()),()),())=wz a0 a1 a2 a3 a4 a5:=by kernel_rfl
theorem xw:HcsOk prog Gi:=.cons Am (.cons HO (.cons Mm (.cons Rh .nil)))
theorem HP:HcOk prog 87 (ah je qx):=by
 refine bW xw (lp:=sX) (fn:=Tryz.f87) je (.step (h0:=aG dg jQ) (by kernel_rfl) (gi xw (lp:=sX) (fn:=Tryz.f87) (.done (by kernel_rfl)) dg jQ ?_) (.done (by kernel_rfl))) qx ?_
 ·rintro ⟨⟨(out:LI),(rs:List bJ),(m:Int),(i:Int),⟨⟩⟩,⟨⟨(b1:Int),(b2:Int),(b3:Int),(b4:Int),(b5:Int),(rs0:List bJ),⟨⟩⟩,⟨⟩⟩⟩ y hw hy
  obtain ⟨hg,hy⟩:=Tr.guard hy
  simp only[zA,zB] at hg
  obtain ⟨h1,h2,h3,⟨h4,h5⟩,h6,h7⟩:=hg
  have h1:i=0:=h1
  have h2:m=(rs.length:Int):=h2
  have h3:out=[]:=List.length_eq_zero_iff.1 h3
  have h4:aI rs0=aI rs:=h4
  have h5:1≤rs0.length:=h5
  have h6:rs.length≤256:=h6
  subst h1 h2 h3
  have hf:bt .i64 (aI rs):=by
   cases rs with
   |nil=>exact ⟨by decide,by decide⟩
   |cons r rs=>exact (hw.1.2.1.2 r (by simp)).1
  refine ⟨rs.length+1,(zn b1 b2 b3 b4 b5 rs0 h5 h4 hf rs h6 (fun r hr=>(hw.1.2.1.2 r hr).1) (rs.length+1) 0 [] (by omega) (by omega) h7 (by simp)).trans ?_⟩
  rw[← hy]
  simp only[Tr.val_ite,zB,Tr.val_ret,List.drop_zero]
 ·rintro ⟨⟨⟨(b1:Int),(b2:Int),(b3:Int),(b4:Int),(b5:Int),(rs:List bJ),⟨⟩⟩,⟨⟩⟩,⟨⟩⟩ out hw ho
  obtain ⟨hg,ho⟩:=Tr.guard ho
  have hg:cz (aI rs) rs 0=true:=hg
  cases ho
  refine (M1 b1 b2 b3 b4 b5 rs).trans ?_
  show _=oR (((eV (b1,b2,b3,b4,b5,rs,())).1,(eV (b1,b2,b3,b4,b5,rs,())).2,()),())
  have e:aO (b1,b2,b3,b4,b5,rs,())=if aQ b1=true then 80 else if aW b3 b4 b5=true then 84 else if rs=[] then 85 else if 256<(rs.length:Int) then 9 else (bp rs).2:=rfl
  have e2:eV (b1,b2,b3,b4,b5,rs,())=if aO (b1,b2,b3,b4,b5,rs,())≠0 then ([],aO (b1,b2,b3,b4,b5,rs,())) else ((bp rs).1,0):=rfl
  unfold wz
  rw[e2]
  cases h1:aQ b1 with
  |true=>
   refine (aa rfl _ _).trans ?_
   rw[show aO (b1,b2,b3,b4,b5,rs,())=80 by rw[e,if_pos h1],if_pos (by decide)]
  |false=>
  refine (ae rfl _ _).trans ?_
  cases h2:aW b3 b4 b5 with
  |true=>
   refine (aa rfl _ _).trans ?_
   rw[show aO (b1,b2,b3,b4,b5,rs,())=84 by rw[e,if_neg (by rw[h1];decide),if_pos h2],if_pos (by decide)]
  |false=>
  refine (ae rfl _ _).trans ?_
  by_cases h3:rs=[]
  ·refine bT (by simp[h3]) ?_
   rw[show aO (b1,b2,b3,b4,b5,rs,())=85 by rw[e,if_neg (by rw[h1];decide),if_neg (by rw[h2];decide),if_pos h3],if_pos (by decide)]
  refine bF (by simp[h3]) ?_
  by_cases h4:256<(rs.length:Int)
  ·refine bT (decide_eq_true h4) ?_
   rw[show aO (b1,b2,b3,b4,b5,rs,())=9 by rw[e,if_neg (by rw[h1];decide),if_neg (by rw[h2];decide),if_neg h3,if_pos h4],if_pos (by decide)]
  refine bF (decide_eq_false h4) ?_
  rw[show aO (b1,b2,b3,b4,b5,rs,())=(bp rs).2 by rw[e,if_neg (by rw[h1];decide),if_neg (by rw[h2];decide),if_neg h3,if_neg h4]]
  have hp:=List.length_pos_iff.2 h3
  unfold jQ
  refine bT (by simp only[zA,zB];exact ⟨trivial,trivial,rfl,⟨trivial,hp⟩,show rs.length≤256 by omega,hg⟩) ?_
  show (bif decide ((bu (aI rs) rs 0 []).2=0) then (bif decide (32768<((bu (aI rs) rs 0 []).1.length:Int)) then oR (([],4,()),()) else oR (((bu (aI rs) rs 0 []).1,0,()),())) else oR (([],(bu (aI rs) rs 0 []).2,()),()))=_
  unfold bp
  by_cases h5:(bu (aI rs) rs 0 []).2=0
  ·refine bT (decide_eq_true h5) ?_
   rw[if_neg (aq h5)]
   by_cases h6:32768<((bu (aI rs) rs 0 []).1.length:Int)
   ·refine bT (decide_eq_true h6) ?_
    rw[if_pos h6,if_pos (show (4:Int)≠0 by decide)]
   ·refine bF (decide_eq_false h6) ?_
    rw[if_neg h6,if_neg (aq rfl)]
  ·refine bF (decide_eq_false h5) ?_
   rw[if_pos h5,if_pos h5]
abbrev jc:Io:=⟨[BT],[],[],[gL],none⟩
def yk (d:jc.In):Tr jc.Res:=.ite (decide (1≤d.1.1.length)) (.ret (.ret ((dD d.1.1,()),()))) .no
abbrev yY:List (Nat×Hc):=[]
def GS:Hd:=bA yY
abbrev ez:Lo:=⟨⟨(.any::bh (.one hI::bz (bh (.one (.hol (.sl 91 bv))::.one hI::.one hI::.any::cy [])))),[]⟩,[(.exit 0,⟨(.any::bh (.one hI::ai (bh []))),[]⟩)]⟩
def lC (d:ez.st.den):Tr (ao ez.xs):=.ite (decide (d.1.2.2.2.1=0)&&decide (d.1.2.2.1=(d.1.2.1.length:Int))) (.ret (.ret ((),((dT d.1.2.1 d.1.1,()),())))) .no
def sW:Lp:=bQ [(4,aG ez lC)]
def rX {R:Type}(h1:Int)(h2:List bv.den)(h3 h4:Int)(next:Int→List bv.den→Int→Int→Option R)(out:ao ez.xs→Option R):Option R:=bif decide (h4<h3) then bif decide (0≤h4)&&decide (h4<(↑h2.length:Int)) then next (dW h1 (h2.getD h4.toNat (0,(false,[],()),(false,[],()),[],())).1) (h2) (h3) (i64.wrap (h4+1)) else none else out (.ret ((),((h1,()),())))
def qO (n:Nat)(h1:Int)(h2:List bv.den)(h3 h4:Int):Option (ao ez.xs):=fV tt GS dr sW 0 Tryz.f77 (b9 Tryz.f77 0) n (ez.st.mk' ((h1,(h2,(h3,(h4,())))),())) (bH ez.xs)
theorem JB (n:Nat)(h1:Int)(h2:List bv.den)(h3 h4:Int):qO (n+1) h1 h2 h3 h4=rX h1 h2 h3 h4 (qO n) some:=by kernel_rfl
theorem CB (rs:List bJ)(hl:rs.length≤maxLen):∀(k i:Nat) (t:Int),rs.length<i+k→i≤rs.length→qO k t rs (rs.length:Int) i=some (.ret ((),((dT (rs.drop i) t,()),()))):=by
 intro k
 induction k with
 |zero=>intro i t h;omega
 |succ k ih=>
  intro i t h1 h2
  rw[JB]
  unfold rX
  by_cases hi:i<rs.length
  ·refine bT (by simpa using hi) ?_
   refine bT (by simpa using hi) ?_
   have e:List.getD rs (i:Int).toNat (0,(false,[],()),(false,[],()),[],())=rs[i]:=by simp only[zG,aC hi]
   rw[e,aM hi hl,zE hi]
   exact ih (i+1) _ (by omega) (by omega)
  ·refine bF (by simp;omega) ?_
   rw[zI (by omega)]
   rfl
def ww (a0:List bv.den):Option jc.Res:=bif decide (0≤0)&&decide (0<(↑a0.length:Int)) then (lC (((a0.getD (Int.toNat 0) (0,(false,[],()),(false,[],()),[],())).1,(a0,((↑a0.length:Int),(0,())))),())).run fun y=>match y with | .ret ((),((x10,()),()))=>(oR ((x10,()),())) else none
theorem MY (a0:List bv.den):Io.run tt GS dr sW jc Tryz.f77 ((a0,()),())=ww a0:=by kernel_rfl
theorem HM:HcOk prog 77 (ah jc yk):=by
 refine bW (cs:=yY) HcsOk.nil (lp:=sW) (fn:=Tryz.f77) jc (.step (h0:=aG ez lC) (by kernel_rfl) (gi (cs:=yY) HcsOk.nil (lp:=sW) (fn:=Tryz.f77) (.done (by kernel_rfl)) ez lC ?_) (.done (by kernel_rfl))) yk ?_
 ·rintro ⟨⟨(t:Int),(rs:List bJ),(m:Int),(i:Int),⟨⟩⟩,⟨⟩⟩ y hw hy
  obtain ⟨hg,hy⟩:=Tr.guard hy
  simp only[zA,zB] at hg
  obtain ⟨h1,h2⟩:=hg
  have h1:i=0:=h1
  have h2:m=(rs.length:Int):=h2
  subst h1 h2
  refine ⟨rs.length+1,(CB rs hw.1.2.1.1 (rs.length+1) 0 t (by omega) (by omega)).trans ?_⟩
  rw[← hy];rfl
 ·rintro ⟨⟨(rs:List bJ),⟨⟩⟩,⟨⟩⟩ out hw ho
  obtain ⟨hg,ho⟩:=Tr.guard ho
  have hg:1≤rs.length:=of_decide_eq_true hg
  cases ho
  refine (MY rs).trans ?_
  show _=oR ((dD rs,()),())
  unfold ww lC
  refine bT (by simp;omega) ?_
  refine bT (by simp) ?_
  cases rs with
  |nil=>simp at hg
  |cons r rs=>
   have e:dT (r::rs) r.1=dT rs r.1:=by
    show dT rs (dW r.1 r.1)=_
    unfold dW
    rw[if_neg (by omega)]
   exact congrArg (fun x=>oR ((x,()),())) e
abbrev jd:Io:=⟨[dL,dI],[],[],[dI,dI],none⟩
def yl (d:jd.In):Tr jd.Res:=.ite (decide (d.1.1.length≤4294960000)) (.ret (.ret (((aw d.1.1 d.1.2.1).1,(aw d.1.1 d.1.2.1).2,()),()))) .no
abbrev Gf:List (Nat×Hc):=[(98,ah jl yy),(99,ah jk tr)]
def OD:Hd:=bA Gf
def Hi:Lp:=bQ []
def wx (a0:LI)(a1:Int):Option jd.Res:=bif decide (a1<0) then oR ((0,3,()),()) else bif decide ((↑a0.length:Int)<a1) then oR ((0,3,()),()) else bif decide (i64.wrap ((↑a0.length:Int) - a1)<12) then oR ((0,1,()),()) else bif decide (0≤i64.wrap (a1+8))&&(decide (i64.wrap (a1+8)≤i64.wrap (a1+12))&&decide (i64.wrap (a1+12)≤(↑a0.length:Int))) then bif decide ((List.drop (i64.wrap (a1+8)).toNat (List.take (i64.wrap (a1+12)).toNat a0)).length≤4294967296) then bif cV (List.drop (i64.wrap (a1+8)).toNat (List.take (i64.wrap (a1+12)).toNat a0)) 0 then bif decide (i32.wrap (bX (List.drop (i64.wrap (a1+8)).toNat (List.take (i64.wrap (a1+12)).toNat a0)) 0 4).1<49) then oR ((0,5,()),()) else bif decide (35988<i32.wrap (bX (List.drop (i64.wrap (a1+8)).toNat (List.take (i64.wrap (a1+12)).toNat a0)) 0 4).1) then oR ((0,4,()),()) else bif decide (i64.wrap (i64.wrap ((↑a0.length:Int) - a1) - 12)<i64.wrap (i32.wrap (bX (List.drop (i64.wrap (a1+8)).toNat (List.take (i64.wrap (a1+12)).toNat a0)) 0 4).1)) then oR ((0,1,()),()) else oR ((i64.wrap (12+i64.wrap (i32.wrap (bX (List.drop (i64.wrap (a1+8)).toNat (List.take (i64.wrap (a1+12)).toNat a0)) 0 4).1)),0,()),()) else none else none else none
theorem MZ (a0:LI)(a1:Int):Io.run tt OD dr Hi jd Tryz.f67 ((a0,a1,()),())=wx a0 a1:=by kernel_rfl
theorem HN:HcOk prog 67 (ah jd yl):=by
 refine bW (cs:=Gf) (.cons HV (.cons HU .nil)) (lp:=Hi) (fn:=Tryz.f67) jd (.done (by kernel_rfl)) yl ?_
 rintro ⟨⟨(b:LI),(p:Int),⟨⟩⟩,⟨⟩⟩ out hw ho
 obtain ⟨hg,ho⟩:=Tr.guard ho
 have hg2:b.length≤4294960000:=of_decide_eq_true hg
 clear hg
 cases ho
 have hb:=dY hw.1.1
 refine (MZ b p).trans ?_
 show _=oR (((aw b p).1,(aw b p).2,()),())
 unfold wx aw
 by_cases h1:p<0
 ·refine bT (decide_eq_true h1) ?_
  rw[if_pos (.inl h1)]
 refine bF (decide_eq_false h1) ?_
 by_cases h2:(b.length:Int)<p
 ·refine bT (decide_eq_true h2) ?_
  rw[if_pos (.inr h2)]
 refine bF (decide_eq_false h2) ?_
 rw[if_neg (by omega)]
 obtain ⟨p,rfl⟩:=aA (show 0≤p by omega)
 rw[af (n:=(b.length:Int) - p) (by omega) (by omega),af (n:=(p:Int)+8) (by omega) (by omega),af (n:=(p:Int)+12) (by omega) (by omega),af (n:=(b.length:Int) - p - 12) (by omega) (by omega)]
 by_cases h3:(b.length:Int) - p<12
 ·refine bT (decide_eq_true h3) ?_
  rw[if_pos h3]
 refine bF (decide_eq_false h3) ?_
 rw[if_neg h3]
 refine bT (by simp only[zA,zB];omega) ?_
 have eL:List.drop ((p:Int)+8).toNat (List.take ((p:Int)+12).toNat b)=(b.drop (p+8)).take 4:=by
  rw[List.drop_take,show ((p:Int)+8).toNat=p+8 by omega,show ((p:Int)+12).toNat - (p+8)=4 by omega]
 rw[eL]
 have hL:=cA (b:=b) (p:=p+8) (n:=4) (by omega)
 have hLr:=dR hb (p+8) 4
 have eI:av b (((p:Nat):Int).toNat+8) 4=co ((b.drop (p+8)).take 4):=by rw[zG];rfl
 have eR:i32.wrap (bX ((b.drop (p+8)).take 4) 0 4).1=co ((b.drop (p+8)).take 4):=by
  unfold bX
  rw[if_neg (by rw[hL];decide)]
  show i32.wrap (aV ((((b.drop (p+8)).take 4).drop 0).take 4))=_
  rw[List.drop_zero,List.take_of_length_le (by rw[hL];exact Nat.le_refl 4)]
  exact na hLr hL
 have hbd:=NB hLr hL
 rw[eI,eR]
 refine bT (decide_eq_true (by rw[hL];omega)) ?_
 refine bT (by unfold cV;simp only[zA,zB,hL];omega) ?_
 generalize co ((b.drop (p+8)).take 4)=n at *
 by_cases h4:n<49
 ·refine bT (decide_eq_true h4) ?_
  rw[if_pos h4]
 refine bF (decide_eq_false h4) ?_
 rw[if_neg h4]
 by_cases h5:35988<n
 ·refine bT (decide_eq_true h5) ?_
  rw[if_pos h5]
 refine bF (decide_eq_false h5) ?_
 rw[if_neg h5,af (n:=n) (by omega) (by omega),af (n:=12+n) (by omega) (by omega)]
 by_cases h6:(b.length:Int) - p - 12<n
 ·refine bT (decide_eq_true h6) ?_
  rw[if_pos h6]
 refine bF (decide_eq_false h6) ?_
 rw[if_neg h6,Int.add_comm]
def bL (g:nh)(i f:Int):bJ×Int:=
 if g.2.1≠i then (tf,72)
 else if i=0∧g.1≠0∨aK (f+g.1)=false then (tf,86)
 else ((f+g.1,g.2.2.1,g.2.2.2.1,g.2.2.2.2.1,()),0)
abbrev fY:Io:=⟨[BU,dI,gL],[],[],[QI,dI],none⟩
def tk (d:fY.In):Tr fY.Res:=.ret (.ret (((bL d.1.1 d.1.2.1 d.1.2.2.1).1,(bL d.1.1 d.1.2.1 d.1.2.2.1).2,()),()))
abbrev xe:List (Nat×Hc):=[]
def IC:Hd:=bA xe
def xG:Lp:=bQ []
def rk (a0 a1:Int)(a2:Bool)(a3:LI)(a4:Bool)(a5:LI)(a6:List cP.den)(a7 a8:Int):Option fY.Res:=bif i64.wrap a1 != a7 then oR (((0,(false,[],()),(false,[],()),[],()),72,()),()) else bif a7 == 0 then bif a0 != 0 then oR (((0,(false,[],()),(false,[],()),[],()),86,()),()) else bif !decide (i64.wrap (a8+a0)<a8) == decide (a0<0) then oR (((0,(false,[],()),(false,[],()),[],()),86,()),()) else oR (((i64.wrap (a8+a0),(a2,a3,()),(a4,a5,()),a6,()),0,()),()) else bif !decide (i64.wrap (a8+a0)<a8) == decide (a0<0) then oR (((0,(false,[],()),(false,[],()),[],()),86,()),()) else oR (((i64.wrap (a8+a0),(a2,a3,()),(a4,a5,()),a6,()),0,()),())
theorem E4 (a0 a1:Int)(a2:Bool)(a3:LI)(a4:Bool)(a5:LI)(a6:List cP.den)(a7 a8:Int):Io.run tt IC dr xG fY Tryz.f76 (((a0,a1,(a2,a3,()),(a4,a5,()),a6,()),a7,a8,()),())=rk a0 a1 a2 a3 a4 a5 a6 a7 a8:=by kernel_rfl
theorem IU:HcOk prog 76 (ah fY tk):=by
 refine bW (cs:=xe) HcsOk.nil (lp:=xG) (fn:=Tryz.f76) fY (.done (by kernel_rfl)) tk ?_
 rintro ⟨⟨⟨(a0:Int),(a1:Int),⟨(a2:Bool),(a3:LI),⟨⟩⟩,⟨(a4:Bool),(a5:LI),⟨⟩⟩,(a6:List cE),⟨⟩⟩,(i:Int),(f:Int),⟨⟩⟩,⟨⟩⟩ out hw ho
 cases ho
 refine (E4 a0 a1 a2 a3 a4 a5 a6 i f).trans ?_
 have h0:bt .i64 a0:=hw.1.1.1
 have h1:bt .i32 a1:=hw.1.1.2.1
 have hf:bt .i64 f:=hw.1.2.2.1
 have b1:=EF h1
 show _=oR (((bL (a0,a1,(a2,a3,()),(a4,a5,()),a6,()) i f).1,(bL (a0,a1,(a2,a3,()),(a4,a5,()),a6,()) i f).2,()),())
 unfold rk bL
 simp only
 rw[af (n:=a1) (by omega) (by omega),Ox h0 hf]
 have hfit:aK (f+a0)=true→i64.wrap (f+a0)=f+a0:=fun h=>af (fb.1 h).1 (fb.1 h).2
 by_cases c1:a1=i
 rotate_left
 ·refine bT (by simpa using c1) ?_
  rw[if_pos c1]
  rfl
 refine bF (by simpa using c1) ?_
 rw[if_neg (aq c1)]
 by_cases c2:i=0
 ·refine bT (by simpa using c2) ?_
  by_cases c3:a0=0
  ·refine bF (by simpa using c3) ?_
   cases c4:aK (f+a0) with
   |false=>
    refine (aa rfl _ _).trans ?_
    rw[if_pos (.inr rfl)]
    rfl
   |true=>
    refine (ae rfl _ _).trans ?_
    rw[if_neg (by rintro (h | h);exact h.2 c3;cases h),hfit c4]
  ·refine bT (by simpa using c3) ?_
   rw[if_pos (.inl ⟨c2,c3⟩)]
   rfl
 ·refine bF (by simpa using c2) ?_
  cases c4:aK (f+a0) with
  |false=>
   refine (aa rfl _ _).trans ?_
   rw[if_pos (.inr rfl)]
   rfl
  |true=>
   refine (ae rfl _ _).trans ?_
   rw[if_neg (by rintro (h | h);exact c2 h.1;cases h),hfit c4]
abbrev iu:Io:=⟨[dL,dB],[],[],[dL,dI],none⟩
def yi (d:iu.In):Tr iu.Res:=.ite (decide (61≤d.1.1.length)&&decide (d.1.1.length≤4294960000)) (.ret (.ret (((aN d.1.1 d.1.2.1).1,(aN d.1.1 d.1.2.1).2,()),()))) .no
abbrev Bx:List (Nat×Hc):=[(109,ah kE DX)]
def Ll:Hd:=bA Bx
def CO:Lp:=bQ []
def tH (a0:LI)(a1:Bool):Option iu.Res:=bif decide (0≤61)&&(decide (61≤(↑a0.length:Int))&&decide ((↑a0.length:Int)≤(↑a0.length:Int))) then bif a1 then bif decide (32768=32768)&&decide ((List.drop (Int.toNat 61) (List.take (↑a0.length:Int).toNat a0)).length≤4294960000) then oR (((bf (List.drop (Int.toNat 61) (List.take (↑a0.length:Int).toNat a0))).1,(bf (List.drop (Int.toNat 61) (List.take (↑a0.length:Int).toNat a0))).2,()),()) else none else bif decide (32768<(↑(List.drop (Int.toNat 61) (List.take (↑a0.length:Int).toNat a0)).length:Int)) then oR (([],4,()),()) else oR ((List.drop (Int.toNat 61) (List.take (↑a0.length:Int).toNat a0),0,()),()) else none
theorem I6 (a0:LI)(a1:Bool):Io.run tt Ll dr CO iu Tryz.f74 ((a0,a1,()),())=tH a0 a1:=by kernel_rfl
theorem Mk:HcOk prog 74 (ah iu yi):=by
 refine bW (cs:=Bx) (.cons Pl .nil) (lp:=CO) (fn:=Tryz.f74) iu (.done (by kernel_rfl)) yi ?_
 rintro ⟨⟨(b:LI),(packed:Bool),⟨⟩⟩,⟨⟩⟩ out hw ho
 obtain ⟨hg,ho⟩:=Tr.guard ho
 simp only[zA,zB] at hg
 have h1:61≤b.length:=hg.1
 have h2:b.length≤4294960000:=hg.2
 cases ho
 refine (I6 b packed).trans ?_
 show _=oR (((aN b packed).1,(aN b packed).2,()),())
 unfold tH aN
 rw[zG,List.take_length,show Int.toNat 61=61 from rfl]
 refine bT (by simp only[zA,zB];omega) ?_
 cases packed with
 |true=>
  refine (aa rfl _ _).trans ?_
  refine bT (by simp;omega) ?_
  rfl
 |false=>
  refine (ae rfl _ _).trans ?_
  by_cases h3:32768<((b.drop 61).length:Int)
  ·refine bT (decide_eq_true h3) ?_
   rw[if_neg (by decide),if_pos h3]
  ·refine bF (decide_eq_false h3) ?_
   rw[if_neg (by decide),if_neg h3]
theorem HcOk.weakB {f:Nat}{io:Io}{Fn Fn':io.In→Tr io.Res}(h:HcOk prog f (ah io Fn))(hF:∀d y,io.wf d→(Fn' d).val=some y→(Fn d).val=some y):HcOk prog f (ah io Fn'):=by
 intro R args id A K r F G ts cst w vals hid hc Rl hv
 unfold ah at hc
 cases h1:sw io.args args (List.replicate io.obs.length Option.none) with
 |none=>rw[h1] at hc;cases hc
 |some p=>
  obtain ⟨a,β1⟩:=p
  rw[h1] at hc
  simp only at hc
  cases h2:JX A.ob io.obs 0 β1 with
  |none=>rw[h2] at hc;cases hc
  |some q=>
   obtain ⟨o,β⟩:=q
   rw[h2] at hc
   simp only at hc
   have hn:=fun y=>hF (a,o) y ⟨Ag h1 hv,EU Rl.ob h2⟩
   refine h R args id A K r F G ts cst w vals hid ?_ Rl hv
   unfold ah
   rw[h1]
   simp only[h2]
   revert hc
   cases bI ((ge (da 0) io.args args 0++lA A.ob β (lP io.obs.length 0) io.obs 0).map (·.2))&&(bI ((ge (da 0) io.args args 0++lA A.ob β (lP io.obs.length 0) io.obs 0).map (·.1))&&io.ok) with
   |false=>intro hc;cases hc
   |true=>
    intro hc
    obtain ⟨out,ho,hk⟩:=Tr.run_val hc
    exact (Tr.run_of_val (hn out ho)).trans hk
@[irreducible] def aY (b:LI)(p:Int)(n:Nat):Int:=co ((b.drop p.toNat).take n)
theorem kg (b:LI)(p n:Nat):aY b (p:Int) n=av b p n:=by unfold aY av;rw[zG]
def iZ (b:LI)(p n:Int):Bool:=decide (b.length≤4294960000)&&(decide (0≤p)&&decide (p+n≤(b.length:Int)))
theorem mA {b:LI}{p n:Int}(h:iZ b p n=true):b.length≤4294960000∧0≤p∧p+n≤(b.length:Int):=by
 simpa [iZ] using h
abbrev zk:Io:=kJ
def Qq (d:zk.In):Tr zk.Res:=
 .ite (iZ d.2.1.1 d.2.1.2.1 8) (.ret (.ret ((aY d.2.1.1 d.2.1.2.1 8,(0,())),((d.2.1.1,(d.2.1.2.1+8,())),())))) .no
theorem Re:HcOk prog 104 (ah zk Qq):=by
 refine HcOk.weakB Pq ?_
 rintro ⟨⟨⟨⟩,⟨⟩⟩,⟨⟨(b:LI),(p:Int),⟨⟩⟩,⟨⟩⟩⟩ y hw hy
 obtain ⟨hg,hy⟩:=Tr.guard hy
 obtain ⟨h1,h2,h3⟩:=mA (b:=b) (p:=p) (n:=8) hg
 rw[← hy]
 obtain ⟨p,rfl⟩:=aA h2
 have hb:=dY hw.2.1.1
 have hL:=cA (b:=b) (p:=p) (n:=8) (by omega)
 have hk:cV b p=true:=by unfold cV;simp only[zA,zB];omega
 have e:bX b (p:Int) 8=(aV ((b.drop p).take 8),((p:Int)+8,0)):=by unfold bX;rw[if_neg (by omega),zG];rfl
 have e2:i64.wrap (aV ((b.drop p).take 8))=aY b (p:Int) 8:=by rw[kg];exact AA (dR hb p 8) hL
 show (yx (((),()),((b,((p:Int),())),()))).val=some (.ret ((aY b (p:Int) 8,(0,())),((b,((p:Int)+8,())),())))
 unfold yx
 rw[Tr.val_ite,if_pos hk,Tr.val_ret]
 show oR ((i64.wrap (bX b (p:Int) 8).1,((bX b (p:Int) 8).2.2,())),((b,((bX b (p:Int) 8).2.1,())),()))=_
 rw[e,← e2]
abbrev zj:Io:=jk
def Qp (d:zj.In):Tr zj.Res:=
 .ite (iZ d.2.1.1 d.2.1.2.1 4) (.ret (.ret ((aY d.2.1.1 d.2.1.2.1 4,(0,())),((d.2.1.1,(d.2.1.2.1+4,())),())))) .no
theorem Rd:HcOk prog 99 (ah zj Qp):=by
 refine HcOk.weakB HU ?_
 rintro ⟨⟨⟨⟩,⟨⟩⟩,⟨⟨(b:LI),(p:Int),⟨⟩⟩,⟨⟩⟩⟩ y hw hy
 obtain ⟨hg,hy⟩:=Tr.guard hy
 obtain ⟨h1,h2,h3⟩:=mA (b:=b) (p:=p) (n:=4) hg
 rw[← hy]
 obtain ⟨p,rfl⟩:=aA h2
 have hb:=dY hw.2.1.1
 have hL:=cA (b:=b) (p:=p) (n:=4) (by omega)
 have hk:cV b p=true:=by unfold cV;simp only[zA,zB];omega
 have e:bX b (p:Int) 4=(aV ((b.drop p).take 4),((p:Int)+4,0)):=by unfold bX;rw[if_neg (by omega),zG];rfl
 have e2:i32.wrap (aV ((b.drop p).take 4))=aY b (p:Int) 4:=by rw[kg];exact na (dR hb p 4) hL
 show (tr (((),()),((b,((p:Int),())),()))).val=some (.ret ((aY b (p:Int) 4,(0,())),((b,((p:Int)+4,())),())))
 unfold tr
 rw[Tr.val_ite,if_pos hk,Tr.val_ret]
 show oR ((i32.wrap (bX b (p:Int) 4).1,((bX b (p:Int) 4).2.2,())),((b,((bX b (p:Int) 4).2.1,())),()))=_
 rw[e,← e2]
abbrev zi:Io:=kI
def Qo (d:zi.In):Tr zi.Res:=
 .ite (iZ d.2.1.1 d.2.1.2.1 2) (.ret (.ret ((aY d.2.1.1 d.2.1.2.1 2,(0,())),((d.2.1.1,(d.2.1.2.1+2,())),())))) .no
theorem Rb:HcOk prog 107 (ah zi Qo):=by
 refine HcOk.weakB Pp ?_
 rintro ⟨⟨⟨⟩,⟨⟩⟩,⟨⟨(b:LI),(p:Int),⟨⟩⟩,⟨⟩⟩⟩ y hw hy
 obtain ⟨hg,hy⟩:=Tr.guard hy
 obtain ⟨h1,h2,h3⟩:=mA (b:=b) (p:=p) (n:=2) hg
 rw[← hy]
 obtain ⟨p,rfl⟩:=aA h2
 have hb:=dY hw.2.1.1
 have hL:=cA (b:=b) (p:=p) (n:=2) (by omega)
 have hk:cV b p=true:=by unfold cV;simp only[zA,zB];omega
 have e:bX b (p:Int) 2=(aV ((b.drop p).take 2),((p:Int)+2,0)):=by unfold bX;rw[if_neg (by omega),zG];rfl
 have e2:i16.wrap (aV ((b.drop p).take 2))=aY b (p:Int) 2:=by rw[kg];exact tc (dR hb p 2) hL
 show (yw (((),()),((b,((p:Int),())),()))).val=some (.ret ((aY b (p:Int) 2,(0,())),((b,((p:Int)+2,())),())))
 unfold yw
 rw[Tr.val_ite,if_pos hk,Tr.val_ret]
 show oR ((i16.wrap (bX b (p:Int) 2).1,((bX b (p:Int) 2).2.2,())),((b,((bX b (p:Int) 2).2.1,())),()))=_
 rw[e,← e2]
abbrev Ha:Io:=n6
def R5 (d:Ha.In):Tr Ha.Res:=
 .ite (iZ d.2.1.1 d.2.1.2.1 1) (.ret (.ret ((aY d.2.1.1 d.2.1.2.1 1,(0,())),((d.2.1.1,(d.2.1.2.1+1,())),())))) .no
theorem Sp:HcOk prog 106 (ah Ha R5):=by
 refine HcOk.weakB Rp ?_
 rintro ⟨⟨⟨⟩,⟨⟩⟩,⟨⟨(b:LI),(p:Int),⟨⟩⟩,⟨⟩⟩⟩ y hw hy
 obtain ⟨hg,hy⟩:=Tr.guard hy
 obtain ⟨h1,h2,h3⟩:=mA (b:=b) (p:=p) (n:=1) hg
 rw[← hy]
 obtain ⟨p,rfl⟩:=aA h2
 have hb:=dY hw.2.1.1
 have hL:=cA (b:=b) (p:=p) (n:=1) (by omega)
 have hk:cV b p=true:=by unfold cV;simp only[zA,zB];omega
 have e:bX b (p:Int) 1=(aV ((b.drop p).take 1),((p:Int)+1,0)):=by unfold bX;rw[if_neg (by omega),zG];rfl
 have e2:i8.wrap (aV ((b.drop p).take 1))=aY b (p:Int) 1:=by rw[kg];exact RJ (dR hb p 1) hL
 show (FY (((),()),((b,((p:Int),())),()))).val=some (.ret ((aY b (p:Int) 1,(0,())),((b,((p:Int)+1,())),())))
 unfold FY
 rw[Tr.val_ite,if_pos hk,Tr.val_ret]
 show oR ((i8.wrap (bX b (p:Int) 1).1,((bX b (p:Int) 1).2.2,())),((b,((bX b (p:Int) 1).2.1,())),()))=_
 rw[e,← e2]
abbrev sT:Io:=iB
def J3 (d:sT.In):Tr sT.Res:=
 .ite (iZ d.2.1.1 d.2.1.2.1 d.1.2.1&&decide (0≤d.1.2.1)) (.ret (.ret ((0,()),((d.2.1.1,(d.2.1.2.1+d.1.2.1,())),())))) .no
theorem Ph:HcOk prog 105 (ah sT J3):=by
 refine HcOk.weakB MD ?_
 rintro ⟨⟨⟨⟩,(n:Int),⟨⟩⟩,⟨⟨(b:LI),(p:Int),⟨⟩⟩,⟨⟩⟩⟩ y hw hy
 obtain ⟨hg,hy⟩:=Tr.guard hy
 simp only[zA,zB] at hg
 obtain ⟨h1,h2,h3⟩:=mA (b:=b) (p:=p) (n:=n) hg.1
 have h4:0≤n:=hg.2
 rw[← hy]
 have hk:cV b p=true:=by unfold cV;simp only[zA,zB];omega
 have e:oO b p n=(p+n,0):=by unfold oO;rw[if_neg (by omega),if_neg (by omega)]
 show (sE (((),(n,())),((b,(p,())),()))).val=some (.ret ((0,()),((b,(p+n,())),())))
 unfold sE
 rw[Tr.val_ite,if_pos hk,Tr.val_ret]
 show oR (((oO b p n).2,()),((b,((oO b p n).1,())),()))=_
 rw[e]
def Ef (a0:LI):Option (Out ((wl×Int×Unit)×Unit) Empty):=bif aQ (aY (a0.take 61) 0 8) then oR (((0,0,0,false,0,0,0,0,0,0,()),80,()),()) else bif aY (a0.take 61) (0+8+4+4+1+4) 2 != 0&&!aY (a0.take 61) (0+8+4+4+1+4) 2 == 1 then oR (((0,0,0,false,0,0,0,0,0,0,()),83,()),()) else bif aW (aY (a0.take 61) (0+8+4+4+1+4+2+4+8+8) 8) (aY (a0.take 61) (0+8+4+4+1+4+2+4+8+8+8) 2) (aY (a0.take 61) (0+8+4+4+1+4+2+4+8+8+8+2) 4) then oR (((0,0,0,false,0,0,0,0,0,0,()),84,()),()) else bif decide (aY (a0.take 61) (0+8+4+4+1+4+2+4+8+8+8+2+4) 4<1) then oR (((0,0,0,false,0,0,0,0,0,0,()),85,()),()) else bif decide (256<aY (a0.take 61) (0+8+4+4+1+4+2+4+8+8+8+2+4) 4) then oR (((0,0,0,false,0,0,0,0,0,0,()),9,()),()) else bif aY (a0.take 61) (0+8+4+4+1+4+2) 4 != i32.wrap (aY (a0.take 61) (0+8+4+4+1+4+2+4+8+8+8+2+4) 4 - 1) then oR (((0,0,0,false,0,0,0,0,0,0,()),72,()),()) else bif (aw a0 0).2 != 0 then oR (((0,0,0,false,0,0,0,0,0,0,()),(aw a0 0).2,()),()) else oR (((aY (a0.take 61) 0 8,(aw a0 0).1,aY (a0.take 61) (0+8+4) 4,aY (a0.take 61) (0+8+4+4+1+4) 2 == 1,i64.wrap (aY (a0.take 61) (0+8+4+4+1+4+2+4+8+8+8+2+4) 4),aY (a0.take 61) (0+8+4+4+1+4+2+4) 8,aY (a0.take 61) (0+8+4+4+1+4+2+4+8) 8,aY (a0.take 61) (0+8+4+4+1+4+2+4+8+8) 8,aY (a0.take 61) (0+8+4+4+1+4+2+4+8+8+8) 2,aY (a0.take 61) (0+8+4+4+1+4+2+4+8+8+8+2) 4,()),0,()),())
theorem N1 {b:LI}{p:Nat}(h:p<b.length):(b.drop p).take 1=[b.getD p 0]:=by
 rw[zE h,List.take_succ_cons,List.take_zero,aC h]
theorem QE {b:LI}{p:Nat}(h:p+1<b.length):(b.drop p).take 2=[b.getD p 0,b.getD (p+1) 0]:=by
 rw[zE (show p<b.length by omega),List.take_succ_cons,N1 h,aC (show p<b.length by omega)]
theorem Sv {b:LI}{p:Nat}(h:p<b.length):av b p 1=if 128≤b.getD p 0 then b.getD p 0 - 256 else b.getD p 0:=by
 unfold av;rw[N1 h];rfl
theorem Sw {b:LI}{p:Nat}(h:p+1<b.length):av b p 2=(if 128≤b.getD p 0 then b.getD p 0 - 256 else b.getD p 0)*256+b.getD (p+1) 0:=by
 unfold av;rw[QE h];rfl
theorem Ql:∀{l:LI},(∀c∈l,0≤c∧c≤255)→l.length=4→u32.wrap (co l)=aV l
 |[a,b,c,d],h,_=>by
  have ha:=h a (by simp)
  have hb:=h b (by simp)
  have hc:=h c (by simp)
  have hd:=h d (by simp)
  simp only[aV,co,List.foldl_cons,List.foldl_nil]
  simp[IntKind.wrap,IntKind.signed,IntKind.bits] <;> (try split) <;> omega
theorem F9:∀{l:LI},(∀c∈l,0≤c∧c≤255)→l.length=4→∀{x:Int},0≤x→x<4294967296→(l=az x 4↔aV l=x)
 |[a,b,c,d],h,_,x,h0,h1=>by
  have ha:=h a (by simp)
  have hb:=h b (by simp)
  have hc:=h c (by simp)
  have hd:=h d (by simp)
  simp only[aV,az,List.foldl_cons,List.foldl_nil,List.cons.injEq,and_true]
  constructor
  ·rintro ⟨rfl,rfl,rfl,rfl⟩
   omega
  ·intro h
   omega
theorem DA (c:Int){b:LI}(hc:0≤c∧c<4294967296)(hb:∀x∈b,0≤x∧x≤255):0≤cB c b∧cB c b<4294967296:=by
 unfold cB
 have h1:=Nat.xor_lt_two_pow (n:=32) (show c.toNat<2 ^ 32 by omega) (show 4294967295<2 ^ 32 by decide)
 have h2:=Nat.xor_lt_two_pow (n:=32) (sM hb h1) (show 4294967295<2 ^ 32 by decide)
 omega
theorem hY {b:LI}{p:Int}(h:(aw b p).2=0):61≤(aw b p).1∧(aw b p).1≤36000∧p+(aw b p).1≤(b.length:Int)∧0≤p:=by
 unfold aw at h ⊢
 split
 ·rename_i h1;rw[if_pos h1] at h;cases h
 rename_i h1;rw[if_neg h1] at h
 split
 ·rename_i h2;rw[if_pos h2] at h;cases h
 rename_i h2;rw[if_neg h2] at h
 split
 ·rename_i h3;rw[if_pos h3] at h;cases h
 rename_i h3;rw[if_neg h3] at h
 split
 ·rename_i h4;rw[if_pos h4] at h;cases h
 rename_i h4;rw[if_neg h4] at h
 split
 ·rename_i h5;rw[if_pos h5] at h;cases h
 simp only
 omega
theorem Ij {b:LI}(hb:∀c∈b,0≤c∧c≤255)(hl:61≤b.length)(h0:(aw b 0).2=0)(h1:¬(aw b 0).1<(b.length:Int)):
  Ef b=some (.ret ((if aQ (av b 0 8)=true then (bx,(80,())) else if b.getD 21 0≠0∨1<b.getD 22 0 then (bx,(83,())) else if aW (av b 43 8) (av b 51 2) (av b 53 4)=true then (bx,(84,())) else if av b 57 4<1 then (bx,(85,())) else if 256<av b 57 4 then (bx,(9,())) else if av b 23 4≠av b 57 4 - 1 then (bx,(72,())) else (iS b,(0,()))),())):=by
 have hz:∀p n:Nat,p+n≤61→aY (b.take 61) (p:Int) n=av b p n:=by
  intro p n h
  rw[kg]
  unfold av
  rw[List.drop_take,List.take_take,Nat.min_eq_left (by omega)]
 have z0:aY (b.take 61) 0 8=av b 0 8:=hz 0 8 (by decide)
 have z12:aY (b.take 61) (0+8+4) 4=av b 12 4:=hz 12 4 (by decide)
 have z21:aY (b.take 61) (0+8+4+4+1+4) 2=av b 21 2:=hz 21 2 (by decide)
 have z23:aY (b.take 61) (0+8+4+4+1+4+2) 4=av b 23 4:=hz 23 4 (by decide)
 have z27:aY (b.take 61) (0+8+4+4+1+4+2+4) 8=av b 27 8:=hz 27 8 (by decide)
 have z35:aY (b.take 61) (0+8+4+4+1+4+2+4+8) 8=av b 35 8:=hz 35 8 (by decide)
 have z43:aY (b.take 61) (0+8+4+4+1+4+2+4+8+8) 8=av b 43 8:=hz 43 8 (by decide)
 have z51:aY (b.take 61) (0+8+4+4+1+4+2+4+8+8+8) 2=av b 51 2:=hz 51 2 (by decide)
 have z53:aY (b.take 61) (0+8+4+4+1+4+2+4+8+8+8+2) 4=av b 53 4:=hz 53 4 (by decide)
 have z57:aY (b.take 61) (0+8+4+4+1+4+2+4+8+8+8+2+4) 4=av b 57 4:=hz 57 4 (by decide)
 have a21:=Sw (b:=b) (p:=21) (by omega)
 have hat:∀i,0≤b.getD i 0∧b.getD i 0≤255:=fun i=>by
  rw[List.getD_eq_getElem?_getD]
  cases e:b[i]? with
  |none=>exact ⟨by decide,by decide⟩
  |some x=>exact hb x (List.mem_of_getElem? e)
 have g21:=hat 21
 have g22:=hat 22
 have hm:=hY h0
 have hsz:(aw b 0).1=(b.length:Int):=by omega
 unfold Ef
 rw[z0,z12,z21,z23,z27,z35,z43,z51,z53,z57,h0,hsz]
 have hI:iS b=(av b 0 8,(b.length:Int),av b 12 4,decide (b.getD 22 0=1),av b 57 4,av b 27 8,av b 35 8,av b 43 8,av b 51 2,av b 53 4,()):=rfl
 rw[hI,a21]
 generalize b.getD 21 0=x at *
 generalize b.getD (21+1) 0=y at *
 generalize av b 0 8=base at *
 generalize av b 57 4=cnt at *
 generalize av b 23 4=mst at *
 cases c1:aQ base with
 |true=>exact (aa rfl _ _)
 |false=>
 refine (ae rfl _ _).trans ?_
 rw[if_neg (show ¬ false=true by decide)]
 by_cases c2:x≠0∨1<y
 ·refine (aa ?_ _ _).trans ?_
  ·simp only[zA,Bool.not_eq_true',bne_iff_ne,beq_eq_false_iff_ne]
   split <;> omega
  ·rw[if_pos c2]
   rfl
 refine (ae ?_ _ _).trans ?_
 ·by_cases hy:y=0
  ·rw[show (if 128≤x then x - 256 else x)*256+y=0 by rw[if_neg (by omega)];omega]
   rfl
  ·rw[show (if 128≤x then x - 256 else x)*256+y=1 by rw[if_neg (by omega)];omega]
   rfl
 rw[if_neg c2]
 have hx:x=0:=by omega
 have hxy:((if 128≤x then x - 256 else x)*256+y == 1)=decide (y=1):=by
  subst hx
  rw[if_neg (by decide),show (0:Int)*256+y=y by omega]
  by_cases h:y=1 <;> simp[h]
 rw[hxy]
 cases c3:aW (av b 43 8) (av b 51 2) (av b 53 4) with
 |true=>exact (aa rfl _ _)
 |false=>
 refine (ae rfl _ _).trans ?_
 rw[if_neg (show ¬ false=true by decide)]
 by_cases c4:cnt<1
 ·refine bT (decide_eq_true c4) ?_
  rw[if_pos c4]
  rfl
 refine bF (decide_eq_false c4) ?_
 rw[if_neg c4]
 by_cases c5:256<cnt
 ·refine bT (decide_eq_true c5) ?_
  rw[if_pos c5]
  rfl
 refine bF (decide_eq_false c5) ?_
 rw[if_neg c5,bY (k:=.i32) (n:=cnt - 1) (by simp[bt,IntKind.min,IntKind.max,IntKind.signed,IntKind.bits];omega),af (n:=cnt) (by omega) (by omega)]
 by_cases c6:mst=cnt - 1
 ·refine bF (by simpa using c6) ?_
  rw[if_neg (aq c6)]
  exact ae rfl _ _
 ·refine bT (by simpa using c6) ?_
  rw[if_pos c6]
  rfl
abbrev jb:Io:=⟨[dL,dB],[],[],[K2,dI],none⟩
def DT (d:jb.In):Tr jb.Res:=.ite (decide (d.1.1.length≤4294960000)) (.ret (.ret (((aj d.1.1 d.1.2.1).1,(aj d.1.1 d.1.2.1).2,()),()))) .no
abbrev Ge:List (Nat×Hc):=[(67,ah jd yl),(98,ah jl yy),(104,ah zk Qq),(105,ah sT J3),(99,ah zj Qp),(106,ah Ha R5),(107,ah zi Qo),(96,ah jg yq),(100,ah gQ th),(108,ah gR ym)]
def OC:Hd:=bA Ge
def Hh:Lp:=bQ []
def wv (a0:LI)(a1:Bool):Option jb.Res:=bif decide ((↑a0.length:Int)<61) then oR (((0,0,0,false,0,0,0,0,0,0,()),1,()),()) else bif decide (a0.length≤4294960000) then bif (aw a0 0).2 != 0 then oR (((0,0,0,false,0,0,0,0,0,0,()),(aw a0 0).2,()),()) else bif decide ((aw a0 0).1<(↑a0.length:Int)) then oR (((0,0,0,false,0,0,0,0,0,0,()),2,()),()) else bif decide (0≤0)&&(decide (0≤61)&&decide (61≤(↑a0.length:Int))) then bif decide ((List.drop (Int.toNat 0) (List.take (Int.toNat 61) a0)).length≤4294967296) then bif iZ (List.drop (Int.toNat 0) (List.take (Int.toNat 61) a0)) 0 8 then bif iZ (List.drop (Int.toNat 0) (List.take (Int.toNat 61) a0)) (0+8) 4&&decide (0≤4) then bif iZ (List.drop (Int.toNat 0) (List.take (Int.toNat 61) a0)) (0+8+4) 4 then bif iZ (List.drop (Int.toNat 0) (List.take (Int.toNat 61) a0)) (0+8+4+4) 1 then bif iZ (List.drop (Int.toNat 0) (List.take (Int.toNat 61) a0)) (0+8+4+4+1) 4 then bif iZ (List.drop (Int.toNat 0) (List.take (Int.toNat 61) a0)) (0+8+4+4+1+4) 2 then bif iZ (List.drop (Int.toNat 0) (List.take (Int.toNat 61) a0)) (0+8+4+4+1+4+2) 4 then bif iZ (List.drop (Int.toNat 0) (List.take (Int.toNat 61) a0)) (0+8+4+4+1+4+2+4) 8 then bif iZ (List.drop (Int.toNat 0) (List.take (Int.toNat 61) a0)) (0+8+4+4+1+4+2+4+8) 8 then bif iZ (List.drop (Int.toNat 0) (List.take (Int.toNat 61) a0)) (0+8+4+4+1+4+2+4+8+8) 8 then bif iZ (List.drop (Int.toNat 0) (List.take (Int.toNat 61) a0)) (0+8+4+4+1+4+2+4+8+8+8) 2 then bif iZ (List.drop (Int.toNat 0) (List.take (Int.toNat 61) a0)) (0+8+4+4+1+4+2+4+8+8+8+2) 4 then bif iZ (List.drop (Int.toNat 0) (List.take (Int.toNat 61) a0)) (0+8+4+4+1+4+2+4+8+8+8+2+4) 4 then bif aY (List.drop (Int.toNat 0) (List.take (Int.toNat 61) a0)) (0+8+4+4) 1 != 2 then oR (((0,0,0,false,0,0,0,0,0,0,()),81,()),()) else bif a1 then bif decide (0≤21)&&(decide (21≤(↑a0.length:Int))&&decide ((↑a0.length:Int)≤(↑a0.length:Int))) then bif u32.wrap (aY (List.drop (Int.toNat 0) (List.take (Int.toNat 61) a0)) (0+8+4+4+1) 4) != rh [List.drop (Int.toNat 21) (List.take (↑a0.length:Int).toNat a0)] 0 then oR (((0,0,0,false,0,0,0,0,0,0,()),82,()),()) else bif aQ (aY (List.drop (Int.toNat 0) (List.take (Int.toNat 61) a0)) 0 8) then oR (((0,0,0,false,0,0,0,0,0,0,()),80,()),()) else bif aY (List.drop (Int.toNat 0) (List.take (Int.toNat 61) a0)) (0+8+4+4+1+4) 2 != 0&&!aY (List.drop (Int.toNat 0) (List.take (Int.toNat 61) a0)) (0+8+4+4+1+4) 2 == 1 then oR (((0,0,0,false,0,0,0,0,0,0,()),83,()),()) else bif aW (aY (List.drop (Int.toNat 0) (List.take (Int.toNat 61) a0)) (0+8+4+4+1+4+2+4+8+8) 8) (aY (List.drop (Int.toNat 0) (List.take (Int.toNat 61) a0)) (0+8+4+4+1+4+2+4+8+8+8) 2) (aY (List.drop (Int.toNat 0) (List.take (Int.toNat 61) a0)) (0+8+4+4+1+4+2+4+8+8+8+2) 4) then oR (((0,0,0,false,0,0,0,0,0,0,()),84,()),()) else bif decide (aY (List.drop (Int.toNat 0) (List.take (Int.toNat 61) a0)) (0+8+4+4+1+4+2+4+8+8+8+2+4) 4<1) then oR (((0,0,0,false,0,0,0,0,0,0,()),85,()),()) else bif decide (256<aY (List.drop (Int.toNat 0) (List.take (Int.toNat 61) a0)) (0+8+4+4+1+4+2+4+8+8+8+2+4) 4) then oR (((0,0,0,false,0,0,0,0,0,0,()),9,()),()) else bif aY (List.drop (Int.toNat 0) (List.take (Int.toNat 61) a0)) (0+8+4+4+1+4+2) 4 != i32.wrap (aY (List.drop (Int.toNat 0) (List.take (Int.toNat 61) a0)) (0+8+4+4+1+4+2+4+8+8+8+2+4) 4 - 1) then oR (((0,0,0,false,0,0,0,0,0,0,()),72,()),()) else bif (aw a0 0).2 != 0 then oR (((0,0,0,false,0,0,0,0,0,0,()),(aw a0 0).2,()),()) else oR (((aY (List.drop (Int.toNat 0) (List.take (Int.toNat 61) a0)) 0 8,(aw a0 0).1,aY (List.drop (Int.toNat 0) (List.take (Int.toNat 61) a0)) (0+8+4) 4,aY (List.drop (Int.toNat 0) (List.take (Int.toNat 61) a0)) (0+8+4+4+1+4) 2 == 1,i64.wrap (aY (List.drop (Int.toNat 0) (List.take (Int.toNat 61) a0)) (0+8+4+4+1+4+2+4+8+8+8+2+4) 4),aY (List.drop (Int.toNat 0) (List.take (Int.toNat 61) a0)) (0+8+4+4+1+4+2+4) 8,aY (List.drop (Int.toNat 0) (List.take (Int.toNat 61) a0)) (0+8+4+4+1+4+2+4+8) 8,aY (List.drop (Int.toNat 0) (List.take (Int.toNat 61) a0)) (0+8+4+4+1+4+2+4+8+8) 8,aY (List.drop (Int.toNat 0) (List.take (Int.toNat 61) a0)) (0+8+4+4+1+4+2+4+8+8+8) 2,aY (List.drop (Int.toNat 0) (List.take (Int.toNat 61) a0)) (0+8+4+4+1+4+2+4+8+8+8+2) 4,()),0,()),()) else none else bif aQ (aY (List.drop (Int.toNat 0) (List.take (Int.toNat 61) a0)) 0 8) then oR (((0,0,0,false,0,0,0,0,0,0,()),80,()),()) else bif aY (List.drop (Int.toNat 0) (List.take (Int.toNat 61) a0)) (0+8+4+4+1+4) 2 != 0&&!aY (List.drop (Int.toNat 0) (List.take (Int.toNat 61) a0)) (0+8+4+4+1+4) 2 == 1 then oR (((0,0,0,false,0,0,0,0,0,0,()),83,()),()) else bif aW (aY (List.drop (Int.toNat 0) (List.take (Int.toNat 61) a0)) (0+8+4+4+1+4+2+4+8+8) 8) (aY (List.drop (Int.toNat 0) (List.take (Int.toNat 61) a0)) (0+8+4+4+1+4+2+4+8+8+8) 2) (aY (List.drop (Int.toNat 0) (List.take (Int.toNat 61) a0)) (0+8+4+4+1+4+2+4+8+8+8+2) 4) then oR (((0,0,0,false,0,0,0,0,0,0,()),84,()),()) else bif decide (aY (List.drop (Int.toNat 0) (List.take (Int.toNat 61) a0)) (0+8+4+4+1+4+2+4+8+8+8+2+4) 4<1) then oR (((0,0,0,false,0,0,0,0,0,0,()),85,()),()) else bif decide (256<aY (List.drop (Int.toNat 0) (List.take (Int.toNat 61) a0)) (0+8+4+4+1+4+2+4+8+8+8+2+4) 4) then oR (((0,0,0,false,0,0,0,0,0,0,()),9,()),()) else bif aY (List.drop (Int.toNat 0) (List.take (Int.toNat 61) a0)) (0+8+4+4+1+4+2) 4 != i32.wrap (aY (List.drop (Int.toNat 0) (List.take (Int.toNat 61) a0)) (0+8+4+4+1+4+2+4+8+8+8+2+4) 4 - 1) then oR (((0,0,0,false,0,0,0,0,0,0,()),72,()),()) else bif (aw a0 0).2 != 0 then oR (((0,0,0,false,0,0,0,0,0,0,()),(aw a0 0).2,()),()) else oR (((aY (List.drop (Int.toNat 0) (List.take (Int.toNat 61) a0)) 0 8,(aw a0 0).1,aY (List.drop (Int.toNat 0) (List.take (Int.toNat 61) a0)) (0+8+4) 4,aY (List.drop (Int.toNat 0) (List.take (Int.toNat 61) a0)) (0+8+4+4+1+4) 2 == 1,i64.wrap (aY (List.drop (Int.toNat 0) (List.take (Int.toNat 61) a0)) (0+8+4+4+1+4+2+4+8+8+8+2+4) 4),aY (List.drop (Int.toNat 0) (List.take (Int.toNat 61) a0)) (0+8+4+4+1+4+2+4) 8,aY (List.drop (Int.toNat 0) (List.take (Int.toNat 61) a0)) (0+8+4+4+1+4+2+4+8) 8,aY (List.drop (Int.toNat 0) (List.take (Int.toNat 61) a0)) (0+8+4+4+1+4+2+4+8+8) 8,aY (List.drop (Int.toNat 0) (List.take (Int.toNat 61) a0)) (0+8+4+4+1+4+2+4+8+8+8) 2,aY (List.drop (Int.toNat 0) (List.take (Int.toNat 61) a0)) (0+8+4+4+1+4+2+4+8+8+8+2) 4,()),0,()),()) else none else none else none else none else none else none else none else none else none else none else none else none else none else none else none else none
theorem MX (a0:LI)(a1:Bool):Io.run tt OC Tc Hh jb Tryz.f73 ((a0,a1,()),())=wv a0 a1:=by kernel_rfl
theorem Pf:HcOk prog 73 (ah jb DT):=by
 refine IB (n:=400) hm (cs:=Ge) (.cons HN (.cons HV (.cons Re (.cons Ph (.cons Rd (.cons Sp (.cons Rb (.cons HQ (.cons Am (.cons HO .nil)))))))))) (lp:=Hh) (fn:=Tryz.f73) (by kernel_rfl) (by kernel_rfl) (by kernel_rfl) jb (.done (by kernel_rfl)) DT ?_
 rintro ⟨⟨(b:LI),(sm:Bool),⟨⟩⟩,⟨⟩⟩ out hw ho
 obtain ⟨hg,ho⟩:=Tr.guard ho
 have hg2:b.length≤4294960000:=of_decide_eq_true hg
 clear hg
 cases ho
 have hb:∀c∈b,0≤c∧c≤255:=dY hw.1.1
 refine (MX b sm).trans ?_
 show _=oR (((aj b sm).1,(aj b sm).2,()),())
 have eE:ba b sm=if (b.length:Int)<61 then 1 else if (aw b 0).2≠0 then (aw b 0).2 else if (aw b 0).1<(b.length:Int) then 2 else if b.getD 16 0≠2 then 81 else if sm=true∧ff b=false then 82
   else if aQ (av b 0 8)=true then 80 else if b.getD 21 0≠0∨1<b.getD 22 0 then 83 else if aW (av b 43 8) (av b 51 2) (av b 53 4)=true then 84 else if av b 57 4<1 then 85 else if 256<av b 57 4 then 9 else if av b 23 4≠av b 57 4 - 1 then 72 else 0:=rfl
 have fin:∀e:Int,e≠0→ba b sm=e→some (Out.ret ((bx,(e,())),()):jb.Res)=oR (((aj b sm).1,(aj b sm).2,()),()):=by
  intro e he h
  have:aj b sm=(bx,e):=by unfold aj;rw[h,if_pos he]
  rw[this]
 unfold wv
 by_cases h1:(b.length:Int)<61
 ·refine bT (decide_eq_true h1) ?_
  exact fin 1 (by decide) (by rw[eE,if_pos h1])
 refine bF (decide_eq_false h1) ?_
 rw[if_neg h1] at eE
 refine bT (decide_eq_true hg2) ?_
 by_cases h2:(aw b 0).2=0
 rotate_left
 ·refine bT (by simpa using h2) ?_
  exact fin _ h2 (by rw[eE,if_pos h2])
 refine bF (by simpa using h2) ?_
 rw[if_neg (aq h2)] at eE
 by_cases h3:(aw b 0).1<(b.length:Int)
 ·refine bT (decide_eq_true h3) ?_
  exact fin 2 (by decide) (by rw[eE,if_pos h3])
 refine bF (decide_eq_false h3) ?_
 rw[if_neg h3] at eE
 have hH:(List.drop (Int.toNat 0) (List.take (Int.toNat 61) b))=b.take 61:=rfl
 have hHl:(b.take 61).length=61:=by simp;omega
 rw[hH]
 refine bT (by simp only[zA,zB];omega) ?_
 refine bT (by rw[hHl];decide) ?_
 have rm:∀p n:Int,0≤p→p+n≤61→iZ (b.take 61) p n=true:=by
  intro p n g1 g2
  unfold iZ
  simp only[hHl,zA,zB]
  omega
 refine (aa (rm 0 8 (by decide) (by decide)) _ _).trans ?_
 refine bT (by rw[rm (0+8) 4 (by decide) (by decide)];rfl) ?_
 refine (aa (rm (0+8+4) 4 (by decide) (by decide)) _ _).trans ?_
 refine (aa (rm (0+8+4+4) 1 (by decide) (by decide)) _ _).trans ?_
 refine (aa (rm (0+8+4+4+1) 4 (by decide) (by decide)) _ _).trans ?_
 refine (aa (rm (0+8+4+4+1+4) 2 (by decide) (by decide)) _ _).trans ?_
 refine (aa (rm (0+8+4+4+1+4+2) 4 (by decide) (by decide)) _ _).trans ?_
 refine (aa (rm (0+8+4+4+1+4+2+4) 8 (by decide) (by decide)) _ _).trans ?_
 refine (aa (rm (0+8+4+4+1+4+2+4+8) 8 (by decide) (by decide)) _ _).trans ?_
 refine (aa (rm (0+8+4+4+1+4+2+4+8+8) 8 (by decide) (by decide)) _ _).trans ?_
 refine (aa (rm (0+8+4+4+1+4+2+4+8+8+8) 2 (by decide) (by decide)) _ _).trans ?_
 refine (aa (rm (0+8+4+4+1+4+2+4+8+8+8+2) 4 (by decide) (by decide)) _ _).trans ?_
 refine (aa (rm (0+8+4+4+1+4+2+4+8+8+8+2+4) 4 (by decide) (by decide)) _ _).trans ?_
 have hz:∀p n:Nat,p+n≤61→aY (b.take 61) (p:Int) n=av b p n:=by
  intro p n h
  rw[kg]
  unfold av
  rw[List.drop_take,List.take_take,Nat.min_eq_left (by omega)]
 have z16:aY (b.take 61) (0+8+4+4) 1=av b 16 1:=hz 16 1 (by decide)
 have z17:aY (b.take 61) (0+8+4+4+1) 4=av b 17 4:=hz 17 4 (by decide)
 have a16:=Sv (b:=b) (p:=16) (by omega)
 have c16:=ua hw.1.1 16
 rw[z16,a16]
 by_cases h4:b.getD 16 0=2
 rotate_left
 ·refine bT (by simp only[bne_iff_ne];have c16:0≤b.getD 16 0∧b.getD 16 0≤255:=c16;split <;> omega) ?_
  exact fin 81 (by decide) (by rw[eE,if_pos h4])
 refine bF (by rw[h4];rfl) ?_
 rw[if_neg (aq h4)] at eE
 have hT:=Ij hb (by omega) h2 h3
 have fin2:¬(sm=true∧ff b=false)→Ef b=oR (((aj b sm).1,(aj b sm).2,()),()):=by
  intro hn
  rw[if_neg hn] at eE
  rw[hT]
  have hs:aj b sm=if ba b sm≠0 then (bx,ba b sm) else (iS b,0):=rfl
  rw[hs,eE]
  by_cases d1:aQ (av b 0 8)=true
  ·rw[if_pos d1,if_pos d1,if_pos (by decide)]
  rw[if_neg d1,if_neg d1]
  by_cases d2:b.getD 21 0≠0∨1<b.getD 22 0
  ·rw[if_pos d2,if_pos d2,if_pos (by decide)]
  rw[if_neg d2,if_neg d2]
  by_cases d3:aW (av b 43 8) (av b 51 2) (av b 53 4)=true
  ·rw[if_pos d3,if_pos d3,if_pos (by decide)]
  rw[if_neg d3,if_neg d3]
  by_cases d4:av b 57 4<1
  ·rw[if_pos d4,if_pos d4,if_pos (by decide)]
  rw[if_neg d4,if_neg d4]
  by_cases d5:256<av b 57 4
  ·rw[if_pos d5,if_pos d5,if_pos (by decide)]
  rw[if_neg d5,if_neg d5]
  by_cases d6:av b 23 4≠av b 57 4 - 1
  ·rw[if_pos d6,if_pos d6,if_pos (by decide)]
  rw[if_neg d6,if_neg d6,if_neg (by decide)]
 cases sm with
 |false=>
  refine (ae rfl _ _).trans ?_
  exact fin2 (fun h=>by cases h.1)
 |true=>
  refine (aa rfl _ _).trans ?_
  rw[zG,List.take_length,show Int.toNat 21=21 from rfl]
  refine bT (by simp only[zA,zB];omega) ?_
  rw[z17]
  have hL:=cA (b:=b) (p:=17) (n:=4) (by omega)
  have hLr:=dR hb 17 4
  have hcr:=DA 0 (by decide) (b:=b.drop 21) (fun c hc=>hb c (List.mem_of_mem_drop hc))
  have hS:ff b=decide (aV ((b.drop 17).take 4)=cB 0 (b.drop 21)):=by
   unfold ff
   by_cases h:(b.drop 17).take 4=az (cB 0 (b.drop 21)) 4
   ·rw[if_pos h,decide_eq_true ((F9 hLr hL hcr.1 hcr.2).1 h)]
   ·rw[if_neg h,decide_eq_false (fun h'=>h ((F9 hLr hL hcr.1 hcr.2).2 h'))]
  have hw17:u32.wrap (av b 17 4)=aV ((b.drop 17).take 4):=Ql hLr hL
  rw[hw17]
  by_cases h5:aV ((b.drop 17).take 4)=cB 0 (b.drop 21)
  ·refine bF (by show (aV ((b.drop 17).take 4) != cB 0 (b.drop 21))=false;simp[h5]) ?_
   exact fin2 (fun h=>by rw[hS,decide_eq_true h5] at h;cases h.2)
  ·refine bT (by show (aV ((b.drop 17).take 4) != cB 0 (b.drop 21))=true;simp[h5]) ?_
   exact fin 82 (by decide) (by rw[eE,if_pos ⟨rfl,by rw[hS,decide_eq_false h5]⟩])
abbrev kz:Io:=⟨[dL],[],[],[BS,dI],none⟩
def FS (d:kz.In):Tr kz.Res:=.ite (decide (d.1.1.length≤4294960000)) (.ret (.ret (((aE d.1.1).1,(aE d.1.1).2,()),()))) .no
abbrev KD:List (Nat×Hc):=[(73,ah jb DT),(74,ah iu yi),(75,ah nR J8),(76,ah fY tk),(77,ah jc yk)]
def Lm:Hd:=bA KD
abbrev dK:Lo:=⟨⟨(bh (.one (.ptr 2 0)::.any::.one (.ptr 4 0)::.any::.one (.hol (.sl 5 (Ty.int u8)))::.one (.ptr 7 0)::.one hI::.any::ai (ai (bz (.one hI::.one hI::ai (ai (cy (bz (bh []))))))))),[none,none,some [hI,hJ,hI,hK,hJ,.onl 91 bv 1036],none,some [hI,hI,hJ,hL,hI,hI,hI,hI,hK,hJ],none,none,some [hI,hJ,hI,hK,hJ,.onl 91 bv 3596]]⟩,[(.ret,⟨(bh (.one (.ptr 2 0)::.one hI::ai (ai (ai (ai (ai (cy (bh [])))))))),[none,none,some [hI,hJ,hI,hK,hJ,.onl 91 bv 129]]⟩),(.ret,⟨(bh (.one (.ptr 2 0)::.one hI::ai (ai (ai (ai (ai (cy (bh [])))))))),[none,none,some [hI,hJ,hI,hK,hJ,.onl 91 bv 153]]⟩),(.exit 0,⟨(bh (.one (.ptr 2 0)::.any::.one (.ptr 4 0)::.any::.one (.hol (.sl 5 (Ty.int u8)))::.one (.ptr 7 0)::.one hI::.any::ai (ai (ai (ai (ai (bz []))))))),[none,none,some [hI,hJ,hI,hK,hJ,.onl 91 bv 1036],none,some [hI,hI,hJ,hL,hI,hI,hI,hI,hK,hJ],none,none,some [hI,hJ,hI,hK,hJ,.onl 91 bv 3596]]⟩)]⟩
def RU:aX:=(0,(0,(0,(0,(0,([],()))))))
def lf (blk:LI)(f:Int):Nat→Nat→Int→List bJ→Int×Int×Int×List bJ
 |0,_,p,out=>(0,0,p,out)
 |n+1,i,p,out=>
  if (an blk p).2.2≠0 then ((an blk p).2.2,0,0,[])
  else if (bL (an blk p).1 (i:Int) f).2≠0 then (0,(bL (an blk p).1 (i:Int) f).2,0,[])
  else lf blk f n (i+1) (an blk p).2.1 (out++[(bL (an blk p).1 (i:Int) f).1])
def F8 (blk:LI)(z:aX)(info:wl)(b1 b2 b3 b4 b5:Int)(x:Int×Int×Int×List bJ):Tr (ao dK.xs):=
 .ite (decide (x.1≠0)) (.ret (.ret ((),((x.1,()),(RU,())))))
  (.ite (decide (x.2.1≠0)) (.ret (.pan (.ret ((),((x.2.1,()),(RU,()))))))
   (.ret (.pan (.pan (.ret ((),((blk,(x.2.2.1,())),(z,(info,((b1,(b2,(b3,(b4,(b5,(x.2.2.2,())))))),()))))))))))
def tj (d:dK.st.den):Tr (ao dK.xs):=
 .ite (decide (d.1.2.2.2.1=0)&&(decide (d.2.2.2.1.2.2.2.2.2.1.length=0)&&(decide ((0:Int)≤d.1.2.2.1)&&decide (d.1.2.2.1≤(4294960000:Int)))))
  (F8 d.1.1 d.2.1 d.2.2.1 d.2.2.2.1.1 d.2.2.2.1.2.1 d.2.2.2.1.2.2.1 d.2.2.2.1.2.2.2.1 d.2.2.2.1.2.2.2.2.1 (lf d.1.1 d.2.2.1.2.2.2.2.2.1 d.1.2.2.1.toNat 0 d.1.2.1 [])) .no
def zT:Lp:=bQ [(11,aG dK tj)]
def mC {R:Type}(h1:LI)(h2 h3 h4 h5 h6 h7 h8 h9:Int)(h10:List bv.den)(h11 h12 h13:Int)(h14:Bool)(h15 h16 h17 h18 h19 h20 h21 h22 h23 h24 h25:Int)(h26:List bv.den)(next:LI→Int→Int→Int→Int→Int→Int→Int→Int→List bv.den→Int→Int→Int→Bool→Int→Int→Int→Int→Int→Int→Int→Int→Int→Int→Int→List bv.den→Option R)(out:ao dK.xs→Option R):Option R:=bif decide (h4<h3) then bif (an h1 h2).2.2 != 0 then out (.ret ((),(((an h1 h2).2.2,()),((0,(0,(0,(0,(0,([],())))))),())))) else bif (bL (an h1 h2).1 h4 h16).2 != 0 then out (.pan (.ret ((),(((bL (an h1 h2).1 h4 h16).2,()),((0,(0,(0,(0,(0,([],())))))),()))))) else bif decide (h26.length+1≤4294967296) then next (h1) ((an h1 h2).2.1) (h3) (i64.wrap (h4+1)) (h5) (h6) (h7) (h8) (h9) (h10) (h11) (h12) (h13) (h14) (h15) (h16) (h17) (h18) (h19) (h20) (h21) (h22) (h23) (h24) (h25) (h26++[(bL (an h1 h2).1 h4 h16).1]) else none else out (.pan (.pan (.ret ((),((h1,(h2,())),((h5,(h6,(h7,(h8,(h9,(h10,())))))),((h11,(h12,(h13,(h14,(h15,(h16,(h17,(h18,(h19,(h20,())))))))))),((h21,(h22,(h23,(h24,(h25,(h26,())))))),()))))))))
def qN (n:Nat)(h1:LI)(h2 h3 h4 h5 h6 h7 h8 h9:Int)(h10:List bv.den)(h11 h12 h13:Int)(h14:Bool)(h15 h16 h17 h18 h19 h20 h21 h22 h23 h24 h25:Int)(h26:List bv.den):Option (ao dK.xs):=fV tt Lm dr zT 0 Tryz.f56 (b9 Tryz.f56 0) n (dK.st.mk' ((h1,(h2,(h3,(h4,())))),((h5,(h6,(h7,(h8,(h9,(h10,())))))),((h11,(h12,(h13,(h14,(h15,(h16,(h17,(h18,(h19,(h20,())))))))))),((h21,(h22,(h23,(h24,(h25,(h26,())))))),()))))) (bH dK.xs)
theorem xX (n:Nat)(h1:LI)(h2 h3 h4 h5 h6 h7 h8 h9:Int)(h10:List bv.den)(h11 h12 h13:Int)(h14:Bool)(h15 h16 h17 h18 h19 h20 h21 h22 h23 h24 h25:Int)(h26:List bv.den):qN (n+1) h1 h2 h3 h4 h5 h6 h7 h8 h9 h10 h11 h12 h13 h14 h15 h16 h17 h18 h19 h20 h21 h22 h23 h24 h25 h26=mC h1 h2 h3 h4 h5 h6 h7 h8 h9 h10 h11 h12 h13 h14 h15 h16 h17 h18 h19 h20 h21 h22 h23 h24 h25 h26 (qN n) some:=by kernel_rfl
theorem CA (blk:LI)(z1 z2 z3 z4 z5:Int)(z6:List bJ)(i1 i2 i3:Int)(i4:Bool)(i5 i6 i7 i8 i9 i10 b1 b2 b3 b4 b5:Int):∀(n k i:Nat) (p:Int) (out:List bJ),n<k→out.length=i→i+n≤4294960000→
  qN k blk p ((i+n:Nat):Int) i z1 z2 z3 z4 z5 z6 i1 i2 i3 i4 i5 i6 i7 i8 i9 i10 b1 b2 b3 b4 b5 out=(F8 blk (z1,z2,z3,z4,z5,z6,()) (i1,i2,i3,i4,i5,i6,i7,i8,i9,i10,()) b1 b2 b3 b4 b5 (lf blk i6 n i p out)).val:=by
 intro n
 induction n with
 |zero=>
  intro k i p out h1 h2 h3
  obtain ⟨k,rfl⟩:∃j,k=j+1:=⟨k - 1,by omega⟩
  rw[xX]
  unfold mC
  refine bF (by simp) ?_
  rfl
 |succ n ih=>
  intro k i p out h1 h2 h3
  obtain ⟨k,rfl⟩:∃j,k=j+1:=⟨k - 1,by omega⟩
  rw[xX]
  unfold mC
  refine bT (decide_eq_true (by omega)) ?_
  have e:lf blk i6 (n+1) i p out=if (an blk p).2.2≠0 then ((an blk p).2.2,0,0,[]) else if (bL (an blk p).1 (i:Int) i6).2≠0 then (0,(bL (an blk p).1 (i:Int) i6).2,0,[]) else lf blk i6 n (i+1) (an blk p).2.1 (out++[(bL (an blk p).1 (i:Int) i6).1]):=rfl
  rw[e]
  by_cases c1:(an blk p).2.2=0
  ·refine bF (by simpa using c1) ?_
   rw[if_neg (aq c1)]
   by_cases c2:(bL (an blk p).1 (i:Int) i6).2=0
   ·refine bF (by simpa using c2) ?_
    rw[if_neg (aq c2)]
    refine bT (decide_eq_true (by omega)) ?_
    rw[af (n:=(i:Int)+1) (by omega) (by omega)]
    have:=ih k (i+1) (an blk p).2.1 (out++[(bL (an blk p).1 (i:Int) i6).1]) (by omega) (by simp;omega) (by omega)
    rw[show i+1+n=i+(n+1) by omega] at this
    exact this
   ·refine bT (by simpa using c2) ?_
    rw[if_pos c2]
    unfold F8
    rw[Tr.val_ite,Tr.val_ite,if_neg (by simp),if_pos (decide_eq_true c2)]
    rfl
  ·refine bT (by simpa using c1) ?_
   rw[if_pos c1]
   unfold F8
   rw[Tr.val_ite,if_pos (decide_eq_true c1)]
   rfl
theorem rU (blk:LI)(f:Int):∀(n i:Nat) (p:Int) (out:List bJ),(aF blk f n i p out).2.2=0→(aF blk f n i p out).1.length=out.length+n
 |0,_,_,_,_=>rfl
 |n+1,i,p,out,h=>by
  unfold aF at h ⊢
  split
  ·rename_i c;rw[if_pos c] at h;exact absurd h c
  rename_i c;rw[if_neg c] at h
  split
  ·rename_i c2;rw[if_pos c2] at h;cases h
  rename_i c2;rw[if_neg c2] at h
  split
  ·rename_i c3;rw[if_pos c3] at h;cases h
  rename_i c3;rw[if_neg c3] at h
  rw[rU blk f n (i+1) _ _ h]
  simp;omega
theorem Ia (blk:LI)(f:Int):∀(n i:Nat) (p:Int) (out:List bJ),
  ((aF blk f n i p out).2.2=0→(lf blk f n i p out)=(0,0,(aF blk f n i p out).2.1,(aF blk f n i p out).1))∧
  ((aF blk f n i p out).2.2≠0→(lf blk f n i p out).1=(aF blk f n i p out).2.2∨(lf blk f n i p out).1=0∧(lf blk f n i p out).2.1=(aF blk f n i p out).2.2)
 |0,i,p,out=>⟨fun _=>rfl,fun h=>absurd rfl h⟩
 |n+1,i,p,out=>by
  have e:aF blk f (n+1) i p out=if (an blk p).2.2≠0 then ([],0,(an blk p).2.2) else if (an blk p).1.2.1≠(i:Int) then ([],0,72) else if i=0∧(an blk p).1.1≠0∨aK (f+(an blk p).1.1)=false then ([],0,86)
    else aF blk f n (i+1) (an blk p).2.1 (out++[(f+(an blk p).1.1,(an blk p).1.2.2.1,(an blk p).1.2.2.2.1,(an blk p).1.2.2.2.2.1,())]):=rfl
  have e2:lf blk f (n+1) i p out=if (an blk p).2.2≠0 then ((an blk p).2.2,0,0,[]) else if (bL (an blk p).1 (i:Int) f).2≠0 then (0,(bL (an blk p).1 (i:Int) f).2,0,[]) else lf blk f n (i+1) (an blk p).2.1 (out++[(bL (an blk p).1 (i:Int) f).1]):=rfl
  have eO:bL (an blk p).1 (i:Int) f=if (an blk p).1.2.1≠(i:Int) then (tf,72) else if (i:Int)=0∧(an blk p).1.1≠0∨aK (f+(an blk p).1.1)=false then (tf,86)
    else ((f+(an blk p).1.1,(an blk p).1.2.2.1,(an blk p).1.2.2.2.1,(an blk p).1.2.2.2.2.1,()),0):=rfl
  rw[e,e2]
  by_cases c1:(an blk p).2.2=0
  rotate_left
  ·rw[if_pos c1,if_pos c1]
   exact ⟨fun h=>absurd h c1,fun _=>.inl rfl⟩
  rw[if_neg (aq c1),if_neg (aq c1)]
  by_cases c2:(an blk p).1.2.1=(i:Int)
  rotate_left
  ·rw[if_pos c2,eO,if_pos c2,if_pos (by decide)]
   exact ⟨(fun h=>by cases h),fun _=>.inr ⟨rfl,rfl⟩⟩
  rw[if_neg (aq c2)]
  by_cases c3:i=0∧(an blk p).1.1≠0∨aK (f+(an blk p).1.1)=false
  ·have c3':(i:Int)=0∧(an blk p).1.1≠0∨aK (f+(an blk p).1.1)=false:=by
    rcases c3 with h | h
    ·exact .inl ⟨by omega,h.2⟩
    ·exact .inr h
   rw[if_pos c3,eO,if_neg (aq c2),if_pos c3',if_pos (by decide)]
   exact ⟨(fun h=>by cases h),fun _=>.inr ⟨rfl,rfl⟩⟩
  ·have c3':¬((i:Int)=0∧(an blk p).1.1≠0∨aK (f+(an blk p).1.1)=false):=by
    rintro (h | h)
    ·exact c3 (.inl ⟨by omega,h.2⟩)
    ·exact c3 (.inr h)
   rw[if_neg c3,eO,if_neg (aq c2),if_neg c3',if_neg (aq rfl)]
   exact Ia blk f n (i+1) _ _
theorem fX {b:LI}{sm:Bool}(h:ba b sm=0):61≤b.length∧(aw b 0).2=0∧(aw b 0).1=(b.length:Int)∧b.getD 16 0=2∧¬(sm=true∧ff b=false)∧aQ (av b 0 8)=false∧b.getD 21 0=0∧b.getD 22 0≤1∧aW (av b 43 8) (av b 51 2) (av b 53 4)=false∧1≤av b 57 4∧av b 57 4≤256∧av b 23 4=av b 57 4 - 1:=by
 unfold ba at h
 split at h
 ·cases h
 split at h
 ·rename_i c;exact absurd h c
 rename_i h1 h2
 split at h
 ·cases h
 rename_i h3
 split at h
 ·cases h
 rename_i h4
 split at h
 ·cases h
 rename_i h5
 split at h
 ·cases h
 rename_i h6
 split at h
 ·cases h
 rename_i h7
 split at h
 ·cases h
 rename_i h8
 split at h
 ·cases h
 rename_i h9
 split at h
 ·cases h
 rename_i h10
 split at h
 ·cases h
 rename_i h11
 have h2:(aw b 0).2=0:=Classical.byContradiction h2
 have hm:=hY h2
 refine ⟨by omega,h2,by omega,Classical.byContradiction h4,h5,by simpa using h6,?_,by omega,by simpa using h8,by omega,by omega,Classical.byContradiction h11⟩
 exact Classical.byContradiction fun h=>h7 (.inl h)
def AZ (a0:LI):Option kz.Res:=bif decide (a0.length≤4294960000) then bif (aj a0 true).2 != 0 then oR (((0,0,0,0,0,[],()),(aj a0 true).2,()),()) else bif decide (61≤a0.length)&&decide (a0.length≤4294960000) then bif (aN a0 (aj a0 true).1.2.2.2.1).2 != 0 then oR (((0,0,0,0,0,[],()),(aN a0 (aj a0 true).1.2.2.2.1).2,()),()) else (bif decide ((0:Int)=0)&&(decide (([]:List bJ).length=0)&&(decide ((0:Int)≤(aj a0 true).1.2.2.2.2.1)&&decide ((aj a0 true).1.2.2.2.2.1≤(4294960000:Int)))) then (bif decide ((lf (aN a0 (aj a0 true).1.2.2.2.1).1 (aj a0 true).1.2.2.2.2.2.1 ((aj a0 true).1.2.2.2.2.1).toNat 0 0 []).1≠0) then oR (((0,0,0,0,0,[],()),(lf (aN a0 (aj a0 true).1.2.2.2.1).1 (aj a0 true).1.2.2.2.2.2.1 ((aj a0 true).1.2.2.2.2.1).toNat 0 0 []).1,()),()) else bif decide ((lf (aN a0 (aj a0 true).1.2.2.2.1).1 (aj a0 true).1.2.2.2.2.2.1 ((aj a0 true).1.2.2.2.2.1).toNat 0 0 []).2.1≠0) then oR (((0,0,0,0,0,[],()),(lf (aN a0 (aj a0 true).1.2.2.2.1).1 (aj a0 true).1.2.2.2.2.2.1 ((aj a0 true).1.2.2.2.2.1).toNat 0 0 []).2.1,()),()) else bif decide ((lf (aN a0 (aj a0 true).1.2.2.2.1).1 (aj a0 true).1.2.2.2.2.2.1 ((aj a0 true).1.2.2.2.2.1).toNat 0 0 []).2.2.1<(↑(aN a0 (aj a0 true).1.2.2.2.1).1.length:Int)) then oR (((0,0,0,0,0,[],()),2,()),()) else bif decide (1≤(lf (aN a0 (aj a0 true).1.2.2.2.1).1 (aj a0 true).1.2.2.2.2.2.1 ((aj a0 true).1.2.2.2.2.1).toNat 0 0 []).2.2.2.length) then bif dD (lf (aN a0 (aj a0 true).1.2.2.2.1).1 (aj a0 true).1.2.2.2.2.2.1 ((aj a0 true).1.2.2.2.2.1).toNat 0 0 []).2.2.2 != (aj a0 true).1.2.2.2.2.2.2.1 then oR (((0,0,0,0,0,[],()),86,()),()) else oR ((((aj a0 true).1.1,(aj a0 true).1.2.2.1,(aj a0 true).1.2.2.2.2.2.2.2.1,(aj a0 true).1.2.2.2.2.2.2.2.2.1,(aj a0 true).1.2.2.2.2.2.2.2.2.2.1,(lf (aN a0 (aj a0 true).1.2.2.2.1).1 (aj a0 true).1.2.2.2.2.2.1 ((aj a0 true).1.2.2.2.2.1).toNat 0 0 []).2.2.2,()),0,()),()) else none) else none) else none else none
theorem PJ (a0:LI):Io.run tt Lm dr zT kz Tryz.f56 ((a0,()),())=AZ a0:=by kernel_rfl
theorem Ca:HcsOk prog KD:=.cons Pf (.cons Mk (.cons Rg (.cons IU (.cons HM .nil))))
theorem Ml:HcOk prog 56 (ah kz FS):=by
 refine bW Ca (lp:=zT) (fn:=Tryz.f56) kz (.step (h0:=aG dK tj) (by kernel_rfl) (gi Ca (lp:=zT) (fn:=Tryz.f56) (.done (by kernel_rfl)) dK tj ?_) (.done (by kernel_rfl))) FS ?_
 ·rintro ⟨⟨(blk:LI),(p:Int),(n:Int),(i:Int),⟨⟩⟩,⟨⟨(z1:Int),(z2:Int),(z3:Int),(z4:Int),(z5:Int),(z6:List bJ),⟨⟩⟩,⟨(i1:Int),(i2:Int),(i3:Int),(i4:Bool),(i5:Int),(i6:Int),(i7:Int),(i8:Int),(i9:Int),(i10:Int),⟨⟩⟩,⟨(b1:Int),(b2:Int),(b3:Int),(b4:Int),(b5:Int),(out:List bJ),⟨⟩⟩,⟨⟩⟩⟩ y hw hy
  obtain ⟨hg,hy⟩:=Tr.guard hy
  simp only[zA,zB] at hg
  obtain ⟨h1,h2,h3,h4⟩:=hg
  have h1:i=0:=h1
  have h2:out=[]:=List.length_eq_zero_iff.1 h2
  have h3:0≤n:=h3
  have h4:n≤(4294960000:Int):=h4
  subst h1 h2
  obtain ⟨n,rfl⟩:=aA h3
  have:=CA blk z1 z2 z3 z4 z5 z6 i1 i2 i3 i4 i5 i6 i7 i8 i9 i10 b1 b2 b3 b4 b5 n (n+1) 0 p [] (by omega) rfl (by omega)
  rw[Nat.zero_add] at this
  exact ⟨n+1,this.trans hy⟩
 ·rintro ⟨⟨(b:LI),⟨⟩⟩,⟨⟩⟩ out hw ho
  obtain ⟨hg,ho⟩:=Tr.guard ho
  have hg2:b.length≤4294960000:=of_decide_eq_true hg
  clear hg
  cases ho
  refine (PJ b).trans ?_
  show _=oR (((aE b).1,(aE b).2,()),())
  have eE:d9 b=if ba b true≠0 then ([],ba b true) else if (aN b (decide (b.getD 22 0=1))).2≠0 then ([],(aN b (decide (b.getD 22 0=1))).2) else cU (aN b (decide (b.getD 22 0=1))).1 (av b 27 8) (av b 35 8) (av b 57 4).toNat:=rfl
  have fin:∀e:Int,e≠0→(d9 b).2=e→some (Out.ret ((RU,(e,())),()):kz.Res)=oR (((aE b).1,(aE b).2,()),()):=by
   intro e he h
   have:aE b=(te,e):=by unfold aE;rw[h,if_pos he]
   rw[this]
   rfl
  unfold AZ
  refine bT (decide_eq_true hg2) ?_
  by_cases h1:ba b true=0
  rotate_left
  ·have eh:aj b true=(bx,ba b true):=by unfold aj;rw[if_pos h1]
   rw[eh]
   refine bT (by simpa using h1) ?_
   exact fin _ h1 (by rw[eE,if_pos h1])
  have eh:aj b true=(iS b,0):=by unfold aj;rw[if_neg (aq h1)]
  rw[if_neg (aq h1)] at eE
  obtain ⟨k1,_,_,_,_,_,_,_,_,k2,k3,_⟩:=fX h1
  have hI:iS b=(av b 0 8,(b.length:Int),av b 12 4,decide (b.getD 22 0=1),av b 57 4,av b 27 8,av b 35 8,av b 43 8,av b 51 2,av b 53 4,()):=rfl
  rw[eh,hI]
  dsimp only
  refine (ae rfl _ _).trans ?_
  refine bT (by simp only[zA,zB];exact ⟨k1,hg2⟩) ?_
  by_cases h2:(aN b (decide (b.getD 22 0=1))).2=0
  rotate_left
  ·refine bT (by simpa using h2) ?_
   exact fin _ h2 (by rw[eE,if_pos h2])
  refine bF (by simpa using h2) ?_
  rw[if_neg (aq h2)] at eE
  generalize (aN b (decide (b.getD 22 0=1))).1=blk at *
  refine bT (by simp only[zA,zB];exact ⟨trivial,rfl,show (0:Int)≤av b 57 4 by omega,show av b 57 4≤(4294960000:Int) by omega⟩) ?_
  have eR:cU blk (av b 27 8) (av b 35 8) (av b 57 4).toNat=if (aF blk (av b 27 8) (av b 57 4).toNat 0 0 []).2.2≠0 then ([],(aF blk (av b 27 8) (av b 57 4).toNat 0 0 []).2.2)
    else if (aF blk (av b 27 8) (av b 57 4).toNat 0 0 []).2.1<(blk.length:Int) then ([],2)
    else if dD (aF blk (av b 27 8) (av b 57 4).toNat 0 0 []).1≠av b 35 8 then ([],86) else ((aF blk (av b 27 8) (av b 57 4).toNat 0 0 []).1,0):=rfl
  have hlen:=rU blk (av b 27 8) (av b 57 4).toNat 0 0 []
  obtain ⟨x1,x2⟩:=Ia blk (av b 27 8) (av b 57 4).toNat 0 0 []
  rw[eR] at eE
  generalize aF blk (av b 27 8) (av b 57 4).toNat 0 0 []=r at *
  obtain ⟨rs,q,e⟩:=r
  simp only at eE hlen x1 x2
  by_cases h3:e=0
  rotate_left
  ·rw[if_pos h3] at eE
   rcases x2 h3 with x | ⟨x,x'⟩
   ·rw[x]
    refine bT (decide_eq_true h3) ?_
    exact fin e h3 (by rw[eE])
   ·rw[x,x']
    refine (ae rfl _ _).trans ?_
    refine bT (decide_eq_true h3) ?_
    exact fin e h3 (by rw[eE])
  rw[if_neg (aq h3)] at eE
  rw[x1 h3]
  have hlen:=hlen h3
  refine (ae rfl _ _).trans ?_
  refine (ae rfl _ _).trans ?_
  by_cases h4:q<(blk.length:Int)
  ·refine bT (decide_eq_true h4) ?_
   exact fin 2 (by decide) (by rw[eE,if_pos h4])
  refine bF (decide_eq_false h4) ?_
  refine bT (decide_eq_true (show 1≤rs.length by rw[hlen];simp;omega)) ?_
  rw[if_neg h4] at eE
  by_cases h5:dD rs=av b 35 8
  ·refine bF (by simpa using h5) ?_
   rw[if_neg (aq h5)] at eE
   have:aE b=((av b 0 8,av b 12 4,av b 43 8,av b 51 2,av b 53 4,rs,()),0):=by unfold aE;rw[eE,if_neg (aq rfl)]
   rw[this]
  ·refine bT (by simpa using h5) ?_
   exact fin 86 (by decide) (by rw[eE,if_pos h5])
end
end Go.Proofs.YthpcdhgpplmneaaGreatDoor.Sym
namespace Go.Proofs.YthpcdhgpplmneaaGreatDoor.Sym
open Go
noncomputable section
def lz (b:LI)(m:Int)(n:Nat):Bool:=decide (m=36000)&&Nat.ble (b.length+n) 36000
theorem dN {b:LI}{m:Int}{n:Nat}:lz b m n=true↔m=36000∧b.length+n≤36000:=by
 unfold lz;rw[zA,zB,Nat.ble_eq]
abbrev uG:Io:=og
def J6 (d:uG.In):Tr uG.Res:=
 .ite (decide (d.1.1=36000)) (.ret (.ret (((),()),((([]:LI),(36000,())),())))) .no
theorem Mu:HcOk prog 89 (ah uG J6):=by
 refine HcOk.weakB Ry ?_
 rintro ⟨⟨(m:Int),⟨⟩⟩,⟨⟩⟩ y hw hy
 obtain ⟨hg,hy⟩:=Tr.guard hy
 have hg:m=36000:=of_decide_eq_true hg
 subst hg
 rw[← hy]
 rfl
abbrev uF:Io:=oe
def J5 (d:uF.In):Tr uF.Res:=
 .ite (lz d.2.1.1 d.2.1.2.1 8) (.ret (.ret ((0,()),((d.2.1.1++az d.1.2.1 8,(36000,())),())))) .no
theorem Mt:HcOk prog 90 (ah uF J5):=by
 refine HcOk.weakB Rx ?_
 rintro ⟨⟨⟨⟩,(v:Int),⟨⟩⟩,⟨⟨(b:LI),(m:Int),⟨⟩⟩,⟨⟩⟩⟩ y hw hy
 obtain ⟨hg,hy⟩:=Tr.guard hy
 obtain ⟨h1,h2⟩:=(dN (b:=b) (m:=m) (n:=8)).1 hg
 subst h1
 rw[← hy]
 have hk:dd b 36000=true:=by unfold dd;simp only[zA,zB];omega
 have e:cw b 36000 v 8=(0,b++az v 8):=by unfold cw;rw[if_neg (by omega)]
 show (F4 (((),(v,())),((b,(36000,())),()))).val=some (.ret ((0,()),((b++az v 8,(36000,())),())))
 unfold F4
 rw[Tr.val_ite,if_pos hk,Tr.val_ret]
 show oR (((cw b 36000 v 8).1,()),(((cw b 36000 v 8).2,(36000,())),()))=_
 rw[e]
abbrev uE:Io:=od
def J4 (d:uE.In):Tr uE.Res:=
 .ite (lz d.2.1.1 d.2.1.2.1 4) (.ret (.ret ((0,()),((d.2.1.1++az d.1.2.1 4,(36000,())),())))) .no
theorem Ms:HcOk prog 91 (ah uE J4):=by
 refine HcOk.weakB Rw ?_
 rintro ⟨⟨⟨⟩,(v:Int),⟨⟩⟩,⟨⟨(b:LI),(m:Int),⟨⟩⟩,⟨⟩⟩⟩ y hw hy
 obtain ⟨hg,hy⟩:=Tr.guard hy
 obtain ⟨h1,h2⟩:=(dN (b:=b) (m:=m) (n:=4)).1 hg
 subst h1
 rw[← hy]
 have hk:dd b 36000=true:=by unfold dd;simp only[zA,zB];omega
 have e:cw b 36000 v 4=(0,b++az v 4):=by unfold cw;rw[if_neg (by omega)]
 show (F3 (((),(v,())),((b,(36000,())),()))).val=some (.ret ((0,()),((b++az v 4,(36000,())),())))
 unfold F3
 rw[Tr.val_ite,if_pos hk,Tr.val_ret]
 show oR (((cw b 36000 v 4).1,()),(((cw b 36000 v 4).2,(36000,())),()))=_
 rw[e]
abbrev zl:Io:=oa
def Qr (d:zl.In):Tr zl.Res:=
 .ite (lz d.2.1.1 d.2.1.2.1 2) (.ret (.ret ((0,()),((d.2.1.1++az d.1.2.1 2,(36000,())),())))) .no
theorem Rf:HcOk prog 93 (ah zl Qr):=by
 refine HcOk.weakB Ru ?_
 rintro ⟨⟨⟨⟩,(v:Int),⟨⟩⟩,⟨⟨(b:LI),(m:Int),⟨⟩⟩,⟨⟩⟩⟩ y hw hy
 obtain ⟨hg,hy⟩:=Tr.guard hy
 obtain ⟨h1,h2⟩:=(dN (b:=b) (m:=m) (n:=2)).1 hg
 subst h1
 rw[← hy]
 have hk:dd b 36000=true:=by unfold dd;simp only[zA,zB];omega
 have e:cw b 36000 v 2=(0,b++az v 2):=by unfold cw;rw[if_neg (by omega)]
 show (F2 (((),(v,())),((b,(36000,())),()))).val=some (.ret ((0,()),((b++az v 2,(36000,())),())))
 unfold F2
 rw[Tr.val_ite,if_pos hk,Tr.val_ret]
 show oR (((cw b 36000 v 2).1,()),(((cw b 36000 v 2).2,(36000,())),()))=_
 rw[e]
abbrev Hb:Io:=uI
def R6 (d:Hb.In):Tr Hb.Res:=
 .ite (lz d.2.1.1 d.2.1.2.1 1) (.ret (.ret ((0,()),((d.2.1.1++az d.1.2.1 1,(36000,())),())))) .no
theorem Sq:HcOk prog 92 (ah Hb R6):=by
 refine HcOk.weakB Sr ?_
 rintro ⟨⟨⟨⟩,(v:Int),⟨⟩⟩,⟨⟨(b:LI),(m:Int),⟨⟩⟩,⟨⟩⟩⟩ y hw hy
 obtain ⟨hg,hy⟩:=Tr.guard hy
 obtain ⟨h1,h2⟩:=(dN (b:=b) (m:=m) (n:=1)).1 hg
 subst h1
 rw[← hy]
 have hk:dd b 36000=true:=by unfold dd;simp only[zA,zB];omega
 have e:cw b 36000 v 1=(0,b++az v 1):=by unfold cw;rw[if_neg (by omega)]
 show (Of (((),(v,())),((b,(36000,())),()))).val=some (.ret ((0,()),((b++az v 1,(36000,())),())))
 unfold Of
 rw[Tr.val_ite,if_pos hk,Tr.val_ret]
 show oR (((cw b 36000 v 1).1,()),(((cw b 36000 v 1).2,(36000,())),()))=_
 rw[e]
abbrev uH:Io:=oh
def J7 (d:uH.In):Tr uH.Res:=
 .ite (lz d.2.1.1 d.2.1.2.1 (ap d.1.2.1)) (.ret (.ret ((0,()),((d.2.1.1++bP d.1.2.1,(36000,())),())))) .no
theorem Mv:HcOk prog 94 (ah uH J7):=by
 refine HcOk.weakB Rz ?_
 rintro ⟨⟨⟨⟩,(ps:List (LI)),⟨⟩⟩,⟨⟨(b:LI),(m:Int),⟨⟩⟩,⟨⟩⟩⟩ y hw hy
 obtain ⟨hg,hy⟩:=Tr.guard hy
 obtain ⟨h1,h2⟩:=(dN (b:=b) (m:=m) (n:=ap ps)).1 hg
 subst h1
 rw[← hy]
 have hk:(dd b 36000&&decide (ap ps≤4294960000))=true:=by unfold dd;simp only[zA,zB];omega
 have e:vB b 36000 ps=(0,b++bP ps):=by unfold vB;rw[if_neg (by omega)]
 show (F5 (((),(ps,())),((b,(36000,())),()))).val=some (.ret ((0,()),((b++bP ps,(36000,())),())))
 unfold F5
 rw[Tr.val_ite,if_pos hk,Tr.val_ret]
 show oR (((vB b 36000 ps).1,()),(((vB b 36000 ps).2,(36000,())),()))=_
 rw[e]
abbrev nP:Io:=⟨[dL,gL,Iw],[],[],[dO,dI],none⟩
def J1 (d:nP.In):Tr nP.Res:=.ite (decide (d.1.1.length≤4294960000)) (.ret (.ret (((aP d.1.1 d.1.2.1 d.1.2.2.1).1,(aP d.1.1 d.1.2.1 d.1.2.2.1).2,()),()))) .no
abbrev KF:List (Nat×Hc):=[(56,ah kz FS),(100,ah gQ th),(89,ah uG J6),(90,ah uF J5),(94,ah uH J7),(91,ah uE J4),(97,ah gz sJ)]
def QP:Hd:=bA KF
def LX:Lp:=bQ []
def A4 (a0:LI)(a1 a2:Int):Option nP.Res:=bif decide (a0.length≤4294960000) then bif (aE a0).2 != 0 then oR (([],(aE a0).2,()),()) else bif aQ a1 then oR (([],80,()),()) else bif lz [] 36000 8 then bif decide (0≤8)&&(decide (8≤12)&&decide (12≤(↑a0.length:Int))) then bif lz ([]++az a1 8) 36000 (ap [List.drop (Int.toNat 8) (List.take (Int.toNat 12) a0)]) then bif lz ([]++az a1 8++bP [List.drop (Int.toNat 8) (List.take (Int.toNat 12) a0)]) 36000 4 then bif decide (0≤16)&&(decide (16≤(↑a0.length:Int))&&decide ((↑a0.length:Int)≤(↑a0.length:Int))) then bif lz ([]++az a1 8++bP [List.drop (Int.toNat 8) (List.take (Int.toNat 12) a0)]++az a2 4) 36000 (ap [List.drop (Int.toNat 16) (List.take (↑a0.length:Int).toNat a0)]) then bif decide (List.length ([]++az a1 8++bP [List.drop (Int.toNat 8) (List.take (Int.toNat 12) a0)]++az a2 4++bP [List.drop (Int.toNat 16) (List.take (↑a0.length:Int).toNat a0)])≤4294967296) then oR (([]++az a1 8++bP [List.drop (Int.toNat 8) (List.take (Int.toNat 12) a0)]++az a2 4++bP [List.drop (Int.toNat 16) (List.take (↑a0.length:Int).toNat a0)],0,()),()) else none else none else none else none else none else none else none else none
theorem PK (a0:LI)(a1 a2:Int):Io.run tt QP dr LX nP Tryz.f69 ((a0,a1,a2,()),())=A4 a0 a1 a2:=by kernel_rfl
theorem Mn:HcOk prog 69 (ah nP J1):=by
 refine bW (cs:=KF) (.cons Ml (.cons Am (.cons Mu (.cons Mt (.cons Mv (.cons Ms (.cons Db .nil))))))) (lp:=LX) (fn:=Tryz.f69) nP (.done (by kernel_rfl)) J1 ?_
 rintro ⟨⟨(b:LI),(base:Int),(ep:Int),⟨⟩⟩,⟨⟩⟩ out hw ho
 obtain ⟨hg,ho⟩:=Tr.guard ho
 have hg2:b.length≤4294960000:=of_decide_eq_true hg
 clear hg
 cases ho
 refine (PK b base ep).trans ?_
 show _=oR (((aP b base ep).1,((aP b base ep).2,())),())
 unfold A4
 refine bT (decide_eq_true hg2) ?_
 by_cases h1:(aE b).2=0
 rotate_left
 ·have:aP b base ep=([],(aE b).2):=by unfold aP;rw[if_pos h1]
  rw[this]
  exact aa (by simpa using h1) _ _
 refine bF (by simpa using h1) ?_
 by_cases h2:aQ base=true
 ·have:aP b base ep=([],80):=by unfold aP;rw[if_neg (aq h1),if_pos h2]
  rw[this]
  exact aa h2 _ _
 refine bF (by simpa using h2) ?_
 have e:aP b base ep=(az base 8++((b.drop 8).take 4++(az ep 4++b.drop 16)),0):=by unfold aP;rw[if_neg (aq h1),if_neg h2]
 rw[e]
 have hL:61≤b.length∧b.length≤36000:=by
  have hE:ba b true=0:=by
   by_cases h:ba b true=0
   ·exact h
   exfalso
   have:d9 b=([],ba b true):=by unfold d9;rw[if_pos h]
   unfold aE at h1
   rw[this,if_pos h] at h1
   exact h h1
  obtain ⟨k1,k2,k3,_⟩:=fX hE
  have k4:=hY k2
  omega
 obtain ⟨l1,l2⟩:=hL
 have e1:List.drop (Int.toNat 8) (List.take (Int.toNat 12) b)=(b.drop 8).take 4:=by
  show List.drop 8 (List.take 12 b)=_
  rw[List.drop_take]
 have e2:List.drop (Int.toNat 16) (List.take (b.length:Int).toNat b)=b.drop 16:=by
  show List.drop 16 (List.take (b.length:Int).toNat b)=_
  rw[zG,List.take_length]
 have j1:∀x:LI,ap [x]=x.length:=fun x=>Nat.add_zero _
 have j2:∀x:LI,bP [x]=x:=fun x=>List.append_nil _
 rw[e1,e2,j1,j1,j2,j2]
 have m1:((b.drop 8).take 4).length=4:=cA (b:=b) (p:=8) (n:=4) (by omega)
 have m2:(b.drop 16).length=b.length - 16:=List.length_drop
 have q8:=gC base 8
 have q4:=gC ep 4
 refine (aa (dN.2 ⟨rfl,by simp⟩) _ _).trans ?_
 refine bT (by simp only[zA,zB];omega) ?_
 refine (aa (dN.2 ⟨rfl,by simp only[zH,List.length_nil];omega⟩) _ _).trans ?_
 refine (aa (dN.2 ⟨rfl,by simp only[zH,List.length_nil];omega⟩) _ _).trans ?_
 refine bT (by simp only[zA,zB];omega) ?_
 refine (aa (dN.2 ⟨rfl,by simp only[zH,List.length_nil];omega⟩) _ _).trans ?_
 refine bT (by simp only[zH,List.length_nil,zB];omega) ?_
 simp only[List.nil_append,zK]
end
end Go.Proofs.YthpcdhgpplmneaaGreatDoor.Sym
namespace Go.Proofs.YthpcdhgpplmneaaGreatDoor.Sym
open Go
open Go.IntKind (i8 i16 i32 i64 u8 u16 u32 u64)
noncomputable section
def fw (a b:bJ):Bool:=@ite Bool (a=b) (Classical.propDecidable _) true false
def ct (a b:List bJ):Bool:=@ite Bool (a=b) (Classical.propDecidable _) true false
def fv (a b:aX):Bool:=@ite Bool (a=b) (Classical.propDecidable _) true false
theorem C4 {p:Prop}(h:¬ p):(false=true↔p):=⟨fun h=>(by cases h),fun x=>absurd x h⟩
theorem jM {a b:bJ}:fw a b=true↔a=b:=by unfold fw;split <;> simp[*]
theorem cf {a b:List bJ}:ct a b=true↔a=b:=by unfold ct;split <;> simp[*]
theorem jL {a b:aX}:fv a b=true↔a=b:=by unfold fv;split <;> simp[*]
abbrev gA:Io:=⟨[QI,QI],[],[],[dB],none⟩
def yL (d:gA.In):Tr gA.Res:=.ret (.ret ((fw d.1.1 d.1.2.1,()),()))
abbrev BP:List (Nat×Hc):=[(101,ah cF i0),(102,ah cR kk)]
def LK:Hd:=bA BP
def CZ:Lp:=bQ []
def t6 (a0:Int)(a1:Bool)(a2:LI)(a3:Bool)(a4:LI)(a5:List cP.den)(a6:Int)(a7:Bool)(a8:LI)(a9:Bool)(a10:LI)(a11:List cP.den):Option gA.Res:=bif a0 != a6 then oR ((false,()),()) else bif !decide ((a1,a2,())=(a7,a8,())) then oR ((false,()),()) else bif !decide ((a3,a4,())=(a9,a10,())) then oR ((false,()),()) else oR ((decide (a5=a11),()),())
theorem Jv (a0:Int)(a1:Bool)(a2:LI)(a3:Bool)(a4:LI)(a5:List cP.den)(a6:Int)(a7:Bool)(a8:LI)(a9:Bool)(a10:LI)(a11:List cP.den):Io.run tt LK dr CZ gA Tryz.f70 (((a0,(a1,a2,()),(a3,a4,()),a5,()),(a6,(a7,a8,()),(a9,a10,()),a11,()),()),())=t6 a0 a1 a2 a3 a4 a5 a6 a7 a8 a9 a10 a11:=by kernel_rfl
theorem MN:HcOk prog 70 (ah gA yL):=by
 refine bW (cs:=BP) (.cons pX (.cons wb .nil)) (lp:=CZ) (fn:=Tryz.f70) gA (.done (by kernel_rfl)) yL ?_
 rintro ⟨⟨⟨(a0:Int),⟨(a1:Bool),(a2:LI),⟨⟩⟩,⟨(a3:Bool),(a4:LI),⟨⟩⟩,(a5:List cE),⟨⟩⟩,⟨(b0:Int),⟨(b1:Bool),(b2:LI),⟨⟩⟩,⟨(b3:Bool),(b4:LI),⟨⟩⟩,(b5:List cE),⟨⟩⟩,⟨⟩⟩,⟨⟩⟩ out hw ho
 cases ho
 refine (Jv a0 a1 a2 a3 a4 a5 b0 b1 b2 b3 b4 b5).trans ?_
 show _=oR ((fw (a0,(a1,a2,()),(a3,a4,()),a5,()) (b0,(b1,b2,()),(b3,b4,()),b5,()),()),())
 have fin:∀c:Bool,(c=true↔((a0,(a1,a2,()),(a3,a4,()),a5,()):bJ)=(b0,(b1,b2,()),(b3,b4,()),b5,()))→some (Out.ret ((c,()),()):gA.Res)=oR ((fw (a0,(a1,a2,()),(a3,a4,()),a5,()) (b0,(b1,b2,()),(b3,b4,()),b5,()),()),()):=by
  intro c hc
  have:c=fw (a0,(a1,a2,()),(a3,a4,()),a5,()) (b0,(b1,b2,()),(b3,b4,()),b5,()):=Bool.eq_iff_iff.2 (hc.trans jM.symm)
  rw[this]
 unfold t6
 by_cases h0:a0=b0
 rotate_left
 ·refine (aa (by simpa using h0) _ _).trans (fin false (C4 fun h=>h0 (congrArg Prod.fst h)))
 refine bF (by simpa using h0) ?_
 by_cases h1:(a1,a2,())=(b1,b2,())
 rotate_left
 ·refine (aa (by rw[decide_eq_false h1];rfl) _ _).trans (fin false (C4 fun h=>h1 (congrArg (fun x:bJ=>x.2.1) h)))
 refine bF (by rw[decide_eq_true h1];rfl) ?_
 by_cases h2:(a3,a4,())=(b3,b4,())
 rotate_left
 ·refine (aa (by rw[decide_eq_false h2];rfl) _ _).trans (fin false (C4 fun h=>h2 (congrArg (fun x:bJ=>x.2.2.1) h)))
 refine (ae (by rw[decide_eq_true h2];rfl) _ _).trans (fin _ ?_)
 rw[zB]
 constructor
 ·intro h
  rw[h0,h1,h2,h]
 ·intro h
  exact congrArg (fun x:bJ=>x.2.2.2.1) h
abbrev gd:Io:=⟨[BT,BT],[],[],[dB],none⟩
def tC (d:gd.In):Tr gd.Res:=.ret (.ret ((ct d.1.1 d.1.2.1,()),()))
abbrev xp:List (Nat×Hc):=[(70,ah gA yL)]
def xF:Hd:=bA xp
abbrev cO:Lo:=⟨⟨(.one (.hol (.sl 91 bv))::.one (.hol (.sl 91 bv))::.any::bh (.one hI::.any::ai (bz []))),[]⟩,[(.ret,⟨(bz (.one hL::ai (bz (bh [])))),[]⟩),(.exit 0,⟨(.any::ai (cy (bh []))),[]⟩)]⟩
def im (d:cO.st.den):Tr (ao cO.xs):=
 .ite (decide (d.1.2.2.1=(0:Int))&&decide (d.1.1.length=d.1.2.1.length)) (.ite (ct d.1.1 d.1.2.1) (.ret (.pan (.ret ((),((),()))))) (.ret (.ret ((),((false,()),()))))) .no
def mY:Lp:=bQ [(5,aG cO im)]
def nF {R:Type}(h2 h3:List bv.den)(h4:Int)(next:List bv.den→List bv.den→Int→Option R)(out:ao cO.xs→Option R):Option R:=bif decide (h4<(↑h2.length:Int)) then bif decide (0≤h4)&&decide (h4<(↑h2.length:Int)) then bif decide (0≤h4)&&decide (h4<(↑h3.length:Int)) then bif !fw (h2.getD h4.toNat (0,(false,[],()),(false,[],()),[],())) (h3.getD h4.toNat (0,(false,[],()),(false,[],()),[],())) then out (.ret ((),((false,()),()))) else next (h2) (h3) (i64.wrap (h4+1)) else none else none else out (.pan (.ret ((),((),()))))
def mf (n:Nat)(h2 h3:List bv.den)(h4:Int):Option (ao cO.xs):=fV tt xF dr mY 0 Tryz.f42 (b9 Tryz.f42 0) n (cO.st.mk' ((h2,(h3,(h4,()))),())) (bH cO.xs)
theorem Dy (n:Nat)(h2 h3:List bv.den)(h4:Int):mf (n+1) h2 h3 h4=nF h2 h3 h4 (mf n) some:=by kernel_rfl
theorem CL (xs ys:List bJ)(hl:xs.length=ys.length)(hb:xs.length≤maxLen):∀(k i:Nat),i≤xs.length→xs.length<i+k→
  mf k xs ys (i:Int)=if ct (xs.drop i) (ys.drop i)=true then some (.pan (.ret ((),((),())))) else some (.ret ((),((false,()),()))):=by
 intro k
 induction k with
 |zero=>intro i h h';omega
 |succ k ih=>
  intro i hi h
  rw[Dy]
  unfold nF
  by_cases h1:i<xs.length
  ·have h2:i<ys.length:=by omega
   rw[aM h1 hb,ih (i+1) h1 (by omega)]
   have e1:(xs.getD (i:Int).toNat (0,(false,[],()),(false,[],()),[],()):bJ)=xs[i]:=aC h1
   have e2:(ys.getD (i:Int).toNat (0,(false,[],()),(false,[],()),[],()):bJ)=ys[i]:=aC h2
   refine bT (by simpa using h1) ?_
   refine bT (by simpa using h1) ?_
   refine bT (by simpa using h2) ?_
   rw[e1,e2,zE h1,zE h2]
   cases hc:fw xs[i] ys[i] with
   |false=>
    refine (aa rfl _ _).trans ?_
    rw[if_neg]
    intro h
    have h:=cf.1 h
    rw[List.cons.injEq] at h
    rw[jM.2 h.1] at hc
    cases hc
   |true=>
    refine (ae rfl _ _).trans ?_
    have e:=jM.1 hc
    by_cases hd:ct (xs.drop (i+1)) (ys.drop (i+1))=true
    ·rw[if_pos hd,if_pos (cf.2 (by rw[e,cf.1 hd]))]
    ·rw[if_neg hd,if_neg]
     intro h
     have h:=cf.1 h
     rw[List.cons.injEq] at h
     exact hd (cf.2 h.2)
  ·rw[zI (by omega),zI (by omega),if_pos (cf.2 rfl)]
   exact ae (by simpa using h1) _ _
def rC (a0 a1:List bv.den):Option gd.Res:=bif (↑a0.length:Int) != (↑a1.length:Int) then oR ((false,()),()) else (im ((a0,(a1,(0,()))),())).run fun y=>match y with | .ret ((),((x9,()),()))=>(oR ((x9,()),())) | .pan (.ret ((),((),())))=>(oR ((true,()),()))
theorem Fh (a0 a1:List bv.den):Io.run tt xF dr mY gd Tryz.f42 ((a0,a1,()),())=rC a0 a1:=by kernel_rfl
theorem rL:HcsOk prog xp:=.cons MN .nil
theorem I4:HcOk prog 42 (ah gd tC):=by
 refine bW rL (lp:=mY) (fn:=Tryz.f42) gd (.step (h0:=aG cO im) (by kernel_rfl) (gi rL (lp:=mY) (fn:=Tryz.f42) (.done (by kernel_rfl)) cO im ?_) (.done (by kernel_rfl))) tC ?_
 ·rintro ⟨⟨(xs:List bJ),(ys:List bJ),(i:Int),⟨⟩⟩,⟨⟩⟩ y hw hy
  obtain ⟨hg,hy⟩:=Tr.guard hy
  simp only[zA,zB] at hg
  obtain ⟨hi,hl⟩:=hg
  have hi:i=0:=hi
  have hl:xs.length=ys.length:=hl
  subst hi
  refine ⟨xs.length+1,(CL xs ys hl hw.1.1.1 _ 0 (by omega) (by omega)).trans ?_⟩
  rw[← hy,List.drop_zero,List.drop_zero]
  simp only[Tr.val_ite,Tr.val_ret]
 ·rintro ⟨⟨(xs:List bJ),(ys:List bJ),⟨⟩⟩,⟨⟩⟩ out hw ho
  cases ho
  refine (Fh xs ys).trans ?_
  unfold rC im
  show _=oR ((ct xs ys,()),())
  by_cases hl:xs.length=ys.length
  ·refine bF (by rw[hl];exact bne_self_eq_false' _) ?_
   refine bT (by simpa using hl) ?_
   cases h:ct xs ys with
   |true=>rfl
   |false=>rfl
  ·have e:ct xs ys=false:=by
    cases h:ct xs ys with
    |false=>rfl
    |true=>exact absurd (congrArg List.length (cf.1 h)) hl
   rw[e]
   refine aa ?_ _ _
   have:(xs.length:Int)≠ys.length:=by omega
   simpa using this
abbrev gB:Io:=⟨[BS,BS],[],[],[dB],none⟩
def yM (d:gB.In):Tr gB.Res:=.ret (.ret ((fv d.1.1 d.1.2.1,()),()))
abbrev BQ:List (Nat×Hc):=[(42,ah gd tC)]
def LL:Hd:=bA BQ
def C0:Lp:=bQ []
def t7 (a0 a1 a2 a3 a4:Int)(a5:List bv.den)(a6 a7 a8 a9 a10:Int)(a11:List bv.den):Option gB.Res:=bif a0 != a6 then oR ((false,()),()) else bif a1 != a7 then oR ((false,()),()) else bif a2 != a8 then oR ((false,()),()) else bif a3 != a9 then oR ((false,()),()) else bif a4 != a10 then oR ((false,()),()) else oR ((ct a5 a11,()),())
theorem Jw (a0 a1 a2 a3 a4:Int)(a5:List bv.den)(a6 a7 a8 a9 a10:Int)(a11:List bv.den):Io.run tt LL dr C0 gB Tryz.f61 (((a0,a1,a2,a3,a4,a5,()),(a6,a7,a8,a9,a10,a11,()),()),())=t7 a0 a1 a2 a3 a4 a5 a6 a7 a8 a9 a10 a11:=by kernel_rfl
theorem MO:HcOk prog 61 (ah gB yM):=by
 refine bW (cs:=BQ) (.cons I4 .nil) (lp:=C0) (fn:=Tryz.f61) gB (.done (by kernel_rfl)) yM ?_
 rintro ⟨⟨⟨(a0:Int),(a1:Int),(a2:Int),(a3:Int),(a4:Int),(a5:List bJ),⟨⟩⟩,⟨(b0:Int),(b1:Int),(b2:Int),(b3:Int),(b4:Int),(b5:List bJ),⟨⟩⟩,⟨⟩⟩,⟨⟩⟩ out hw ho
 cases ho
 refine (Jw a0 a1 a2 a3 a4 a5 b0 b1 b2 b3 b4 b5).trans ?_
 show _=oR ((fv (a0,a1,a2,a3,a4,a5,()) (b0,b1,b2,b3,b4,b5,()),()),())
 have fin:∀c:Bool,(c=true↔((a0,a1,a2,a3,a4,a5,()):aX)=(b0,b1,b2,b3,b4,b5,()))→some (Out.ret ((c,()),()):gB.Res)=oR ((fv (a0,a1,a2,a3,a4,a5,()) (b0,b1,b2,b3,b4,b5,()),()),()):=by
  intro c hc
  have:c=fv (a0,a1,a2,a3,a4,a5,()) (b0,b1,b2,b3,b4,b5,()):=Bool.eq_iff_iff.2 (hc.trans jL.symm)
  rw[this]
 unfold t7
 by_cases h0:a0=b0
 rotate_left
 ·exact (aa (by simpa using h0) _ _).trans (fin false (C4 fun h=>h0 (congrArg Prod.fst h)))
 refine bF (by simpa using h0) ?_
 by_cases h1:a1=b1
 rotate_left
 ·exact (aa (by simpa using h1) _ _).trans (fin false (C4 fun h=>h1 (congrArg (fun x:aX=>x.2.1) h)))
 refine bF (by simpa using h1) ?_
 by_cases h2:a2=b2
 rotate_left
 ·exact (aa (by simpa using h2) _ _).trans (fin false (C4 fun h=>h2 (congrArg (fun x:aX=>x.2.2.1) h)))
 refine bF (by simpa using h2) ?_
 by_cases h3:a3=b3
 rotate_left
 ·exact (aa (by simpa using h3) _ _).trans (fin false (C4 fun h=>h3 (congrArg (fun x:aX=>x.2.2.2.1) h)))
 refine bF (by simpa using h3) ?_
 by_cases h4:a4=b4
 rotate_left
 ·exact (aa (by simpa using h4) _ _).trans (fin false (C4 fun h=>h4 (congrArg (fun x:aX=>x.2.2.2.2.1) h)))
 refine (ae (by simpa using h4) _ _).trans (fin _ ?_)
 rw[cf]
 constructor
 ·intro h
  rw[h0,h1,h2,h3,h4,h]
 ·intro h
  exact congrArg (fun x:aX=>x.2.2.2.2.2.1) h
abbrev lZ:Io:=⟨[dL,dI,dI],[],[],[gL],none⟩
def F6 (d:lZ.In):Tr lZ.Res:=.ite (decide ((0:Int)≤d.1.2.2.1)&&decide (d.1.2.2.1≤(8:Int))) (.ret (.ret (((am d.1.1 d.1.2.1 d.1.2.2.1).1,()),()))) .no
abbrev K1:List (Nat×Hc):=[(133,ah f4 tq)]
def Q7:Hd:=bA K1
def Mf:Lp:=bQ []
def Kx (a0:LI)(a1 a2:Int):Option lZ.Res:=bif decide (0≤a2)&&decide (a2≤8) then oR (((am a0 a1 a2).1,()),()) else none
theorem Qb (a0:LI)(a1 a2:Int):Io.run tt Q7 dr Mf lZ Tryz.f103 ((a0,a1,a2,()),())=Kx a0 a1 a2:=by kernel_rfl
theorem MQ:HcOk prog 103 (ah lZ F6):=by
 refine bW (cs:=K1) (.cons IX .nil) (lp:=Mf) (fn:=Tryz.f103) lZ (.done (by kernel_rfl)) F6 ?_
 rintro ⟨⟨(b:LI),(p:Int),(n:Int),⟨⟩⟩,⟨⟩⟩ out hw ho
 obtain ⟨hg,ho⟩:=Tr.guard ho
 cases ho
 refine (Qb b p n).trans ?_
 exact aa hg _ _
abbrev jt:Io:=⟨[gL,SI,Iw],[],[],[dB],none⟩
def Ea (d:jt.In):Tr jt.Res:=.ret (.ret ((!aW d.1.1 d.1.2.1 d.1.2.2.1,()),()))
abbrev GL:List (Nat×Hc):=[]
def O2:Hd:=bA GL
def HG:Lp:=bQ []
def w7 (a0 a1 a2:Int):Option jt.Res:=bif decide (a0<0) then bif a0 == -1 then bif a1 == -1 then oR ((a2 == -1,()),()) else oR ((false,()),()) else oR ((false,()),()) else bif decide (0≤a1) then oR ((decide (0≤a2),()),()) else oR ((false,()),())
theorem Nx (a0 a1 a2:Int):Io.run tt O2 dr HG jt Tryz.f82 ((a0,a1,a2,()),())=w7 a0 a1 a2:=by kernel_rfl
theorem PA:HcOk prog 82 (ah jt Ea):=by
 refine bW (cs:=GL) HcsOk.nil (lp:=HG) (fn:=Tryz.f82) jt (.done (by kernel_rfl)) Ea ?_
 rintro ⟨⟨(pid:Int),(ep:Int),(sq:Int),⟨⟩⟩,⟨⟩⟩ out hw ho
 cases ho
 refine (Nx pid ep sq).trans ?_
 show _=oR ((!(if pid = -1∧ep = -1∧sq = -1∨0≤pid∧0≤ep∧0≤sq then false else true),()),())
 have key:∀c:Prop,[Decidable c]→∀b:Bool,(b=true↔c)→some (Out.ret ((b,()),()):jt.Res)=oR ((!(if c then false else true),()),()):=by
  intro c _ b h
  by_cases hc:c
  ·rw[if_pos hc,h.2 hc];rfl
  ·rw[if_neg hc]
   cases b with
   |false=>rfl
   |true=>exact absurd (h.1 rfl) hc
 unfold w7
 by_cases h1:pid<0
 ·refine bT (decide_eq_true h1) ?_
  by_cases h2:pid = -1
  ·refine bT (by simp[h2]) ?_
   by_cases h3:ep = -1
   ·refine bT (by simp[h3]) ?_
    exact key _ _ (by simp;omega)
   ·refine bF (by simp[h3]) ?_
    exact key _ _ (by simp;omega)
  ·refine bF (by simp[h2]) ?_
   exact key _ _ (by simp;omega)
 ·refine bF (decide_eq_false h1) ?_
  by_cases h2:0≤ep
  ·refine bT (decide_eq_true h2) ?_
   exact key _ _ (by simp;omega)
  ·refine bF (decide_eq_false h2) ?_
   exact key _ _ (by simp;omega)
def cv (a b:Int):Int×Bool:=if aK (a - b)=true then (a - b,true) else (0,false)
abbrev gT:Io:=⟨[gL,gL],[],[],[gL,dB],none⟩
def Ec (d:gT.In):Tr gT.Res:=.ret (.ret (((cv d.1.1 d.1.2.1).1,(cv d.1.1 d.1.2.1).2,()),()))
abbrev GN:List (Nat×Hc):=[]
def O3:Hd:=bA GN
def HH:Lp:=bQ []
def w9 (a0 a1:Int):Option gT.Res:=bif decide (0≤a1) then bif decide (a0<i64.wrap (-9223372036854775808+a1)) then oR ((0,false,()),()) else bif decide (a1<0) then bif decide (i64.wrap (9223372036854775807+a1)<a0) then oR ((0,false,()),()) else oR ((i64.wrap (a0 - a1),true,()),()) else oR ((i64.wrap (a0 - a1),true,()),()) else bif decide (a1<0) then bif decide (i64.wrap (9223372036854775807+a1)<a0) then oR ((0,false,()),()) else oR ((i64.wrap (a0 - a1),true,()),()) else oR ((i64.wrap (a0 - a1),true,()),())
theorem Nz (a0 a1:Int):Io.run tt O3 dr HH gT Tryz.f116 ((a0,a1,()),())=w9 a0 a1:=by kernel_rfl
theorem PC:HcOk prog 116 (ah gT Ec):=by
 refine bW (cs:=GN) HcsOk.nil (lp:=HH) (fn:=Tryz.f116) gT (.done (by kernel_rfl)) Ec ?_
 rintro ⟨⟨(a:Int),(b:Int),⟨⟩⟩,⟨⟩⟩ out hw ho
 cases ho
 refine (Nz a b).trans ?_
 have ha:bt .i64 a:=hw.1.1
 have hb:bt .i64 b:=hw.1.2.1
 have ha:=gH ha
 have hb:=gH hb
 show _=oR (((cv a b).1,(cv a b).2,()),())
 unfold w9
 have fin:aK (a - b)=true→some (Out.ret ((i64.wrap (a - b),true,()),()):gT.Res)=oR (((cv a b).1,(cv a b).2,()),()):=by
  intro h
  have e:cv a b=(a - b,true):=by unfold cv;rw[if_pos h]
  rw[e,af (fb.1 h).1 (fb.1 h).2]
 have fin2:aK (a - b)=false→some (Out.ret ((0,false,()),()):gT.Res)=oR (((cv a b).1,(cv a b).2,()),()):=by
  intro h
  have e:cv a b=(0,false):=by unfold cv;rw[if_neg (by rw[h];exact fun h=>by cases h)]
  rw[e]
 have fy:(-9223372036854775808≤a - b∧a - b≤9223372036854775807)→aK (a - b)=true:=fun h=>fb.2 h
 have fn:¬(-9223372036854775808≤a - b∧a - b≤9223372036854775807)→aK (a - b)=false:=fun h=>by
  cases h2:aK (a - b) with
  |false=>rfl
  |true=>exact absurd (fb.1 h2) h
 by_cases h0:0≤b
 ·refine bT (decide_eq_true h0) ?_
  rw[af (n:=-9223372036854775808+b) (by omega) (by omega)]
  by_cases h1:a < -9223372036854775808+b
  ·exact (aa (decide_eq_true h1) _ _).trans (fin2 (fn (by omega)))
  ·refine bF (decide_eq_false h1) ?_
   exact (ae (decide_eq_false (by omega)) _ _).trans (fin (fy (by omega)))
 ·refine bF (decide_eq_false h0) ?_
  refine bT (decide_eq_true (show b<0 by omega)) ?_
  rw[af (n:=9223372036854775807+b) (by omega) (by omega)]
  by_cases h1:9223372036854775807+b<a
  ·exact (aa (decide_eq_true h1) _ _).trans (fin2 (fn (by omega)))
  ·exact (ae (decide_eq_false h1) _ _).trans (fin (fy (by omega)))
abbrev iK:Io:=⟨[BT],[],[],[gL],none⟩
def yN (d:iK.In):Tr iK.Res:=.ret (.ret ((dD d.1.1,()),()))
abbrev un:List (Nat×Hc):=[]
def Cu:Hd:=bA un
abbrev dz:Lo:=⟨⟨(.one (.hol (.sl 91 bv))::bh (.one hI::.one hI::.any::ai (bh []))),[]⟩,[(.exit 0,⟨(.any::bh (.one hI::ai (bz []))),[]⟩)]⟩
def j7 (d:dz.st.den):Tr (ao dz.xs):=.ite (decide (d.1.2.2.1=(0:Int))) (.ret (.ret ((),((dT d.1.1 d.1.2.1,()),())))) .no
def pR:Lp:=bQ [(4,aG dz j7)]
def qt {R:Type}(h1:List bv.den)(h2 h3:Int)(next:List bv.den→Int→Int→Option R)(out:ao dz.xs→Option R):Option R:=bif decide (h3<(↑h1.length:Int)) then bif decide (0≤h3)&&decide (h3<(↑h1.length:Int)) then bif decide (h2<(h1.getD h3.toNat (0,(false,[],()),(false,[],()),[],())).1) then bif decide (0≤h3)&&decide (h3<(↑h1.length:Int)) then next (h1) ((h1.getD h3.toNat (0,(false,[],()),(false,[],()),[],())).1) (i64.wrap (h3+1)) else none else next (h1) (h2) (i64.wrap (h3+1)) else none else out (.ret ((),((h2,()),())))
def oF (n:Nat)(h1:List bv.den)(h2 h3:Int):Option (ao dz.xs):=fV tt Cu dr pR 0 Tryz.f72 (b9 Tryz.f72 0) n (dz.st.mk' ((h1,(h2,(h3,()))),())) (bH dz.xs)
theorem FA (n:Nat)(h1:List bv.den)(h2 h3:Int):oF (n+1) h1 h2 h3=qt h1 h2 h3 (oF n) some:=by kernel_rfl
theorem zP (rs:List bJ)(hl:rs.length≤maxLen):∀(k i:Nat) (t:Int),rs.length<i+k→i≤rs.length→oF k rs t i=some (.ret ((),((dT (rs.drop i) t,()),()))):=by
 intro k
 induction k with
 |zero=>intro i t h;omega
 |succ k ih=>
  intro i t h1 h2
  rw[FA]
  unfold qt
  by_cases hi:i<rs.length
  ·refine bT (by simpa using hi) ?_
   refine bT (by simpa using hi) ?_
   have e:List.getD rs (i:Int).toNat (0,(false,[],()),(false,[],()),[],())=rs[i]:=by simp only[zG,aC hi]
   rw[e,aM hi hl,zE hi]
   have e2:dT (rs[i]::rs.drop (i+1)) t=dT (rs.drop (i+1)) (dW t rs[i].1):=rfl
   rw[e2]
   unfold dW
   by_cases hc:t<rs[i].1
   ·refine bT (decide_eq_true hc) ?_
    refine bT (by simpa using hi) ?_
    rw[if_pos hc]
    exact ih (i+1) _ (by omega) (by omega)
   ·refine bF (decide_eq_false hc) ?_
    rw[if_neg hc]
    exact ih (i+1) _ (by omega) (by omega)
  ·refine bF (by simp;omega) ?_
   rw[zI (by omega)]
   rfl
def t9 (a0:List bv.den):Option iK.Res:=(j7 ((a0,(-9223372036854775808,(0,()))),())).run fun y=>match y with | .ret ((),((x11,()),()))=>(oR ((x11,()),()))
theorem Jx (a0:List bv.den):Io.run tt Cu dr pR iK Tryz.f72 ((a0,()),())=t9 a0:=by kernel_rfl
theorem MP:HcOk prog 72 (ah iK yN):=by
 refine bW (cs:=un) HcsOk.nil (lp:=pR) (fn:=Tryz.f72) iK (.step (h0:=aG dz j7) (by kernel_rfl) (gi (cs:=un) HcsOk.nil (lp:=pR) (fn:=Tryz.f72) (.done (by kernel_rfl)) dz j7 ?_) (.done (by kernel_rfl))) yN ?_
 ·rintro ⟨⟨(rs:List bJ),(t:Int),(i:Int),⟨⟩⟩,⟨⟩⟩ y hw hy
  obtain ⟨hg,hy⟩:=Tr.guard hy
  have h1:i=0:=of_decide_eq_true hg
  subst h1
  refine ⟨rs.length+1,(zP rs hw.1.1.1 (rs.length+1) 0 t (by omega) (by omega)).trans ?_⟩
  rw[← hy];rfl
 ·rintro ⟨⟨(rs:List bJ),⟨⟩⟩,⟨⟩⟩ out hw ho
  cases ho
  refine (Jx rs).trans ?_
  show _=oR ((dD rs,()),())
  unfold t9 j7
  refine (aa rfl _ _).trans ?_
  cases rs with
  |nil=>rfl
  |cons r rs=>
   have hr:bt .i64 r.1:=(hw.1.1.2 r (by simp)).1
   have hr:=gH hr
   have e:dT (r::rs) (-9223372036854775808)=dT rs r.1:=by
    show dT rs (dW (-9223372036854775808) r.1)=_
    unfold dW
    by_cases h:r.1 > -9223372036854775808
    ·rw[if_pos h]
    ·rw[if_neg h]
     have:r.1 = -9223372036854775808:=by omega
     rw[this]
   exact congrArg (fun x=>oR ((x,()),())) e
theorem qb {b:LI}{p n:Nat}(h:p+n≤b.length):(am b (p:Int) (n:Int)).1=av b p n:=by
 unfold am av
 rw[if_neg (by omega),zG,zG]
abbrev jr:Io:=⟨[dL,dI],[],[],[dI,dI],none⟩
def yO (d:jr.In):Tr jr.Res:=.ret (.ret (((aw d.1.1 d.1.2.1).1,(aw d.1.1 d.1.2.1).2,()),()))
abbrev GK:List (Nat×Hc):=[(103,ah lZ F6)]
def O1:Hd:=bA GK
def HF:Lp:=bQ []
def wZ (a0:LI)(a1:Int):Option jr.Res:=bif decide (a1<0) then oR ((0,3,()),()) else bif decide ((↑a0.length:Int)<a1) then oR ((0,3,()),()) else bif decide (i64.wrap ((↑a0.length:Int) - a1)<12) then oR ((0,1,()),()) else bif decide ((am a0 (i64.wrap (a1+8)) 4).1<49) then oR ((0,5,()),()) else bif decide (35988<(am a0 (i64.wrap (a1+8)) 4).1) then oR ((0,4,()),()) else bif decide (i64.wrap (i64.wrap ((↑a0.length:Int) - a1) - 12)<(am a0 (i64.wrap (a1+8)) 4).1) then oR ((0,1,()),()) else oR ((i64.wrap ((am a0 (i64.wrap (a1+8)) 4).1+12),0,()),())
theorem Nw (a0:LI)(a1:Int):Io.run tt O1 dr HF jr Tryz.f71 ((a0,a1,()),())=wZ a0 a1:=by kernel_rfl
theorem H0:HcOk prog 71 (ah jr yO):=by
 refine bW (cs:=GK) (.cons MQ .nil) (lp:=HF) (fn:=Tryz.f71) jr (.done (by kernel_rfl)) yO ?_
 rintro ⟨⟨(b:LI),(p:Int),⟨⟩⟩,⟨⟩⟩ out hw ho
 cases ho
 refine (Nw b p).trans ?_
 have hl:b.length≤9223372036854775807:=hw.1.1.1
 show _=oR (((aw b p).1,(aw b p).2,()),())
 unfold wZ aw
 by_cases h1:p<0
 ·refine bT (decide_eq_true h1) ?_
  rw[if_pos (.inl h1)]
 refine bF (decide_eq_false h1) ?_
 by_cases h2:(b.length:Int)<p
 ·refine bT (decide_eq_true h2) ?_
  rw[if_pos (.inr h2)]
 refine bF (decide_eq_false h2) ?_
 rw[if_neg (by omega),af (n:=(b.length:Int) - p) (by omega) (by omega)]
 by_cases h3:(b.length:Int) - p<12
 ·refine bT (decide_eq_true h3) ?_
  rw[if_pos h3]
 refine bF (decide_eq_false h3) ?_
 obtain ⟨p,rfl⟩:=aA (show 0≤p by omega)
 have e:(am b (i64.wrap ((p:Int)+8)) 4).1=av b (p+8) 4:=by
  rw[af (n:=(p:Int)+8) (by omega) (by omega)]
  exact qb (b:=b) (p:=p+8) (n:=4) (by omega)
 rw[if_neg h3,e,zG,af (n:=(b.length:Int) - p - 12) (by omega) (by omega)]
 by_cases h4:av b (p+8) 4<49
 ·refine bT (decide_eq_true h4) ?_
  rw[if_pos h4]
 refine bF (decide_eq_false h4) ?_
 rw[if_neg h4]
 by_cases h5:35988<av b (p+8) 4
 ·refine bT (decide_eq_true h5) ?_
  rw[if_pos h5]
 refine bF (decide_eq_false h5) ?_
 rw[if_neg h5]
 by_cases h6:(b.length:Int) - p - 12<av b (p+8) 4
 ·refine bT (decide_eq_true h6) ?_
  rw[if_pos h6]
 refine bF (decide_eq_false h6) ?_
 rw[if_neg h6,af (n:=av b (p+8) 4+12) (by omega) (by omega)]
def FQ (a0:LI):Option (Out ((wl×Int×Unit)×Unit) Empty):=bif decide (0≤22)&&decide (22<(↑a0.length:Int)) then bif decide ((am a0 0 8).1<0) then oR (((0,0,0,false,0,0,0,0,0,0,()),80,()),()) else bif decide (4611686018427387648<(am a0 0 8).1) then oR (((0,0,0,false,0,0,0,0,0,0,()),80,()),()) else bif decide (0≤21)&&decide (21<(↑a0.length:Int)) then bif a0.getD (Int.toNat 21) 0 != 0 then oR (((0,0,0,false,0,0,0,0,0,0,()),83,()),()) else bif decide (0≤22)&&decide (22<(↑a0.length:Int)) then bif decide (1<a0.getD (Int.toNat 22) 0) then oR (((0,0,0,false,0,0,0,0,0,0,()),83,()),()) else bif !!aW (am a0 43 8).1 (i16.wrap (am a0 51 2).1) (i32.wrap (am a0 53 4).1) then oR (((0,0,0,false,0,0,0,0,0,0,()),84,()),()) else bif decide ((am a0 57 4).1<1) then oR (((0,0,0,false,0,0,0,0,0,0,()),85,()),()) else bif decide (256<(am a0 57 4).1) then oR (((0,0,0,false,0,0,0,0,0,0,()),9,()),()) else bif (am a0 23 4).1 != i64.wrap ((am a0 57 4).1 - 1) then oR (((0,0,0,false,0,0,0,0,0,0,()),72,()),()) else oR ((((am a0 0 8).1,(↑a0.length:Int),i32.wrap (am a0 12 4).1,a0.getD (Int.toNat 22) 0 == 1,(am a0 57 4).1,(am a0 27 8).1,(am a0 35 8).1,(am a0 43 8).1,i16.wrap (am a0 51 2).1,i32.wrap (am a0 53 4).1,()),0,()),()) else none else none else none
theorem JV {b:LI}(hb:∀c∈b,0≤c∧c≤255){p:Nat}(h:p+2≤b.length):i16.wrap (av b p 2)=av b p 2:=by
 unfold av
 rw[← tc (dR hb p 2) (cA h)]
 exact bY (bS _ _)
theorem yg {b:LI}(hb:∀c∈b,0≤c∧c≤255){p:Nat}(h:p+4≤b.length):i32.wrap (av b p 4)=av b p 4:=by
 unfold av
 rw[← na (dR hb p 4) (cA h)]
 exact bY (bS _ _)
theorem JW {b:LI}(hb:∀c∈b,0≤c∧c≤255)(hl:61≤b.length):
  FQ b=some (.ret ((if aQ (av b 0 8)=true then (bx,(80,())) else if b.getD 21 0≠0∨1<b.getD 22 0 then (bx,(83,())) else if aW (av b 43 8) (av b 51 2) (av b 53 4)=true then (bx,(84,())) else if av b 57 4<1 then (bx,(85,())) else if 256<av b 57 4 then (bx,(9,())) else if av b 23 4≠av b 57 4 - 1 then (bx,(72,())) else (iS b,(0,()))),())):=by
 have hz:∀p n:Nat,p+n≤61→(am b (p:Int) (n:Int)).1=av b p n:=fun p n h=>qb (by omega)
 have z0:(am b 0 8).1=av b 0 8:=hz 0 8 (by decide)
 have z12:(am b 12 4).1=av b 12 4:=hz 12 4 (by decide)
 have z23:(am b 23 4).1=av b 23 4:=hz 23 4 (by decide)
 have z27:(am b 27 8).1=av b 27 8:=hz 27 8 (by decide)
 have z35:(am b 35 8).1=av b 35 8:=hz 35 8 (by decide)
 have z43:(am b 43 8).1=av b 43 8:=hz 43 8 (by decide)
 have z51:(am b 51 2).1=av b 51 2:=hz 51 2 (by decide)
 have z53:(am b 53 4).1=av b 53 4:=hz 53 4 (by decide)
 have z57:(am b 57 4).1=av b 57 4:=hz 57 4 (by decide)
 have w51:=JV hb (p:=51) (by omega)
 have w53:=yg hb (p:=53) (by omega)
 have w12:=yg hb (p:=12) (by omega)
 unfold FQ
 rw[z0,z12,z23,z27,z35,z43,z51,z53,z57,w51,w53,w12]
 have hI:iS b=(av b 0 8,(b.length:Int),av b 12 4,decide (b.getD 22 0=1),av b 57 4,av b 27 8,av b 35 8,av b 43 8,av b 51 2,av b 53 4,()):=rfl
 have hB:aQ (av b 0 8)=(decide (av b 0 8<0) || decide (4611686018427387648<av b 0 8)):=rfl
 have hxy:(b.getD (Int.toNat 22) 0 == 1)=decide (b.getD 22 0=1):=by
  show (b.getD 22 0 == 1)=_
  by_cases h:b.getD 22 0=1
  ·rw[h];rfl
  ·rw[decide_eq_false h];exact beq_eq_false_iff_ne.2 h
 rw[hI,hB,hxy,show Int.toNat 21=21 from rfl,show Int.toNat 22=22 from rfl]
 generalize b.getD 21 0=x at *
 generalize b.getD 22 0=y at *
 generalize av b 0 8=base at *
 generalize av b 57 4=cnt at *
 generalize av b 23 4=mst at *
 refine bT (by simp only[zA,zB];omega) ?_
 by_cases c0:base<0
 ·refine bT (decide_eq_true c0) ?_
  rw[if_pos (by rw[decide_eq_true c0];rfl)]
  rfl
 refine bF (decide_eq_false c0) ?_
 by_cases c1:4611686018427387648<base
 ·refine bT (decide_eq_true c1) ?_
  rw[if_pos (by rw[decide_eq_true c1,Bool.or_true])]
  rfl
 refine bF (decide_eq_false c1) ?_
 rw[if_neg (by rw[decide_eq_false c0,decide_eq_false c1];decide)]
 refine bT (by simp only[zA,zB];omega) ?_
 by_cases c2:x=0
 rotate_left
 ·refine bT (by simpa using c2) ?_
  rw[if_pos (.inl c2)]
  rfl
 refine bF (by simpa using c2) ?_
 refine bT (by simp only[zA,zB];omega) ?_
 by_cases c3:1<y
 ·refine bT (decide_eq_true c3) ?_
  rw[if_pos (.inr c3)]
  rfl
 refine bF (decide_eq_false c3) ?_
 rw[if_neg (by rintro (h | h);exact h c2;exact c3 h)]
 cases c3:aW (av b 43 8) (av b 51 2) (av b 53 4) with
 |true=>exact (aa rfl _ _)
 |false=>
 refine (ae rfl _ _).trans ?_
 rw[if_neg (show ¬ false=true by decide)]
 by_cases c4:cnt<1
 ·refine bT (decide_eq_true c4) ?_
  rw[if_pos c4]
  rfl
 refine bF (decide_eq_false c4) ?_
 rw[if_neg c4]
 by_cases c5:256<cnt
 ·refine bT (decide_eq_true c5) ?_
  rw[if_pos c5]
  rfl
 refine bF (decide_eq_false c5) ?_
 rw[if_neg c5,af (n:=cnt - 1) (by omega) (by omega)]
 by_cases c6:mst=cnt - 1
 ·refine bF (by simpa using c6) ?_
  rw[if_neg (aq c6)]
 ·refine bT (by simpa using c6) ?_
  rw[if_pos c6]
  rfl
abbrev jq:Io:=⟨[dL,dB],[],[],[K2,dI],none⟩
def D9 (d:jq.In):Tr jq.Res:=.ret (.ret (((aj d.1.1 d.1.2.1).1,(aj d.1.1 d.1.2.1).2,()),()))
abbrev GJ:List (Nat×Hc):=[(71,ah jr yO),(103,ah lZ F6),(82,ah jt Ea),(22,ah ky AQ),(85,ah f3 tp),(86,ah iw yo)]
def O0:Hd:=bA GJ
def HE:Lp:=bQ []
def wY (a0:LI)(a1:Bool):Option jq.Res:=bif decide ((↑a0.length:Int)<61) then oR (((0,0,0,false,0,0,0,0,0,0,()),1,()),()) else bif (aw a0 0).2 != 0 then oR (((0,0,0,false,0,0,0,0,0,0,()),(aw a0 0).2,()),()) else bif decide ((aw a0 0).1<(↑a0.length:Int)) then oR (((0,0,0,false,0,0,0,0,0,0,()),2,()),()) else bif decide (0≤16)&&decide (16<(↑a0.length:Int)) then bif a0.getD (Int.toNat 16) 0 != 2 then oR (((0,0,0,false,0,0,0,0,0,0,()),81,()),()) else bif a1 then bif decide (0≤17)&&(decide (17≤21)&&decide (21≤(↑a0.length:Int))) then bif decide (0≤21)&&(decide (21≤(↑a0.length:Int))&&decide ((↑a0.length:Int)≤(↑a0.length:Int))) then bif !decide (List.drop (Int.toNat 17) (List.take (Int.toNat 21) a0)=az (i64.wrap (cB 0 (List.drop (Int.toNat 21) (List.take (↑a0.length:Int).toNat a0)))) (Int.toNat 4)) then oR (((0,0,0,false,0,0,0,0,0,0,()),82,()),()) else bif decide (0≤22)&&decide (22<(↑a0.length:Int)) then bif decide ((am a0 0 8).1<0) then oR (((0,0,0,false,0,0,0,0,0,0,()),80,()),()) else bif decide (4611686018427387648<(am a0 0 8).1) then oR (((0,0,0,false,0,0,0,0,0,0,()),80,()),()) else bif decide (0≤21)&&decide (21<(↑a0.length:Int)) then bif a0.getD (Int.toNat 21) 0 != 0 then oR (((0,0,0,false,0,0,0,0,0,0,()),83,()),()) else bif decide (0≤22)&&decide (22<(↑a0.length:Int)) then bif decide (1<a0.getD (Int.toNat 22) 0) then oR (((0,0,0,false,0,0,0,0,0,0,()),83,()),()) else bif !!aW (am a0 43 8).1 (i16.wrap (am a0 51 2).1) (i32.wrap (am a0 53 4).1) then oR (((0,0,0,false,0,0,0,0,0,0,()),84,()),()) else bif decide ((am a0 57 4).1<1) then oR (((0,0,0,false,0,0,0,0,0,0,()),85,()),()) else bif decide (256<(am a0 57 4).1) then oR (((0,0,0,false,0,0,0,0,0,0,()),9,()),()) else bif (am a0 23 4).1 != i64.wrap ((am a0 57 4).1 - 1) then oR (((0,0,0,false,0,0,0,0,0,0,()),72,()),()) else oR ((((am a0 0 8).1,(↑a0.length:Int),i32.wrap (am a0 12 4).1,a0.getD (Int.toNat 22) 0 == 1,(am a0 57 4).1,(am a0 27 8).1,(am a0 35 8).1,(am a0 43 8).1,i16.wrap (am a0 51 2).1,i32.wrap (am a0 53 4).1,()),0,()),()) else none else none else none else none else none else bif decide (0≤22)&&decide (22<(↑a0.length:Int)) then bif decide ((am a0 0 8).1<0) then oR (((0,0,0,false,0,0,0,0,0,0,()),80,()),()) else bif decide (4611686018427387648<(am a0 0 8).1) then oR (((0,0,0,false,0,0,0,0,0,0,()),80,()),()) else bif decide (0≤21)&&decide (21<(↑a0.length:Int)) then bif a0.getD (Int.toNat 21) 0 != 0 then oR (((0,0,0,false,0,0,0,0,0,0,()),83,()),()) else bif decide (0≤22)&&decide (22<(↑a0.length:Int)) then bif decide (1<a0.getD (Int.toNat 22) 0) then oR (((0,0,0,false,0,0,0,0,0,0,()),83,()),()) else bif !!aW (am a0 43 8).1 (i16.wrap (am a0 51 2).1) (i32.wrap (am a0 53 4).1) then oR (((0,0,0,false,0,0,0,0,0,0,()),84,()),()) else bif decide ((am a0 57 4).1<1) then oR (((0,0,0,false,0,0,0,0,0,0,()),85,()),()) else bif decide (256<(am a0 57 4).1) then oR (((0,0,0,false,0,0,0,0,0,0,()),9,()),()) else bif (am a0 23 4).1 != i64.wrap ((am a0 57 4).1 - 1) then oR (((0,0,0,false,0,0,0,0,0,0,()),72,()),()) else oR ((((am a0 0 8).1,(↑a0.length:Int),i32.wrap (am a0 12 4).1,a0.getD (Int.toNat 22) 0 == 1,(am a0 57 4).1,(am a0 27 8).1,(am a0 35 8).1,(am a0 43 8).1,i16.wrap (am a0 51 2).1,i32.wrap (am a0 53 4).1,()),0,()),()) else none else none else none else none
theorem Nv (a0:LI)(a1:Bool):Io.run tt O0 dr HE jq Tryz.f78 ((a0,a1,()),())=wY a0 a1:=by kernel_rfl
theorem Pz:HcOk prog 78 (ah jq D9):=by
 refine bW (cs:=GJ) (.cons H0 (.cons MQ (.cons PA (.cons EX (.cons IW (.cons Mo .nil)))))) (lp:=HE) (fn:=Tryz.f78) jq (.done (by kernel_rfl)) D9 ?_
 rintro ⟨⟨(b:LI),(sm:Bool),⟨⟩⟩,⟨⟩⟩ out hw ho
 cases ho
 have hb:∀c∈b,0≤c∧c≤255:=dY hw.1.1
 refine (Nv b sm).trans ?_
 show _=oR (((aj b sm).1,(aj b sm).2,()),())
 have eE:ba b sm=if (b.length:Int)<61 then 1 else if (aw b 0).2≠0 then (aw b 0).2 else if (aw b 0).1<(b.length:Int) then 2 else if b.getD 16 0≠2 then 81 else if sm=true∧ff b=false then 82
   else if aQ (av b 0 8)=true then 80 else if b.getD 21 0≠0∨1<b.getD 22 0 then 83 else if aW (av b 43 8) (av b 51 2) (av b 53 4)=true then 84 else if av b 57 4<1 then 85 else if 256<av b 57 4 then 9 else if av b 23 4≠av b 57 4 - 1 then 72 else 0:=rfl
 have fin:∀e:Int,e≠0→ba b sm=e→some (Out.ret ((bx,(e,())),()):jq.Res)=oR (((aj b sm).1,(aj b sm).2,()),()):=by
  intro e he h
  have:aj b sm=(bx,e):=by unfold aj;rw[h,if_pos he]
  rw[this]
 unfold wY
 by_cases h1:(b.length:Int)<61
 ·refine bT (decide_eq_true h1) ?_
  exact fin 1 (by decide) (by rw[eE,if_pos h1])
 refine bF (decide_eq_false h1) ?_
 rw[if_neg h1] at eE
 by_cases h2:(aw b 0).2=0
 rotate_left
 ·refine bT (by simpa using h2) ?_
  exact fin _ h2 (by rw[eE,if_pos h2])
 refine bF (by simpa using h2) ?_
 rw[if_neg (aq h2)] at eE
 by_cases h3:(aw b 0).1<(b.length:Int)
 ·refine bT (decide_eq_true h3) ?_
  exact fin 2 (by decide) (by rw[eE,if_pos h3])
 refine bF (decide_eq_false h3) ?_
 rw[if_neg h3] at eE
 refine bT (by simp only[zA,zB];omega) ?_
 rw[show Int.toNat 16=16 from rfl]
 by_cases h4:b.getD 16 0=2
 rotate_left
 ·refine bT (by simpa using h4) ?_
  exact fin 81 (by decide) (by rw[eE,if_pos h4])
 refine bF (by simpa using h4) ?_
 rw[if_neg (aq h4)] at eE
 have hT:=JW hb (by omega)
 have fin2:¬(sm=true∧ff b=false)→FQ b=oR (((aj b sm).1,(aj b sm).2,()),()):=by
  intro hn
  rw[if_neg hn] at eE
  rw[hT]
  have hs:aj b sm=if ba b sm≠0 then (bx,ba b sm) else (iS b,0):=rfl
  rw[hs,eE]
  by_cases d1:aQ (av b 0 8)=true
  ·rw[if_pos d1,if_pos d1,if_pos (by decide)]
  rw[if_neg d1,if_neg d1]
  by_cases d2:b.getD 21 0≠0∨1<b.getD 22 0
  ·rw[if_pos d2,if_pos d2,if_pos (by decide)]
  rw[if_neg d2,if_neg d2]
  by_cases d3:aW (av b 43 8) (av b 51 2) (av b 53 4)=true
  ·rw[if_pos d3,if_pos d3,if_pos (by decide)]
  rw[if_neg d3,if_neg d3]
  by_cases d4:av b 57 4<1
  ·rw[if_pos d4,if_pos d4,if_pos (by decide)]
  rw[if_neg d4,if_neg d4]
  by_cases d5:256<av b 57 4
  ·rw[if_pos d5,if_pos d5,if_pos (by decide)]
  rw[if_neg d5,if_neg d5]
  by_cases d6:av b 23 4≠av b 57 4 - 1
  ·rw[if_pos d6,if_pos d6,if_pos (by decide)]
  rw[if_neg d6,if_neg d6,if_neg (by decide)]
 cases sm with
 |false=>
  refine (ae rfl _ _).trans ?_
  exact fin2 (fun h=>by cases h.1)
 |true=>
  refine (aa rfl _ _).trans ?_
  rw[zG,List.take_length,show Int.toNat 21=21 from rfl,show Int.toNat 17=17 from rfl]
  refine bT (by simp only[zA,zB];omega) ?_
  refine bT (by simp only[zA,zB];omega) ?_
  have hc:=DA 0 (b:=b.drop 21) (by decide) (fun x h=>hb x (List.mem_of_mem_drop h))
  have e17:List.drop 17 (List.take 21 b)=(b.drop 17).take 4:=by rw[List.drop_take]
  rw[af (by omega) (by omega),e17]
  have hS:ff b=if (b.drop 17).take 4=az (cB 0 (b.drop 21)) 4 then true else false:=rfl
  by_cases h5:(b.drop 17).take 4=az (cB 0 (b.drop 21)) 4
  ·rw[if_pos h5] at hS
   refine bF (by rw[show Int.toNat 4=4 from rfl,decide_eq_true h5];rfl) ?_
   exact fin2 (by rw[hS];exact fun h=>by cases h.2)
  ·rw[if_neg h5] at hS
   refine bT (by rw[show Int.toNat 4=4 from rfl,decide_eq_false h5];rfl) ?_
   exact fin 82 (by decide) (by rw[eE,if_pos ⟨rfl,hS⟩])
end
end Go.Proofs.YthpcdhgpplmneaaGreatDoor.Sym
