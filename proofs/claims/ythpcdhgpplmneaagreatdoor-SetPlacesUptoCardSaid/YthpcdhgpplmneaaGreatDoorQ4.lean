/- vint.read. -/
import Derived.Test.YthpcdhgpplmneaaGreatDoorRows
import Derived.WalkKit
import Derived.ProofKit
import Derived.OpenShut
import Derived.JoinedCond
import Derived.ChangeStays
import Derived.DataReads
import Derived.Test.YthpcdhgpplmneaaGreatDoorQ3

set_option linter.unusedVariables false
set_option linter.unusedSimpArgs false
namespace Go.Proofs.YthpcdhgpplmneaaGreatDoor.Sym
open Go
open Go.IntKind (i8 i16 i32 i64 u8 u16 u32 u64)
noncomputable section
theorem vG:∀l:LI,0≤bv l∧bv l<128 ^ l.length
 |[]=>by simp[bv]
 |c::l=>by
  have:=vG l
  simp only[bv,zN,Int.pow_succ]
  omega
def p3 (m t:Int):Bool:=(decide (m=10)&&decide (t=1)) || (decide (m=5)&&decide (t=15))
abbrev kA:Io:=⟨[dL,dI,dI,dU],[],[],[dV,dI,dI],none⟩
def DZ (d:kA.In):Tr kA.Res:=
 .ite (p3 d.1.2.2.1 d.1.2.2.2.1) (.ret (.ret (((ab d.1.2.2.1.toNat d.1.2.2.2.1 d.1.1 d.1.2.1).1,(ab d.1.2.2.1.toNat d.1.2.2.2.1 d.1.1 d.1.2.1).2.1,(ab d.1.2.2.1.toNat d.1.2.2.2.1 d.1.1 d.1.2.1).2.2,()),()))) .no
abbrev yX:List (Nat×Hc):=[]
def G6:Hd:=bI yX
abbrev ey:Lo:=⟨⟨(.any::.one hI::.one hI::.one (.hol (.int u8))::.any::bx (bk (.one (.hol (.int u64))::co (bx (.one (.hol (.sl 5 (Ty.int u8)))::.one hI::.one hI::.any::ai (ai (bk []))))))),[]⟩,[(.ret,⟨(co (.one (.hol (.int u64))::.one hI::.one hI::.any::ai (ai (ai (bk []))))),[]⟩),(.exit 0,⟨(ai (ai (ai (co (bx (bk [])))))),[]⟩)]⟩
def lG (d:ey.st.den):Tr (ap ey.xs):=
 .ite (p3 d.1.2.1 d.1.2.2.1&&(decide (d.1.2.2.2.1=(0:Int))&&(decide (d.1.2.2.2.2.2.2.1=(0:Int))&&(decide ((d.1.2.2.2.2.1.length:Int)=d.1.2.2.2.2.2.1)&&(decide ((0:Int)≤d.1.1)&&decide ((d.1.1:Int)+(d.1.2.2.2.2.1.length:Int)≤9223372036854775807))))))
  (.ite (decide ((bG d.1.2.1.toNat d.1.2.2.1 d.1.2.2.2.2.1 0).2=0))
   (.ret (.ret ((),((bv (d.1.2.2.2.2.1.take ((bG d.1.2.1.toNat d.1.2.2.1 d.1.2.2.2.2.1 0).1+1).toNat) % 18446744073709551616,(d.1.1+(bG d.1.2.1.toNat d.1.2.2.1 d.1.2.2.2.2.1 0).1+1,(0,()))),()))))
   (.ite (decide ((bG d.1.2.1.toNat d.1.2.2.1 d.1.2.2.2.2.1 0).2=1)) (.ret (.pan (.ret ((),((),())))))
    (.ret (.ret ((),((0,(0,((bG d.1.2.1.toNat d.1.2.2.1 d.1.2.2.2.2.1 0).2,()))),())))))) .no
def s3:Lp:=bQ [(6,aG ey lG)]
def sd {R:Type}(h4 h5 h6 h7:Int)(h8:LI)(h9 h10:Int)(next:Int→Int→Int→Int→LI→Int→Int→Option R)(out:ap ey.xs→Option R):Option R:=bif decide (h10<h9) then bif decide (0≤h10)&&decide (h10<(↑h8.length:Int)) then bif h10 == i64.wrap (h5 - 1) then bif decide (h6<h8.getD h10.toNat 0) then out (.ret ((),((0,(0,(21,()))),()))) else bif decide (0≤i64.wrap (7*h10)) then bif decide (128≤h8.getD h10.toNat 0) then next (h4) (h5) (h6) (ke u64 h7 (ft u64 (u64.wrap (eJ u8 (h8.getD h10.toNat 0) 127)) (i64.wrap (7*h10)))) (h8) (h9) (i64.wrap (h10+1)) else bif h8.getD h10.toNat 0 == 0 then bif decide (0<h10) then out (.ret ((),((0,(0,(20,()))),()))) else out (.ret ((),((ke u64 h7 (ft u64 (u64.wrap (eJ u8 (h8.getD h10.toNat 0) 127)) (i64.wrap (7*h10))),(i64.wrap (i64.wrap (h4+h10)+1),(0,()))),()))) else out (.ret ((),((ke u64 h7 (ft u64 (u64.wrap (eJ u8 (h8.getD h10.toNat 0) 127)) (i64.wrap (7*h10))),(i64.wrap (i64.wrap (h4+h10)+1),(0,()))),()))) else none else bif decide (0≤i64.wrap (7*h10)) then bif decide (128≤h8.getD h10.toNat 0) then next (h4) (h5) (h6) (ke u64 h7 (ft u64 (u64.wrap (eJ u8 (h8.getD h10.toNat 0) 127)) (i64.wrap (7*h10)))) (h8) (h9) (i64.wrap (h10+1)) else bif h8.getD h10.toNat 0 == 0 then bif decide (0<h10) then out (.ret ((),((0,(0,(20,()))),()))) else out (.ret ((),((ke u64 h7 (ft u64 (u64.wrap (eJ u8 (h8.getD h10.toNat 0) 127)) (i64.wrap (7*h10))),(i64.wrap (i64.wrap (h4+h10)+1),(0,()))),()))) else out (.ret ((),((ke u64 h7 (ft u64 (u64.wrap (eJ u8 (h8.getD h10.toNat 0) 127)) (i64.wrap (7*h10))),(i64.wrap (i64.wrap (h4+h10)+1),(0,()))),()))) else none else none else out (.pan (.ret ((),((),()))))
def qO (n:Nat)(h4 h5 h6 h7:Int)(h8:LI)(h9 h10:Int):Option (ap ey.xs):=fR tt G6 dr s3 0 Tryz.f137 (bX Tryz.f137 0) n (ey.st.mk' ((h4,(h5,(h6,(h7,(h8,(h9,(h10,()))))))),())) (bC ey.xs)
theorem JO (n:Nat)(h4 h5 h6 h7:Int)(h8:LI)(h9 h10:Int):qO (n+1) h4 h5 h6 h7 h8 h9 h10=sd h4 h5 h6 h7 h8 h9 h10 (qO n) some:=by kernel_rfl
theorem IZ (p m:Nat)(t:Int)(l:LI)(hf:p3 m t=true)(hp:(p:Int)+l.length≤9223372036854775807)(hc:∀c∈l,0≤c∧c≤255):∀(k i:Nat),i<m→m<i+k→i≤l.length→
  qO k p m t (bv (l.take i)) l l.length i=
   if (bG m t (l.drop i) i).2=0 then some (.ret ((),((bv (l.take ((bG m t (l.drop i) i).1+1).toNat) % 18446744073709551616,(p+(bG m t (l.drop i) i).1+1,(0,()))),())))
   else if (bG m t (l.drop i) i).2=1 then some (.pan (.ret ((),((),())))) else some (.ret ((),((0,(0,((bG m t (l.drop i) i).2,()))),()))):=by
 have hm:(m=10∧t=1)∨(m=5∧t=15):=by
  simp only[p3,Bool.or_eq_true,zA,zB] at hf
  omega
 intro k
 induction k with
 |zero=>intro i h1 h2;omega
 |succ k ih=>
  intro i h1 h2 h3
  rw[JO]
  unfold sd
  by_cases hl:i<l.length
  ·have hcc:=hc l[i] (List.getElem_mem hl)
   have e3:i64.wrap ((m:Int) - 1)=(m:Int) - 1:=af (by omega) (by omega)
   have e4:i64.wrap ((i:Int)+1)=((i+1:Nat):Int):=by rw[af] <;> omega
   have e5:i64.wrap (7*(i:Int))=((7*i:Nat):Int):=by rw[af] <;> omega
   have e6:i64.wrap ((p:Int)+i)=((p+i:Nat):Int):=by rw[af] <;> omega
   have e7:i64.wrap (((p+i:Nat):Int)+1)=(p:Int)+i+1:=by rw[af] <;> omega
   rw[aa (by simpa using hl),aa (by simpa using hl)]
   simp only[zG,aK hl,e3,e4,e5,e6,e7]
   rw[OG hcc.1 hcc.2,dX (n:=l[i] % 128) (by omega) (by omega),zE hl]
   have hsn:l.take (i+1)=l.take i++[l[i]]:=List.take_succ_eq_append_getElem hl
   have hv:=vG (l.take i)
   have hti:(l.take i).length=i:=by simp;omega
   rw[hti] at hv
   have e8:(128:Int) ^ i=2 ^ (7*i):=by rw[Int.pow_mul];rfl
   have hor:l[i] % 128*2 ^ (7*i)<18446744073709551616→ke .u64 (bv (l.take i)) (ft .u64 (l[i] % 128) ((7*i:Nat):Int))=bv (l.take (i+1)):=by
    intro h
    rw[Sf hv.1 (by rw[← e8];exact hv.2) (by omega) h (by omega),hsn,oM,hti,e8,Int.mul_comm]
   generalize hg:ke .u64 (bv (l.take i)) (ft .u64 (l[i] % 128) ((7*i:Nat):Int))=v at hor ⊢
   have e9:(2:Int) ^ (7*i)=((2 ^ (7*i):Nat):Int):=by rw[Int.natCast_pow];rfl
   have hbd:(i≤8∨l[i] % 128≤1)→l[i] % 128*2 ^ (7*i)<18446744073709551616:=by
    intro h
    rw[e9]
    rcases h with h | h
    ·have h8:2 ^ (7*i)≤2 ^ 56:=Nat.pow_le_pow_right (by decide) (by omega)
     have h9:l[i] % 128*((2 ^ (7*i):Nat):Int)≤127*((2 ^ (7*i):Nat):Int):=Int.mul_le_mul_of_nonneg_right (by omega) (by omega)
     generalize 2 ^ (7*i)=w at h8 h9
     omega
    ·have h8:2 ^ (7*i)≤2 ^ 63:=Nat.pow_le_pow_right (by decide) (by omega)
     have h9:l[i] % 128*((2 ^ (7*i):Nat):Int)≤1*((2 ^ (7*i):Nat):Int):=Int.mul_le_mul_of_nonneg_right h (by omega)
     generalize 2 ^ (7*i)=w at h8 h9
     omega
   have hnext:=fun h=>ih (i+1) h (by omega) (by omega)
   have ei:((i:Int)+1).toNat=i+1:=by omega
   have hvr:bt .u64 v:=by rw[← hg];exact bP _ _
   have hvr:=sS.1 hvr
   clear hg
   by_cases hm1:i+1=m
   ·have h3':((i:Int) == (m:Int) - 1)=true:=by simp;omega
    rw[aa h3']
    by_cases h4:t<l[i]
    ·simp[bG,hm1,h4]
    ·have hv2:=hor (hbd (by omega))
     have hmod:bv (l.take (i+1)) % 18446744073709551616=bv (l.take (i+1)):=by rw[← hv2];omega
     have hmod':=hmod
     rw[hm1] at hmod'
     have h5:l[i]<128:=by omega
     have h6:¬ 128≤l[i]:=by omega
     rw[ae (by simpa using h4),aa (by simp;omega),ae (by simpa using h6),hv2]
     by_cases h7:l[i]=0
     ·have h4':¬ t<0:=by omega
      by_cases h8:0<i <;> simp[bG,hm1,h4',h7,h8,cond_eq_ite,ei,hmod']
     ·simp[bG,hm1,h4,h5,h7,cond_eq_ite,ei,hmod']
   ·have h3':((i:Int) == (m:Int) - 1)=false:=by simp;omega
    have hv2:=hor (hbd (by omega))
    have hmod:bv (l.take (i+1)) % 18446744073709551616=bv (l.take (i+1)):=by rw[← hv2];omega
    rw[ae h3',aa (by simp;omega),hv2]
    by_cases h5:l[i]<128
    ·have h6:¬ 128≤l[i]:=by omega
     rw[ae (by simpa using h6)]
     by_cases h7:l[i]=0
     ·by_cases h8:0<i <;> simp[bG,hm1,h7,h8,cond_eq_ite,ei,hmod]
     ·simp[bG,hm1,h5,h7,cond_eq_ite,ei,hmod]
    ·rw[aa (by simp;omega),hnext (by omega)]
     simp[bG,hm1,h5]
  ·rw[ae (by simpa using hl),zI (by omega)]
   simp[bG]
def wH (a0:LI)(a1 a2 a3:Int):Option kA.Res:=bif decide (a1<0) then oR ((0,0,3,()),()) else bif decide ((↑a0.length:Int)<a1) then oR ((0,0,3,()),()) else bif decide (0≤a1)&&(decide (a1≤(↑a0.length:Int))&&decide ((↑a0.length:Int)≤(↑a0.length:Int))) then (lG ((a1,(a2,(a3,(0,(List.drop a1.toNat (List.take (↑a0.length:Int).toNat a0),((↑(List.drop a1.toNat (List.take (↑a0.length:Int).toNat a0)).length:Int),(0,()))))))),())).run fun y=>match y with | .ret ((),((x46,x47,x48,()),()))=>(oR ((x46,x47,x48,()),())) | .pan (.ret ((),((),())))=>(oR ((0,0,1,()),())) else none
theorem Nn (a0:LI)(a1 a2 a3:Int):Io.run tt G6 dr s3 kA Tryz.f137 ((a0,a1,a2,a3,()),())=wH a0 a1 a2 a3:=by kernel_rfl
theorem H0:HcOk prog 137 (ah kA DZ):=by
 refine bY (cs:=yX) .nil (lp:=s3) (fn:=Tryz.f137) kA
  (.step (h0:=aG ey lG) (by kernel_rfl) (f9 (cs:=yX) .nil (lp:=s3) (fn:=Tryz.f137) (.done (by kernel_rfl)) ey lG ?_) (.done (by kernel_rfl))) DZ ?_
 ·rintro ⟨⟨(p:Int),(m:Int),(t:Int),(u:Int),(l:LI),(n:Int),(i:Int),⟨⟩⟩,⟨⟩⟩ y hw hy
  obtain ⟨hg,hy⟩:=Tr.guard hy
  simp only[zA,zB] at hg
  obtain ⟨hf,rfl,rfl,rfl,h1,h2⟩:=hg
  have h1:(0:Int)≤p:=h1
  have h2:p+(l.length:Int)≤9223372036854775807:=h2
  have hm0:5≤m∧m≤10:=by
   simp only[p3,Bool.or_eq_true,zA,zB] at hf
   omega
  obtain ⟨p,rfl⟩:=aB h1
  obtain ⟨m,rfl⟩:=aB (show 0≤m by omega)
  have hc:∀c∈l,0≤c∧c≤255:=fun c hc=>EH.1 (hw.1.2.2.2.2.1.2 c hc)
  refine ⟨m+1,(IZ p m t l hf h2 hc (m+1) 0 (by omega) (by omega) (by omega)).trans ?_⟩
  rw[← hy]
  simp only[Tr.val_ite,Tr.val_ret,zG,zB,List.drop_zero]
 ·rintro ⟨⟨(b:LI),(p:Int),(m:Int),(t:Int),⟨⟩⟩,⟨⟩⟩ out hw ho
  obtain ⟨hf,ho⟩:=Tr.guard ho
  cases ho
  refine (Nn b p m t).trans ?_
  have hb:b.length≤maxLen:=hw.1.1.1
  rw[aP] at hb
  have hf:p3 m t=true:=hf
  have hm0:5≤m∧m≤10:=by
   simp only[p3,Bool.or_eq_true,zA,zB] at hf
   omega
  unfold wH
  show _=oR (((ab m.toNat t b p).1,(ab m.toNat t b p).2.1,(ab m.toNat t b p).2.2,()),())
  unfold ab
  by_cases h1:p<0
  ·rw[aa (by simpa using h1),if_pos (.inl h1)]
  ·by_cases h2:(b.length:Int)<p
   ·rw[ae (by simpa using h1),aa (by simpa using h2),if_pos (.inr h2)]
   ·rw[ae (by simpa using h1),ae (by simpa using h2),aa (by simp;omega),if_neg (by omega),show (b.length:Int).toNat=b.length by omega,List.take_length]
    have hlen:((b.drop p.toNat).length:Int)=b.length - p:=by simp;omega
    have hr:=p7 m.toNat t (b.drop p.toNat) 0
    unfold lG
    generalize b.drop p.toNat=l at hlen hr ⊢
    generalize bG m.toNat t l 0=r at hr ⊢
    obtain ⟨r1,r2⟩:=r
    have h9:(0:Int)≤p:=by omega
    have h8:p+(l.length:Int)≤9223372036854775807:=by omega
    simp only[Tr.run_ite,Tr.run_ret,zA,zB]
    rw[if_pos ⟨hf,trivial,trivial,trivial,h9,h8⟩]
    by_cases h3:r2=0
    ·simp[h3]
    ·by_cases h4:r2=1
     ·simp[h4]
     ·simp[h3,h4]
abbrev lT:Io:=⟨[dL,dI],[],[],[SG,dI,dI],none⟩
def FW (d:lT.In):Tr lT.Res:=.ret (.ret ((ak (ab 10 1 d.1.1 d.1.2.1).1,(ab 10 1 d.1.1 d.1.2.1).2.1,(ab 10 1 d.1.1 d.1.2.1).2.2,()),()))
abbrev Es:List (Nat×Hc):=[(137,ah kA DZ),(138,ah nP Kn)]
def Rp:Hd:=bI Es
def Mc:Lp:=bQ []
def tN (a0:LI)(a1:Int):Option lT.Res:=oR ((ak (ab (Int.toNat 10) 1 a0 a1).1,(ab (Int.toNat 10) 1 a0 a1).2.1,(ab (Int.toNat 10) 1 a0 a1).2.2,()),())
theorem Qd (a0:LI)(a1:Int):Io.run tt Rp dr Mc lT Tryz.f135 ((a0,a1,()),())=tN a0 a1:=by kernel_rfl
theorem ML:HcOk prog 135 (ah lT FW):=by
 refine bY (cs:=Es) (.cons H0 (.cons MN .nil)) (lp:=Mc) (fn:=Tryz.f135) lT (.done (by kernel_rfl)) FW ?_
 rintro ⟨⟨(b:LI),(p:Int),⟨⟩⟩,⟨⟩⟩ out hw ho
 cases ho
 refine (Qd b p).trans ?_
 first | rfl | (unfold tN;simp[p3];done) | (unfold tN;rfl)
abbrev gn:Io:=⟨[dL,dI],[],[],[Tz,dI,dI],none⟩
def sy (d:gn.In):Tr gn.Res:=.ret (.ret ((IntKind.wrap .i32 (ak (ab 5 15 d.1.1 d.1.2.1).1),(ab 5 15 d.1.1 d.1.2.1).2.1,(ab 5 15 d.1.1 d.1.2.1).2.2,()),()))
abbrev BK:List (Nat×Hc):=Es
def LM:Hd:=bI BK
def CX:Lp:=bQ []
def nA (a0:LI)(a1:Int):Option gn.Res:=oR ((i32.wrap (ak (ab (Int.toNat 5) 15 a0 a1).1),(ab (Int.toNat 5) 15 a0 a1).2.1,(ab (Int.toNat 5) 15 a0 a1).2.2,()),())
theorem Jo (a0:LI)(a1:Int):Io.run tt LM dr CX gn Tryz.f111 ((a0,a1,()),())=nA a0 a1:=by kernel_rfl
theorem C5:HcOk prog 111 (ah gn sy):=by
 refine bY (cs:=BK) (.cons H0 (.cons MN .nil)) (lp:=CX) (fn:=Tryz.f111) gn (.done (by kernel_rfl)) sy ?_
 rintro ⟨⟨(b:LI),(p:Int),⟨⟩⟩,⟨⟩⟩ out hw ho
 cases ho
 refine (Jo b p).trans ?_
 first | rfl | (unfold nA;simp[p3];done) | (unfold nA;rfl)
theorem P0:∀c:Nat,c<256→ke .u8 (c:Int) 128=(c:Int) % 128+128:=by decide +kernel
theorem Se {u:Int}:ke .u8 (IntKind.wrap .u8 u) 128=u % 128+128:=by
 have e:IntKind.wrap .u8 u=((u % 256).toNat:Int):=by simp[IntKind.wrap,IntKind.signed,IntKind.bits];omega
 rw[e,P0 _ (by omega)]
 omega
abbrev T3:Sh:=.dat (.sl 2 (.int .i64)) false false
abbrev fm:Io:=⟨[T3],[],[],[dO],none⟩
def eQ (vs:LI):LI:=vs.flatMap fun v=>bH (bg v)
def oW (d:fm.In):Tr fm.Res:=.ite (decide (d.1.1.length≤100000000)) (.ret (.ret ((eQ d.1.1,()),()))) .no
abbrev xf:List (Nat×Hc):=[(181,ah nQ Ko)]
def qE:Hd:=bI xf
abbrev cC:Lo:=⟨⟨(.any::bk (.one (.onl 5 (Ty.int u8) 7)::bk (.one (.hol (.int u64))::.any::.one (.hol (.sl 2 (Ty.int i64)))::.one hI::.one hI::ai (bx (bk []))))),[]⟩,[(.exit 2,⟨(.any::bk (.one (.onl 5 (Ty.int u8) 7)::bk (.one (.hol (.int u64))::.any::.one (.hol (.sl 2 (Ty.int i64)))::.one hI::.one hI::ai (bx (bk []))))),[]⟩)]⟩
abbrev cB:Lo:=⟨⟨(.any::bk (.one (.onl 5 (Ty.int u8) 7)::bx (.one (.hol (.sl 2 (Ty.int i64)))::.one hI::.one hI::ai (bx (bk []))))),[]⟩,[(.exit 0,⟨(.any::bk (.one (.onl 5 (Ty.int u8) 7)::.any::ai (co (bx [])))),[]⟩)]⟩
def hY (d:cC.st.den):Tr (ap cC.xs):=
 .ite (decide (d.1.1.length≤4294967000)) (.ret (.ret ((),((d.1.1++oJ 10 d.1.2.1,(nc 10 d.1.2.1,(d.1.2.2.1,(d.1.2.2.2.1,(d.1.2.2.2.2.1,()))))),())))) .no
def hC (d:cB.st.den):Tr (ap cB.xs):=
 .ite (decide (d.1.1.length=0)&&(decide ((d.1.2.1.length:Int)=d.1.2.2.1)&&(decide (d.1.2.2.2.1=(0:Int))&&decide (d.1.2.1.length≤100000000)))) (.ret (.ret ((),((eQ d.1.2.1,()),())))) .no
def gV:Lp:=bQ [(4,aG cB hC),(7,aG cC hY)]
def jH {R:Type}(h5:LI)(h6:Int)(h7:LI)(h8 h9:Int)(next:LI→Int→LI→Int→Int→Option R)(out:ap cC.xs→Option R):Option R:=bif decide (128≤h6) then bif decide (h5.length+[ke u8 (u8.wrap h6) 128].length≤4294967296) then next (h5++[ke u8 (u8.wrap h6) 128]) (eK u64 h6 7) (h7) (h8) (h9) else none else out (.ret ((),((h5,(h6,(h7,(h8,(h9,()))))),())))
def lY (n:Nat)(h5:LI)(h6:Int)(h7:LI)(h8 h9:Int):Option (ap cC.xs):=fR tt qE dr gV 0 Tryz.f166 (Te Tryz.f166 (bX Tryz.f166 0) 0) n (cC.st.mk' ((h5,(h6,(h7,(h8,(h9,()))))),())) (bC cC.xs)
theorem rP (n:Nat)(h5:LI)(h6:Int)(h7:LI)(h8 h9:Int):lY (n+1) h5 h6 h7 h8 h9=jH h5 h6 h7 h8 h9 (lY n) some:=by kernel_rfl
def nv {R:Type}(h1 h2:LI)(h3 h4:Int)(next:LI→LI→Int→Int→Option R)(out:ap cB.xs→Option R):Option R:=bif decide (h4<h3) then bif decide (0≤h4)&&decide (h4<(↑h2.length:Int)) then (hY ((h1,(bg (h2.getD h4.toNat 0),(h2,(h3,(h4,()))))),())).run fun y=>match y with | .ret ((),((x20,x21,x22,x23,x24,()),()))=>(bif decide (x20.length+[u8.wrap x21].length≤4294967296) then next (x20++[u8.wrap x21]) (x22) (x23) (i64.wrap (x24+1)) else none) else none else out (.ret ((),((h1,()),())))
def lX (n:Nat)(h1 h2:LI)(h3 h4:Int):Option (ap cB.xs):=fR tt qE dr gV 0 Tryz.f166 (bX Tryz.f166 0) n (cB.st.mk' ((h1,(h2,(h3,(h4,())))),())) (bC cB.xs)
theorem Dp (n:Nat)(h1 h2:LI)(h3 h4:Int):lX (n+1) h1 h2 h3 h4=nv h1 h2 h3 h4 (lX n) some:=by kernel_rfl
theorem v6 (l:LI)(a i:Int):∀(n k:Nat) (u:Int) (o:LI),0≤u→u<128 ^ n→u<18446744073709551616→n<k→o.length+n≤4294967296→
  lY k o u l a i=some (.ret ((),((o++oJ n u,(nc n u,(l,(a,(i,()))))),()))):=by
 intro n
 induction n with
 |zero=>
  intro k u o h0 h1 h2 h3 h4
  obtain ⟨k,rfl⟩:∃m,k=m+1:=⟨k - 1,by omega⟩
  rw[rP]
  unfold jH
  have:¬ 128≤u:=by simp at h1;omega
  simp[this,nc,oJ]
 |succ n ih=>
  intro k u o h0 h1 h2 h3 h4
  obtain ⟨k,rfl⟩:∃m,k=m+1:=⟨k - 1,by omega⟩
  rw[rP]
  unfold jH
  have e1:eK .u64 u 7=u / 128:=by
   show IntKind.wrap .u64 (u.fdiv (2 ^ 7))=_
   rw[Int.fdiv_eq_ediv_of_nonneg _ (by decide),dX] <;> omega
  rw[Se,e1]
  by_cases h:127<u
  ·rw[ih k (u / 128) _ (by omega) (by rw[Int.pow_succ] at h1;exact Int.ediv_lt_of_lt_mul (by omega) h1) (by omega) (by omega) (by simp;omega)]
   have h5:o.length+1≤4294967296:=by omega
   have h6:128≤u:=by omega
   simp[h,h5,h6,nc,oJ]
  ·have h6:¬ 128≤u:=by omega
   simp[h,h6,nc,oJ]
theorem DB:∀(n:Nat) (u:Int),(oJ n u).length≤n:=by
 intro n
 induction n with
 |zero=>intro u;simp[oJ]
 |succ n ih=>intro u;simp only[oJ];split;have:=ih (u / 128);simp;omega;simp
theorem DJ {v:Int}(hr:bt .i64 v):0≤bg v∧bg v<18446744073709551616:=by
 have hr:=Hf.1 hr
 unfold bg;split <;> omega
theorem Dz (v:Int)(l:LI):eQ (v::l)=oJ 10 (bg v)++(nc 10 (bg v)::eQ l):=by simp[eQ,bH]
theorem v5 (vs:LI)(hl:vs.length≤100000000)(hr:∀v∈vs,bt .i64 v):∀(k:Nat) (o:LI) (i:Nat),i≤vs.length→vs.length<i+k→o.length≤11*i→
  lX k o vs vs.length i=some (.ret ((),((o++eQ (vs.drop i),()),()))):=by
 intro k
 induction k with
 |zero=>intro o i h1 h2;omega
 |succ k ih=>
  intro o i h1 h2 h3
  rw[Dp]
  unfold nv
  by_cases hi:i<vs.length
  ·have hz:=DJ (hr vs[i] (List.getElem_mem hi))
   obtain ⟨l1,l2⟩:=Il 10 (bg vs[i]) hz.1 (by have:=hz.2;omega)
   have h4:=DB 10 (bg vs[i])
   have h5:o.length≤4294967000:=by omega
   have h6:o.length+(oJ 10 (bg vs[i])).length+1≤4294967296:=by omega
   have e4:i64.wrap ((i:Int)+1)=((i+1:Nat):Int):=by rw[af] <;> omega
   rw[aa (by simpa using hi),aa (by simpa using hi),zE hi]
   simp only[zG,aK hi,hY,Tr.run_ite,Tr.run_ret,h5,decide_true,if_true,e4]
   rw[aa (by simp;omega),vU (n:=nc 10 (bg vs[i])) l1 (by omega),ih _ (i+1) hi (by omega) (by simp;omega)]
   rw[Dz]
   simp
  ·rw[zI (by omega)]
   simp[hi,eQ]
def rt (a0:LI):Option fm.Res:=(hC (([],(a0,((↑a0.length:Int),(0,())))),())).run fun y=>match y with | .ret ((),((x30,()),()))=>(oR ((x30,()),()))
theorem Fa (a0:LI):Io.run tt qE dr gV fm Tryz.f166 ((a0,()),())=rt a0:=by kernel_rfl
theorem lQ:HcsOk prog xf:=.cons RU .nil
theorem xP:HcOk prog 166 (ah fm oW):=by
 refine bY lQ (lp:=gV) (fn:=Tryz.f166) fm
  (.step (h0:=aG cB hC) (by kernel_rfl) (f9 lQ (lp:=gV) (fn:=Tryz.f166)
   (.step (h0:=aG cC hY) (by kernel_rfl) (f9 lQ (lp:=gV) (fn:=Tryz.f166) (.done (by kernel_rfl)) cC hY ?_) (.done (by kernel_rfl)))
   cB hC ?_) (.done (by kernel_rfl))) oW ?_
 ·rintro ⟨⟨(o:LI),(u:Int),(l:LI),(a:Int),(i:Int),⟨⟩⟩,⟨⟩⟩ y hw hy
  obtain ⟨hg,hy⟩:=Tr.guard hy
  have hg:o.length≤4294967000:=by simpa using hg
  have hr:=sS.1 (show bt .u64 u from hw.1.2.1)
  refine ⟨11,(v6 l a i 10 11 u o hr.1 (by omega) (by omega) (by omega) (by omega)).trans ?_⟩
  rw[← hy];rfl
 ·rintro ⟨⟨(o:LI),(l:LI),(a:Int),(i:Int),⟨⟩⟩,⟨⟩⟩ y hw hy
  obtain ⟨hg,hy⟩:=Tr.guard hy
  simp only[zA,zB] at hg
  obtain ⟨h1,rfl,rfl,h2⟩:=hg
  have h1:o=[]:=List.length_eq_zero_iff.1 h1
  subst h1
  have h2:l.length≤100000000:=h2
  refine ⟨l.length+1,(v5 l h2 (fun v hv=>hw.1.2.1.2 v hv) (l.length+1) [] 0 (by omega) (by omega) (by simp)).trans ?_⟩
  rw[← hy];rfl
 ·rintro ⟨⟨(l:LI),⟨⟩⟩,⟨⟩⟩ out hw ho
  obtain ⟨hg,ho⟩:=Tr.guard ho
  cases ho
  refine (Fa l).trans ?_
  have hg:l.length≤100000000:=by simpa using hg
  unfold rt hC
  simp[Tr.run_ite,Tr.run_ret,hg]
abbrev ky:Io:=⟨[SG],[],[],[dO],none⟩
def AX (d:ky.In):Tr ky.Res:=.ret (.ret ((bH (bg d.1.1),()),()))
abbrev KV:List (Nat×Hc):=[(166,ah fm oW)]
def Rr:Hd:=bI KV
def Me:Lp:=bQ []
def Bf (a0:Int):Option ky.Res:=oR ((eQ [a0],()),())
theorem Qf (a0:Int):Io.run tt Rr dr Me ky Tryz.f128 ((a0,()),())=Bf a0:=by kernel_rfl
theorem EY:HcOk prog 128 (ah ky AX):=by
 refine bY (cs:=KV) (.cons xP .nil) (lp:=Me) (fn:=Tryz.f128) ky (.done (by kernel_rfl)) AX ?_
 rintro ⟨⟨(v:Int),⟨⟩⟩,⟨⟩⟩ out hw ho
 cases ho
 refine (Qf v).trans ?_
 unfold Bf
 simp[eQ]
abbrev x7:Ty:=.prod .bool (.prod bs .unit)
abbrev fV:Ty:=.prod .str (.prod x7 .unit)
abbrev FL:Ty:=.sl 206 fV
abbrev TF:Ty:=.prod (.int .i64) (.prod (.int .i32) (.prod x7 (.prod x7 (.prod FL .unit))))
abbrev GQ:Sh:=.dat x7 true false
abbrev BX:Sh:=.dat TF true false
abbrev Ra:Sh:=.dat FL false false
end
end Go.Proofs.YthpcdhgpplmneaaGreatDoor.Sym
namespace Go.Proofs.YthpcdhgpplmneaaGreatDoor.Sym
open Go
noncomputable section
abbrev AV:Type:=Bool×LI×Unit
abbrev eM:Type:=LI×AV×Unit
abbrev nb:Type:=Int×Int×AV×AV×List eM×Unit
end
end Go.Proofs.YthpcdhgpplmneaaGreatDoor.Sym
namespace Go.Proofs.YthpcdhgpplmneaaGreatDoor.Sym
open Go
open Go.IntKind (i8 i16 i32 i64 u8 u16 u32 u64)
noncomputable section
def ag (b:LI)(p:Int):Int×Int×Int:=(IntKind.wrap .i32 (ak (ab 5 15 b p).1),(ab 5 15 b p).2.1,(ab 5 15 b p).2.2)
def ac (b:LI)(p least:Int):AV×Int×Int:=
 if (ag b p).2.2≠0 then ((false,[],()),0,(ag b p).2.2)
 else if (ag b p).1<least then ((false,[],()),0,5)
 else if (ag b p).1<0 then ((true,[],()),(ag b p).2.1,0)
 else if (b.length:Int) - (ag b p).2.1<(ag b p).1 then ((false,[],()),0,1)
 else ((false,(b.drop (ag b p).2.1.toNat).take (ag b p).1.toNat,()),(ag b p).2.1+(ag b p).1,0)
def aA (b:LI):Nat→List eM→Int→List eM×Int×Int
 |0,out,p=>(out,p,0)
 |n+1,out,p=>
  if (ac b p 0).2.2≠0 then ([],0,(ac b p 0).2.2)
  else if (cx (ac b p 0).1.2.1).2=false then ([],0,6)
  else if (ac b (ac b p 0).2.1 (-1)).2.2≠0 then ([],0,(ac b (ac b p 0).2.1 (-1)).2.2)
  else aA b n (out++[((ac b p 0).1.2.1,(ac b (ac b p 0).2.1 (-1)).1,())]) (ac b (ac b p 0).2.1 (-1)).2.1
theorem p4 (b:LI):∀(n:Nat) (o:List eM) (p:Int),(aA b n o p).2.2≠0→(aA b n o p).1=[]∧(aA b n o p).2.1=0
 |0,o,p,h=>absurd rfl h
 |n+1,o,p,h=>by
  unfold aA at h ⊢
  split
  ·exact ⟨rfl,rfl⟩
  split
  ·exact ⟨rfl,rfl⟩
  split
  ·exact ⟨rfl,rfl⟩
  rename_i h1 h2 h3
  rw[if_neg h1,if_neg h2,if_neg h3] at h
  exact p4 b n _ _ h
def ay (b:LI)(p:Int):List eM×Int×Int:=
 if (ag b p).2.2≠0 then ([],0,(ag b p).2.2)
 else if (ag b p).1<0 then ([],0,5)
 else if 16<(ag b p).1 then ([],0,9)
 else aA b (ag b p).1.toNat [] (ag b p).2.1
def aL:nb:=(0,0,(false,[],()),(false,[],()),[],())
def aX (b:LI):nb×Int:=
 if b.length=0 then (aL,1)
 else if b.getD 0 0≠0 then (aL,71)
 else if (ab 10 1 b 1).2.2≠0 then (aL,(ab 10 1 b 1).2.2)
 else if (ag b (ab 10 1 b 1).2.1).2.2≠0 then (aL,(ag b (ab 10 1 b 1).2.1).2.2)
 else if (ag b (ab 10 1 b 1).2.1).1<0 then (aL,72)
 else if (ac b (ag b (ab 10 1 b 1).2.1).2.1 (-1)).2.2≠0 then (aL,(ac b (ag b (ab 10 1 b 1).2.1).2.1 (-1)).2.2)
 else if (ac b (ac b (ag b (ab 10 1 b 1).2.1).2.1 (-1)).2.1 (-1)).2.2≠0 then (aL,(ac b (ac b (ag b (ab 10 1 b 1).2.1).2.1 (-1)).2.1 (-1)).2.2)
 else if (ay b (ac b (ac b (ag b (ab 10 1 b 1).2.1).2.1 (-1)).2.1 (-1)).2.1).2.2≠0 then (aL,(ay b (ac b (ac b (ag b (ab 10 1 b 1).2.1).2.1 (-1)).2.1 (-1)).2.1).2.2)
 else if (ay b (ac b (ac b (ag b (ab 10 1 b 1).2.1).2.1 (-1)).2.1 (-1)).2.1).2.1<(b.length:Int) then (aL,2)
 else ((ak (ab 10 1 b 1).1,(ag b (ab 10 1 b 1).2.1).1,(ac b (ag b (ab 10 1 b 1).2.1).2.1 (-1)).1,(ac b (ac b (ag b (ab 10 1 b 1).2.1).2.1 (-1)).2.1 (-1)).1,(ay b (ac b (ac b (ag b (ab 10 1 b 1).2.1).2.1 (-1)).2.1 (-1)).2.1).1,()),0)
def am (b:LI)(p:Int):nb×Int×Int:=
 if (ag b p).2.2≠0 then (aL,0,(ag b p).2.2)
 else if (ag b p).1<0 then (aL,0,5)
 else if 16384<(ag b p).1 then (aL,0,4)
 else if (b.length:Int) - (ag b p).2.1<(ag b p).1 then (aL,0,1)
 else if (aX ((b.drop (ag b p).2.1.toNat).take (ag b p).1.toNat)).2≠0 then (aL,0,(aX ((b.drop (ag b p).2.1.toNat).take (ag b p).1.toNat)).2)
 else ((aX ((b.drop (ag b p).2.1.toNat).take (ag b p).1.toNat)).1,(ag b p).2.1+(ag b p).1,0)
theorem Tr.run_of_val {α R:Type}:∀{t:Tr α} {K:α→Option R} {a:α},t.val=some a→t.run K=K a
 |.ret a,K,b,h=>by cases h;rfl
 |.no,K,b,h=>by cases h
 |.ite c t e,K,b,h=>by
  cases c with
  |true=>exact Tr.run_of_val (t:=t) h
  |false=>exact Tr.run_of_val (t:=e) h
theorem HcOk.weak {P:Program}{f:Nat}{io:Io}{F F':io.In→Tr io.Res}(hF:∀d y,(F' d).val=some y→(F d).val=some y)(h:HcOk P f (ah io F)):HcOk P f (ah io F'):=by
 intro R args id A K r Fr G ts cst w vals hid hr Rl hv
 refine h R args id A K r Fr G ts cst w vals hid ?_ Rl hv
 unfold ah at hr ⊢
 split at hr
 ·cases hr
 ·split at hr
  ·cases hr
  ·rename_i a β1 e1 o β e2
   simp only at hr ⊢
   simp only[cond_eq_ite] at hr ⊢
   split at hr
   ·rename_i hc
    rw[if_pos hc]
    obtain ⟨y,h1,h2⟩:=Tr.run_val hr
    rw[Tr.run_of_val (hF _ _ h1)]
    exact h2
   ·cases hr
theorem xY {m:Nat}{t:Int}{b:LI}{p:Int}(h:(ab m t b p).2.2≠0):(ab m t b p).1=0∧(ab m t b p).2.1=0:=by
 unfold ab at h ⊢
 split
 ·exact ⟨rfl,rfl⟩
 ·split
  ·rename_i h1 h2
   rw[if_neg h1,if_pos h2] at h
   exact absurd rfl h
  ·exact ⟨rfl,rfl⟩
def wh (d:cQ.In):Tr cQ.Res:=.ret (.ret (((ag d.1.1 d.1.2.1).1,(ag d.1.1 d.1.2.1).2.1,(ag d.1.1 d.1.2.1).2.2,()),()))
theorem Aq:HcOk prog 150 (ah cQ wh):=by
 refine MO.weak ?_
 rintro ⟨⟨(b:LI),(p:Int),⟨⟩⟩,⟨⟩⟩ y h
 rw[← h]
 unfold sA wh ag
 simp only[Tr.val_ite,Tr.val_ret,zB]
 by_cases h1:(ab 5 15 b p).2.2=0
 ·rw[if_pos h1,h1]
 ·obtain ⟨h2,h3⟩:=xY h1
  rw[if_neg h1,h2,h3]
  rfl
def yr (d:iy.In):Tr iy.Res:=.ret (.ret ((ak (ab 10 1 d.1.1 d.1.2.1).1,(ab 10 1 d.1.1 d.1.2.1).2.1,(ab 10 1 d.1.1 d.1.2.1).2.2,()),()))
theorem H1:HcOk prog 113 (ah iy yr):=by
 refine RV.weak ?_
 rintro ⟨⟨(b:LI),(p:Int),⟨⟩⟩,⟨⟩⟩ y h
 rw[← h]
 unfold FY yr
 simp only[Tr.val_ite,Tr.val_ret,zB]
 by_cases h1:(ab 10 1 b p).2.2=0
 ·rw[if_pos h1,h1]
 ·obtain ⟨h2,h3⟩:=xY h1
  rw[if_neg h1,h2,h3]
  rfl
theorem mr {m:Nat}{t:Int}{b:LI}{p:Int}(h:(ab m t b p).2.2=0):0≤p∧p<(ab m t b p).2.1∧(ab m t b p).2.1≤b.length:=by
 unfold ab at h ⊢
 split
 ·rename_i h1
  rw[if_pos h1] at h
  cases h
 ·rename_i h1
  rw[if_neg h1] at h
  split
  ·rename_i h2
   have h3:=p7 m t (b.drop p.toNat) 0 h2
   simp only[List.length_drop] at h3
   generalize (bG m t (b.drop p.toNat) 0).1=k at h3 ⊢
   simp only
   omega
  ·rename_i h2
   rw[if_neg h2] at h
   exact absurd h h2
theorem dW {b:LI}{p:Int}(h:(ag b p).2.2=0):0≤p∧p<(ag b p).2.1∧(ag b p).2.1≤b.length:=mr h
theorem cS {b:LI}{p:Int} : -2147483648≤(ag b p).1∧(ag b p).1≤2147483647:=by
 have:=bP .i32 (ak (ab 5 15 b p).1)
 simp[bt,IntKind.min,IntKind.max,IntKind.signed,IntKind.bits] at this
 exact this
abbrev ji:Io:=⟨[dL,dI,Tz],[],[],[GQ,dI,dI],none⟩
def yx (d:ji.In):Tr ji.Res:=.ret (.ret (((ac d.1.1 d.1.2.1 d.1.2.2.1).1,(ac d.1.1 d.1.2.1 d.1.2.2.1).2.1,(ac d.1.1 d.1.2.1 d.1.2.2.1).2.2,()),()))
abbrev GA:List (Nat×Hc):=[(150,ah cQ wh),(21,ah jB wg)]
def Pf:Hd:=bI GA
def HD:Lp:=bQ []
def Iw (a0:LI)(a1 a2:Int):Option ji.Res:=bif (ab 5 15 a0 a1).2.2 != 0 then oR (((false,[],()),0,(ab 5 15 a0 a1).2.2,()),()) else bif decide (i32.wrap (ak (ab 5 15 a0 a1).1)<a2) then oR (((false,[],()),0,5,()),()) else bif decide (i32.wrap (ak (ab 5 15 a0 a1).1)<0) then oR (((true,[],()),(ab 5 15 a0 a1).2.1,0,()),()) else bif decide (i64.wrap ((↑a0.length:Int) - (ab 5 15 a0 a1).2.1)<i64.wrap (i32.wrap (ak (ab 5 15 a0 a1).1))) then oR (((false,[],()),0,1,()),()) else bif decide (0≤(ab 5 15 a0 a1).2.1)&&(decide ((ab 5 15 a0 a1).2.1≤i64.wrap ((ab 5 15 a0 a1).2.1+i64.wrap (i32.wrap (ak (ab 5 15 a0 a1).1))))&&decide (i64.wrap ((ab 5 15 a0 a1).2.1+i64.wrap (i32.wrap (ak (ab 5 15 a0 a1).1)))≤(↑a0.length:Int))) then bif decide ((List.drop (ab 5 15 a0 a1).2.1.toNat (List.take (i64.wrap ((ab 5 15 a0 a1).2.1+i64.wrap (i32.wrap (ak (ab 5 15 a0 a1).1)))).toNat a0)).length≤4294967296) then oR (((false,List.drop (ab 5 15 a0 a1).2.1.toNat (List.take (i64.wrap ((ab 5 15 a0 a1).2.1+i64.wrap (i32.wrap (ak (ab 5 15 a0 a1).1)))).toNat a0),()),i64.wrap ((ab 5 15 a0 a1).2.1+i64.wrap (i32.wrap (ak (ab 5 15 a0 a1).1))),0,()),()) else none else none
theorem Nv (a0:LI)(a1 a2:Int):Io.run tt Pf dr HD ji Tryz.f171 ((a0,a1,a2,()),())=Iw a0 a1 a2:=by kernel_rfl
theorem H4:HcOk prog 171 (ah ji yx):=by
 refine bY (cs:=GA) (.cons Aq (.cons Am .nil)) (lp:=HD) (fn:=Tryz.f171) ji (.done (by kernel_rfl)) yx ?_
 rintro ⟨⟨(b:LI),(p:Int),(l:Int),⟨⟩⟩,⟨⟩⟩ out hw ho
 cases ho
 refine (Nv b p l).trans ?_
 have hb:b.length≤maxLen:=hw.1.1.1
 rw[aP] at hb
 show _=oR (((ac b p l).1,(ac b p l).2.1,(ac b p l).2.2,()),())
 change (bif (ag b p).2.2 != 0 then oR (((false,[],()),0,(ag b p).2.2,()),()) else bif decide ((ag b p).1<l) then _ else bif decide ((ag b p).1<0) then oR (((true,[],()),(ag b p).2.1,0,()),()) else bif decide (i64.wrap ((b.length:Int) - (ag b p).2.1)<i64.wrap (ag b p).1) then _
  else bif decide (0≤(ag b p).2.1)&&(decide ((ag b p).2.1≤i64.wrap ((ag b p).2.1+i64.wrap (ag b p).1))&&decide (i64.wrap ((ag b p).2.1+i64.wrap (ag b p).1)≤(b.length:Int))) then bif decide ((List.drop (ag b p).2.1.toNat (List.take (i64.wrap ((ag b p).2.1+i64.wrap (ag b p).1)).toNat b)).length≤4294967296) then oR (((false,List.drop (ag b p).2.1.toNat (List.take (i64.wrap ((ag b p).2.1+i64.wrap (ag b p).1)).toNat b),()),i64.wrap ((ag b p).2.1+i64.wrap (ag b p).1),0,()),()) else none else none)=_
 have hr:=@cS b p
 by_cases h0:(ag b p).2.2=0
 ·have hk:=dW h0
  rw[ae (by simpa using h0)]
  by_cases h1:(ag b p).1<l
  ·have e:ac b p l=((false,[],()),0,5):=by unfold ac;rw[if_neg (by simpa using h0),if_pos h1]
   rw[e,aa (by simpa using h1)]
   first | done | rfl
  ·rw[ae (by simpa using h1)]
   by_cases h2:(ag b p).1<0
   ·have e:ac b p l=((true,[],()),(ag b p).2.1,0):=by unfold ac;rw[if_neg (by simpa using h0),if_neg h1,if_pos h2]
    rw[e,aa (by simpa using h2)]
   ·rw[ae (by simpa using h2),af (n:=(b.length:Int) - (ag b p).2.1) (by omega) (by omega),af (n:=(ag b p).1) (by omega) (by omega)]
    by_cases h3:(b.length:Int) - (ag b p).2.1<(ag b p).1
    ·have e:ac b p l=((false,[],()),0,1):=by unfold ac;rw[if_neg (by simpa using h0),if_neg h1,if_neg h2,if_pos h3]
     rw[e,aa (by simpa using h3)]
     first | done | rfl
    ·have e:ac b p l=((false,(b.drop (ag b p).2.1.toNat).take (ag b p).1.toNat,()),(ag b p).2.1+(ag b p).1,0):=by unfold ac;rw[if_neg (by simpa using h0),if_neg h1,if_neg h2,if_neg h3]
     rw[e,ae (by simpa using h3),af (n:=(ag b p).2.1+(ag b p).1) (by omega) (by omega)]
     rw[aa (by simp;omega),List.drop_take,show ((ag b p).2.1+(ag b p).1).toNat - (ag b p).2.1.toNat=(ag b p).1.toNat by omega,aa (by simp;omega)]
 ·have e:ac b p l=((false,[],()),0,(ag b p).2.2):=by unfold ac;rw[if_pos h0]
  rw[e,aa (by simpa using h0)]
abbrev iA:Io:=⟨[dL,dI],[],[],[Ra,dI,dI],none⟩
def yw (d:iA.In):Tr iA.Res:=.ret (.ret (((ay d.1.1 d.1.2.1).1,(ay d.1.1 d.1.2.1).2.1,(ay d.1.1 d.1.2.1).2.2,()),()))
abbrev BO:List (Nat×Hc):=[(150,ah cQ wh),(171,ah ji yx),(174,ah nR Kp)]
def Ck:Hd:=bI BO
abbrev cD:Lo:=⟨⟨(.one (.hol (.sl 5 (Ty.int u8)))::.one hI::.any::bx (.one hJ::bk (.one (.onl 206 (Ty.str.prod ((Ty.bool.prod ((Ty.sl 5 (Ty.int u8)).prod Ty.unit)).prod Ty.unit)) 21)::.one hI::.any::ai (ai (ai (ai (bx []))))))),[]⟩,[(.ret,⟨(bx (.one (.onl 206 (Ty.str.prod ((Ty.bool.prod ((Ty.sl 5 (Ty.int u8)).prod Ty.unit)).prod Ty.unit)) 9)::.one hI::.one hI::ai (ai (ai (ai (co (bk []))))))),[]⟩),(.exit 0,⟨(.any::.one hI::co (.one (.onl 206 (Ty.str.prod ((Ty.bool.prod ((Ty.sl 5 (Ty.int u8)).prod Ty.unit)).prod Ty.unit)) 21)::ai (ai (ai (ai (bx (bk []))))))),[]⟩)]⟩
def fW (d:cD.st.den):Tr (ap cD.xs):=
 .ite (decide (d.1.2.2.2.2.1=(0:Int))&&(decide ((0:Int)≤d.1.2.2.1)&&(decide (d.1.2.2.1≤(16:Int))&&decide (d.1.2.2.2.1=([]:List eM)))))
  (.ite (decide ((aA d.1.1 (d.1.2.2.1:Int).toNat [] d.1.2.1).2.2=(0:Int)))
   (.ret (.pan (.ret ((),(((aA d.1.1 (d.1.2.2.1:Int).toNat [] d.1.2.1).2.1,((aA d.1.1 (d.1.2.2.1:Int).toNat [] d.1.2.1).1,())),())))))
   (.ret (.ret ((),(([],(0,((aA d.1.1 (d.1.2.2.1:Int).toNat [] d.1.2.1).2.2,()))),()))))) .no
def pE:Lp:=bQ [(12,aG cD fW)]
def nw {R:Type}(h2:LI)(h3 h4:Int)(h5:List (Ty.str.prod ((Ty.bool.prod ((Ty.sl 5 (Ty.int u8)).prod Ty.unit)).prod Ty.unit)).den)(h6:Int)(next:LI→Int→Int→List (Ty.str.prod ((Ty.bool.prod ((Ty.sl 5 (Ty.int u8)).prod Ty.unit)).prod Ty.unit)).den→Int→Option R)(out:ap cD.xs→Option R):Option R:=bif decide (h6<i64.wrap h4) then bif (ac h2 h3 0).2.2 != 0 then out (.ret ((),(([],(0,((ac h2 h3 0).2.2,()))),()))) else bif !(cx (ac h2 h3 0).1.2.1).2 then out (.ret ((),(([],(0,(6,()))),()))) else bif (ac h2 (ac h2 h3 0).2.1 (-1)).2.2 != 0 then out (.ret ((),(([],(0,((ac h2 (ac h2 h3 0).2.1 (-1)).2.2,()))),()))) else bif decide (h5.length+[((ac h2 h3 0).1.2.1,((ac h2 (ac h2 h3 0).2.1 (-1)).1.1,(ac h2 (ac h2 h3 0).2.1 (-1)).1.2.1,()),())].length≤4294967296) then next (h2) ((ac h2 (ac h2 h3 0).2.1 (-1)).2.1) (h4) (h5++[((ac h2 h3 0).1.2.1,((ac h2 (ac h2 h3 0).2.1 (-1)).1.1,(ac h2 (ac h2 h3 0).2.1 (-1)).1.2.1,()),())]) (i64.wrap (h6+1)) else none else out (.pan (.ret ((),((h3,(h5,())),()))))
def l6 (n:Nat)(h2:LI)(h3 h4:Int)(h5:List (Ty.str.prod ((Ty.bool.prod ((Ty.sl 5 (Ty.int u8)).prod Ty.unit)).prod Ty.unit)).den)(h6:Int):Option (ap cD.xs):=fR tt Ck dr pE 0 Tryz.f172 (bX Tryz.f172 0) n (cD.st.mk' ((h2,(h3,(h4,(h5,(h6,()))))),())) (bC cD.xs)
theorem Dq (n:Nat)(h2:LI)(h3 h4:Int)(h5:List (Ty.str.prod ((Ty.bool.prod ((Ty.sl 5 (Ty.int u8)).prod Ty.unit)).prod Ty.unit)).den)(h6:Int):l6 (n+1) h2 h3 h4 h5 h6=nw h2 h3 h4 h5 h6 (l6 n) some:=by kernel_rfl
theorem EP (b:LI)(n:Int)(hn:0≤n)(hn':n≤16):∀(k m:Nat) (p:Int) (o:List eM) (i:Int),i+m=n→0≤i→m<k→o.length=i.toNat→
  l6 k b p n o i=if (aA b m o p).2.2=0 then some (.pan (.ret ((),(((aA b m o p).2.1,((aA b m o p).1,())),())))) else some (.ret ((),(([],(0,((aA b m o p).2.2,()))),()))):=by
 intro k
 induction k with
 |zero=>intro m p o i h1 h2 h3;omega
 |succ k ih=>
  intro m p o i h1 h2 h3 h4
  rw[Dq]
  unfold nw
  rw[af (n:=n) (by omega) (by omega)]
  cases m with
  |zero=>
   rw[ae (by simp;omega)]
   rw[if_pos (by rfl)]
   first | done | rfl
  |succ m=>
   rw[aa (by simp;omega)]
   by_cases a1:(ac b p 0).2.2=0
   ·rw[ae (by simpa using a1)]
    by_cases a2:(cx (ac b p 0).1.2.1).2=false
    ·have e:aA b (m+1) o p=([],0,6):=by unfold aA;rw[if_neg (by simpa using a1),if_pos a2]
     rw[e,aa (by simpa using a2)]
     first | done | rfl
    ·rw[ae (by simpa using a2)]
     by_cases a3:(ac b (ac b p 0).2.1 (-1)).2.2=0
     ·have e:aA b (m+1) o p=aA b m (o++[((ac b p 0).1.2.1,(ac b (ac b p 0).2.1 (-1)).1,())]) (ac b (ac b p 0).2.1 (-1)).2.1:=by
       rw[aA,if_neg (by simpa using a1),if_neg a2,if_neg (by simpa using a3)]
      rw[e,ae (by simpa using a3),aa (by simp;omega),af (n:=i+1) (by omega) (by omega)]
      exact ih m _ _ (i+1) (by omega) (by omega) (by omega) (by simp;omega)
     ·have e:aA b (m+1) o p=([],0,(ac b (ac b p 0).2.1 (-1)).2.2):=by rw[aA,if_neg (by simpa using a1),if_neg a2,if_pos a3]
      rw[e,aa (by simpa using a3),if_neg a3]
   ·have e:aA b (m+1) o p=([],0,(ac b p 0).2.2):=by rw[aA,if_pos a1]
    rw[e,aa (by simpa using a1),if_neg a1]
def tQ (a0:LI)(a1:Int):Option iA.Res:=bif (ab 5 15 a0 a1).2.2 != 0 then oR (([],0,(ab 5 15 a0 a1).2.2,()),()) else bif decide (i32.wrap (ak (ab 5 15 a0 a1).1)<0) then oR (([],0,5,()),()) else bif decide (16<i32.wrap (ak (ab 5 15 a0 a1).1)) then oR (([],0,9,()),()) else (fW ((a0,((ab 5 15 a0 a1).2.1,(i32.wrap (ak (ab 5 15 a0 a1).1),([],(0,()))))),())).run fun y=>match y with | .ret ((),((x23,x24,x25,()),()))=>(oR ((x23,x24,x25,()),())) | .pan (.ret ((),((x26,x27,()),())))=>(oR ((x27,x26,0,()),()))
theorem Js (a0:LI)(a1:Int):Io.run tt Ck dr pE iA Tryz.f172 ((a0,a1,()),())=tQ a0 a1:=by kernel_rfl
theorem uq:HcsOk prog BO:=.cons Aq (.cons H4 (.cons RW .nil))
theorem MS:HcOk prog 172 (ah iA yw):=by
 refine bY uq (lp:=pE) (fn:=Tryz.f172) iA
  (.step (h0:=aG cD fW) (by kernel_rfl) (f9 uq (lp:=pE) (fn:=Tryz.f172) (.done (by kernel_rfl)) cD fW ?_) (.done (by kernel_rfl))) yw ?_
 ·rintro ⟨⟨(b:LI),(p:Int),(n:Int),(o:List eM),(i:Int),⟨⟩⟩,⟨⟩⟩ y hw hy
  obtain ⟨hg,hy⟩:=Tr.guard hy
  simp only[zA,zB] at hg
  obtain ⟨hi,h0,h16,ho⟩:=hg
  have hi:i=0:=hi
  have h0:0≤n:=h0
  have h16:n≤16:=h16
  have ho:o=[]:=ho
  subst hi ho
  refine ⟨n.toNat+1,(EP b n h0 h16 _ n.toNat p [] 0 (by omega) (by omega) (by omega) rfl).trans ?_⟩
  rw[← hy]
  simp only[Tr.val_ite,zB,Tr.val_ret]
 ·rintro ⟨⟨(b:LI),(p:Int),⟨⟩⟩,⟨⟩⟩ out hw ho
  cases ho
  refine (Js b p).trans ?_
  show _=oR (((ay b p).1,(ay b p).2.1,(ay b p).2.2,()),())
  have hr:=@cS b p
  unfold tQ
  by_cases h0:(ag b p).2.2=0
  ·have h0':(ab 5 15 b p).2.2=0:=h0
   rw[ae (by simpa using h0')]
   change (bif decide ((ag b p).1<0) then _ else bif decide (16<(ag b p).1) then _ else (fW ((b,((ag b p).2.1,((ag b p).1,([],(0,()))))),())).run _)=_
   by_cases h1:(ag b p).1<0
   ·have e:ay b p=([],0,5):=by unfold ay;rw[if_neg (by simpa using h0),if_pos h1]
    rw[e,aa (by simpa using h1)]
    first | done | rfl
   ·rw[ae (by simpa using h1)]
    by_cases h2:16<(ag b p).1
    ·have e:ay b p=([],0,9):=by unfold ay;rw[if_neg (by simpa using h0),if_neg h1,if_pos h2]
     rw[e,aa (by simpa using h2)]
     first | done | rfl
    ·have e:ay b p=aA b (ag b p).1.toNat [] (ag b p).2.1:=by unfold ay;rw[if_neg (by simpa using h0),if_neg h1,if_neg h2]
     rw[e,ae (by simpa using h2)]
     unfold fW
     simp only[Tr.run_ite,Tr.run_ret]
     have hg:(decide True&&(decide ((0:Int)≤(ag b p).1)&&(decide ((ag b p).1≤(16:Int))&&decide True)))=true:=by
      simp only[zA,zB]
      exact ⟨trivial,by omega,by omega,trivial⟩
     rw[if_pos hg]
     by_cases h3:(aA b (ag b p).1.toNat [] (ag b p).2.1).2.2=0
     ·rw[if_pos (by simpa using h3),h3]
     ·obtain ⟨e1,e2⟩:=p4 b _ _ _ h3
      rw[if_neg (by simpa using h3),e1,e2]
  ·have h0':(ab 5 15 b p).2.2≠0:=h0
   have e:ay b p=([],0,(ab 5 15 b p).2.2):=by unfold ay;rw[if_pos h0];rfl
   rw[e,aa (by simpa using h0')]
abbrev nV:Io:=⟨[dL],[],[],[BX,dI],none⟩
def Kr (d:nV.In):Tr nV.Res:=.ret (.ret (((aX d.1.1).1,(aX d.1.1).2,()),()))
abbrev K2:List (Nat×Hc):=[(113,ah iy yr),(150,ah cQ wh),(171,ah ji yx),(172,ah iA yw)]
def RA:Hd:=bI K2
def Mk:Lp:=bQ []
def Bp (a0:LI):Option nV.Res:=bif (↑a0.length:Int) == 0 then oR (((0,0,(false,[],()),(false,[],()),[],()),1,()),()) else bif decide (0≤0)&&decide (0<(↑a0.length:Int)) then bif a0.getD (Int.toNat 0) 0 != 0 then oR (((0,0,(false,[],()),(false,[],()),[],()),71,()),()) else bif (ab 10 1 a0 1).2.2 != 0 then oR (((0,0,(false,[],()),(false,[],()),[],()),(ab 10 1 a0 1).2.2,()),()) else bif (ab 5 15 a0 (ab 10 1 a0 1).2.1).2.2 != 0 then oR (((0,0,(false,[],()),(false,[],()),[],()),(ab 5 15 a0 (ab 10 1 a0 1).2.1).2.2,()),()) else bif decide (i32.wrap (ak (ab 5 15 a0 (ab 10 1 a0 1).2.1).1)<0) then oR (((0,0,(false,[],()),(false,[],()),[],()),72,()),()) else bif (ac a0 (ab 5 15 a0 (ab 10 1 a0 1).2.1).2.1 (-1)).2.2 != 0 then oR (((0,0,(false,[],()),(false,[],()),[],()),(ac a0 (ab 5 15 a0 (ab 10 1 a0 1).2.1).2.1 (-1)).2.2,()),()) else bif (ac a0 (ac a0 (ab 5 15 a0 (ab 10 1 a0 1).2.1).2.1 (-1)).2.1 (-1)).2.2 != 0 then oR (((0,0,(false,[],()),(false,[],()),[],()),(ac a0 (ac a0 (ab 5 15 a0 (ab 10 1 a0 1).2.1).2.1 (-1)).2.1 (-1)).2.2,()),()) else bif (ay a0 (ac a0 (ac a0 (ab 5 15 a0 (ab 10 1 a0 1).2.1).2.1 (-1)).2.1 (-1)).2.1).2.2 != 0 then oR (((0,0,(false,[],()),(false,[],()),[],()),(ay a0 (ac a0 (ac a0 (ab 5 15 a0 (ab 10 1 a0 1).2.1).2.1 (-1)).2.1 (-1)).2.1).2.2,()),()) else bif decide ((ay a0 (ac a0 (ac a0 (ab 5 15 a0 (ab 10 1 a0 1).2.1).2.1 (-1)).2.1 (-1)).2.1).2.1<(↑a0.length:Int)) then oR (((0,0,(false,[],()),(false,[],()),[],()),2,()),()) else oR (((ak (ab 10 1 a0 1).1,i32.wrap (ak (ab 5 15 a0 (ab 10 1 a0 1).2.1).1),((ac a0 (ab 5 15 a0 (ab 10 1 a0 1).2.1).2.1 (-1)).1.1,(ac a0 (ab 5 15 a0 (ab 10 1 a0 1).2.1).2.1 (-1)).1.2.1,()),((ac a0 (ac a0 (ab 5 15 a0 (ab 10 1 a0 1).2.1).2.1 (-1)).2.1 (-1)).1.1,(ac a0 (ac a0 (ab 5 15 a0 (ab 10 1 a0 1).2.1).2.1 (-1)).2.1 (-1)).1.2.1,()),(ay a0 (ac a0 (ac a0 (ab 5 15 a0 (ab 10 1 a0 1).2.1).2.1 (-1)).2.1 (-1)).2.1).1,()),0,()),()) else none
theorem Qp (a0:LI):Io.run tt RA dr Mk nV Tryz.f151 ((a0,()),())=Bp a0:=by kernel_rfl
theorem RY:HcOk prog 151 (ah nV Kr):=by
 refine bY (cs:=K2) (.cons H1 (.cons Aq (.cons H4 (.cons MS .nil)))) (lp:=Mk) (fn:=Tryz.f151) nV (.done (by kernel_rfl)) Kr ?_
 rintro ⟨⟨(b:LI),⟨⟩⟩,⟨⟩⟩ out hw ho
 cases ho
 refine (Qp b).trans ?_
 show _=oR (((aX b).1,(aX b).2,()),())
 unfold Bp
 by_cases h0:b.length=0
 ·have e:aX b=(aL,1):=by unfold aX;rw[if_pos h0]
  rw[e,aa (by simp[h0])]
  first | done | rfl
 rw[ae (beq_false_of_ne (by omega)),aa (by rw[zA,zB,zB];omega)]
 by_cases h1:b.getD 0 0=0
 rotate_left
 ·have e:aX b=(aL,71):=by unfold aX;rw[if_neg h0,if_pos h1]
  have h1':b.getD (Int.toNat 0) 0≠0:=h1
  rw[e,aa (by simpa using h1')]
  first | done | rfl
 have h1':b.getD (Int.toNat 0) 0=0:=h1
 rw[ae (by simpa using h1')]
 by_cases h2:(ab 10 1 b 1).2.2=0
 rotate_left
 ·have e:aX b=(aL,(ab 10 1 b 1).2.2):=by unfold aX;rw[if_neg h0,if_neg (by simpa using h1),if_pos h2]
  rw[e,aa (by simpa using h2)]
  first | done | rfl
 rw[ae (by simpa using h2)]
 generalize hq1:(ab 10 1 b 1).2.1=q1
 change (bif (ag b q1).2.2 != 0 then oR ((aL,(ag b q1).2.2,()),()) else bif decide ((ag b q1).1<0) then oR ((aL,72,()),()) else bif (ac b (ag b q1).2.1 (-1)).2.2 != 0 then oR ((aL,(ac b (ag b q1).2.1 (-1)).2.2,()),()) else
  bif (ac b (ac b (ag b q1).2.1 (-1)).2.1 (-1)).2.2 != 0 then oR ((aL,(ac b (ac b (ag b q1).2.1 (-1)).2.1 (-1)).2.2,()),()) else
  bif (ay b (ac b (ac b (ag b q1).2.1 (-1)).2.1 (-1)).2.1).2.2 != 0 then oR ((aL,(ay b (ac b (ac b (ag b q1).2.1 (-1)).2.1 (-1)).2.1).2.2,()),()) else
  bif decide ((ay b (ac b (ac b (ag b q1).2.1 (-1)).2.1 (-1)).2.1).2.1<(b.length:Int)) then oR ((aL,2,()),()) else
  oR (((ak (ab 10 1 b 1).1,(ag b q1).1,(ac b (ag b q1).2.1 (-1)).1,(ac b (ac b (ag b q1).2.1 (-1)).2.1 (-1)).1,(ay b (ac b (ac b (ag b q1).2.1 (-1)).2.1 (-1)).2.1).1,()),0,()),()))=_
 have e:aX b=if (ag b q1).2.2≠0 then (aL,(ag b q1).2.2) else if (ag b q1).1<0 then (aL,72) else if (ac b (ag b q1).2.1 (-1)).2.2≠0 then (aL,(ac b (ag b q1).2.1 (-1)).2.2) else
  if (ac b (ac b (ag b q1).2.1 (-1)).2.1 (-1)).2.2≠0 then (aL,(ac b (ac b (ag b q1).2.1 (-1)).2.1 (-1)).2.2) else
  if (ay b (ac b (ac b (ag b q1).2.1 (-1)).2.1 (-1)).2.1).2.2≠0 then (aL,(ay b (ac b (ac b (ag b q1).2.1 (-1)).2.1 (-1)).2.1).2.2) else
  if (ay b (ac b (ac b (ag b q1).2.1 (-1)).2.1 (-1)).2.1).2.1<(b.length:Int) then (aL,2) else
  ((ak (ab 10 1 b 1).1,(ag b q1).1,(ac b (ag b q1).2.1 (-1)).1,(ac b (ac b (ag b q1).2.1 (-1)).2.1 (-1)).1,(ay b (ac b (ac b (ag b q1).2.1 (-1)).2.1 (-1)).2.1).1,()),0):=by
  unfold aX;rw[if_neg h0,if_neg (by simpa using h1),if_neg (by simpa using h2),hq1]
 rw[e]
 generalize ag b q1=n1
 generalize ac b n1.2.1 (-1)=n2
 generalize ac b n2.2.1 (-1)=n3
 generalize ay b n3.2.1=n4
 simp only[cond_eq_ite,bne_iff_ne,zB]
 split
 ·rfl
 split
 ·rfl
 split
 ·rfl
 split
 ·rfl
 split
 ·rfl
 split
 ·rfl
 first | done | rfl
abbrev kC:Io:=⟨[dL,dI],[],[],[BX,dI,dI],none⟩
def D2 (d:kC.In):Tr kC.Res:=.ret (.ret (((am d.1.1 d.1.2.1).1,(am d.1.1 d.1.2.1).2.1,(am d.1.1 d.1.2.1).2.2,()),()))
abbrev Gv:List (Nat×Hc):=[(150,ah cQ wh),(151,ah nV Kr)]
def Pa:Hd:=bI Gv
def Hy:Lp:=bQ []
def wK (a0:LI)(a1:Int):Option kC.Res:=bif (ab 5 15 a0 a1).2.2 != 0 then oR (((0,0,(false,[],()),(false,[],()),[],()),0,(ab 5 15 a0 a1).2.2,()),()) else bif decide (i32.wrap (ak (ab 5 15 a0 a1).1)<0) then oR (((0,0,(false,[],()),(false,[],()),[],()),0,5,()),()) else bif decide (16384<i32.wrap (ak (ab 5 15 a0 a1).1)) then oR (((0,0,(false,[],()),(false,[],()),[],()),0,4,()),()) else bif decide (i64.wrap ((↑a0.length:Int) - (ab 5 15 a0 a1).2.1)<i64.wrap (i32.wrap (ak (ab 5 15 a0 a1).1))) then oR (((0,0,(false,[],()),(false,[],()),[],()),0,1,()),()) else bif decide (0≤(ab 5 15 a0 a1).2.1)&&(decide ((ab 5 15 a0 a1).2.1≤i64.wrap ((ab 5 15 a0 a1).2.1+i64.wrap (i32.wrap (ak (ab 5 15 a0 a1).1))))&&decide (i64.wrap ((ab 5 15 a0 a1).2.1+i64.wrap (i32.wrap (ak (ab 5 15 a0 a1).1)))≤(↑a0.length:Int))) then bif (aX (List.drop (ab 5 15 a0 a1).2.1.toNat (List.take (i64.wrap ((ab 5 15 a0 a1).2.1+i64.wrap (i32.wrap (ak (ab 5 15 a0 a1).1)))).toNat a0))).2 != 0 then oR (((0,0,(false,[],()),(false,[],()),[],()),0,(aX (List.drop (ab 5 15 a0 a1).2.1.toNat (List.take (i64.wrap ((ab 5 15 a0 a1).2.1+i64.wrap (i32.wrap (ak (ab 5 15 a0 a1).1)))).toNat a0))).2,()),()) else oR ((((aX (List.drop (ab 5 15 a0 a1).2.1.toNat (List.take (i64.wrap ((ab 5 15 a0 a1).2.1+i64.wrap (i32.wrap (ak (ab 5 15 a0 a1).1)))).toNat a0))).1.1,(aX (List.drop (ab 5 15 a0 a1).2.1.toNat (List.take (i64.wrap ((ab 5 15 a0 a1).2.1+i64.wrap (i32.wrap (ak (ab 5 15 a0 a1).1)))).toNat a0))).1.2.1,((aX (List.drop (ab 5 15 a0 a1).2.1.toNat (List.take (i64.wrap ((ab 5 15 a0 a1).2.1+i64.wrap (i32.wrap (ak (ab 5 15 a0 a1).1)))).toNat a0))).1.2.2.1.1,(aX (List.drop (ab 5 15 a0 a1).2.1.toNat (List.take (i64.wrap ((ab 5 15 a0 a1).2.1+i64.wrap (i32.wrap (ak (ab 5 15 a0 a1).1)))).toNat a0))).1.2.2.1.2.1,()),((aX (List.drop (ab 5 15 a0 a1).2.1.toNat (List.take (i64.wrap ((ab 5 15 a0 a1).2.1+i64.wrap (i32.wrap (ak (ab 5 15 a0 a1).1)))).toNat a0))).1.2.2.2.1.1,(aX (List.drop (ab 5 15 a0 a1).2.1.toNat (List.take (i64.wrap ((ab 5 15 a0 a1).2.1+i64.wrap (i32.wrap (ak (ab 5 15 a0 a1).1)))).toNat a0))).1.2.2.2.1.2.1,()),(aX (List.drop (ab 5 15 a0 a1).2.1.toNat (List.take (i64.wrap ((ab 5 15 a0 a1).2.1+i64.wrap (i32.wrap (ak (ab 5 15 a0 a1).1)))).toNat a0))).1.2.2.2.2.1,()),i64.wrap ((ab 5 15 a0 a1).2.1+i64.wrap (i32.wrap (ak (ab 5 15 a0 a1).1))),0,()),()) else none
theorem Nq (a0:LI)(a1:Int):Io.run tt Pa dr Hy kC Tryz.f115 ((a0,a1,()),())=wK a0 a1:=by kernel_rfl
theorem PL:HcOk prog 115 (ah kC D2):=by
 refine bY (cs:=Gv) (.cons Aq (.cons RY .nil)) (lp:=Hy) (fn:=Tryz.f115) kC (.done (by kernel_rfl)) D2 ?_
 rintro ⟨⟨(b:LI),(p:Int),⟨⟩⟩,⟨⟩⟩ out hw ho
 cases ho
 refine (Nq b p).trans ?_
 have hb:b.length≤maxLen:=hw.1.1.1
 rw[aP] at hb
 show _=oR (((am b p).1,(am b p).2.1,(am b p).2.2,()),())
 have hr:=@cS b p
 unfold wK
 by_cases h0:(ag b p).2.2=0
 rotate_left
 ·have h0':(ab 5 15 b p).2.2≠0:=h0
  have e:am b p=(aL,0,(ab 5 15 b p).2.2):=by unfold am;rw[if_pos h0];rfl
  rw[e,aa (by simpa using h0')]
  first | done | rfl
 have hk:=dW h0
 have h0':(ab 5 15 b p).2.2=0:=h0
 rw[ae (by simpa using h0')]
 generalize hq:(ab 5 15 b p).2.1=q
 generalize hn:IntKind.wrap .i32 (ak (ab 5 15 b p).1)=n
 have hq:(ag b p).2.1=q:=hq
 have hn:(ag b p).1=n:=hn
 have e0:am b p=if n<0 then (aL,0,5) else if 16384<n then (aL,0,4) else if (b.length:Int) - q<n then (aL,0,1)
   else if (aX ((b.drop q.toNat).take n.toNat)).2≠0 then (aL,0,(aX ((b.drop q.toNat).take n.toNat)).2)
   else ((aX ((b.drop q.toNat).take n.toNat)).1,q+n,0):=by unfold am;rw[if_neg (by simpa using h0),hq,hn]
 rw[e0]
 rw[hq] at hk
 rw[hn] at hr
 by_cases h1:n<0
 ·rw[aa (by simpa using h1),if_pos h1]
  first | done | rfl
 rw[ae (by simpa using h1),if_neg h1]
 by_cases h2:16384<n
 ·rw[aa (by simpa using h2),if_pos h2]
  first | done | rfl
 rw[ae (by simpa using h2),if_neg h2,af (n:=(b.length:Int) - q) (by omega) (by omega),af (n:=n) (by omega) (by omega)]
 by_cases h3:(b.length:Int) - q<n
 ·rw[aa (by simpa using h3),if_pos h3]
  first | done | rfl
 rw[ae (by simpa using h3),if_neg h3,af (n:=q+n) (by omega) (by omega),aa (by simp;omega),List.drop_take,show (q+n).toNat - q.toNat=n.toNat by omega]
 generalize aX ((b.drop q.toNat).take n.toNat)=r
 simp only[cond_eq_ite,bne_iff_ne,zB]
 split
 ·rfl
 ·rfl
abbrev St:Ty:=.prod (.int .i64) .unit
abbrev qS:Option (Nat×Ty):=some (169,St)
abbrev SI:List Sh:=[dL,dI]
abbrev fj:Io:=⟨[.ptr 0 0],[SI],[],[dI],qS⟩
def lE (d:fj.In):Tr fj.Res:=
 .ite (decide ((ag d.2.1.1 d.2.1.2.1).2.2=0)) (.ret (.ret (((ag d.2.1.1 d.2.1.2.1).1,()),((d.2.1.1,((ag d.2.1.1 d.2.1.2.1).2.1,())),())))) (.ret (.pan ((ag d.2.1.1 d.2.1.2.1).2.2,())))
abbrev xe:List (Nat×Hc):=[(111,ah gn sy)]
def IN:Hd:=bI xe
def xE:Lp:=bQ []
def rn (a0:LI)(a1:Int):Option fj.Res:=bif (ab 5 15 a0 a1).2.2 != 0 then some (Out.pan ((ab 5 15 a0 a1).2.2,())) else oR ((i64.wrap (i32.wrap (ak (ab 5 15 a0 a1).1)),()),(a0,(ab 5 15 a0 a1).2.1,()),())
theorem E7 (a0:LI)(a1:Int):Io.run tt IN dr xE fj Tryz.f140 (((),()),(a0,a1,()),())=rn a0 a1:=by kernel_rfl
theorem xN:HcOk prog 140 (ah fj lE):=by
 refine bY (cs:=xe) (.cons C5 .nil) (lp:=xE) (fn:=Tryz.f140) fj (.done (by kernel_rfl)) lE ?_
 rintro ⟨⟨⟨⟩,⟨⟩⟩,⟨⟨(b:LI),(p:Int),⟨⟩⟩,⟨⟩⟩⟩ out hw ho
 refine (E7 b p).trans ?_
 rw[← ho]
 have hr:=@cS b p
 unfold rn lE
 change (bif (ag b p).2.2 != 0 then some (Out.pan ((ag b p).2.2,())) else oR ((i64.wrap (ag b p).1,()),(b,(ag b p).2.1,()),()))=_
 rw[af (n:=(ag b p).1) (by omega) (by omega)]
 simp only[Tr.val_ite,Tr.val_ret,zB]
 by_cases h:(ag b p).2.2=0
 ·rw[ae (by simpa using h),if_pos h]
 ·rw[aa (by simpa using h),if_neg h]
abbrev gN:Io:=⟨[.ptr 0 0,dI],[SI],[],[dO],qS⟩
def tp (d:gN.In):Tr gN.Res:=
 .ite (decide ((0:Int)≤d.1.2.1)&&(decide (d.1.2.1≤(4294967296:Int))&&(decide ((0:Int)≤d.2.1.2.1)&&decide (d.2.1.2.1≤(d.2.1.1.length:Int)))))
  (.ite (decide ((d.2.1.1.length:Int) - d.2.1.2.1<d.1.2.1)) (.ret (.pan (1,()))) (.ret (.ret (((d.2.1.1.drop d.2.1.2.1.toNat).take d.1.2.1.toNat,()),((d.2.1.1,((d.2.1.2.1:Int)+d.1.2.1,())),()))))) .no
abbrev Gp:List (Nat×Hc):=[(47,ah dR mE)]
def O4:Hd:=bI Gp
def Hs:Lp:=bQ []
def wD (a0:Int)(a1:LI)(a2:Int):Option gN.Res:=bif decide (i64.wrap ((↑a1.length:Int) - a2)<a0) then some (Out.pan (1,())) else bif decide (0≤i64.wrap (i64.wrap (a2+a0) - a0))&&(decide (i64.wrap (i64.wrap (a2+a0) - a0)≤i64.wrap (a2+a0))&&decide (i64.wrap (a2+a0)≤(↑a1.length:Int))) then bif decide ((List.drop (i64.wrap (i64.wrap (a2+a0) - a0)).toNat (List.take (i64.wrap (a2+a0)).toNat a1)).length≤4294967296) then oR ((List.drop (i64.wrap (i64.wrap (a2+a0) - a0)).toNat (List.take (i64.wrap (a2+a0)).toNat a1),()),(a1,i64.wrap (a2+a0),()),()) else none else none
theorem Nj (a0:Int)(a1:LI)(a2:Int):Io.run tt O4 dr Hs gN Tryz.f139 (((),a0,()),(a1,a2,()),())=wD a0 a1 a2:=by kernel_rfl
theorem Ap:HcOk prog 139 (ah gN tp):=by
 refine bY (cs:=Gp) (.cons pS .nil) (lp:=Hs) (fn:=Tryz.f139) gN (.done (by kernel_rfl)) tp ?_
 rintro ⟨⟨⟨⟩,(n:Int),⟨⟩⟩,⟨⟨(b:LI),(p:Int),⟨⟩⟩,⟨⟩⟩⟩ out hw ho
 obtain ⟨hg,ho⟩:=Tr.guard ho
 simp only[zA,zB] at hg
 have h0:0≤n:=hg.1
 have h1:n≤4294967296:=hg.2.1
 have h2:0≤p:=hg.2.2.1
 have h3:p≤b.length:=hg.2.2.2
 refine (Nj n b p).trans ?_
 rw[← ho]
 have hb:b.length≤maxLen:=hw.2.1.1.1
 rw[aP] at hb
 unfold wD
 rw[af (n:=(b.length:Int) - p) (by omega) (by omega)]
 simp only[Tr.val_ite,Tr.val_ret,zB]
 by_cases h:(b.length:Int) - p<n
 ·rw[aa (by simpa using h),if_pos h]
 ·rw[ae (by simpa using h),if_neg h,af (n:=p+n) (by omega) (by omega),show p+n - n=p by omega,af (n:=p) (by omega) (by omega)]
  rw[aa (by simp;omega),List.drop_take,show (p+n).toNat - p.toNat=n.toNat by omega,aa (by simp;omega)]
abbrev fx:Io:=⟨[.ptr 0 0,dI],[SI],[],[dI],qS⟩
def mD (d:fx.In):Tr fx.Res:=
 .ite (decide ((ag d.2.1.1 d.2.1.2.1).2.2=0)) (.ite (decide ((ag d.2.1.1 d.2.1.2.1).1<d.1.2.1)) (.ret (.pan (5,()))) (.ret (.ret (((ag d.2.1.1 d.2.1.2.1).1,()),((d.2.1.1,((ag d.2.1.1 d.2.1.2.1).2.1,())),())))))
  (.ret (.pan ((ag d.2.1.1 d.2.1.2.1).2.2,())))
abbrev BI:List (Nat×Hc):=[(140,ah fj lE)]
def LJ:Hd:=bI BI
def CV:Lp:=bQ []
def tK (a0:Int)(a1:LI)(a2:Int):Option fx.Res:=bif decide ((ab 5 15 a1 a2).2.2=0) then bif decide (i32.wrap (ak (ab 5 15 a1 a2).1)<a0) then some (Out.pan (5,())) else oR ((i32.wrap (ak (ab 5 15 a1 a2).1),()),(a1,(ab 5 15 a1 a2).2.1,()),()) else some (Out.pan ((ab 5 15 a1 a2).2.2,()))
theorem Jl (a0:Int)(a1:LI)(a2:Int):Io.run tt LJ dr CV fx Tryz.f142 (((),a0,()),(a1,a2,()),())=tK a0 a1 a2:=by kernel_rfl
theorem uV:HcOk prog 142 (ah fx mD):=by
 refine bY (cs:=BI) (.cons xN .nil) (lp:=CV) (fn:=Tryz.f142) fx (.done (by kernel_rfl)) mD ?_
 rintro ⟨⟨⟨⟩,(l:Int),⟨⟩⟩,⟨⟨(b:LI),(p:Int),⟨⟩⟩,⟨⟩⟩⟩ out hw ho
 refine (Jl l b p).trans ?_
 rw[← ho]
 unfold tK mD
 change (bif decide ((ag b p).2.2=0) then bif decide ((ag b p).1<l) then some (Out.pan (5,())) else oR (((ag b p).1,()),(b,(ag b p).2.1,()),()) else some (Out.pan ((ag b p).2.2,())))=_
 simp only[Tr.val_ite,Tr.val_ret,cond_eq_ite]
abbrev jd:Io:=⟨[.ptr 0 0],[SI],[],[GQ],qS⟩
def tn (d:jd.In):Tr jd.Res:=
 .ite (decide ((ac d.2.1.1 d.2.1.2.1 (-1)).2.2=0)) (.ret (.ret (((ac d.2.1.1 d.2.1.2.1 (-1)).1,()),((d.2.1.1,((ac d.2.1.1 d.2.1.2.1 (-1)).2.1,())),())))) (.ret (.pan ((ac d.2.1.1 d.2.1.2.1 (-1)).2.2,())))
abbrev Gn:List (Nat×Hc):=[(142,ah fx mD),(139,ah gN tp)]
def O3:Hd:=bI Gn
def Hr:Lp:=bQ []
def wB (a0:LI)(a1:Int):Option jd.Res:=bif decide ((ab 5 15 a0 a1).2.2=0) then bif decide (i32.wrap (ak (ab 5 15 a0 a1).1) < -1) then some (Out.pan (5,())) else bif decide (i32.wrap (ak (ab 5 15 a0 a1).1)<0) then oR (((true,[],()),()),(a0,(ab 5 15 a0 a1).2.1,()),()) else bif decide (0≤i32.wrap (ak (ab 5 15 a0 a1).1))&&(decide (i32.wrap (ak (ab 5 15 a0 a1).1)≤4294967296)&&(decide (0≤(ab 5 15 a0 a1).2.1)&&decide ((ab 5 15 a0 a1).2.1≤(↑a0.length:Int)))) then bif decide ((↑a0.length:Int) - (ab 5 15 a0 a1).2.1<i32.wrap (ak (ab 5 15 a0 a1).1)) then some (Out.pan (1,())) else oR (((false,List.take (i32.wrap (ak (ab 5 15 a0 a1).1)).toNat (List.drop (ab 5 15 a0 a1).2.1.toNat a0),()),()),(a0,(ab 5 15 a0 a1).2.1+i32.wrap (ak (ab 5 15 a0 a1).1),()),()) else none else some (Out.pan ((ab 5 15 a0 a1).2.2,()))
theorem Nh (a0:LI)(a1:Int):Io.run tt O3 dr Hr jd Tryz.f141 (((),()),(a0,a1,()),())=wB a0 a1:=by kernel_rfl
theorem HZ:HcOk prog 141 (ah jd tn):=by
 refine bY (cs:=Gn) (.cons uV (.cons Ap .nil)) (lp:=Hr) (fn:=Tryz.f141) jd (.done (by kernel_rfl)) tn ?_
 rintro ⟨⟨⟨⟩,⟨⟩⟩,⟨⟨(b:LI),(p:Int),⟨⟩⟩,⟨⟩⟩⟩ out hw ho
 refine (Nh b p).trans ?_
 rw[← ho]
 have hr:=@cS b p
 unfold wB tn
 simp only[Tr.val_ite,Tr.val_ret,zB]
 change (bif decide ((ag b p).2.2=0) then bif decide ((ag b p).1 < -1) then some (Out.pan (5,())) else bif decide ((ag b p).1<0) then oR (((true,[],()),()),(b,(ag b p).2.1,()),()) else
  bif decide (0≤(ag b p).1)&&(decide ((ag b p).1≤4294967296)&&(decide (0≤(ag b p).2.1)&&decide ((ag b p).2.1≤(b.length:Int)))) then bif decide ((b.length:Int) - (ag b p).2.1<(ag b p).1) then some (Out.pan (1,())) else
   oR (((false,List.take (ag b p).1.toNat (List.drop (ag b p).2.1.toNat b),()),()),(b,(ag b p).2.1+(ag b p).1,()),()) else none else some (Out.pan ((ag b p).2.2,())))=_
 by_cases h0:(ag b p).2.2=0
 rotate_left
 ·have e:ac b p (-1)=((false,[],()),0,(ag b p).2.2):=by unfold ac;rw[if_pos h0]
  rw[e,ae (by simpa using h0),if_neg h0]
 have hk:=dW h0
 rw[aa (by simpa using h0)]
 by_cases h1:(ag b p).1 < -1
 ·have e:ac b p (-1)=((false,[],()),0,5):=by unfold ac;rw[if_neg (by simpa using h0),if_pos h1]
  rw[e,aa (by simpa using h1)]
  rfl
 rw[ae (by simpa using h1)]
 by_cases h2:(ag b p).1<0
 ·have e:ac b p (-1)=((true,[],()),(ag b p).2.1,0):=by unfold ac;rw[if_neg (by simpa using h0),if_neg h1,if_pos h2]
  rw[e,aa (by simpa using h2)]
  rfl
 rw[ae (by simpa using h2),aa (by simp;omega)]
 by_cases h3:(b.length:Int) - (ag b p).2.1<(ag b p).1
 ·have e:ac b p (-1)=((false,[],()),0,1):=by unfold ac;rw[if_neg (by simpa using h0),if_neg h1,if_neg h2,if_pos h3]
  rw[e,aa (by simpa using h3)]
  rfl
 ·have e:ac b p (-1)=((false,(b.drop (ag b p).2.1.toNat).take (ag b p).1.toNat,()),(ag b p).2.1+(ag b p).1,0):=by unfold ac;rw[if_neg (by simpa using h0),if_neg h1,if_neg h2,if_neg h3]
  rw[e,ae (by simpa using h3)]
  rfl
def bd (b:LI)(p:Int):eM×Int×Int:=
 if (ac b p 0).2.2≠0 then (([],(false,[],()),()),0,(ac b p 0).2.2)
 else if (cx (ac b p 0).1.2.1).2=false then (([],(false,[],()),()),0,6)
 else (((ac b p 0).1.2.1,(ac b (ac b p 0).2.1 (-1)).1,()),(ac b (ac b p 0).2.1 (-1)).2.1,(ac b (ac b p 0).2.1 (-1)).2.2)
abbrev SW:Sh:=.dat fV true false
abbrev fY:Io:=⟨[.ptr 0 0],[SI],[],[SW],qS⟩
def oU (d:fY.In):Tr fY.Res:=
 .ite (decide ((bd d.2.1.1 d.2.1.2.1).2.2=0)) (.ret (.ret (((bd d.2.1.1 d.2.1.2.1).1,()),((d.2.1.1,((bd d.2.1.1 d.2.1.2.1).2.1,())),())))) (.ret (.pan ((bd d.2.1.1 d.2.1.2.1).2.2,())))
abbrev xd:List (Nat×Hc):=[(142,ah fx mD),(139,ah gN tp),(170,ah lU FX),(141,ah jd tn)]
def IM:Hd:=bI xd
def xD:Lp:=bQ []
def rl (a0:LI)(a1:Int):Option fY.Res:=bif decide ((ab 5 15 a0 a1).2.2=0) then bif decide (i32.wrap (ak (ab 5 15 a0 a1).1)<0) then some (Out.pan (5,())) else bif decide (0≤i32.wrap (ak (ab 5 15 a0 a1).1))&&(decide (i32.wrap (ak (ab 5 15 a0 a1).1)≤4294967296)&&(decide (0≤(ab 5 15 a0 a1).2.1)&&decide ((ab 5 15 a0 a1).2.1≤(↑a0.length:Int)))) then bif decide ((↑a0.length:Int) - (ab 5 15 a0 a1).2.1<i32.wrap (ak (ab 5 15 a0 a1).1)) then some (Out.pan (1,())) else bif !(cx (List.take (i32.wrap (ak (ab 5 15 a0 a1).1)).toNat (List.drop (ab 5 15 a0 a1).2.1.toNat a0))).2 then some (Out.pan (6,())) else bif decide ((ac a0 ((ab 5 15 a0 a1).2.1+i32.wrap (ak (ab 5 15 a0 a1).1)) (-1)).2.2=0) then oR (((List.take (i32.wrap (ak (ab 5 15 a0 a1).1)).toNat (List.drop (ab 5 15 a0 a1).2.1.toNat a0),((ac a0 ((ab 5 15 a0 a1).2.1+i32.wrap (ak (ab 5 15 a0 a1).1)) (-1)).1.1,(ac a0 ((ab 5 15 a0 a1).2.1+i32.wrap (ak (ab 5 15 a0 a1).1)) (-1)).1.2.1,()),()),()),(a0,(ac a0 ((ab 5 15 a0 a1).2.1+i32.wrap (ak (ab 5 15 a0 a1).1)) (-1)).2.1,()),()) else some (Out.pan ((ac a0 ((ab 5 15 a0 a1).2.1+i32.wrap (ak (ab 5 15 a0 a1).1)) (-1)).2.2,())) else none else some (Out.pan ((ab 5 15 a0 a1).2.2,()))
theorem E6 (a0:LI)(a1:Int):Io.run tt IM dr xD fY Tryz.f143 (((),()),(a0,a1,()),())=rl a0 a1:=by kernel_rfl
theorem I5:HcOk prog 143 (ah fY oU):=by
 refine bY (cs:=xd) (.cons uV (.cons Ap (.cons MM (.cons HZ .nil)))) (lp:=xD) (fn:=Tryz.f143) fY (.done (by kernel_rfl)) oU ?_
 rintro ⟨⟨⟨⟩,⟨⟩⟩,⟨⟨(b:LI),(p:Int),⟨⟩⟩,⟨⟩⟩⟩ out hw ho
 refine (E6 b p).trans ?_
 rw[← ho]
 have hr:=@cS b p
 unfold rl oU
 simp only[Tr.val_ite,Tr.val_ret,zB]
 have hn:i32.wrap (ak (ab 5 15 b p).1)=(ag b p).1:=rfl
 have hq:(ab 5 15 b p).2.1=(ag b p).2.1:=rfl
 have he:(ab 5 15 b p).2.2=(ag b p).2.2:=rfl
 rw[hn,hq,he]
 by_cases h0:(ag b p).2.2=0
 rotate_left
 ·have e0:ac b p 0=((false,[],()),0,(ag b p).2.2):=by unfold ac;rw[if_pos h0]
  have e:bd b p=(([],(false,[],()),()),0,(ag b p).2.2):=by unfold bd;rw[e0,if_pos h0]
  rw[e,ae (by simpa using h0),if_neg h0]
 have hk:=dW h0
 rw[aa (by simpa using h0)]
 by_cases h2:(ag b p).1<0
 ·have e0:ac b p 0=((false,[],()),0,5):=by unfold ac;rw[if_neg (by simpa using h0),if_pos h2]
  have e:bd b p=(([],(false,[],()),()),0,5):=by unfold bd;rw[e0];rfl
  rw[e,aa (by simpa using h2)]
  rfl
 rw[ae (by simpa using h2),aa (by simp;omega)]
 by_cases h3:(b.length:Int) - (ag b p).2.1<(ag b p).1
 ·have e0:ac b p 0=((false,[],()),0,1):=by unfold ac;rw[if_neg (by simpa using h0),if_neg h2,if_neg h2,if_pos h3]
  have e:bd b p=(([],(false,[],()),()),0,1):=by unfold bd;rw[e0];rfl
  rw[e,aa (by simpa using h3)]
  rfl
 have e0:ac b p 0=((false,(b.drop (ag b p).2.1.toNat).take (ag b p).1.toNat,()),(ag b p).2.1+(ag b p).1,0):=by unfold ac;rw[if_neg (by simpa using h0),if_neg h2,if_neg h2,if_neg h3]
 rw[ae (by simpa using h3)]
 by_cases h4:(cx ((b.drop (ag b p).2.1.toNat).take (ag b p).1.toNat)).2=false
 ·have e:bd b p=(([],(false,[],()),()),0,6):=by
   unfold bd
   rw[e0,if_neg (by simp),if_pos h4]
  rw[e,h4]
  rfl
 have e:bd b p=(((b.drop (ag b p).2.1.toNat).take (ag b p).1.toNat,(ac b ((ag b p).2.1+(ag b p).1) (-1)).1,()),(ac b ((ag b p).2.1+(ag b p).1) (-1)).2.1,(ac b ((ag b p).2.1+(ag b p).1) (-1)).2.2):=by
  unfold bd
  rw[e0,if_neg (by simp),if_neg h4]
 rw[e,ae (by simpa using h4)]
 simp only[cond_eq_ite,zB]
abbrev nN:Io:=⟨[.ptr 0 0],[SI],[],[BX],qS⟩
def DG (b:LI):Int:=(ay b (ac b (ac b (ag b (ab 10 1 b 1).2.1).2.1 (-1)).2.1 (-1)).2.1).2.1
def Kl (d:nN.In):Tr nN.Res:=
 .ite (decide (d.2.1.2.1=(0:Int))) (.ite (decide ((aX d.2.1.1).2=0)) (.ret (.ret (((aX d.2.1.1).1,()),((d.2.1.1,(DG d.2.1.1,())),())))) (.ret (.pan ((aX d.2.1.1).2,())))) .no
abbrev yW:List (Nat×Hc):=[(140,ah fj lE),(142,ah fx mD),(139,ah gN tp),(135,ah lT FW),(141,ah jd tn),(143,ah fY oU)]
def LK:Hd:=bI yW
abbrev ew:Lo:=⟨⟨(.one (.ptr 0 0)::.any::.one (.ptr 3 0)::.one (.ptr 4 0)::.any::ai (ai (ai (co (.one hI::.one hI::ai (bx (bk []))))))),[some [.hol (.sl 5 (Ty.int u8)),hI],none,none,some [hI,hJ,hL,.onl 5 (Ty.int u8) 1544,hL,.onl 5 (Ty.int u8) 1548,.onl 206 (Ty.str.prod ((Ty.bool.prod ((Ty.sl 5 (Ty.int u8)).prod Ty.unit)).prod Ty.unit)) 1550],some [hI,hJ,hL,.hol (.sl 5 (Ty.int u8)),hL,.hol (.sl 5 (Ty.int u8)),.onl 206 (Ty.str.prod ((Ty.bool.prod ((Ty.sl 5 (Ty.int u8)).prod Ty.unit)).prod Ty.unit)) 2062]]⟩,[(.panic 169 ((Ty.int i64).prod Ty.unit),⟨(.any::ai (ai (ai (ai (ai (bx [])))))),[]⟩),(.exit 0,⟨(.one (.ptr 0 0)::.any::.one (.ptr 3 0)::.one (.ptr 4 0)::.any::ai (ai (ai (ai (ai []))))),[some [.hol (.sl 5 (Ty.int u8)),hI],none,none,some [hI,hJ,hL,.onl 5 (Ty.int u8) 1544,hL,.onl 5 (Ty.int u8) 1548,.onl 206 (Ty.str.prod ((Ty.bool.prod ((Ty.sl 5 (Ty.int u8)).prod Ty.unit)).prod Ty.unit)) 1550],some [hI,hJ,hL,.hol (.sl 5 (Ty.int u8)),hL,.hol (.sl 5 (Ty.int u8)),.onl 206 (Ty.str.prod ((Ty.bool.prod ((Ty.sl 5 (Ty.int u8)).prod Ty.unit)).prod Ty.unit)) 2062]]⟩)]⟩
def lF (d:ew.st.den):Tr (ap ew.xs):=
 .ite (decide (d.1.2.1=(0:Int))&&(decide ((0:Int)≤d.1.1)&&(decide (d.1.1≤(16:Int))&&decide (d.2.2.2.1.2.2.2.2.2.2.1=([]:List eM)))))
  (.ite (decide ((aA d.2.1.1 (d.1.1:Int).toNat [] d.2.1.2.1).2.2=(0:Int)))
   (.ret (.pan (.ret ((),((),((d.2.1.1,((aA d.2.1.1 (d.1.1:Int).toNat [] d.2.1.2.1).2.1,())),(d.2.2.1,((d.2.2.2.1.1,(d.2.2.2.1.2.1,(d.2.2.2.1.2.2.1,(d.2.2.2.1.2.2.2.1,(d.2.2.2.1.2.2.2.2.1,(d.2.2.2.1.2.2.2.2.2.1,((aA d.2.1.1 (d.1.1:Int).toNat [] d.2.1.2.1).1,()))))))),()))))))))
   (.ret (.ret (((aA d.2.1.1 (d.1.1:Int).toNat [] d.2.1.2.1).2.2,()),((),()))))) .no
def zW:Lp:=bQ [(19,aG ew lF)]
def sc {R:Type}(h2 h3:Int)(h4:LI)(h5 h6 h7:Int)(h8:Bool)(h9:LI)(h10:Bool)(h11:LI)(h12:List (Ty.str.prod ((Ty.bool.prod ((Ty.sl 5 (Ty.int u8)).prod Ty.unit)).prod Ty.unit)).den)(h13 h14:Int)(h15:Bool)(h16:LI)(h17:Bool)(h18:LI)(h19:List (Ty.str.prod ((Ty.bool.prod ((Ty.sl 5 (Ty.int u8)).prod Ty.unit)).prod Ty.unit)).den)(next:Int→Int→LI→Int→Int→Int→Bool→LI→Bool→LI→List (Ty.str.prod ((Ty.bool.prod ((Ty.sl 5 (Ty.int u8)).prod Ty.unit)).prod Ty.unit)).den→Int→Int→Bool→LI→Bool→LI→List (Ty.str.prod ((Ty.bool.prod ((Ty.sl 5 (Ty.int u8)).prod Ty.unit)).prod Ty.unit)).den→Option R)(out:ap ew.xs→Option R):Option R:=bif decide (h3<h2) then bif decide ((bd h4 h5).2.2=0) then bif !([[Sh.dat (Ty.sl 5 (Ty.int u8)) false false,Sh.dat (Ty.int i64) false false]].length+3 == 1+69 || false)&&true&&decide (h19.length+[((bd h4 h5).1.1,((bd h4 h5).1.2.1.1,(bd h4 h5).1.2.1.2.1,()),())].length≤4294967296) then next (h2) (i64.wrap (h3+1)) (h4) ((bd h4 h5).2.1) (h6) (h7) (h8) (h9) (h10) (h11) (h12) (h13) (h14) (h15) (h16) (h17) (h18) (h19++[((bd h4 h5).1.1,((bd h4 h5).1.2.1.1,(bd h4 h5).1.2.1.2.1,()),())]) else none else out (.ret (((bd h4 h5).2.2,()),((),()))) else out (.pan (.ret ((),((),((h4,(h5,())),((h6,(h7,(h8,(h9,(h10,(h11,(h12,()))))))),((h13,(h14,(h15,(h16,(h17,(h18,(h19,()))))))),())))))))
def qN (n:Nat)(h2 h3:Int)(h4:LI)(h5 h6 h7:Int)(h8:Bool)(h9:LI)(h10:Bool)(h11:LI)(h12:List (Ty.str.prod ((Ty.bool.prod ((Ty.sl 5 (Ty.int u8)).prod Ty.unit)).prod Ty.unit)).den)(h13 h14:Int)(h15:Bool)(h16:LI)(h17:Bool)(h18:LI)(h19:List (Ty.str.prod ((Ty.bool.prod ((Ty.sl 5 (Ty.int u8)).prod Ty.unit)).prod Ty.unit)).den):Option (ap ew.xs):=fR tt LK dr zW 1 Tryz.f112 (bX Tryz.f112 0) n (ew.st.mk' ((h2,(h3,())),((h4,(h5,())),((h6,(h7,(h8,(h9,(h10,(h11,(h12,()))))))),((h13,(h14,(h15,(h16,(h17,(h18,(h19,()))))))),()))))) (bC ew.xs)
theorem JN (n:Nat)(h2 h3:Int)(h4:LI)(h5 h6 h7:Int)(h8:Bool)(h9:LI)(h10:Bool)(h11:LI)(h12:List (Ty.str.prod ((Ty.bool.prod ((Ty.sl 5 (Ty.int u8)).prod Ty.unit)).prod Ty.unit)).den)(h13 h14:Int)(h15:Bool)(h16:LI)(h17:Bool)(h18:LI)(h19:List (Ty.str.prod ((Ty.bool.prod ((Ty.sl 5 (Ty.int u8)).prod Ty.unit)).prod Ty.unit)).den):qN (n+1) h2 h3 h4 h5 h6 h7 h8 h9 h10 h11 h12 h13 h14 h15 h16 h17 h18 h19=sc h2 h3 h4 h5 h6 h7 h8 h9 h10 h11 h12 h13 h14 h15 h16 h17 h18 h19 (qN n) some:=by kernel_rfl
theorem nm (b:LI)(m:Nat)(o:List eM)(p:Int):aA b (m+1) o p=if (bd b p).2.2≠0 then ([],0,(bd b p).2.2) else aA b m (o++[(bd b p).1]) (bd b p).2.1:=by
 rw[aA]
 by_cases a1:(ac b p 0).2.2=0
 ·rw[if_neg (by simpa using a1)]
  by_cases a2:(cx (ac b p 0).1.2.1).2=false
  ·have e:bd b p=(([],(false,[],()),()),0,6):=by unfold bd;rw[if_neg (by simpa using a1),if_pos a2]
   rw[if_pos a2,e]
   rfl
  ·have e:bd b p=(((ac b p 0).1.2.1,(ac b (ac b p 0).2.1 (-1)).1,()),(ac b (ac b p 0).2.1 (-1)).2.1,(ac b (ac b p 0).2.1 (-1)).2.2):=by unfold bd;rw[if_neg (by simpa using a1),if_neg a2]
   rw[if_neg a2,e]
 ·have e:bd b p=(([],(false,[],()),()),0,(ac b p 0).2.2):=by unfold bd;rw[if_pos a1]
  rw[if_pos a1,e,if_pos a1]
theorem au {α:Type}{a b:α}(h:a=b):¬ a≠b:=fun h'=>h' h
theorem L3 (b:LI)(n:Int)(hn:0≤n)(hn':n≤16)(h6 h7:Int)(h8:Bool)(h9:LI)(h10:Bool)(h11:LI)(h12:List eM)(h13 h14:Int)(h15:Bool)(h16:LI)(h17:Bool)(h18:LI):∀(k m:Nat) (p:Int) (o:List eM) (i:Int),i+m=n→0≤i→m<k→o.length=i.toNat→
  qN k n i b p h6 h7 h8 h9 h10 h11 h12 h13 h14 h15 h16 h17 h18 o=if (aA b m o p).2.2=0 then some (.pan (.ret ((),((),((b,((aA b m o p).2.1,())),((h6,(h7,(h8,(h9,(h10,(h11,(h12,()))))))),((h13,(h14,(h15,(h16,(h17,(h18,((aA b m o p).1,()))))))),()))))))) else some (.ret (((aA b m o p).2.2,()),((),()))):=by
 intro k
 induction k with
 |zero=>intro m p o i h1 h2 h3;omega
 |succ k ih=>
  intro m p o i h1 h2 h3 h4
  rw[JN]
  unfold sc
  cases m with
  |zero=>
   rw[ae (by simp;omega),if_pos (by rfl)]
   rfl
  |succ m=>
   rw[aa (by simp;omega),nm]
   by_cases a1:(bd b p).2.2=0
   ·rw[aa (by simpa using a1),if_neg (au a1)]
    have hg:decide (o.length+[((bd b p).1.1,((bd b p).1.2.1.1,(bd b p).1.2.1.2.1,()),())].length≤4294967296)=true:=decide_eq_true (show o.length+1≤4294967296 by omega)
    rw[aa (by rw[zA];exact ⟨rfl,hg⟩),af (n:=i+1) (by omega) (by omega)]
    exact ih m _ _ (i+1) (by omega) (by omega) (by omega) (by simp;omega)
   ·rw[ae (by simpa using a1),if_pos a1,if_neg a1]
def Be (a0:LI)(a1:Int):Option nN.Res:=bif decide (0≤1)&&(decide (1≤4294967296)&&(decide (0≤a1)&&decide (a1≤(↑a0.length:Int)))) then bif decide ((↑a0.length:Int) - a1<1) then some (Out.pan (1,())) else bif decide (0≤0)&&decide (0<(↑(List.take (Int.toNat 1) (List.drop a1.toNat a0)).length:Int)) then bif (List.take (Int.toNat 1) (List.drop a1.toNat a0)).getD (Int.toNat 0) 0 != 0 then some (Out.pan (71,())) else bif (ab 10 1 a0 (a1+1)).2.2 != 0 then some (Out.pan ((ab 10 1 a0 (a1+1)).2.2,())) else bif decide ((ab 5 15 a0 (ab 10 1 a0 (a1+1)).2.1).2.2=0) then bif decide (i32.wrap (ak (ab 5 15 a0 (ab 10 1 a0 (a1+1)).2.1).1)<0) then some (Out.pan (72,())) else bif decide ((ac a0 (ab 5 15 a0 (ab 10 1 a0 (a1+1)).2.1).2.1 (-1)).2.2=0) then bif decide ((ac a0 (ac a0 (ab 5 15 a0 (ab 10 1 a0 (a1+1)).2.1).2.1 (-1)).2.1 (-1)).2.2=0) then bif decide ((ab 5 15 a0 (ac a0 (ac a0 (ab 5 15 a0 (ab 10 1 a0 (a1+1)).2.1).2.1 (-1)).2.1 (-1)).2.1).2.2=0) then bif decide (i32.wrap (ak (ab 5 15 a0 (ac a0 (ac a0 (ab 5 15 a0 (ab 10 1 a0 (a1+1)).2.1).2.1 (-1)).2.1 (-1)).2.1).1)<0) then some (Out.pan (5,())) else bif decide (16<i32.wrap (ak (ab 5 15 a0 (ac a0 (ac a0 (ab 5 15 a0 (ab 10 1 a0 (a1+1)).2.1).2.1 (-1)).2.1 (-1)).2.1).1)) then some (Out.pan (9,())) else (lF ((i32.wrap (ak (ab 5 15 a0 (ac a0 (ac a0 (ab 5 15 a0 (ab 10 1 a0 (a1+1)).2.1).2.1 (-1)).2.1 (-1)).2.1).1),(0,())),((a0,((ab 5 15 a0 (ac a0 (ac a0 (ab 5 15 a0 (ab 10 1 a0 (a1+1)).2.1).2.1 (-1)).2.1 (-1)).2.1).2.1,())),((0,(0,(false,([],(false,([],([],()))))))),((ak (ab 10 1 a0 (a1+1)).1,(i32.wrap (i32.wrap (ak (ab 5 15 a0 (ab 10 1 a0 (a1+1)).2.1).1)),((ac a0 (ab 5 15 a0 (ab 10 1 a0 (a1+1)).2.1).2.1 (-1)).1.1,((ac a0 (ab 5 15 a0 (ab 10 1 a0 (a1+1)).2.1).2.1 (-1)).1.2.1,((ac a0 (ac a0 (ab 5 15 a0 (ab 10 1 a0 (a1+1)).2.1).2.1 (-1)).2.1 (-1)).1.1,((ac a0 (ac a0 (ab 5 15 a0 (ab 10 1 a0 (a1+1)).2.1).2.1 (-1)).2.1 (-1)).1.2.1,([],()))))))),()))))).run fun y=>match y with | .ret ((x54,()),((),()))=>(some (Out.pan (x54,()))) | .pan (.ret ((),((),(x55,x56,()),(x57,x58,x59,x60,x61,x62,x63,()),(x64,x65,x66,x67,x68,x69,x70,()),())))=>(bif decide (x56<(↑x55.length:Int)) then some (Out.pan (2,())) else oR (((x64,x65,(x66,x67,()),(x68,x69,()),x70,()),()),(x55,x56,()),())) else some (Out.pan ((ab 5 15 a0 (ac a0 (ac a0 (ab 5 15 a0 (ab 10 1 a0 (a1+1)).2.1).2.1 (-1)).2.1 (-1)).2.1).2.2,())) else some (Out.pan ((ac a0 (ac a0 (ab 5 15 a0 (ab 10 1 a0 (a1+1)).2.1).2.1 (-1)).2.1 (-1)).2.2,())) else some (Out.pan ((ac a0 (ab 5 15 a0 (ab 10 1 a0 (a1+1)).2.1).2.1 (-1)).2.2,())) else some (Out.pan ((ab 5 15 a0 (ab 10 1 a0 (a1+1)).2.1).2.2,())) else none else none
theorem Qc (a0:LI)(a1:Int):Io.run tt LK dr zW nN Tryz.f112 (((),()),(a0,a1,()),())=Be a0 a1:=by kernel_rfl
theorem RS:HcOk prog 112 (ah nN Kl):=by
 have hcs:HcsOk prog yW:=.cons xN (.cons uV (.cons Ap (.cons ML (.cons HZ (.cons I5 .nil)))))
 refine bY (cs:=yW) hcs (lp:=zW) (fn:=Tryz.f112) nN
  (.step (h0:=aG ew lF) (by kernel_rfl) (f9 (cs:=yW) hcs (lp:=zW) (fn:=Tryz.f112) (.done (by kernel_rfl)) ew lF ?_) (.done (by kernel_rfl))) Kl ?_
 ·rintro ⟨⟨(n:Int),(i:Int),⟨⟩⟩,⟨(b:LI),(p:Int),⟨⟩⟩,⟨(h6:Int),(h7:Int),(h8:Bool),(h9:LI),(h10:Bool),(h11:LI),(h12:List eM),⟨⟩⟩,⟨(h13:Int),(h14:Int),(h15:Bool),(h16:LI),(h17:Bool),(h18:LI),(o:List eM),⟨⟩⟩,⟨⟩⟩ y hw hy
  obtain ⟨hg,hy⟩:=Tr.guard hy
  simp only[zA,zB] at hg
  obtain ⟨hi,h0,hs,ho⟩:=hg
  have hi:i=0:=hi
  have h0:0≤n:=h0
  have hs:n≤16:=hs
  have ho:o=[]:=ho
  subst hi ho
  refine ⟨n.toNat+1,(L3 b n h0 hs h6 h7 h8 h9 h10 h11 h12 h13 h14 h15 h16 h17 h18 _ n.toNat p [] 0 (by omega) (by omega) (by omega) rfl).trans ?_⟩
  rw[← hy]
  simp only[Tr.val_ite,zB,Tr.val_ret]
 ·rintro ⟨⟨⟨⟩,⟨⟩⟩,⟨⟨(b:LI),(p:Int),⟨⟩⟩,⟨⟩⟩⟩ out hw ho
  obtain ⟨hg,ho⟩:=Tr.guard ho
  have hg:p=0:=by simpa using hg
  subst hg
  refine (Qc b 0).trans ?_
  rw[← ho]
  simp only[Tr.val_ite,Tr.val_ret,zB]
  unfold Be
  rw[aa (by simp)]
  by_cases h0:b.length=0
  ·have e:aX b=(aL,1):=by unfold aX;rw[if_pos h0]
   rw[e,aa (by simp;omega)]
   rfl
  rw[ae (by simp;omega)]
  obtain ⟨c,l,rfl⟩:∃c l,b=c::l:=by
   cases b with
   |nil=>exact absurd rfl h0
   |cons c l=>exact ⟨c,l,rfl⟩
  rw[aa (by simp)]
  by_cases h1:c=0
  rotate_left
  ·have e:aX (c::l)=(aL,71):=by unfold aX;rw[if_neg h0,if_pos (by simpa using h1)]
   rw[e,aa (by simpa using h1)]
   rfl
  have h1':(c::l).getD 0 0=0:=h1
  rw[ae (by simpa using h1)]
  generalize hb:c::l=b at *
  have hz:(0:Int)+1=1:=rfl
  rw[hz]
  by_cases h2:(ab 10 1 b 1).2.2=0
  rotate_left
  ·have e:aX b=(aL,(ab 10 1 b 1).2.2):=by unfold aX;rw[if_neg h0,if_neg (by simpa using h1'),if_pos h2]
   rw[e,aa (by simpa using h2),if_neg h2]
  rw[ae (by simpa using h2)]
  have hr:=@cS b
  have hE:DG b=(ay b (ac b (ac b (ag b (ab 10 1 b 1).2.1).2.1 (-1)).2.1 (-1)).2.1).2.1:=rfl
  generalize hq1:(ab 10 1 b 1).2.1=q1 at *
  have eR:aX b=if (ag b q1).2.2≠0 then (aL,(ag b q1).2.2) else if (ag b q1).1<0 then (aL,72) else if (ac b (ag b q1).2.1 (-1)).2.2≠0 then (aL,(ac b (ag b q1).2.1 (-1)).2.2) else
   if (ac b (ac b (ag b q1).2.1 (-1)).2.1 (-1)).2.2≠0 then (aL,(ac b (ac b (ag b q1).2.1 (-1)).2.1 (-1)).2.2) else
   if (ay b (ac b (ac b (ag b q1).2.1 (-1)).2.1 (-1)).2.1).2.2≠0 then (aL,(ay b (ac b (ac b (ag b q1).2.1 (-1)).2.1 (-1)).2.1).2.2) else
   if (ay b (ac b (ac b (ag b q1).2.1 (-1)).2.1 (-1)).2.1).2.1<(b.length:Int) then (aL,2) else
   ((ak (ab 10 1 b 1).1,(ag b q1).1,(ac b (ag b q1).2.1 (-1)).1,(ac b (ac b (ag b q1).2.1 (-1)).2.1 (-1)).1,(ay b (ac b (ac b (ag b q1).2.1 (-1)).2.1 (-1)).2.1).1,()),0):=by
   unfold aX;rw[if_neg h0,if_neg (by simpa using h1'),if_neg (by simpa using h2),hq1]
  have hn:∀p,i32.wrap (ak (ab 5 15 b p).1)=(ag b p).1:=fun _=>rfl
  have hq:∀p,(ab 5 15 b p).2.1=(ag b p).2.1:=fun _=>rfl
  have he:∀p,(ab 5 15 b p).2.2=(ag b p).2.2:=fun _=>rfl
  have hw32:i32.wrap (ag b q1).1=(ag b q1).1:=bW (k:=.i32) (bP _ _)
  simp only[hn,hq,he]
  rw[eR,hE,hw32]
  by_cases c1:(ag b q1).2.2=0
  rotate_left
  ·rw[ae (by simpa using c1),if_pos c1,if_neg c1]
  rw[aa (by simpa using c1),if_neg (au c1)]
  by_cases c2:(ag b q1).1<0
  ·rw[aa (by simpa using c2),if_pos c2];rfl
  rw[ae (by simpa using c2),if_neg c2]
  generalize hT1:ac b (ag b q1).2.1 (-1)=T1
  by_cases c3:T1.2.2=0
  rotate_left
  ·rw[ae (by simpa using c3),if_pos c3,if_neg c3]
  rw[aa (by simpa using c3),if_neg (au c3)]
  generalize hT2:ac b T1.2.1 (-1)=T2
  by_cases c4:T2.2.2=0
  rotate_left
  ·rw[ae (by simpa using c4),if_pos c4,if_neg c4]
  rw[aa (by simpa using c4),if_neg (au c4)]
  by_cases c5:(ag b T2.2.1).2.2=0
  rotate_left
  ·have eH:ay b T2.2.1=([],0,(ag b T2.2.1).2.2):=by unfold ay;rw[if_pos c5]
   rw[ae (by simpa using c5),eH,if_pos c5,if_neg c5]
  rw[aa (by simpa using c5)]
  by_cases c6:(ag b T2.2.1).1<0
  ·have eH:ay b T2.2.1=([],0,5):=by unfold ay;rw[if_neg (au c5),if_pos c6]
   rw[aa (by simpa using c6),eH];rfl
  rw[ae (by simpa using c6)]
  by_cases c7:16<(ag b T2.2.1).1
  ·have eH:ay b T2.2.1=([],0,9):=by unfold ay;rw[if_neg (au c5),if_neg c6,if_pos c7]
   rw[aa (by simpa using c7),eH];rfl
  have eH:ay b T2.2.1=aA b (ag b T2.2.1).1.toNat [] (ag b T2.2.1).2.1:=by unfold ay;rw[if_neg (au c5),if_neg c6,if_neg c7]
  rw[ae (by simpa using c7),eH]
  unfold lF
  simp only[Tr.run_ite,Tr.run_ret]
  have hgd:(decide True&&(decide ((0:Int)≤(ag b T2.2.1).1)&&(decide ((ag b T2.2.1).1≤(16:Int))&&decide True)))=true:=by
   simp only[zA,zB]
   exact ⟨trivial,by omega,by omega,trivial⟩
  rw[if_pos hgd]
  generalize aA b (ag b T2.2.1).1.toNat [] (ag b T2.2.1).2.1=r
  by_cases c8:r.2.2=0
  ·rw[if_pos (decide_eq_true c8),if_neg (au c8)]
   by_cases c9:r.2.1<(b.length:Int)
   ·simp only[c9,decide_true,cond_true,if_true]
    rfl
   ·simp only[c9,decide_false,cond_false,if_false]
    rfl
  ·rw[if_neg (by simpa using c8),if_pos c8,if_neg c8]
abbrev nK:Io:=⟨[dL,dI],[],[],[BX,dI,dI],none⟩
def Ki (d:nK.In):Tr nK.Res:=.ret (.ret (((am d.1.1 d.1.2.1).1,(am d.1.1 d.1.2.1).2.1,(am d.1.1 d.1.2.1).2.2,()),()))
abbrev KR:List (Nat×Hc):=[(111,ah gn sy),(112,ah nN Kl)]
def Rm:Hd:=bI KR
def L9:Lp:=bQ []
def Bc (a0:LI)(a1:Int):Option nK.Res:=bif (ab 5 15 a0 a1).2.2 != 0 then oR (((0,0,(false,[],()),(false,[],()),[],()),0,(ab 5 15 a0 a1).2.2,()),()) else bif decide (i32.wrap (ak (ab 5 15 a0 a1).1)<0) then oR (((0,0,(false,[],()),(false,[],()),[],()),0,5,()),()) else bif decide (16384<i32.wrap (ak (ab 5 15 a0 a1).1)) then oR (((0,0,(false,[],()),(false,[],()),[],()),0,4,()),()) else bif decide (i64.wrap ((↑a0.length:Int) - (ab 5 15 a0 a1).2.1)<i64.wrap (i32.wrap (ak (ab 5 15 a0 a1).1))) then oR (((0,0,(false,[],()),(false,[],()),[],()),0,1,()),()) else bif decide (0≤(ab 5 15 a0 a1).2.1)&&(decide ((ab 5 15 a0 a1).2.1≤i64.wrap ((ab 5 15 a0 a1).2.1+i64.wrap (i32.wrap (ak (ab 5 15 a0 a1).1))))&&(decide (i64.wrap ((ab 5 15 a0 a1).2.1+i64.wrap (i32.wrap (ak (ab 5 15 a0 a1).1)))≤i64.wrap ((ab 5 15 a0 a1).2.1+i64.wrap (i32.wrap (ak (ab 5 15 a0 a1).1))))&&decide (i64.wrap ((ab 5 15 a0 a1).2.1+i64.wrap (i32.wrap (ak (ab 5 15 a0 a1).1)))≤(↑a0.length:Int)))) then bif decide ((aX (List.drop (ab 5 15 a0 a1).2.1.toNat (List.take (i64.wrap ((ab 5 15 a0 a1).2.1+i64.wrap (i32.wrap (ak (ab 5 15 a0 a1).1)))).toNat a0))).2=0) then oR ((((aX (List.drop (ab 5 15 a0 a1).2.1.toNat (List.take (i64.wrap ((ab 5 15 a0 a1).2.1+i64.wrap (i32.wrap (ak (ab 5 15 a0 a1).1)))).toNat a0))).1.1,(aX (List.drop (ab 5 15 a0 a1).2.1.toNat (List.take (i64.wrap ((ab 5 15 a0 a1).2.1+i64.wrap (i32.wrap (ak (ab 5 15 a0 a1).1)))).toNat a0))).1.2.1,((aX (List.drop (ab 5 15 a0 a1).2.1.toNat (List.take (i64.wrap ((ab 5 15 a0 a1).2.1+i64.wrap (i32.wrap (ak (ab 5 15 a0 a1).1)))).toNat a0))).1.2.2.1.1,(aX (List.drop (ab 5 15 a0 a1).2.1.toNat (List.take (i64.wrap ((ab 5 15 a0 a1).2.1+i64.wrap (i32.wrap (ak (ab 5 15 a0 a1).1)))).toNat a0))).1.2.2.1.2.1,()),((aX (List.drop (ab 5 15 a0 a1).2.1.toNat (List.take (i64.wrap ((ab 5 15 a0 a1).2.1+i64.wrap (i32.wrap (ak (ab 5 15 a0 a1).1)))).toNat a0))).1.2.2.2.1.1,(aX (List.drop (ab 5 15 a0 a1).2.1.toNat (List.take (i64.wrap ((ab 5 15 a0 a1).2.1+i64.wrap (i32.wrap (ak (ab 5 15 a0 a1).1)))).toNat a0))).1.2.2.2.1.2.1,()),(aX (List.drop (ab 5 15 a0 a1).2.1.toNat (List.take (i64.wrap ((ab 5 15 a0 a1).2.1+i64.wrap (i32.wrap (ak (ab 5 15 a0 a1).1)))).toNat a0))).1.2.2.2.2.1,()),i64.wrap ((ab 5 15 a0 a1).2.1+i64.wrap (i32.wrap (ak (ab 5 15 a0 a1).1))),0,()),()) else oR (((0,0,(false,[],()),(false,[],()),[],()),0,(aX (List.drop (ab 5 15 a0 a1).2.1.toNat (List.take (i64.wrap ((ab 5 15 a0 a1).2.1+i64.wrap (i32.wrap (ak (ab 5 15 a0 a1).1)))).toNat a0))).2,()),()) else none
theorem P9 (a0:LI)(a1:Int):Io.runD tt Rm dr L9 64 128 nK Tryz.f75 110 Tryz.f110 11 ((a0,a1,()),())=Bc a0 a1:=by kernel_rfl
theorem RP:HcOk prog 75 (ah nK Ki):=by
 have htt:=dx Tryz.prog 400
 have hcs:HcsOk prog KR:=.cons C5 (.cons RS .nil)
 refine BZ (P:=prog) htt hm (ik hcs) (dD htt) (fn:=Tryz.f75) (by kernel_rfl) (by kernel_rfl) nK (kb2:=64) (kbG:=128) (by decide) (by decide)
  (i1:=1) (ops1:=fb (iL (gy (bj Tryz.f75)))) (by kernel_rfl) rfl (by kernel_rfl)
  (o1:=((fb (iL (gy (bj Tryz.f75))))[1]?).getD default) (t:=11) (aT:=#[]) (by kernel_rfl) (by kernel_rfl) (by kernel_rfl) (by kernel_rfl) (lp:=L9) (by kernel_rfl) (mW (by kernel_rfl))
  (g:=110) (gfn:=Tryz.f110) (i2:=0) (gops:=fb (iL (bj Tryz.f110))) (grest:=gy (bj Tryz.f110))
  (by kernel_rfl) (by kernel_rfl) (by kernel_rfl) rfl rfl (by kernel_rfl) (oo:=((fb (iL (bj Tryz.f110)))[0]?).getD default) (by kernel_rfl) (by kernel_rfl) (by kernel_rfl) (by kernel_rfl) (by kernel_rfl) Ki ?_
 rintro ⟨⟨(b:LI),(p:Int),⟨⟩⟩,⟨⟩⟩ out hw ho
 cases ho
 refine (P9 b p).trans ?_
 have hb:b.length≤maxLen:=hw.1.1.1
 rw[aP] at hb
 show _=oR (((am b p).1,(am b p).2.1,(am b p).2.2,()),())
 have hr:=@cS b p
 unfold Bc
 by_cases h0:(ag b p).2.2=0
 rotate_left
 ·have h0':(ab 5 15 b p).2.2≠0:=h0
  have e:am b p=(aL,0,(ab 5 15 b p).2.2):=by unfold am;rw[if_pos h0];rfl
  rw[e,aa (by simpa using h0')]
  rfl
 have hk:=dW h0
 have h0':(ab 5 15 b p).2.2=0:=h0
 rw[ae (by simpa using h0')]
 generalize hq:(ab 5 15 b p).2.1=q
 generalize hn:IntKind.wrap .i32 (ak (ab 5 15 b p).1)=n
 have hq:(ag b p).2.1=q:=hq
 have hn:(ag b p).1=n:=hn
 have e0:am b p=if n<0 then (aL,0,5) else if 16384<n then (aL,0,4) else if (b.length:Int) - q<n then (aL,0,1)
   else if (aX ((b.drop q.toNat).take n.toNat)).2≠0 then (aL,0,(aX ((b.drop q.toNat).take n.toNat)).2)
   else ((aX ((b.drop q.toNat).take n.toNat)).1,q+n,0):=by unfold am;rw[if_neg (by simpa using h0),hq,hn]
 rw[e0]
 rw[hq] at hk
 rw[hn] at hr
 by_cases h1:n<0
 ·rw[aa (by simpa using h1),if_pos h1]
  rfl
 rw[ae (by simpa using h1),if_neg h1]
 by_cases h2:16384<n
 ·rw[aa (by simpa using h2),if_pos h2]
  rfl
 rw[ae (by simpa using h2),if_neg h2,af (n:=(b.length:Int) - q) (by omega) (by omega),af (n:=n) (by omega) (by omega)]
 by_cases h3:(b.length:Int) - q<n
 ·rw[aa (by simpa using h3),if_pos h3]
  rfl
 rw[ae (by simpa using h3),if_neg h3,af (n:=q+n) (by omega) (by omega),aa (by simp;omega),List.drop_take,show (q+n).toNat - q.toNat=n.toNat by omega]
 generalize aX ((b.drop q.toNat).take n.toNat)=r
 by_cases h4:r.2=0
 ·rw[aa (by simpa using h4),if_neg (au h4)]
 ·rw[ae (by simpa using h4),if_pos h4]
  rfl
def gz (b:AV):Bool:=b.1&&decide ((0:Int)<(b.2.1.length:Int))
def cb (b:AV):LI:=if b.1=true then bH (bg (-1)) else bH (bg b.2.1.length)++b.2.1
def AI (h:eM):LI:=bH (bg h.1.length)++(h.1++cb h.2.1)
def cg (hs:List eM):LI:=hs.flatMap AI
def cJ (r:nb):LI:=0::(bH (bg r.1)++(bH (bg r.2.1)++(cb r.2.2.1++(cb r.2.2.2.1++(bH (bg r.2.2.2.2.1.length)++cg r.2.2.2.2.1)))))
def dF:List eM→Int
 |[]=>0
 |h::hs=>if (cx h.1).2=false then 6 else if gz h.2.1=true then 70 else dF hs
def gf (r:nb):Int:=
 if r.2.1<0 then 72 else if gz r.2.2.1=true∨gz r.2.2.2.1=true then 70 else if 16<(r.2.2.2.2.1.length:Int) then 9 else dF r.2.2.2.2.1
def bD (r:nb):Int:=if gf r≠0 then gf r else if 16384<((cJ r).length:Int) then 4 else 0
def dn (r:nb):LI×Int:=if bD r=0 then (cJ r,0) else ([],bD r)
def cq (r:nb):LI×Int:=if bD r=0 then (bH (bg (cJ r).length)++cJ r,0) else ([],bD r)
def lf (r:nb):Bool:=decide ((cJ r).length≤4294967000)
theorem xV (u:Int):(bH u).length≤11:=by
 unfold bH
 have:=DB 10 u
 simp only[zH,zN,List.length_nil]
 omega
abbrev nM:Io:=⟨[GQ],[],[],[dB],none⟩
def Kk (d:nM.In):Tr nM.Res:=.ret (.ret ((gz d.1.1,()),()))
abbrev KT:List (Nat×Hc):=[]
def Ro:Hd:=bI KT
def Mb:Lp:=bQ []
def KE (a0:Bool)(a1:LI):Option nM.Res:=bif a0 then oR ((decide (0<(↑a1.length:Int)),()),()) else oR ((false,()),())
theorem Qb (a0:Bool)(a1:LI):Io.run tt Ro dr Mb nM Tryz.f184 (((a0,a1,()),()),())=KE a0 a1:=by kernel_rfl
theorem RR:HcOk prog 184 (ah nM Kk):=by
 refine bY (cs:=KT) .nil (lp:=Mb) (fn:=Tryz.f184) nM (.done (by kernel_rfl)) Kk ?_
 rintro ⟨⟨⟨(n:Bool),(b:LI),⟨⟩⟩,⟨⟩⟩,⟨⟩⟩ out hw ho
 cases ho
 refine (Qb n b).trans ?_
 cases n <;> rfl
abbrev iw:Io:=⟨[BX],[],[],[dI],none⟩
def yo (d:iw.In):Tr iw.Res:=.ret (.ret ((gf d.1.1,()),()))
abbrev po:List (Nat×Hc):=[(184,ah nM Kk),(170,ah lU FX)]
def Cj:Hd:=bI po
abbrev db:Lo:=⟨⟨(ai (co (bk (.one (.hol (.sl 206 (Ty.str.prod ((Ty.bool.prod ((Ty.sl 5 (Ty.int u8)).prod Ty.unit)).prod Ty.unit))))::.one hI::.one hI::ai [])))),[]⟩,[(.ret,⟨(bk (.one hI::ai (ai (co (bk []))))),[]⟩),(.exit 1,⟨(.any::ai (ai (co (bx [])))),[]⟩)]⟩
def jO (d:db.st.den):Tr (ap db.xs):=
 .ite (decide (d.1.2.2.1=(0:Int))&&decide (d.1.2.1=(d.1.1.length:Int))) (.ite (decide (dF d.1.1=(0:Int))) (.ret (.pan (.ret ((),((),()))))) (.ret (.ret ((),((dF d.1.1,()),()))))) .no
def pD:Lp:=bQ [(9,aG db jO)]
def qf {R:Type}(h7:List fV.den)(h8 h9:Int)(next:List fV.den→Int→Int→Option R)(out:ap db.xs→Option R):Option R:=bif decide (h9<h8) then bif decide (0≤h9)&&decide (h9<(↑h7.length:Int)) then bif !(cx (h7.getD h9.toNat ([],(false,[],()),())).1).2 then out (.ret ((),((6,()),()))) else bif gz ((h7.getD h9.toNat ([],(false,[],()),())).2.1.1,(h7.getD h9.toNat ([],(false,[],()),())).2.1.2.1,()) then out (.ret ((),((70,()),()))) else next (h7) (h8) (i64.wrap (h9+1)) else none else out (.pan (.ret ((),((),()))))
def oh (n:Nat)(h7:List fV.den)(h8 h9:Int):Option (ap db.xs):=fR tt Cj dr pD 0 Tryz.f177 (bX Tryz.f177 0) n (db.st.mk' ((h7,(h8,(h9,()))),())) (bC db.xs)
theorem Fq (n:Nat)(h7:List fV.den)(h8 h9:Int):oh (n+1) h7 h8 h9=qf h7 h8 h9 (oh n) some:=by kernel_rfl
theorem EO (hs:List eM)(hm:hs.length≤maxLen):∀(k i:Nat),i≤hs.length→hs.length<i+k→
  oh k hs (hs.length:Int) (i:Int)=if dF (hs.drop i)=0 then some (.pan (.ret ((),((),())))) else some (.ret ((),((dF (hs.drop i),()),()))):=by
 intro k
 induction k with
 |zero=>intro i h1 h2;omega
 |succ k ih=>
  intro i h1 h2
  rw[Fq]
  unfold qf
  by_cases h3:i<hs.length
  ·have e:(hs.getD (i:Int).toNat ([],(false,[],()),()):eM)=hs[i]:=aK h3
   rw[zE h3,← e,aM h3 hm]
   generalize (hs.getD (i:Int).toNat ([],(false,[],()),()):eM)=x
   obtain ⟨x1,⟨x2,x3,⟨⟩⟩,⟨⟩⟩:=x
   rw[aa (by simpa using h3),aa (by simp[h3])]
   by_cases h4:(cx x1).2=false
   ·have eE:dF ((x1,(x2,x3,()),())::hs.drop (i+1))=6:=by unfold dF;rw[if_pos h4]
    rw[eE,aa (by simpa using h4)]
    rfl
   ·rw[ae (by simpa using h4)]
    by_cases h5:gz (x2,x3,())=true
    ·have eE:dF ((x1,(x2,x3,()),())::hs.drop (i+1))=70:=by unfold dF;rw[if_neg h4,if_pos h5]
     rw[eE,aa h5]
     rfl
    ·have eE:dF ((x1,(x2,x3,()),())::hs.drop (i+1))=dF (hs.drop (i+1)):=by rw[dF,if_neg h4,if_neg h5]
     rw[eE,ae (by simpa using h5)]
     exact ih (i+1) h3 (by omega)
  ·rw[zI (by omega)]
   rw[ae (by simpa using h3)]
   rfl
def tL (a0 a1:Int)(a2:Bool)(a3:LI)(a4:Bool)(a5:LI)(a6:List fV.den):Option iw.Res:=bif decide (a1<0) then oR ((72,()),()) else bif gz (a2,a3,()) then oR ((70,()),()) else bif gz (a4,a5,()) then oR ((70,()),()) else bif decide (16<(↑a6.length:Int)) then oR ((9,()),()) else (jO ((a6,((↑a6.length:Int),(0,()))),())).run fun y=>match y with | .ret ((),((x15,()),()))=>(oR ((x15,()),())) | .pan (.ret ((),((),())))=>(oR ((0,()),()))
theorem Jm (a0 a1:Int)(a2:Bool)(a3:LI)(a4:Bool)(a5:LI)(a6:List fV.den):Io.run tt Cj dr pD iw Tryz.f177 (((a0,a1,(a2,a3,()),(a4,a5,()),a6,()),()),())=tL a0 a1 a2 a3 a4 a5 a6:=by kernel_rfl
theorem MJ:HcOk prog 177 (ah iw yo):=by
 have hcs:HcsOk prog po:=.cons RR (.cons MM .nil)
 refine bY (cs:=po) hcs (lp:=pD) (fn:=Tryz.f177) iw
  (.step (h0:=aG db jO) (by kernel_rfl) (f9 (cs:=po) hcs (lp:=pD) (fn:=Tryz.f177) (.done (by kernel_rfl)) db jO ?_) (.done (by kernel_rfl))) yo ?_
 ·rintro ⟨⟨(hs:List eM),(n:Int),(i:Int),⟨⟩⟩,⟨⟩⟩ y hw hy
  obtain ⟨hg,hy⟩:=Tr.guard hy
  simp only[zA,zB] at hg
  obtain ⟨hi,hn⟩:=hg
  have hi:i=0:=hi
  have hn:n=hs.length:=hn
  subst hi hn
  refine ⟨hs.length+1,(EO hs hw.1.1.1 _ 0 (by omega) (by omega)).trans ?_⟩
  rw[← hy]
  simp only[Tr.val_ite,zB,Tr.val_ret,List.drop_zero]
 ·rintro ⟨⟨⟨(a0:Int),(a1:Int),⟨(a2:Bool),(a3:LI),⟨⟩⟩,⟨(a4:Bool),(a5:LI),⟨⟩⟩,(a6:List eM),⟨⟩⟩,⟨⟩⟩,⟨⟩⟩ out hw ho
  cases ho
  refine (Jm a0 a1 a2 a3 a4 a5 a6).trans ?_
  unfold tL jO
  show _=oR ((gf (a0,a1,(a2,a3,()),(a4,a5,()),a6,()),()),())
  unfold gf
  simp only[Tr.run_ite,Tr.run_ret]
  by_cases h1:a1<0
  ·rw[aa (by simpa using h1),if_pos h1]
  rw[ae (by simpa using h1),if_neg h1]
  by_cases h2:gz (a2,a3,())=true
  ·rw[aa h2,if_pos (.inl h2)]
  rw[ae (by simpa using h2)]
  by_cases h3:gz (a4,a5,())=true
  ·rw[aa h3,if_pos (.inr h3)]
  rw[ae (by simpa using h3),if_neg (show ¬(gz (a2,a3,())=true∨gz (a4,a5,())=true) from fun h=>h.elim h2 h3)]
  by_cases h4:16<(a6.length:Int)
  ·rw[aa (by simpa using h4),if_pos h4]
  rw[ae (by simpa using h4),if_neg h4]
  rw[if_pos (by simp)]
  by_cases h5:dF a6=0
  ·rw[if_pos (decide_eq_true h5),h5]
  ·rw[if_neg (by simpa using h5)]
abbrev ix:Io:=⟨[dO,GQ],[],[],[dO],none⟩
def yp (d:ix.In):Tr ix.Res:=.ite (decide (d.1.1.length+(cb d.1.2.1).length≤4294967296)) (.ret (.ret ((d.1.1++cb d.1.2.1,()),()))) .no
abbrev BJ:List (Nat×Hc):=[(128,ah ky AX)]
def LL:Hd:=bI BJ
def CW:Lp:=bQ []
def tM (a0:LI)(a1:Bool)(a2:LI):Option ix.Res:=bif a1 then bif decide (a0.length+(bH (bg (-1))).length≤4294967296) then oR ((a0++bH (bg (-1)),()),()) else none else bif decide (a0.length+(bH (bg (↑a2.length:Int))).length≤4294967296) then bif decide ((a0++bH (bg (↑a2.length:Int))).length+a2.length≤4294967296) then oR ((a0++bH (bg (↑a2.length:Int))++a2,()),()) else none else none
theorem Jn (a0:LI)(a1:Bool)(a2:LI):Io.run tt LL dr CW ix Tryz.f178 ((a0,(a1,a2,()),()),())=tM a0 a1 a2:=by kernel_rfl
theorem MK:HcOk prog 178 (ah ix yp):=by
 refine bY (cs:=BJ) (.cons EY .nil) (lp:=CW) (fn:=Tryz.f178) ix (.done (by kernel_rfl)) yp ?_
 rintro ⟨⟨(o:LI),⟨(n:Bool),(b:LI),⟨⟩⟩,⟨⟩⟩,⟨⟩⟩ out hw ho
 obtain ⟨hg,ho⟩:=Tr.guard ho
 have hg:o.length+(cb (n,b,())).length≤4294967296:=by simpa using hg
 cases ho
 refine (Jn o n b).trans ?_
 show _=oR ((o++cb (n,b,()),()),())
 unfold tM
 cases n with
 |true=>
  have e:cb (true,b,())=bH (bg (-1)):=rfl
  rw[e] at hg ⊢
  rw[aa rfl,aa (by simpa using hg)]
 |false=>
  have e:cb (false,b,())=bH (bg b.length)++b:=rfl
  rw[e] at hg ⊢
  simp only[zH] at hg
  rw[ae rfl,aa (by simp;omega),aa (by simp;omega),zK]
abbrev kw:Io:=⟨[BX],[],[],[dO,dI],none⟩
def DW (d:kw.In):Tr kw.Res:=.ite (lf d.1.1) (.ret (.ret (((dn d.1.1).1,(dn d.1.1).2,()),()))) .no
abbrev sN:List (Nat×Hc):=[(177,ah iw yo),(166,ah fm oW),(128,ah ky AX),(178,ah ix yp)]
def G5:Hd:=bI sN
abbrev da:Lo:=⟨⟨(.any::bx (.one (.onl 5 (Ty.int u8) 11)::.any::ai (co (bx (bk (.one (.hol (.sl 206 (Ty.str.prod ((Ty.bool.prod ((Ty.sl 5 (Ty.int u8)).prod Ty.unit)).prod Ty.unit))))::.one hI::.one hI::ai (bx (bk [])))))))),[]⟩,[(.exit 0,⟨(.any::bx (.one (.onl 5 (Ty.int u8) 11)::ai (ai (ai (co []))))),[]⟩)]⟩
def jN (d:da.st.den):Tr (ap da.xs):=
 .ite (decide (d.1.2.2.2.1=(0:Int))&&(decide (d.1.2.2.1=(d.1.2.1.length:Int))&&decide (d.1.1.length+(cg d.1.2.1).length≤4294967296))) (.ret (.ret ((),((d.1.1++cg d.1.2.1,()),())))) .no
def s0:Lp:=bQ [(10,aG da jN)]
def qe {R:Type}(h7:LI)(h8:List fV.den)(h9 h10:Int)(next:LI→List fV.den→Int→Int→Option R)(out:ap da.xs→Option R):Option R:=bif decide (h10<h9) then bif decide (0≤h10)&&decide (h10<(↑h8.length:Int)) then bif decide (h7.length+(bH (bg (↑(List.length (h8.getD h10.toNat ([],(false,[],()),())).1):Int))).length≤4294967296) then bif decide ((h7++bH (bg (↑(List.length (h8.getD h10.toNat ([],(false,[],()),())).1):Int))).length+List.length (h8.getD h10.toNat ([],(false,[],()),())).1≤4294967296) then bif decide ((h7++bH (bg (↑(List.length (h8.getD h10.toNat ([],(false,[],()),())).1):Int))++(h8.getD h10.toNat ([],(false,[],()),())).1).length+(cb ((h8.getD h10.toNat ([],(false,[],()),())).2.1.1,(h8.getD h10.toNat ([],(false,[],()),())).2.1.2.1,())).length≤4294967296) then next (h7++bH (bg (↑(List.length (h8.getD h10.toNat ([],(false,[],()),())).1):Int))++(h8.getD h10.toNat ([],(false,[],()),())).1++cb ((h8.getD h10.toNat ([],(false,[],()),())).2.1.1,(h8.getD h10.toNat ([],(false,[],()),())).2.1.2.1,())) (h8) (h9) (i64.wrap (h10+1)) else none else none else none else none else out (.ret ((),((h7,()),())))
def og (n:Nat)(h7:LI)(h8:List fV.den)(h9 h10:Int):Option (ap da.xs):=fR tt G5 dr s0 0 Tryz.f160 (bX Tryz.f160 0) n (da.st.mk' ((h7,(h8,(h9,(h10,())))),())) (bC da.xs)
theorem Fp (n:Nat)(h7:LI)(h8:List fV.den)(h9 h10:Int):og (n+1) h7 h8 h9 h10=qe h7 h8 h9 h10 (og n) some:=by kernel_rfl
theorem IY (hs:List eM)(hm:hs.length≤maxLen):∀(k i:Nat) (o:LI),i≤hs.length→hs.length<i+k→o.length+(cg (hs.drop i)).length≤4294967296→
  og k o hs (hs.length:Int) (i:Int)=some (.ret ((),((o++cg (hs.drop i),()),()))):=by
 intro k
 induction k with
 |zero=>intro i o h1 h2;omega
 |succ k ih=>
  intro i o h1 h2 h3
  rw[Fp]
  unfold qe
  by_cases h4:i<hs.length
  ·have e:(hs.getD (i:Int).toNat ([],(false,[],()),()):eM)=hs[i]:=aK h4
   rw[zE h4,← e] at h3 ⊢
   rw[aM h4 hm]
   generalize (hs.getD (i:Int).toNat ([],(false,[],()),()):eM)=x at *
   obtain ⟨x1,⟨x2,x3,⟨⟩⟩,⟨⟩⟩:=x
   have eW:cg ((x1,(x2,x3,()),())::hs.drop (i+1))=bH (bg x1.length)++(x1++cb (x2,x3,()))++cg (hs.drop (i+1)):=by simp[cg,AI]
   rw[eW] at h3 ⊢
   simp only[zH] at h3
   rw[aa (by simpa using h4),aa (by simp[h4]),aa (by simp;omega),aa (by simp;omega),aa (by simp;omega)]
   refine (ih (i+1) _ h4 (by omega) (by simp only[zH];omega)).trans ?_
   simp only[zK]
  ·rw[zI (by omega)]
   rw[ae (by simpa using h4)]
   simp[cg]
def wC (a0 a1:Int)(a2:Bool)(a3:LI)(a4:Bool)(a5:LI)(a6:List fV.den):Option kw.Res:=bif gf (a0,a1,(a2,a3,()),(a4,a5,()),a6,()) != 0 then oR (([],gf (a0,a1,(a2,a3,()),(a4,a5,()),a6,()),()),()) else bif decide ([0].length+(eQ [a0,i64.wrap a1]).length≤4294967296) then bif decide (([0]++eQ [a0,i64.wrap a1]).length+(cb (a2,a3,())).length≤4294967296) then bif decide (List.length ([0]++eQ [a0,i64.wrap a1]++cb (a2,a3,()))+(cb (a4,a5,())).length≤4294967296) then bif decide (List.length ([0]++eQ [a0,i64.wrap a1]++cb (a2,a3,())++cb (a4,a5,()))+(bH (bg (↑a6.length:Int))).length≤4294967296) then (jN (([0]++eQ [a0,i64.wrap a1]++cb (a2,a3,())++cb (a4,a5,())++bH (bg (↑a6.length:Int)),(a6,((↑a6.length:Int),(0,())))),())).run fun y=>match y with | .ret ((),((x16,()),()))=>(bif decide (16384<(↑x16.length:Int)) then oR (([],4,()),()) else oR ((x16,0,()),())) else none else none else none else none
theorem Ni (a0 a1:Int)(a2:Bool)(a3:LI)(a4:Bool)(a5:LI)(a6:List fV.den):Io.run tt G5 dr s0 kw Tryz.f160 (((a0,a1,(a2,a3,()),(a4,a5,()),a6,()),()),())=wC a0 a1 a2 a3 a4 a5 a6:=by kernel_rfl
theorem PF:HcOk prog 160 (ah kw DW):=by
 have hcs:HcsOk prog sN:=.cons MJ (.cons xP (.cons EY (.cons MK .nil)))
 refine bY (cs:=sN) hcs (lp:=s0) (fn:=Tryz.f160) kw
  (.step (h0:=aG da jN) (by kernel_rfl) (f9 (cs:=sN) hcs (lp:=s0) (fn:=Tryz.f160) (.done (by kernel_rfl)) da jN ?_) (.done (by kernel_rfl))) DW ?_
 ·rintro ⟨⟨(o:LI),(hs:List eM),(n:Int),(i:Int),⟨⟩⟩,⟨⟩⟩ y hw hy
  obtain ⟨hg,hy⟩:=Tr.guard hy
  simp only[zA,zB] at hg
  obtain ⟨hi,hn,hl⟩:=hg
  have hi:i=0:=hi
  have hn:n=hs.length:=hn
  subst hi hn
  refine ⟨hs.length+1,(IY hs hw.1.2.1.1 _ 0 o (by omega) (by omega) hl).trans ?_⟩
  rw[← hy]
  rfl
 ·rintro ⟨⟨⟨(a0:Int),(a1:Int),⟨(a2:Bool),(a3:LI),⟨⟩⟩,⟨(a4:Bool),(a5:LI),⟨⟩⟩,(a6:List eM),⟨⟩⟩,⟨⟩⟩,⟨⟩⟩ out hw ho
  obtain ⟨hg,ho⟩:=Tr.guard ho
  cases ho
  refine (Ni a0 a1 a2 a3 a4 a5 a6).trans ?_
  have ha1:bt .i32 a1:=hw.1.1.2.1
  have ha1 : -2147483648≤a1∧a1≤2147483647:=by simpa [bt,IntKind.min,IntKind.max,IntKind.signed,IntKind.bits] using ha1
  have hg:(cJ (a0,a1,(a2,a3,()),(a4,a5,()),a6,())).length≤4294967000:=of_decide_eq_true hg
  show _=oR (((dn (a0,a1,(a2,a3,()),(a4,a5,()),a6,())).1,(dn (a0,a1,(a2,a3,()),(a4,a5,()),a6,())).2,()),())
  have eb:cJ (a0,a1,(a2,a3,()),(a4,a5,()),a6,())=[0]++eQ [a0,a1]++cb (a2,a3,())++cb (a4,a5,())++bH (bg a6.length)++cg a6:=by
   simp[cJ,eQ]
  have hl:=hg
  rw[eb] at hl
  simp only[zH] at hl
  unfold wC dn
  rw[af (n:=a1) (by omega) (by omega)]
  generalize hr:((a0,a1,(a2,a3,()),(a4,a5,()),a6,()):nb)=r at *
  by_cases h1:gf r=0
  rotate_left
  ·have ec:bD r=gf r:=by unfold bD;rw[if_pos h1]
   rw[aa (by simpa using h1),ec,if_neg h1]
  have ec:bD r=if 16384<((cJ r).length:Int) then 4 else 0:=by unfold bD;rw[if_neg (au h1)]
  rw[ae (by simpa using h1),aa (by simp;omega),aa (by simp;omega),aa (by simp;omega),aa (by simp;omega)]
  unfold jN
  simp only[Tr.run_ite,Tr.run_ret]
  rw[if_pos (by simp;omega),← eb,ec]
  by_cases h2:16384<((cJ r).length:Int)
  ·rw[aa (by simpa using h2),if_pos h2]
   rfl
  ·rw[ae (by simpa using h2),if_neg h2]
   rfl
abbrev nL:Io:=⟨[BX],[],[],[dO,dI],none⟩
def Kj (d:nL.In):Tr nL.Res:=.ite (lf d.1.1) (.ret (.ret (((cq d.1.1).1,(cq d.1.1).2,()),()))) .no
abbrev KS:List (Nat×Hc):=[(160,ah kw DW),(128,ah ky AX)]
def Rn:Hd:=bI KS
def Ma:Lp:=bQ []
def Bd (a0 a1:Int)(a2:Bool)(a3:LI)(a4:Bool)(a5:LI)(a6:List fV.den):Option nL.Res:=bif lf (a0,a1,(a2,a3,()),(a4,a5,()),a6,()) then bif (dn (a0,a1,(a2,a3,()),(a4,a5,()),a6,())).2 != 0 then oR (([],(dn (a0,a1,(a2,a3,()),(a4,a5,()),a6,())).2,()),()) else bif decide ((bH (bg (↑(dn (a0,a1,(a2,a3,()),(a4,a5,()),a6,())).1.length:Int))).length+(dn (a0,a1,(a2,a3,()),(a4,a5,()),a6,())).1.length≤4294967296) then oR ((bH (bg (↑(dn (a0,a1,(a2,a3,()),(a4,a5,()),a6,())).1.length:Int))++(dn (a0,a1,(a2,a3,()),(a4,a5,()),a6,())).1,0,()),()) else none else none
theorem Qa (a0 a1:Int)(a2:Bool)(a3:LI)(a4:Bool)(a5:LI)(a6:List fV.den):Io.run tt Rn dr Ma nL Tryz.f125 (((a0,a1,(a2,a3,()),(a4,a5,()),a6,()),()),())=Bd a0 a1 a2 a3 a4 a5 a6:=by kernel_rfl
theorem RQ:HcOk prog 125 (ah nL Kj):=by
 refine bY (cs:=KS) (.cons PF (.cons EY .nil)) (lp:=Ma) (fn:=Tryz.f125) nL (.done (by kernel_rfl)) Kj ?_
 rintro ⟨⟨⟨(a0:Int),(a1:Int),⟨(a2:Bool),(a3:LI),⟨⟩⟩,⟨(a4:Bool),(a5:LI),⟨⟩⟩,(a6:List eM),⟨⟩⟩,⟨⟩⟩,⟨⟩⟩ out hw ho
 obtain ⟨hg,ho⟩:=Tr.guard ho
 cases ho
 refine (Qa a0 a1 a2 a3 a4 a5 a6).trans ?_
 show _=oR (((cq (a0,a1,(a2,a3,()),(a4,a5,()),a6,())).1,(cq (a0,a1,(a2,a3,()),(a4,a5,()),a6,())).2,()),())
 have hg:lf (a0,a1,(a2,a3,()),(a4,a5,()),a6,())=true:=hg
 unfold Bd
 generalize ((a0,a1,(a2,a3,()),(a4,a5,()),a6,()):nb)=r at *
 have hl:(cJ r).length≤4294967000:=of_decide_eq_true hg
 rw[aa hg]
 by_cases h1:bD r=0
 ·have e1:dn r=(cJ r,0):=by unfold dn;rw[if_pos h1]
  have e2:cq r=(bH (bg (cJ r).length)++cJ r,0):=by unfold cq;rw[if_pos h1]
  have:=xV (bg (cJ r).length)
  rw[e1,e2]
  rw[ae (by rfl),aa (by simp;omega)]
 ·have e1:dn r=([],bD r):=by unfold dn;rw[if_neg h1]
  have e2:cq r=([],bD r):=by unfold cq;rw[if_neg h1]
  rw[e1,e2,aa (by simpa using h1)]
end
end Go.Proofs.YthpcdhgpplmneaaGreatDoor.Sym
namespace Go.Proofs.YthpcdhgpplmneaaGreatDoor.Sym
open Go
open Go.ChangeShapes Go.WideShapes Go.ChangeAt Go.RowKit
def eN (P:Program):Ty→(TypeId ⊕ (List Field×Nat))→Bool
 |.int k,.inl t=>match P.underlying t with
  |some (.int k')=>decide (k'=k)
  |_=>false
 |.bool,.inl t=>match P.underlying t with
  |some .bool=>true
  |_=>false
 |.str,.inl t=>match P.underlying t with
  |some .string=>true
  |_=>false
 |.sl e ty,.inl t=>match P.underlying t with
  |some (.slice e')=>(e' == e)&&(eN P ty (.inl e)&&((P.cellsOf e == ty.size)&&!(ty.size == 0)))
  |_=>false
 |.prod a b,.inl t=>match P.underlying t with
  |some (.struct fs)=>(P.cellsOf t == a.size+b.size)&&match fs.toList with
   |f::fs'=>(f.offset == 0)&&((P.cellsOf f.type == a.size)&&(eN P a (.inl f.type)&&eN P b (.inr (fs',a.size))))
   |[]=>false
  |_=>false
 |.unit,.inr ([],_)=>true
 |.prod a b,.inr (f::fs,off)=>(f.offset == off)&&((P.cellsOf f.type == a.size)&&(eN P a (.inl f.type)&&eN P b (.inr (fs,off+a.size))))
 |_,_=>false
def B3:(t:Ty)→t.den→Nat
 |.int _,_=>1
 |.bool,_=>1
 |.str,s=>List.length (α:=Int) s+1
 |.sl _ t,xs=>(List.map (B3 t) xs).sum+1
 |.unit,_=>0
 |.prod a b,x=>B3 a x.1+B3 b x.2
 |.tree _ _,_=>0
def S0 (W:World)(b o:Nat):Prop:=∃v,W.cell? ⟨b,o,none⟩=some v
section
variable {P:Program} {W:World} {H:Type} {enc:TypeId×Value→H} {sp:Nat→Bool} {held:Bool}
theorem KJ {a:Addr}{n:Nat}{cs:List Value}(h:W.cells? 0 a n=some cs)(hn:0<n):a.spot=none∧cs.length=n∧At (S0 W) W a.block a.off cs:=by
 simp only[World.cells?,Nat.zero_le,if_true] at h
 have hl:=mapM_some_length h
 rw[List.length_range] at hl
 have hg:∀i,i<n→W.cell? (a.add i)=cs[i]?:=fun i hi=>mapM_some_get h i i (by simp[hi])
 have hsp:a.spot=none:=by
  have h0:=hg 0 hn
  rw[List.getElem?_eq_getElem (by omega)] at h0
  unfold World.cell? at h0
  split at h0
  ·split at h0
   ·cases h0
   ·rename_i hs
    cases e:a.spot with
    |none=>rfl
    |some x=>simp[Addr.add,e] at hs
  ·cases h0
 refine ⟨hsp,hl,fun j v hv=>?_⟩
 have hj:j<n:=by rw[← hl];exact (List.getElem?_eq_some_iff.1 hv).1
 have:=hg j hj
 rw[hv] at this
 have e:a.add j=⟨a.block,a.off+j,none⟩:=by
  obtain ⟨b,o,s⟩:=a
  simp only at hsp
  subst hsp
  exact Addr.add_plain ..
 rw[e] at this
 exact ⟨⟨v,this⟩,this⟩
theorem qp (ub:DataW H→Nat)(uba:List (DataW H)→Nat)(u1:∀l,1≤ub (.lit l))(u2:∀bs,bs.length+1≤ub (.lit (.string bs)))(u3:1≤ub .nil)(u4:∀es ss,uba es+1≤ub (.slice es ss))(u5:∀ps,uba ps≤ub (.agg ps))
  (u6:∀d ds,uba (d::ds)=ub d+uba ds) (u7:uba []=0):
  ∀(ty:Ty),(∀(t:TypeId),eN P ty (.inl t)=true→∀(fuel:Nat) (cs:List Value) (x:DataW H×List MemPlace),DataW.trod enc P W 0 sp held fuel t cs=some x→∃y:ty.den,Rt (S0 W) W ty y cs∧B3 ty y≤ub x.1)∧
   (∀(fs:List Field) (off:Nat),eN P ty (.inr (fs,off))=true→∀(fuel:Nat) (cs:List Value) (xs:List (DataW H×List MemPlace)),fs.mapM (fun f=>DataW.trod enc P W 0 sp held fuel f.type ((cs.drop f.offset).take (P.cellsOf f.type)))=some xs→
    (cs.drop off).length=ty.size→∃y:ty.den,Rt (S0 W) W ty y (cs.drop off)∧B3 ty y≤uba (xs.map (·.1)))
 |.int k=>by
  refine ⟨fun t ht fuel cs x h=>?_,fun fs off ht=>by cases fs <;> simp[eN] at ht⟩
  simp only[eN] at ht
  split at ht
  ·rename_i k' hu
   have ht:=of_decide_eq_true ht
   subst ht
   obtain ⟨n2,rfl,rfl,hw⟩:=DataW.trod_int hu h
   refine ⟨n2,⟨rfl,?_⟩,u1 _⟩
   simpa [Lit.wf,bt] using hw
  ·cases ht
 |.bool=>by
  refine ⟨fun t ht fuel cs x h=>?_,fun fs off ht=>by cases fs <;> simp[eN] at ht⟩
  simp only[eN] at ht
  split at ht
  ·rename_i hu
   obtain ⟨b,rfl,rfl⟩:=DataW.trod_bool hu h
   exact ⟨b,rfl,u1 _⟩
  ·cases ht
 |.str=>by
  refine ⟨fun t ht fuel cs x h=>?_,fun fs off ht=>by cases fs <;> simp[eN] at ht⟩
  simp only[eN] at ht
  split at ht
  ·rename_i hu
   obtain ⟨s,rfl,rfl,hl⟩:=DataW.trod_string hu h
   refine ⟨jx s,⟨by rw[ma],sh s,?_⟩,?_⟩
   ·have:(jx s).length=s.size:=by rw[← ce,ma]
    rw[this];exact hl
   ·have:(jx s).length=s.data.toList.length:=by unfold jx;exact List.length_map _
    show (jx s).length+1≤_
    rw[this]
    exact u2 _
  ·cases ht
 |.unit=>by
  refine ⟨fun t ht=>by simp[eN] at ht,fun fs off ht fuel cs xs h hl=>?_⟩
  refine ⟨(),?_,Nat.zero_le _⟩
  exact zF hl
 |.sl e ty=>by
  refine ⟨fun t ht fuel cs x h=>?_,fun fs off ht=>by cases fs <;> simp[eN] at ht⟩
  simp only[eN] at ht
  split at ht
  ·rename_i e' hu
   simp only[zA,beq_iff_eq,Bool.not_eq_true',beq_eq_false_iff_ne] at ht
   obtain ⟨rfl,hT,hsz,hpos⟩:=ht
   have ih:=(qp ub uba u1 u2 u3 u4 u5 u6 u7 ty).1 e' hT
   rcases DataW.trod_slice hu h with ⟨rfl,rfl⟩ | ⟨a,len,cap,elems,rest,n,_,rfl,rfl,hb,hl,hm,hlen,hel,_,_⟩
   ·exact ⟨[],⟨none,0,rfl,Nat.le_refl _,Nat.zero_le _,fun h=>absurd rfl h⟩,u3⟩
   ·have each:∀i,i<len→∃y:ty.den,(∃c,Rt (S0 W) W ty y c∧(i=0→a.spot=none)∧At (S0 W) W a.block (a.off+i*ty.size) c)∧∃d,elems[i]?=some d∧B3 ty y≤ub d.1:=by
     intro i hi
     have h1:=hel i hi
     rw[List.getElem?_eq_getElem (by omega)] at h1
     obtain ⟨c,hc,hd⟩:=Option.bind_eq_some_iff.1 h1
     obtain ⟨y,hy,hs⟩:=ih _ _ _ hd
     rw[hsz] at hc
     obtain ⟨h2,h3,h4⟩:=KJ hc (by omega)
     have e1:(a.add (i*ty.size)).block=a.block:=by unfold Addr.add;split <;> rfl
     have e2:(a.add (i*ty.size)).off=a.off+i*ty.size:=by
      unfold Addr.add
      split
      ·rename_i h0;rw[h0];rfl
      ·rfl
     rw[e1,e2] at h4
     refine ⟨y,⟨c,hy,fun h0=>?_,h4⟩,elems[i],by simp,hs⟩
     subst h0
     simpa [Addr.add] using h2
    have mk:∀m,m≤len→∃ys:List ty.den,ys.length=m∧(∀i y,ys[i]?=some y→∃c,Rt (S0 W) W ty y c∧(i=0→a.spot=none)∧At (S0 W) W a.block (a.off+i*ty.size) c)∧(ys.map (B3 ty)).sum≤uba ((elems.take m).map (·.1)):=by
     intro m
     induction m with
     |zero=>intro _;exact ⟨[],rfl,fun i y h=>by simp at h,by simp⟩
     |succ m ihm=>
      intro hm'
      obtain ⟨ys,g1,g2,g3⟩:=ihm (by omega)
      obtain ⟨y,g4,d,g5,g6⟩:=each m (by omega)
      refine ⟨ys++[y],by simp[g1],fun i z hz=>?_,?_⟩
      ·rw[List.getElem?_append] at hz
       split at hz
       ·exact g2 i z hz
       ·rename_i hlt
        have:i=m:=by
         have:=(List.getElem?_eq_some_iff.1 hz).1
         simp at this;omega
        subst this
        simp[g1] at hz
        subst hz
        exact g4
      ·have hap:∀(xs bs:List (DataW H)),uba (xs++bs)=uba xs+uba bs:=by
        intro xs bs
        induction xs with
        |nil=>simp[u7]
        |cons c xs ih=>rw[List.cons_append,u6,u6,ih];omega
       rw[List.take_add_one,g5]
       simp only[List.map_append,List.sum_append,hap,Option.toList,zL,List.map_nil,List.sum_cons,List.sum_nil,u6,u7]
       omega
    obtain ⟨ys,g1,g2,g3⟩:=mk len (Nat.le_refl _)
    refine ⟨ys,⟨some a,cap,by rw[g1],by omega,hm,fun hne=>?_⟩,?_⟩
    ·have h0:0<ys.length:=List.length_pos_iff.2 hne
     obtain ⟨c,_,hsp,_⟩:=g2 0 ys[0] (by simp)
     have hsp:=hsp rfl
     refine ⟨a.block,a.off,?_,fun i y hy=>?_⟩
     ·obtain ⟨b,o,s⟩:=a
      simp only at hsp
      rw[hsp]
     ·obtain ⟨c,hc,_,hat⟩:=g2 i y hy
      exact ⟨c,hc,hat⟩
    ·rw[List.take_of_length_le (by omega)] at g3
     show (ys.map (B3 ty)).sum+1≤_
     exact Nat.le_trans (by omega) (u4 _ _)
  ·cases ht
 |.tree a e=>⟨fun t ht=>by simp[eN] at ht,fun fs off ht=>by cases fs <;> simp[eN] at ht⟩
 |.prod a b=>by
  have step:∀(f:Field) (fs:List Field) (off:Nat),((f.offset == off)&&((P.cellsOf f.type == a.size)&&(eN P a (.inl f.type)&&eN P b (.inr (fs,off+a.size)))))=true→
    ∀(fuel:Nat) (cs:List Value) (xs:List (DataW H×List MemPlace)),(f::fs).mapM (fun f=>DataW.trod enc P W 0 sp held fuel f.type ((cs.drop f.offset).take (P.cellsOf f.type)))=some xs→
    (cs.drop off).length=a.size+b.size→∃y:a.den×b.den,Rt (S0 W) W (.prod a b) y (cs.drop off)∧B3 a y.1+B3 b y.2≤uba (xs.map (·.1)):=by
   intro f fs off ht fuel cs xs h hl
   simp only[zA,beq_iff_eq] at ht
   obtain ⟨rfl,hs,hA,hB⟩:=ht
   simp only[List.mapM_cons,Option.bind_eq_bind,Option.bind_eq_some_iff] at h
   obtain ⟨x0,h0,xs',h1,h2⟩:=h
   simp only[Option.pure_def,zC] at h2
   subst h2
   rw[hs] at h0
   obtain ⟨y1,hy1,hd1⟩:=(qp ub uba u1 u2 u3 u4 u5 u6 u7 a).1 f.type hA _ _ _ h0
   have hl2:(cs.drop (f.offset+a.size)).length=b.size:=by
    simp only[List.length_drop] at hl ⊢
    omega
   obtain ⟨y2,hy2,hd2⟩:=(qp ub uba u1 u2 u3 u4 u5 u6 u7 b).2 fs _ hB _ _ _ h1 hl2
   refine ⟨(y1,y2),⟨_,_,?_,hy1,hy2⟩,?_⟩
   ·rw[← List.drop_drop,List.take_append_drop]
   ·simp only[zL,u6]
    omega
  refine ⟨fun t ht fuel cs x h=>?_,fun fs off ht fuel cs xs h hl=>?_⟩
  ·simp only[eN] at ht
   split at ht
   ·rename_i fs hu
    simp only[zA,beq_iff_eq] at ht
    obtain ⟨hsz,ht⟩:=ht
    split at ht
    ·rename_i f fs' hfs
     cases fuel with
     |zero=>simp[DataW.trod] at h
     |succ n=>
      unfold DataW.trod at h
      rw[hu] at h
      simp only at h
      split at h
      ·rename_i hlen
       obtain ⟨xs,hxs,rfl⟩:=Option.map_eq_some_iff.1 h
       rw[hfs] at hxs
       obtain ⟨y,hy,hd⟩:=step f fs' 0 (by simpa using ht) n cs xs hxs (by simpa [hsz] using hlen)
       exact ⟨y,by simpa using hy,Nat.le_trans hd (u5 _)⟩
      ·cases h
    ·cases ht
   ·cases ht
  ·cases fs with
   |nil=>simp[eN] at ht
   |cons f fs=>exact step f fs off (by simpa only [eN] using ht) fuel cs xs h hl
theorem SX {ty:Ty}{t:TypeId}(ht:eN P ty (.inl t)=true){fuel:Nat}{cs:List Value}{d:DataW H}{ps:List MemPlace}(h:DataW.trod enc P W 0 sp held fuel t cs=some (d,ps)):∃y:ty.den,Rt (S0 W) W ty y cs∧B3 ty y≤Rows.uptoBulk d:=
 (qp Rows.uptoBulk Rows.uptoBulkAll (fun l=>by cases l <;> simp[Rows.uptoBulk]) (fun bs=>by simp[Rows.uptoBulk]) (by simp[Rows.uptoBulk]) (fun es ss=>by simp[Rows.uptoBulk]) (fun ps=>by simp[Rows.uptoBulk]) (fun d ds=>by simp[Rows.uptoBulkAll]) (by simp[Rows.uptoBulkAll]) ty).1 t ht fuel cs _ h
theorem rD {t:Ty}(hp:∀x:t.den,1≤B3 t x):∀xs:List t.den,xs.length≤(xs.map (B3 t)).sum
 |[]=>by simp
 |x::xs=>by
  have:=rD hp xs
  have:=hp x
  simp only[zN,zL,List.sum_cons]
  omega
theorem OO {e:Nat}{k:IntKind}(xs:(Ty.sl e (.int k)).den):List.length xs≤B3 (.sl e (.int k)) xs:=by
 have:=rD (t:=.int k) (fun _=>Nat.le_refl 1) xs
 show _≤(List.map (B3 (.int k)) xs).sum+1
 exact Nat.le_trans this (Nat.le_succ _)
def G0 (W:World):Gh:=⟨S0 W,fun _=>none,fun _=>none⟩
def F0 (W:World):Fra:=⟨W,fun _=>False,S0 W,fun _=>none⟩
theorem Ti (h:∀g,QJ g=false)(W:World):gG (S0 W) W:=fun g i hg _=>absurd hg (by rw[h g];decide)
theorem TC (W:World)(htab:gG (S0 W) W):Rel (F0 W) (G0 W) ⟨[],[],[]⟩ #[] [] W where
 tm:=trivial
 stk:=trivial
 ob:=fun k cs h=>by simp at h
 gh:=⟨fun _ _ h=>(by cases h),fun _ _ _ h=>(by cases h),fun _ _ _ h=>(by cases h),fun _ _ _ _ _ h=>(by cases h),fun b o h=>(by
   obtain ⟨v,h⟩:=h
   unfold World.cell? at h
   split at h
   ·rename_i e
    exact (Array.getElem?_eq_some_iff.1 e).1
   ·cases h),⟨rfl,rfl,rfl,Nat.le_refl _,fun _ _ _=>rfl⟩,fun _ _ h=>h,fun _ _ h=>.inl h,fun _ _ _=>rfl,fun _ _ h=>(by cases h),htab⟩
def IV (oc:Oc)(A:AS):Option Unit:=match oc with
 |.ret (.one (.bool true)) _=>some ()
 |_=>none
theorem IW {f:Nat}{io:Io}{Fn:io.In→Tr io.Res}(hok:HcOk P f (ah io Fn)){args:List V}{vals:Array Value}(hargs:All2 (Rv (G0 W) W) args vals.toList)(hrun:ah io Fn Unit args 1 ⟨[],[],[]⟩ IV=some ())(htab:gG (S0 W) W:=by exact Ti (fun _=>rfl) _):
  Calls P f vals W fun e w'=>e=.returned (.bool true)∧w'.os=W.os∧w'.output=W.output∧∀i,i<W.heap.size→w'.heap[i]?=W.heap[i]?:=by
 refine (hok Unit args 1 _ IV () (F0 W) (G0 W) #[] [] W vals (fun _=>rfl) hrun (TC W htab) hargs).2.mono ?_
 rintro e w' ⟨G',A',v,u,R',hv,h⟩
 have hfr:=R'.gh.fr
 refine ⟨?_,hfr.os,hfr.output,fun i hi=>hfr.block i hi (fun h=>h)⟩
 rcases h with ⟨rfl,ks,_,hk⟩ | ⟨rfl,hk⟩
 ·unfold IV at hk
  split at hk
  ·rename_i e
   cases e
   rw[show u=.bool true from hv]
  ·cases hk
 ·cases hk
def yL (ty:Ty)(y:ty.den):V:=bif ty.isProd then .agg (nd ty y) else match nd ty y with
 |[c]=>.one c
 |_=>.any
theorem Eg {G:Gh}{ty:Ty}{y:ty.den}{v:Value}(h:Rt G.S W ty y v.cells.toList)(hp:ty.isProd=true→∃vs,v=.agg vs)(hn:ty.isProd=false→v.cells = #[v]):Rv G W (yL ty y) v:=by
 have hs:=cf (G:=G) (w:=W) ty y _ h
 unfold yL
 cases hb:ty.isProd with
 |true=>
  obtain ⟨vs,rfl⟩:=hp hb
  exact ⟨vs,rfl,hs⟩
 |false=>
  rw[hn hb] at hs
  simp only[cond_false]
  split
  ·rename_i c e
   rw[e] at hs
   exact hs.1
  ·trivial
theorem It {ty:Ty}{t:TypeId}(ht:eN P ty (.inl t)=true){r:Reach}{base:Nat}{v:Value}(hval:Value.okWide P W r base t v):(ty.isProd=true→∃vs,v=.agg vs)∧(ty.isProd=false→v.cells = #[v]):=by
 cases ty with
 |tree a e=>simp[eN] at ht
 |int k=>
  refine ⟨fun h=>(by cases h),fun _=>?_⟩
  simp only[eN] at ht
  split at ht
  ·rename_i k' hu
   cases v <;> simp[Value.okWide,hu,Cell.okWide,Cell.ok] at hval <;> rfl
  ·cases ht
 |bool=>
  refine ⟨fun h=>(by cases h),fun _=>?_⟩
  simp only[eN] at ht
  split at ht
  ·rename_i hu
   cases v <;> simp[Value.okWide,hu,Cell.okWide,Cell.ok] at hval <;> rfl
  ·cases ht
 |str=>
  refine ⟨fun h=>(by cases h),fun _=>?_⟩
  simp only[eN] at ht
  split at ht
  ·rename_i hu
   cases v <;> simp[Value.okWide,hu,Cell.okWide,Cell.ok] at hval <;> rfl
  ·cases ht
 |sl e ty=>
  refine ⟨fun h=>(by cases h),fun _=>?_⟩
  simp only[eN] at ht
  split at ht
  ·rename_i e' hu
   cases v <;> simp[Value.okWide,hu,Cell.okWide,Cell.ok] at hval <;> rfl
  ·cases ht
 |unit=>simp[eN] at ht
 |prod a b=>
  refine ⟨fun _=>?_,fun h=>(by cases h)⟩
  simp only[eN] at ht
  split at ht
  ·rename_i fs hu
   simp only[Value.okWide,hu] at hval
   obtain ⟨cs,rfl,_⟩:=hval
   exact ⟨cs,rfl⟩
  ·cases ht
def td (P:Program):Bool:=(List.range P.types.size).all fun t=>match P.underlying t with
 |some (.slice e)=>decide (0<P.cellsOf e)
 |_=>true
theorem wl (hl:laidOutB P=true)(hm:mapsRowed P=true)(hs:td P=true){W':World}(hk:∀i,i<W.heap.size→W'.heap[i]?=W.heap[i]?):∀{ts:List TypeId} {vs:List Value} {ds:List (DataW H)} {ps:List MemPlace},
  (∀t∈ts,t<P.types.size)→DataW.TrodAll enc P W 0 (fun _=>true) true ts vs ds ps→(∀p∈ps,sp p.block=true)→DataW.TrodAll enc P W' 0 sp true ts vs ds ps
 |[],[],[],_,_,h,_=>h
 |t::ts,v::vs,d::ds,ps,hT,⟨p,q,⟨fuel,h1⟩,h2,e⟩,hsp=>by
  refine ⟨p,q,⟨fuel,DataW.trod_stays (kids_rows hl hm) (fun {t e} ht hu=>?_) (fun h=>(by cases h)) (hT t (by simp)) h1 (fun x hx=>?_) fun x hx=>hsp x (by rw[e];exact List.mem_append_left _ hx)⟩,
   wl hl hm hs hk (fun t ht=>hT t (by simp[ht])) h2 (fun x hx=>hsp x (by rw[e];exact List.mem_append_right _ hx)),e⟩
  ·have:=List.all_eq_true.1 hs t (by simpa using ht)
   rw[hu] at this
   exact of_decide_eq_true this
  ·have hb:=DataW.trod_lt _ _ _ _ h1 x hx
   cases x with
   |cell b off=>simp[World.sameAt,World.cell?,hk b hb]
   |map b=>exact hk b hb
 |[],[],_::_,_,_,h,_=>h.elim
 |[],_::_,_,_,_,h,_=>h.elim
 |_::_,[],_,_,_,h,_=>h.elim
 |_::_,_::_,[],_,_,h,_=>h.elim
theorem M2 {f:Func}{s:ChangeSpec}{apart fresh handsOn again:Bool}{W':World}{args:Array Value}{ds gs:List (DataW H)}{before:List MemPlace}
  (hl:laidOutB P=true) (hm:mapsRowed P=true) (hs:td P=true) (hT:∀t∈f.params.toList,t<P.types.size) {tb:TypeId} (hr:f.resultTypes = #[tb]) (htb:P.underlying tb=some .bool) (hv:s.vars=[])
  (hW:DataW.Whole enc P f.params.toList s.vars apart W args.toList ds gs before) (hfn:s.fn H (ds++gs)={ results:=[.lit (.bool true)],args:=ds })
  (hos:W'.os=W.os) (hout:W'.output=W.output) (hk:∀i,i<W.heap.size→W'.heap[i]?=W.heap[i]?):s.post enc P f apart fresh handsOn again W args (.bool true) W':=by
 have hlt:=hW.lt
 obtain ⟨p,q,hA,hV,hpq,hfz,hnd⟩:=id hW
 rw[hv] at hV
 obtain ⟨rfl,rfl⟩:=trodVars_none hV
 rw[List.append_nil] at hpq
 subst hpq
 have hres:∀(b:Nat) (sp:Nat→Bool) (hd:Bool),DataW.TrodAll enc P W' b sp hd f.resultTypes.toList ((Value.bool true).resultList f.resultTypes.size) [.lit (.bool true)] []:=by
  intro b sp hd
  rw[hr]
  exact trodAll_cons_mk (shut_bool htb _) trodAll_mk0
 have hargs:∀sp:Nat→Bool,(∀x∈before,sp x.block=true)→DataW.TrodAll enc P W' 0 sp true f.params.toList args.toList ds before:=
  fun sp hsp=>wl hl hm hs hk hT hA hsp
 have hvars:∀sp:Nat→Bool,DataW.TrodVars enc P W' sp s.vars [] []:=by
  intro sp
  rw[hv]
  rfl
 have hold:∀x∈before,(fun b=>decide (b<W.heap.size)) x.block=true:=fun x hx=>by simpa using hlt x hx
 have hkept:∀may:MemPlace→Prop,W.keptBut W' may:=fun may=>⟨hos,hout,fun i hi=>by
  rw[hk i hi]
  cases h:W.heap[i]? with
  |none=>rfl
  |some o=>cases o <;> simp⟩
 refine ⟨ds,[],before,[],before,[],hW,by rw[hfn];exact hres _ _ _,by rw[hfn];exact hargs _ hold,by rw[hfn];exact hvars _,hkept _,fun _=>?_⟩
 refine ⟨ok_one hr rfl (okWide_bool_mk htb true),[.lit (.bool true)]++ds,[],[]++before,⟨[]++before,[],trodAll_append (hargs _ fun _ _=>rfl) (hres _ _ _),hvars _,by simp,fun b off hx=>?_,fun ha=>by simpa using hnd ha⟩,fun x hx _=>by simpa using hx⟩
 have hx:MemPlace.cell b off∈before:=by simpa using hx
 rw[← hfz b off hx]
 simp[World.frozen?,hk b (hlt _ hx)]
@[reducible] def qs:List Ty→Type
 |[]=>Unit
 |t::ts=>t.den×qs ts
def F8:(tys:List Ty)→qs tys→List V
 |[],_=>[]
 |t::ts,y=>yL t y.1::F8 ts y.2
def Ll:(tys:List Ty)→qs tys→Nat
 |[],_=>0
 |t::ts,y=>B3 t y.1+Ll ts y.2
def TK:(tys:List Ty)→qs tys→Prop
 |[],_=>True
 |t::ts,y=>t.wf y.1∧TK ts y.2
def PA (P:Program):List Ty→List TypeId→Bool
 |[],[]=>true
 |ty::tys,t::ts=>eN P ty (.inl t)&&PA P tys ts
 |_,_=>false
theorem A4 {r:Reach}{base:Nat}:∀(tys:List Ty) (ts:List TypeId),PA P tys ts=true→∀{vs:List Value} {ds:List (DataW H)} {ps:List MemPlace},DataW.TrodAll enc P W 0 sp held ts vs ds ps→
  (∀(j:Nat) t v,ts[j]?=some t→vs[j]?=some v→Value.okWide P W r base t v)→
  ∃ys:qs tys,All2 (Rv (G0 W) W) (F8 tys ys) vs∧Ll tys ys≤Rows.uptoBulkAll ds∧TK tys ys∧ds.length=tys.length
 |[],[],_,[],[],_,_,_=>⟨(),trivial,Nat.zero_le _,trivial,rfl⟩
 |ty::tys,t::ts,ht,v::vs,d::ds,_,⟨p,q,⟨fuel,h1⟩,h2,_⟩,hv=>by
  simp only[PA,zA] at ht
  obtain ⟨y,hy,hs⟩:=SX ht.1 h1
  obtain ⟨k1,k2⟩:=It ht.1 (hv 0 t v rfl rfl)
  obtain ⟨ys,g1,g2,g3,g4⟩:=A4 tys ts ht.2 h2 fun j t' v' e1 e2=>hv (j+1) t' v' (by simpa using e1) (by simpa using e2)
  refine ⟨(y,ys),⟨Eg hy k1 k2,g1⟩,?_,⟨Rt.wf ty y _ hy,g3⟩,by simp[g4]⟩
  simp only[Ll,Rows.uptoBulkAll]
  omega
 |[],[],_,[],_::_,_,h,_=>h.elim
 |[],[],_,_::_,_,_,h,_=>h.elim
 |_::_,_::_,_,[],_,_,h,_=>h.elim
 |_::_,_::_,_,_::_,[],_,h,_=>h.elim
 |[],_::_,h,_,_,_,_,_=>by cases h
 |_::_,[],h,_,_,_,_,_=>by cases h
theorem zl {fn:Func}{f:Nat}{io:Io}{Fn:io.In→Tr io.Res}(hok:HcOk P f (ah io Fn)){s:ChangeSpec}(tys:List Ty)(hts:PA P tys fn.params.toList=true)
  (hl:laidOutB P=true) (hm:mapsRowed P=true) (hs:td P=true) (hT:∀t∈fn.params.toList,t<P.types.size) {tb:TypeId} (hr:fn.resultTypes = #[tb]) (htb:P.underlying tb=some .bool) (hv:s.vars=[])
  (hfn:∀ds:List (DataW H),ds.length=tys.length→s.fn H ds={ results:=[.lit (.bool true)],args:=ds })
  (hrun:∀ys:qs tys,Ll tys ys≤1048576→TK tys ys→ah io Fn Unit (F8 tys ys) 1 ⟨[],[],[]⟩ IV=some ())
  (base:Nat) (args:Array Value) (ds gs:List (DataW H)) (before:List MemPlace)
  (hval:∀(j:Nat) t v,fn.params[j]?=some t→args[j]?=some v→Value.okWide P W .any base t v)
  (hW:DataW.Whole enc P fn.params.toList s.vars false W args.toList ds gs before) (hk:Rows.uptoSmall H (ds++gs)=true) (htab:gG (S0 W) W:=by exact Ti (fun _=>rfl) _):
  Calls P f args W fun e W'=>∃v,e=.returned v∧s.post enc P fn false true false false W args v W':=by
 have hW':=hW
 obtain ⟨p,q,hA,hV,_,_,_⟩:=hW
 rw[hv] at hV
 obtain ⟨rfl,rfl⟩:=trodVars_none hV
 obtain ⟨ys,g1,g2,g3,g4⟩:=A4 tys fn.params.toList hts hA fun j t v e1 e2=>hval j t v (by simpa using e1) (by simpa using e2)
 have hb:Rows.uptoBulkAll ds≤1048576:=by simpa [Rows.uptoSmall] using hk
 refine (IW hok (vals:=args) (args:=F8 tys ys) g1 (hrun ys (by omega) g3) htab).mono ?_
 rintro e W' ⟨rfl,hos,hout,hkeep⟩
 exact ⟨_,rfl,M2 hl hm hs hT hr htb hv hW' (by rw[List.append_nil];exact hfn ds g4) hos hout hkeep⟩
end
end Go.Proofs.YthpcdhgpplmneaaGreatDoor.Sym
namespace Go.Proofs.YthpcdhgpplmneaaGreatDoor.Sym
open Go
noncomputable section
section
variable {P:Program} {tt:TT}
end
end
end Go.Proofs.YthpcdhgpplmneaaGreatDoor.Sym
namespace Go.Proofs.YthpcdhgpplmneaaGreatDoor.Sym
open Go
def C.thaw:C→C
 |.ex e t lo xs i j=>bif Nat.beq lo 0 then .lst e t xs 0 else .top
 |.eel _ _ _ _ _=>.top
 |.lst e t xs _=>.lst e t xs 0
 |.ptr _ _=>.top
 |.fn _ _ _=>.top
 |c=>c
def V.thaw:V→V
 |.one c=>.one c.thaw
 |.agg cs=>.agg (cs.map C.thaw)
 |_=>.any
def Ty.flatB:Ty→Bool
 |.sl _ _=>false
 |.tree _ _=>false
 |.prod a b=>a.flatB&&b.flatB
 |_=>true
theorem Rt.flat {S S':Nat→Nat→Prop}{w w':World}:∀(t:Ty) (x:t.den) (cs:List Value),t.flatB=true→Rt S w t x cs→Rt S' w' t x cs
 |.int _,_,_,_,h=>h
 |.bool,_,_,_,h=>h
 |.str,_,_,_,h=>h
 |.unit,_,_,_,h=>h
 |.prod a b,_,_,hf,⟨c1,c2,e,h1,h2⟩=>by
  simp only[Ty.flatB,zA] at hf
  exact ⟨c1,c2,e,Rt.flat a _ _ hf.1 h1,Rt.flat b _ _ hf.2 h2⟩
 |.sl _ _,_,_,hf,_=>by cases hf
 |.tree _ _,_,_,hf,_=>by cases hf
def xq:C→Option C
 |.int k n=>some (.int k n)
 |.bool b=>some (.bool b)
 |.str s=>some (.str s)
 |.lst e t xs own=>bif !(own == 0)&&t.flatB then some (.ex e t 0 xs own own) else none
 |_=>none
def lP:List C→Option (List C)
 |[]=>some []
 |c::cs=>match xq c,lP cs with
  |some c,some cs=>some (c::cs)
  |_,_=>none
def up:List (Bool×List C)→Option (List (Bool×List C))
 |[]=>some []
 |p::ps=>match lP p.2,up ps with
  |some cs,some ps=>some ((p.1,cs)::ps)
  |_,_=>none
def QY:V→Option V
 |.one c=>(xq c).map .one
 |.agg cs=>(lP cs).map .agg
 |.tup ps=>(up ps).map .tup
 |.any=>none
def vf:C→List Nat
 |.lst _ _ _ own=>[own]
 |_=>[]
def M0:V→List Nat
 |.one c=>vf c
 |.agg cs=>cs.flatMap vf
 |.tup ps=>ps.flatMap fun p=>p.2.flatMap vf
 |.any=>[]
def Ef (i:Nat):List Nat→Bool
 |[]=>true
 |j::js=>Nat.beq j i&&Ef i js
noncomputable section
def Ay (h:Hc):Hc:=fun _ args id A K=>h _ (args.map V.thaw) id ⟨[],[],[]⟩ fun oc _=>match oc with
 |.ret v _=>match QY v,M0 v with
  |some v',[]=>v'.force fun v'=>K (.ret v' (some [])) A
  |some v',i::is=>bif !(i == 0)&&Ef i is then v'.force fun v'=>(A.map (C.noOwn i)).force fun A=>K (.ret v' (some [])) A else none
  |none,_=>none
 |.pan _=>none
structure Grown (w w':World):Prop where
 os:w'.os=w.os
 tape:w'.tape=w.tape
 output:w'.output=w.output
 size:w.heap.size≤w'.heap.size
 old:∀k,k<w.heap.size→w'.heap[k]?=w.heap[k]?
theorem Grown.cell {w w':World}(g:Grown w w'){b o:Nat}(hb:b<w.heap.size):w'.cell? ⟨b,o,none⟩=w.cell? ⟨b,o,none⟩:=by
 simp[World.cell?,g.old b hb]
section
variable {F:Fra} {G:Gh} {w w':World}
def Gh.owned (G:Gh)(i:Nat)(o:Option Nat):Gh:=⟨G.S,G.mu,fun j=>if j=i then o.map (·,0) else G.ow j⟩
theorem Goes.grown (h:GhOk F G w)(g:Grown w w')(i:Nat)(o:Option Nat):Goes G (G.owned i o) w w' none (some i) where
 kept:=fun b p hs=>⟨hs,g.cell (h.sB b p hs)⟩
 mu:=fun _ _ hb _=>hb
 ow:=fun j b l hj hne=>by
  have:j≠i:=fun e=>hne (by rw[e])
  exact ⟨by simp[Gh.owned,this,hj],g.old b (h.ow j b l hj).2.2.1⟩
theorem GhOk.grown (h:GhOk F G w)(g:Grown w w')(i:Nat)(o:Option Nat)(ho:∀b,o=some b→w.heap.size≤b∧b<w'.heap.size):GhOk F (G.owned i o) w' where
 mu:=fun key b hb=>let ⟨h1,h2,h3⟩:=h.mu key b hb;⟨h1,h2,Nat.lt_of_lt_of_le h3 g.size⟩
 muI:=h.muI
 ow:=fun j b l hj=>by
  simp only[Gh.owned] at hj ⊢
  split at hj
  ·cases o with
   |none=>cases hj
   |some b0=>
    simp only[Option.map_some,zC,zD] at hj
    obtain ⟨rfl,rfl⟩:=hj
    obtain ⟨h1,h2⟩:=ho b0 rfl
    exact ⟨fun p _ hs=>by have:=h.sB _ _ hs;omega,.inl (Nat.le_trans h.fr.size h1),h2,fun key hk=>by have:=(h.mu key _ hk).2.2;omega⟩
  ·obtain ⟨h1,h2,h3,h4⟩:=h.ow j b l hj
   exact ⟨h1,h2,Nat.lt_of_lt_of_le h3 g.size,h4⟩
 owI:=fun j k b l l' hj hk=>by
  simp only[Gh.owned] at hj hk
  have hb:∀b l,o.map (·,0)=some (b,l)→w.heap.size≤b:=fun b l e=>by
   cases o with
   |none=>cases e
   |some b0=>cases e;exact (ho _ rfl).1
  split at hj <;> split at hk
  ·rename_i e1 e2;exact e1.trans e2.symm
  ·have:=hb _ _ hj;have:=(h.ow k _ _ hk).2.2.1;omega
  ·have:=hb _ _ hk;have:=(h.ow j _ _ hj).2.2.1;omega
  ·exact h.owI j k b l l' hj hk
 sB:=fun b p hs=>Nat.lt_of_lt_of_le (h.sB b p hs) g.size
 fr:=h.fr.alloc g.os g.tape g.output g.size g.old
 sub:=h.sub
 sup:=h.sup
 keep:=fun b p hs=>(g.cell (h.sB b p (h.sub b p hs))).trans (h.keep b p hs)
 fix_:=h.fix_
 tab:=h.tab
theorem Rel.grown {A:AS}{ts:Array Value}{cst:List (Array Value)}(R:Rel F G A ts cst w)(g:Grown w w')(i:Nat)(o:Option Nat)(ho:∀b,o=some b→w.heap.size≤b∧b<w'.heap.size):Rel F (G.owned i o) (A.map (C.noOwn i)) ts cst w':=
 R.map (fun c v h=>h.noOwn (Goes.grown R.gh g i o)) (fun _=>rfl) (fun key b hb=>⟨hb,g.old b (R.gh.mu key b hb).2.2⟩) (R.gh.grown g i o ho)
theorem Goes.grown0 (h:GhOk F G w)(g:Grown w w'):Goes G G w w' none none where
 kept:=fun b p hs=>⟨hs,g.cell (h.sB b p hs)⟩
 mu:=fun _ _ hb _=>hb
 ow:=fun j b l hj _=>⟨hj,g.old b (h.ow j b l hj).2.2.1⟩
theorem Rel.grown0 {A:AS}{ts:Array Value}{cst:List (Array Value)}(R:Rel F G A ts cst w)(g:Grown w w'):Rel F G A ts cst w':=by
 have h0:GhOk F G w':=by
  refine ⟨fun key b hb=>?_,R.gh.muI,fun j b l hj=>?_,R.gh.owI,fun b p hs=>Nat.lt_of_lt_of_le (R.gh.sB b p hs) g.size,R.gh.fr.alloc g.os g.tape g.output g.size g.old,R.gh.sub,R.gh.sup,fun b p hs=>(g.cell (R.gh.sB b p (R.gh.sub b p hs))).trans (R.gh.keep b p hs),R.gh.fix_,R.gh.tab⟩
  ·obtain ⟨h1,h2,h3⟩:=R.gh.mu key b hb
   exact ⟨h1,h2,Nat.lt_of_lt_of_le h3 g.size⟩
  ·obtain ⟨h1,h2,h3,h4⟩:=R.gh.ow j b l hj
   exact ⟨h1,h2,Nat.lt_of_lt_of_le h3 g.size,h4⟩
 have:=R.map (f:=id) (fun c v h=>h.goes (Goes.grown0 R.gh g) (fun _ e=>by cases e) (fun _ e=>by cases e)) (fun _=>rfl) (fun key b hb=>⟨hb,g.old b (R.gh.mu key b hb).2.2⟩) h0
 rwa [AS.map_id] at this
def Ol (G:Gh):Nat→Nat→Prop:=fun b o=>G.S b o∨∃i,G.ow i=some (b,0)
def jI (G:Gh):Gh:=⟨Ol G,fun _=>none,fun _=>none⟩
def m8 (G:Gh)(w:World):Fra:=⟨w,fun _=>False,Ol G,fun _=>none⟩
theorem Om (h:GhOk F G w):Rel (m8 G w) (jI G) ⟨[],[],[]⟩ #[] [] w:=by
 have hs:∀b o,Ol G b o→b<w.heap.size:=by
  rintro b o (hs | ⟨i,hi⟩)
  ·exact h.sB b o hs
  ·exact (h.ow i b 0 hi).2.2.1
 have hg:GhOk (m8 G w) (jI G) w:=
  {mu:=fun _ _ h=>by cases h
   muI:=fun _ _ _ h=>by cases h
   ow:=fun _ _ _ h=>by cases h
   owI:=fun _ _ _ _ _ h=>by cases h
   sB:=hs
   fr:=⟨rfl,rfl,rfl,Nat.le_refl _,fun _ _ _=>rfl⟩
   sub:=fun _ _ h=>h
   sup:=fun _ _ h=>.inl h
   keep:=fun _ _ _=>rfl
   fix_:=fun _ _ h=>by cases h
   tab:=fun g i hg hi=>⟨.inl (h.tabs g i hg hi).1,(h.tabs g i hg hi).2⟩ }
 exact ⟨trivial,trivial,fun k cs hk=>by simp at hk,hg⟩
theorem ya (G:Gh)(w:World):Kept G.S (jI G).S w w:=fun _ _ h=>⟨.inl h,rfl⟩
theorem C.thaw_sound {c:C}{v:Value}(h:Rc G w c v):Rc (jI G) w c.thaw v:=by
 have hcell:=h.cell
 cases c with
 |ex e t lo xs i j=>
  simp only[C.thaw]
  cases hl:Nat.beq lo 0 with
  |false=>exact hcell
  |true=>
   have hl:=Nat.eq_of_beq_eq_true hl
   subst hl
   simp only[cond_true]
   rcases h with ⟨_,rfl,rfl⟩ | ⟨b,cap,rfl,⟨_,_,ho⟩,cur,el,hh,h1,h2,h3,h4⟩
   ·exact ⟨none,0,rfl,Nat.le_refl _,by simp[maxLen],fun hne=>absurd rfl hne,.inl rfl⟩
   ·rw[Nat.zero_add] at h2 ⊢
    refine ⟨_,cap,rfl,h2,h3,fun _=>⟨b,0,rfl,fun k x hx=>?_⟩,.inl rfl⟩
    obtain ⟨c,hc,hu⟩:=h4 k x hx
    refine ⟨c,Rt.kept (ya G w) t x c hc,fun q u hq=>?_⟩
    have:=hu q u hq
    rw[Nat.zero_add] at this ⊢
    refine ⟨.inr (by rcases ho with h | h;exact ⟨_,h⟩;exact ⟨_,h⟩),?_⟩
    rw[cM hh,Array.getElem?_toList]
    exact this
 |eel t k x i j=>exact hcell
 |lst e t xs own=>
  obtain ⟨A,cap,e,h1,h2,h3,_⟩:=h
  exact ⟨A,cap,e,h1,h2,h3.kept (ya G w),.inl rfl⟩
 |ptr k o=>exact hcell
 |fn f m caps=>exact hcell
 |ro t x=>
  obtain ⟨b,o,cs,e,h1,h2⟩:=h
  exact ⟨b,o,cs,e,Rt.kept (ya G w) t x cs h1,h2.kept (ya G w)⟩
 |ifc T t x=>
  obtain ⟨u,e,hu,ha⟩:=h
  exact ⟨u,e,Rt.kept (ya G w) t x _ hu,ha⟩
 |pin v0 t x=>exact ⟨h.1,Rt.kept (ya G w) t x _ h.2⟩
 |_=>exact h
theorem V.thaw_sound {x:V}{v:Value}(h:Rv G w x v):Rv (jI G) w x.thaw v:=by
 cases x with
 |one c=>exact C.thaw_sound h
 |agg cs=>
  obtain ⟨vs,e,hv⟩:=h
  exact ⟨vs,e,hv.map_left _ fun a b h=>C.thaw_sound h⟩
 |tup ps=>trivial
 |any=>trivial
variable {G':Gh}
def OwnsTo (G' H:Gh)(l:List Nat):Prop:=∀j∈l,j≠0∧∀b n,G'.ow j=some (b,n)→H.ow j=some (b,0)
theorem OwnsTo.l {H:Gh}{l l':List Nat}(h:OwnsTo G' H (l++l')):OwnsTo G' H l:=fun j hj=>h j (List.mem_append_left _ hj)
theorem OwnsTo.r {H:Gh}{l l':List Nat}(h:OwnsTo G' H (l++l')):OwnsTo G' H l':=fun j hj=>h j (List.mem_append_right _ hj)
theorem lO {H:Gh}{c c':C}{v:Value}(hc:xq c=some c')(ho:OwnsTo G' H (vf c))(h:Rc G' w' c v):Rc H w' c' v:=by
 cases c <;> simp only[xq] at hc <;> try cases hc
 case int=>exact h
 case bool=>exact h
 case str=>exact h
 case lst e t xs own=>
  cases hz : !(own == 0)&&t.flatB with
  |false=>rw[hz] at hc;cases hc
  |true=>
   rw[hz] at hc
   simp only[cond_true,zC] at hc
   subst hc
   simp only[zA,Bool.not_eq_true',beq_eq_false_iff_ne] at hz
   obtain ⟨hi,hown⟩:=ho own (by simp[vf])
   obtain ⟨A,cap,rfl,h1,h2,hrow,hO⟩:=h
   rcases hO with hO | ⟨rfl,rfl⟩ | ⟨b,cur,el,rfl,how,hh,hcs⟩
   ·exact absurd hO hz.1
   ·have:xs=[]:=zF (by omega)
    subst this
    exact .inl ⟨rfl,rfl,rfl⟩
   ·refine .inr ⟨b,cap,by rw[Nat.zero_add],⟨hi,hi,.inl (hown b _ how)⟩,cur,el,hh,hcs,by rw[Nat.zero_add];exact h1,h2,fun k x hx=>?_⟩
    obtain ⟨b',o',c,e',hc,ha⟩:=hrow.cellAt hx
    cases e'
    refine ⟨c,Rt.flat t x c hz.2 hc,fun q u hq=>?_⟩
    have:=(ha q u hq).2
    rw[cM hh,Array.getElem?_toList] at this
    rw[Nat.zero_add] at this ⊢
    exact this
theorem ko {H:Gh}:∀{cs cs':List C} {vs:List Value},lP cs=some cs'→OwnsTo G' H (cs.flatMap vf)→All2 (Rc G' w') cs vs→All2 (Rc H w') cs' vs
 |[],cs',vs,h,_,hv=>by simp only[lP,zC] at h;subst h;cases vs <;> exact hv
 |c::cs,cs',[],h,_,hv=>hv.elim
 |c::cs,cs',v::vs,h,ho,hv=>by
  simp only[lP] at h
  split at h
  ·rename_i c' cs'' h1 h2
   cases h
   rw[List.flatMap_cons] at ho
   exact ⟨lO h1 ho.l hv.1,ko h2 ho.r hv.2⟩
  ·cases h
theorem EC {c:C}{cs':List C}(h:lP [c]=some cs'):∃c',xq c=some c'∧cs'=[c']:=by
 simp only[lP] at h
 cases hc:xq c with
 |none=>rw[hc] at h;cases h
 |some c'=>rw[hc] at h;cases h;exact ⟨c',rfl,rfl⟩
theorem pw {H:Gh}:∀{ps ps':List (Bool×List C)} {us:List Value},up ps=some ps'→OwnsTo G' H (ps.flatMap fun p=>p.2.flatMap vf)→All2 (RcOne G' w') ps us→All2 (RcOne H w') ps' us
 |[],ps',us,h,_,hv=>by simp only[up,zC] at h;subst h;cases us <;> exact hv
 |p::ps,ps',[],h,_,hv=>hv.elim
 |(b,cs0)::ps,ps',u::us,h,ho,hv=>by
  simp only[up] at h
  split at h
  ·rename_i cs ps'' h1 h2
   cases h
   rw[List.flatMap_cons] at ho
   refine ⟨?_,pw h2 ho.r hv.2⟩
   have o1:=ho.l
   rcases hv.1 with ⟨e1,vs,e2,h3⟩ | ⟨e1,c,e2,h3⟩
   ·exact .inl ⟨e1,vs,e2,ko h1 o1 h3⟩
   ·simp only at e2
    subst e2
    obtain ⟨c',hc',rfl⟩:=EC h1
    exact .inr ⟨e1,c',rfl,lO hc' (by simpa using o1) h3⟩
  ·cases h
theorem rH {H:Gh}{x x':V}{v:Value}(hx:QY x=some x')(ho:OwnsTo G' H (M0 x))(h:Rv G' w' x v):Rv H w' x' v:=by
 cases x with
 |one c=>
  obtain ⟨c',hc,rfl⟩:=Option.map_eq_some_iff.1 hx
  exact lO hc ho h
 |agg cs=>
  obtain ⟨cs',hc,rfl⟩:=Option.map_eq_some_iff.1 hx
  obtain ⟨vs,e,hv⟩:=h
  exact ⟨vs,e,ko hc ho hv⟩
 |tup ps=>
  obtain ⟨ps',hc,rfl⟩:=Option.map_eq_some_iff.1 hx
  obtain ⟨us,e,hv⟩:=h
  exact ⟨us,e,pw hc ho hv⟩
 |any=>cases hx
theorem AZ {i:Nat}:∀{l:List Nat},Ef i l=true→∀j∈l,j=i
 |[],_,j,hj=>by cases hj
 |m::l,h,j,hj=>by
  simp only[Ef,zA] at h
  rcases List.mem_cons.1 hj with rfl | hj
  ·exact Nat.eq_of_beq_eq_true h.1
  ·exact AZ h.2 j hj
end
theorem oG {P:Program}{f:Nat}{h:Hc}(hok:HcOk P f h):HcOk P f (Ay h):=by
 intro R args id A K r F G ts cst w vals hid hrun Rl hv
 have hthaw:∀{vs:List V} {us:List Value},All2 (Rv G w) vs us→All2 (Rv (jI G) w) (vs.map V.thaw) us:=fun hh=>hh.map_left _ fun a b h=>V.thaw_sound h
 obtain ⟨hfn,hcalls⟩:=hok R (args.map V.thaw) id ⟨[],[],[]⟩ _ r (m8 G w) (jI G) #[] [] w vals (fun _=>rfl) hrun (Om Rl.gh) (hthaw hv)
 refine ⟨hfn,hcalls.mono ?_⟩
 rintro e w' ⟨G',A',v,u,R',hu,⟨he,ks,_,hk⟩ | ⟨_,hk⟩⟩
 ·have hg:Grown w w':=⟨R'.gh.fr.os,R'.gh.fr.tape,R'.gh.fr.output,R'.gh.fr.size,fun k hk=>R'.gh.fr.block k hk (fun h=>h)⟩
  have hfresh:∀i b l,G'.ow i=some (b,l)→w.heap.size≤b∧b<w'.heap.size:=fun i b l hi=>by
   obtain ⟨_,h2,h3,_⟩:=R'.gh.ow i b l hi
   exact ⟨by rcases h2 with h | h;exact h;exact h.elim,h3⟩
  simp only[V.force_eq,AS.force_eq] at hk
  split at hk
  ·rename_i v' hv' ho
   have R2:=Rl.grown0 hg
   exact ⟨G,A,v',u,R2,rH hv' (fun j hj=>by rw[ho] at hj;cases hj) hu,.inl ⟨he,some [],⟨(Goes.grown0 Rl.gh hg).kept,fun key b _ hb=>⟨hb,hg.old b (Rl.gh.mu key b hb).2.2⟩⟩,hk⟩⟩
  ·rename_i v' i is hv' ho
   cases hz : !(i == 0)&&Ef i is with
   |false=>rw[hz] at hk;cases hk
   |true=>
    rw[hz] at hk
    simp only[cond_true] at hk
    simp only[zA,Bool.not_eq_true',beq_eq_false_iff_ne] at hz
    have hall:Ef i (M0 v)=true:=by rw[ho];simp[Ef,hz.2]
    have hob:∀b,(G'.ow i).map (·.1)=some b→w.heap.size≤b∧b<w'.heap.size:=fun b hb=>by
     obtain ⟨p,hp,rfl⟩:=Option.map_eq_some_iff.1 hb
     exact hfresh i p.1 p.2 hp
    refine ⟨_,_,v',u,Rl.grown hg i ((G'.ow i).map (·.1)) hob,rH hv' (fun j hj=>by
     have:=AZ hall j hj
     subst this
     exact ⟨hz.1,fun b n hb=>by simp[Gh.owned,hb]⟩) hu,.inl ⟨he,some [],⟨(Goes.grown Rl.gh hg i _).kept,fun key b _ hb=>⟨hb,hg.old b (Rl.gh.mu key b hb).2.2⟩⟩,hk⟩⟩
  ·cases hk
 ·cases hk
end
end Go.Proofs.YthpcdhgpplmneaaGreatDoor.Sym
namespace Go.Proofs.YthpcdhgpplmneaaGreatDoor.Sym
open Go
open Go.IntKind (i8 i16 i32 i64 u8 u16 u32 u64)
noncomputable section
def ul (tt:TT)(kb:Nat)(ops:Array Oper):List Nat→AS→Option AS
 |[],A=>some A
 |i::is,A=>match ops[i]? with
  |none=>none
  |some o=>match o.guard with
   |some _=>none
   |none=>match OT tt (cP kb (o.dst.getD 0)) A o.type o.op with
    |some (chk,v)=>bif chk then ul tt kb ops is (A.put o.dst v) else none
    |none=>match o.op with
     |.load t x=>match opd A x with
      |.one (.eel t' k d i j)=>bif t'.size == (tt.at t).size then (match gx tt t (nd t' d) with
        |some v=>ul tt kb ops is (A.put o.dst v)
        |none=>none) else none
      |_=>none
     |_=>none
theorem zm {P:Program}{tt:TT}(htt:ch P tt){G:Gh}{w:World}{a:Act}{x:Operand}{t k i j:Nat}{t':Ty}{d:t'.den}{v:V}(hz:(t'.size == (tt.at t).size)=true)(hp:gx tt t (nd t' d)=some v)(hx:Rc G w (.eel t' k d i j) (a.eval x)):
  ∃u,Rv G w v u∧∀o:Oper,o.op=.load t x→(execOp a.eval o).run P w=.ok (.value u) w:=by
 obtain ⟨b,cap,eu,_,cur,el,hh,_,_,_,h4⟩:=hx
 obtain ⟨cs,hr,hu⟩:=h4 0 d rfl
 have h2:=cf t' d cs hr
 obtain ⟨u,hru,hrv⟩:=iJ (P:=P) (b:=b) (o:=k*t'.size) htt hp h2 (by rw[h2.length,Rt.len _ _ _ hr];simpa using hz) (fun j u hj=>by
  rw[cM hh]
  have:=hu j u hj
  simpa using this)
 exact ⟨u,hrv,fun o ho=>by simp[execOp,ho,Instr.loadAt,eu,Instr.sureAddr,hru]⟩
theorem eZ {P:Program}{tt:TT}(htt:ch P tt){F:Fra}{G:Gh}{cst:List (Array Value)}{w:World}{kb:Nat}{ops:Array Oper}{Q:Exit→Act→World→Prop}:
  ∀{is rest:List Nat} {A A':AS} {a:Act},ul tt kb ops is A=some A'→Rel F G A a.tmps cst w→
   (∀a',Rel F G A' a'.tmps cst w→a'.defers=a.defers→wpOps P ops Q rest a' w)→wpOps P ops Q (is++rest) a w
 |[],rest,A,A',a,h,R,hK=>by
  simp only[ul,zC] at h
  subst h
  exact hK a R rfl
 |i::is,rest,A,A',a,h,R,hK=>by
  simp only[ul] at h
  simp only[List.cons_append,wpOps]
  cases ho:ops[i]? with
  |none=>rw[ho] at h;cases h
  |some o=>
   rw[ho] at h
   simp only at h ⊢
   cases hg:o.guard with
   |some g=>rw[hg] at h;cases h
   |none=>
    rw[hg] at h
    simp only at h
    rw[if_pos (by simp[Region.wanted,hg])]
    refine .inl ?_
    unfold Oper.wp
    have fin:∀v u,Rv G w v u→ul tt kb ops is (A.put o.dst v)=some A'→wpOps P ops Q (is++rest) (a.put o.dst u) w:=fun v u hv h'=>
     eZ htt h' (R.puts hv o.dst) fun a' R' hd'=>hK a' R' (hd'.trans (Act.put_defers' _ _ _))
    split at h
    ·rename_i chk v he
     cases chk with
     |false=>cases h
     |true=>
      obtain ⟨u,hu,hv⟩:=mI htt R.gh.tabs (fun x=>R.opd x) R.ob o he rfl
      rw[hu,Oper.upon_value]
      exact fin v u hv h
    ·split at h
     ·rename_i t x hop
      split at h
      ·rename_i t' k d i' j e1
       cases hz:t'.size == (tt.at t).size with
       |false=>rw[hz] at h;cases h
       |true=>
        rw[hz] at h
        simp only[cond_true] at h
        split at h
        ·rename_i v hp
         have hx:=R.opd x
         rw[e1] at hx
         obtain ⟨u,hv,hr⟩:=zm (P:=P) htt hz hp hx
         rw[hr o hop,Oper.upon_value]
         exact fin v u hv h
        ·cases h
      ·cases h
     ·cases h
def gb (lo:Nat)(zs xs:LI):LI:=(zs.drop lo).take xs.length++xs.drop (zs.length - lo)
def C.over (i:Nat)(zs:LI):C→C
 |.lst e t xs own=>.lst e t xs (bif own == i then 0 else own)
 |.ex e t lo xs a b=>bif !(a == i)&&!(b == i) then .ex e t lo xs a b else
   (if h:t=.int .u8 then (bif (a == i)&&(b == i) then .ex e (.int .u8) lo (gb lo zs (h▸xs:List (Ty.int .u8).den)) a b
    else bif Nat.beq lo 0 then .ex e (.int .u8) zs.length (List.drop zs.length (h▸xs:List (Ty.int .u8).den)) a b else .top) else .top)
 |.eel t k x a b=>bif !(a == i)&&!(b == i) then .eel t k x a b else .top
 |c=>c
def C.longs (i:Nat):C→List Nat
 |.ex _ _ _ xs a b=>bif (!(a == i)&&!(b == i)) || ((a == i)&&(b == i)) then [] else [xs.length]
 |_=>[]
def ff (x:Int):Int:=bZ .u8 x 90
def AJ:Hc:=fun _ args _ A K=>match args with
 |[.one (.ex _ t lo xs i j)]=>bif Nat.beq i j&&Nat.beq lo 0 then (if h:t=.int .u8 then
   (bif dM xs.length (A.coll (C.longs i)) then (A.map (C.over i (List.map ff (h▸xs:List (Ty.int .u8).den)))).force fun A=>K (.ret (.tup []) (some [])) A else none) else none) else none
 |_=>none
theorem nq (lo:Nat)(zs xs:LI):(gb lo zs xs).length=xs.length:=by simp[gb];omega
theorem FE (lo:Nat)(zs xs:LI)(k:Nat)(x:Int)(h:(gb lo zs xs)[k]?=some x):(lo+k<zs.length∧zs[lo+k]?=some x)∨(zs.length≤lo+k∧xs[k]?=some x):=by
 have hk:k<xs.length:=by rw[← nq lo zs xs];exact (List.getElem?_eq_some_iff.1 h).1
 unfold gb at h
 rw[List.getElem?_append] at h
 split at h
 ·rename_i hlt
  simp at hlt
  rw[List.getElem?_take,if_pos hk,List.getElem?_drop] at h
  exact .inl ⟨by omega,h⟩
 ·rename_i hlt
  simp at hlt
  rw[List.getElem?_drop] at h
  refine .inr ⟨by omega,?_⟩
  rw[← h]
  congr 1
  simp
  omega
theorem rT {zs xs:LI}(h:zs.length=xs.length):gb 0 zs xs=zs:=by
 simp[gb,h]
 rw[← h];simp
theorem Rel.over {F:Fra}{G:Gh}{A:AS}{ts:Array Value}{cst:List (Array Value)}{w w':World}(R:Rel F G A ts cst w){b i:Nat}{zs:LI}{cur cur':Array Value}{el:TypeId}
  (ho:G.ow i=some (b,0)) (hwr:Wrote w w' b) (hh:w.heap[b]?=some (.cells cur el (0,0))) (hh':w'.heap[b]?=some (.cells cur' el (0,0))) (hsz:cur'.size=cur.size)
  (hlow:∀(k:Nat) (z:Int),zs[k]?=some z→cur'[k]?=some (Value.int .u8 z)∧bt .u8 z) (hhigh:∀q:Nat,zs.length≤q→cur'[q]?=cur[q]?) (hg:dM zs.length (A.coll (C.longs i))=true):Rel F G (A.map (C.over i zs)) ts cst w':=by
 have R0:=R
 rw[← AS.upto_eq (gH _) hg] at R0
 have e:(A.map (C.upto (C.longs i) (dM zs.length))).map (C.over i zs)=A.map (C.over i zs):=by rw[AS.upto_eq (gH _) hg]
 have hk:=(Goes.exWrote R.gh ho hwr).kept
 have key:∀c v,Rc G w c v→dM zs.length (c.longs i)=true→Rc G w' (c.over i zs) v:=by
  intro c v hc hl
  have hcell:=hc.cell
  have go:=Goes.exWrote R.gh ho hwr
  cases c with
  |lst e t xs own=>
   have h0:=hc.beyond R.gh ho hwr hh hh' hsz (fun t2 lo2 xs2 i2 j2 cap2 hform _=>by rcases hform with ⟨h,_⟩ | ⟨_,h⟩ <;> cases h)
   simp only[C.over]
   obtain ⟨A',cap,e0,h1,h2,h3,h4⟩:=h0
   refine ⟨A',cap,e0,h1,h2,h3,?_⟩
   cases hb:own == i with
   |true=>exact .inl rfl
   |false=>exact h4
  |ex e t lo xs a b'=>
   simp only[C.over]
   cases hn : !(a == i)&&!(b' == i) with
   |true=>
    simp only[cond_true]
    simp only[zA,Bool.not_eq_true',beq_eq_false_iff_ne] at hn
    exact hc.goes go (fun _ e=>by cases e) (fun j e=>by cases e;simp[C.hasOwn,hn.1,hn.2])
   |false=>
    simp only[cond_false]
    split
    ·rename_i ht
     subst ht
     simp only
     cases hy:(a == i)&&(b' == i) with
     |true=>
      simp only[cond_true]
      simp only[zA,beq_iff_eq] at hy
      obtain ⟨rfl,rfl⟩:=hy
      have hlen:=nq lo zs xs
      rcases hc with ⟨rfl,rfl,e0⟩ | ⟨bl,cap,e0,⟨n1,n2,ho2⟩,cu,el2,hb2,h1,h2,h3,h4⟩
      ·exact .inl ⟨rfl,zF hlen,e0⟩
      ·have hbb:bl=b:=by rcases ho2 with h | h <;> (rw[ho] at h;cases h;rfl)
       subst hbb
       rw[hh] at hb2;cases hb2
       have hlen':List.length (α:=(Ty.int .u8).den) (gb lo zs xs)=xs.length:=hlen
       refine .inr ⟨bl,cap,by rw[hlen'];exact e0,⟨n1,n2,ho2⟩,cur',el,hh',hsz.trans h1,by rw[hlen'];exact h2,h3,fun k x hx=>?_⟩
       rcases FE lo zs xs k x hx with ⟨hlt,hz⟩ | ⟨hge,hxk⟩
       ·obtain ⟨g1,g2⟩:=hlow _ _ hz
        refine ⟨[.int .u8 x],⟨rfl,g2⟩,fun q u hq=>?_⟩
        cases q with
        |succ q=>simp at hq
        |zero=>
         simp only[List.getElem?_cons_zero,zC] at hq
         subst hq
         simpa [Ty.size] using g1
       ·obtain ⟨c,hcr,hu⟩:=h4 k x hxk
        refine ⟨c,Rt.kept hk _ _ _ hcr,fun q u hq=>?_⟩
        have hqs:q<1:=by have:=Rt.len _ _ _ hcr;rw[show (Ty.int .u8).size=1 from rfl] at this;rw[← this];exact (List.getElem?_eq_some_iff.1 hq).1
        have:=hu q u hq
        rw[hhigh _ (by simp only[Ty.size];omega)]
        exact this
     |false=>
      simp only[cond_false]
      simp only[C.longs,hn,hy,Bool.or_self,cond_false,dM,Bool.and_true,zB] at hl
      cases hlo:Nat.beq lo 0 with
      |false=>exact hcell
      |true=>
       simp only[cond_true]
       have hlo:=Nat.eq_of_beq_eq_true hlo
       subst hlo
       rcases hc with ⟨_,rfl,e0⟩ | ⟨bl,cap,e0,⟨n1,n2,ho2⟩,cu,el2,hb2,h1,h2,h3,h4⟩
       ·have:zs=[]:=zF (by simpa using hl)
        subst this
        exact .inl ⟨rfl,rfl,e0⟩
       ·have hdl:zs.length+(List.drop zs.length xs).length=0+xs.length:=by simp;omega
        by_cases hbb:bl=b
        ·subst hbb
         rw[hh] at hb2;cases hb2
         refine .inr ⟨bl,cap,by rw[hdl];exact e0,⟨n1,n2,ho2⟩,cur',el,hh',hsz.trans h1,by rw[hdl];exact h2,h3,fun k x hx=>?_⟩
         rw[List.getElem?_drop] at hx
         obtain ⟨c,hcr,hu⟩:=h4 _ x hx
         refine ⟨c,Rt.kept hk _ _ _ hcr,fun q u hq=>?_⟩
         have:=hu q u hq
         rw[hhigh _ (by simp only[Ty.size];omega)]
         rw[Nat.zero_add] at this
         exact this
        ·refine .inr ⟨bl,cap,by rw[hdl];exact e0,⟨n1,n2,ho2⟩,cu,el2,(hwr.other bl hbb).trans hb2,h1,by rw[hdl];exact h2,h3,fun k x hx=>?_⟩
         rw[List.getElem?_drop] at hx
         obtain ⟨c,hcr,hu⟩:=h4 _ x hx
         refine ⟨c,Rt.kept hk _ _ _ hcr,fun q u hq=>?_⟩
         have:=hu q u hq
         rw[Nat.zero_add] at this
         exact this
    ·exact hcell
  |eel t' k' x a b'=>
   simp only[C.over]
   cases hn : !(a == i)&&!(b' == i) with
   |true=>
    simp only[cond_true]
    simp only[zA,Bool.not_eq_true',beq_eq_false_iff_ne] at hn
    exact hc.goes go (fun _ e=>by cases e) (fun j e=>by cases e;simp[C.hasOwn,hn.1,hn.2])
   |false=>exact hcell
  |ro t x=>exact hc.goes go (fun _ e=>by cases e) (fun _ _=>rfl)
  |fn f m caps=>exact hc.goes go (fun _ e=>by cases e) (fun _ _=>rfl)
  |ifc T t x=>exact hc.goes go (fun _ e=>by cases e) (fun _ _=>rfl)
  |pin v0 t x=>exact hc.goes go (fun _ e=>by cases e) (fun _ _=>rfl)
  |_=>exact hc
 have R1:=R.exWrote ho hwr (f:=fun c=>if dM zs.length (c.longs i)=true then c.over i zs else .top) (fun c v hc=>by
  split
  ·rename_i h;exact key c v hc h
  ·exact hc.cell) (fun x=>rfl)
 have e2:A.map (fun c=>if dM zs.length (c.longs i)=true then c.over i zs else .top)=A.map (C.over i zs):=by
  rw[← e]
  conv=>lhs;rw[← AS.upto_eq (gH _) hg]
  obtain ⟨tm,stk,ob⟩:=A
  have hf:∀c:C,(if dM zs.length ((c.upto (C.longs i) (dM zs.length)).longs i)=true then (c.upto (C.longs i) (dM zs.length)).over i zs else .top)=(c.upto (C.longs i) (dM zs.length)).over i zs:=by
   intro c
   unfold C.upto
   cases h:dM zs.length (c.longs i) with
   |true=>simp[h]
   |false=>simp[C.longs,dM,C.over]
  have hcs:∀cs:List C,(cs.map (C.upto (C.longs i) (dM zs.length))).map (fun c=>if dM zs.length (c.longs i)=true then c.over i zs else .top)=(cs.map (C.upto (C.longs i) (dM zs.length))).map (C.over i zs):=by
   intro cs
   rw[List.map_map,List.map_map]
   exact List.map_congr_left fun c _=>hf c
  have hv:∀v:V,(v.map (C.upto (C.longs i) (dM zs.length))).map (fun c=>if dM zs.length (c.longs i)=true then c.over i zs else .top)=(v.map (C.upto (C.longs i) (dM zs.length))).map (C.over i zs):=by
   intro v
   cases v with
   |one c=>simp only[V.map];rw[hf c]
   |agg cs=>simp only[V.map];rw[hcs cs]
   |tup ps=>
    simp only[V.map,List.map_map]
    congr 1
    refine List.map_congr_left fun p _=>?_
    simp only[Function.comp_apply]
    rw[hcs p.2]
   |any=>rfl
  simp only[AS.map,List.map_map,AS.mk.injEq]
  refine ⟨List.map_congr_left fun v _=>hv v,List.map_congr_left fun l _=>?_,List.map_congr_left fun o _=>?_⟩
  ·simp only[Function.comp_apply,List.map_map]
   exact List.map_congr_left fun v _=>hv v
  ·cases o with
   |none=>rfl
   |some cs=>simp only[Function.comp_apply,Option.map_some];rw[hcs cs]
 rw[e2] at R1
 exact R1
abbrev SH:Io:=⟨[],[],[],[.dat .bool false false],none⟩
def Io.runX (tt:TT)(hd:Hd)(okDraw:Dr)(lp:Lp)(io:Io)(fn:Func)(A0:AS):Option io.Res:=
 match fn.body with
 |some c=>ev tt hd okDraw lp 0 (fv fn) c (fv fn) [] A0 (io.fin tt fn)
 |none=>none
theorem EA {P:Program}{tt:TT}(htt:ch P tt)(hm:P.follows .mixedOrders=true){hd:Hd}(hh:j0 P hd){okDraw:Dr}(hdr:gX P tt okDraw){f:Nat}{fn:Func}(hf:P.funcs[f]?=some fn){lp:Lp}
  (hlp:LpsOk P 0 lp (AM fn) 0) {r:Bool} {F:Fra} {G:Gh} {A:AS} {ts:Array Value} {cst:List (Array Value)} {w:World} {vals:Array Value} {id:Nat} (hid:∀d,F.mu0 (id / 2+d)=none) (Rl:Rel F G A ts cst w)
  {ow:List (Nat×Nat)} {A0:AS} (R0:Rel (il G w [] ow) (fu G [] ow) A0 (vals++Array.replicate (fn.ntmps - vals.size) undef) [] w)
  (hrun:Io.runX tt hd okDraw lp SH fn A0=some (.ret ((r,()),()))) {R':Type} {K:Oc→AS→Option R'} {rr:R'} (hK:K (.ret (.one (.bool r)) (some [])) (A.map (C.strip (ow.map (·.2)) []))=some rr):
  Calls P f vals w fun e w'=>∃G' A' v u,Rel F G' A' ts cst w'∧Rv G' w' v u∧
   ((e=.returned u∧∃ks,Unt G G' (IS ks) w w'∧K (.ret v ks) A'=some rr)∨(e=.panicked [{ v:=u,recovered:=false }]∧K (.pan v) A'=some rr)):=by
 obtain ⟨c,hc⟩:∃c,fn.body=some c:=by
  cases hb:fn.body with
  |none=>simp only[Io.runX,hb] at hrun;cases hrun
  |some c=>exact ⟨c,rfl⟩
 simp only[Io.runX,hc] at hrun
 have hfc:bj fn=c:=by unfold bj;rw[hc]
 have hkb:∀d,(il G w [] ow).mu0 (0+d)=none:=fun d=>rfl
 have hl:=hlp.all
 unfold AM at hl
 rw[hfc] at hl
 refine calls_of_wp hf hc (cO htt hm hh hdr hkb c hl hrun R0 ?_)
 intro ex A' G' a' w' Re hdf hk
 have fin:ij tt SH fn A'=some (.ret ((r,()),()))→∃v,(results fn a'.tmps).run P w'=.ok v w'∧(∃G' A' v_1 u,Rel F G' A' ts cst w'∧Rv G' w' v_1 u∧
   ((Ending.returned v=.returned u∧∃ks,Unt G G' (IS ks) w w'∧K (.ret v_1 ks) A'=some rr)∨(Ending.returned v=.panicked [{ v:=u,recovered:=false }]∧K (.pan v_1) A'=some rr))):=by
  intro hfin
  unfold ij at hfin
  split at hfin
  ·rename_i r0 β g1
   split at hfin
   ·rename_i o β' g2
    cases hnd:br ((fS _root_.id SH.res (fn.results.toList.map (vl tt A')) 0++la A'.ob β' β' (SH.obs++SH.nobs) 0).map (·.2)) with
    |false=>rw[hnd] at hfin;cases hfin
    |true=>
     rw[hnd] at hfin
     simp only[cond_true,zC,Out.ret.injEq,zD] at hfin
     obtain ⟨us,hres,hus⟩:=ml htt Re fn (oB g1)
     obtain ⟨_,g3,_⟩:=j4 g1 hus
     obtain ⟨u,us',rfl,⟨hrt,_,hone⟩,hnil⟩:=g3 β (.refl _)
     have hnil:us'=[]:=hnil
     subst hnil
     have hr0:r0.1=r:=by rw[hfin.1]
     rw[hr0] at hrt
     have hu:u.cells = #[u]:=by
      have:=hone rfl
      cases u <;> first | rfl | cases this
     rw[hu] at hrt
     have hub:u=.bool r:=by
      have h1:[u]=[Value.bool r]:=hrt
      simpa using h1
     subst hub
     refine ⟨_,hres,?_⟩
     have hgo:=uZ (I:=ow.map (·.2)) (OW:=[]) (base:=id / 2) (nn:=0) (mn:=fun _=>none) Rl.gh Re.gh (fun p hp=>List.mem_map.2 ⟨p,hp,rfl⟩) rfl hid (fun _ _ h=>by cases h) (fun _ _ _ h=>by cases h)
     have hval:∀c v,Rc G w c v→Rc (cd G G' (ow.map (·.2)) [] (id / 2) 0 fun _=>none) w' (c.strip (ow.map (·.2)) []) v:=fun c v hc=>
      qX (base:=id / 2) (nn:=0) (mn:=fun _=>none) Rl.gh Re.gh (fun p hp=>List.mem_map.2 ⟨p,hp,rfl⟩) (OW:=[]) (fun p hp=>by cases hp) hc
     have hheap:∀key b,G.mu key=some b→(cd G G' (ow.map (·.2)) [] (id / 2) 0 fun _=>none).mu key=some b∧w'.heap[b]?=w.heap[b]?:=fun key b hb=>
      ⟨by simp only[cd];rw[if_neg (by omega)];exact hb,kZ Rl.gh Re.gh hb fun j hj=>by
       obtain ⟨k,hk,_⟩:=eU hj
       simp[Bn.at] at hk⟩
     refine ⟨_,_,.one (.bool r),.bool r,Rl.map hval (rh _ _) hheap hgo,rfl,.inl ⟨rfl,some [],⟨fun b o hs=>⟨Re.gh.sub b o hs,Re.gh.keep b o hs⟩,fun key b _ hb=>hheap key b hb⟩,hK⟩⟩
   ·cases hfin
  ·cases hfin
 cases ex with
 |normal=>exact ⟨hdf,fin hk⟩
 |ret=>exact ⟨hdf,fin hk⟩
 |exit i=>cases hk
 |panic v=>
  simp only[Io.fin] at hk
  split at hk
  ·rename_i x _;exact nomatch x
  ·cases hk
abbrev T8:Code:=bj Tryz.f48
abbrev TE:Code:=(bX Tryz.f48 0).2.1
def Tw:Code→Code
 |.block _ b=>b
 |c=>c
abbrev N5:Array Oper:=fb (iL T8)
abbrev N6:Array Oper:=fb (iL (iL TE))
abbrev JT:Array Oper:=fb (Tw (iL (gy TE)))
abbrev N7:Array Oper:=fb (gy (gy TE))
abbrev OA:Ty:=.int .u8
abbrev Is (n:Nat):List V:=List.replicate n .any
abbrev GS (xs:LI):V:=.one (.ex 5 OA 0 xs 1 1)
def jG (k:Nat)(xs:LI):LI:=(xs.take k).map ff++xs.drop k
theorem DI (k:Nat)(xs:LI):(jG k xs).length=xs.length:=by simp[jG];omega
theorem Ob {k:Nat}{xs:LI}(h:k<xs.length):(jG k xs).getD k 0=xs[k]:=by
 unfold jG
 rw[List.getD_eq_getElem?_getD,List.getElem?_append_right (by simp;omega)]
 have:k - (List.map ff (List.take k xs)).length=0:=by simp;omega
 rw[this,List.getElem?_drop]
 simp[h]
theorem Od {k:Nat}{xs:LI}(h:k<xs.length):(jG k xs).set k (ff xs[k])=jG (k+1) xs:=by
 unfold jG
 rw[List.set_append_right _ _ (by simp;omega)]
 have:k - (List.map ff (List.take k xs)).length=0:=by simp;omega
 rw[this,zE h,List.set_cons_zero,List.take_succ_eq_append_getElem h]
 simp only[List.map_append,zL,List.map_nil,zK,zM]
def Tq (ys:LI)(k:Int):AS:=⟨[GS ys,.any,.one (.int .i64 k)]++Is 14,[],[]⟩
abbrev N4 (ys:LI)(k:Int):Int:=((0:Nat):Int)+(ys.length:Int)
def Sq (ys:LI)(k:Int):AS:=⟨[GS ys,.any,.one (.int .i64 k),.one (.int .i64 k),GS ys,.one (.int .i64 (N4 ys k)),.one (.bool (decide (k<N4 ys k)))]++Is 10,[],[]⟩
theorem TS (ys:LI):ul tt 0 N5 [0] ⟨GS ys::Is 16,[],[]⟩=some (Tq ys 0):=by kernel_rfl
theorem TU (ys:LI)(k:Int):ul tt 0 N6 [0,1,2,3] (Tq ys k)=some (Sq ys k):=by kernel_rfl
abbrev TV (ys:LI)(k:Nat):V:=.one (.eel OA k (ys.getD k 0) 1 1)
def Sr (ys:LI)(k:Nat):AS:=⟨[GS ys,.any,.one (.int .i64 k),.one (.int .i64 k),GS ys,.one (.int .i64 (N4 ys k)),.one (.bool (decide ((k:Int)<N4 ys k))),.any,.any,
 GS ys,.one (.int .i64 k),GS ys,.one (.int .i64 k),TV ys k,.one (.int .u8 (ys.getD k 0)),.one (.int .u8 (ff (ys.getD k 0))),TV ys k],[],[]⟩
theorem T7 (ys:LI)(k:Nat):ul tt 0 JT [0,1,2,3,4,5,6,7] (Sq ys k)=bif decide (((0:Nat):Int)≤(k:Int))&&decide ((k:Int)<((0:Nat):Int)+(ys.length:Int)) then some (Sr ys k) else none:=by
 have h:ul tt 0 JT [0,1,2,3,4,5,6,7] (Sq ys k)=bif decide (((0:Nat):Int)≤(k:Int))&&decide ((k:Int)<((0:Nat):Int)+(ys.length:Int)) then (bif decide (((0:Nat):Int)≤(k:Int))&&decide ((k:Int)<((0:Nat):Int)+(ys.length:Int)) then some (Sr ys k) else none) else none:=by kernel_rfl
 rw[h]
 cases (decide (((0:Nat):Int)≤(k:Int))&&decide ((k:Int)<((0:Nat):Int)+(ys.length:Int))) <;> rfl
def TW (ys:LI)(k:Nat):AS:=((Sr ys k).map (C.updEx 1 OA k (ff (ys.getD k 0)))).put none (.tup [])
theorem T6 (ys:LI)(k:Nat):ul tt 0 N7 [0,1,2] (TW ys k)=some ⟨[GS (iQ 0 k ys (ff (ys.getD k 0))),.any,.one (.int .i64 (IntKind.wrap .i64 ((k:Int)+1))),.one (.int .i64 k),GS (iQ 0 k ys (ff (ys.getD k 0))),.one (.int .i64 (N4 ys k)),.one (.bool (decide ((k:Int)<N4 ys k))),
 .one (.int .i64 k),.one (.int .i64 (IntKind.wrap .i64 ((k:Int)+1))),GS (iQ 0 k ys (ff (ys.getD k 0))),.one (.int .i64 k),GS (iQ 0 k ys (ff (ys.getD k 0))),.one (.int .i64 k),.one .top,.one (.int .u8 (ys.getD k 0)),.one (.int .u8 (ff (ys.getD k 0))),.one .top],[],[]⟩:=by kernel_rfl
def Ts (w:World)(b:Nat):Nat→Nat→Prop:=fun b' o=>b'≠b∧∃v,w.cell? ⟨b',o,none⟩=some v
def DA (w:World)(b:Nat):Fra:=⟨w,fun b'=>b'=b,Ts w b,fun _=>none⟩
def re (w:World)(b:Nat):Gh:=⟨Ts w b,fun _=>none,fun j=>if j=1 then some (b,0) else none⟩
theorem QF {w:World}{b:Nat}(hb:b<w.heap.size)(ht:gG (Ts w b) w):GhOk (DA w b) (re w b) w where
 mu:=fun _ _ h=>by cases h
 muI:=fun _ _ _ h=>by cases h
 ow:=fun i b' l h=>by
  simp only[re] at h
  split at h
  ·cases h;exact ⟨fun _ _ h=>h.1 rfl,.inr rfl,hb,fun _ h=>by cases h⟩
  ·cases h
 owI:=fun i j b' l l' h h'=>by
  simp only[re] at h h'
  by_cases e1:i=1
  ·by_cases e2:j=1
   ·rw[e1,e2]
   ·rw[if_neg e2] at h';cases h'
  ·rw[if_neg e1] at h;cases h
 sB:=fun b' o h=>by
  obtain ⟨_,v,h⟩:=h
  unfold World.cell? at h
  split at h
  ·rename_i e
   exact (Array.getElem?_eq_some_iff.1 e).1
  ·cases h
 fr:=⟨rfl,rfl,rfl,Nat.le_refl _,fun _ _ _=>rfl⟩
 sub:=fun _ _ h=>h
 sup:=fun _ _ h=>.inl h
 keep:=fun _ _ _=>rfl
 fix_:=fun _ _ h=>by cases h
 tab:=ht
theorem zc {w:World}{b:Nat}{o:Obj}(h:w.heap[b]?=some o):b<w.heap.size:=(Array.getElem?_eq_some_iff.1 h).1
theorem DK (w:World)(xs:LI)(cap b:Nat)(cur:Array Value)(el:TypeId)(hh:w.heap[b]?=some (.cells cur el (0,0)))(hcs:cur.size=cap)(ht:gG (Ts w b) w)(hle:xs.length≤cap)(hcap:cap≤maxLen)
  (hx:∀(k:Nat) (x:Int),xs[k]?=some x→bt .u8 x∧cur[k]?=some (Value.int .u8 x)):
  Calls prog 48 #[.slice (some ⟨b,0,none⟩) xs.length cap] w fun e w'=>e=.returned (.tuple #[])∧∃cur',Wrote w w' b∧w'.heap[b]?=some (.cells cur' el (0,0))∧cur'.size=cur.size∧
   (∀(k:Nat) (z:Int),(xs.map ff)[k]?=some z→cur'[k]?=some (Value.int .u8 z)∧bt .u8 z)∧∀q:Nat,xs.length≤q→cur'[q]?=cur[q]?:=by
 have htt:=dx Tryz.prog 400
 have hc:(Tryz.f48).body=some (.seq (.region 0 N5 false) (.block 0 (.loop (.seq (.seq (.region 1 N6 false) (.cond (.tmp 6) .skip (.exit 0))) (.seq (.block 1 (.region 3 JT false)) (.region 2 N7 false)))))):=by kernel_rfl
 refine calls_of_wp (P:=prog) (fn:=Tryz.f48) (by kernel_rfl) hc ?_
 have ho:(re w b).ow 1=some (b,0):=rfl
 have R0:Rel (DA w b) (re w b) ⟨GS xs::Is 16,[],[]⟩ (#[Value.slice (some ⟨b,0,none⟩) xs.length cap]++Array.replicate ((Tryz.f48).ntmps - 1) undef) [] w:=by
  refine ⟨?_,trivial,fun k cs hk=>by simp at hk,QF (zc hh) ht⟩
  rw[show (Tryz.f48).ntmps - 1=16 by kernel_rfl,Array.toList_append,Array.toList_replicate]
  refine ⟨.inr ⟨b,cap,by rw[Nat.zero_add],⟨by decide,by decide,.inl ho⟩,cur,el,hh,by rw[hcs];simp[Ty.size],by rw[Nat.zero_add];exact hle,hcap,fun k x hk=>?_⟩,All2.replicate (R:=Rv (re w b) w) (a:=.any) (b:=undef) trivial 16⟩
  obtain ⟨h1,h2⟩:=hx k x hk
  refine ⟨[.int .u8 x],⟨rfl,h1⟩,fun q u hq=>?_⟩
  cases q with
  |succ q=>simp at hq
  |zero=>
   simp only[List.getElem?_cons_zero,zC] at hq
   subst hq
   simpa [Ty.size] using h2
 have hxl:(xs.length:Int)≤9223372036854775807:=by rw[aP] at hcap;omega
 refine wp_seq (wp_region ?_)
 rw[show List.range N5.size=[0]++[] by kernel_rfl]
 refine eZ htt (TS xs) R0 fun a1 R1 hd1=>?_
 show (Code.block 0 _).wp prog _ a1 w
 refine wp_block (wp_loop_ghost (fun m a' w'=>∃k,m=xs.length - k∧k≤xs.length∧Rel (DA w b) (re w b) (Tq (jG k xs) (k:Int)) a'.tmps [] w'∧a'.defers=[]∧
  ∃cu:Array Value,Wrote w w' b∧w'.heap[b]?=some (.cells cu el (0,0))∧cu.size=cur.size∧∀q:Nat,xs.length≤q→cu[q]?=cur[q]?) (xs.length - 0) ⟨0,rfl,Nat.zero_le _,R1,hd1,cur,⟨rfl,rfl,rfl,rfl,fun _ _=>rfl⟩,hh,rfl,fun _ _=>rfl⟩ ?_)
 rintro m a w1 ⟨k,rfl,hk,R,hd,cu,hwr,hcu,hcus,hhigh⟩
 refine wp_seq (wp_seq (wp_region ?_))
 rw[show List.range N6.size=[0,1,2,3]++[] by kernel_rfl]
 refine eZ htt (TU _ _) R fun a2 R2 hd2=>?_
 show (Code.cond _ _ _).wp prog _ a2 w1
 refine wp_cond (t:=decide ((k:Int)<N4 (jG k xs) k)) (R2.opd (.tmp 6)) ?_
 have hT:=DI k xs
 by_cases hlt:k<xs.length
 ·have e:decide ((k:Int)<N4 (jG k xs) k)=true:=by simp only[N4,hT,zB];omega
  rw[e]
  refine wp_skip ?_
  show (Code.seq _ _).wp prog _ a2 w1
  refine wp_seq (wp_block (wp_region ?_))
  rw[show List.range JT.size=[0,1,2,3,4,5,6,7]++[8] by kernel_rfl]
  refine eZ htt ((T7 _ _).trans (aa (by simp only[hT,zA,zB];omega) _ _)) R2 fun a3 R3 hd3=>?_
  obtain ⟨p0,f0,ho8⟩:∃pos after,JT[8]?=some { dst:=none,op:=.store 5 (.tmp 16) (.tmp 15),type:=0,pos:=pos,after:=after,guard:=none }:=⟨_,_,rfl⟩
  simp only[wpOps,ho8]
  rw[if_pos (by rfl)]
  refine .inl ?_
  have hel:Rc (re w b) w1 (.eel OA k ((jG k xs).getD k 0) 1 1) (a3.eval (.tmp 16)):=R3.opd (.tmp 16)
  have hyv:Rv (re w b) w1 (.one (.int .u8 (ff ((jG k xs).getD k 0)))) (a3.eval (.tmp 15)):=R3.opd (.tmp 15)
  have hyt:Rt (re w b).S w1 OA (ff ((jG k xs).getD k 0)) (a3.eval (.tmp 15)).cells.toList:=by
   obtain ⟨e1,e2⟩:=hyv
   rw[e1]
   exact ⟨rfl,e2⟩
  obtain ⟨b',cu1,el1,cu2,g1,g2,g3,g4,g5,g6⟩:=wd (P:=prog) (t:=5) htt (by kernel_rfl) hel hyt
  rw[ho] at g1
  cases g1
  rw[hcu] at g2
  cases g2
  unfold Oper.wp
  rw[g6 _ rfl]
  have hwr2:=Wrote.setRow w1 b cu2
  have R4:Rel (DA w b) (re w b) (TW (jG k xs) k) a3.tmps [] (w1.setRow b cu2):=R3.updEx ho hwr2 hcu g3 g4 g5 hyt
  simp only[Oper.upon]
  show (Code.region 2 N7 false).wp prog _ a3 _
  refine wp_region ?_
  rw[show List.range N7.size=[0,1,2]++[] by kernel_rfl]
  refine eZ htt (T6 _ _) R4 fun a4 R5 hd5=>?_
  refine ⟨xs.length - (k+1),by omega,k+1,rfl,hlt,?_,hd5.trans (hd3.trans (hd2.trans hd)),cu2,⟨hwr2.os.trans hwr.os,hwr2.tape.trans hwr.tape,hwr2.output.trans hwr.output,hwr2.size.trans hwr.size,fun q hq=>(hwr2.other q hq).trans (hwr.other q hq)⟩,g3,?_,?_⟩
  ·have R6:Rel (DA w b) (re w b) ⟨uS 5 0 _,[],[]⟩ a4.tmps [] (w1.setRow b cu2):=⟨kV 5 0 R5.tm,R5.stk,R5.ob,R5.gh⟩
   have e1:iQ 0 k (jG k xs) (ff ((jG k xs).getD k 0))=jG (k+1) xs:=by
    rw[Ob hlt]
    exact Od hlt
   rw[e1] at R6
   have e2:IntKind.wrap .i64 ((k:Int)+1)=((k+1:Nat):Int):=aM hlt (by rw[aP];omega)
   rw[e2] at R6
   exact R6
  ·have:=congrArg Array.size g4
   have g5':k*1+1≤cu.size:=g5
   obtain ⟨e1,e2⟩:=hyv
   rw[← this,e1]
   simp[Value.cells,Ty.size]
   omega
  ·intro q hq
   obtain ⟨e1,e2⟩:=hyv
   rw[← hhigh q hq,← g4,e1,← Array.getElem?_toList,← Array.getElem?_toList]
   have g5':k*1+1≤cu.size:=g5
   simp only[Value.cells,Ty.size]
   rw[zK,List.getElem?_append_right (by simp;omega),List.getElem?_append_right (by simp;omega),List.getElem?_drop]
   congr 1
   simp
   omega
 ·have hkl:k=xs.length:=by omega
  have e:decide ((k:Int)<N4 (jG k xs) k)=false:=by simp only[N4,hT,decide_eq_false_iff_not];omega
  rw[e]
  refine wp_exit ?_
  simp only[Exit.then,Exit.inBlock,if_true]
  refine ⟨hd2.trans hd,.tuple #[],by kernel_rfl,rfl,cu,hwr,hcu,hcus,fun q z hz=>?_,hhigh⟩
  have he:=R.get 0
  have hex:Rc (re w b) w1 (.ex 5 OA 0 (jG k xs) 1 1) (a.tmps.getD 0 undef):=he
  have hz':(jG k xs)[q]?=some z:=by
   rw[hkl]
   unfold jG
   rw[List.take_length,List.drop_length,List.append_nil]
   exact hz
  rcases hex with ⟨_,h0,_⟩ | ⟨b',cap',_,⟨_,_,ho'⟩,cu',el',hcu',_,_,_,h4⟩
  ·rw[h0] at hz';simp at hz'
  ·have hbb:b'=b:=by rcases ho' with h | h <;> (rw[ho] at h;cases h;rfl)
   subst hbb
   rw[hcu] at hcu'
   cases hcu'
   obtain ⟨c,⟨rfl,hin⟩,hu⟩:=h4 q z hz'
   have:=hu 0 _ rfl
   exact ⟨by simpa [Ty.size] using this,hin⟩
theorem JY (w:World)(S:Nat→Nat→Prop)(hS:∀b o,S b o→b<w.heap.size)(ht:gG S w):Calls prog 48 #[.slice none 0 0] w fun e w'=>e=.returned (.tuple #[])∧w'=w:=by
 have htt:=dx Tryz.prog 400
 have hc:(Tryz.f48).body=some (.seq (.region 0 N5 false) (.block 0 (.loop (.seq (.seq (.region 1 N6 false) (.cond (.tmp 6) .skip (.exit 0))) (.seq (.block 1 (.region 3 JT false)) (.region 2 N7 false)))))):=by kernel_rfl
 refine calls_of_wp (P:=prog) (fn:=Tryz.f48) (by kernel_rfl) hc ?_
 have hg0:GhOk (m8 ⟨S,fun _=>none,fun _=>none⟩ w) (jI ⟨S,fun _=>none,fun _=>none⟩) w:=
  {mu:=fun _ _ h=>by cases h
   muI:=fun _ _ _ h=>by cases h
   ow:=fun _ _ _ h=>by cases h
   owI:=fun _ _ _ _ _ h=>by cases h
   sB:=fun b o h=>by rcases h with h | ⟨_,h⟩;exact hS b o h;cases h
   fr:=⟨rfl,rfl,rfl,Nat.le_refl _,fun _ _ _=>rfl⟩
   sub:=fun _ _ h=>h
   sup:=fun _ _ h=>.inl h
   keep:=fun _ _ _=>rfl
   fix_:=fun _ _ h=>by cases h
   tab:=fun g i hg hi=>⟨.inl (ht g i hg hi).1,(ht g i hg hi).2⟩ }
 have R0:Rel (m8 ⟨S,fun _=>none,fun _=>none⟩ w) (jI ⟨S,fun _=>none,fun _=>none⟩) ⟨GS []::Is 16,[],[]⟩ (#[Value.slice none 0 0]++Array.replicate ((Tryz.f48).ntmps - 1) undef) [] w:=by
  refine ⟨?_,trivial,fun k cs hk=>by simp at hk,hg0⟩
  rw[show (Tryz.f48).ntmps - 1=16 by kernel_rfl,Array.toList_append,Array.toList_replicate]
  exact ⟨.inl ⟨rfl,rfl,rfl⟩,All2.replicate (a:=V.any) (b:=undef) trivial 16⟩
 refine wp_seq (wp_region ?_)
 rw[show List.range N5.size=[0]++[] by kernel_rfl]
 refine eZ htt (TS []) R0 fun a1 R1 hd1=>?_
 show (Code.block 0 _).wp prog _ a1 w
 refine wp_block (wp_loop_ghost (fun _ a' w'=>Rel (m8 ⟨S,fun _=>none,fun _=>none⟩ w) (jI ⟨S,fun _=>none,fun _=>none⟩) (Tq [] 0) a'.tmps [] w'∧a'.defers=[]∧w'=w) 0 ⟨R1,hd1,rfl⟩ ?_)
 rintro m a w1 ⟨R,hd,rfl⟩
 refine wp_seq (wp_seq (wp_region ?_))
 rw[show List.range N6.size=[0,1,2,3]++[] by kernel_rfl]
 refine eZ htt (TU _ _) R fun a2 R2 hd2=>?_
 show (Code.cond _ _ _).wp prog _ a2 _
 refine wp_cond (t:=false) (R2.opd (.tmp 6)) ?_
 refine wp_exit ?_
 simp only[Exit.then,Exit.inBlock,if_true]
 exact ⟨hd2.trans hd,.tuple #[],by kernel_rfl,rfl,rfl⟩
theorem Grown.refl (w:World):Grown w w:=⟨rfl,rfl,rfl,Nat.le_refl _,fun _ _=>rfl⟩
theorem AS.map_noOp {F:Fra}{G:Gh}{A:AS}{ts:Array Value}{cst:List (Array Value)}{w:World}(R:Rel F G A ts cst w)(i:Nat):Rel F G (A.map (C.over i [])) ts cst w:=by
 refine R.map (fun c v h=>?_) (fun _=>rfl) (fun _ _ h=>⟨h,rfl⟩) R.gh
 have hcell:=h.cell
 cases c with
 |lst e t xs own=>
  obtain ⟨A',cap,e0,h1,h2,h3,h4⟩:=h
  refine ⟨A',cap,e0,h1,h2,h3,?_⟩
  cases hb:own == i with
  |true=>exact .inl rfl
  |false=>exact h4
 |ex e t lo xs a b=>
  simp only[C.over]
  cases hn : !(a == i)&&!(b == i) with
  |true=>exact h
  |false=>
   simp only[cond_false]
   split
   ·rename_i ht
    subst ht
    simp only
    cases hy:(a == i)&&(b == i) with
    |true=>
     have:gb lo [] xs=xs:=by simp[gb]
     rw[this]
     exact h
    |false=>
     simp only[cond_false]
     cases hlo:Nat.beq lo 0 with
     |false=>exact hcell
     |true=>
      have hlo:=Nat.eq_of_beq_eq_true hlo
      subst hlo
      exact h
   ·exact hcell
 |eel t k x a b=>
  simp only[C.over]
  cases hn : !(a == i)&&!(b == i) with
  |true=>exact h
  |false=>exact hcell
 |_=>exact h
theorem PO:HcOk prog 48 AJ:=by
 intro R args id A K r F G ts cst w vals hid hrun Rl hv
 refine ⟨⟨Tryz.f48,by kernel_rfl,by kernel_rfl,by kernel_rfl⟩,?_⟩
 unfold AJ at hrun
 split at hrun
 ·rename_i e t lo xs i j
  cases hz:Nat.beq i j&&Nat.beq lo 0 with
  |false=>rw[hz] at hrun;cases hrun
  |true=>
   rw[hz] at hrun
   simp only[cond_true] at hrun
   simp only[zA] at hz
   have hij:=Nat.eq_of_beq_eq_true hz.1
   have hlo:=Nat.eq_of_beq_eq_true hz.2
   subst hij hlo
   split at hrun
   ·rename_i ht
    subst ht
    simp only at hrun
    cases hg:dM xs.length (A.coll (C.longs i)) with
    |false=>rw[hg] at hrun;cases hrun
    |true=>
     rw[hg] at hrun
     simp only[cond_true,AS.force_eq] at hrun
     obtain ⟨v,rfl⟩:∃v,vals = #[v]:=by
      have:=hv.length
      obtain ⟨v,hv⟩:∃v,vals.toList=[v]:=by
       cases h:vals.toList with
       |nil=>rw[h] at this;cases this
       |cons v l=>cases l with
        |nil=>exact ⟨v,rfl⟩
        |cons _ _=>rw[h] at this;simp at this
      exact ⟨v,by rw[← Array.toList_inj];exact hv⟩
     have hx:Rc G w (.ex e (.int .u8) 0 xs i i) v:=hv.1
     rcases hx with ⟨_,rfl,rfl⟩ | ⟨b,cap,rfl,⟨_,_,ho⟩,cur,el,hh,h1,h2,h3,h4⟩
     ·refine (JY w G.S Rl.gh.sB Rl.gh.tabs).mono ?_
      rintro e' w' ⟨rfl,rfl⟩
      exact ⟨G,_,_,.tuple #[],AS.map_noOp Rl i,(show Rv G _ (.tup []) (.tuple #[]) from ⟨#[],rfl,trivial⟩),.inl ⟨rfl,some [],.refl _ _ _,hrun⟩⟩
     ·have ho:G.ow i=some (b,0):=by rcases ho with h | h <;> exact h
      rw[Nat.zero_add] at h2 ⊢
      refine (DK w xs cap b cur el hh (by rw[h1];simp[Ty.size]) (fun g q hg hq=>⟨⟨by rintro rfl;exact (Rl.gh.ow _ _ _ ho).1 _ (Nat.zero_le _) (Rl.gh.tabs g q hg hq).1,_,(Rl.gh.tabs g q hg hq).2⟩,(Rl.gh.tabs g q hg hq).2⟩) h2 h3 fun k x hk=>?_).mono ?_
      ·obtain ⟨c,⟨rfl,hin⟩,hu⟩:=h4 k x hk
       have:=hu 0 _ rfl
       exact ⟨hin,by simpa [Ty.size] using this⟩
      ·rintro e' w' ⟨rfl,cur',hwr,hh',hs',hlow,hhigh⟩
       have hl:(List.map ff xs).length=xs.length:=List.length_map _
       have R':=Rl.over (zs:=List.map ff xs) ho hwr hh hh' hs' hlow (by rw[hl];exact hhigh) (by rw[hl];exact hg)
       exact ⟨G,_,_,.tuple #[],R',(show Rv G w' (.tup []) (.tuple #[]) from ⟨#[],rfl,trivial⟩),.inl ⟨rfl,some [],⟨(Goes.exWrote Rl.gh ho hwr).kept,fun key b1 _ hb1=>⟨hb1,hwr.other b1 (by rintro rfl;exact (Rl.gh.ow i _ _ ho).2.2.2 key hb1)⟩⟩,hrun⟩⟩
   ·cases hrun
 ·cases hrun
abbrev ip:Io:=⟨[dL,dL],[],[],[dB],none⟩
def yd (d:ip.In):Tr ip.Res:=.ret (.ret ((decide (d.1.1=List.map ff d.1.2.1),()),()))
abbrev uc:List (Nat×Hc):=[]
def Ci:Hd:=bI uc
abbrev cY:Lo:=⟨⟨(.one (.hol (.sl 5 (Ty.int u8)))::.one (.hol (.sl 5 (Ty.int u8)))::.any::bk (.one hI::.any::ai (bx []))),[]⟩,[(.ret,⟨(bx (.one hL::ai (bx (bk [])))),[]⟩),(.exit 0,⟨(.any::ai (co (bk []))),[]⟩)]⟩
def gR (d:cY.st.den):Tr (ap cY.xs):=
 .ite (decide (0≤d.1.2.2.1)&&decide (d.1.1.length=d.1.2.1.length)) (.ite (decide (d.1.1.drop d.1.2.2.1.toNat=(List.map ff d.1.2.1).drop d.1.2.2.1.toNat)) (.ret (.pan (.ret ((),((),()))))) (.ret (.ret ((),((false,()),()))))) .no
def pC:Lp:=bQ [(5,aG cY gR)]
def lh {R:Type}(h2 h3:LI)(h4:Int)(next:LI→LI→Int→Option R)(out:ap cY.xs→Option R):Option R:=bif decide (h4<(↑h2.length:Int)) then bif decide (0≤h4)&&decide (h4<(↑h2.length:Int)) then bif decide (0≤h4)&&decide (h4<(↑h3.length:Int)) then bif h2.getD h4.toNat 0 != bZ u8 (h3.getD h4.toNat 0) 90 then out (.ret ((),((false,()),()))) else next (h2) (h3) (i64.wrap (h4+1)) else none else none else out (.pan (.ret ((),((),()))))
def kP (n:Nat)(h2 h3:LI)(h4:Int):Option (ap cY.xs):=fR tt Ci dr pC 0 Tryz.f49 (bX Tryz.f49 0) n (cY.st.mk' ((h2,(h3,(h4,()))),())) (bC cY.xs)
theorem vp (n:Nat)(h2 h3:LI)(h4:Int):kP (n+1) h2 h3 h4=lh h2 h3 h4 (kP n) some:=by kernel_rfl
theorem EL (xs ys:LI)(hl:xs.length=ys.length)(hb:xs.length≤maxLen):∀(k i:Nat),i≤xs.length→xs.length<i+k→
  kP k xs ys i=if xs.drop i=(List.map ff ys).drop i then some (.pan (.ret ((),((),())))) else some (.ret ((),((false,()),()))):=by
 intro k
 induction k with
 |zero=>intro i h h';omega
 |succ k ih=>
  intro i hi h
  rw[vp]
  unfold lh
  by_cases h1:i<xs.length
  ·have h2:i<ys.length:=by omega
   have h3:i<(List.map ff ys).length:=by simpa using h2
   rw[aM h1 hb,ih (i+1) h1 (by omega)]
   have e:(xs.drop i=(List.map ff ys).drop i)↔(xs[i]=ff ys[i]∧xs.drop (i+1)=(List.map ff ys).drop (i+1)):=by rw[zE h1,zE h3,List.cons.injEq,List.getElem_map]
   have e2:bZ .u8 ys[i] 90=ff ys[i]:=rfl
   simp only[zG,aK h1,aK h2,e2]
   by_cases he:xs[i]=ff ys[i] <;> simp[h1,h2,he,e,cond_eq_ite]
  ·rw[zI (by omega),zI (by simp;omega)]
   simp[h1]
def tG (a0 a1:LI):Option ip.Res:=bif (↑a0.length:Int) != (↑a1.length:Int) then oR ((false,()),()) else (gR ((a0,(a1,(0,()))),())).run fun y=>match y with | .ret ((),((x9,()),()))=>(oR ((x9,()),())) | .pan (.ret ((),((),())))=>(oR ((true,()),()))
theorem Jf (a0 a1:LI):Io.run tt Ci dr pC ip Tryz.f49 ((a0,a1,()),())=tG a0 a1:=by kernel_rfl
theorem Mw:HcOk prog 49 (ah ip yd):=by
 refine bY (cs:=uc) HcsOk.nil (lp:=pC) (fn:=Tryz.f49) ip
  (.step (h0:=aG cY gR) (by kernel_rfl) (f9 (cs:=uc) HcsOk.nil (lp:=pC) (fn:=Tryz.f49) (.done (by kernel_rfl)) cY gR ?_) (.done (by kernel_rfl))) yd ?_
 ·rintro ⟨⟨xs,ys,i,⟨⟩⟩,⟨⟩⟩ y hw hy
  obtain ⟨hg,hy⟩:=Tr.guard hy
  simp only[zA,zB] at hg
  obtain ⟨n,rfl⟩:=aB hg.1
  by_cases hn:n≤xs.length
  ·refine ⟨xs.length+1,(EL xs ys hg.2 hw.1.1.1 _ n hn (by omega)).trans ?_⟩
   rw[← hy]
   simp only[Tr.val_ite,zB,zG,Tr.val_ret]
  ·refine ⟨1,?_⟩
   show kP (0+1) xs ys n=_
   rw[vp,← hy]
   unfold lh
   have h1:¬ n<xs.length:=by omega
   simp[Tr.val_ite,Tr.val_ret,h1,zI (show xs.length≤n by omega),zI (show (List.map ff ys).length≤n by simp;omega)]
 ·rintro ⟨⟨(xs:LI),(ys:LI),⟨⟩⟩,⟨⟩⟩ out hw ho
  refine (Jf xs ys).trans ?_
  cases ho
  unfold tG
  by_cases hl:xs.length=ys.length
  ·by_cases he:xs=List.map ff ys
   ·subst he;simp[gR,Tr.run]
   ·simp[gR,Tr.run,hl,he]
  ·have:xs≠List.map ff ys:=fun e=>hl (by rw[e];simp)
   have h2:(xs.length:Int)≠ys.length:=by omega
   simp[this,h2,cond_eq_ite]
abbrev Hg:Io:=SH
abbrev OE:Type:=LI×(LI×(LI×Unit))
def AK (d:OE):AS:=⟨[.one (.ex 5 OA 0 d.1 1 1),.one (.ex 5 OA 0 d.2.1 3 3),.one (.lst 5 OA d.2.2.1 0)]++Is 94,[],[]⟩
abbrev pn:List (Nat×Hc):=[(22,Ay (ah kr AW)),(48,AJ),(49,Ay (ah ip yd))]
def sR:Hd:=bI pn
def fw (c:Nat):LI:=(List.range 80).map fun i=>((i+c:Nat):Int)
theorem fN (c:Nat):(fw c).length=80:=by simp[fw]
theorem vx {c i:Nat}(h:i<80):(fw c)[i]'(by rw[fN];exact h)=((i+c:Nat):Int):=by simp[fw]
abbrev dY:Lo:=⟨⟨(.one (.exl 5 (Ty.int u8) 1 1)::.one (.exl 5 (Ty.int u8) 3 3)::.one (.hol (.sl 5 (Ty.int u8)))::bx (.one (.exl 5 (Ty.int u8) 1 15)::.one hI::ai (ai (ai (ai (ai (co []))))))),[]⟩,[(.exit 0,⟨(.one (.exl 5 (Ty.int u8) 1 1)::.one (.exl 5 (Ty.int u8) 3 3)::.one (.hol (.sl 5 (Ty.int u8)))::bx (.one (.exl 5 (Ty.int u8) 1 15)::.any::ai (ai (ai (ai (ai (co []))))))),[]⟩)]⟩
abbrev cW:Lo:=⟨⟨(.one (.exl 5 (Ty.int u8) 1 1)::.one (.exl 5 (Ty.int u8) 3 3)::.one (.hol (.sl 5 (Ty.int u8)))::bx (.one (.exl 5 (Ty.int u8) 1 15)::.any::.one (.exl 5 (Ty.int u8) 3 19)::.one hI::ai (ai (ai (ai (ai (bx (bk [])))))))),[]⟩,[(.exit 2,⟨(.one (.exl 5 (Ty.int u8) 1 1)::.one (.exl 5 (Ty.int u8) 3 3)::.one (.hol (.sl 5 (Ty.int u8)))::bx (.one (.exl 5 (Ty.int u8) 1 15)::.any::.one (.exl 5 (Ty.int u8) 3 19)::.any::ai (ai (ai (ai (ai (bx (bk [])))))))),[]⟩)]⟩
abbrev cX:Lo:=⟨⟨(.one (.exl 5 (Ty.int u8) 1 1)::.one (.exl 5 (Ty.int u8) 3 3)::.one (.hol (.sl 5 (Ty.int u8)))::bx (.one (.exl 5 (Ty.int u8) 1 15)::.any::.one (.ext 5 (Ty.int u8) 3 19)::.any::.one hI::.any::ai (ai (ai (ai (ai (bx []))))))),[]⟩,[(.ret,⟨(bx (bk (.one hL::ai (ai (ai (ai (ai (co (bk []))))))))),[]⟩),(.exit 4,⟨(.one (.exl 5 (Ty.int u8) 1 1)::.one (.exl 5 (Ty.int u8) 3 3)::.one (.hol (.sl 5 (Ty.int u8)))::ai (ai (ai (ai (ai (co (bx (bk [])))))))),[]⟩)]⟩
def ly (d:dY.st.den):Tr (ap dY.xs):=
 .ite (decide (d.1.2.2.2.2.1=0)&&(decide (d.1.2.2.2.1.length≤4294967000)&&decide (d.1.1.length≤d.1.2.2.2.1.length))) (.ret (.ret ((),((d.1.1,d.1.2.1,d.1.2.2.1,d.1.2.2.2.1++fw 1,()),())))) .no
def jJ (d:cW.st.den):Tr (ap cW.xs):=
 .ite (decide (d.1.2.2.2.2.2.1=0)&&(decide (d.1.2.2.2.2.1.length≤4294967000)&&decide (d.1.2.1.length≤d.1.2.2.2.2.1.length))) (.ret (.ret ((),((d.1.1,d.1.2.1,d.1.2.2.1,d.1.2.2.2.1,d.1.2.2.2.2.1++fw 101,()),())))) .no
def jK (d:cX.st.den):Tr (ap cX.xs):=
 .ite (decide (d.1.2.2.2.2.2.1=0)&&(decide (List.drop d.1.1.length d.1.2.2.2.1=fw 1)&&(decide (d.1.2.2.2.2.1.1=d.1.2.1.length)&&decide (d.1.2.2.2.2.1.2=fw 101)))) (.ret (.pan (.ret ((),((d.1.1,d.1.2.1,d.1.2.2.1,()),()))))) .no
def jr:Lp:=bQ [(7,aG dY ly),(14,aG cW jJ),(19,aG cX jK)]
def rW {R:Type}(h8 h9 h10 h11:LI)(h12:Int)(next:LI→LI→LI→LI→Int→Option R)(out:ap dY.xs→Option R):Option R:=bif decide (h12<80) then bif decide (0+h11.length+[u8.wrap (i64.wrap (h12+1))].length≤4294967296)&&(decide ((0+h8.length)*1≤(0+h11.length)*1)&&true) then next (h8) (h9) (h10) (h11++[u8.wrap (i64.wrap (h12+1))]) (i64.wrap (h12+1)) else none else out (.ret ((),((h8,(h9,(h10,(h11,())))),())))
def qG (n:Nat)(h8 h9 h10 h11:LI)(h12:Int):Option (ap dY.xs):=fR tt sR dr jr 0 Tryz.f17 (bX Tryz.f17 0) n (dY.st.mk' ((h8,(h9,(h10,(h11,(h12,()))))),())) (bC dY.xs)
theorem JG (n:Nat)(h8 h9 h10 h11:LI)(h12:Int):qG (n+1) h8 h9 h10 h11 h12=rW h8 h9 h10 h11 h12 (qG n) some:=by kernel_rfl
def qa {R:Type}(h32 h33 h34 h35 h36:LI)(h37:Int)(next:LI→LI→LI→LI→LI→Int→Option R)(out:ap cW.xs→Option R):Option R:=bif decide (h37<80) then bif decide (0+h36.length+[u8.wrap (i64.wrap (h37+101))].length≤4294967296)&&(decide ((0+h33.length)*1≤(0+h36.length)*1)&&true) then next (h32) (h33) (h34) (h35) (h36++[u8.wrap (i64.wrap (h37+101))]) (i64.wrap (h37+1)) else none else out (.ret ((),((h32,(h33,(h34,(h35,(h36,()))))),())))
def oa (n:Nat)(h32 h33 h34 h35 h36:LI)(h37:Int):Option (ap cW.xs):=fR tt sR dr jr 0 Tryz.f17 (bX Tryz.f17 1) n (cW.st.mk' ((h32,(h33,(h34,(h35,(h36,(h37,())))))),())) (bC cW.xs)
theorem Fk (n:Nat)(h32 h33 h34 h35 h36:LI)(h37:Int):oa (n+1) h32 h33 h34 h35 h36 h37=qa h32 h33 h34 h35 h36 h37 (oa n) some:=by kernel_rfl
def qb {R:Type}(h54 h55 h56 h57:LI)(h58:Nat)(h59:LI)(h60:Int)(next:LI→LI→LI→LI→Nat→LI→Int→Option R)(out:ap cX.xs→Option R):Option R:=bif decide (h60<80) then bif decide ((↑0:Int)≤i64.wrap ((↑0:Int)+(↑h54.length:Int)+h60))&&decide (i64.wrap ((↑0:Int)+(↑h54.length:Int)+h60)<(↑0:Int)+(↑h57.length:Int)) then bif h57.getD ((i64.wrap ((↑0:Int)+(↑h54.length:Int)+h60)).toNat - 0) 0 != u8.wrap (i64.wrap (h60+1)) then out (.ret ((),((false,()),()))) else bif decide ((↑h58:Int)≤i64.wrap ((↑0:Int)+(↑h55.length:Int)+h60))&&decide (i64.wrap ((↑0:Int)+(↑h55.length:Int)+h60)<(↑h58:Int)+(↑h59.length:Int)) then bif h59.getD ((i64.wrap ((↑0:Int)+(↑h55.length:Int)+h60)).toNat - h58) 0 != u8.wrap (i64.wrap (h60+101)) then out (.ret ((),((false,()),()))) else next (h54) (h55) (h56) (h57) (h58) (h59) (i64.wrap (h60+1)) else none else none else out (.pan (.ret ((),((h54,(h55,(h56,()))),()))))
def od (n:Nat)(h54 h55 h56 h57:LI)(h58:Nat)(h59:LI)(h60:Int):Option (ap cX.xs):=fR tt sR dr jr 0 Tryz.f17 (bX Tryz.f17 2) n (cX.st.mk' ((h54,(h55,(h56,(h57,((h58,h59),(h60,())))))),())) (bC cX.xs)
theorem Fl (n:Nat)(h54 h55 h56 h57:LI)(h58:Nat)(h59:LI)(h60:Int):od (n+1) h54 h55 h56 h57 h58 h59 h60=qb h54 h55 h56 h57 h58 h59 h60 (od n) some:=by kernel_rfl
theorem HS {i c:Nat}(h:i<80)(hc:c≤101)(o:LI):(o++[u8.wrap (i64.wrap ((i:Int)+(c:Int)))])++(fw c).drop (i+1)=o++(fw c).drop i:=by
 rw[zE (show i<(fw c).length by rw[fN];exact h),vx h,af (n:=(i:Int)+(c:Int)) (by omega) (by omega)]
 have:u8.wrap ((i:Int)+(c:Int))=((i+c:Nat):Int):=by
  simp[IntKind.wrap,IntKind.signed,IntKind.bits]
  omega
 rw[this]
 simp
theorem CC (a b w:LI):∀(k:Nat) (g:LI) (i:Nat),80<i+k→i≤80→g.length+(80 - i)≤4294967296→a.length≤g.length→
  qG k a b w g i=some (.ret ((),((a,(b,(w,(g++(fw 1).drop i,())))),()))):=by
 intro k
 induction k with
 |zero=>intro g i _ _ _;omega
 |succ k ih=>
  intro g i h1 h2 h3 h4
  rw[JG]
  unfold rW
  by_cases hl:i<80
  ·have h5:(i:Int)<80:=by omega
   rw[aa (by simpa using h5),aa (by simp;omega),aM hl (by rw[aP];omega),ih _ (i+1) (by omega) (by omega) (by simp;omega) (by simp;omega)]
   have:=HS (c:=1) hl (by omega) g
   have e:(((1:Nat):Int))=1:=rfl
   rw[e,aM hl (by rw[aP];omega)] at this
   rw[this]
  ·rw[ae (by simp;omega),zI (by rw[fN];omega),List.append_nil]
theorem zn (a b w g:LI):∀(k:Nat) (h:LI) (i:Nat),80<i+k→i≤80→h.length+(80 - i)≤4294967296→b.length≤h.length→
  oa k a b w g h i=some (.ret ((),((a,(b,(w,(g,(h++(fw 101).drop i,()))))),()))):=by
 intro k
 induction k with
 |zero=>intro g i _ _ _;omega
 |succ k ih=>
  intro h i h1 h2 h3 h4
  rw[Fk]
  unfold qa
  by_cases hl:i<80
  ·have h5:(i:Int)<80:=by omega
   rw[aa (by simpa using h5),aa (by simp;omega),aM hl (by rw[aP];omega),ih _ (i+1) (by omega) (by omega) (by simp;omega) (by simp;omega)]
   have:=HS (c:=101) hl (by omega) h
   have e:(((101:Nat):Int))=101:=rfl
   rw[e] at this
   rw[this]
  ·rw[ae (by simp;omega),zI (by rw[fN];omega),List.append_nil]
theorem zo (a b w g:LI)(hg:g.drop a.length=fw 1)(hgl:g.length≤maxLen)(hbl:b.length+80≤maxLen):∀(k i:Nat),80<i+k→i≤80→
  od k a b w g b.length (fw 101) i=some (.pan (.ret ((),((a,(b,(w,()))),())))):=by
 have hl:g.length=a.length+80:=by
  have:=congrArg List.length hg
  rw[List.length_drop,fN] at this
  omega
 rw[aP] at hgl hbl
 intro k
 induction k with
 |zero=>intro i _ _;omega
 |succ k ih=>
  intro i h1 h2
  rw[Fl]
  unfold qb
  by_cases hlt:i<80
  ·have h5:(i:Int)<80:=by omega
   have e1:i64.wrap ((0:Int)+(a.length:Int)+(i:Int))=((a.length+i:Nat):Int):=by rw[af] <;> omega
   have e2:i64.wrap ((0:Int)+(b.length:Int)+(i:Int))=((b.length+i:Nat):Int):=by rw[af] <;> omega
   have e3:u8.wrap (i64.wrap ((i:Int)+1))=((i+1:Nat):Int):=by
    rw[af (by omega) (by omega)]
    simp[IntKind.wrap,IntKind.signed,IntKind.bits]
    omega
   have e4:u8.wrap (i64.wrap ((i:Int)+101))=((i+101:Nat):Int):=by
    rw[af (by omega) (by omega)]
    simp[IntKind.wrap,IntKind.signed,IntKind.bits]
    omega
   have e5:g.getD (a.length+i) 0=((i+1:Nat):Int):=by
    have h7:(g.drop a.length)[i]?=some ((i+1:Nat):Int):=by
     rw[hg,List.getElem?_eq_getElem (by rw[fN];exact hlt),vx hlt]
    rw[List.getElem?_drop] at h7
    rw[List.getD_eq_getElem?_getD,h7]
    rfl
   have e6:(fw 101).getD i 0=((i+101:Nat):Int):=by
    rw[List.getD_eq_getElem?_getD,List.getElem?_eq_getElem (by rw[fN];exact hlt),vx hlt]
    rfl
   have hml:(fw 101).length=80:=fN 101
   rw[aa (by simpa using h5),e1,e2,e3,e4,aa (by simp;omega)]
   rw[show ((a.length+i:Nat):Int).toNat - 0=a.length+i by omega,show ((b.length+i:Nat):Int).toNat - b.length=i by omega,e5,e6,ae (by simp),aa (by simp;omega),ae (by simp),aM hlt (by rw[aP];omega),ih (i+1) (by omega) (by omega)]
  ·rw[ae (by simp;omega)]
def qv (a0 a1 a2:LI):Option Hg.Res:=bif !decide (a0=a2) then oR ((false,()),()) else bif !decide (a1=a2) then oR ((false,()),()) else (ly ((gb 0 (List.map ff a0) a0,(a1,(a2,(gb 0 (List.map ff a0) a0,(0,()))))),())).run fun y=>match y with | .ret ((),((x22,x23,x24,x25,()),()))=>(bif !decide (x23=x24) then oR ((false,()),()) else bif decide (0≤(↑0:Int)+(↑x22.length:Int))&&decide ((↑0:Int)+(↑x22.length:Int)≤(↑x25.length:Int)) then bif !decide (List.take ((↑0:Int)+(↑x22.length:Int)).toNat x25=List.map ff x24) then oR ((false,()),()) else (jJ ((x22,(x23,(x24,(x25,(x23,(0,())))))),())).run fun y=>match y with | .ret ((),((x49,x50,x51,x52,x53,()),()))=>(bif decide (x50.length≤x53.length)&&true then (jK ((x49,(gb 0 (List.map ff x50) x50,(x51,(x52,(((List.map ff x50).length,List.drop (List.map ff x50).length x53),(0,())))))),())).run fun y=>match y with | .ret ((),((x73,()),()))=>(oR ((x73,()),())) | .pan (.ret ((),((x74,x75,x76,()),())))=>(bif decide (x74=List.map ff x76) then oR ((decide (x75=List.map ff x76),()),()) else oR ((false,()),())) else none) else none)
theorem M4 (a0 a1 a2:LI):Io.runX tt sR dr jr Hg Tryz.f17 (AK (a0,a1,a2,()))=qv a0 a1 a2:=by kernel_rfl
def uU (a b w:LI):Bool:=decide (a=w)&&decide (b=w)
theorem yP (a b w:LI)(ha:a.length≤4294967000)(hb:b.length≤4294967000):qv a b w=some (.ret ((uU a b w,()),())):=by
 unfold qv uU
 by_cases h1:a=w
 rotate_left
 ·simp[h1]
 subst h1
 by_cases h2:b=a
 rotate_left
 ·simp[h2]
 subst h2
 have hl:(List.map ff b).length=b.length:=by simp
 rw[rT hl]
 have e7:ly ((List.map ff b,b,b,List.map ff b,0,()),())=.ite true (.ret (.ret ((),((List.map ff b,b,b,List.map ff b++fw 1,()),())))) .no:=by
  have:(decide ((0:Int)=0)&&(decide ((List.map ff b).length≤4294967000)&&decide ((List.map ff b).length≤(List.map ff b).length)))=true:=by simp;omega
  exact congrArg (fun c=>Tr.ite c _ _) this
 rw[e7]
 simp only[decide_true,Bool.not_true,cond_false,Tr.run,cond_true]
 have e0:((0:Int)+((List.map ff b).length:Int)).toNat=(List.map ff b).length:=by omega
 rw[aa (by simp;omega),e0,List.take_left']
 rotate_left
 ·rfl
 simp only[decide_true,Bool.not_true,cond_false]
 have e14:jJ ((List.map ff b,b,b,List.map ff b++fw 1,b,0,()),())=.ite true (.ret (.ret ((),((List.map ff b,b,b,List.map ff b++fw 1,b++fw 101,()),())))) .no:=by
  have:(decide ((0:Int)=0)&&(decide (b.length≤4294967000)&&decide (b.length≤b.length)))=true:=by simp;omega
  exact congrArg (fun c=>Tr.ite c _ _) this
 rw[e14]
 simp only[Tr.run,cond_true]
 rw[aa (by simp)]
 have ed:List.drop (List.map ff b).length (b++fw 101)=fw 101:=by rw[hl];simp
 rw[ed,rT hl]
 have e19:jK ((List.map ff b,List.map ff b,b,List.map ff b++fw 1,((List.map ff b).length,fw 101),0,()),())=.ite true (.ret (.pan (.ret ((),((List.map ff b,List.map ff b,b,()),()))))) .no:=by
  have:(decide ((0:Int)=0)&&(decide (List.drop (List.map ff b).length (List.map ff b++fw 1)=fw 1)&&(decide ((List.map ff b).length=(List.map ff b).length)&&decide (fw 101=fw 101))))=true:=by simp
  exact congrArg (fun c=>Tr.ite c _ _) this
 rw[e19]
 simp[Tr.run]
def yJ:Hc:=fun _ args _ A K=>match args with
 |[.one (.ex _ t lo xs i j),.one (.ex _ t2 lo2 ys i2 j2),.one (.lst _ t3 ws _)]=>
  bif Nat.beq i j&&(Nat.beq i2 j2&&(Nat.beq lo 0&&(Nat.beq lo2 0&&!(Nat.beq i i2)))) then
   (if h:t=.int .u8∧t2=.int .u8∧t3=.int .u8 then (bif decide (xs.length≤4294967000)&&decide (ys.length≤4294967000) then
    (A.map (C.strip [i,i2] [])).force fun A=>K (.ret (.one (.bool (uU (h.1▸xs:List (Ty.int .u8).den) (h.2.1▸ys:List (Ty.int .u8).den) (h.2.2▸ws:List (Ty.int .u8).den)))) (some [])) A else none) else none) else none
 |_=>none
theorem PB:HcOk prog 17 yJ:=by
 have htt:=dx Tryz.prog 400
 have hcs:HcsOk prog pn:=.cons (oG EX) (.cons PO (.cons (oG Mw) .nil))
 intro R args id A K r F G ts cst w vals hid hrun Rl hv
 refine ⟨⟨Tryz.f17,by kernel_rfl,by kernel_rfl,by kernel_rfl⟩,?_⟩
 unfold yJ at hrun
 split at hrun
 ·rename_i e1 t lo xs i j e2 t2 lo2 ys i2 j2 e3 t3 ws own
  cases hz:Nat.beq i j&&(Nat.beq i2 j2&&(Nat.beq lo 0&&(Nat.beq lo2 0&&!(Nat.beq i i2)))) with
  |false=>rw[hz] at hrun;cases hrun
  |true=>
   rw[hz] at hrun
   simp only[cond_true] at hrun
   simp only[zA,Bool.not_eq_true'] at hz
   obtain ⟨z1,z2,z3,z4,z5⟩:=hz
   have z1:=Nat.eq_of_beq_eq_true z1
   have z2:=Nat.eq_of_beq_eq_true z2
   have z3:=Nat.eq_of_beq_eq_true z3
   have z4:=Nat.eq_of_beq_eq_true z4
   have z5:i≠i2:=by rintro rfl;rw[Nat.beq_refl] at z5;cases z5
   subst z1 z2 z3 z4
   split at hrun
   ·rename_i h
    obtain ⟨rfl,rfl,rfl⟩:=h
    simp only at hrun
    cases hg:decide (xs.length≤4294967000)&&decide (ys.length≤4294967000) with
    |false=>rw[hg] at hrun;cases hrun
    |true=>
     rw[hg] at hrun
     simp only[cond_true,AS.force_eq] at hrun
     simp only[zA,zB] at hg
     have hvl:vals.toList.length=3:=hv.length.symm
     obtain ⟨v1,v2,v3,hvs⟩:∃v1 v2 v3,vals.toList=[v1,v2,v3]:=by
      match h:vals.toList with
      |[]=>rw[h] at hvl;cases hvl
      |[_]=>rw[h] at hvl;simp at hvl
      |[_,_]=>rw[h] at hvl;simp at hvl
      |[a,b,c]=>exact ⟨a,b,c,rfl⟩
      |_::_::_::_::_=>rw[h] at hvl;simp at hvl
     rw[hvs] at hv
     obtain ⟨hx1,hx2,hx3,_⟩:=hv
     have hn2:br (([(1,i),(3,i2)]:List (Nat×Nat)).map (·.2))=true:=by simp[br,z5.symm]
     have hto:∀{xs:LI} {k k':Nat} {v:Value},k'≠0→(∀b,G.ow k=some (b,0)→(fu G [] [(1,i),(3,i2)]).ow k'=some (b,0))→Rc G w (.ex e1 (.int .u8) 0 xs k k) v→Rc (fu G [] [(1,i),(3,i2)]) w (.ex 5 OA 0 xs k' k') v:=by
      intro xs k k' v hk0 hk h
      rcases h with h | ⟨b,cap,e0,⟨_,_,ho⟩,h⟩
      ·exact .inl h
      ·exact .inr ⟨b,cap,e0,⟨hk0,hk0,.inl (hk b (by rcases ho with h | h <;> exact h))⟩,h⟩
     have R0:Rel (il G w [] [(1,i),(3,i2)]) (fu G [] [(1,i),(3,i2)]) (AK (xs,ys,ws,())) (vals++Array.replicate ((Tryz.f17).ntmps - vals.size) undef) [] w:=by
      refine ⟨?_,trivial,fun k cs hk=>by simp[AK] at hk,Hb Rl.gh (fun i j k h=>by simp[Bn.at] at h) hn2⟩
      have hs:vals.size=3:=by simpa using hvl
      rw[hs,show (Tryz.f17).ntmps - 3=94 by kernel_rfl,Array.toList_append,Array.toList_replicate,hvs]
      refine ⟨hto (by decide) (fun b hb=>by simp[fu,hb]) hx1,hto (by decide) (fun b hb=>by simp[fu,hb]) hx2,?_,All2.replicate (a:=V.any) (b:=undef) trivial 94⟩
      obtain ⟨Aa,cap,e0,g1,g2,g3,_⟩:=hx3
      exact ⟨Aa,cap,e0,g1,g2,g3,.inl rfl⟩
     refine EA (lp:=jr) htt hm (ik hcs) (dD htt) (by kernel_rfl) ?_ hid Rl R0 ((M4 xs ys ws).trans (yP xs ys ws hg.1 hg.2)) hrun
     refine .step (h0:=aG dY ly) (by kernel_rfl) (f9 (cs:=pn) hcs (lp:=jr) (fn:=Tryz.f17) (.done (by kernel_rfl)) dY ly ?_)
      (.step (h0:=aG cW jJ) (by kernel_rfl) (f9 (cs:=pn) hcs (lp:=jr) (fn:=Tryz.f17) (.done (by kernel_rfl)) cW jJ ?_)
      (.step (h0:=aG cX jK) (by kernel_rfl) (f9 (cs:=pn) hcs (lp:=jr) (fn:=Tryz.f17) (.done (by kernel_rfl)) cX jK ?_) (.done (by kernel_rfl))))
     ·rintro ⟨⟨a,b,c,g,i,⟨⟩⟩,⟨⟩⟩ y hw hy
      obtain ⟨hg,hy⟩:=Tr.guard hy
      simp only[zA,zB] at hg
      obtain ⟨rfl,h1,h2⟩:=hg
      refine ⟨81,(CC a b c 81 g 0 (by omega) (by omega) (by omega) h2).trans ?_⟩
      rw[← hy];rfl
     ·rintro ⟨⟨a,b,c,g,h,i,⟨⟩⟩,⟨⟩⟩ y hw hy
      obtain ⟨hg,hy⟩:=Tr.guard hy
      simp only[zA,zB] at hg
      obtain ⟨rfl,h1,h2⟩:=hg
      refine ⟨81,(zn a b c g 81 h 0 (by omega) (by omega) (by omega) h2).trans ?_⟩
      rw[← hy];rfl
     ·rintro ⟨⟨a,b,c,g,⟨l,h⟩,i,⟨⟩⟩,⟨⟩⟩ y hw hy
      obtain ⟨hg,hy⟩:=Tr.guard hy
      simp only[zA,zB] at hg
      obtain ⟨rfl,h1,rfl,rfl⟩:=hg
      have w1:g.length≤maxLen:=hw.1.2.2.2.1.1
      have w2:b.length+(fw 101).length≤maxLen:=hw.1.2.2.2.2.1.1
      rw[fN] at w2
      refine ⟨81,(zo a b c g h1 w1 w2 81 0 (by omega) (by omega)).trans ?_⟩
      rw[← hy];rfl
   ·cases hrun
 ·cases hrun
end
end Go.Proofs.YthpcdhgpplmneaaGreatDoor.Sym
