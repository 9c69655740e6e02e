/- vint.read. -/
import Derived.Test.YthpcdhgpplmneaaGreatDoorRows
import Derived.WalkKit
import Derived.ProofKit
import Derived.OpenShut
import Derived.JoinedCond
import Derived.ChangeStays
import Derived.DataReads
import Derived.Test.YthpcdhgpplmneaaGreatDoorQ3

set_option linter.unusedVariables false
set_option linter.unusedSimpArgs false
namespace Go.Proofs.YthpcdhgpplmneaaGreatDoor.Sym
open Go
open Go.IntKind (i8 i16 i32 i64 u8 u16 u32 u64)
noncomputable section
theorem vH:∀l:LI,0≤br l∧br l<128 ^ l.length
 |[]=>by simp[br]
 |c::l=>by
  have:=vH l
  simp only[br,zN,Int.pow_succ]
  omega
def p8 (m t:Int):Bool:=(decide (m=10)&&decide (t=1)) || (decide (m=5)&&decide (t=15))
abbrev kF:Io:=⟨[dL,dI,dI,dU],[],[],[dV,dI,dI],none⟩
def DY (d:kF.In):Tr kF.Res:=
 .ite (p8 d.1.2.2.1 d.1.2.2.2.1) (.ret (.ret (((ab d.1.2.2.1.toNat d.1.2.2.2.1 d.1.1 d.1.2.1).1,(ab d.1.2.2.1.toNat d.1.2.2.2.1 d.1.1 d.1.2.1).2.1,(ab d.1.2.2.1.toNat d.1.2.2.2.1 d.1.1 d.1.2.1).2.2,()),()))) .no
abbrev y5:List (Nat×Hc):=[]
def GX:Hd:=bA y5
abbrev eJ:Lo:=⟨⟨(.any::.one hI::.one hI::.one (.hol (.int u8))::.any::bz (bh (.one (.hol (.int u64))::cy (bz (.one (.hol (.sl 5 (Ty.int u8)))::.one hI::.one hI::.any::ai (ai (bh []))))))),[]⟩,[(.ret,⟨(cy (.one (.hol (.int u64))::.one hI::.one hI::.any::ai (ai (ai (bh []))))),[]⟩),(.exit 0,⟨(ai (ai (ai (cy (bz (bh [])))))),[]⟩)]⟩
def lJ (d:eJ.st.den):Tr (ao eJ.xs):=
 .ite (p8 d.1.2.1 d.1.2.2.1&&(decide (d.1.2.2.2.1=(0:Int))&&(decide (d.1.2.2.2.2.2.2.1=(0:Int))&&(decide ((d.1.2.2.2.2.1.length:Int)=d.1.2.2.2.2.2.1)&&(decide ((0:Int)≤d.1.1)&&decide ((d.1.1:Int)+(d.1.2.2.2.2.1.length:Int)≤9223372036854775807))))))
  (.ite (decide ((bE d.1.2.1.toNat d.1.2.2.1 d.1.2.2.2.2.1 0).2=0))
   (.ret (.ret ((),((br (d.1.2.2.2.2.1.take ((bE d.1.2.1.toNat d.1.2.2.1 d.1.2.2.2.2.1 0).1+1).toNat) % 18446744073709551616,(d.1.1+(bE d.1.2.1.toNat d.1.2.2.1 d.1.2.2.2.2.1 0).1+1,(0,()))),()))))
   (.ite (decide ((bE d.1.2.1.toNat d.1.2.2.1 d.1.2.2.2.2.1 0).2=1)) (.ret (.pan (.ret ((),((),())))))
    (.ret (.ret ((),((0,(0,((bE d.1.2.1.toNat d.1.2.2.1 d.1.2.2.2.2.1 0).2,()))),())))))) .no
def s3:Lp:=bQ [(6,aG eJ lJ)]
def sc {R:Type}(h4 h5 h6 h7:Int)(h8:LI)(h9 h10:Int)(next:Int→Int→Int→Int→LI→Int→Int→Option R)(out:ao eJ.xs→Option R):Option R:=bif decide (h10<h9) then bif decide (0≤h10)&&decide (h10<(↑h8.length:Int)) then bif h10 == i64.wrap (h5 - 1) then bif decide (h6<h8.getD h10.toNat 0) then out (.ret ((),((0,(0,(21,()))),()))) else bif decide (0≤i64.wrap (7*h10)) then bif decide (128≤h8.getD h10.toNat 0) then next (h4) (h5) (h6) (ki u64 h7 (fx u64 (u64.wrap (eX u8 (h8.getD h10.toNat 0) 127)) (i64.wrap (7*h10)))) (h8) (h9) (i64.wrap (h10+1)) else bif h8.getD h10.toNat 0 == 0 then bif decide (0<h10) then out (.ret ((),((0,(0,(20,()))),()))) else out (.ret ((),((ki u64 h7 (fx u64 (u64.wrap (eX u8 (h8.getD h10.toNat 0) 127)) (i64.wrap (7*h10))),(i64.wrap (i64.wrap (h4+h10)+1),(0,()))),()))) else out (.ret ((),((ki u64 h7 (fx u64 (u64.wrap (eX u8 (h8.getD h10.toNat 0) 127)) (i64.wrap (7*h10))),(i64.wrap (i64.wrap (h4+h10)+1),(0,()))),()))) else none else bif decide (0≤i64.wrap (7*h10)) then bif decide (128≤h8.getD h10.toNat 0) then next (h4) (h5) (h6) (ki u64 h7 (fx u64 (u64.wrap (eX u8 (h8.getD h10.toNat 0) 127)) (i64.wrap (7*h10)))) (h8) (h9) (i64.wrap (h10+1)) else bif h8.getD h10.toNat 0 == 0 then bif decide (0<h10) then out (.ret ((),((0,(0,(20,()))),()))) else out (.ret ((),((ki u64 h7 (fx u64 (u64.wrap (eX u8 (h8.getD h10.toNat 0) 127)) (i64.wrap (7*h10))),(i64.wrap (i64.wrap (h4+h10)+1),(0,()))),()))) else out (.ret ((),((ki u64 h7 (fx u64 (u64.wrap (eX u8 (h8.getD h10.toNat 0) 127)) (i64.wrap (7*h10))),(i64.wrap (i64.wrap (h4+h10)+1),(0,()))),()))) else none else none else out (.pan (.ret ((),((),()))))
def qT (n:Nat)(h4 h5 h6 h7:Int)(h8:LI)(h9 h10:Int):Option (ao eJ.xs):=fV tt GX dr s3 0 Tryz.f137 (b9 Tryz.f137 0) n (eJ.st.mk' ((h4,(h5,(h6,(h7,(h8,(h9,(h10,()))))))),())) (bH eJ.xs)
theorem JH (n:Nat)(h4 h5 h6 h7:Int)(h8:LI)(h9 h10:Int):qT (n+1) h4 h5 h6 h7 h8 h9 h10=sc h4 h5 h6 h7 h8 h9 h10 (qT n) some:=by kernel_rfl
theorem IP (p m:Nat)(t:Int)(l:LI)(hf:p8 m t=true)(hp:(p:Int)+l.length≤9223372036854775807)(hc:∀c∈l,0≤c∧c≤255):∀(k i:Nat),i<m→m<i+k→i≤l.length→
  qT k p m t (br (l.take i)) l l.length i=
   if (bE m t (l.drop i) i).2=0 then some (.ret ((),((br (l.take ((bE m t (l.drop i) i).1+1).toNat) % 18446744073709551616,(p+(bE m t (l.drop i) i).1+1,(0,()))),())))
   else if (bE m t (l.drop i) i).2=1 then some (.pan (.ret ((),((),())))) else some (.ret ((),((0,(0,((bE m t (l.drop i) i).2,()))),()))):=by
 have hm:(m=10∧t=1)∨(m=5∧t=15):=by
  simp only[p8,Bool.or_eq_true,zA,zB] at hf
  omega
 intro k
 induction k with
 |zero=>intro i h1 h2;omega
 |succ k ih=>
  intro i h1 h2 h3
  rw[JH]
  unfold sc
  by_cases hl:i<l.length
  ·have hcc:=hc l[i] (List.getElem_mem hl)
   have e3:i64.wrap ((m:Int) - 1)=(m:Int) - 1:=af (by omega) (by omega)
   have e4:i64.wrap ((i:Int)+1)=((i+1:Nat):Int):=by rw[af] <;> omega
   have e5:i64.wrap (7*(i:Int))=((7*i:Nat):Int):=by rw[af] <;> omega
   have e6:i64.wrap ((p:Int)+i)=((p+i:Nat):Int):=by rw[af] <;> omega
   have e7:i64.wrap (((p+i:Nat):Int)+1)=(p:Int)+i+1:=by rw[af] <;> omega
   rw[aa (by simpa using hl),aa (by simpa using hl)]
   simp only[zG,aC hl,e3,e4,e5,e6,e7]
   rw[Oi hcc.1 hcc.2,eo (n:=l[i] % 128) (by omega) (by omega),zE hl]
   have hsn:l.take (i+1)=l.take i++[l[i]]:=List.take_succ_eq_append_getElem hl
   have hv:=vH (l.take i)
   have hti:(l.take i).length=i:=by simp;omega
   rw[hti] at hv
   have e8:(128:Int) ^ i=2 ^ (7*i):=by rw[Int.pow_mul];rfl
   have hor:l[i] % 128*2 ^ (7*i)<18446744073709551616→ki .u64 (br (l.take i)) (fx .u64 (l[i] % 128) ((7*i:Nat):Int))=br (l.take (i+1)):=by
    intro h
    rw[RC hv.1 (by rw[← e8];exact hv.2) (by omega) h (by omega),hsn,oP,hti,e8,Int.mul_comm]
   generalize hg:ki .u64 (br (l.take i)) (fx .u64 (l[i] % 128) ((7*i:Nat):Int))=v at hor ⊢
   have e9:(2:Int) ^ (7*i)=((2 ^ (7*i):Nat):Int):=by rw[Int.natCast_pow];rfl
   have hbd:(i≤8∨l[i] % 128≤1)→l[i] % 128*2 ^ (7*i)<18446744073709551616:=by
    intro h
    rw[e9]
    rcases h with h | h
    ·have h8:2 ^ (7*i)≤2 ^ 56:=Nat.pow_le_pow_right (by decide) (by omega)
     have h9:l[i] % 128*((2 ^ (7*i):Nat):Int)≤127*((2 ^ (7*i):Nat):Int):=Int.mul_le_mul_of_nonneg_right (by omega) (by omega)
     generalize 2 ^ (7*i)=w at h8 h9
     omega
    ·have h8:2 ^ (7*i)≤2 ^ 63:=Nat.pow_le_pow_right (by decide) (by omega)
     have h9:l[i] % 128*((2 ^ (7*i):Nat):Int)≤1*((2 ^ (7*i):Nat):Int):=Int.mul_le_mul_of_nonneg_right h (by omega)
     generalize 2 ^ (7*i)=w at h8 h9
     omega
   have hnext:=fun h=>ih (i+1) h (by omega) (by omega)
   have ei:((i:Int)+1).toNat=i+1:=by omega
   have hvr:bt .u64 v:=by rw[← hg];exact bS _ _
   have hvr:=sS.1 hvr
   clear hg
   by_cases hm1:i+1=m
   ·have h3':((i:Int) == (m:Int) - 1)=true:=by simp;omega
    rw[aa h3']
    by_cases h4:t<l[i]
    ·simp[bE,hm1,h4]
    ·have hv2:=hor (hbd (by omega))
     have hmod:br (l.take (i+1)) % 18446744073709551616=br (l.take (i+1)):=by rw[← hv2];omega
     have hmod':=hmod
     rw[hm1] at hmod'
     have h5:l[i]<128:=by omega
     have h6:¬ 128≤l[i]:=by omega
     rw[ae (by simpa using h4),aa (by simp;omega),ae (by simpa using h6),hv2]
     by_cases h7:l[i]=0
     ·have h4':¬ t<0:=by omega
      by_cases h8:0<i <;> simp[bE,hm1,h4',h7,h8,cond_eq_ite,ei,hmod']
     ·simp[bE,hm1,h4,h5,h7,cond_eq_ite,ei,hmod']
   ·have h3':((i:Int) == (m:Int) - 1)=false:=by simp;omega
    have hv2:=hor (hbd (by omega))
    have hmod:br (l.take (i+1)) % 18446744073709551616=br (l.take (i+1)):=by rw[← hv2];omega
    rw[ae h3',aa (by simp;omega),hv2]
    by_cases h5:l[i]<128
    ·have h6:¬ 128≤l[i]:=by omega
     rw[ae (by simpa using h6)]
     by_cases h7:l[i]=0
     ·by_cases h8:0<i <;> simp[bE,hm1,h7,h8,cond_eq_ite,ei,hmod]
     ·simp[bE,hm1,h5,h7,cond_eq_ite,ei,hmod]
    ·rw[aa (by simp;omega),hnext (by omega)]
     simp[bE,hm1,h5]
  ·rw[ae (by simpa using hl),zI (by omega)]
   simp[bE]
def wJ (a0:LI)(a1 a2 a3:Int):Option kF.Res:=bif decide (a1<0) then oR ((0,0,3,()),()) else bif decide ((↑a0.length:Int)<a1) then oR ((0,0,3,()),()) else bif decide (0≤a1)&&(decide (a1≤(↑a0.length:Int))&&decide ((↑a0.length:Int)≤(↑a0.length:Int))) then (lJ ((a1,(a2,(a3,(0,(List.drop a1.toNat (List.take (↑a0.length:Int).toNat a0),((↑(List.drop a1.toNat (List.take (↑a0.length:Int).toNat a0)).length:Int),(0,()))))))),())).run fun y=>match y with | .ret ((),((x46,x47,x48,()),()))=>(oR ((x46,x47,x48,()),())) | .pan (.ret ((),((),())))=>(oR ((0,0,1,()),())) else none
theorem Nb (a0:LI)(a1 a2 a3:Int):Io.run tt GX dr s3 kF Tryz.f137 ((a0,a1,a2,a3,()),())=wJ a0 a1 a2 a3:=by kernel_rfl
theorem HS:HcOk prog 137 (ah kF DY):=by
 refine bW (cs:=y5) .nil (lp:=s3) (fn:=Tryz.f137) kF
  (.step (h0:=aG eJ lJ) (by kernel_rfl) (gi (cs:=y5) .nil (lp:=s3) (fn:=Tryz.f137) (.done (by kernel_rfl)) eJ lJ ?_) (.done (by kernel_rfl))) DY ?_
 ·rintro ⟨⟨(p:Int),(m:Int),(t:Int),(u:Int),(l:LI),(n:Int),(i:Int),⟨⟩⟩,⟨⟩⟩ y hw hy
  obtain ⟨hg,hy⟩:=Tr.guard hy
  simp only[zA,zB] at hg
  obtain ⟨hf,rfl,rfl,rfl,h1,h2⟩:=hg
  have h1:(0:Int)≤p:=h1
  have h2:p+(l.length:Int)≤9223372036854775807:=h2
  have hm0:5≤m∧m≤10:=by
   simp only[p8,Bool.or_eq_true,zA,zB] at hf
   omega
  obtain ⟨p,rfl⟩:=aA h1
  obtain ⟨m,rfl⟩:=aA (show 0≤m by omega)
  have hc:∀c∈l,0≤c∧c≤255:=fun c hc=>EG.1 (hw.1.2.2.2.2.1.2 c hc)
  refine ⟨m+1,(IP p m t l hf h2 hc (m+1) 0 (by omega) (by omega) (by omega)).trans ?_⟩
  rw[← hy]
  simp only[Tr.val_ite,Tr.val_ret,zG,zB,List.drop_zero]
 ·rintro ⟨⟨(b:LI),(p:Int),(m:Int),(t:Int),⟨⟩⟩,⟨⟩⟩ out hw ho
  obtain ⟨hf,ho⟩:=Tr.guard ho
  cases ho
  refine (Nb b p m t).trans ?_
  have hb:b.length≤maxLen:=hw.1.1.1
  rw[bg] at hb
  have hf:p8 m t=true:=hf
  have hm0:5≤m∧m≤10:=by
   simp only[p8,Bool.or_eq_true,zA,zB] at hf
   omega
  unfold wJ
  show _=oR (((ab m.toNat t b p).1,(ab m.toNat t b p).2.1,(ab m.toNat t b p).2.2,()),())
  unfold ab
  by_cases h1:p<0
  ·rw[aa (by simpa using h1),if_pos (.inl h1)]
  ·by_cases h2:(b.length:Int)<p
   ·rw[ae (by simpa using h1),aa (by simpa using h2),if_pos (.inr h2)]
   ·rw[ae (by simpa using h1),ae (by simpa using h2),aa (by simp;omega),if_neg (by omega),show (b.length:Int).toNat=b.length by omega,List.take_length]
    have hlen:((b.drop p.toNat).length:Int)=b.length - p:=by simp;omega
    have hr:=qc m.toNat t (b.drop p.toNat) 0
    unfold lJ
    generalize b.drop p.toNat=l at hlen hr ⊢
    generalize bE m.toNat t l 0=r at hr ⊢
    obtain ⟨r1,r2⟩:=r
    have h9:(0:Int)≤p:=by omega
    have h8:p+(l.length:Int)≤9223372036854775807:=by omega
    simp only[Tr.run_ite,Tr.run_ret,zA,zB]
    rw[if_pos ⟨hf,trivial,trivial,trivial,h9,h8⟩]
    by_cases h3:r2=0
    ·simp[h3]
    ·by_cases h4:r2=1
     ·simp[h4]
     ·simp[h3,h4]
abbrev lW:Io:=⟨[dL,dI],[],[],[RY,dI,dI],none⟩
def FV (d:lW.In):Tr lW.Res:=.ret (.ret ((ak (ab 10 1 d.1.1 d.1.2.1).1,(ab 10 1 d.1.1 d.1.2.1).2.1,(ab 10 1 d.1.1 d.1.2.1).2.2,()),()))
abbrev Er:List (Nat×Hc):=[(137,ah kF DY),(138,ah nW Kd)]
def QT:Hd:=bA Er
def L1:Lp:=bQ []
def tN (a0:LI)(a1:Int):Option lW.Res:=oR ((ak (ab (Int.toNat 10) 1 a0 a1).1,(ab (Int.toNat 10) 1 a0 a1).2.1,(ab (Int.toNat 10) 1 a0 a1).2.2,()),())
theorem PQ (a0:LI)(a1:Int):Io.run tt QT dr L1 lW Tryz.f135 ((a0,a1,()),())=tN a0 a1:=by kernel_rfl
theorem My:HcOk prog 135 (ah lW FV):=by
 refine bW (cs:=Er) (.cons HS (.cons MA .nil)) (lp:=L1) (fn:=Tryz.f135) lW (.done (by kernel_rfl)) FV ?_
 rintro ⟨⟨(b:LI),(p:Int),⟨⟩⟩,⟨⟩⟩ out hw ho
 cases ho
 refine (PQ b p).trans ?_
 first | rfl | (unfold tN;simp[p8];done) | (unfold tN;rfl)
abbrev gr:Io:=⟨[dL,dI],[],[],[SO,dI,dI],none⟩
def sA (d:gr.In):Tr gr.Res:=.ret (.ret ((IntKind.wrap .i32 (ak (ab 5 15 d.1.1 d.1.2.1).1),(ab 5 15 d.1.1 d.1.2.1).2.1,(ab 5 15 d.1.1 d.1.2.1).2.2,()),()))
abbrev BD:List (Nat×Hc):=Er
def Ly:Hd:=bA BD
def CU:Lp:=bQ []
def nH (a0:LI)(a1:Int):Option gr.Res:=oR ((i32.wrap (ak (ab (Int.toNat 5) 15 a0 a1).1),(ab (Int.toNat 5) 15 a0 a1).2.1,(ab (Int.toNat 5) 15 a0 a1).2.2,()),())
theorem Je (a0:LI)(a1:Int):Io.run tt Ly dr CU gr Tryz.f111 ((a0,a1,()),())=nH a0 a1:=by kernel_rfl
theorem C5:HcOk prog 111 (ah gr sA):=by
 refine bW (cs:=BD) (.cons HS (.cons MA .nil)) (lp:=CU) (fn:=Tryz.f111) gr (.done (by kernel_rfl)) sA ?_
 rintro ⟨⟨(b:LI),(p:Int),⟨⟩⟩,⟨⟩⟩ out hw ho
 cases ho
 refine (Je b p).trans ?_
 first | rfl | (unfold nH;simp[p8];done) | (unfold nH;rfl)
theorem PD:∀c:Nat,c<256→ki .u8 (c:Int) 128=(c:Int) % 128+128:=by decide +kernel
theorem RB {u:Int}:ki .u8 (IntKind.wrap .u8 u) 128=u % 128+128:=by
 have e:IntKind.wrap .u8 u=((u % 256).toNat:Int):=by simp[IntKind.wrap,IntKind.signed,IntKind.bits];omega
 rw[e,PD _ (by omega)]
 omega
abbrev Tb:Sh:=.dat (.sl 2 (.int .i64)) false false
abbrev fp:Io:=⟨[Tb],[],[],[dO],none⟩
def fa (vs:LI):LI:=vs.flatMap fun v=>bG (be v)
def oY (d:fp.In):Tr fp.Res:=.ite (decide (d.1.1.length≤100000000)) (.ret (.ret ((fa d.1.1,()),()))) .no
abbrev xh:List (Nat×Hc):=[(181,ah nX Ke)]
def qK:Hd:=bA xh
abbrev cJ:Lo:=⟨⟨(.any::bh (.one (.onl 5 (Ty.int u8) 7)::bh (.one (.hol (.int u64))::.any::.one (.hol (.sl 2 (Ty.int i64)))::.one hI::.one hI::ai (bz (bh []))))),[]⟩,[(.exit 2,⟨(.any::bh (.one (.onl 5 (Ty.int u8) 7)::bh (.one (.hol (.int u64))::.any::.one (.hol (.sl 2 (Ty.int i64)))::.one hI::.one hI::ai (bz (bh []))))),[]⟩)]⟩
abbrev cI:Lo:=⟨⟨(.any::bh (.one (.onl 5 (Ty.int u8) 7)::bz (.one (.hol (.sl 2 (Ty.int i64)))::.one hI::.one hI::ai (bz (bh []))))),[]⟩,[(.exit 0,⟨(.any::bh (.one (.onl 5 (Ty.int u8) 7)::.any::ai (cy (bz [])))),[]⟩)]⟩
def ii (d:cJ.st.den):Tr (ao cJ.xs):=
 .ite (decide (d.1.1.length≤4294967000)) (.ret (.ret ((),((d.1.1++oM 10 d.1.2.1,(ni 10 d.1.2.1,(d.1.2.2.1,(d.1.2.2.2.1,(d.1.2.2.2.2.1,()))))),())))) .no
def ig (d:cI.st.den):Tr (ao cI.xs):=
 .ite (decide (d.1.1.length=0)&&(decide ((d.1.2.1.length:Int)=d.1.2.2.1)&&(decide (d.1.2.2.2.1=(0:Int))&&decide (d.1.2.1.length≤100000000)))) (.ret (.ret ((),((fa d.1.2.1,()),())))) .no
def gZ:Lp:=bQ [(4,aG cI ig),(7,aG cJ ii)]
def jO {R:Type}(h5:LI)(h6:Int)(h7:LI)(h8 h9:Int)(next:LI→Int→LI→Int→Int→Option R)(out:ao cJ.xs→Option R):Option R:=bif decide (128≤h6) then bif decide (h5.length+[ki u8 (u8.wrap h6) 128].length≤4294967296) then next (h5++[ki u8 (u8.wrap h6) 128]) (eY u64 h6 7) (h7) (h8) (h9) else none else out (.ret ((),((h5,(h6,(h7,(h8,(h9,()))))),())))
def l8 (n:Nat)(h5:LI)(h6:Int)(h7:LI)(h8 h9:Int):Option (ao cJ.xs):=fV tt qK dr gZ 0 Tryz.f166 (Sx Tryz.f166 (b9 Tryz.f166 0) 0) n (cJ.st.mk' ((h5,(h6,(h7,(h8,(h9,()))))),())) (bH cJ.xs)
theorem rQ (n:Nat)(h5:LI)(h6:Int)(h7:LI)(h8 h9:Int):l8 (n+1) h5 h6 h7 h8 h9=jO h5 h6 h7 h8 h9 (l8 n) some:=by kernel_rfl
def nB {R:Type}(h1 h2:LI)(h3 h4:Int)(next:LI→LI→Int→Int→Option R)(out:ao cI.xs→Option R):Option R:=bif decide (h4<h3) then bif decide (0≤h4)&&decide (h4<(↑h2.length:Int)) then (ii ((h1,(be (h2.getD h4.toNat 0),(h2,(h3,(h4,()))))),())).run fun y=>match y with | .ret ((),((x20,x21,x22,x23,x24,()),()))=>(bif decide (x20.length+[u8.wrap x21].length≤4294967296) then next (x20++[u8.wrap x21]) (x22) (x23) (i64.wrap (x24+1)) else none) else none else out (.ret ((),((h1,()),())))
def l7 (n:Nat)(h1 h2:LI)(h3 h4:Int):Option (ao cI.xs):=fV tt qK dr gZ 0 Tryz.f166 (b9 Tryz.f166 0) n (cI.st.mk' ((h1,(h2,(h3,(h4,())))),())) (bH cI.xs)
theorem Dq (n:Nat)(h1 h2:LI)(h3 h4:Int):l7 (n+1) h1 h2 h3 h4=nB h1 h2 h3 h4 (l7 n) some:=by kernel_rfl
theorem v7 (l:LI)(a i:Int):∀(n k:Nat) (u:Int) (o:LI),0≤u→u<128 ^ n→u<18446744073709551616→n<k→o.length+n≤4294967296→
  l8 k o u l a i=some (.ret ((),((o++oM n u,(ni n u,(l,(a,(i,()))))),()))):=by
 intro n
 induction n with
 |zero=>
  intro k u o h0 h1 h2 h3 h4
  obtain ⟨k,rfl⟩:∃m,k=m+1:=⟨k - 1,by omega⟩
  rw[rQ]
  unfold jO
  have:¬ 128≤u:=by simp at h1;omega
  simp[this,ni,oM]
 |succ n ih=>
  intro k u o h0 h1 h2 h3 h4
  obtain ⟨k,rfl⟩:∃m,k=m+1:=⟨k - 1,by omega⟩
  rw[rQ]
  unfold jO
  have e1:eY .u64 u 7=u / 128:=by
   show IntKind.wrap .u64 (u.fdiv (2 ^ 7))=_
   rw[Int.fdiv_eq_ediv_of_nonneg _ (by decide),eo] <;> omega
  rw[RB,e1]
  by_cases h:127<u
  ·rw[ih k (u / 128) _ (by omega) (by rw[Int.pow_succ] at h1;exact Int.ediv_lt_of_lt_mul (by omega) h1) (by omega) (by omega) (by simp;omega)]
   have h5:o.length+1≤4294967296:=by omega
   have h6:128≤u:=by omega
   simp[h,h5,h6,ni,oM]
  ·have h6:¬ 128≤u:=by omega
   simp[h,h6,ni,oM]
theorem DC:∀(n:Nat) (u:Int),(oM n u).length≤n:=by
 intro n
 induction n with
 |zero=>intro u;simp[oM]
 |succ n ih=>intro u;simp only[oM];split;have:=ih (u / 128);simp;omega;simp
theorem DJ {v:Int}(hr:bt .i64 v):0≤be v∧be v<18446744073709551616:=by
 have hr:=G8.1 hr
 unfold be;split <;> omega
theorem DB (v:Int)(l:LI):fa (v::l)=oM 10 (be v)++(ni 10 (be v)::fa l):=by simp[fa,bG]
theorem v6 (vs:LI)(hl:vs.length≤100000000)(hr:∀v∈vs,bt .i64 v):∀(k:Nat) (o:LI) (i:Nat),i≤vs.length→vs.length<i+k→o.length≤11*i→
  l7 k o vs vs.length i=some (.ret ((),((o++fa (vs.drop i),()),()))):=by
 intro k
 induction k with
 |zero=>intro o i h1 h2;omega
 |succ k ih=>
  intro o i h1 h2 h3
  rw[Dq]
  unfold nB
  by_cases hi:i<vs.length
  ·have hz:=DJ (hr vs[i] (List.getElem_mem hi))
   obtain ⟨l1,l2⟩:=Id 10 (be vs[i]) hz.1 (by have:=hz.2;omega)
   have h4:=DC 10 (be vs[i])
   have h5:o.length≤4294967000:=by omega
   have h6:o.length+(oM 10 (be vs[i])).length+1≤4294967296:=by omega
   have e4:i64.wrap ((i:Int)+1)=((i+1:Nat):Int):=by rw[af] <;> omega
   rw[aa (by simpa using hi),aa (by simpa using hi),zE hi]
   simp only[zG,aC hi,ii,Tr.run_ite,Tr.run_ret,h5,decide_true,if_true,e4]
   rw[aa (by simp;omega),vV (n:=ni 10 (be vs[i])) l1 (by omega),ih _ (i+1) hi (by omega) (by simp;omega)]
   rw[DB]
   simp
  ·rw[zI (by omega)]
   simp[hi,fa]
def rt (a0:LI):Option fp.Res:=(ig (([],(a0,((↑a0.length:Int),(0,())))),())).run fun y=>match y with | .ret ((),((x30,()),()))=>(oR ((x30,()),()))
theorem E9 (a0:LI):Io.run tt qK dr gZ fp Tryz.f166 ((a0,()),())=rt a0:=by kernel_rfl
theorem lT:HcsOk prog xh:=.cons Rm .nil
theorem xS:HcOk prog 166 (ah fp oY):=by
 refine bW lT (lp:=gZ) (fn:=Tryz.f166) fp
  (.step (h0:=aG cI ig) (by kernel_rfl) (gi lT (lp:=gZ) (fn:=Tryz.f166)
   (.step (h0:=aG cJ ii) (by kernel_rfl) (gi lT (lp:=gZ) (fn:=Tryz.f166) (.done (by kernel_rfl)) cJ ii ?_) (.done (by kernel_rfl)))
   cI ig ?_) (.done (by kernel_rfl))) oY ?_
 ·rintro ⟨⟨(o:LI),(u:Int),(l:LI),(a:Int),(i:Int),⟨⟩⟩,⟨⟩⟩ y hw hy
  obtain ⟨hg,hy⟩:=Tr.guard hy
  have hg:o.length≤4294967000:=by simpa using hg
  have hr:=sS.1 (show bt .u64 u from hw.1.2.1)
  refine ⟨11,(v7 l a i 10 11 u o hr.1 (by omega) (by omega) (by omega) (by omega)).trans ?_⟩
  rw[← hy];rfl
 ·rintro ⟨⟨(o:LI),(l:LI),(a:Int),(i:Int),⟨⟩⟩,⟨⟩⟩ y hw hy
  obtain ⟨hg,hy⟩:=Tr.guard hy
  simp only[zA,zB] at hg
  obtain ⟨h1,rfl,rfl,h2⟩:=hg
  have h1:o=[]:=List.length_eq_zero_iff.1 h1
  subst h1
  have h2:l.length≤100000000:=h2
  refine ⟨l.length+1,(v6 l h2 (fun v hv=>hw.1.2.1.2 v hv) (l.length+1) [] 0 (by omega) (by omega) (by simp)).trans ?_⟩
  rw[← hy];rfl
 ·rintro ⟨⟨(l:LI),⟨⟩⟩,⟨⟩⟩ out hw ho
  obtain ⟨hg,ho⟩:=Tr.guard ho
  cases ho
  refine (E9 l).trans ?_
  have hg:l.length≤100000000:=by simpa using hg
  unfold rt ig
  simp[Tr.run_ite,Tr.run_ret,hg]
abbrev kD:Io:=⟨[RY],[],[],[dO],none⟩
def AR (d:kD.In):Tr kD.Res:=.ret (.ret ((bG (be d.1.1),()),()))
abbrev KK:List (Nat×Hc):=[(166,ah fp oY)]
def QV:Hd:=bA KK
def L3:Lp:=bQ []
def A9 (a0:Int):Option kD.Res:=oR ((fa [a0],()),())
theorem PS (a0:Int):Io.run tt QV dr L3 kD Tryz.f128 ((a0,()),())=A9 a0:=by kernel_rfl
theorem EY:HcOk prog 128 (ah kD AR):=by
 refine bW (cs:=KK) (.cons xS .nil) (lp:=L3) (fn:=Tryz.f128) kD (.done (by kernel_rfl)) AR ?_
 rintro ⟨⟨(v:Int),⟨⟩⟩,⟨⟩⟩ out hw ho
 cases ho
 refine (PS v).trans ?_
 unfold A9
 simp[fa]
abbrev yf:Ty:=.prod .bool (.prod bs .unit)
abbrev cP:Ty:=.prod .str (.prod yf .unit)
abbrev FJ:Ty:=.sl 206 cP
abbrev SS:Ty:=.prod (.int .i64) (.prod (.int .i32) (.prod yf (.prod yf (.prod FJ .unit))))
abbrev xq:Sh:=.dat yf true false
abbrev BU:Sh:=.dat SS true false
abbrev Ev:Sh:=.dat FJ false false
abbrev cF:Io:=⟨[xq,xq],[],[],[dB],none⟩
def i0 (d:cF.In):Tr cF.Res:=.ret (.ret ((decide (d.1.1=d.1.2.1),()),()))
abbrev pq:List (Nat×Hc):=[(22,ah ky AQ)]
def zf:Hd:=bA pq
def pE:Lp:=bQ []
def lQ (a0:Bool)(a1:LI)(a2:Bool)(a3:LI):Option cF.Res:=bif a0 == a2 then oR ((decide (a1=a3),()),()) else oR ((false,()),())
theorem we (a0:Bool)(a1:LI)(a2:Bool)(a3:LI):Io.run tt zf dr pE cF Tryz.f101 (((a0,a1,()),(a2,a3,()),()),())=lQ a0 a1 a2 a3:=by kernel_rfl
theorem pX:HcOk prog 101 (ah cF i0):=by
 refine bW (cs:=pq) (.cons EX .nil) (lp:=pE) (fn:=Tryz.f101) cF (.done (by kernel_rfl)) i0 ?_
 rintro ⟨⟨⟨(n:Bool),(b:LI),⟨⟩⟩,⟨(m:Bool),(c:LI),⟨⟩⟩,⟨⟩⟩,⟨⟩⟩ out hw ho
 cases ho
 refine (we n b m c).trans ?_
 unfold lQ
 show _=oR ((decide (((n,b,()):Bool×LI×Unit)=(m,c,())),()),())
 cases n <;> cases m <;> simp
abbrev AO:Type:=Bool×LI×Unit
abbrev cE:Type:=LI×AO×Unit
abbrev nh:Type:=Int×Int×AO×AO×List cE×Unit
abbrev cR:Io:=⟨[Ev,Ev],[],[],[dB],none⟩
def kk (d:cR.In):Tr cR.Res:=.ret (.ret ((decide (d.1.1=d.1.2.1),()),()))
abbrev nm:List (Nat×Hc):=[(101,ah cF i0)]
def np:Hd:=bA nm
abbrev bB:Lo:=⟨⟨(.one (.hol (.sl 206 (Ty.str.prod ((Ty.bool.prod ((Ty.sl 5 (Ty.int u8)).prod Ty.unit)).prod Ty.unit))))::.one (.hol (.sl 206 (Ty.str.prod ((Ty.bool.prod ((Ty.sl 5 (Ty.int u8)).prod Ty.unit)).prod Ty.unit))))::.any::bh (.one hI::ai (ai (bz [])))),[]⟩,[(.ret,⟨(bz (.one hL::.any::ai (ai (bz [])))),[]⟩),(.exit 0,⟨(ai (ai (cy (bh [])))),[]⟩)]⟩
def dX (d:bB.st.den):Tr (ao bB.xs):=
 .ite (decide (d.1.2.2.1=(0:Int))&&decide (d.1.1.length=d.1.2.1.length)) (.ite (decide (d.1.1=d.1.2.1)) (.ret (.pan (.ret ((),((),()))))) (.ret (.ret ((),((false,()),()))))) .no
def gj:Lp:=bQ [(5,aG bB dX)]
def jz {R:Type}(h2 h3:List cP.den)(h4:Int)(next:List cP.den→List cP.den→Int→Option R)(out:ao bB.xs→Option R):Option R:=bif decide (h4<(↑h2.length:Int)) then bif decide (0≤h4)&&decide (h4<(↑h2.length:Int)) then bif decide (0≤h4)&&decide (h4<(↑h3.length:Int)) then bif !decide ((h2.getD h4.toNat ([],(false,[],()),())).1=(h3.getD h4.toNat ([],(false,[],()),())).1) then out (.ret ((),((false,()),()))) else bif decide (0≤h4)&&decide (h4<(↑h2.length:Int)) then bif decide (0≤h4)&&decide (h4<(↑h3.length:Int)) then bif !decide (((h2.getD h4.toNat ([],(false,[],()),())).2.1.1,(h2.getD h4.toNat ([],(false,[],()),())).2.1.2.1,())=((h3.getD h4.toNat ([],(false,[],()),())).2.1.1,(h3.getD h4.toNat ([],(false,[],()),())).2.1.2.1,())) then out (.ret ((),((false,()),()))) else next (h2) (h3) (i64.wrap (h4+1)) else none else none else none else none else out (.pan (.ret ((),((),()))))
def gI (n:Nat)(h2 h3:List cP.den)(h4:Int):Option (ao bB.xs):=fV tt np dr gj 0 Tryz.f102 (b9 Tryz.f102 0) n (bB.st.mk' ((h2,(h3,(h4,()))),())) (bH bB.xs)
theorem sy (n:Nat)(h2 h3:List cP.den)(h4:Int):gI (n+1) h2 h3 h4=jz h2 h3 h4 (gI n) some:=by kernel_rfl
theorem su (xs ys:List cE)(hl:xs.length=ys.length)(hb:xs.length≤maxLen):∀(k i:Nat),i≤xs.length→xs.length<i+k→
  gI k xs ys (i:Int)=if xs.drop i=ys.drop i then some (.pan (.ret ((),((),())))) else some (.ret ((),((false,()),()))):=by
 intro k
 induction k with
 |zero=>intro i h h';omega
 |succ k ih=>
  intro i hi h
  rw[sy]
  unfold jz
  by_cases h1:i<xs.length
  ·have h2:i<ys.length:=by omega
   rw[aM h1 hb,ih (i+1) h1 (by omega)]
   have e:(xs.drop i=ys.drop i)↔(xs[i]=ys[i]∧xs.drop (i+1)=ys.drop (i+1)):=by rw[zE h1,zE h2,List.cons.injEq]
   have e1:(xs.getD (i:Int).toNat ([],(false,[],()),()):cE)=xs[i]:=aC h1
   have e2:(ys.getD (i:Int).toNat ([],(false,[],()),()):cE)=ys[i]:=aC h2
   rw[← e1,← e2] at e
   generalize (xs.getD (i:Int).toNat ([],(false,[],()),()):cE)=x at *
   generalize (ys.getD (i:Int).toNat ([],(false,[],()),()):cE)=y at *
   obtain ⟨x1,⟨x2,x3,⟨⟩⟩,⟨⟩⟩:=x
   obtain ⟨y1,⟨y2,y3,⟨⟩⟩,⟨⟩⟩:=y
   by_cases he:x1=y1 <;> by_cases he2:x2=y2 <;> by_cases he3:x3=y3 <;> simp[h1,h2,he,he2,he3,e,cond_eq_ite]
  ·rw[zI (by omega),zI (by omega)]
   simp[h1]
def ll (a0 a1:List cP.den):Option cR.Res:=bif (↑a0.length:Int) != (↑a1.length:Int) then oR ((false,()),()) else (dX ((a0,(a1,(0,()))),())).run fun y=>match y with | .ret ((),((x10,()),()))=>(oR ((x10,()),())) | .pan (.ret ((),((),())))=>(oR ((true,()),()))
theorem vq (a0 a1:List cP.den):Io.run tt np dr gj cR Tryz.f102 ((a0,a1,()),())=ll a0 a1:=by kernel_rfl
theorem lu:HcsOk prog nm:=.cons pX .nil
theorem wb:HcOk prog 102 (ah cR kk):=by
 refine bW lu (lp:=gj) (fn:=Tryz.f102) cR
  (.step (h0:=aG bB dX) (by kernel_rfl) (gi lu (lp:=gj) (fn:=Tryz.f102) (.done (by kernel_rfl)) bB dX ?_) (.done (by kernel_rfl))) kk ?_
 ·rintro ⟨⟨(xs:List cE),(ys:List cE),(i:Int),⟨⟩⟩,⟨⟩⟩ y hw hy
  obtain ⟨hg,hy⟩:=Tr.guard hy
  simp only[zA,zB] at hg
  obtain ⟨hi,hl⟩:=hg
  have hi:i=0:=hi
  have hl:xs.length=ys.length:=hl
  subst hi
  refine ⟨xs.length+1,(su xs ys hl hw.1.1.1 _ 0 (by omega) (by omega)).trans ?_⟩
  rw[← hy]
  simp only[Tr.val_ite,zB,Tr.val_ret,List.drop_zero]
 ·rintro ⟨⟨(xs:List cE),(ys:List cE),⟨⟩⟩,⟨⟩⟩ out hw ho
  cases ho
  refine (vq xs ys).trans ?_
  unfold ll dX
  show _=oR ((decide (xs=ys),()),())
  by_cases hl:xs.length=ys.length
  ·by_cases he:xs=ys
   ·subst he;simp[Tr.run]
   ·simp[Tr.run,hl,he]
  ·have:xs≠ys:=fun e=>hl (by rw[e])
   have h2:(xs.length:Int)≠ys.length:=by omega
   simp[this,h2,cond_eq_ite]
def ag (b:LI)(p:Int):Int×Int×Int:=(IntKind.wrap .i32 (ak (ab 5 15 b p).1),(ab 5 15 b p).2.1,(ab 5 15 b p).2.2)
def ac (b:LI)(p least:Int):AO×Int×Int:=
 if (ag b p).2.2≠0 then ((false,[],()),0,(ag b p).2.2)
 else if (ag b p).1<least then ((false,[],()),0,5)
 else if (ag b p).1<0 then ((true,[],()),(ag b p).2.1,0)
 else if (b.length:Int) - (ag b p).2.1<(ag b p).1 then ((false,[],()),0,1)
 else ((false,(b.drop (ag b p).2.1.toNat).take (ag b p).1.toNat,()),(ag b p).2.1+(ag b p).1,0)
def ay (b:LI):Nat→List cE→Int→List cE×Int×Int
 |0,out,p=>(out,p,0)
 |n+1,out,p=>
  if (ac b p 0).2.2≠0 then ([],0,(ac b p 0).2.2)
  else if (cC (ac b p 0).1.2.1).2=false then ([],0,6)
  else if (ac b (ac b p 0).2.1 (-1)).2.2≠0 then ([],0,(ac b (ac b p 0).2.1 (-1)).2.2)
  else ay b n (out++[((ac b p 0).1.2.1,(ac b (ac b p 0).2.1 (-1)).1,())]) (ac b (ac b p 0).2.1 (-1)).2.1
theorem p9 (b:LI):∀(n:Nat) (o:List cE) (p:Int),(ay b n o p).2.2≠0→(ay b n o p).1=[]∧(ay b n o p).2.1=0
 |0,o,p,h=>absurd rfl h
 |n+1,o,p,h=>by
  unfold ay at h ⊢
  split
  ·exact ⟨rfl,rfl⟩
  split
  ·exact ⟨rfl,rfl⟩
  split
  ·exact ⟨rfl,rfl⟩
  rename_i h1 h2 h3
  rw[if_neg h1,if_neg h2,if_neg h3] at h
  exact p9 b n _ _ h
def ax (b:LI)(p:Int):List cE×Int×Int:=
 if (ag b p).2.2≠0 then ([],0,(ag b p).2.2)
 else if (ag b p).1<0 then ([],0,5)
 else if 16<(ag b p).1 then ([],0,9)
 else ay b (ag b p).1.toNat [] (ag b p).2.1
def aJ:nh:=(0,0,(false,[],()),(false,[],()),[],())
def aS (b:LI):nh×Int:=
 if b.length=0 then (aJ,1)
 else if b.getD 0 0≠0 then (aJ,71)
 else if (ab 10 1 b 1).2.2≠0 then (aJ,(ab 10 1 b 1).2.2)
 else if (ag b (ab 10 1 b 1).2.1).2.2≠0 then (aJ,(ag b (ab 10 1 b 1).2.1).2.2)
 else if (ag b (ab 10 1 b 1).2.1).1<0 then (aJ,72)
 else if (ac b (ag b (ab 10 1 b 1).2.1).2.1 (-1)).2.2≠0 then (aJ,(ac b (ag b (ab 10 1 b 1).2.1).2.1 (-1)).2.2)
 else if (ac b (ac b (ag b (ab 10 1 b 1).2.1).2.1 (-1)).2.1 (-1)).2.2≠0 then (aJ,(ac b (ac b (ag b (ab 10 1 b 1).2.1).2.1 (-1)).2.1 (-1)).2.2)
 else if (ax b (ac b (ac b (ag b (ab 10 1 b 1).2.1).2.1 (-1)).2.1 (-1)).2.1).2.2≠0 then (aJ,(ax b (ac b (ac b (ag b (ab 10 1 b 1).2.1).2.1 (-1)).2.1 (-1)).2.1).2.2)
 else if (ax b (ac b (ac b (ag b (ab 10 1 b 1).2.1).2.1 (-1)).2.1 (-1)).2.1).2.1<(b.length:Int) then (aJ,2)
 else ((ak (ab 10 1 b 1).1,(ag b (ab 10 1 b 1).2.1).1,(ac b (ag b (ab 10 1 b 1).2.1).2.1 (-1)).1,(ac b (ac b (ag b (ab 10 1 b 1).2.1).2.1 (-1)).2.1 (-1)).1,(ax b (ac b (ac b (ag b (ab 10 1 b 1).2.1).2.1 (-1)).2.1 (-1)).2.1).1,()),0)
def an (b:LI)(p:Int):nh×Int×Int:=
 if (ag b p).2.2≠0 then (aJ,0,(ag b p).2.2)
 else if (ag b p).1<0 then (aJ,0,5)
 else if 16384<(ag b p).1 then (aJ,0,4)
 else if (b.length:Int) - (ag b p).2.1<(ag b p).1 then (aJ,0,1)
 else if (aS ((b.drop (ag b p).2.1.toNat).take (ag b p).1.toNat)).2≠0 then (aJ,0,(aS ((b.drop (ag b p).2.1.toNat).take (ag b p).1.toNat)).2)
 else ((aS ((b.drop (ag b p).2.1.toNat).take (ag b p).1.toNat)).1,(ag b p).2.1+(ag b p).1,0)
theorem Tr.run_of_val {α R:Type}:∀{t:Tr α} {K:α→Option R} {a:α},t.val=some a→t.run K=K a
 |.ret a,K,b,h=>by cases h;rfl
 |.no,K,b,h=>by cases h
 |.ite c t e,K,b,h=>by
  cases c with
  |true=>exact Tr.run_of_val (t:=t) h
  |false=>exact Tr.run_of_val (t:=e) h
theorem HcOk.weak {P:Program}{f:Nat}{io:Io}{F F':io.In→Tr io.Res}(hF:∀d y,(F' d).val=some y→(F d).val=some y)(h:HcOk P f (ah io F)):HcOk P f (ah io F'):=by
 intro R args id A K r Fr G ts cst w vals hid hr Rl hv
 refine h R args id A K r Fr G ts cst w vals hid ?_ Rl hv
 unfold ah at hr ⊢
 split at hr
 ·cases hr
 ·split at hr
  ·cases hr
  ·rename_i a β1 e1 o β e2
   simp only at hr ⊢
   simp only[cond_eq_ite] at hr ⊢
   split at hr
   ·rename_i hc
    rw[if_pos hc]
    obtain ⟨y,h1,h2⟩:=Tr.run_val hr
    rw[Tr.run_of_val (hF _ _ h1)]
    exact h2
   ·cases hr
theorem x7 {m:Nat}{t:Int}{b:LI}{p:Int}(h:(ab m t b p).2.2≠0):(ab m t b p).1=0∧(ab m t b p).2.1=0:=by
 unfold ab at h ⊢
 split
 ·exact ⟨rfl,rfl⟩
 ·split
  ·rename_i h1 h2
   rw[if_neg h1,if_pos h2] at h
   exact absurd rfl h
  ·exact ⟨rfl,rfl⟩
def wj (d:cX.In):Tr cX.Res:=.ret (.ret (((ag d.1.1 d.1.2.1).1,(ag d.1.1 d.1.2.1).2.1,(ag d.1.1 d.1.2.1).2.2,()),()))
theorem Ap:HcOk prog 150 (ah cX wj):=by
 refine MB.weak ?_
 rintro ⟨⟨(b:LI),(p:Int),⟨⟩⟩,⟨⟩⟩ y h
 rw[← h]
 unfold sC wj ag
 simp only[Tr.val_ite,Tr.val_ret,zB]
 by_cases h1:(ab 5 15 b p).2.2=0
 ·rw[if_pos h1,h1]
 ·obtain ⟨h2,h3⟩:=x7 h1
  rw[if_neg h1,h2,h3]
  rfl
def yv (d:iA.In):Tr iA.Res:=.ret (.ret ((ak (ab 10 1 d.1.1 d.1.2.1).1,(ab 10 1 d.1.1 d.1.2.1).2.1,(ab 10 1 d.1.1 d.1.2.1).2.2,()),()))
theorem HT:HcOk prog 113 (ah iA yv):=by
 refine Rn.weak ?_
 rintro ⟨⟨(b:LI),(p:Int),⟨⟩⟩,⟨⟩⟩ y h
 rw[← h]
 unfold FX yv
 simp only[Tr.val_ite,Tr.val_ret,zB]
 by_cases h1:(ab 10 1 b p).2.2=0
 ·rw[if_pos h1,h1]
 ·obtain ⟨h2,h3⟩:=x7 h1
  rw[if_neg h1,h2,h3]
  rfl
theorem mz {m:Nat}{t:Int}{b:LI}{p:Int}(h:(ab m t b p).2.2=0):0≤p∧p<(ab m t b p).2.1∧(ab m t b p).2.1≤b.length:=by
 unfold ab at h ⊢
 split
 ·rename_i h1
  rw[if_pos h1] at h
  cases h
 ·rename_i h1
  rw[if_neg h1] at h
  split
  ·rename_i h2
   have h3:=qc m t (b.drop p.toNat) 0 h2
   simp only[List.length_drop] at h3
   generalize (bE m t (b.drop p.toNat) 0).1=k at h3 ⊢
   simp only
   omega
  ·rename_i h2
   rw[if_neg h2] at h
   exact absurd h h2
theorem ee {b:LI}{p:Int}(h:(ag b p).2.2=0):0≤p∧p<(ag b p).2.1∧(ag b p).2.1≤b.length:=mz h
theorem dc {b:LI}{p:Int} : -2147483648≤(ag b p).1∧(ag b p).1≤2147483647:=by
 have:=bS .i32 (ak (ab 5 15 b p).1)
 simp[bt,IntKind.min,IntKind.max,IntKind.signed,IntKind.bits] at this
 exact this
abbrev jm:Io:=⟨[dL,dI,SO],[],[],[xq,dI,dI],none⟩
def yA (d:jm.In):Tr jm.Res:=.ret (.ret (((ac d.1.1 d.1.2.1 d.1.2.2.1).1,(ac d.1.1 d.1.2.1 d.1.2.2.1).2.1,(ac d.1.1 d.1.2.1 d.1.2.2.1).2.2,()),()))
abbrev Gy:List (Nat×Hc):=[(150,ah cX wj),(21,ah kw AP)]
def OR:Hd:=bA Gy
def Hw:Lp:=bQ []
def Il (a0:LI)(a1 a2:Int):Option jm.Res:=bif (ab 5 15 a0 a1).2.2 != 0 then oR (((false,[],()),0,(ab 5 15 a0 a1).2.2,()),()) else bif decide (i32.wrap (ak (ab 5 15 a0 a1).1)<a2) then oR (((false,[],()),0,5,()),()) else bif decide (i32.wrap (ak (ab 5 15 a0 a1).1)<0) then oR (((true,[],()),(ab 5 15 a0 a1).2.1,0,()),()) else bif decide (i64.wrap ((↑a0.length:Int) - (ab 5 15 a0 a1).2.1)<i64.wrap (i32.wrap (ak (ab 5 15 a0 a1).1))) then oR (((false,[],()),0,1,()),()) else bif decide (0≤(ab 5 15 a0 a1).2.1)&&(decide ((ab 5 15 a0 a1).2.1≤i64.wrap ((ab 5 15 a0 a1).2.1+i64.wrap (i32.wrap (ak (ab 5 15 a0 a1).1))))&&decide (i64.wrap ((ab 5 15 a0 a1).2.1+i64.wrap (i32.wrap (ak (ab 5 15 a0 a1).1)))≤(↑a0.length:Int))) then bif decide ((List.drop (ab 5 15 a0 a1).2.1.toNat (List.take (i64.wrap ((ab 5 15 a0 a1).2.1+i64.wrap (i32.wrap (ak (ab 5 15 a0 a1).1)))).toNat a0)).length≤4294967296) then oR (((false,List.drop (ab 5 15 a0 a1).2.1.toNat (List.take (i64.wrap ((ab 5 15 a0 a1).2.1+i64.wrap (i32.wrap (ak (ab 5 15 a0 a1).1)))).toNat a0),()),i64.wrap ((ab 5 15 a0 a1).2.1+i64.wrap (i32.wrap (ak (ab 5 15 a0 a1).1))),0,()),()) else none else none
theorem Nk (a0:LI)(a1 a2:Int):Io.run tt OR dr Hw jm Tryz.f171 ((a0,a1,a2,()),())=Il a0 a1 a2:=by kernel_rfl
theorem HW:HcOk prog 171 (ah jm yA):=by
 refine bW (cs:=Gy) (.cons Ap (.cons EW .nil)) (lp:=Hw) (fn:=Tryz.f171) jm (.done (by kernel_rfl)) yA ?_
 rintro ⟨⟨(b:LI),(p:Int),(l:Int),⟨⟩⟩,⟨⟩⟩ out hw ho
 cases ho
 refine (Nk b p l).trans ?_
 have hb:b.length≤maxLen:=hw.1.1.1
 rw[bg] at hb
 show _=oR (((ac b p l).1,(ac b p l).2.1,(ac b p l).2.2,()),())
 change (bif (ag b p).2.2 != 0 then oR (((false,[],()),0,(ag b p).2.2,()),()) else bif decide ((ag b p).1<l) then _ else bif decide ((ag b p).1<0) then oR (((true,[],()),(ag b p).2.1,0,()),()) else bif decide (i64.wrap ((b.length:Int) - (ag b p).2.1)<i64.wrap (ag b p).1) then _
  else bif decide (0≤(ag b p).2.1)&&(decide ((ag b p).2.1≤i64.wrap ((ag b p).2.1+i64.wrap (ag b p).1))&&decide (i64.wrap ((ag b p).2.1+i64.wrap (ag b p).1)≤(b.length:Int))) then bif decide ((List.drop (ag b p).2.1.toNat (List.take (i64.wrap ((ag b p).2.1+i64.wrap (ag b p).1)).toNat b)).length≤4294967296) then oR (((false,List.drop (ag b p).2.1.toNat (List.take (i64.wrap ((ag b p).2.1+i64.wrap (ag b p).1)).toNat b),()),i64.wrap ((ag b p).2.1+i64.wrap (ag b p).1),0,()),()) else none else none)=_
 have hr:=@dc b p
 by_cases h0:(ag b p).2.2=0
 ·have hk:=ee h0
  rw[ae (by simpa using h0)]
  by_cases h1:(ag b p).1<l
  ·have e:ac b p l=((false,[],()),0,5):=by unfold ac;rw[if_neg (by simpa using h0),if_pos h1]
   rw[e,aa (by simpa using h1)]
   first | done | rfl
  ·rw[ae (by simpa using h1)]
   by_cases h2:(ag b p).1<0
   ·have e:ac b p l=((true,[],()),(ag b p).2.1,0):=by unfold ac;rw[if_neg (by simpa using h0),if_neg h1,if_pos h2]
    rw[e,aa (by simpa using h2)]
   ·rw[ae (by simpa using h2),af (n:=(b.length:Int) - (ag b p).2.1) (by omega) (by omega),af (n:=(ag b p).1) (by omega) (by omega)]
    by_cases h3:(b.length:Int) - (ag b p).2.1<(ag b p).1
    ·have e:ac b p l=((false,[],()),0,1):=by unfold ac;rw[if_neg (by simpa using h0),if_neg h1,if_neg h2,if_pos h3]
     rw[e,aa (by simpa using h3)]
     first | done | rfl
    ·have e:ac b p l=((false,(b.drop (ag b p).2.1.toNat).take (ag b p).1.toNat,()),(ag b p).2.1+(ag b p).1,0):=by unfold ac;rw[if_neg (by simpa using h0),if_neg h1,if_neg h2,if_neg h3]
     rw[e,ae (by simpa using h3),af (n:=(ag b p).2.1+(ag b p).1) (by omega) (by omega)]
     rw[aa (by simp;omega),List.drop_take,show ((ag b p).2.1+(ag b p).1).toNat - (ag b p).2.1.toNat=(ag b p).1.toNat by omega,aa (by simp;omega)]
 ·have e:ac b p l=((false,[],()),0,(ag b p).2.2):=by unfold ac;rw[if_pos h0]
  rw[e,aa (by simpa using h0)]
abbrev iC:Io:=⟨[dL,dI],[],[],[Ev,dI,dI],none⟩
def yz (d:iC.In):Tr iC.Res:=.ret (.ret (((ax d.1.1 d.1.2.1).1,(ax d.1.1 d.1.2.1).2.1,(ax d.1.1 d.1.2.1).2.2,()),()))
abbrev BH:List (Nat×Hc):=[(150,ah cX wj),(171,ah jm yA),(174,ah nY Kf)]
def Ch:Hd:=bA BH
abbrev cK:Lo:=⟨⟨(.one (.hol (.sl 5 (Ty.int u8)))::.one hI::.any::bz (.one hJ::bh (.one (.onl 206 (Ty.str.prod ((Ty.bool.prod ((Ty.sl 5 (Ty.int u8)).prod Ty.unit)).prod Ty.unit)) 21)::.one hI::.any::ai (ai (ai (ai (bz []))))))),[]⟩,[(.ret,⟨(bz (.one (.onl 206 (Ty.str.prod ((Ty.bool.prod ((Ty.sl 5 (Ty.int u8)).prod Ty.unit)).prod Ty.unit)) 9)::.one hI::.one hI::ai (ai (ai (ai (cy (bh []))))))),[]⟩),(.exit 0,⟨(.any::.one hI::cy (.one (.onl 206 (Ty.str.prod ((Ty.bool.prod ((Ty.sl 5 (Ty.int u8)).prod Ty.unit)).prod Ty.unit)) 21)::ai (ai (ai (ai (bz (bh []))))))),[]⟩)]⟩
def fW (d:cK.st.den):Tr (ao cK.xs):=
 .ite (decide (d.1.2.2.2.2.1=(0:Int))&&(decide ((0:Int)≤d.1.2.2.1)&&(decide (d.1.2.2.1≤(16:Int))&&decide (d.1.2.2.2.1=([]:List cE)))))
  (.ite (decide ((ay d.1.1 (d.1.2.2.1:Int).toNat [] d.1.2.1).2.2=(0:Int)))
   (.ret (.pan (.ret ((),(((ay d.1.1 (d.1.2.2.1:Int).toNat [] d.1.2.1).2.1,((ay d.1.1 (d.1.2.2.1:Int).toNat [] d.1.2.1).1,())),())))))
   (.ret (.ret ((),(([],(0,((ay d.1.1 (d.1.2.2.1:Int).toNat [] d.1.2.1).2.2,()))),()))))) .no
def pF:Lp:=bQ [(12,aG cK fW)]
def nC {R:Type}(h2:LI)(h3 h4:Int)(h5:List (Ty.str.prod ((Ty.bool.prod ((Ty.sl 5 (Ty.int u8)).prod Ty.unit)).prod Ty.unit)).den)(h6:Int)(next:LI→Int→Int→List (Ty.str.prod ((Ty.bool.prod ((Ty.sl 5 (Ty.int u8)).prod Ty.unit)).prod Ty.unit)).den→Int→Option R)(out:ao cK.xs→Option R):Option R:=bif decide (h6<i64.wrap h4) then bif (ac h2 h3 0).2.2 != 0 then out (.ret ((),(([],(0,((ac h2 h3 0).2.2,()))),()))) else bif !(cC (ac h2 h3 0).1.2.1).2 then out (.ret ((),(([],(0,(6,()))),()))) else bif (ac h2 (ac h2 h3 0).2.1 (-1)).2.2 != 0 then out (.ret ((),(([],(0,((ac h2 (ac h2 h3 0).2.1 (-1)).2.2,()))),()))) else bif decide (h5.length+[((ac h2 h3 0).1.2.1,((ac h2 (ac h2 h3 0).2.1 (-1)).1.1,(ac h2 (ac h2 h3 0).2.1 (-1)).1.2.1,()),())].length≤4294967296) then next (h2) ((ac h2 (ac h2 h3 0).2.1 (-1)).2.1) (h4) (h5++[((ac h2 h3 0).1.2.1,((ac h2 (ac h2 h3 0).2.1 (-1)).1.1,(ac h2 (ac h2 h3 0).2.1 (-1)).1.2.1,()),())]) (i64.wrap (h6+1)) else none else out (.pan (.ret ((),((h3,(h5,())),()))))
def ma (n:Nat)(h2:LI)(h3 h4:Int)(h5:List (Ty.str.prod ((Ty.bool.prod ((Ty.sl 5 (Ty.int u8)).prod Ty.unit)).prod Ty.unit)).den)(h6:Int):Option (ao cK.xs):=fV tt Ch dr pF 0 Tryz.f172 (b9 Tryz.f172 0) n (cK.st.mk' ((h2,(h3,(h4,(h5,(h6,()))))),())) (bH cK.xs)
theorem Dt (n:Nat)(h2:LI)(h3 h4:Int)(h5:List (Ty.str.prod ((Ty.bool.prod ((Ty.sl 5 (Ty.int u8)).prod Ty.unit)).prod Ty.unit)).den)(h6:Int):ma (n+1) h2 h3 h4 h5 h6=nC h2 h3 h4 h5 h6 (ma n) some:=by kernel_rfl
theorem EN (b:LI)(n:Int)(hn:0≤n)(hn':n≤16):∀(k m:Nat) (p:Int) (o:List cE) (i:Int),i+m=n→0≤i→m<k→o.length=i.toNat→
  ma k b p n o i=if (ay b m o p).2.2=0 then some (.pan (.ret ((),(((ay b m o p).2.1,((ay b m o p).1,())),())))) else some (.ret ((),(([],(0,((ay b m o p).2.2,()))),()))):=by
 intro k
 induction k with
 |zero=>intro m p o i h1 h2 h3;omega
 |succ k ih=>
  intro m p o i h1 h2 h3 h4
  rw[Dt]
  unfold nC
  rw[af (n:=n) (by omega) (by omega)]
  cases m with
  |zero=>
   rw[ae (by simp;omega)]
   rw[if_pos (by rfl)]
   first | done | rfl
  |succ m=>
   rw[aa (by simp;omega)]
   by_cases a1:(ac b p 0).2.2=0
   ·rw[ae (by simpa using a1)]
    by_cases a2:(cC (ac b p 0).1.2.1).2=false
    ·have e:ay b (m+1) o p=([],0,6):=by unfold ay;rw[if_neg (by simpa using a1),if_pos a2]
     rw[e,aa (by simpa using a2)]
     first | done | rfl
    ·rw[ae (by simpa using a2)]
     by_cases a3:(ac b (ac b p 0).2.1 (-1)).2.2=0
     ·have e:ay b (m+1) o p=ay b m (o++[((ac b p 0).1.2.1,(ac b (ac b p 0).2.1 (-1)).1,())]) (ac b (ac b p 0).2.1 (-1)).2.1:=by
       rw[ay,if_neg (by simpa using a1),if_neg a2,if_neg (by simpa using a3)]
      rw[e,ae (by simpa using a3),aa (by simp;omega),af (n:=i+1) (by omega) (by omega)]
      exact ih m _ _ (i+1) (by omega) (by omega) (by omega) (by simp;omega)
     ·have e:ay b (m+1) o p=([],0,(ac b (ac b p 0).2.1 (-1)).2.2):=by rw[ay,if_neg (by simpa using a1),if_neg a2,if_pos a3]
      rw[e,aa (by simpa using a3),if_neg a3]
   ·have e:ay b (m+1) o p=([],0,(ac b p 0).2.2):=by rw[ay,if_pos a1]
    rw[e,aa (by simpa using a1),if_neg a1]
def tQ (a0:LI)(a1:Int):Option iC.Res:=bif (ab 5 15 a0 a1).2.2 != 0 then oR (([],0,(ab 5 15 a0 a1).2.2,()),()) else bif decide (i32.wrap (ak (ab 5 15 a0 a1).1)<0) then oR (([],0,5,()),()) else bif decide (16<i32.wrap (ak (ab 5 15 a0 a1).1)) then oR (([],0,9,()),()) else (fW ((a0,((ab 5 15 a0 a1).2.1,(i32.wrap (ak (ab 5 15 a0 a1).1),([],(0,()))))),())).run fun y=>match y with | .ret ((),((x23,x24,x25,()),()))=>(oR ((x23,x24,x25,()),())) | .pan (.ret ((),((x26,x27,()),())))=>(oR ((x27,x26,0,()),()))
theorem Ji (a0:LI)(a1:Int):Io.run tt Ch dr pF iC Tryz.f172 ((a0,a1,()),())=tQ a0 a1:=by kernel_rfl
theorem ut:HcsOk prog BH:=.cons Ap (.cons HW (.cons Ro .nil))
theorem MF:HcOk prog 172 (ah iC yz):=by
 refine bW ut (lp:=pF) (fn:=Tryz.f172) iC
  (.step (h0:=aG cK fW) (by kernel_rfl) (gi ut (lp:=pF) (fn:=Tryz.f172) (.done (by kernel_rfl)) cK fW ?_) (.done (by kernel_rfl))) yz ?_
 ·rintro ⟨⟨(b:LI),(p:Int),(n:Int),(o:List cE),(i:Int),⟨⟩⟩,⟨⟩⟩ y hw hy
  obtain ⟨hg,hy⟩:=Tr.guard hy
  simp only[zA,zB] at hg
  obtain ⟨hi,h0,h16,ho⟩:=hg
  have hi:i=0:=hi
  have h0:0≤n:=h0
  have h16:n≤16:=h16
  have ho:o=[]:=ho
  subst hi ho
  refine ⟨n.toNat+1,(EN b n h0 h16 _ n.toNat p [] 0 (by omega) (by omega) (by omega) rfl).trans ?_⟩
  rw[← hy]
  simp only[Tr.val_ite,zB,Tr.val_ret]
 ·rintro ⟨⟨(b:LI),(p:Int),⟨⟩⟩,⟨⟩⟩ out hw ho
  cases ho
  refine (Ji b p).trans ?_
  show _=oR (((ax b p).1,(ax b p).2.1,(ax b p).2.2,()),())
  have hr:=@dc b p
  unfold tQ
  by_cases h0:(ag b p).2.2=0
  ·have h0':(ab 5 15 b p).2.2=0:=h0
   rw[ae (by simpa using h0')]
   change (bif decide ((ag b p).1<0) then _ else bif decide (16<(ag b p).1) then _ else (fW ((b,((ag b p).2.1,((ag b p).1,([],(0,()))))),())).run _)=_
   by_cases h1:(ag b p).1<0
   ·have e:ax b p=([],0,5):=by unfold ax;rw[if_neg (by simpa using h0),if_pos h1]
    rw[e,aa (by simpa using h1)]
    first | done | rfl
   ·rw[ae (by simpa using h1)]
    by_cases h2:16<(ag b p).1
    ·have e:ax b p=([],0,9):=by unfold ax;rw[if_neg (by simpa using h0),if_neg h1,if_pos h2]
     rw[e,aa (by simpa using h2)]
     first | done | rfl
    ·have e:ax b p=ay b (ag b p).1.toNat [] (ag b p).2.1:=by unfold ax;rw[if_neg (by simpa using h0),if_neg h1,if_neg h2]
     rw[e,ae (by simpa using h2)]
     unfold fW
     simp only[Tr.run_ite,Tr.run_ret]
     have hg:(decide True&&(decide ((0:Int)≤(ag b p).1)&&(decide ((ag b p).1≤(16:Int))&&decide True)))=true:=by
      simp only[zA,zB]
      exact ⟨trivial,by omega,by omega,trivial⟩
     rw[if_pos hg]
     by_cases h3:(ay b (ag b p).1.toNat [] (ag b p).2.1).2.2=0
     ·rw[if_pos (by simpa using h3),h3]
     ·obtain ⟨e1,e2⟩:=p9 b _ _ _ h3
      rw[if_neg (by simpa using h3),e1,e2]
  ·have h0':(ab 5 15 b p).2.2≠0:=h0
   have e:ax b p=([],0,(ab 5 15 b p).2.2):=by unfold ax;rw[if_pos h0];rfl
   rw[e,aa (by simpa using h0')]
abbrev n8:Io:=⟨[dL],[],[],[BU,dI],none⟩
def Kh (d:n8.In):Tr n8.Res:=.ret (.ret (((aS d.1.1).1,(aS d.1.1).2,()),()))
abbrev KR:List (Nat×Hc):=[(113,ah iA yv),(150,ah cX wj),(171,ah jm yA),(172,ah iC yz)]
def Q1:Hd:=bA KR
def L9:Lp:=bQ []
def Bi (a0:LI):Option n8.Res:=bif (↑a0.length:Int) == 0 then oR (((0,0,(false,[],()),(false,[],()),[],()),1,()),()) else bif decide (0≤0)&&decide (0<(↑a0.length:Int)) then bif a0.getD (Int.toNat 0) 0 != 0 then oR (((0,0,(false,[],()),(false,[],()),[],()),71,()),()) else bif (ab 10 1 a0 1).2.2 != 0 then oR (((0,0,(false,[],()),(false,[],()),[],()),(ab 10 1 a0 1).2.2,()),()) else bif (ab 5 15 a0 (ab 10 1 a0 1).2.1).2.2 != 0 then oR (((0,0,(false,[],()),(false,[],()),[],()),(ab 5 15 a0 (ab 10 1 a0 1).2.1).2.2,()),()) else bif decide (i32.wrap (ak (ab 5 15 a0 (ab 10 1 a0 1).2.1).1)<0) then oR (((0,0,(false,[],()),(false,[],()),[],()),72,()),()) else bif (ac a0 (ab 5 15 a0 (ab 10 1 a0 1).2.1).2.1 (-1)).2.2 != 0 then oR (((0,0,(false,[],()),(false,[],()),[],()),(ac a0 (ab 5 15 a0 (ab 10 1 a0 1).2.1).2.1 (-1)).2.2,()),()) else bif (ac a0 (ac a0 (ab 5 15 a0 (ab 10 1 a0 1).2.1).2.1 (-1)).2.1 (-1)).2.2 != 0 then oR (((0,0,(false,[],()),(false,[],()),[],()),(ac a0 (ac a0 (ab 5 15 a0 (ab 10 1 a0 1).2.1).2.1 (-1)).2.1 (-1)).2.2,()),()) else bif (ax a0 (ac a0 (ac a0 (ab 5 15 a0 (ab 10 1 a0 1).2.1).2.1 (-1)).2.1 (-1)).2.1).2.2 != 0 then oR (((0,0,(false,[],()),(false,[],()),[],()),(ax a0 (ac a0 (ac a0 (ab 5 15 a0 (ab 10 1 a0 1).2.1).2.1 (-1)).2.1 (-1)).2.1).2.2,()),()) else bif decide ((ax a0 (ac a0 (ac a0 (ab 5 15 a0 (ab 10 1 a0 1).2.1).2.1 (-1)).2.1 (-1)).2.1).2.1<(↑a0.length:Int)) then oR (((0,0,(false,[],()),(false,[],()),[],()),2,()),()) else oR (((ak (ab 10 1 a0 1).1,i32.wrap (ak (ab 5 15 a0 (ab 10 1 a0 1).2.1).1),((ac a0 (ab 5 15 a0 (ab 10 1 a0 1).2.1).2.1 (-1)).1.1,(ac a0 (ab 5 15 a0 (ab 10 1 a0 1).2.1).2.1 (-1)).1.2.1,()),((ac a0 (ac a0 (ab 5 15 a0 (ab 10 1 a0 1).2.1).2.1 (-1)).2.1 (-1)).1.1,(ac a0 (ac a0 (ab 5 15 a0 (ab 10 1 a0 1).2.1).2.1 (-1)).2.1 (-1)).1.2.1,()),(ax a0 (ac a0 (ac a0 (ab 5 15 a0 (ab 10 1 a0 1).2.1).2.1 (-1)).2.1 (-1)).2.1).1,()),0,()),()) else none
theorem P1 (a0:LI):Io.run tt Q1 dr L9 n8 Tryz.f151 ((a0,()),())=Bi a0:=by kernel_rfl
theorem Rq:HcOk prog 151 (ah n8 Kh):=by
 refine bW (cs:=KR) (.cons HT (.cons Ap (.cons HW (.cons MF .nil)))) (lp:=L9) (fn:=Tryz.f151) n8 (.done (by kernel_rfl)) Kh ?_
 rintro ⟨⟨(b:LI),⟨⟩⟩,⟨⟩⟩ out hw ho
 cases ho
 refine (P1 b).trans ?_
 show _=oR (((aS b).1,(aS b).2,()),())
 unfold Bi
 by_cases h0:b.length=0
 ·have e:aS b=(aJ,1):=by unfold aS;rw[if_pos h0]
  rw[e,aa (by simp[h0])]
  first | done | rfl
 rw[ae (beq_false_of_ne (by omega)),aa (by rw[zA,zB,zB];omega)]
 by_cases h1:b.getD 0 0=0
 rotate_left
 ·have e:aS b=(aJ,71):=by unfold aS;rw[if_neg h0,if_pos h1]
  have h1':b.getD (Int.toNat 0) 0≠0:=h1
  rw[e,aa (by simpa using h1')]
  first | done | rfl
 have h1':b.getD (Int.toNat 0) 0=0:=h1
 rw[ae (by simpa using h1')]
 by_cases h2:(ab 10 1 b 1).2.2=0
 rotate_left
 ·have e:aS b=(aJ,(ab 10 1 b 1).2.2):=by unfold aS;rw[if_neg h0,if_neg (by simpa using h1),if_pos h2]
  rw[e,aa (by simpa using h2)]
  first | done | rfl
 rw[ae (by simpa using h2)]
 generalize hq1:(ab 10 1 b 1).2.1=q1
 change (bif (ag b q1).2.2 != 0 then oR ((aJ,(ag b q1).2.2,()),()) else bif decide ((ag b q1).1<0) then oR ((aJ,72,()),()) else bif (ac b (ag b q1).2.1 (-1)).2.2 != 0 then oR ((aJ,(ac b (ag b q1).2.1 (-1)).2.2,()),()) else
  bif (ac b (ac b (ag b q1).2.1 (-1)).2.1 (-1)).2.2 != 0 then oR ((aJ,(ac b (ac b (ag b q1).2.1 (-1)).2.1 (-1)).2.2,()),()) else
  bif (ax b (ac b (ac b (ag b q1).2.1 (-1)).2.1 (-1)).2.1).2.2 != 0 then oR ((aJ,(ax b (ac b (ac b (ag b q1).2.1 (-1)).2.1 (-1)).2.1).2.2,()),()) else
  bif decide ((ax b (ac b (ac b (ag b q1).2.1 (-1)).2.1 (-1)).2.1).2.1<(b.length:Int)) then oR ((aJ,2,()),()) else
  oR (((ak (ab 10 1 b 1).1,(ag b q1).1,(ac b (ag b q1).2.1 (-1)).1,(ac b (ac b (ag b q1).2.1 (-1)).2.1 (-1)).1,(ax b (ac b (ac b (ag b q1).2.1 (-1)).2.1 (-1)).2.1).1,()),0,()),()))=_
 have e:aS b=if (ag b q1).2.2≠0 then (aJ,(ag b q1).2.2) else if (ag b q1).1<0 then (aJ,72) else if (ac b (ag b q1).2.1 (-1)).2.2≠0 then (aJ,(ac b (ag b q1).2.1 (-1)).2.2) else
  if (ac b (ac b (ag b q1).2.1 (-1)).2.1 (-1)).2.2≠0 then (aJ,(ac b (ac b (ag b q1).2.1 (-1)).2.1 (-1)).2.2) else
  if (ax b (ac b (ac b (ag b q1).2.1 (-1)).2.1 (-1)).2.1).2.2≠0 then (aJ,(ax b (ac b (ac b (ag b q1).2.1 (-1)).2.1 (-1)).2.1).2.2) else
  if (ax b (ac b (ac b (ag b q1).2.1 (-1)).2.1 (-1)).2.1).2.1<(b.length:Int) then (aJ,2) else
  ((ak (ab 10 1 b 1).1,(ag b q1).1,(ac b (ag b q1).2.1 (-1)).1,(ac b (ac b (ag b q1).2.1 (-1)).2.1 (-1)).1,(ax b (ac b (ac b (ag b q1).2.1 (-1)).2.1 (-1)).2.1).1,()),0):=by
  unfold aS;rw[if_neg h0,if_neg (by simpa using h1),if_neg (by simpa using h2),hq1]
 rw[e]
 generalize ag b q1=n1
 generalize ac b n1.2.1 (-1)=n2
 generalize ac b n2.2.1 (-1)=n3
 generalize ax b n3.2.1=n4
 simp only[cond_eq_ite,bne_iff_ne,zB]
 split
 ·rfl
 split
 ·rfl
 split
 ·rfl
 split
 ·rfl
 split
 ·rfl
 split
 ·rfl
 first | done | rfl
abbrev kH:Io:=⟨[dL,dI],[],[],[BU,dI,dI],none⟩
def D1 (d:kH.In):Tr kH.Res:=.ret (.ret (((an d.1.1 d.1.2.1).1,(an d.1.1 d.1.2.1).2.1,(an d.1.1 d.1.2.1).2.2,()),()))
abbrev Gt:List (Nat×Hc):=[(150,ah cX wj),(151,ah n8 Kh)]
def OM:Hd:=bA Gt
def Hr:Lp:=bQ []
def wM (a0:LI)(a1:Int):Option kH.Res:=bif (ab 5 15 a0 a1).2.2 != 0 then oR (((0,0,(false,[],()),(false,[],()),[],()),0,(ab 5 15 a0 a1).2.2,()),()) else bif decide (i32.wrap (ak (ab 5 15 a0 a1).1)<0) then oR (((0,0,(false,[],()),(false,[],()),[],()),0,5,()),()) else bif decide (16384<i32.wrap (ak (ab 5 15 a0 a1).1)) then oR (((0,0,(false,[],()),(false,[],()),[],()),0,4,()),()) else bif decide (i64.wrap ((↑a0.length:Int) - (ab 5 15 a0 a1).2.1)<i64.wrap (i32.wrap (ak (ab 5 15 a0 a1).1))) then oR (((0,0,(false,[],()),(false,[],()),[],()),0,1,()),()) else bif decide (0≤(ab 5 15 a0 a1).2.1)&&(decide ((ab 5 15 a0 a1).2.1≤i64.wrap ((ab 5 15 a0 a1).2.1+i64.wrap (i32.wrap (ak (ab 5 15 a0 a1).1))))&&decide (i64.wrap ((ab 5 15 a0 a1).2.1+i64.wrap (i32.wrap (ak (ab 5 15 a0 a1).1)))≤(↑a0.length:Int))) then bif (aS (List.drop (ab 5 15 a0 a1).2.1.toNat (List.take (i64.wrap ((ab 5 15 a0 a1).2.1+i64.wrap (i32.wrap (ak (ab 5 15 a0 a1).1)))).toNat a0))).2 != 0 then oR (((0,0,(false,[],()),(false,[],()),[],()),0,(aS (List.drop (ab 5 15 a0 a1).2.1.toNat (List.take (i64.wrap ((ab 5 15 a0 a1).2.1+i64.wrap (i32.wrap (ak (ab 5 15 a0 a1).1)))).toNat a0))).2,()),()) else oR ((((aS (List.drop (ab 5 15 a0 a1).2.1.toNat (List.take (i64.wrap ((ab 5 15 a0 a1).2.1+i64.wrap (i32.wrap (ak (ab 5 15 a0 a1).1)))).toNat a0))).1.1,(aS (List.drop (ab 5 15 a0 a1).2.1.toNat (List.take (i64.wrap ((ab 5 15 a0 a1).2.1+i64.wrap (i32.wrap (ak (ab 5 15 a0 a1).1)))).toNat a0))).1.2.1,((aS (List.drop (ab 5 15 a0 a1).2.1.toNat (List.take (i64.wrap ((ab 5 15 a0 a1).2.1+i64.wrap (i32.wrap (ak (ab 5 15 a0 a1).1)))).toNat a0))).1.2.2.1.1,(aS (List.drop (ab 5 15 a0 a1).2.1.toNat (List.take (i64.wrap ((ab 5 15 a0 a1).2.1+i64.wrap (i32.wrap (ak (ab 5 15 a0 a1).1)))).toNat a0))).1.2.2.1.2.1,()),((aS (List.drop (ab 5 15 a0 a1).2.1.toNat (List.take (i64.wrap ((ab 5 15 a0 a1).2.1+i64.wrap (i32.wrap (ak (ab 5 15 a0 a1).1)))).toNat a0))).1.2.2.2.1.1,(aS (List.drop (ab 5 15 a0 a1).2.1.toNat (List.take (i64.wrap ((ab 5 15 a0 a1).2.1+i64.wrap (i32.wrap (ak (ab 5 15 a0 a1).1)))).toNat a0))).1.2.2.2.1.2.1,()),(aS (List.drop (ab 5 15 a0 a1).2.1.toNat (List.take (i64.wrap ((ab 5 15 a0 a1).2.1+i64.wrap (i32.wrap (ak (ab 5 15 a0 a1).1)))).toNat a0))).1.2.2.2.2.1,()),i64.wrap ((ab 5 15 a0 a1).2.1+i64.wrap (i32.wrap (ak (ab 5 15 a0 a1).1))),0,()),()) else none
theorem Nf (a0:LI)(a1:Int):Io.run tt OM dr Hr kH Tryz.f115 ((a0,a1,()),())=wM a0 a1:=by kernel_rfl
theorem Po:HcOk prog 115 (ah kH D1):=by
 refine bW (cs:=Gt) (.cons Ap (.cons Rq .nil)) (lp:=Hr) (fn:=Tryz.f115) kH (.done (by kernel_rfl)) D1 ?_
 rintro ⟨⟨(b:LI),(p:Int),⟨⟩⟩,⟨⟩⟩ out hw ho
 cases ho
 refine (Nf b p).trans ?_
 have hb:b.length≤maxLen:=hw.1.1.1
 rw[bg] at hb
 show _=oR (((an b p).1,(an b p).2.1,(an b p).2.2,()),())
 have hr:=@dc b p
 unfold wM
 by_cases h0:(ag b p).2.2=0
 rotate_left
 ·have h0':(ab 5 15 b p).2.2≠0:=h0
  have e:an b p=(aJ,0,(ab 5 15 b p).2.2):=by unfold an;rw[if_pos h0];rfl
  rw[e,aa (by simpa using h0')]
  first | done | rfl
 have hk:=ee h0
 have h0':(ab 5 15 b p).2.2=0:=h0
 rw[ae (by simpa using h0')]
 generalize hq:(ab 5 15 b p).2.1=q
 generalize hn:IntKind.wrap .i32 (ak (ab 5 15 b p).1)=n
 have hq:(ag b p).2.1=q:=hq
 have hn:(ag b p).1=n:=hn
 have e0:an b p=if n<0 then (aJ,0,5) else if 16384<n then (aJ,0,4) else if (b.length:Int) - q<n then (aJ,0,1)
   else if (aS ((b.drop q.toNat).take n.toNat)).2≠0 then (aJ,0,(aS ((b.drop q.toNat).take n.toNat)).2)
   else ((aS ((b.drop q.toNat).take n.toNat)).1,q+n,0):=by unfold an;rw[if_neg (by simpa using h0),hq,hn]
 rw[e0]
 rw[hq] at hk
 rw[hn] at hr
 by_cases h1:n<0
 ·rw[aa (by simpa using h1),if_pos h1]
  first | done | rfl
 rw[ae (by simpa using h1),if_neg h1]
 by_cases h2:16384<n
 ·rw[aa (by simpa using h2),if_pos h2]
  first | done | rfl
 rw[ae (by simpa using h2),if_neg h2,af (n:=(b.length:Int) - q) (by omega) (by omega),af (n:=n) (by omega) (by omega)]
 by_cases h3:(b.length:Int) - q<n
 ·rw[aa (by simpa using h3),if_pos h3]
  first | done | rfl
 rw[ae (by simpa using h3),if_neg h3,af (n:=q+n) (by omega) (by omega),aa (by simp;omega),List.drop_take,show (q+n).toNat - q.toNat=n.toNat by omega]
 generalize aS ((b.drop q.toNat).take n.toNat)=r
 simp only[cond_eq_ite,bne_iff_ne,zB]
 split
 ·rfl
 ·rfl
abbrev RM:Ty:=.prod (.int .i64) .unit
abbrev qX:Option (Nat×Ty):=some (169,RM)
abbrev RZ:List Sh:=[dL,dI]
abbrev fo:Io:=⟨[.ptr 0 0],[RZ],[],[dI],qX⟩
def lH (d:fo.In):Tr fo.Res:=
 .ite (decide ((ag d.2.1.1 d.2.1.2.1).2.2=0)) (.ret (.ret (((ag d.2.1.1 d.2.1.2.1).1,()),((d.2.1.1,((ag d.2.1.1 d.2.1.2.1).2.1,())),())))) (.ret (.pan ((ag d.2.1.1 d.2.1.2.1).2.2,())))
abbrev xg:List (Nat×Hc):=[(111,ah gr sA)]
def IE:Hd:=bA xg
def xI:Lp:=bQ []
def rn (a0:LI)(a1:Int):Option fo.Res:=bif (ab 5 15 a0 a1).2.2 != 0 then some (Out.pan ((ab 5 15 a0 a1).2.2,())) else oR ((i64.wrap (i32.wrap (ak (ab 5 15 a0 a1).1)),()),(a0,(ab 5 15 a0 a1).2.1,()),())
theorem E6 (a0:LI)(a1:Int):Io.run tt IE dr xI fo Tryz.f140 (((),()),(a0,a1,()),())=rn a0 a1:=by kernel_rfl
theorem xR:HcOk prog 140 (ah fo lH):=by
 refine bW (cs:=xg) (.cons C5 .nil) (lp:=xI) (fn:=Tryz.f140) fo (.done (by kernel_rfl)) lH ?_
 rintro ⟨⟨⟨⟩,⟨⟩⟩,⟨⟨(b:LI),(p:Int),⟨⟩⟩,⟨⟩⟩⟩ out hw ho
 refine (E6 b p).trans ?_
 rw[← ho]
 have hr:=@dc b p
 unfold rn lH
 change (bif (ag b p).2.2 != 0 then some (Out.pan ((ag b p).2.2,())) else oR ((i64.wrap (ag b p).1,()),(b,(ag b p).2.1,()),()))=_
 rw[af (n:=(ag b p).1) (by omega) (by omega)]
 simp only[Tr.val_ite,Tr.val_ret,zB]
 by_cases h:(ag b p).2.2=0
 ·rw[ae (by simpa using h),if_pos h]
 ·rw[aa (by simpa using h),if_neg h]
abbrev gS:Io:=⟨[.ptr 0 0,dI],[RZ],[],[dO],qX⟩
def tn (d:gS.In):Tr gS.Res:=
 .ite (decide ((0:Int)≤d.1.2.1)&&(decide (d.1.2.1≤(4294967296:Int))&&(decide ((0:Int)≤d.2.1.2.1)&&decide (d.2.1.2.1≤(d.2.1.1.length:Int)))))
  (.ite (decide ((d.2.1.1.length:Int) - d.2.1.2.1<d.1.2.1)) (.ret (.pan (1,()))) (.ret (.ret (((d.2.1.1.drop d.2.1.2.1.toNat).take d.1.2.1.toNat,()),((d.2.1.1,((d.2.1.2.1:Int)+d.1.2.1,())),()))))) .no
abbrev Gm:List (Nat×Hc):=[(47,ah d7 mJ)]
def OG:Hd:=bA Gm
def Hl:Lp:=bQ []
def wF (a0:Int)(a1:LI)(a2:Int):Option gS.Res:=bif decide (i64.wrap ((↑a1.length:Int) - a2)<a0) then some (Out.pan (1,())) else bif decide (0≤i64.wrap (i64.wrap (a2+a0) - a0))&&(decide (i64.wrap (i64.wrap (a2+a0) - a0)≤i64.wrap (a2+a0))&&decide (i64.wrap (a2+a0)≤(↑a1.length:Int))) then bif decide ((List.drop (i64.wrap (i64.wrap (a2+a0) - a0)).toNat (List.take (i64.wrap (a2+a0)).toNat a1)).length≤4294967296) then oR ((List.drop (i64.wrap (i64.wrap (a2+a0) - a0)).toNat (List.take (i64.wrap (a2+a0)).toNat a1),()),(a1,i64.wrap (a2+a0),()),()) else none else none
theorem M7 (a0:Int)(a1:LI)(a2:Int):Io.run tt OG dr Hl gS Tryz.f139 (((),a0,()),(a1,a2,()),())=wF a0 a1 a2:=by kernel_rfl
theorem Ao:HcOk prog 139 (ah gS tn):=by
 refine bW (cs:=Gm) (.cons pW .nil) (lp:=Hl) (fn:=Tryz.f139) gS (.done (by kernel_rfl)) tn ?_
 rintro ⟨⟨⟨⟩,(n:Int),⟨⟩⟩,⟨⟨(b:LI),(p:Int),⟨⟩⟩,⟨⟩⟩⟩ out hw ho
 obtain ⟨hg,ho⟩:=Tr.guard ho
 simp only[zA,zB] at hg
 have h0:0≤n:=hg.1
 have h1:n≤4294967296:=hg.2.1
 have h2:0≤p:=hg.2.2.1
 have h3:p≤b.length:=hg.2.2.2
 refine (M7 n b p).trans ?_
 rw[← ho]
 have hb:b.length≤maxLen:=hw.2.1.1.1
 rw[bg] at hb
 unfold wF
 rw[af (n:=(b.length:Int) - p) (by omega) (by omega)]
 simp only[Tr.val_ite,Tr.val_ret,zB]
 by_cases h:(b.length:Int) - p<n
 ·rw[aa (by simpa using h),if_pos h]
 ·rw[ae (by simpa using h),if_neg h,af (n:=p+n) (by omega) (by omega),show p+n - n=p by omega,af (n:=p) (by omega) (by omega)]
  rw[aa (by simp;omega),List.drop_take,show (p+n).toNat - p.toNat=n.toNat by omega,aa (by simp;omega)]
abbrev fA:Io:=⟨[.ptr 0 0,dI],[RZ],[],[dI],qX⟩
def mI (d:fA.In):Tr fA.Res:=
 .ite (decide ((ag d.2.1.1 d.2.1.2.1).2.2=0)) (.ite (decide ((ag d.2.1.1 d.2.1.2.1).1<d.1.2.1)) (.ret (.pan (5,()))) (.ret (.ret (((ag d.2.1.1 d.2.1.2.1).1,()),((d.2.1.1,((ag d.2.1.1 d.2.1.2.1).2.1,())),())))))
  (.ret (.pan ((ag d.2.1.1 d.2.1.2.1).2.2,())))
abbrev BB:List (Nat×Hc):=[(140,ah fo lH)]
def Lu:Hd:=bA BB
def CS:Lp:=bQ []
def tK (a0:Int)(a1:LI)(a2:Int):Option fA.Res:=bif decide ((ab 5 15 a1 a2).2.2=0) then bif decide (i32.wrap (ak (ab 5 15 a1 a2).1)<a0) then some (Out.pan (5,())) else oR ((i32.wrap (ak (ab 5 15 a1 a2).1),()),(a1,(ab 5 15 a1 a2).2.1,()),()) else some (Out.pan ((ab 5 15 a1 a2).2.2,()))
theorem Jb (a0:Int)(a1:LI)(a2:Int):Io.run tt Lu dr CS fA Tryz.f142 (((),a0,()),(a1,a2,()),())=tK a0 a1 a2:=by kernel_rfl
theorem uX:HcOk prog 142 (ah fA mI):=by
 refine bW (cs:=BB) (.cons xR .nil) (lp:=CS) (fn:=Tryz.f142) fA (.done (by kernel_rfl)) mI ?_
 rintro ⟨⟨⟨⟩,(l:Int),⟨⟩⟩,⟨⟨(b:LI),(p:Int),⟨⟩⟩,⟨⟩⟩⟩ out hw ho
 refine (Jb l b p).trans ?_
 rw[← ho]
 unfold tK mI
 change (bif decide ((ag b p).2.2=0) then bif decide ((ag b p).1<l) then some (Out.pan (5,())) else oR (((ag b p).1,()),(b,(ag b p).2.1,()),()) else some (Out.pan ((ag b p).2.2,())))=_
 simp only[Tr.val_ite,Tr.val_ret,cond_eq_ite]
abbrev jh:Io:=⟨[.ptr 0 0],[RZ],[],[xq],qX⟩
def tl (d:jh.In):Tr jh.Res:=
 .ite (decide ((ac d.2.1.1 d.2.1.2.1 (-1)).2.2=0)) (.ret (.ret (((ac d.2.1.1 d.2.1.2.1 (-1)).1,()),((d.2.1.1,((ac d.2.1.1 d.2.1.2.1 (-1)).2.1,())),())))) (.ret (.pan ((ac d.2.1.1 d.2.1.2.1 (-1)).2.2,())))
abbrev Gl:List (Nat×Hc):=[(142,ah fA mI),(139,ah gS tn)]
def OF:Hd:=bA Gl
def Hk:Lp:=bQ []
def wD (a0:LI)(a1:Int):Option jh.Res:=bif decide ((ab 5 15 a0 a1).2.2=0) then bif decide (i32.wrap (ak (ab 5 15 a0 a1).1) < -1) then some (Out.pan (5,())) else bif decide (i32.wrap (ak (ab 5 15 a0 a1).1)<0) then oR (((true,[],()),()),(a0,(ab 5 15 a0 a1).2.1,()),()) else bif decide (0≤i32.wrap (ak (ab 5 15 a0 a1).1))&&(decide (i32.wrap (ak (ab 5 15 a0 a1).1)≤4294967296)&&(decide (0≤(ab 5 15 a0 a1).2.1)&&decide ((ab 5 15 a0 a1).2.1≤(↑a0.length:Int)))) then bif decide ((↑a0.length:Int) - (ab 5 15 a0 a1).2.1<i32.wrap (ak (ab 5 15 a0 a1).1)) then some (Out.pan (1,())) else oR (((false,List.take (i32.wrap (ak (ab 5 15 a0 a1).1)).toNat (List.drop (ab 5 15 a0 a1).2.1.toNat a0),()),()),(a0,(ab 5 15 a0 a1).2.1+i32.wrap (ak (ab 5 15 a0 a1).1),()),()) else none else some (Out.pan ((ab 5 15 a0 a1).2.2,()))
theorem M5 (a0:LI)(a1:Int):Io.run tt OF dr Hk jh Tryz.f141 (((),()),(a0,a1,()),())=wD a0 a1:=by kernel_rfl
theorem HR:HcOk prog 141 (ah jh tl):=by
 refine bW (cs:=Gl) (.cons uX (.cons Ao .nil)) (lp:=Hk) (fn:=Tryz.f141) jh (.done (by kernel_rfl)) tl ?_
 rintro ⟨⟨⟨⟩,⟨⟩⟩,⟨⟨(b:LI),(p:Int),⟨⟩⟩,⟨⟩⟩⟩ out hw ho
 refine (M5 b p).trans ?_
 rw[← ho]
 have hr:=@dc b p
 unfold wD tl
 simp only[Tr.val_ite,Tr.val_ret,zB]
 change (bif decide ((ag b p).2.2=0) then bif decide ((ag b p).1 < -1) then some (Out.pan (5,())) else bif decide ((ag b p).1<0) then oR (((true,[],()),()),(b,(ag b p).2.1,()),()) else
  bif decide (0≤(ag b p).1)&&(decide ((ag b p).1≤4294967296)&&(decide (0≤(ag b p).2.1)&&decide ((ag b p).2.1≤(b.length:Int)))) then bif decide ((b.length:Int) - (ag b p).2.1<(ag b p).1) then some (Out.pan (1,())) else
   oR (((false,List.take (ag b p).1.toNat (List.drop (ag b p).2.1.toNat b),()),()),(b,(ag b p).2.1+(ag b p).1,()),()) else none else some (Out.pan ((ag b p).2.2,())))=_
 by_cases h0:(ag b p).2.2=0
 rotate_left
 ·have e:ac b p (-1)=((false,[],()),0,(ag b p).2.2):=by unfold ac;rw[if_pos h0]
  rw[e,ae (by simpa using h0),if_neg h0]
 have hk:=ee h0
 rw[aa (by simpa using h0)]
 by_cases h1:(ag b p).1 < -1
 ·have e:ac b p (-1)=((false,[],()),0,5):=by unfold ac;rw[if_neg (by simpa using h0),if_pos h1]
  rw[e,aa (by simpa using h1)]
  rfl
 rw[ae (by simpa using h1)]
 by_cases h2:(ag b p).1<0
 ·have e:ac b p (-1)=((true,[],()),(ag b p).2.1,0):=by unfold ac;rw[if_neg (by simpa using h0),if_neg h1,if_pos h2]
  rw[e,aa (by simpa using h2)]
  rfl
 rw[ae (by simpa using h2),aa (by simp;omega)]
 by_cases h3:(b.length:Int) - (ag b p).2.1<(ag b p).1
 ·have e:ac b p (-1)=((false,[],()),0,1):=by unfold ac;rw[if_neg (by simpa using h0),if_neg h1,if_neg h2,if_pos h3]
  rw[e,aa (by simpa using h3)]
  rfl
 ·have e:ac b p (-1)=((false,(b.drop (ag b p).2.1.toNat).take (ag b p).1.toNat,()),(ag b p).2.1+(ag b p).1,0):=by unfold ac;rw[if_neg (by simpa using h0),if_neg h1,if_neg h2,if_neg h3]
  rw[e,ae (by simpa using h3)]
  rfl
def bc (b:LI)(p:Int):cE×Int×Int:=
 if (ac b p 0).2.2≠0 then (([],(false,[],()),()),0,(ac b p 0).2.2)
 else if (cC (ac b p 0).1.2.1).2=false then (([],(false,[],()),()),0,6)
 else (((ac b p 0).1.2.1,(ac b (ac b p 0).2.1 (-1)).1,()),(ac b (ac b p 0).2.1 (-1)).2.1,(ac b (ac b p 0).2.1 (-1)).2.2)
abbrev Sg:Sh:=.dat cP true false
abbrev fZ:Io:=⟨[.ptr 0 0],[RZ],[],[Sg],qX⟩
def oX (d:fZ.In):Tr fZ.Res:=
 .ite (decide ((bc d.2.1.1 d.2.1.2.1).2.2=0)) (.ret (.ret (((bc d.2.1.1 d.2.1.2.1).1,()),((d.2.1.1,((bc d.2.1.1 d.2.1.2.1).2.1,())),())))) (.ret (.pan ((bc d.2.1.1 d.2.1.2.1).2.2,())))
abbrev xf:List (Nat×Hc):=[(142,ah fA mI),(139,ah gS tn),(170,ah lX FW),(141,ah jh tl)]
def ID:Hd:=bA xf
def xH:Lp:=bQ []
def rl (a0:LI)(a1:Int):Option fZ.Res:=bif decide ((ab 5 15 a0 a1).2.2=0) then bif decide (i32.wrap (ak (ab 5 15 a0 a1).1)<0) then some (Out.pan (5,())) else bif decide (0≤i32.wrap (ak (ab 5 15 a0 a1).1))&&(decide (i32.wrap (ak (ab 5 15 a0 a1).1)≤4294967296)&&(decide (0≤(ab 5 15 a0 a1).2.1)&&decide ((ab 5 15 a0 a1).2.1≤(↑a0.length:Int)))) then bif decide ((↑a0.length:Int) - (ab 5 15 a0 a1).2.1<i32.wrap (ak (ab 5 15 a0 a1).1)) then some (Out.pan (1,())) else bif !(cC (List.take (i32.wrap (ak (ab 5 15 a0 a1).1)).toNat (List.drop (ab 5 15 a0 a1).2.1.toNat a0))).2 then some (Out.pan (6,())) else bif decide ((ac a0 ((ab 5 15 a0 a1).2.1+i32.wrap (ak (ab 5 15 a0 a1).1)) (-1)).2.2=0) then oR (((List.take (i32.wrap (ak (ab 5 15 a0 a1).1)).toNat (List.drop (ab 5 15 a0 a1).2.1.toNat a0),((ac a0 ((ab 5 15 a0 a1).2.1+i32.wrap (ak (ab 5 15 a0 a1).1)) (-1)).1.1,(ac a0 ((ab 5 15 a0 a1).2.1+i32.wrap (ak (ab 5 15 a0 a1).1)) (-1)).1.2.1,()),()),()),(a0,(ac a0 ((ab 5 15 a0 a1).2.1+i32.wrap (ak (ab 5 15 a0 a1).1)) (-1)).2.1,()),()) else some (Out.pan ((ac a0 ((ab 5 15 a0 a1).2.1+i32.wrap (ak (ab 5 15 a0 a1).1)) (-1)).2.2,())) else none else some (Out.pan ((ab 5 15 a0 a1).2.2,()))
theorem E5 (a0:LI)(a1:Int):Io.run tt ID dr xH fZ Tryz.f143 (((),()),(a0,a1,()),())=rl a0 a1:=by kernel_rfl
theorem IV:HcOk prog 143 (ah fZ oX):=by
 refine bW (cs:=xf) (.cons uX (.cons Ao (.cons Mz (.cons HR .nil)))) (lp:=xH) (fn:=Tryz.f143) fZ (.done (by kernel_rfl)) oX ?_
 rintro ⟨⟨⟨⟩,⟨⟩⟩,⟨⟨(b:LI),(p:Int),⟨⟩⟩,⟨⟩⟩⟩ out hw ho
 refine (E5 b p).trans ?_
 rw[← ho]
 have hr:=@dc b p
 unfold rl oX
 simp only[Tr.val_ite,Tr.val_ret,zB]
 have hn:i32.wrap (ak (ab 5 15 b p).1)=(ag b p).1:=rfl
 have hq:(ab 5 15 b p).2.1=(ag b p).2.1:=rfl
 have he:(ab 5 15 b p).2.2=(ag b p).2.2:=rfl
 rw[hn,hq,he]
 by_cases h0:(ag b p).2.2=0
 rotate_left
 ·have e0:ac b p 0=((false,[],()),0,(ag b p).2.2):=by unfold ac;rw[if_pos h0]
  have e:bc b p=(([],(false,[],()),()),0,(ag b p).2.2):=by unfold bc;rw[e0,if_pos h0]
  rw[e,ae (by simpa using h0),if_neg h0]
 have hk:=ee h0
 rw[aa (by simpa using h0)]
 by_cases h2:(ag b p).1<0
 ·have e0:ac b p 0=((false,[],()),0,5):=by unfold ac;rw[if_neg (by simpa using h0),if_pos h2]
  have e:bc b p=(([],(false,[],()),()),0,5):=by unfold bc;rw[e0];rfl
  rw[e,aa (by simpa using h2)]
  rfl
 rw[ae (by simpa using h2),aa (by simp;omega)]
 by_cases h3:(b.length:Int) - (ag b p).2.1<(ag b p).1
 ·have e0:ac b p 0=((false,[],()),0,1):=by unfold ac;rw[if_neg (by simpa using h0),if_neg h2,if_neg h2,if_pos h3]
  have e:bc b p=(([],(false,[],()),()),0,1):=by unfold bc;rw[e0];rfl
  rw[e,aa (by simpa using h3)]
  rfl
 have e0:ac b p 0=((false,(b.drop (ag b p).2.1.toNat).take (ag b p).1.toNat,()),(ag b p).2.1+(ag b p).1,0):=by unfold ac;rw[if_neg (by simpa using h0),if_neg h2,if_neg h2,if_neg h3]
 rw[ae (by simpa using h3)]
 by_cases h4:(cC ((b.drop (ag b p).2.1.toNat).take (ag b p).1.toNat)).2=false
 ·have e:bc b p=(([],(false,[],()),()),0,6):=by
   unfold bc
   rw[e0,if_neg (by simp),if_pos h4]
  rw[e,h4]
  rfl
 have e:bc b p=(((b.drop (ag b p).2.1.toNat).take (ag b p).1.toNat,(ac b ((ag b p).2.1+(ag b p).1) (-1)).1,()),(ac b ((ag b p).2.1+(ag b p).1) (-1)).2.1,(ac b ((ag b p).2.1+(ag b p).1) (-1)).2.2):=by
  unfold bc
  rw[e0,if_neg (by simp),if_neg h4]
 rw[e,ae (by simpa using h4)]
 simp only[cond_eq_ite,zB]
abbrev nU:Io:=⟨[.ptr 0 0],[RZ],[],[BU],qX⟩
def DH (b:LI):Int:=(ax b (ac b (ac b (ag b (ab 10 1 b 1).2.1).2.1 (-1)).2.1 (-1)).2.1).2.1
def Kb (d:nU.In):Tr nU.Res:=
 .ite (decide (d.2.1.2.1=(0:Int))) (.ite (decide ((aS d.2.1.1).2=0)) (.ret (.ret (((aS d.2.1.1).1,()),((d.2.1.1,(DH d.2.1.1,())),())))) (.ret (.pan ((aS d.2.1.1).2,())))) .no
abbrev y4:List (Nat×Hc):=[(140,ah fo lH),(142,ah fA mI),(139,ah gS tn),(135,ah lW FV),(141,ah jh tl),(143,ah fZ oX)]
def Lv:Hd:=bA y4
abbrev eG:Lo:=⟨⟨(.one (.ptr 0 0)::.any::.one (.ptr 3 0)::.one (.ptr 4 0)::.any::ai (ai (ai (cy (.one hI::.one hI::ai (bz (bh []))))))),[some [.hol (.sl 5 (Ty.int u8)),hI],none,none,some [hI,hJ,hL,.onl 5 (Ty.int u8) 1544,hL,.onl 5 (Ty.int u8) 1548,.onl 206 (Ty.str.prod ((Ty.bool.prod ((Ty.sl 5 (Ty.int u8)).prod Ty.unit)).prod Ty.unit)) 1550],some [hI,hJ,hL,.hol (.sl 5 (Ty.int u8)),hL,.hol (.sl 5 (Ty.int u8)),.onl 206 (Ty.str.prod ((Ty.bool.prod ((Ty.sl 5 (Ty.int u8)).prod Ty.unit)).prod Ty.unit)) 2062]]⟩,[(.panic 169 ((Ty.int i64).prod Ty.unit),⟨(.any::ai (ai (ai (ai (ai (bz [])))))),[]⟩),(.exit 0,⟨(.one (.ptr 0 0)::.any::.one (.ptr 3 0)::.one (.ptr 4 0)::.any::ai (ai (ai (ai (ai []))))),[some [.hol (.sl 5 (Ty.int u8)),hI],none,none,some [hI,hJ,hL,.onl 5 (Ty.int u8) 1544,hL,.onl 5 (Ty.int u8) 1548,.onl 206 (Ty.str.prod ((Ty.bool.prod ((Ty.sl 5 (Ty.int u8)).prod Ty.unit)).prod Ty.unit)) 1550],some [hI,hJ,hL,.hol (.sl 5 (Ty.int u8)),hL,.hol (.sl 5 (Ty.int u8)),.onl 206 (Ty.str.prod ((Ty.bool.prod ((Ty.sl 5 (Ty.int u8)).prod Ty.unit)).prod Ty.unit)) 2062]]⟩)]⟩
def lI (d:eG.st.den):Tr (ao eG.xs):=
 .ite (decide (d.1.2.1=(0:Int))&&(decide ((0:Int)≤d.1.1)&&(decide (d.1.1≤(16:Int))&&decide (d.2.2.2.1.2.2.2.2.2.2.1=([]:List cE)))))
  (.ite (decide ((ay d.2.1.1 (d.1.1:Int).toNat [] d.2.1.2.1).2.2=(0:Int)))
   (.ret (.pan (.ret ((),((),((d.2.1.1,((ay d.2.1.1 (d.1.1:Int).toNat [] d.2.1.2.1).2.1,())),(d.2.2.1,((d.2.2.2.1.1,(d.2.2.2.1.2.1,(d.2.2.2.1.2.2.1,(d.2.2.2.1.2.2.2.1,(d.2.2.2.1.2.2.2.2.1,(d.2.2.2.1.2.2.2.2.2.1,((ay d.2.1.1 (d.1.1:Int).toNat [] d.2.1.2.1).1,()))))))),()))))))))
   (.ret (.ret (((ay d.2.1.1 (d.1.1:Int).toNat [] d.2.1.2.1).2.2,()),((),()))))) .no
def zV:Lp:=bQ [(19,aG eG lI)]
def sb {R:Type}(h2 h3:Int)(h4:LI)(h5 h6 h7:Int)(h8:Bool)(h9:LI)(h10:Bool)(h11:LI)(h12:List (Ty.str.prod ((Ty.bool.prod ((Ty.sl 5 (Ty.int u8)).prod Ty.unit)).prod Ty.unit)).den)(h13 h14:Int)(h15:Bool)(h16:LI)(h17:Bool)(h18:LI)(h19:List (Ty.str.prod ((Ty.bool.prod ((Ty.sl 5 (Ty.int u8)).prod Ty.unit)).prod Ty.unit)).den)(next:Int→Int→LI→Int→Int→Int→Bool→LI→Bool→LI→List (Ty.str.prod ((Ty.bool.prod ((Ty.sl 5 (Ty.int u8)).prod Ty.unit)).prod Ty.unit)).den→Int→Int→Bool→LI→Bool→LI→List (Ty.str.prod ((Ty.bool.prod ((Ty.sl 5 (Ty.int u8)).prod Ty.unit)).prod Ty.unit)).den→Option R)(out:ao eG.xs→Option R):Option R:=bif decide (h3<h2) then bif decide ((bc h4 h5).2.2=0) then bif !([[Sh.dat (Ty.sl 5 (Ty.int u8)) false false,Sh.dat (Ty.int i64) false false]].length+3 == 1+69 || false)&&true&&decide (h19.length+[((bc h4 h5).1.1,((bc h4 h5).1.2.1.1,(bc h4 h5).1.2.1.2.1,()),())].length≤4294967296) then next (h2) (i64.wrap (h3+1)) (h4) ((bc h4 h5).2.1) (h6) (h7) (h8) (h9) (h10) (h11) (h12) (h13) (h14) (h15) (h16) (h17) (h18) (h19++[((bc h4 h5).1.1,((bc h4 h5).1.2.1.1,(bc h4 h5).1.2.1.2.1,()),())]) else none else out (.ret (((bc h4 h5).2.2,()),((),()))) else out (.pan (.ret ((),((),((h4,(h5,())),((h6,(h7,(h8,(h9,(h10,(h11,(h12,()))))))),((h13,(h14,(h15,(h16,(h17,(h18,(h19,()))))))),())))))))
def qS (n:Nat)(h2 h3:Int)(h4:LI)(h5 h6 h7:Int)(h8:Bool)(h9:LI)(h10:Bool)(h11:LI)(h12:List (Ty.str.prod ((Ty.bool.prod ((Ty.sl 5 (Ty.int u8)).prod Ty.unit)).prod Ty.unit)).den)(h13 h14:Int)(h15:Bool)(h16:LI)(h17:Bool)(h18:LI)(h19:List (Ty.str.prod ((Ty.bool.prod ((Ty.sl 5 (Ty.int u8)).prod Ty.unit)).prod Ty.unit)).den):Option (ao eG.xs):=fV tt Lv dr zV 1 Tryz.f112 (b9 Tryz.f112 0) n (eG.st.mk' ((h2,(h3,())),((h4,(h5,())),((h6,(h7,(h8,(h9,(h10,(h11,(h12,()))))))),((h13,(h14,(h15,(h16,(h17,(h18,(h19,()))))))),()))))) (bH eG.xs)
theorem JG (n:Nat)(h2 h3:Int)(h4:LI)(h5 h6 h7:Int)(h8:Bool)(h9:LI)(h10:Bool)(h11:LI)(h12:List (Ty.str.prod ((Ty.bool.prod ((Ty.sl 5 (Ty.int u8)).prod Ty.unit)).prod Ty.unit)).den)(h13 h14:Int)(h15:Bool)(h16:LI)(h17:Bool)(h18:LI)(h19:List (Ty.str.prod ((Ty.bool.prod ((Ty.sl 5 (Ty.int u8)).prod Ty.unit)).prod Ty.unit)).den):qS (n+1) h2 h3 h4 h5 h6 h7 h8 h9 h10 h11 h12 h13 h14 h15 h16 h17 h18 h19=sb h2 h3 h4 h5 h6 h7 h8 h9 h10 h11 h12 h13 h14 h15 h16 h17 h18 h19 (qS n) some:=by kernel_rfl
theorem nw (b:LI)(m:Nat)(o:List cE)(p:Int):ay b (m+1) o p=if (bc b p).2.2≠0 then ([],0,(bc b p).2.2) else ay b m (o++[(bc b p).1]) (bc b p).2.1:=by
 rw[ay]
 by_cases a1:(ac b p 0).2.2=0
 ·rw[if_neg (by simpa using a1)]
  by_cases a2:(cC (ac b p 0).1.2.1).2=false
  ·have e:bc b p=(([],(false,[],()),()),0,6):=by unfold bc;rw[if_neg (by simpa using a1),if_pos a2]
   rw[if_pos a2,e]
   rfl
  ·have e:bc b p=(((ac b p 0).1.2.1,(ac b (ac b p 0).2.1 (-1)).1,()),(ac b (ac b p 0).2.1 (-1)).2.1,(ac b (ac b p 0).2.1 (-1)).2.2):=by unfold bc;rw[if_neg (by simpa using a1),if_neg a2]
   rw[if_neg a2,e]
 ·have e:bc b p=(([],(false,[],()),()),0,(ac b p 0).2.2):=by unfold bc;rw[if_pos a1]
  rw[if_pos a1,e,if_pos a1]
theorem aq {α:Type}{a b:α}(h:a=b):¬ a≠b:=fun h'=>h' h
theorem LS (b:LI)(n:Int)(hn:0≤n)(hn':n≤16)(h6 h7:Int)(h8:Bool)(h9:LI)(h10:Bool)(h11:LI)(h12:List cE)(h13 h14:Int)(h15:Bool)(h16:LI)(h17:Bool)(h18:LI):∀(k m:Nat) (p:Int) (o:List cE) (i:Int),i+m=n→0≤i→m<k→o.length=i.toNat→
  qS k n i b p h6 h7 h8 h9 h10 h11 h12 h13 h14 h15 h16 h17 h18 o=if (ay b m o p).2.2=0 then some (.pan (.ret ((),((),((b,((ay b m o p).2.1,())),((h6,(h7,(h8,(h9,(h10,(h11,(h12,()))))))),((h13,(h14,(h15,(h16,(h17,(h18,((ay b m o p).1,()))))))),()))))))) else some (.ret (((ay b m o p).2.2,()),((),()))):=by
 intro k
 induction k with
 |zero=>intro m p o i h1 h2 h3;omega
 |succ k ih=>
  intro m p o i h1 h2 h3 h4
  rw[JG]
  unfold sb
  cases m with
  |zero=>
   rw[ae (by simp;omega),if_pos (by rfl)]
   rfl
  |succ m=>
   rw[aa (by simp;omega),nw]
   by_cases a1:(bc b p).2.2=0
   ·rw[aa (by simpa using a1),if_neg (aq a1)]
    have hg:decide (o.length+[((bc b p).1.1,((bc b p).1.2.1.1,(bc b p).1.2.1.2.1,()),())].length≤4294967296)=true:=decide_eq_true (show o.length+1≤4294967296 by omega)
    rw[aa (by rw[zA];exact ⟨rfl,hg⟩),af (n:=i+1) (by omega) (by omega)]
    exact ih m _ _ (i+1) (by omega) (by omega) (by omega) (by simp;omega)
   ·rw[ae (by simpa using a1),if_pos a1,if_neg a1]
def A8 (a0:LI)(a1:Int):Option nU.Res:=bif decide (0≤1)&&(decide (1≤4294967296)&&(decide (0≤a1)&&decide (a1≤(↑a0.length:Int)))) then bif decide ((↑a0.length:Int) - a1<1) then some (Out.pan (1,())) else bif decide (0≤0)&&decide (0<(↑(List.take (Int.toNat 1) (List.drop a1.toNat a0)).length:Int)) then bif (List.take (Int.toNat 1) (List.drop a1.toNat a0)).getD (Int.toNat 0) 0 != 0 then some (Out.pan (71,())) else bif (ab 10 1 a0 (a1+1)).2.2 != 0 then some (Out.pan ((ab 10 1 a0 (a1+1)).2.2,())) else bif decide ((ab 5 15 a0 (ab 10 1 a0 (a1+1)).2.1).2.2=0) then bif decide (i32.wrap (ak (ab 5 15 a0 (ab 10 1 a0 (a1+1)).2.1).1)<0) then some (Out.pan (72,())) else bif decide ((ac a0 (ab 5 15 a0 (ab 10 1 a0 (a1+1)).2.1).2.1 (-1)).2.2=0) then bif decide ((ac a0 (ac a0 (ab 5 15 a0 (ab 10 1 a0 (a1+1)).2.1).2.1 (-1)).2.1 (-1)).2.2=0) then bif decide ((ab 5 15 a0 (ac a0 (ac a0 (ab 5 15 a0 (ab 10 1 a0 (a1+1)).2.1).2.1 (-1)).2.1 (-1)).2.1).2.2=0) then bif decide (i32.wrap (ak (ab 5 15 a0 (ac a0 (ac a0 (ab 5 15 a0 (ab 10 1 a0 (a1+1)).2.1).2.1 (-1)).2.1 (-1)).2.1).1)<0) then some (Out.pan (5,())) else bif decide (16<i32.wrap (ak (ab 5 15 a0 (ac a0 (ac a0 (ab 5 15 a0 (ab 10 1 a0 (a1+1)).2.1).2.1 (-1)).2.1 (-1)).2.1).1)) then some (Out.pan (9,())) else (lI ((i32.wrap (ak (ab 5 15 a0 (ac a0 (ac a0 (ab 5 15 a0 (ab 10 1 a0 (a1+1)).2.1).2.1 (-1)).2.1 (-1)).2.1).1),(0,())),((a0,((ab 5 15 a0 (ac a0 (ac a0 (ab 5 15 a0 (ab 10 1 a0 (a1+1)).2.1).2.1 (-1)).2.1 (-1)).2.1).2.1,())),((0,(0,(false,([],(false,([],([],()))))))),((ak (ab 10 1 a0 (a1+1)).1,(i32.wrap (i32.wrap (ak (ab 5 15 a0 (ab 10 1 a0 (a1+1)).2.1).1)),((ac a0 (ab 5 15 a0 (ab 10 1 a0 (a1+1)).2.1).2.1 (-1)).1.1,((ac a0 (ab 5 15 a0 (ab 10 1 a0 (a1+1)).2.1).2.1 (-1)).1.2.1,((ac a0 (ac a0 (ab 5 15 a0 (ab 10 1 a0 (a1+1)).2.1).2.1 (-1)).2.1 (-1)).1.1,((ac a0 (ac a0 (ab 5 15 a0 (ab 10 1 a0 (a1+1)).2.1).2.1 (-1)).2.1 (-1)).1.2.1,([],()))))))),()))))).run fun y=>match y with | .ret ((x54,()),((),()))=>(some (Out.pan (x54,()))) | .pan (.ret ((),((),(x55,x56,()),(x57,x58,x59,x60,x61,x62,x63,()),(x64,x65,x66,x67,x68,x69,x70,()),())))=>(bif decide (x56<(↑x55.length:Int)) then some (Out.pan (2,())) else oR (((x64,x65,(x66,x67,()),(x68,x69,()),x70,()),()),(x55,x56,()),())) else some (Out.pan ((ab 5 15 a0 (ac a0 (ac a0 (ab 5 15 a0 (ab 10 1 a0 (a1+1)).2.1).2.1 (-1)).2.1 (-1)).2.1).2.2,())) else some (Out.pan ((ac a0 (ac a0 (ab 5 15 a0 (ab 10 1 a0 (a1+1)).2.1).2.1 (-1)).2.1 (-1)).2.2,())) else some (Out.pan ((ac a0 (ab 5 15 a0 (ab 10 1 a0 (a1+1)).2.1).2.1 (-1)).2.2,())) else some (Out.pan ((ab 5 15 a0 (ab 10 1 a0 (a1+1)).2.1).2.2,())) else none else none
theorem PP (a0:LI)(a1:Int):Io.run tt Lv dr zV nU Tryz.f112 (((),()),(a0,a1,()),())=A8 a0 a1:=by kernel_rfl
theorem Rj:HcOk prog 112 (ah nU Kb):=by
 have hcs:HcsOk prog y4:=.cons xR (.cons uX (.cons Ao (.cons My (.cons HR (.cons IV .nil)))))
 refine bW (cs:=y4) hcs (lp:=zV) (fn:=Tryz.f112) nU
  (.step (h0:=aG eG lI) (by kernel_rfl) (gi (cs:=y4) hcs (lp:=zV) (fn:=Tryz.f112) (.done (by kernel_rfl)) eG lI ?_) (.done (by kernel_rfl))) Kb ?_
 ·rintro ⟨⟨(n:Int),(i:Int),⟨⟩⟩,⟨(b:LI),(p:Int),⟨⟩⟩,⟨(h6:Int),(h7:Int),(h8:Bool),(h9:LI),(h10:Bool),(h11:LI),(h12:List cE),⟨⟩⟩,⟨(h13:Int),(h14:Int),(h15:Bool),(h16:LI),(h17:Bool),(h18:LI),(o:List cE),⟨⟩⟩,⟨⟩⟩ y hw hy
  obtain ⟨hg,hy⟩:=Tr.guard hy
  simp only[zA,zB] at hg
  obtain ⟨hi,h0,hs,ho⟩:=hg
  have hi:i=0:=hi
  have h0:0≤n:=h0
  have hs:n≤16:=hs
  have ho:o=[]:=ho
  subst hi ho
  refine ⟨n.toNat+1,(LS b n h0 hs h6 h7 h8 h9 h10 h11 h12 h13 h14 h15 h16 h17 h18 _ n.toNat p [] 0 (by omega) (by omega) (by omega) rfl).trans ?_⟩
  rw[← hy]
  simp only[Tr.val_ite,zB,Tr.val_ret]
 ·rintro ⟨⟨⟨⟩,⟨⟩⟩,⟨⟨(b:LI),(p:Int),⟨⟩⟩,⟨⟩⟩⟩ out hw ho
  obtain ⟨hg,ho⟩:=Tr.guard ho
  have hg:p=0:=by simpa using hg
  subst hg
  refine (PP b 0).trans ?_
  rw[← ho]
  simp only[Tr.val_ite,Tr.val_ret,zB]
  unfold A8
  rw[aa (by simp)]
  by_cases h0:b.length=0
  ·have e:aS b=(aJ,1):=by unfold aS;rw[if_pos h0]
   rw[e,aa (by simp;omega)]
   rfl
  rw[ae (by simp;omega)]
  obtain ⟨c,l,rfl⟩:∃c l,b=c::l:=by
   cases b with
   |nil=>exact absurd rfl h0
   |cons c l=>exact ⟨c,l,rfl⟩
  rw[aa (by simp)]
  by_cases h1:c=0
  rotate_left
  ·have e:aS (c::l)=(aJ,71):=by unfold aS;rw[if_neg h0,if_pos (by simpa using h1)]
   rw[e,aa (by simpa using h1)]
   rfl
  have h1':(c::l).getD 0 0=0:=h1
  rw[ae (by simpa using h1)]
  generalize hb:c::l=b at *
  have hz:(0:Int)+1=1:=rfl
  rw[hz]
  by_cases h2:(ab 10 1 b 1).2.2=0
  rotate_left
  ·have e:aS b=(aJ,(ab 10 1 b 1).2.2):=by unfold aS;rw[if_neg h0,if_neg (by simpa using h1'),if_pos h2]
   rw[e,aa (by simpa using h2),if_neg h2]
  rw[ae (by simpa using h2)]
  have hr:=@dc b
  have hE:DH b=(ax b (ac b (ac b (ag b (ab 10 1 b 1).2.1).2.1 (-1)).2.1 (-1)).2.1).2.1:=rfl
  generalize hq1:(ab 10 1 b 1).2.1=q1 at *
  have eR:aS b=if (ag b q1).2.2≠0 then (aJ,(ag b q1).2.2) else if (ag b q1).1<0 then (aJ,72) else if (ac b (ag b q1).2.1 (-1)).2.2≠0 then (aJ,(ac b (ag b q1).2.1 (-1)).2.2) else
   if (ac b (ac b (ag b q1).2.1 (-1)).2.1 (-1)).2.2≠0 then (aJ,(ac b (ac b (ag b q1).2.1 (-1)).2.1 (-1)).2.2) else
   if (ax b (ac b (ac b (ag b q1).2.1 (-1)).2.1 (-1)).2.1).2.2≠0 then (aJ,(ax b (ac b (ac b (ag b q1).2.1 (-1)).2.1 (-1)).2.1).2.2) else
   if (ax b (ac b (ac b (ag b q1).2.1 (-1)).2.1 (-1)).2.1).2.1<(b.length:Int) then (aJ,2) else
   ((ak (ab 10 1 b 1).1,(ag b q1).1,(ac b (ag b q1).2.1 (-1)).1,(ac b (ac b (ag b q1).2.1 (-1)).2.1 (-1)).1,(ax b (ac b (ac b (ag b q1).2.1 (-1)).2.1 (-1)).2.1).1,()),0):=by
   unfold aS;rw[if_neg h0,if_neg (by simpa using h1'),if_neg (by simpa using h2),hq1]
  have hn:∀p,i32.wrap (ak (ab 5 15 b p).1)=(ag b p).1:=fun _=>rfl
  have hq:∀p,(ab 5 15 b p).2.1=(ag b p).2.1:=fun _=>rfl
  have he:∀p,(ab 5 15 b p).2.2=(ag b p).2.2:=fun _=>rfl
  have hw32:i32.wrap (ag b q1).1=(ag b q1).1:=bY (k:=.i32) (bS _ _)
  simp only[hn,hq,he]
  rw[eR,hE,hw32]
  by_cases c1:(ag b q1).2.2=0
  rotate_left
  ·rw[ae (by simpa using c1),if_pos c1,if_neg c1]
  rw[aa (by simpa using c1),if_neg (aq c1)]
  by_cases c2:(ag b q1).1<0
  ·rw[aa (by simpa using c2),if_pos c2];rfl
  rw[ae (by simpa using c2),if_neg c2]
  generalize hT1:ac b (ag b q1).2.1 (-1)=T1
  by_cases c3:T1.2.2=0
  rotate_left
  ·rw[ae (by simpa using c3),if_pos c3,if_neg c3]
  rw[aa (by simpa using c3),if_neg (aq c3)]
  generalize hT2:ac b T1.2.1 (-1)=T2
  by_cases c4:T2.2.2=0
  rotate_left
  ·rw[ae (by simpa using c4),if_pos c4,if_neg c4]
  rw[aa (by simpa using c4),if_neg (aq c4)]
  by_cases c5:(ag b T2.2.1).2.2=0
  rotate_left
  ·have eH:ax b T2.2.1=([],0,(ag b T2.2.1).2.2):=by unfold ax;rw[if_pos c5]
   rw[ae (by simpa using c5),eH,if_pos c5,if_neg c5]
  rw[aa (by simpa using c5)]
  by_cases c6:(ag b T2.2.1).1<0
  ·have eH:ax b T2.2.1=([],0,5):=by unfold ax;rw[if_neg (aq c5),if_pos c6]
   rw[aa (by simpa using c6),eH];rfl
  rw[ae (by simpa using c6)]
  by_cases c7:16<(ag b T2.2.1).1
  ·have eH:ax b T2.2.1=([],0,9):=by unfold ax;rw[if_neg (aq c5),if_neg c6,if_pos c7]
   rw[aa (by simpa using c7),eH];rfl
  have eH:ax b T2.2.1=ay b (ag b T2.2.1).1.toNat [] (ag b T2.2.1).2.1:=by unfold ax;rw[if_neg (aq c5),if_neg c6,if_neg c7]
  rw[ae (by simpa using c7),eH]
  unfold lI
  simp only[Tr.run_ite,Tr.run_ret]
  have hgd:(decide True&&(decide ((0:Int)≤(ag b T2.2.1).1)&&(decide ((ag b T2.2.1).1≤(16:Int))&&decide True)))=true:=by
   simp only[zA,zB]
   exact ⟨trivial,by omega,by omega,trivial⟩
  rw[if_pos hgd]
  generalize ay b (ag b T2.2.1).1.toNat [] (ag b T2.2.1).2.1=r
  by_cases c8:r.2.2=0
  ·rw[if_pos (decide_eq_true c8),if_neg (aq c8)]
   by_cases c9:r.2.1<(b.length:Int)
   ·simp only[c9,decide_true,cond_true,if_true]
    rfl
   ·simp only[c9,decide_false,cond_false,if_false]
    rfl
  ·rw[if_neg (by simpa using c8),if_pos c8,if_neg c8]
abbrev nR:Io:=⟨[dL,dI],[],[],[BU,dI,dI],none⟩
def J8 (d:nR.In):Tr nR.Res:=.ret (.ret (((an d.1.1 d.1.2.1).1,(an d.1.1 d.1.2.1).2.1,(an d.1.1 d.1.2.1).2.2,()),()))
abbrev KG:List (Nat×Hc):=[(111,ah gr sA),(112,ah nU Kb)]
def QQ:Hd:=bA KG
def LY:Lp:=bQ []
def A6 (a0:LI)(a1:Int):Option nR.Res:=bif (ab 5 15 a0 a1).2.2 != 0 then oR (((0,0,(false,[],()),(false,[],()),[],()),0,(ab 5 15 a0 a1).2.2,()),()) else bif decide (i32.wrap (ak (ab 5 15 a0 a1).1)<0) then oR (((0,0,(false,[],()),(false,[],()),[],()),0,5,()),()) else bif decide (16384<i32.wrap (ak (ab 5 15 a0 a1).1)) then oR (((0,0,(false,[],()),(false,[],()),[],()),0,4,()),()) else bif decide (i64.wrap ((↑a0.length:Int) - (ab 5 15 a0 a1).2.1)<i64.wrap (i32.wrap (ak (ab 5 15 a0 a1).1))) then oR (((0,0,(false,[],()),(false,[],()),[],()),0,1,()),()) else bif decide (0≤(ab 5 15 a0 a1).2.1)&&(decide ((ab 5 15 a0 a1).2.1≤i64.wrap ((ab 5 15 a0 a1).2.1+i64.wrap (i32.wrap (ak (ab 5 15 a0 a1).1))))&&(decide (i64.wrap ((ab 5 15 a0 a1).2.1+i64.wrap (i32.wrap (ak (ab 5 15 a0 a1).1)))≤i64.wrap ((ab 5 15 a0 a1).2.1+i64.wrap (i32.wrap (ak (ab 5 15 a0 a1).1))))&&decide (i64.wrap ((ab 5 15 a0 a1).2.1+i64.wrap (i32.wrap (ak (ab 5 15 a0 a1).1)))≤(↑a0.length:Int)))) then bif decide ((aS (List.drop (ab 5 15 a0 a1).2.1.toNat (List.take (i64.wrap ((ab 5 15 a0 a1).2.1+i64.wrap (i32.wrap (ak (ab 5 15 a0 a1).1)))).toNat a0))).2=0) then oR ((((aS (List.drop (ab 5 15 a0 a1).2.1.toNat (List.take (i64.wrap ((ab 5 15 a0 a1).2.1+i64.wrap (i32.wrap (ak (ab 5 15 a0 a1).1)))).toNat a0))).1.1,(aS (List.drop (ab 5 15 a0 a1).2.1.toNat (List.take (i64.wrap ((ab 5 15 a0 a1).2.1+i64.wrap (i32.wrap (ak (ab 5 15 a0 a1).1)))).toNat a0))).1.2.1,((aS (List.drop (ab 5 15 a0 a1).2.1.toNat (List.take (i64.wrap ((ab 5 15 a0 a1).2.1+i64.wrap (i32.wrap (ak (ab 5 15 a0 a1).1)))).toNat a0))).1.2.2.1.1,(aS (List.drop (ab 5 15 a0 a1).2.1.toNat (List.take (i64.wrap ((ab 5 15 a0 a1).2.1+i64.wrap (i32.wrap (ak (ab 5 15 a0 a1).1)))).toNat a0))).1.2.2.1.2.1,()),((aS (List.drop (ab 5 15 a0 a1).2.1.toNat (List.take (i64.wrap ((ab 5 15 a0 a1).2.1+i64.wrap (i32.wrap (ak (ab 5 15 a0 a1).1)))).toNat a0))).1.2.2.2.1.1,(aS (List.drop (ab 5 15 a0 a1).2.1.toNat (List.take (i64.wrap ((ab 5 15 a0 a1).2.1+i64.wrap (i32.wrap (ak (ab 5 15 a0 a1).1)))).toNat a0))).1.2.2.2.1.2.1,()),(aS (List.drop (ab 5 15 a0 a1).2.1.toNat (List.take (i64.wrap ((ab 5 15 a0 a1).2.1+i64.wrap (i32.wrap (ak (ab 5 15 a0 a1).1)))).toNat a0))).1.2.2.2.2.1,()),i64.wrap ((ab 5 15 a0 a1).2.1+i64.wrap (i32.wrap (ak (ab 5 15 a0 a1).1))),0,()),()) else oR (((0,0,(false,[],()),(false,[],()),[],()),0,(aS (List.drop (ab 5 15 a0 a1).2.1.toNat (List.take (i64.wrap ((ab 5 15 a0 a1).2.1+i64.wrap (i32.wrap (ak (ab 5 15 a0 a1).1)))).toNat a0))).2,()),()) else none
theorem PM (a0:LI)(a1:Int):Io.runD tt QQ dr LY 64 128 nR Tryz.f75 110 Tryz.f110 11 ((a0,a1,()),())=A6 a0 a1:=by kernel_rfl
theorem Rg:HcOk prog 75 (ah nR J8):=by
 have htt:=fg Tryz.prog 400
 have hcs:HcsOk prog KG:=.cons C5 (.cons Rj .nil)
 refine BW (P:=prog) htt hm (jF hcs) (eQ htt) (fn:=Tryz.f75) (by kernel_rfl) (by kernel_rfl) nR (kb2:=64) (kbG:=128) (by decide) (by decide)
  (i1:=1) (ops1:=iN (lc (iP (bm Tryz.f75)))) (by kernel_rfl) rfl (by kernel_rfl)
  (o1:=((iN (lc (iP (bm Tryz.f75))))[1]?).getD default) (t:=11) (aT:=#[]) (by kernel_rfl) (by kernel_rfl) (by kernel_rfl) (by kernel_rfl) (lp:=LY) (by kernel_rfl) (m8 (by kernel_rfl))
  (g:=110) (gfn:=Tryz.f110) (i2:=0) (gops:=iN (lc (bm Tryz.f110))) (grest:=iP (bm Tryz.f110))
  (by kernel_rfl) (by kernel_rfl) (by kernel_rfl) rfl rfl (by kernel_rfl) (oo:=((iN (lc (bm Tryz.f110)))[0]?).getD default) (by kernel_rfl) (by kernel_rfl) (by kernel_rfl) (by kernel_rfl) (by kernel_rfl) J8 ?_
 rintro ⟨⟨(b:LI),(p:Int),⟨⟩⟩,⟨⟩⟩ out hw ho
 cases ho
 refine (PM b p).trans ?_
 have hb:b.length≤maxLen:=hw.1.1.1
 rw[bg] at hb
 show _=oR (((an b p).1,(an b p).2.1,(an b p).2.2,()),())
 have hr:=@dc b p
 unfold A6
 by_cases h0:(ag b p).2.2=0
 rotate_left
 ·have h0':(ab 5 15 b p).2.2≠0:=h0
  have e:an b p=(aJ,0,(ab 5 15 b p).2.2):=by unfold an;rw[if_pos h0];rfl
  rw[e,aa (by simpa using h0')]
  rfl
 have hk:=ee h0
 have h0':(ab 5 15 b p).2.2=0:=h0
 rw[ae (by simpa using h0')]
 generalize hq:(ab 5 15 b p).2.1=q
 generalize hn:IntKind.wrap .i32 (ak (ab 5 15 b p).1)=n
 have hq:(ag b p).2.1=q:=hq
 have hn:(ag b p).1=n:=hn
 have e0:an b p=if n<0 then (aJ,0,5) else if 16384<n then (aJ,0,4) else if (b.length:Int) - q<n then (aJ,0,1)
   else if (aS ((b.drop q.toNat).take n.toNat)).2≠0 then (aJ,0,(aS ((b.drop q.toNat).take n.toNat)).2)
   else ((aS ((b.drop q.toNat).take n.toNat)).1,q+n,0):=by unfold an;rw[if_neg (by simpa using h0),hq,hn]
 rw[e0]
 rw[hq] at hk
 rw[hn] at hr
 by_cases h1:n<0
 ·rw[aa (by simpa using h1),if_pos h1]
  rfl
 rw[ae (by simpa using h1),if_neg h1]
 by_cases h2:16384<n
 ·rw[aa (by simpa using h2),if_pos h2]
  rfl
 rw[ae (by simpa using h2),if_neg h2,af (n:=(b.length:Int) - q) (by omega) (by omega),af (n:=n) (by omega) (by omega)]
 by_cases h3:(b.length:Int) - q<n
 ·rw[aa (by simpa using h3),if_pos h3]
  rfl
 rw[ae (by simpa using h3),if_neg h3,af (n:=q+n) (by omega) (by omega),aa (by simp;omega),List.drop_take,show (q+n).toNat - q.toNat=n.toNat by omega]
 generalize aS ((b.drop q.toNat).take n.toNat)=r
 by_cases h4:r.2=0
 ·rw[aa (by simpa using h4),if_neg (aq h4)]
 ·rw[ae (by simpa using h4),if_pos h4]
  rfl
def gD (b:AO):Bool:=b.1&&decide ((0:Int)<(b.2.1.length:Int))
def cd (b:AO):LI:=if b.1=true then bG (be (-1)) else bG (be b.2.1.length)++b.2.1
def AF (h:cE):LI:=bG (be h.1.length)++(h.1++cd h.2.1)
def ci (hs:List cE):LI:=hs.flatMap AF
def cT (r:nh):LI:=0::(bG (be r.1)++(bG (be r.2.1)++(cd r.2.2.1++(cd r.2.2.2.1++(bG (be r.2.2.2.2.1.length)++ci r.2.2.2.2.1)))))
def dP:List cE→Int
 |[]=>0
 |h::hs=>if (cC h.1).2=false then 6 else if gD h.2.1=true then 70 else dP hs
def gk (r:nh):Int:=
 if r.2.1<0 then 72 else if gD r.2.2.1=true∨gD r.2.2.2.1=true then 70 else if 16<(r.2.2.2.2.1.length:Int) then 9 else dP r.2.2.2.2.1
def bC (r:nh):Int:=if gk r≠0 then gk r else if 16384<((cT r).length:Int) then 4 else 0
def dA (r:nh):LI×Int:=if bC r=0 then (cT r,0) else ([],bC r)
def cr (r:nh):LI×Int:=if bC r=0 then (bG (be (cT r).length)++cT r,0) else ([],bC r)
def lh (r:nh):Bool:=decide ((cT r).length≤4294967000)
theorem xZ (u:Int):(bG u).length≤11:=by
 unfold bG
 have:=DC 10 u
 simp only[zH,zN,List.length_nil]
 omega
abbrev nT:Io:=⟨[xq],[],[],[dB],none⟩
def Ka (d:nT.In):Tr nT.Res:=.ret (.ret ((gD d.1.1,()),()))
abbrev KI:List (Nat×Hc):=[]
def QS:Hd:=bA KI
def L0:Lp:=bQ []
def Ku (a0:Bool)(a1:LI):Option nT.Res:=bif a0 then oR ((decide (0<(↑a1.length:Int)),()),()) else oR ((false,()),())
theorem PO (a0:Bool)(a1:LI):Io.run tt QS dr L0 nT Tryz.f184 (((a0,a1,()),()),())=Ku a0 a1:=by kernel_rfl
theorem Ri:HcOk prog 184 (ah nT Ka):=by
 refine bW (cs:=KI) .nil (lp:=L0) (fn:=Tryz.f184) nT (.done (by kernel_rfl)) Ka ?_
 rintro ⟨⟨⟨(n:Bool),(b:LI),⟨⟩⟩,⟨⟩⟩,⟨⟩⟩ out hw ho
 cases ho
 refine (PO n b).trans ?_
 cases n <;> rfl
abbrev iy:Io:=⟨[BU],[],[],[dI],none⟩
def yr (d:iy.In):Tr iy.Res:=.ret (.ret ((gk d.1.1,()),()))
abbrev pp:List (Nat×Hc):=[(184,ah nT Ka),(170,ah lX FW)]
def Cg:Hd:=bA pp
abbrev di:Lo:=⟨⟨(ai (cy (bh (.one (.hol (.sl 206 (Ty.str.prod ((Ty.bool.prod ((Ty.sl 5 (Ty.int u8)).prod Ty.unit)).prod Ty.unit))))::.one hI::.one hI::ai [])))),[]⟩,[(.ret,⟨(bh (.one hI::ai (ai (cy (bh []))))),[]⟩),(.exit 1,⟨(.any::ai (ai (cy (bz [])))),[]⟩)]⟩
def jS (d:di.st.den):Tr (ao di.xs):=
 .ite (decide (d.1.2.2.1=(0:Int))&&decide (d.1.2.1=(d.1.1.length:Int))) (.ite (decide (dP d.1.1=(0:Int))) (.ret (.pan (.ret ((),((),()))))) (.ret (.ret ((),((dP d.1.1,()),()))))) .no
def pD:Lp:=bQ [(9,aG di jS)]
def qi {R:Type}(h7:List cP.den)(h8 h9:Int)(next:List cP.den→Int→Int→Option R)(out:ao di.xs→Option R):Option R:=bif decide (h9<h8) then bif decide (0≤h9)&&decide (h9<(↑h7.length:Int)) then bif !(cC (h7.getD h9.toNat ([],(false,[],()),())).1).2 then out (.ret ((),((6,()),()))) else bif gD ((h7.getD h9.toNat ([],(false,[],()),())).2.1.1,(h7.getD h9.toNat ([],(false,[],()),())).2.1.2.1,()) then out (.ret ((),((70,()),()))) else next (h7) (h8) (i64.wrap (h9+1)) else none else out (.pan (.ret ((),((),()))))
def oq (n:Nat)(h7:List cP.den)(h8 h9:Int):Option (ao di.xs):=fV tt Cg dr pD 0 Tryz.f177 (b9 Tryz.f177 0) n (di.st.mk' ((h7,(h8,(h9,()))),())) (bH di.xs)
theorem Fo (n:Nat)(h7:List cP.den)(h8 h9:Int):oq (n+1) h7 h8 h9=qi h7 h8 h9 (oq n) some:=by kernel_rfl
theorem EM (hs:List cE)(hm:hs.length≤maxLen):∀(k i:Nat),i≤hs.length→hs.length<i+k→
  oq k hs (hs.length:Int) (i:Int)=if dP (hs.drop i)=0 then some (.pan (.ret ((),((),())))) else some (.ret ((),((dP (hs.drop i),()),()))):=by
 intro k
 induction k with
 |zero=>intro i h1 h2;omega
 |succ k ih=>
  intro i h1 h2
  rw[Fo]
  unfold qi
  by_cases h3:i<hs.length
  ·have e:(hs.getD (i:Int).toNat ([],(false,[],()),()):cE)=hs[i]:=aC h3
   rw[zE h3,← e,aM h3 hm]
   generalize (hs.getD (i:Int).toNat ([],(false,[],()),()):cE)=x
   obtain ⟨x1,⟨x2,x3,⟨⟩⟩,⟨⟩⟩:=x
   rw[aa (by simpa using h3),aa (by simp[h3])]
   by_cases h4:(cC x1).2=false
   ·have eE:dP ((x1,(x2,x3,()),())::hs.drop (i+1))=6:=by unfold dP;rw[if_pos h4]
    rw[eE,aa (by simpa using h4)]
    rfl
   ·rw[ae (by simpa using h4)]
    by_cases h5:gD (x2,x3,())=true
    ·have eE:dP ((x1,(x2,x3,()),())::hs.drop (i+1))=70:=by unfold dP;rw[if_neg h4,if_pos h5]
     rw[eE,aa h5]
     rfl
    ·have eE:dP ((x1,(x2,x3,()),())::hs.drop (i+1))=dP (hs.drop (i+1)):=by rw[dP,if_neg h4,if_neg h5]
     rw[eE,ae (by simpa using h5)]
     exact ih (i+1) h3 (by omega)
  ·rw[zI (by omega)]
   rw[ae (by simpa using h3)]
   rfl
def tL (a0 a1:Int)(a2:Bool)(a3:LI)(a4:Bool)(a5:LI)(a6:List cP.den):Option iy.Res:=bif decide (a1<0) then oR ((72,()),()) else bif gD (a2,a3,()) then oR ((70,()),()) else bif gD (a4,a5,()) then oR ((70,()),()) else bif decide (16<(↑a6.length:Int)) then oR ((9,()),()) else (jS ((a6,((↑a6.length:Int),(0,()))),())).run fun y=>match y with | .ret ((),((x15,()),()))=>(oR ((x15,()),())) | .pan (.ret ((),((),())))=>(oR ((0,()),()))
theorem Jc (a0 a1:Int)(a2:Bool)(a3:LI)(a4:Bool)(a5:LI)(a6:List cP.den):Io.run tt Cg dr pD iy Tryz.f177 (((a0,a1,(a2,a3,()),(a4,a5,()),a6,()),()),())=tL a0 a1 a2 a3 a4 a5 a6:=by kernel_rfl
theorem Mw:HcOk prog 177 (ah iy yr):=by
 have hcs:HcsOk prog pp:=.cons Ri (.cons Mz .nil)
 refine bW (cs:=pp) hcs (lp:=pD) (fn:=Tryz.f177) iy
  (.step (h0:=aG di jS) (by kernel_rfl) (gi (cs:=pp) hcs (lp:=pD) (fn:=Tryz.f177) (.done (by kernel_rfl)) di jS ?_) (.done (by kernel_rfl))) yr ?_
 ·rintro ⟨⟨(hs:List cE),(n:Int),(i:Int),⟨⟩⟩,⟨⟩⟩ y hw hy
  obtain ⟨hg,hy⟩:=Tr.guard hy
  simp only[zA,zB] at hg
  obtain ⟨hi,hn⟩:=hg
  have hi:i=0:=hi
  have hn:n=hs.length:=hn
  subst hi hn
  refine ⟨hs.length+1,(EM hs hw.1.1.1 _ 0 (by omega) (by omega)).trans ?_⟩
  rw[← hy]
  simp only[Tr.val_ite,zB,Tr.val_ret,List.drop_zero]
 ·rintro ⟨⟨⟨(a0:Int),(a1:Int),⟨(a2:Bool),(a3:LI),⟨⟩⟩,⟨(a4:Bool),(a5:LI),⟨⟩⟩,(a6:List cE),⟨⟩⟩,⟨⟩⟩,⟨⟩⟩ out hw ho
  cases ho
  refine (Jc a0 a1 a2 a3 a4 a5 a6).trans ?_
  unfold tL jS
  show _=oR ((gk (a0,a1,(a2,a3,()),(a4,a5,()),a6,()),()),())
  unfold gk
  simp only[Tr.run_ite,Tr.run_ret]
  by_cases h1:a1<0
  ·rw[aa (by simpa using h1),if_pos h1]
  rw[ae (by simpa using h1),if_neg h1]
  by_cases h2:gD (a2,a3,())=true
  ·rw[aa h2,if_pos (.inl h2)]
  rw[ae (by simpa using h2)]
  by_cases h3:gD (a4,a5,())=true
  ·rw[aa h3,if_pos (.inr h3)]
  rw[ae (by simpa using h3),if_neg (show ¬(gD (a2,a3,())=true∨gD (a4,a5,())=true) from fun h=>h.elim h2 h3)]
  by_cases h4:16<(a6.length:Int)
  ·rw[aa (by simpa using h4),if_pos h4]
  rw[ae (by simpa using h4),if_neg h4]
  rw[if_pos (by simp)]
  by_cases h5:dP a6=0
  ·rw[if_pos (decide_eq_true h5),h5]
  ·rw[if_neg (by simpa using h5)]
abbrev iz:Io:=⟨[dO,xq],[],[],[dO],none⟩
def yt (d:iz.In):Tr iz.Res:=.ite (decide (d.1.1.length+(cd d.1.2.1).length≤4294967296)) (.ret (.ret ((d.1.1++cd d.1.2.1,()),()))) .no
abbrev BC:List (Nat×Hc):=[(128,ah kD AR)]
def Lw:Hd:=bA BC
def CT:Lp:=bQ []
def tM (a0:LI)(a1:Bool)(a2:LI):Option iz.Res:=bif a1 then bif decide (a0.length+(bG (be (-1))).length≤4294967296) then oR ((a0++bG (be (-1)),()),()) else none else bif decide (a0.length+(bG (be (↑a2.length:Int))).length≤4294967296) then bif decide ((a0++bG (be (↑a2.length:Int))).length+a2.length≤4294967296) then oR ((a0++bG (be (↑a2.length:Int))++a2,()),()) else none else none
theorem Jd (a0:LI)(a1:Bool)(a2:LI):Io.run tt Lw dr CT iz Tryz.f178 ((a0,(a1,a2,()),()),())=tM a0 a1 a2:=by kernel_rfl
theorem Mx:HcOk prog 178 (ah iz yt):=by
 refine bW (cs:=BC) (.cons EY .nil) (lp:=CT) (fn:=Tryz.f178) iz (.done (by kernel_rfl)) yt ?_
 rintro ⟨⟨(o:LI),⟨(n:Bool),(b:LI),⟨⟩⟩,⟨⟩⟩,⟨⟩⟩ out hw ho
 obtain ⟨hg,ho⟩:=Tr.guard ho
 have hg:o.length+(cd (n,b,())).length≤4294967296:=by simpa using hg
 cases ho
 refine (Jd o n b).trans ?_
 show _=oR ((o++cd (n,b,()),()),())
 unfold tM
 cases n with
 |true=>
  have e:cd (true,b,())=bG (be (-1)):=rfl
  rw[e] at hg ⊢
  rw[aa rfl,aa (by simpa using hg)]
 |false=>
  have e:cd (false,b,())=bG (be b.length)++b:=rfl
  rw[e] at hg ⊢
  simp only[zH] at hg
  rw[ae rfl,aa (by simp;omega),aa (by simp;omega),zK]
abbrev kB:Io:=⟨[BU],[],[],[dO,dI],none⟩
def DV (d:kB.In):Tr kB.Res:=.ite (lh d.1.1) (.ret (.ret (((dA d.1.1).1,(dA d.1.1).2,()),()))) .no
abbrev sO:List (Nat×Hc):=[(177,ah iy yr),(166,ah fp oY),(128,ah kD AR),(178,ah iz yt)]
def GW:Hd:=bA sO
abbrev dh:Lo:=⟨⟨(.any::bz (.one (.onl 5 (Ty.int u8) 11)::.any::ai (cy (bz (bh (.one (.hol (.sl 206 (Ty.str.prod ((Ty.bool.prod ((Ty.sl 5 (Ty.int u8)).prod Ty.unit)).prod Ty.unit))))::.one hI::.one hI::ai (bz (bh [])))))))),[]⟩,[(.exit 0,⟨(.any::bz (.one (.onl 5 (Ty.int u8) 11)::ai (ai (ai (cy []))))),[]⟩)]⟩
def jR (d:dh.st.den):Tr (ao dh.xs):=
 .ite (decide (d.1.2.2.2.1=(0:Int))&&(decide (d.1.2.2.1=(d.1.2.1.length:Int))&&decide (d.1.1.length+(ci d.1.2.1).length≤4294967296))) (.ret (.ret ((),((d.1.1++ci d.1.2.1,()),())))) .no
def s0:Lp:=bQ [(10,aG dh jR)]
def qh {R:Type}(h7:LI)(h8:List cP.den)(h9 h10:Int)(next:LI→List cP.den→Int→Int→Option R)(out:ao dh.xs→Option R):Option R:=bif decide (h10<h9) then bif decide (0≤h10)&&decide (h10<(↑h8.length:Int)) then bif decide (h7.length+(bG (be (↑(List.length (h8.getD h10.toNat ([],(false,[],()),())).1):Int))).length≤4294967296) then bif decide ((h7++bG (be (↑(List.length (h8.getD h10.toNat ([],(false,[],()),())).1):Int))).length+List.length (h8.getD h10.toNat ([],(false,[],()),())).1≤4294967296) then bif decide ((h7++bG (be (↑(List.length (h8.getD h10.toNat ([],(false,[],()),())).1):Int))++(h8.getD h10.toNat ([],(false,[],()),())).1).length+(cd ((h8.getD h10.toNat ([],(false,[],()),())).2.1.1,(h8.getD h10.toNat ([],(false,[],()),())).2.1.2.1,())).length≤4294967296) then next (h7++bG (be (↑(List.length (h8.getD h10.toNat ([],(false,[],()),())).1):Int))++(h8.getD h10.toNat ([],(false,[],()),())).1++cd ((h8.getD h10.toNat ([],(false,[],()),())).2.1.1,(h8.getD h10.toNat ([],(false,[],()),())).2.1.2.1,())) (h8) (h9) (i64.wrap (h10+1)) else none else none else none else none else out (.ret ((),((h7,()),())))
def om (n:Nat)(h7:LI)(h8:List cP.den)(h9 h10:Int):Option (ao dh.xs):=fV tt GW dr s0 0 Tryz.f160 (b9 Tryz.f160 0) n (dh.st.mk' ((h7,(h8,(h9,(h10,())))),())) (bH dh.xs)
theorem Fm (n:Nat)(h7:LI)(h8:List cP.den)(h9 h10:Int):om (n+1) h7 h8 h9 h10=qh h7 h8 h9 h10 (om n) some:=by kernel_rfl
theorem IO (hs:List cE)(hm:hs.length≤maxLen):∀(k i:Nat) (o:LI),i≤hs.length→hs.length<i+k→o.length+(ci (hs.drop i)).length≤4294967296→
  om k o hs (hs.length:Int) (i:Int)=some (.ret ((),((o++ci (hs.drop i),()),()))):=by
 intro k
 induction k with
 |zero=>intro i o h1 h2;omega
 |succ k ih=>
  intro i o h1 h2 h3
  rw[Fm]
  unfold qh
  by_cases h4:i<hs.length
  ·have e:(hs.getD (i:Int).toNat ([],(false,[],()),()):cE)=hs[i]:=aC h4
   rw[zE h4,← e] at h3 ⊢
   rw[aM h4 hm]
   generalize (hs.getD (i:Int).toNat ([],(false,[],()),()):cE)=x at *
   obtain ⟨x1,⟨x2,x3,⟨⟩⟩,⟨⟩⟩:=x
   have eW:ci ((x1,(x2,x3,()),())::hs.drop (i+1))=bG (be x1.length)++(x1++cd (x2,x3,()))++ci (hs.drop (i+1)):=by simp[ci,AF]
   rw[eW] at h3 ⊢
   simp only[zH] at h3
   rw[aa (by simpa using h4),aa (by simp[h4]),aa (by simp;omega),aa (by simp;omega),aa (by simp;omega)]
   refine (ih (i+1) _ h4 (by omega) (by simp only[zH];omega)).trans ?_
   simp only[zK]
  ·rw[zI (by omega)]
   rw[ae (by simpa using h4)]
   simp[ci]
def wE (a0 a1:Int)(a2:Bool)(a3:LI)(a4:Bool)(a5:LI)(a6:List cP.den):Option kB.Res:=bif gk (a0,a1,(a2,a3,()),(a4,a5,()),a6,()) != 0 then oR (([],gk (a0,a1,(a2,a3,()),(a4,a5,()),a6,()),()),()) else bif decide ([0].length+(fa [a0,i64.wrap a1]).length≤4294967296) then bif decide (([0]++fa [a0,i64.wrap a1]).length+(cd (a2,a3,())).length≤4294967296) then bif decide (List.length ([0]++fa [a0,i64.wrap a1]++cd (a2,a3,()))+(cd (a4,a5,())).length≤4294967296) then bif decide (List.length ([0]++fa [a0,i64.wrap a1]++cd (a2,a3,())++cd (a4,a5,()))+(bG (be (↑a6.length:Int))).length≤4294967296) then (jR (([0]++fa [a0,i64.wrap a1]++cd (a2,a3,())++cd (a4,a5,())++bG (be (↑a6.length:Int)),(a6,((↑a6.length:Int),(0,())))),())).run fun y=>match y with | .ret ((),((x16,()),()))=>(bif decide (16384<(↑x16.length:Int)) then oR (([],4,()),()) else oR ((x16,0,()),())) else none else none else none else none
theorem M6 (a0 a1:Int)(a2:Bool)(a3:LI)(a4:Bool)(a5:LI)(a6:List cP.den):Io.run tt GW dr s0 kB Tryz.f160 (((a0,a1,(a2,a3,()),(a4,a5,()),a6,()),()),())=wE a0 a1 a2 a3 a4 a5 a6:=by kernel_rfl
theorem Pi:HcOk prog 160 (ah kB DV):=by
 have hcs:HcsOk prog sO:=.cons Mw (.cons xS (.cons EY (.cons Mx .nil)))
 refine bW (cs:=sO) hcs (lp:=s0) (fn:=Tryz.f160) kB
  (.step (h0:=aG dh jR) (by kernel_rfl) (gi (cs:=sO) hcs (lp:=s0) (fn:=Tryz.f160) (.done (by kernel_rfl)) dh jR ?_) (.done (by kernel_rfl))) DV ?_
 ·rintro ⟨⟨(o:LI),(hs:List cE),(n:Int),(i:Int),⟨⟩⟩,⟨⟩⟩ y hw hy
  obtain ⟨hg,hy⟩:=Tr.guard hy
  simp only[zA,zB] at hg
  obtain ⟨hi,hn,hl⟩:=hg
  have hi:i=0:=hi
  have hn:n=hs.length:=hn
  subst hi hn
  refine ⟨hs.length+1,(IO hs hw.1.2.1.1 _ 0 o (by omega) (by omega) hl).trans ?_⟩
  rw[← hy]
  rfl
 ·rintro ⟨⟨⟨(a0:Int),(a1:Int),⟨(a2:Bool),(a3:LI),⟨⟩⟩,⟨(a4:Bool),(a5:LI),⟨⟩⟩,(a6:List cE),⟨⟩⟩,⟨⟩⟩,⟨⟩⟩ out hw ho
  obtain ⟨hg,ho⟩:=Tr.guard ho
  cases ho
  refine (M6 a0 a1 a2 a3 a4 a5 a6).trans ?_
  have ha1:bt .i32 a1:=hw.1.1.2.1
  have ha1 : -2147483648≤a1∧a1≤2147483647:=by simpa [bt,IntKind.min,IntKind.max,IntKind.signed,IntKind.bits] using ha1
  have hg:(cT (a0,a1,(a2,a3,()),(a4,a5,()),a6,())).length≤4294967000:=of_decide_eq_true hg
  show _=oR (((dA (a0,a1,(a2,a3,()),(a4,a5,()),a6,())).1,(dA (a0,a1,(a2,a3,()),(a4,a5,()),a6,())).2,()),())
  have eb:cT (a0,a1,(a2,a3,()),(a4,a5,()),a6,())=[0]++fa [a0,a1]++cd (a2,a3,())++cd (a4,a5,())++bG (be a6.length)++ci a6:=by
   simp[cT,fa]
  have hl:=hg
  rw[eb] at hl
  simp only[zH] at hl
  unfold wE dA
  rw[af (n:=a1) (by omega) (by omega)]
  generalize hr:((a0,a1,(a2,a3,()),(a4,a5,()),a6,()):nh)=r at *
  by_cases h1:gk r=0
  rotate_left
  ·have ec:bC r=gk r:=by unfold bC;rw[if_pos h1]
   rw[aa (by simpa using h1),ec,if_neg h1]
  have ec:bC r=if 16384<((cT r).length:Int) then 4 else 0:=by unfold bC;rw[if_neg (aq h1)]
  rw[ae (by simpa using h1),aa (by simp;omega),aa (by simp;omega),aa (by simp;omega),aa (by simp;omega)]
  unfold jR
  simp only[Tr.run_ite,Tr.run_ret]
  rw[if_pos (by simp;omega),← eb,ec]
  by_cases h2:16384<((cT r).length:Int)
  ·rw[aa (by simpa using h2),if_pos h2]
   rfl
  ·rw[ae (by simpa using h2),if_neg h2]
   rfl
abbrev nS:Io:=⟨[BU],[],[],[dO,dI],none⟩
def J9 (d:nS.In):Tr nS.Res:=.ite (lh d.1.1) (.ret (.ret (((cr d.1.1).1,(cr d.1.1).2,()),()))) .no
abbrev KH:List (Nat×Hc):=[(160,ah kB DV),(128,ah kD AR)]
def QR:Hd:=bA KH
def LZ:Lp:=bQ []
def A7 (a0 a1:Int)(a2:Bool)(a3:LI)(a4:Bool)(a5:LI)(a6:List cP.den):Option nS.Res:=bif lh (a0,a1,(a2,a3,()),(a4,a5,()),a6,()) then bif (dA (a0,a1,(a2,a3,()),(a4,a5,()),a6,())).2 != 0 then oR (([],(dA (a0,a1,(a2,a3,()),(a4,a5,()),a6,())).2,()),()) else bif decide ((bG (be (↑(dA (a0,a1,(a2,a3,()),(a4,a5,()),a6,())).1.length:Int))).length+(dA (a0,a1,(a2,a3,()),(a4,a5,()),a6,())).1.length≤4294967296) then oR ((bG (be (↑(dA (a0,a1,(a2,a3,()),(a4,a5,()),a6,())).1.length:Int))++(dA (a0,a1,(a2,a3,()),(a4,a5,()),a6,())).1,0,()),()) else none else none
theorem PN (a0 a1:Int)(a2:Bool)(a3:LI)(a4:Bool)(a5:LI)(a6:List cP.den):Io.run tt QR dr LZ nS Tryz.f125 (((a0,a1,(a2,a3,()),(a4,a5,()),a6,()),()),())=A7 a0 a1 a2 a3 a4 a5 a6:=by kernel_rfl
theorem Rh:HcOk prog 125 (ah nS J9):=by
 refine bW (cs:=KH) (.cons Pi (.cons EY .nil)) (lp:=LZ) (fn:=Tryz.f125) nS (.done (by kernel_rfl)) J9 ?_
 rintro ⟨⟨⟨(a0:Int),(a1:Int),⟨(a2:Bool),(a3:LI),⟨⟩⟩,⟨(a4:Bool),(a5:LI),⟨⟩⟩,(a6:List cE),⟨⟩⟩,⟨⟩⟩,⟨⟩⟩ out hw ho
 obtain ⟨hg,ho⟩:=Tr.guard ho
 cases ho
 refine (PN a0 a1 a2 a3 a4 a5 a6).trans ?_
 show _=oR (((cr (a0,a1,(a2,a3,()),(a4,a5,()),a6,())).1,(cr (a0,a1,(a2,a3,()),(a4,a5,()),a6,())).2,()),())
 have hg:lh (a0,a1,(a2,a3,()),(a4,a5,()),a6,())=true:=hg
 unfold A7
 generalize ((a0,a1,(a2,a3,()),(a4,a5,()),a6,()):nh)=r at *
 have hl:(cT r).length≤4294967000:=of_decide_eq_true hg
 rw[aa hg]
 by_cases h1:bC r=0
 ·have e1:dA r=(cT r,0):=by unfold dA;rw[if_pos h1]
  have e2:cr r=(bG (be (cT r).length)++cT r,0):=by unfold cr;rw[if_pos h1]
  have:=xZ (be (cT r).length)
  rw[e1,e2]
  rw[ae (by rfl),aa (by simp;omega)]
 ·have e1:dA r=([],bC r):=by unfold dA;rw[if_neg h1]
  have e2:cr r=([],bC r):=by unfold cr;rw[if_neg h1]
  rw[e1,e2,aa (by simpa using h1)]
end
end Go.Proofs.YthpcdhgpplmneaaGreatDoor.Sym
namespace Go.Proofs.YthpcdhgpplmneaaGreatDoor.Sym
open Go
open Go.ChangeShapes Go.WideShapes Go.ChangeAt Go.RowKit
def eZ (P:Program):Ty→(TypeId ⊕ (List Field×Nat))→Bool
 |.int k,.inl t=>match P.underlying t with
  |some (.int k')=>decide (k'=k)
  |_=>false
 |.bool,.inl t=>match P.underlying t with
  |some .bool=>true
  |_=>false
 |.str,.inl t=>match P.underlying t with
  |some .string=>true
  |_=>false
 |.sl e ty,.inl t=>match P.underlying t with
  |some (.slice e')=>(e' == e)&&(eZ P ty (.inl e)&&((P.cellsOf e == ty.size)&&!(ty.size == 0)))
  |_=>false
 |.prod a b,.inl t=>match P.underlying t with
  |some (.struct fs)=>(P.cellsOf t == a.size+b.size)&&match fs.toList with
   |f::fs'=>(f.offset == 0)&&((P.cellsOf f.type == a.size)&&(eZ P a (.inl f.type)&&eZ P b (.inr (fs',a.size))))
   |[]=>false
  |_=>false
 |.unit,.inr ([],_)=>true
 |.prod a b,.inr (f::fs,off)=>(f.offset == off)&&((P.cellsOf f.type == a.size)&&(eZ P a (.inl f.type)&&eZ P b (.inr (fs,off+a.size))))
 |_,_=>false
def BZ:(t:Ty)→t.den→Nat
 |.int _,_=>1
 |.bool,_=>1
 |.str,s=>List.length (α:=Int) s+1
 |.sl _ t,xs=>(List.map (BZ t) xs).sum+1
 |.unit,_=>0
 |.prod a b,x=>BZ a x.1+BZ b x.2
 |.tree _ _,_=>0
def S0 (W:World)(b o:Nat):Prop:=∃v,W.cell? ⟨b,o,none⟩=some v
section
variable {P:Program} {W:World} {H:Type} {enc:TypeId×Value→H} {sp:Nat→Bool} {held:Bool}
theorem Kz {a:Addr}{n:Nat}{cs:List Value}(h:W.cells? 0 a n=some cs)(hn:0<n):a.spot=none∧cs.length=n∧At (S0 W) W a.block a.off cs:=by
 simp only[World.cells?,Nat.zero_le,if_true] at h
 have hl:=mapM_some_length h
 rw[List.length_range] at hl
 have hg:∀i,i<n→W.cell? (a.add i)=cs[i]?:=fun i hi=>mapM_some_get h i i (by simp[hi])
 have hsp:a.spot=none:=by
  have h0:=hg 0 hn
  rw[List.getElem?_eq_getElem (by omega)] at h0
  unfold World.cell? at h0
  split at h0
  ·split at h0
   ·cases h0
   ·rename_i hs
    cases e:a.spot with
    |none=>rfl
    |some x=>simp[Addr.add,e] at hs
  ·cases h0
 refine ⟨hsp,hl,fun j v hv=>?_⟩
 have hj:j<n:=by rw[← hl];exact (List.getElem?_eq_some_iff.1 hv).1
 have:=hg j hj
 rw[hv] at this
 have e:a.add j=⟨a.block,a.off+j,none⟩:=by
  obtain ⟨b,o,s⟩:=a
  simp only at hsp
  subst hsp
  exact Addr.add_plain ..
 rw[e] at this
 exact ⟨⟨v,this⟩,this⟩
theorem qv (ub:DataW H→Nat)(uba:List (DataW H)→Nat)(u1:∀l,1≤ub (.lit l))(u2:∀bs,bs.length+1≤ub (.lit (.string bs)))(u3:1≤ub .nil)(u4:∀es ss,uba es+1≤ub (.slice es ss))(u5:∀ps,uba ps≤ub (.agg ps))
  (u6:∀d ds,uba (d::ds)=ub d+uba ds) (u7:uba []=0):
  ∀(ty:Ty),(∀(t:TypeId),eZ P ty (.inl t)=true→∀(fuel:Nat) (cs:List Value) (x:DataW H×List MemPlace),DataW.trod enc P W 0 sp held fuel t cs=some x→∃y:ty.den,Rt (S0 W) W ty y cs∧BZ ty y≤ub x.1)∧
   (∀(fs:List Field) (off:Nat),eZ P ty (.inr (fs,off))=true→∀(fuel:Nat) (cs:List Value) (xs:List (DataW H×List MemPlace)),fs.mapM (fun f=>DataW.trod enc P W 0 sp held fuel f.type ((cs.drop f.offset).take (P.cellsOf f.type)))=some xs→
    (cs.drop off).length=ty.size→∃y:ty.den,Rt (S0 W) W ty y (cs.drop off)∧BZ ty y≤uba (xs.map (·.1)))
 |.int k=>by
  refine ⟨fun t ht fuel cs x h=>?_,fun fs off ht=>by cases fs <;> simp[eZ] at ht⟩
  simp only[eZ] at ht
  split at ht
  ·rename_i k' hu
   have ht:=of_decide_eq_true ht
   subst ht
   obtain ⟨n2,rfl,rfl,hw⟩:=DataW.trod_int hu h
   refine ⟨n2,⟨rfl,?_⟩,u1 _⟩
   simpa [Lit.wf,bt] using hw
  ·cases ht
 |.bool=>by
  refine ⟨fun t ht fuel cs x h=>?_,fun fs off ht=>by cases fs <;> simp[eZ] at ht⟩
  simp only[eZ] at ht
  split at ht
  ·rename_i hu
   obtain ⟨b,rfl,rfl⟩:=DataW.trod_bool hu h
   exact ⟨b,rfl,u1 _⟩
  ·cases ht
 |.str=>by
  refine ⟨fun t ht fuel cs x h=>?_,fun fs off ht=>by cases fs <;> simp[eZ] at ht⟩
  simp only[eZ] at ht
  split at ht
  ·rename_i hu
   obtain ⟨s,rfl,rfl,hl⟩:=DataW.trod_string hu h
   refine ⟨jA s,⟨by rw[mg],sg s,?_⟩,?_⟩
   ·have:(jA s).length=s.size:=by rw[← cg,mg]
    rw[this];exact hl
   ·have:(jA s).length=s.data.toList.length:=by unfold jA;exact List.length_map _
    show (jA s).length+1≤_
    rw[this]
    exact u2 _
  ·cases ht
 |.unit=>by
  refine ⟨fun t ht=>by simp[eZ] at ht,fun fs off ht fuel cs xs h hl=>?_⟩
  refine ⟨(),?_,Nat.zero_le _⟩
  exact zF hl
 |.sl e ty=>by
  refine ⟨fun t ht fuel cs x h=>?_,fun fs off ht=>by cases fs <;> simp[eZ] at ht⟩
  simp only[eZ] at ht
  split at ht
  ·rename_i e' hu
   simp only[zA,beq_iff_eq,Bool.not_eq_true',beq_eq_false_iff_ne] at ht
   obtain ⟨rfl,hT,hsz,hpos⟩:=ht
   have ih:=(qv ub uba u1 u2 u3 u4 u5 u6 u7 ty).1 e' hT
   rcases DataW.trod_slice hu h with ⟨rfl,rfl⟩ | ⟨a,len,cap,elems,rest,n,_,rfl,rfl,hb,hl,hm,hlen,hel,_,_⟩
   ·exact ⟨[],⟨none,0,rfl,Nat.le_refl _,Nat.zero_le _,fun h=>absurd rfl h⟩,u3⟩
   ·have each:∀i,i<len→∃y:ty.den,(∃c,Rt (S0 W) W ty y c∧(i=0→a.spot=none)∧At (S0 W) W a.block (a.off+i*ty.size) c)∧∃d,elems[i]?=some d∧BZ ty y≤ub d.1:=by
     intro i hi
     have h1:=hel i hi
     rw[List.getElem?_eq_getElem (by omega)] at h1
     obtain ⟨c,hc,hd⟩:=Option.bind_eq_some_iff.1 h1
     obtain ⟨y,hy,hs⟩:=ih _ _ _ hd
     rw[hsz] at hc
     obtain ⟨h2,h3,h4⟩:=Kz hc (by omega)
     have e1:(a.add (i*ty.size)).block=a.block:=by unfold Addr.add;split <;> rfl
     have e2:(a.add (i*ty.size)).off=a.off+i*ty.size:=by
      unfold Addr.add
      split
      ·rename_i h0;rw[h0];rfl
      ·rfl
     rw[e1,e2] at h4
     refine ⟨y,⟨c,hy,fun h0=>?_,h4⟩,elems[i],by simp,hs⟩
     subst h0
     simpa [Addr.add] using h2
    have mk:∀m,m≤len→∃ys:List ty.den,ys.length=m∧(∀i y,ys[i]?=some y→∃c,Rt (S0 W) W ty y c∧(i=0→a.spot=none)∧At (S0 W) W a.block (a.off+i*ty.size) c)∧(ys.map (BZ ty)).sum≤uba ((elems.take m).map (·.1)):=by
     intro m
     induction m with
     |zero=>intro _;exact ⟨[],rfl,fun i y h=>by simp at h,by simp⟩
     |succ m ihm=>
      intro hm'
      obtain ⟨ys,g1,g2,g3⟩:=ihm (by omega)
      obtain ⟨y,g4,d,g5,g6⟩:=each m (by omega)
      refine ⟨ys++[y],by simp[g1],fun i z hz=>?_,?_⟩
      ·rw[List.getElem?_append] at hz
       split at hz
       ·exact g2 i z hz
       ·rename_i hlt
        have:i=m:=by
         have:=(List.getElem?_eq_some_iff.1 hz).1
         simp at this;omega
        subst this
        simp[g1] at hz
        subst hz
        exact g4
      ·have hap:∀(xs bs:List (DataW H)),uba (xs++bs)=uba xs+uba bs:=by
        intro xs bs
        induction xs with
        |nil=>simp[u7]
        |cons c xs ih=>rw[List.cons_append,u6,u6,ih];omega
       rw[List.take_add_one,g5]
       simp only[List.map_append,List.sum_append,hap,Option.toList,zL,List.map_nil,List.sum_cons,List.sum_nil,u6,u7]
       omega
    obtain ⟨ys,g1,g2,g3⟩:=mk len (Nat.le_refl _)
    refine ⟨ys,⟨some a,cap,by rw[g1],by omega,hm,fun hne=>?_⟩,?_⟩
    ·have h0:0<ys.length:=List.length_pos_iff.2 hne
     obtain ⟨c,_,hsp,_⟩:=g2 0 ys[0] (by simp)
     have hsp:=hsp rfl
     refine ⟨a.block,a.off,?_,fun i y hy=>?_⟩
     ·obtain ⟨b,o,s⟩:=a
      simp only at hsp
      rw[hsp]
     ·obtain ⟨c,hc,_,hat⟩:=g2 i y hy
      exact ⟨c,hc,hat⟩
    ·rw[List.take_of_length_le (by omega)] at g3
     show (ys.map (BZ ty)).sum+1≤_
     exact Nat.le_trans (by omega) (u4 _ _)
  ·cases ht
 |.tree a e=>⟨fun t ht=>by simp[eZ] at ht,fun fs off ht=>by cases fs <;> simp[eZ] at ht⟩
 |.prod a b=>by
  have step:∀(f:Field) (fs:List Field) (off:Nat),((f.offset == off)&&((P.cellsOf f.type == a.size)&&(eZ P a (.inl f.type)&&eZ P b (.inr (fs,off+a.size)))))=true→
    ∀(fuel:Nat) (cs:List Value) (xs:List (DataW H×List MemPlace)),(f::fs).mapM (fun f=>DataW.trod enc P W 0 sp held fuel f.type ((cs.drop f.offset).take (P.cellsOf f.type)))=some xs→
    (cs.drop off).length=a.size+b.size→∃y:a.den×b.den,Rt (S0 W) W (.prod a b) y (cs.drop off)∧BZ a y.1+BZ b y.2≤uba (xs.map (·.1)):=by
   intro f fs off ht fuel cs xs h hl
   simp only[zA,beq_iff_eq] at ht
   obtain ⟨rfl,hs,hA,hB⟩:=ht
   simp only[List.mapM_cons,Option.bind_eq_bind,Option.bind_eq_some_iff] at h
   obtain ⟨x0,h0,xs',h1,h2⟩:=h
   simp only[Option.pure_def,zC] at h2
   subst h2
   rw[hs] at h0
   obtain ⟨y1,hy1,hd1⟩:=(qv ub uba u1 u2 u3 u4 u5 u6 u7 a).1 f.type hA _ _ _ h0
   have hl2:(cs.drop (f.offset+a.size)).length=b.size:=by
    simp only[List.length_drop] at hl ⊢
    omega
   obtain ⟨y2,hy2,hd2⟩:=(qv ub uba u1 u2 u3 u4 u5 u6 u7 b).2 fs _ hB _ _ _ h1 hl2
   refine ⟨(y1,y2),⟨_,_,?_,hy1,hy2⟩,?_⟩
   ·rw[← List.drop_drop,List.take_append_drop]
   ·simp only[zL,u6]
    omega
  refine ⟨fun t ht fuel cs x h=>?_,fun fs off ht fuel cs xs h hl=>?_⟩
  ·simp only[eZ] at ht
   split at ht
   ·rename_i fs hu
    simp only[zA,beq_iff_eq] at ht
    obtain ⟨hsz,ht⟩:=ht
    split at ht
    ·rename_i f fs' hfs
     cases fuel with
     |zero=>simp[DataW.trod] at h
     |succ n=>
      unfold DataW.trod at h
      rw[hu] at h
      simp only at h
      split at h
      ·rename_i hlen
       obtain ⟨xs,hxs,rfl⟩:=Option.map_eq_some_iff.1 h
       rw[hfs] at hxs
       obtain ⟨y,hy,hd⟩:=step f fs' 0 (by simpa using ht) n cs xs hxs (by simpa [hsz] using hlen)
       exact ⟨y,by simpa using hy,Nat.le_trans hd (u5 _)⟩
      ·cases h
    ·cases ht
   ·cases ht
  ·cases fs with
   |nil=>simp[eZ] at ht
   |cons f fs=>exact step f fs off (by simpa only [eZ] using ht) fuel cs xs h hl
theorem Si {ty:Ty}{t:TypeId}(ht:eZ P ty (.inl t)=true){fuel:Nat}{cs:List Value}{d:DataW H}{ps:List MemPlace}(h:DataW.trod enc P W 0 sp held fuel t cs=some (d,ps)):∃y:ty.den,Rt (S0 W) W ty y cs∧BZ ty y≤Rows.uptoBulk d:=
 (qv Rows.uptoBulk Rows.uptoBulkAll (fun l=>by cases l <;> simp[Rows.uptoBulk]) (fun bs=>by simp[Rows.uptoBulk]) (by simp[Rows.uptoBulk]) (fun es ss=>by simp[Rows.uptoBulk]) (fun ps=>by simp[Rows.uptoBulk]) (fun d ds=>by simp[Rows.uptoBulkAll]) (by simp[Rows.uptoBulkAll]) ty).1 t ht fuel cs _ h
theorem rF {t:Ty}(hp:∀x:t.den,1≤BZ t x):∀xs:List t.den,xs.length≤(xs.map (BZ t)).sum
 |[]=>by simp
 |x::xs=>by
  have:=rF hp xs
  have:=hp x
  simp only[zN,zL,List.sum_cons]
  omega
theorem Or {e:Nat}{k:IntKind}(xs:(Ty.sl e (.int k)).den):List.length xs≤BZ (.sl e (.int k)) xs:=by
 have:=rF (t:=.int k) (fun _=>Nat.le_refl 1) xs
 show _≤(List.map (BZ (.int k)) xs).sum+1
 exact Nat.le_trans this (Nat.le_succ _)
def G0 (W:World):Gh:=⟨S0 W,fun _=>none,fun _=>none⟩
def F0 (W:World):Fra:=⟨W,fun _=>False,S0 W,fun _=>none⟩
theorem SB (h:∀g,Qj g=false)(W:World):j8 (S0 W) W:=fun g i hg _=>absurd hg (by rw[h g];decide)
theorem SQ (W:World)(htab:j8 (S0 W) W):Rel (F0 W) (G0 W) ⟨[],[],[]⟩ #[] [] W where
 tm:=trivial
 stk:=trivial
 ob:=fun k cs h=>by simp at h
 gh:=⟨fun _ _ h=>(by cases h),fun _ _ _ h=>(by cases h),fun _ _ _ h=>(by cases h),fun _ _ _ _ _ h=>(by cases h),fun b o h=>(by
   obtain ⟨v,h⟩:=h
   unfold World.cell? at h
   split at h
   ·rename_i e
    exact (Array.getElem?_eq_some_iff.1 e).1
   ·cases h),⟨rfl,rfl,rfl,Nat.le_refl _,fun _ _ _=>rfl⟩,fun _ _ h=>h,fun _ _ h=>.inl h,fun _ _ _=>rfl,fun _ _ h=>(by cases h),htab⟩
def IL (oc:Oc)(A:AS):Option Unit:=match oc with
 |.ret (.one (.bool true)) _=>some ()
 |_=>none
theorem IM {f:Nat}{io:Io}{Fn:io.In→Tr io.Res}(hok:HcOk P f (ah io Fn)){args:List V}{vals:Array Value}(hargs:All2 (Rv (G0 W) W) args vals.toList)(hrun:ah io Fn Unit args 1 ⟨[],[],[]⟩ IL=some ())(htab:j8 (S0 W) W:=by exact SB (fun _=>rfl) _):
  Calls P f vals W fun e w'=>e=.returned (.bool true)∧w'.os=W.os∧w'.output=W.output∧∀i,i<W.heap.size→w'.heap[i]?=W.heap[i]?:=by
 refine (hok Unit args 1 _ IL () (F0 W) (G0 W) #[] [] W vals (fun _=>rfl) hrun (SQ W htab) hargs).2.mono ?_
 rintro e w' ⟨G',A',v,u,R',hv,h⟩
 have hfr:=R'.gh.fr
 refine ⟨?_,hfr.os,hfr.output,fun i hi=>hfr.block i hi (fun h=>h)⟩
 rcases h with ⟨rfl,ks,_,hk⟩ | ⟨rfl,hk⟩
 ·unfold IL at hk
  split at hk
  ·rename_i e
   cases e
   rw[show u=.bool true from hv]
  ·cases hk
 ·cases hk
def Ko (ty:Ty)(y:ty.den):V:=bif ty.isProd then .agg (qu ty y) else match qu ty y with
 |[c]=>.one c
 |_=>.any
theorem Ee {G:Gh}{ty:Ty}{y:ty.den}{v:Value}(h:Rt G.S W ty y v.cells.toList)(hp:ty.isProd=true→∃vs,v=.agg vs)(hn:ty.isProd=false→v.cells = #[v]):Rv G W (Ko ty y) v:=by
 have hs:=cx (G:=G) (w:=W) ty y _ h
 unfold Ko
 cases hb:ty.isProd with
 |true=>
  obtain ⟨vs,rfl⟩:=hp hb
  exact ⟨vs,rfl,hs⟩
 |false=>
  rw[hn hb] at hs
  simp only[cond_false]
  split
  ·rename_i c e
   rw[e] at hs
   exact hs.1
  ·trivial
theorem Ii {ty:Ty}{t:TypeId}(ht:eZ P ty (.inl t)=true){r:Reach}{base:Nat}{v:Value}(hval:Value.okWide P W r base t v):(ty.isProd=true→∃vs,v=.agg vs)∧(ty.isProd=false→v.cells = #[v]):=by
 cases ty with
 |tree a e=>simp[eZ] at ht
 |int k=>
  refine ⟨fun h=>(by cases h),fun _=>?_⟩
  simp only[eZ] at ht
  split at ht
  ·rename_i k' hu
   cases v <;> simp[Value.okWide,hu,Cell.okWide,Cell.ok] at hval <;> rfl
  ·cases ht
 |bool=>
  refine ⟨fun h=>(by cases h),fun _=>?_⟩
  simp only[eZ] at ht
  split at ht
  ·rename_i hu
   cases v <;> simp[Value.okWide,hu,Cell.okWide,Cell.ok] at hval <;> rfl
  ·cases ht
 |str=>
  refine ⟨fun h=>(by cases h),fun _=>?_⟩
  simp only[eZ] at ht
  split at ht
  ·rename_i hu
   cases v <;> simp[Value.okWide,hu,Cell.okWide,Cell.ok] at hval <;> rfl
  ·cases ht
 |sl e ty=>
  refine ⟨fun h=>(by cases h),fun _=>?_⟩
  simp only[eZ] at ht
  split at ht
  ·rename_i e' hu
   cases v <;> simp[Value.okWide,hu,Cell.okWide,Cell.ok] at hval <;> rfl
  ·cases ht
 |unit=>simp[eZ] at ht
 |prod a b=>
  refine ⟨fun _=>?_,fun h=>(by cases h)⟩
  simp only[eZ] at ht
  split at ht
  ·rename_i fs hu
   simp only[Value.okWide,hu] at hval
   obtain ⟨cs,rfl,_⟩:=hval
   exact ⟨cs,rfl⟩
  ·cases ht
def td (P:Program):Bool:=(List.range P.types.size).all fun t=>match P.underlying t with
 |some (.slice e)=>decide (0<P.cellsOf e)
 |_=>true
theorem wo (hl:laidOutB P=true)(hm:mapsRowed P=true)(hs:td P=true){W':World}(hk:∀i,i<W.heap.size→W'.heap[i]?=W.heap[i]?):∀{ts:List TypeId} {vs:List Value} {ds:List (DataW H)} {ps:List MemPlace},
  (∀t∈ts,t<P.types.size)→DataW.TrodAll enc P W 0 (fun _=>true) true ts vs ds ps→(∀p∈ps,sp p.block=true)→DataW.TrodAll enc P W' 0 sp true ts vs ds ps
 |[],[],[],_,_,h,_=>h
 |t::ts,v::vs,d::ds,ps,hT,⟨p,q,⟨fuel,h1⟩,h2,e⟩,hsp=>by
  refine ⟨p,q,⟨fuel,DataW.trod_stays (kids_rows hl hm) (fun {t e} ht hu=>?_) (fun h=>(by cases h)) (hT t (by simp)) h1 (fun x hx=>?_) fun x hx=>hsp x (by rw[e];exact List.mem_append_left _ hx)⟩,
   wo hl hm hs hk (fun t ht=>hT t (by simp[ht])) h2 (fun x hx=>hsp x (by rw[e];exact List.mem_append_right _ hx)),e⟩
  ·have:=List.all_eq_true.1 hs t (by simpa using ht)
   rw[hu] at this
   exact of_decide_eq_true this
  ·have hb:=DataW.trod_lt _ _ _ _ h1 x hx
   cases x with
   |cell b off=>simp[World.sameAt,World.cell?,hk b hb]
   |map b=>exact hk b hb
 |[],[],_::_,_,_,h,_=>h.elim
 |[],_::_,_,_,_,h,_=>h.elim
 |_::_,[],_,_,_,h,_=>h.elim
 |_::_,_::_,[],_,_,h,_=>h.elim
theorem MS {f:Func}{s:ChangeSpec}{apart fresh handsOn again:Bool}{W':World}{args:Array Value}{ds gs:List (DataW H)}{before:List MemPlace}
  (hl:laidOutB P=true) (hm:mapsRowed P=true) (hs:td P=true) (hT:∀t∈f.params.toList,t<P.types.size) {tb:TypeId} (hr:f.resultTypes = #[tb]) (htb:P.underlying tb=some .bool) (hv:s.vars=[])
  (hW:DataW.Whole enc P f.params.toList s.vars apart W args.toList ds gs before) (hfn:s.fn H (ds++gs)={ results:=[.lit (.bool true)],args:=ds })
  (hos:W'.os=W.os) (hout:W'.output=W.output) (hk:∀i,i<W.heap.size→W'.heap[i]?=W.heap[i]?):s.post enc P f apart fresh handsOn again W args (.bool true) W':=by
 have hlt:=hW.lt
 obtain ⟨p,q,hA,hV,hpq,hfz,hnd⟩:=id hW
 rw[hv] at hV
 obtain ⟨rfl,rfl⟩:=trodVars_none hV
 rw[List.append_nil] at hpq
 subst hpq
 have hres:∀(b:Nat) (sp:Nat→Bool) (hd:Bool),DataW.TrodAll enc P W' b sp hd f.resultTypes.toList ((Value.bool true).resultList f.resultTypes.size) [.lit (.bool true)] []:=by
  intro b sp hd
  rw[hr]
  exact trodAll_cons_mk (shut_bool htb _) trodAll_mk0
 have hargs:∀sp:Nat→Bool,(∀x∈before,sp x.block=true)→DataW.TrodAll enc P W' 0 sp true f.params.toList args.toList ds before:=
  fun sp hsp=>wo hl hm hs hk hT hA hsp
 have hvars:∀sp:Nat→Bool,DataW.TrodVars enc P W' sp s.vars [] []:=by
  intro sp
  rw[hv]
  rfl
 have hold:∀x∈before,(fun b=>decide (b<W.heap.size)) x.block=true:=fun x hx=>by simpa using hlt x hx
 have hkept:∀may:MemPlace→Prop,W.keptBut W' may:=fun may=>⟨hos,hout,fun i hi=>by
  rw[hk i hi]
  cases h:W.heap[i]? with
  |none=>rfl
  |some o=>cases o <;> simp⟩
 refine ⟨ds,[],before,[],before,[],hW,by rw[hfn];exact hres _ _ _,by rw[hfn];exact hargs _ hold,by rw[hfn];exact hvars _,hkept _,fun _=>?_⟩
 refine ⟨ok_one hr rfl (okWide_bool_mk htb true),[.lit (.bool true)]++ds,[],[]++before,⟨[]++before,[],trodAll_append (hargs _ fun _ _=>rfl) (hres _ _ _),hvars _,by simp,fun b off hx=>?_,fun ha=>by simpa using hnd ha⟩,fun x hx _=>by simpa using hx⟩
 have hx:MemPlace.cell b off∈before:=by simpa using hx
 rw[← hfz b off hx]
 simp[World.frozen?,hk b (hlt _ hx)]
@[reducible] def qy:List Ty→Type
 |[]=>Unit
 |t::ts=>t.den×qy ts
def F7:(tys:List Ty)→qy tys→List V
 |[],_=>[]
 |t::ts,y=>Ko t y.1::F7 ts y.2
def K6:(tys:List Ty)→qy tys→Nat
 |[],_=>0
 |t::ts,y=>BZ t y.1+K6 ts y.2
def SX:(tys:List Ty)→qy tys→Prop
 |[],_=>True
 |t::ts,y=>t.wf y.1∧SX ts y.2
def Pe (P:Program):List Ty→List TypeId→Bool
 |[],[]=>true
 |ty::tys,t::ts=>eZ P ty (.inl t)&&Pe P tys ts
 |_,_=>false
theorem AU {r:Reach}{base:Nat}:∀(tys:List Ty) (ts:List TypeId),Pe P tys ts=true→∀{vs:List Value} {ds:List (DataW H)} {ps:List MemPlace},DataW.TrodAll enc P W 0 sp held ts vs ds ps→
  (∀(j:Nat) t v,ts[j]?=some t→vs[j]?=some v→Value.okWide P W r base t v)→
  ∃ys:qy tys,All2 (Rv (G0 W) W) (F7 tys ys) vs∧K6 tys ys≤Rows.uptoBulkAll ds∧SX tys ys∧ds.length=tys.length
 |[],[],_,[],[],_,_,_=>⟨(),trivial,Nat.zero_le _,trivial,rfl⟩
 |ty::tys,t::ts,ht,v::vs,d::ds,_,⟨p,q,⟨fuel,h1⟩,h2,_⟩,hv=>by
  simp only[Pe,zA] at ht
  obtain ⟨y,hy,hs⟩:=Si ht.1 h1
  obtain ⟨k1,k2⟩:=Ii ht.1 (hv 0 t v rfl rfl)
  obtain ⟨ys,g1,g2,g3,g4⟩:=AU tys ts ht.2 h2 fun j t' v' e1 e2=>hv (j+1) t' v' (by simpa using e1) (by simpa using e2)
  refine ⟨(y,ys),⟨Ee hy k1 k2,g1⟩,?_,⟨Rt.wf ty y _ hy,g3⟩,by simp[g4]⟩
  simp only[K6,Rows.uptoBulkAll]
  omega
 |[],[],_,[],_::_,_,h,_=>h.elim
 |[],[],_,_::_,_,_,h,_=>h.elim
 |_::_,_::_,_,[],_,_,h,_=>h.elim
 |_::_,_::_,_,_::_,[],_,h,_=>h.elim
 |[],_::_,h,_,_,_,_,_=>by cases h
 |_::_,[],h,_,_,_,_,_=>by cases h
theorem zm {fn:Func}{f:Nat}{io:Io}{Fn:io.In→Tr io.Res}(hok:HcOk P f (ah io Fn)){s:ChangeSpec}(tys:List Ty)(hts:Pe P tys fn.params.toList=true)
  (hl:laidOutB P=true) (hm:mapsRowed P=true) (hs:td P=true) (hT:∀t∈fn.params.toList,t<P.types.size) {tb:TypeId} (hr:fn.resultTypes = #[tb]) (htb:P.underlying tb=some .bool) (hv:s.vars=[])
  (hfn:∀ds:List (DataW H),ds.length=tys.length→s.fn H ds={ results:=[.lit (.bool true)],args:=ds })
  (hrun:∀ys:qy tys,K6 tys ys≤1048576→SX tys ys→ah io Fn Unit (F7 tys ys) 1 ⟨[],[],[]⟩ IL=some ())
  (base:Nat) (args:Array Value) (ds gs:List (DataW H)) (before:List MemPlace)
  (hval:∀(j:Nat) t v,fn.params[j]?=some t→args[j]?=some v→Value.okWide P W .any base t v)
  (hW:DataW.Whole enc P fn.params.toList s.vars false W args.toList ds gs before) (hk:Rows.uptoSmall H (ds++gs)=true) (htab:j8 (S0 W) W:=by exact SB (fun _=>rfl) _):
  Calls P f args W fun e W'=>∃v,e=.returned v∧s.post enc P fn false true false false W args v W':=by
 have hW':=hW
 obtain ⟨p,q,hA,hV,_,_,_⟩:=hW
 rw[hv] at hV
 obtain ⟨rfl,rfl⟩:=trodVars_none hV
 obtain ⟨ys,g1,g2,g3,g4⟩:=AU tys fn.params.toList hts hA fun j t v e1 e2=>hval j t v (by simpa using e1) (by simpa using e2)
 have hb:Rows.uptoBulkAll ds≤1048576:=by simpa [Rows.uptoSmall] using hk
 refine (IM hok (vals:=args) (args:=F7 tys ys) g1 (hrun ys (by omega) g3) htab).mono ?_
 rintro e W' ⟨rfl,hos,hout,hkeep⟩
 exact ⟨_,rfl,MS hl hm hs hT hr htb hv hW' (by rw[List.append_nil];exact hfn ds g4) hos hout hkeep⟩
end
end Go.Proofs.YthpcdhgpplmneaaGreatDoor.Sym
namespace Go.Proofs.YthpcdhgpplmneaaGreatDoor.Sym
open Go
noncomputable section
section
variable {P:Program} {tt:TT}
end
end
end Go.Proofs.YthpcdhgpplmneaaGreatDoor.Sym
namespace Go.Proofs.YthpcdhgpplmneaaGreatDoor.Sym
open Go
def Ty.flatB:Ty→Bool
 |.sl _ _=>false
 |.tree _ _=>false
 |.prod a b=>a.flatB&&b.flatB
 |_=>true
theorem Rt.flat {S S':Nat→Nat→Prop}{w w':World}:∀(t:Ty) (x:t.den) (cs:List Value),t.flatB=true→Rt S w t x cs→Rt S' w' t x cs
 |.int _,_,_,_,h=>h
 |.bool,_,_,_,h=>h
 |.str,_,_,_,h=>h
 |.unit,_,_,_,h=>h
 |.prod a b,_,_,hf,⟨c1,c2,e,h1,h2⟩=>by
  simp only[Ty.flatB,zA] at hf
  exact ⟨c1,c2,e,Rt.flat a _ _ hf.1 h1,Rt.flat b _ _ hf.2 h2⟩
 |.sl _ _,_,_,hf,_=>by cases hf
 |.tree _ _,_,_,hf,_=>by cases hf
noncomputable section
structure Grown (w w':World):Prop where
 os:w'.os=w.os
 tape:w'.tape=w.tape
 output:w'.output=w.output
 size:w.heap.size≤w'.heap.size
 old:∀k,k<w.heap.size→w'.heap[k]?=w.heap[k]?
theorem Grown.cell {w w':World}(g:Grown w w'){b o:Nat}(hb:b<w.heap.size):w'.cell? ⟨b,o,none⟩=w.cell? ⟨b,o,none⟩:=by
 simp[World.cell?,g.old b hb]
section
variable {F:Fra} {G:Gh} {w w':World}
def Gh.owned (G:Gh)(i:Nat)(o:Option Nat):Gh:=⟨G.S,G.mu,fun j=>if j=i then o.map (·,0) else G.ow j⟩
variable {G':Gh}
def OwnsTo (G' H:Gh)(l:List Nat):Prop:=∀j∈l,j≠0∧∀b n,G'.ow j=some (b,n)→H.ow j=some (b,0)
theorem OwnsTo.l {H:Gh}{l l':List Nat}(h:OwnsTo G' H (l++l')):OwnsTo G' H l:=fun j hj=>h j (List.mem_append_left _ hj)
theorem OwnsTo.r {H:Gh}{l l':List Nat}(h:OwnsTo G' H (l++l')):OwnsTo G' H l':=fun j hj=>h j (List.mem_append_right _ hj)
end
end
end Go.Proofs.YthpcdhgpplmneaaGreatDoor.Sym
namespace Go.Proofs.YthpcdhgpplmneaaGreatDoor.Sym
open Go
noncomputable section
theorem G6 {w:World}{b:Nat}{o:Obj}(h:w.heap[b]?=some o):b<w.heap.size:=(Array.getElem?_eq_some_iff.1 h).1
theorem Grown.refl (w:World):Grown w w:=⟨rfl,rfl,rfl,Nat.le_refl _,fun _ _=>rfl⟩
end
end Go.Proofs.YthpcdhgpplmneaaGreatDoor.Sym
namespace Go.Proofs.YthpcdhgpplmneaaGreatDoor.Sym
open Go
open Go.IntKind (i8 i16 i32 i64 u8 u16 u32 u64)
noncomputable section
abbrev Pc:List Sh:=[dO,dI]
abbrev SI:Sh:=.dat (.int .i16) false false
abbrev Iw:Sh:=.dat (.int .i32) false false
abbrev Sf:Sh:=.dat (.int .u64) false false
def az (v:Int):Nat→LI
 |0=>[]
 |n+1=>(v / 256 ^ n) % 256::az v n
theorem gC (v:Int):∀n,(az v n).length=n
 |0=>rfl
 |n+1=>by rw[az,zN,gC v n]
def cw (b:LI)(most v:Int)(n:Nat):Int×LI:=if most - b.length<n then (10,b) else (0,b++az v n)
def dd (b:LI)(most:Int):Bool:=decide (b.length≤4294960000)&&(decide (0≤most)&&decide (most≤(1048576:Int)))
abbrev jp:Io:=⟨[.ptr 0 0],[Pc],[],[dI],none⟩
def yK (d:jp.In):Tr jp.Res:=.ret (.ret ((i64.wrap (d.2.1.2.1 - d.2.1.1.length),()),((d.2.1.1,(d.2.1.2.1,())),())))
abbrev GI:List (Nat×Hc):=[]
def OZ:Hd:=bA GI
def HD:Lp:=bQ []
def Ip (a0:LI)(a1:Int):Option jp.Res:=oR ((i64.wrap (a1 - (↑a0.length:Int)),()),(a0,a1,()),())
theorem Nu (a0:LI)(a1:Int):Io.run tt OZ dr HD jp Tryz.f130 (((),()),(a0,a1,()),())=Ip a0 a1:=by kernel_rfl
theorem HZ:HcOk prog 130 (ah jp yK):=by
 refine bW (cs:=GI) HcsOk.nil (lp:=HD) (fn:=Tryz.f130) jp (.done (by kernel_rfl)) yK ?_
 rintro ⟨⟨⟨⟩,⟨⟩⟩,⟨⟨(b:LI),(m:Int),⟨⟩⟩,⟨⟩⟩⟩ out hw ho
 rw[← ho]
 exact Nu b m
abbrev dJ:Io:=⟨[.ptr 0 0,Sf,dI],[Pc],[],[dI],none⟩
def j6 (d:dJ.In):Tr dJ.Res:=
 .ite (dd d.2.1.1 d.2.1.2.1&&(decide ((0:Int)≤d.1.2.2.1)&&decide (d.1.2.2.1≤(8:Int)))) (.ret (.ret (((cw d.2.1.1 d.2.1.2.1 d.1.2.1 d.1.2.2.1.toNat).1,()),(((cw d.2.1.1 d.2.1.2.1 d.1.2.1 d.1.2.2.1.toNat).2,(d.2.1.2.1,())),())))) .no
abbrev xo:List (Nat×Hc):=[(130,ah jp yK)]
def xE:Hd:=bA xo
abbrev cN:Lo:=⟨⟨(.one (.ptr 0 0)::.one (.hol (.int u64))::.any::bz (.one hI::ai (cy []))),[some [.onl 5 (Ty.int u8) 2,hI]]⟩,[(.exit 0,⟨(ai (ai ([]))),[some [.onl 5 (Ty.int u8) 2,hI]]⟩)]⟩
def il (d:cN.st.den):Tr (ao cN.xs):=
 .ite (decide (-1≤d.1.2.1)&&(decide (d.1.2.1≤7)&&decide (d.2.1.1.length≤4294960000))) (.ret (.ret ((),((),((d.2.1.1++az d.1.1 (d.1.2.1+1).toNat,(d.2.1.2.1,())),()))))) .no
def mX:Lp:=bQ [(5,aG cN il)]
def nE {R:Type}(h4 h5:Int)(h6:LI)(h7:Int)(next:Int→Int→LI→Int→Option R)(out:ao cN.xs→Option R):Option R:=bif decide (0≤h5) then bif decide (0≤i64.wrap (8*h5)) then bif !(0 == 1+29 || false)&&true&&decide (h6.length+[u8.wrap (eY u64 h4 (i64.wrap (8*h5)))].length≤4294967296) then next (h4) (i64.wrap (h5 - 1)) (h6++[u8.wrap (eY u64 h4 (i64.wrap (8*h5)))]) (h7) else none else none else out (.ret ((),((),((h6,(h7,())),()))))
def me (n:Nat)(h4 h5:Int)(h6:LI)(h7:Int):Option (ao cN.xs):=fV tt xE dr mX 1 Tryz.f129 (b9 Tryz.f129 0) n (cN.st.mk' ((h4,(h5,())),((h6,(h7,())),()))) (bH cN.xs)
theorem Dx (n:Nat)(h4 h5:Int)(h6:LI)(h7:Int):me (n+1) h4 h5 h6 h7=nE h4 h5 h6 h7 (me n) some:=by kernel_rfl
theorem ND {v:Int}(h0:0≤v)(h1:v≤18446744073709551615){i:Nat}(hi:i≤7):u8.wrap (eY .u64 v (i64.wrap (8*(i:Int))))=(v / 256 ^ i) % 256:=by
 rw[af (n:=8*(i:Int)) (by omega) (by omega)]
 unfold eY
 have e:min (8*(i:Int)).toNat (u64).bits=8*i:=by
  show min (8*(i:Int)).toNat 64=8*i
  omega
 rw[e]
 have e2:(2:Int) ^ (8*i)=256 ^ i:=by rw[Int.pow_mul];rfl
 have hp:(0:Int)<256 ^ i:=Int.pow_pos (by decide)
 rw[e2,Int.fdiv_eq_ediv_of_nonneg _ (Int.le_of_lt hp)]
 have h3:0≤v / 256 ^ i:=Int.ediv_nonneg h0 (Int.le_of_lt hp)
 have h4:v / 256 ^ i≤v:=Int.ediv_le_self _ h0
 rw[bY (k:=.u64) (by simp[bt,IntKind.min,IntKind.max,IntKind.signed,IntKind.bits];omega)]
 simp[IntKind.wrap,IntKind.signed,IntKind.bits]
theorem CK {v:Int}(h0:0≤v)(h1:v≤18446744073709551615)(most:Int):∀(k m:Nat) (b:LI),m<k→m≤8→b.length+m≤4294967296→
  me k v ((m:Int) - 1) b most=some (.ret ((),((),((b++az v m,(most,())),())))):=by
 intro k
 induction k with
 |zero=>intro m b h;omega
 |succ k ih=>
  intro m b h2 h3 h4
  rw[Dx]
  unfold nE
  cases m with
  |zero=>simp[az]
  |succ m=>
   have e:((m+1:Nat):Int) - 1=(m:Int):=by omega
   rw[e,aa (by simp),af (n:=(m:Int) - 1) (by omega) (by omega),ND h0 h1 (by omega),af (n:=8*(m:Int)) (by omega) (by omega),aa (by simp;omega),aa (by simp;omega),ih m _ (by omega) (by omega) (by simp;omega)]
   simp[az]
def rB (a0 a1:Int)(a2:LI)(a3:Int):Option dJ.Res:=bif decide (i64.wrap (a3 - (↑a2.length:Int))<a1) then oR ((10,()),(a2,a3,()),()) else (il ((a0,(i64.wrap (a1 - 1),())),((a2,(a3,())),()))).run fun y=>match y with | .ret ((),((),(x14,x15,()),()))=>(oR ((0,()),(x14,x15,()),()))
theorem Fg (a0 a1:Int)(a2:LI)(a3:Int):Io.run tt xE dr mX dJ Tryz.f129 (((),a0,a1,()),(a2,a3,()),())=rB a0 a1 a2 a3:=by kernel_rfl
theorem rK:HcsOk prog xo:=.cons HZ .nil
theorem m9:HcOk prog 129 (ah dJ j6):=by
 refine bW rK (lp:=mX) (fn:=Tryz.f129) dJ (.step (h0:=aG cN il) (by kernel_rfl) (gi rK (lp:=mX) (fn:=Tryz.f129) (.done (by kernel_rfl)) cN il ?_) (.done (by kernel_rfl))) j6 ?_
 ·rintro ⟨⟨(v:Int),(i:Int),⟨⟩⟩,⟨⟨(b:LI),(m:Int),⟨⟩⟩,⟨⟩⟩⟩ y hw hy
  obtain ⟨hg,hy⟩:=Tr.guard hy
  simp only[zA,zB] at hg
  have hv:bt .u64 v:=hw.1.1
  simp[bt,IntKind.min,IntKind.max,IntKind.signed,IntKind.bits] at hv
  have g1:(-1:Int)≤i:=hg.1
  have g2:i≤(7:Int):=hg.2.1
  have g3:b.length≤4294960000:=hg.2.2
  obtain ⟨n,hn⟩:∃n:Nat,i=(n:Int) - 1:=⟨(i+1).toNat,by omega⟩
  subst hn
  refine ⟨10,(CK hv.1 (by omega) m 10 n b (by omega) (by omega) (by omega)).trans ?_⟩
  rw[← hy,show ((n:Int) - 1+1).toNat=n by omega];rfl
 ·rintro ⟨⟨⟨⟩,(v:Int),(n:Int),⟨⟩⟩,⟨⟨(b:LI),(m:Int),⟨⟩⟩,⟨⟩⟩⟩ out hw ho
  obtain ⟨hg,ho⟩:=Tr.guard ho
  simp only[dd,zA,zB] at hg
  obtain ⟨⟨h1,h2,h3⟩,h4,h5⟩:=hg
  have h4:(0:Int)≤n:=h4
  have h5:n≤(8:Int):=h5
  cases ho
  refine (Fg v n b m).trans ?_
  unfold rB il
  simp only
  rw[af (n:=m - (b.length:Int)) (by omega) (by omega),af (n:=n - 1) (by omega) (by omega),show n - 1+1=n by omega]
  unfold cw
  by_cases hl:m - (b.length:Int)<n
  ·rw[aa (by simpa using hl),if_pos (by omega)]
  ·rw[ae (by simpa using hl),if_neg (by omega)]
   have:(decide (-1≤n - 1)&&(decide (n - 1≤7)&&decide (b.length≤4294960000)))=true:=by simp;omega
   rw[this]
   rfl
theorem p5 (v:Int){n:Nat}(h:n≤8):az (u64.wrap v) n=az v n:=by
 have e:u64.wrap v=v % 18446744073709551616:=by simp[IntKind.wrap,IntKind.signed,IntKind.bits]
 rw[e]
 have key:∀k:Nat,k<8→(v % 18446744073709551616 / 256 ^ k) % 256=(v / 256 ^ k) % 256:=by
  intro k hk
  match k,hk with
  |0,_=>omega
  |1,_=>omega
  |2,_=>omega
  |3,_=>omega
  |4,_=>omega
  |5,_=>omega
  |6,_=>omega
  |7,_=>omega
 induction n with
 |zero=>rfl
 |succ n ih=>rw[az,az,key n (by omega),ih (by omega)]
abbrev oa:Io:=⟨[.ptr 0 0,SI],[Pc],[],[dI],none⟩
def F2 (d:oa.In):Tr oa.Res:=
 .ite (dd d.2.1.1 d.2.1.2.1) (.ret (.ret (((cw d.2.1.1 d.2.1.2.1 d.1.2.1 2).1,()),(((cw d.2.1.1 d.2.1.2.1 d.1.2.1 2).2,(d.2.1.2.1,())),())))) .no
abbrev KV:List (Nat×Hc):=[(129,ah dJ j6)]
def Q2:Hd:=bA KV
def Ma:Lp:=bQ []
def Bo (a0:Int)(a1:LI)(a2:Int):Option oa.Res:=bif dd a1 a2&&(decide (0≤2)&&decide (2≤8)) then oR (((cw a1 a2 (u64.wrap a0) (Int.toNat 2)).1,()),((cw a1 a2 (u64.wrap a0) (Int.toNat 2)).2,a2,()),()) else none
theorem P5 (a0:Int)(a1:LI)(a2:Int):Io.run tt Q2 dr Ma oa Tryz.f93 (((),a0,()),(a1,a2,()),())=Bo a0 a1 a2:=by kernel_rfl
theorem Ru:HcOk prog 93 (ah oa F2):=by
 refine bW (cs:=KV) (.cons m9 .nil) (lp:=Ma) (fn:=Tryz.f93) oa (.done (by kernel_rfl)) F2 ?_
 rintro ⟨⟨⟨⟩,(v:Int),⟨⟩⟩,⟨⟨(b:LI),(m:Int),⟨⟩⟩,⟨⟩⟩⟩ out hw ho
 obtain ⟨hg,ho⟩:=Tr.guard ho
 have hg:dd b m=true:=hg
 cases ho
 refine (P5 v b m).trans ?_
 unfold Bo
 have e:cw b m (u64.wrap v) 2=cw b m v 2:=by unfold cw;rw[p5 v (by decide)]
 simp[hg,e]
abbrev od:Io:=⟨[.ptr 0 0,Iw],[Pc],[],[dI],none⟩
def F3 (d:od.In):Tr od.Res:=
 .ite (dd d.2.1.1 d.2.1.2.1) (.ret (.ret (((cw d.2.1.1 d.2.1.2.1 d.1.2.1 4).1,()),(((cw d.2.1.1 d.2.1.2.1 d.1.2.1 4).2,(d.2.1.2.1,())),())))) .no
abbrev KW:List (Nat×Hc):=[(129,ah dJ j6)]
def Q3:Hd:=bA KW
def Mb:Lp:=bQ []
def Bp (a0:Int)(a1:LI)(a2:Int):Option od.Res:=bif dd a1 a2&&(decide (0≤4)&&decide (4≤8)) then oR (((cw a1 a2 (u64.wrap a0) (Int.toNat 4)).1,()),((cw a1 a2 (u64.wrap a0) (Int.toNat 4)).2,a2,()),()) else none
theorem P6 (a0:Int)(a1:LI)(a2:Int):Io.run tt Q3 dr Mb od Tryz.f91 (((),a0,()),(a1,a2,()),())=Bp a0 a1 a2:=by kernel_rfl
theorem Rw:HcOk prog 91 (ah od F3):=by
 refine bW (cs:=KW) (.cons m9 .nil) (lp:=Mb) (fn:=Tryz.f91) od (.done (by kernel_rfl)) F3 ?_
 rintro ⟨⟨⟨⟩,(v:Int),⟨⟩⟩,⟨⟨(b:LI),(m:Int),⟨⟩⟩,⟨⟩⟩⟩ out hw ho
 obtain ⟨hg,ho⟩:=Tr.guard ho
 have hg:dd b m=true:=hg
 cases ho
 refine (P6 v b m).trans ?_
 unfold Bp
 have e:cw b m (u64.wrap v) 4=cw b m v 4:=by unfold cw;rw[p5 v (by decide)]
 simp[hg,e]
abbrev oe:Io:=⟨[.ptr 0 0,.dat (.int .i64) false false],[Pc],[],[dI],none⟩
def F4 (d:oe.In):Tr oe.Res:=
 .ite (dd d.2.1.1 d.2.1.2.1) (.ret (.ret (((cw d.2.1.1 d.2.1.2.1 d.1.2.1 8).1,()),(((cw d.2.1.1 d.2.1.2.1 d.1.2.1 8).2,(d.2.1.2.1,())),())))) .no
abbrev KX:List (Nat×Hc):=[(129,ah dJ j6)]
def Q4:Hd:=bA KX
def Mc:Lp:=bQ []
def Bq (a0:Int)(a1:LI)(a2:Int):Option oe.Res:=bif dd a1 a2&&(decide (0≤8)&&decide (8≤8)) then oR (((cw a1 a2 (u64.wrap a0) (Int.toNat 8)).1,()),((cw a1 a2 (u64.wrap a0) (Int.toNat 8)).2,a2,()),()) else none
theorem P7 (a0:Int)(a1:LI)(a2:Int):Io.run tt Q4 dr Mc oe Tryz.f90 (((),a0,()),(a1,a2,()),())=Bq a0 a1 a2:=by kernel_rfl
theorem Rx:HcOk prog 90 (ah oe F4):=by
 refine bW (cs:=KX) (.cons m9 .nil) (lp:=Mc) (fn:=Tryz.f90) oe (.done (by kernel_rfl)) F4 ?_
 rintro ⟨⟨⟨⟩,(v:Int),⟨⟩⟩,⟨⟨(b:LI),(m:Int),⟨⟩⟩,⟨⟩⟩⟩ out hw ho
 obtain ⟨hg,ho⟩:=Tr.guard ho
 have hg:dd b m=true:=hg
 cases ho
 refine (P7 v b m).trans ?_
 unfold Bq
 have e:cw b m (u64.wrap v) 8=cw b m v 8:=by unfold cw;rw[p5 v (by decide)]
 simp[hg,e]
abbrev og:Io:=⟨[dI],[],[Pc],[.ptr 0 0],none⟩
def Qs (d:og.In):Tr og.Res:=.ret (.ret (((),()),((([]:LI),(nx (dW d.1.1 0) 1048576,())),())))
abbrev KY:List (Nat×Hc):=[]
def Q5:Hd:=bA KY
def Md:Lp:=bQ []
def Kw (a0:Int):Option og.Res:=oR (((),()),([],nx (dW a0 0) 1048576,()),())
theorem P8 (a0:Int):Io.run tt Q5 dr Md og Tryz.f89 ((a0,()),())=Kw a0:=by kernel_rfl
theorem Ry:HcOk prog 89 (ah og Qs):=by
 refine bW (cs:=KY) HcsOk.nil (lp:=Md) (fn:=Tryz.f89) og (.done (by kernel_rfl)) Qs ?_
 rintro ⟨⟨(m:Int),⟨⟩⟩,⟨⟩⟩ out hw ho
 rw[← ho]
 exact P8 m
abbrev gz:Io:=⟨[.ptr 0 0],[Pc],[],[dO],none⟩
def sJ (d:gz.In):Tr gz.Res:=.ite (decide (d.2.1.1.length≤4294967296)) (.ret (.ret ((d.2.1.1,()),((d.2.1.1,(d.2.1.2.1,())),())))) .no
abbrev BO:List (Nat×Hc):=[(47,ah d7 mJ)]
def LJ:Hd:=bA BO
def CY:Lp:=bQ []
def Ek (a0:LI)(a1:Int):Option gz.Res:=bif decide (a0.length≤4294967296) then oR ((a0,()),(a0,a1,()),()) else none
theorem Ju (a0:LI)(a1:Int):Io.run tt LJ dr CY gz Tryz.f97 (((),()),(a0,a1,()),())=Ek a0 a1:=by kernel_rfl
theorem Db:HcOk prog 97 (ah gz sJ):=by
 refine bW (cs:=BO) (.cons pW .nil) (lp:=CY) (fn:=Tryz.f97) gz (.done (by kernel_rfl)) sJ ?_
 rintro ⟨⟨⟨⟩,⟨⟩⟩,⟨⟨(b:LI),(m:Int),⟨⟩⟩,⟨⟩⟩⟩ out hw ho
 obtain ⟨hg,ho⟩:=Tr.guard ho
 cases ho
 exact (Ju b m).trans (aa hg _ _)
def ap:List (LI)→Nat
 |[]=>0
 |p::ps=>p.length+ap ps
def bP:List (LI)→LI
 |[]=>[]
 |p::ps=>p++bP ps
def vB (b:LI)(most:Int)(ps:List (LI)):Int×LI:=if most - b.length<ap ps then (10,b) else (0,b++bP ps)
abbrev oh:Io:=⟨[.ptr 0 0,.dat (.sl 22 bs) false false],[Pc],[],[dI],none⟩
def F5 (d:oh.In):Tr oh.Res:=
 .ite (dd d.2.1.1 d.2.1.2.1&&decide (ap d.1.2.1≤4294960000)) (.ret (.ret (((vB d.2.1.1 d.2.1.2.1 d.1.2.1).1,()),(((vB d.2.1.1 d.2.1.2.1 d.1.2.1).2,(d.2.1.2.1,())),())))) .no
abbrev KZ:List (Nat×Hc):=[(130,ah jp yK)]
def EB:Hd:=bA KZ
abbrev fM:Lo:=⟨⟨(.one (.ptr 0 0)::.one (.hol (.sl 22 (Ty.sl 5 (Ty.int u8))))::.any::bh (.one hI::bz (.one (.hol (.sl 22 (Ty.sl 5 (Ty.int u8))))::.one hI::.one hI::ai (cy (bz []))))),[some [.onl 5 (Ty.int u8) 2,hI]]⟩,[(.exit 0,⟨(.one (.ptr 0 0)::.one (.hol (.sl 22 (Ty.sl 5 (Ty.int u8))))::.any::bh (.one hI::.any::ai (ai (bh [])))),[some [.onl 5 (Ty.int u8) 2,hI]]⟩)]⟩
abbrev eN:Lo:=⟨⟨(.one (.ptr 0 0)::ai (cy (.one (.hol (.sl 22 (Ty.sl 5 (Ty.int u8))))::.one hI::.one hI::.any::cy (bz [])))),[some [.onl 5 (Ty.int u8) 2,hI]]⟩,[(.exit 2,⟨(.any::ai (ai (cy []))),[some [.onl 5 (Ty.int u8) 2,hI]]⟩)]⟩
def o8 (d:fM.st.den):Tr (ao fM.xs):=
 .ite (decide (d.1.2.1=0)&&(decide (d.1.2.2.2.2.1=0)&&(decide (d.1.2.2.2.1=(d.1.2.2.1.length:Int))&&decide (ap d.1.2.2.1≤4294960000)))) (.ret (.ret ((),((d.1.1,((ap d.1.2.2.1:Int),())),(d.2.1,()))))) .no
def lM (d:eN.st.den):Tr (ao eN.xs):=
 .ite (decide (d.1.2.2.1=0)&&(decide (d.1.2.1=(d.1.1.length:Int))&&decide (d.2.1.1.length+ap d.1.1≤4294967296))) (.ret (.ret ((),((),((d.2.1.1++bP d.1.1,(d.2.1.2.1,())),()))))) .no
def qY:Lp:=bQ [(4,aG fM o8),(11,aG eN lM)]
def vR {R:Type}(h3:List bs.den)(h4:Int)(h5:List bs.den)(h6 h7:Int)(h8:LI)(h9:Int)(next:List bs.den→Int→List bs.den→Int→Int→LI→Int→Option R)(out:ao fM.xs→Option R):Option R:=bif decide (h7<h6) then bif decide (0≤h7)&&decide (h7<(↑h5.length:Int)) then next (h3) (i64.wrap (h4+(↑(List.length (h5.getD h7.toNat [])):Int))) (h5) (h6) (i64.wrap (h7+1)) (h8) (h9) else none else out (.ret ((),((h3,(h4,())),((h8,(h9,())),()))))
def uR (n:Nat)(h3:List bs.den)(h4:Int)(h5:List bs.den)(h6 h7:Int)(h8:LI)(h9:Int):Option (ao fM.xs):=fV tt EB dr qY 1 Tryz.f94 (b9 Tryz.f94 0) n (fM.st.mk' ((h3,(h4,(h5,(h6,(h7,()))))),((h8,(h9,())),()))) (bH fM.xs)
theorem NN (n:Nat)(h3:List bs.den)(h4:Int)(h5:List bs.den)(h6 h7:Int)(h8:LI)(h9:Int):uR (n+1) h3 h4 h5 h6 h7 h8 h9=vR h3 h4 h5 h6 h7 h8 h9 (uR n) some:=by kernel_rfl
def sf {R:Type}(h25:List (Ty.sl 5 (Ty.int u8)).den)(h26 h27:Int)(h28:LI)(h29:Int)(next:List (Ty.sl 5 (Ty.int u8)).den→Int→Int→LI→Int→Option R)(out:ao eN.xs→Option R):Option R:=bif decide (h27<h26) then bif decide (0≤h27)&&decide (h27<(↑h25.length:Int)) then bif decide (h28.length+List.length (h25.getD h27.toNat [])≤4294967296) then next (h25) (h26) (i64.wrap (h27+1)) (h28++h25.getD h27.toNat []) (h29) else none else none else out (.ret ((),((),((h28,(h29,())),()))))
def qW (n:Nat)(h25:List (Ty.sl 5 (Ty.int u8)).den)(h26 h27:Int)(h28:LI)(h29:Int):Option (ao eN.xs):=fV tt EB dr qY 1 Tryz.f94 (b9 Tryz.f94 1) n (eN.st.mk' ((h25,(h26,(h27,()))),((h28,(h29,())),()))) (bH eN.xs)
theorem JK (n:Nat)(h25:List (Ty.sl 5 (Ty.int u8)).den)(h26 h27:Int)(h28:LI)(h29:Int):qW (n+1) h25 h26 h27 h28 h29=sf h25 h26 h27 h28 h29 (qW n) some:=by kernel_rfl
theorem jN {ps:List (LI)}{i:Nat}(h:i<ps.length):ap (ps.drop i)=ps[i].length+ap (ps.drop (i+1)):=by rw[zE h];rfl
theorem rT {ps:List (LI)}{i:Nat}(h:i<ps.length):bP (ps.drop i)=ps[i]++bP (ps.drop (i+1)):=by rw[zE h];rfl
theorem ET (ps0 ps:List (LI))(b:LI)(m:Int)(hl:ps.length≤maxLen):∀(k i s:Nat),ps.length<i+k→i≤ps.length→s+ap (ps.drop i)≤4294960000→
  uR k ps0 s ps (ps.length:Int) i b m=some (.ret ((),((ps0,(((s+ap (ps.drop i):Nat):Int),())),((b,(m,())),())))):=by
 intro k
 induction k with
 |zero=>intro i s h;omega
 |succ k ih=>
  intro i s h1 h2 h3
  rw[NN]
  unfold vR
  by_cases hi:i<ps.length
  ·rw[jN hi] at h3 ⊢
   have e:List.getD ps (i:Int).toNat []=ps[i]:=by simp only[zG,aC hi]
   rw[aa (by simpa using hi),aa (by simpa using hi),e,aM hi hl,af (n:=(s:Int)+(List.length (α:=Int) ps[i]:Int)) (by omega) (by omega)]
   have e2:(s:Int)+(List.length (α:=Int) ps[i]:Int)=((s+ps[i].length:Nat):Int):=by omega
   rw[e2,ih (i+1) (s+ps[i].length) (by omega) (by omega) (by omega),Nat.add_assoc]
  ·rw[ae (by simp;omega),zI (by omega)]
   rfl
theorem CJ (ps:List (LI))(m:Int)(hl:ps.length≤maxLen):∀(k i:Nat) (b:LI),ps.length<i+k→i≤ps.length→b.length+ap (ps.drop i)≤4294967296→
  qW k ps (ps.length:Int) i b m=some (.ret ((),((),((b++bP (ps.drop i),(m,())),())))):=by
 intro k
 induction k with
 |zero=>intro i b h;omega
 |succ k ih=>
  intro i b h1 h2 h3
  rw[JK]
  unfold sf
  by_cases hi:i<ps.length
  ·rw[jN hi] at h3
   rw[rT hi]
   have e:List.getD ps (i:Int).toNat []=ps[i]:=by simp only[zG,aC hi]
   rw[aa (by simpa using hi),aa (by simpa using hi),e,aM hi hl,aa (by simp;omega),ih (i+1) _ (by omega) (by omega) (by simp;omega),zK]
  ·rw[ae (by simp;omega),zI (by omega)]
   simp[bP]
def Br (a0:List bs.den)(a1:LI)(a2:Int):Option oh.Res:=(o8 ((a0,(0,(a0,((↑a0.length:Int),(0,()))))),((a1,(a2,())),()))).run fun y=>match y with | .ret ((),((x21,x22,()),(x23,x24,()),()))=>(bif decide (i64.wrap (x24 - (↑x23.length:Int))<x22) then oR ((10,()),(x23,x24,()),()) else (lM ((x21,((↑x21.length:Int),(0,()))),((x23,(x24,())),()))).run fun y=>match y with | .ret ((),((),(x37,x38,()),()))=>(oR ((0,()),(x37,x38,()),())))
theorem P9 (a0:List bs.den)(a1:LI)(a2:Int):Io.run tt EB dr qY oh Tryz.f94 (((),a0,()),(a1,a2,()),())=Br a0 a1 a2:=by kernel_rfl
theorem uB:HcsOk prog KZ:=.cons HZ .nil
theorem Rz:HcOk prog 94 (ah oh F5):=by
 refine bW uB (lp:=qY) (fn:=Tryz.f94) oh (.step (h0:=aG fM o8) (by kernel_rfl) (gi uB (lp:=qY) (fn:=Tryz.f94) (.done (by kernel_rfl)) fM o8 ?_) (.step (h0:=aG eN lM) (by kernel_rfl) (gi uB (lp:=qY) (fn:=Tryz.f94) (.done (by kernel_rfl)) eN lM ?_) (.done (by kernel_rfl)))) F5 ?_
 ·rintro ⟨⟨ps0,s,ps,n,i,⟨⟩⟩,⟨⟨b,m,⟨⟩⟩,⟨⟩⟩⟩ y hw hy
  obtain ⟨hg,hy⟩:=Tr.guard hy
  simp only[zA,zB] at hg
  obtain ⟨rfl,rfl,rfl,h4⟩:=hg
  refine ⟨ps.length+1,(ET ps0 ps b m hw.1.2.2.1.1 _ 0 0 (by omega) (by omega) (by simpa using h4)).trans ?_⟩
  rw[← hy,Nat.zero_add];rfl
 ·rintro ⟨⟨ps,n,i,⟨⟩⟩,⟨⟨b,m,⟨⟩⟩,⟨⟩⟩⟩ y hw hy
  obtain ⟨hg,hy⟩:=Tr.guard hy
  simp only[zA,zB] at hg
  obtain ⟨rfl,rfl,h4⟩:=hg
  refine ⟨ps.length+1,(CJ ps m hw.1.1.1 _ 0 b (by omega) (by omega) (by simpa using h4)).trans ?_⟩
  rw[← hy];rfl
 ·rintro ⟨⟨⟨⟩,(ps:List (LI)),⟨⟩⟩,⟨⟨(b:LI),(m:Int),⟨⟩⟩,⟨⟩⟩⟩ out hw ho
  obtain ⟨hg,ho⟩:=Tr.guard ho
  simp only[dd,zA,zB] at hg
  obtain ⟨⟨h1,h2,h3⟩,h4⟩:=hg
  have h4:ap ps≤4294960000:=h4
  cases ho
  refine (P9 ps b m).trans ?_
  unfold Br
  have c1:(decide ((0:Int)=0)&&(decide ((0:Int)=0)&&(decide ((ps.length:Int)=(ps.length:Int))&&decide (ap ps≤4294960000))))=true:=by simp;omega
  have e1:o8 ((ps,(0,(ps,((ps.length:Int),(0,()))))),((b,(m,())),()))=.ite true (.ret (.ret ((),((ps,((ap ps:Int),())),((b,(m,())),()))))) .no:=congrArg (fun c=>Tr.ite c _ _) c1
  rw[e1]
  simp only[Tr.run,cond_true]
  rw[af (n:=m - (b.length:Int)) (by omega) (by omega)]
  unfold vB
  by_cases hl:m - (b.length:Int)<(ap ps:Int)
  ·rw[aa (by simpa using hl),if_pos hl]
  ·rw[ae (by simpa using hl),if_neg hl]
   have c2:(decide ((0:Int)=0)&&(decide ((ps.length:Int)=(ps.length:Int))&&decide (b.length+ap ps≤4294967296)))=true:=by simp;omega
   have e2:lM ((ps,((ps.length:Int),(0,()))),((b,(m,())),()))=.ite true (.ret (.ret ((),((),((b++bP ps,(m,())),()))))) .no:=congrArg (fun c=>Tr.ite c _ _) c2
   rw[e2]
   rfl
abbrev Qz:List Sh:=[dL,dI]
abbrev gL:Sh:=.dat (.int .i64) false false
def aV (l:LI):Int:=l.foldl (fun v c=>v*256+c) 0
def bX (b:LI)(p:Int)(n:Nat):Int×(Int×Int):=if (b.length:Int) - p<n then (0,(p,1)) else (aV ((b.drop p.toNat).take n),(p+n,0))
def cV (b:LI)(p:Int):Bool:=decide (b.length≤4294960000)&&(decide (0≤p)&&decide (p≤(b.length:Int)))
def oO (b:LI)(p n:Int):Int×Int:=if n<0 then (p,3) else if (b.length:Int) - p<n then (p,1) else (p+n,0)
abbrev gt:Io:=⟨[.ptr 0 0],[Qz],[],[dI],none⟩
def sD (d:gt.In):Tr gt.Res:=.ret (.ret ((i64.wrap ((d.2.1.1.length:Int) - d.2.1.2.1),()),((d.2.1.1,(d.2.1.2.1,())),())))
abbrev BF:List (Nat×Hc):=[]
def LC:Hd:=bA BF
def CW:Lp:=bQ []
def Ej (a0:LI)(a1:Int):Option gt.Res:=oR ((i64.wrap ((↑a0.length:Int) - a1),()),(a0,a1,()),())
theorem Jg (a0:LI)(a1:Int):Io.run tt LC dr CW gt Tryz.f134 (((),()),(a0,a1,()),())=Ej a0 a1:=by kernel_rfl
theorem C6:HcOk prog 134 (ah gt sD):=by
 refine bW (cs:=BF) HcsOk.nil (lp:=CW) (fn:=Tryz.f134) gt (.done (by kernel_rfl)) sD ?_
 rintro ⟨⟨⟨⟩,⟨⟩⟩,⟨⟨(b:LI),(p:Int),⟨⟩⟩,⟨⟩⟩⟩ out hw ho
 rw[← ho]
 exact Jg b p
abbrev cS:Io:=⟨[.ptr 0 0,dI],[Qz],[],[Sf,dI],none⟩
def gW (d:cS.In):Tr cS.Res:=
 .ite (cV d.2.1.1 d.2.1.2.1&&(decide ((0:Int)≤d.1.2.1)&&decide (d.1.2.1≤(8:Int)))) (.ret (.ret (((bX d.2.1.1 d.2.1.2.1 d.1.2.1.toNat).1,((bX d.2.1.1 d.2.1.2.1 d.1.2.1.toNat).2.2,())),((d.2.1.1,((bX d.2.1.1 d.2.1.2.1 d.1.2.1.toNat).2.1,())),())))) .no
abbrev uh:List (Nat×Hc):=[(134,ah gt sD)]
def uC:Hd:=bA uh
abbrev cl:Lo:=⟨⟨(.one (.ptr 0 0)::.one hI::bz (.one (.hol (.int u64))::ai (bz (.one (.hol (.sl 5 (Ty.int u8)))::.one hI::.one hI::ai (bh []))))),[some [.hol (.sl 5 (Ty.int u8)),hI]]⟩,[(.exit 0,⟨(.one (.ptr 0 0)::.one hI::bz (.one (.hol (.int u64))::.any::ai (ai (cy [])))),[some [.hol (.sl 5 (Ty.int u8)),hI]]⟩)]⟩
def gm (d:cl.st.den):Tr (ao cl.xs):=
 .ite (decide (d.1.2.1=0)&&(decide (d.1.2.2.2.2.1=0)&&(decide (d.1.2.2.2.1=(d.1.2.2.1.length:Int))&&decide (d.1.2.2.1.length≤8)))) (.ret (.ret ((),((d.1.1,(aV d.1.2.2.1,())),(d.2.1,()))))) .no
def kX:Lp:=bQ [(6,aG cl gm)]
def mD {R:Type}(h3 h4:Int)(h5:LI)(h6 h7:Int)(h8:LI)(h9:Int)(next:Int→Int→LI→Int→Int→LI→Int→Option R)(out:ao cl.xs→Option R):Option R:=bif decide (h7<h6) then bif decide (0≤h7)&&decide (h7<(↑h5.length:Int)) then next (h3) (ki u64 (fx u64 h4 8) (u64.wrap (h5.getD h7.toNat 0))) (h5) (h6) (i64.wrap (h7+1)) (h8) (h9) else none else out (.ret ((),((h3,(h4,())),((h8,(h9,())),()))))
def kU (n:Nat)(h3 h4:Int)(h5:LI)(h6 h7:Int)(h8:LI)(h9:Int):Option (ao cl.xs):=fV tt uC dr kX 1 Tryz.f132 (b9 Tryz.f132 0) n (cl.st.mk' ((h3,(h4,(h5,(h6,(h7,()))))),((h8,(h9,())),()))) (bH cl.xs)
theorem AB (n:Nat)(h3 h4:Int)(h5:LI)(h6 h7:Int)(h8:LI)(h9:Int):kU (n+1) h3 h4 h5 h6 h7 h8 h9=mD h3 h4 h5 h6 h7 h8 h9 (kU n) some:=by kernel_rfl
theorem PE {v c:Int}(h0:0≤v)(h1:v<72057594037927936)(h2:0≤c)(h3:c≤255):ki .u64 (fx .u64 v 8) (u64.wrap c)=v*256+c:=by
 have e1:fx .u64 v 8=v*256:=by
  show IntKind.wrap .u64 (v*2 ^ 8)=_
  rw[show v*2 ^ 8=v*256 by omega]
  exact bY (k:=.u64) (by simp[bt,IntKind.min,IntKind.max,IntKind.signed,IntKind.bits];omega)
 have e0:u64.wrap c=c:=bY (k:=.u64) (by simp[bt,IntKind.min,IntKind.max,IntKind.signed,IntKind.bits];omega)
 rw[e1,e0]
 obtain ⟨v,rfl⟩:=aA h0
 obtain ⟨c,rfl⟩:=aA h2
 have e4:=Nat.two_pow_add_eq_or_of_lt (show c<2 ^ 8 by omega) v
 show IntKind.wrap .u64 ((BitVec.ofInt 64 ((v:Int)*256) ||| BitVec.ofInt 64 (c:Int)).toNat:Int)=_
 have e2:(BitVec.ofInt 64 (c:Int)).toNat=c:=by rw[BitVec.toNat_ofInt];omega
 have e3:(BitVec.ofInt 64 ((v:Int)*256)).toNat=2 ^ 8*v:=by rw[BitVec.toNat_ofInt];omega
 rw[BitVec.toNat_or,e2,e3,← e4]
 refine (bY (k:=.u64) ?_).trans ?_
 ·simp[bt,IntKind.min,IntKind.max,IntKind.signed,IntKind.bits];omega
 ·omega
theorem AD (l:LI)(c:Int):aV (l++[c])=aV l*256+c:=by simp[aV]
theorem uq:∀(l:LI) (v:Int),(∀c∈l,0≤c∧c≤255)→0≤v→0≤l.foldl (fun v c=>v*256+c) v∧l.foldl (fun v c=>v*256+c) v<(v+1)*256 ^ l.length
 |[],v,_,h0=>⟨h0,by simp;omega⟩
 |c::l,v,h,h0=>by
  obtain ⟨h3,h4⟩:=h c (by simp)
  obtain ⟨h1,h2⟩:=uq l (v*256+c) (fun d hd=>h d (by simp[hd])) (by omega)
  refine ⟨h1,Int.lt_of_lt_of_le h2 ?_⟩
  rw[zN,Int.pow_succ,Int.mul_comm (256 ^ l.length) 256,← Int.mul_assoc]
  exact Int.mul_le_mul_of_nonneg_right (by omega) (Int.le_of_lt (Int.pow_pos (by decide)))
theorem rR (l:LI)(h:∀c∈l,0≤c∧c≤255):0≤aV l∧aV l<256 ^ l.length:=by
 have:=uq l 0 h (Int.le_refl _)
 simpa [aV] using this
theorem zo (n:Int)(l b:LI)(p:Int)(hl:l.length≤8)(hr:∀c∈l,0≤c∧c≤255):∀(k i:Nat),l.length<i+k→i≤l.length→
  kU k n (aV (l.take i)) l (l.length:Int) i b p=some (.ret ((),((n,(aV l,())),((b,(p,())),())))):=by
 intro k
 induction k with
 |zero=>intro i h;omega
 |succ k ih=>
  intro i h1 h2
  rw[AB]
  unfold mD
  by_cases hi:i<l.length
  ·have hc:=hr l[i] (List.getElem_mem hi)
   have hb:=rR (l.take i) fun c hc=>hr c (List.mem_of_mem_take hc)
   have hlt:(256:Int) ^ (l.take i).length≤72057594037927936:=by
    rw[List.length_take,show min i l.length=i by omega]
    have hi7:i≤7:=by omega
    match i,hi7 with
    |0,_=>decide
    |1,_=>decide
    |2,_=>decide
    |3,_=>decide
    |4,_=>decide
    |5,_=>decide
    |6,_=>decide
    |7,_=>decide
   have e1:List.getD l (i:Int).toNat 0=l[i]:=by simp only[zG,aC hi]
   rw[aa (by simpa using hi),aa (by simpa using hi),e1,PE hb.1 (by omega) hc.1 hc.2,← AD,← List.take_succ_eq_append_getElem hi,aM hi (by rw[bg];omega),ih (i+1) (by omega) (by omega)]
  ·rw[ae (by simp;omega),List.take_of_length_le (by omega)]
def pj (a0:Int)(a1:LI)(a2:Int):Option cS.Res:=bif decide (i64.wrap ((↑a1.length:Int) - a2)<a0) then oR ((0,1,()),(a1,a2,()),()) else bif decide (0≤a2)&&(decide (a2≤i64.wrap (a2+a0))&&decide (i64.wrap (a2+a0)≤(↑a1.length:Int))) then (gm ((a0,(0,(List.drop a2.toNat (List.take (i64.wrap (a2+a0)).toNat a1),((↑(List.drop a2.toNat (List.take (i64.wrap (a2+a0)).toNat a1)).length:Int),(0,()))))),((a1,(a2,())),()))).run fun y=>match y with | .ret ((),((x21,x22,()),(x23,x24,()),()))=>(oR ((x22,0,()),(x23,i64.wrap (x24+x21),()),())) else none
theorem Dk (a0:Int)(a1:LI)(a2:Int):Io.run tt uC dr kX cS Tryz.f132 (((),a0,()),(a1,a2,()),())=pj a0 a1 a2:=by kernel_rfl
theorem dY {b:LI}(h:Ty.wf bs b):∀c∈b,0≤c∧c≤255:=fun c hc=>by
 have:=h.2 c hc
 simpa [Ty.wf,bt,IntKind.min,IntKind.max,IntKind.signed,IntKind.bits] using this
theorem py:HcsOk prog uh:=.cons C6 .nil
theorem la:HcOk prog 132 (ah cS gW):=by
 refine bW py (lp:=kX) (fn:=Tryz.f132) cS (.step (h0:=aG cl gm) (by kernel_rfl) (gi py (lp:=kX) (fn:=Tryz.f132) (.done (by kernel_rfl)) cl gm ?_) (.done (by kernel_rfl))) gW ?_
 ·rintro ⟨⟨(n:Int),(v:Int),(l:LI),(m:Int),(i:Int),⟨⟩⟩,⟨⟨(b:LI),(p:Int),⟨⟩⟩,⟨⟩⟩⟩ y hw hy
  obtain ⟨hg,hy⟩:=Tr.guard hy
  simp only[zA,zB] at hg
  obtain ⟨rfl,rfl,rfl,h4⟩:=hg
  refine ⟨l.length+1,(zo n l b p h4 (dY hw.1.2.2.1) _ 0 (by omega) (by omega)).trans ?_⟩
  rw[← hy];rfl
 ·rintro ⟨⟨⟨⟩,(n:Int),⟨⟩⟩,⟨⟨(b:LI),(p:Int),⟨⟩⟩,⟨⟩⟩⟩ out hw ho
  obtain ⟨hg,ho⟩:=Tr.guard ho
  simp only[cV,zA,zB] at hg
  obtain ⟨⟨h1,h2,h3⟩,h4,h5⟩:=hg
  have h1:b.length≤4294960000:=h1
  have h2:(0:Int)≤p:=h2
  have h3:p≤(b.length:Int):=h3
  have h4:(0:Int)≤n:=h4
  have h5:n≤(8:Int):=h5
  cases ho
  refine (Dk n b p).trans ?_
  show _=oR (((bX b p n.toNat).1,((bX b p n.toNat).2.2,())),((b,((bX b p n.toNat).2.1,())),()))
  unfold pj
  rw[af (n:=(b.length:Int) - p) (by omega) (by omega),af (n:=p+n) (by omega) (by omega)]
  unfold bX
  by_cases hl:(b.length:Int) - p<n
  ·rw[aa (by simpa using hl),if_pos (by omega)]
  ·have e0:List.drop p.toNat (List.take (p+n).toNat b)=(b.drop p.toNat).take n.toNat:=by rw[List.drop_take,show (p+n).toNat - p.toNat=n.toNat by omega]
   rw[ae (by simpa using hl),if_neg (by omega),aa (by simp;omega),e0]
   have hl8:((b.drop p.toNat).take n.toNat).length≤8:=by simp;omega
   have e1:gm ((n,(0,((b.drop p.toNat).take n.toNat,((((b.drop p.toNat).take n.toNat).length:Int),(0,()))))),((b,(p,())),()))=.ite true (.ret (.ret ((),((n,(aV ((b.drop p.toNat).take n.toNat),())),((b,(p,())),()))))) .no:=
    congrArg (fun c=>Tr.ite c _ _) (show (decide ((0:Int)=0)&&(decide ((0:Int)=0)&&(decide ((((b.drop p.toNat).take n.toNat).length:Int)=(((b.drop p.toNat).take n.toNat).length:Int))&&decide (((b.drop p.toNat).take n.toNat).length≤8))))=true by simp;omega)
   rw[e1]
   simp only[Tr.run,cond_true]
   rw[af (n:=p+n) (by omega) (by omega),show ((n.toNat:Nat):Int)=n by omega]
abbrev kI:Io:=⟨[.ptr 0 0],[Qz],[],[SI,dI],none⟩
def yw (d:kI.In):Tr kI.Res:=
 .ite (cV d.2.1.1 d.2.1.2.1) (.ret (.ret ((i16.wrap (bX d.2.1.1 d.2.1.2.1 2).1,((bX d.2.1.1 d.2.1.2.1 2).2.2,())),((d.2.1.1,((bX d.2.1.1 d.2.1.2.1 2).2.1,())),())))) .no
abbrev Gu:List (Nat×Hc):=[(132,ah cS gW)]
def ON:Hd:=bA Gu
def Hs:Lp:=bQ []
def wN (a0:LI)(a1:Int):Option kI.Res:=bif cV a0 a1&&(decide (0≤2)&&decide (2≤8)) then oR ((i16.wrap (bX a0 a1 (Int.toNat 2)).1,(bX a0 a1 (Int.toNat 2)).2.2,()),(a0,(bX a0 a1 (Int.toNat 2)).2.1,()),()) else none
theorem Ng (a0:LI)(a1:Int):Io.run tt ON dr Hs kI Tryz.f107 (((),()),(a0,a1,()),())=wN a0 a1:=by kernel_rfl
theorem Pp:HcOk prog 107 (ah kI yw):=by
 refine bW (cs:=Gu) (.cons la .nil) (lp:=Hs) (fn:=Tryz.f107) kI (.done (by kernel_rfl)) yw ?_
 rintro ⟨⟨⟨⟩,⟨⟩⟩,⟨⟨(b:LI),(p:Int),⟨⟩⟩,⟨⟩⟩⟩ out hw ho
 obtain ⟨hg,ho⟩:=Tr.guard ho
 have hg:cV b p=true:=hg
 cases ho
 refine (Ng b p).trans ?_
 unfold wN
 rw[aa (by simp[hg])]
 rfl
abbrev jk:Io:=⟨[.ptr 0 0],[Qz],[],[Iw,dI],none⟩
def tr (d:jk.In):Tr jk.Res:=
 .ite (cV d.2.1.1 d.2.1.2.1) (.ret (.ret ((i32.wrap (bX d.2.1.1 d.2.1.2.1 4).1,((bX d.2.1.1 d.2.1.2.1 4).2.2,())),((d.2.1.1,((bX d.2.1.1 d.2.1.2.1 4).2.1,())),())))) .no
abbrev Gv:List (Nat×Hc):=[(132,ah cS gW)]
def OO:Hd:=bA Gv
def Ht:Lp:=bQ []
def wO (a0:LI)(a1:Int):Option jk.Res:=bif cV a0 a1&&(decide (0≤4)&&decide (4≤8)) then oR ((i32.wrap (bX a0 a1 (Int.toNat 4)).1,(bX a0 a1 (Int.toNat 4)).2.2,()),(a0,(bX a0 a1 (Int.toNat 4)).2.1,()),()) else none
theorem Nh (a0:LI)(a1:Int):Io.run tt OO dr Ht jk Tryz.f99 (((),()),(a0,a1,()),())=wO a0 a1:=by kernel_rfl
theorem HU:HcOk prog 99 (ah jk tr):=by
 refine bW (cs:=Gv) (.cons la .nil) (lp:=Ht) (fn:=Tryz.f99) jk (.done (by kernel_rfl)) tr ?_
 rintro ⟨⟨⟨⟩,⟨⟩⟩,⟨⟨(b:LI),(p:Int),⟨⟩⟩,⟨⟩⟩⟩ out hw ho
 obtain ⟨hg,ho⟩:=Tr.guard ho
 have hg:cV b p=true:=hg
 cases ho
 refine (Nh b p).trans ?_
 unfold wO
 rw[aa (by simp[hg])]
 rfl
abbrev kJ:Io:=⟨[.ptr 0 0],[Qz],[],[gL,dI],none⟩
def yx (d:kJ.In):Tr kJ.Res:=
 .ite (cV d.2.1.1 d.2.1.2.1) (.ret (.ret ((i64.wrap (bX d.2.1.1 d.2.1.2.1 8).1,((bX d.2.1.1 d.2.1.2.1 8).2.2,())),((d.2.1.1,((bX d.2.1.1 d.2.1.2.1 8).2.1,())),())))) .no
abbrev Gw:List (Nat×Hc):=[(132,ah cS gW)]
def OP:Hd:=bA Gw
def Hu:Lp:=bQ []
def wP (a0:LI)(a1:Int):Option kJ.Res:=bif cV a0 a1&&(decide (0≤8)&&decide (8≤8)) then oR ((i64.wrap (bX a0 a1 (Int.toNat 8)).1,(bX a0 a1 (Int.toNat 8)).2.2,()),(a0,(bX a0 a1 (Int.toNat 8)).2.1,()),()) else none
theorem Ni (a0:LI)(a1:Int):Io.run tt OP dr Hu kJ Tryz.f104 (((),()),(a0,a1,()),())=wP a0 a1:=by kernel_rfl
theorem Pq:HcOk prog 104 (ah kJ yx):=by
 refine bW (cs:=Gw) (.cons la .nil) (lp:=Hu) (fn:=Tryz.f104) kJ (.done (by kernel_rfl)) yx ?_
 rintro ⟨⟨⟨⟩,⟨⟩⟩,⟨⟨(b:LI),(p:Int),⟨⟩⟩,⟨⟩⟩⟩ out hw ho
 obtain ⟨hg,ho⟩:=Tr.guard ho
 have hg:cV b p=true:=hg
 cases ho
 refine (Ni b p).trans ?_
 unfold wP
 rw[aa (by simp[hg])]
 rfl
abbrev iB:Io:=⟨[.ptr 0 0,dI],[Qz],[],[dI],none⟩
def sE (d:iB.In):Tr iB.Res:=
 .ite (cV d.2.1.1 d.2.1.2.1) (.ret (.ret (((oO d.2.1.1 d.2.1.2.1 d.1.2.1).2,()),((d.2.1.1,((oO d.2.1.1 d.2.1.2.1 d.1.2.1).1,())),())))) .no
abbrev BG:List (Nat×Hc):=[(134,ah gt sD)]
def LD:Hd:=bA BG
def CX:Lp:=bQ []
def tP (a0:Int)(a1:LI)(a2:Int):Option iB.Res:=bif decide (a0<0) then oR ((3,()),(a1,a2,()),()) else bif decide (i64.wrap ((↑a1.length:Int) - a2)<a0) then oR ((1,()),(a1,a2,()),()) else oR ((0,()),(a1,i64.wrap (a2+a0),()),())
theorem Jh (a0:Int)(a1:LI)(a2:Int):Io.run tt LD dr CX iB Tryz.f105 (((),a0,()),(a1,a2,()),())=tP a0 a1 a2:=by kernel_rfl
theorem MD:HcOk prog 105 (ah iB sE):=by
 refine bW (cs:=BG) (.cons C6 .nil) (lp:=CX) (fn:=Tryz.f105) iB (.done (by kernel_rfl)) sE ?_
 rintro ⟨⟨⟨⟩,(n:Int),⟨⟩⟩,⟨⟨(b:LI),(p:Int),⟨⟩⟩,⟨⟩⟩⟩ out hw ho
 obtain ⟨hg,ho⟩:=Tr.guard ho
 simp only[cV,zA,zB] at hg
 obtain ⟨h1,h2,h3⟩:=hg
 have h1:b.length≤4294960000:=h1
 have h2:(0:Int)≤p:=h2
 have h3:p≤(b.length:Int):=h3
 cases ho
 refine (Jh n b p).trans ?_
 unfold tP oO
 rw[af (n:=(b.length:Int) - p) (by omega) (by omega)]
 by_cases h4:n<0
 ·rw[aa (by simpa using h4),if_pos h4]
 ·rw[ae (by simpa using h4),if_neg h4]
  by_cases h5:(b.length:Int) - p<n
  ·rw[aa (by simpa using h5),if_pos h5]
  ·rw[ae (by simpa using h5),if_neg h5,af (n:=p+n) (by omega) (by omega)]
abbrev jl:Io:=⟨[dL],[],[Qz],[.ptr 0 0],none⟩
def yy (d:jl.In):Tr jl.Res:=.ite (decide (d.1.1.length≤4294967296)) (.ret (.ret (((),()),((d.1.1,(0,())),())))) .no
abbrev Gx:List (Nat×Hc):=[(47,ah d7 mJ)]
def OQ:Hd:=bA Gx
def Hv:Lp:=bQ []
def Ik (a0:LI):Option jl.Res:=bif decide (a0.length≤4294967296) then oR (((),()),(a0,0,()),()) else none
theorem Nj (a0:LI):Io.run tt OQ dr Hv jl Tryz.f98 ((a0,()),())=Ik a0:=by kernel_rfl
theorem HV:HcOk prog 98 (ah jl yy):=by
 refine bW (cs:=Gx) (.cons pW .nil) (lp:=Hv) (fn:=Tryz.f98) jl (.done (by kernel_rfl)) yy ?_
 rintro ⟨⟨(b:LI),⟨⟩⟩,⟨⟩⟩ out hw ho
 obtain ⟨hg,ho⟩:=Tr.guard ho
 cases ho
 exact (Nj b).trans (aa hg _ _)
abbrev f3:Io:=⟨[gL,dI],[],[],[dO],none⟩
def tp (d:f3.In):Tr f3.Res:=.ite (decide ((0:Int)≤d.1.2.1)&&decide (d.1.2.1≤(8:Int))) (.ret (.ret ((az d.1.1 d.1.2.1.toNat,()),()))) .no
abbrev mK:List (Nat×Hc):=[]
def qJ:Hd:=bA mK
abbrev cG:Lo:=⟨⟨(.one hI::.one hI::.any::bh (.one (.onl 5 (Ty.int u8) 11)::.one hI::.any::ai (ai (bz (bh []))))),[]⟩,[(.exit 0,⟨(.any::.one hI::.any::bh (.one (.onl 5 (Ty.int u8) 11)::ai (ai (cy [])))),[]⟩)]⟩
abbrev ck:Lo:=⟨⟨(.any::bz (.one (.onl 5 (Ty.int u8) 11)::bh (.one (.onl 5 (Ty.int u8) 17)::.one hI::ai (ai (bz []))))),[]⟩,[(.exit 2,⟨(cy (.one (.onl 5 (Ty.int u8) 17)::.any::ai (ai (bz [])))),[]⟩)]⟩
def fu (v:Int):Nat→LI
 |0=>[]
 |n+1=>v % 256::fu (v / 256) n
def ic (d:cG.st.den):Tr (ao cG.xs):=
 .ite (decide (d.1.2.2.1.length=0)&&(decide (d.1.2.2.2.1=0)&&(decide ((0:Int)≤d.1.2.1)&&decide (d.1.2.1≤(8:Int))))) (.ret (.ret ((),((d.1.2.1,(fu d.1.1 d.1.2.1.toNat,())),())))) .no
def fk (d:ck.st.den):Tr (ao ck.xs):=
 .ite (decide (d.1.2.1.length=0)&&(decide (d.1.2.2.1=(d.1.1.length:Int) - 1)&&decide (d.1.1.length≤8))) (.ret (.ret ((),((d.1.1.reverse,()),())))) .no
def gY:Lp:=bQ [(4,aG cG ic),(13,aG ck fk)]
def nz {R:Type}(h2 h3:Int)(h4:LI)(h5:Int)(next:Int→Int→LI→Int→Option R)(out:ao cG.xs→Option R):Option R:=bif decide (h5<h3) then bif decide (i64.wrap (h2.tmod 256)<0) then bif decide (h4.length+[u8.wrap (i64.wrap (i64.wrap (h2.tmod 256)+256))].length≤4294967296) then next (i64.wrap ((i64.wrap (h2 - i64.wrap (i64.wrap (h2.tmod 256)+256))).tdiv 256)) (h3) (h4++[u8.wrap (i64.wrap (i64.wrap (h2.tmod 256)+256))]) (i64.wrap (h5+1)) else none else bif decide (h4.length+[u8.wrap (i64.wrap (h2.tmod 256))].length≤4294967296) then next (i64.wrap ((i64.wrap (h2 - i64.wrap (h2.tmod 256))).tdiv 256)) (h3) (h4++[u8.wrap (i64.wrap (h2.tmod 256))]) (i64.wrap (h5+1)) else none else out (.ret ((),((h3,(h4,())),())))
def ju (n:Nat)(h2 h3:Int)(h4:LI)(h5:Int):Option (ao cG.xs):=fV tt qJ dr gY 0 Tryz.f85 (b9 Tryz.f85 0) n (cG.st.mk' ((h2,(h3,(h4,(h5,())))),())) (bH cG.xs)
theorem Do (n:Nat)(h2 h3:Int)(h4:LI)(h5:Int):ju (n+1) h2 h3 h4 h5=nz h2 h3 h4 h5 (ju n) some:=by kernel_rfl
def iV {R:Type}(h18 h19:LI)(h20:Int)(next:LI→LI→Int→Option R)(out:ao ck.xs→Option R):Option R:=bif decide (0≤h20) then bif decide (0≤h20)&&decide (h20<(↑h18.length:Int)) then bif decide (h19.length+[h18.getD h20.toNat 0].length≤4294967296) then next (h18) (h19++[h18.getD h20.toNat 0]) (i64.wrap (h20 - 1)) else none else none else out (.ret ((),((h19,()),())))
def kT (n:Nat)(h18 h19:LI)(h20:Int):Option (ao ck.xs):=fV tt qJ dr gY 0 Tryz.f85 (b9 Tryz.f85 1) n (ck.st.mk' ((h18,(h19,(h20,()))),())) (bH ck.xs)
theorem pZ (n:Nat)(h18 h19:LI)(h20:Int):kT (n+1) h18 h19 h20=iV h18 h19 h20 (kT n) some:=by kernel_rfl
theorem N3 (v:Int):(v.tmod 256<0→v.tmod 256+256=v % 256)∧(¬ v.tmod 256<0→v.tmod 256=v % 256):=by
 by_cases h:0≤v
 ·rw[Int.tmod_eq_emod_of_nonneg h];omega
 ·obtain ⟨u,rfl⟩:∃u,v = -u:=⟨-v,by omega⟩
  rw[Int.neg_tmod,Int.tmod_eq_emod_of_nonneg (by omega)];omega
theorem N2 (v:Int):(v - v % 256).tdiv 256=v / 256:=by
 have e:v - v % 256=v / 256*256:=by omega
 rw[e,Int.mul_tdiv_cancel _ (by decide)]
theorem Qm {n:Int}(h0:0≤n)(h1:n<256):u8.wrap n=n:=bY (by simp[bt,IntKind.min,IntKind.max,IntKind.signed,IntKind.bits];omega)
theorem v5 {m:Nat}(hm:m≤8):∀(k j:Nat) (v:Int) (acc:LI),m<j+k→j≤m→acc.length=j→-9223372036854775808≤v→v≤9223372036854775807→
  ju k v (m:Int) acc j=some (.ret ((),(((m:Int),(acc++fu v (m - j),())),()))):=by
 intro k
 induction k with
 |zero=>intro j v acc h;omega
 |succ k ih=>
  intro j v acc h1 h2 h3 h4 h5
  rw[Do]
  unfold nz
  by_cases hj:j<m
  ·refine bT (decide_eq_true (show (j:Int)<(m:Int) by omega)) ?_
   have ht:=N3 v
   have hd:∀x:Int,x=v % 256→ju k (i64.wrap ((i64.wrap (v - x)).tdiv 256)) (m:Int) (acc++[u8.wrap x]) (i64.wrap ((j:Int)+1))=some (.ret ((),(((m:Int),(acc++fu v (m - j),())),()))):=by
    rintro x rfl
    rw[af (n:=v - v % 256) (by omega) (by omega),N2,af (n:=v / 256) (by omega) (by omega),af (n:=(j:Int)+1) (by omega) (by omega),Qm (n:=v % 256) (by omega) (by omega)]
    refine (ih (j+1) (v / 256) (acc++[v % 256]) (by omega) (by omega) (by simp[h3]) (by omega) (by omega)).trans ?_
    obtain ⟨q,hq⟩:∃q,m - j=q+1:=⟨m - j - 1,by omega⟩
    rw[hq,show m - (j+1)=q by omega,fu]
    simp
   have hr : -256≤v.tmod 256∧v.tmod 256<256:=by
    by_cases h:v.tmod 256<0
    ·have:=ht.1 h;omega
    ·have:=ht.2 h;omega
   rw[af (n:=v.tmod 256) (by omega) (by omega),af (n:=v.tmod 256+256) (by omega) (by omega)]
   by_cases hn:v.tmod 256<0
   ·refine bT (by simpa using hn) ?_
    refine bT (decide_eq_true (show acc.length+1≤4294967296 by omega)) ?_
    exact hd _ (ht.1 hn)
   ·refine bF (by simpa using hn) ?_
    refine bT (decide_eq_true (show acc.length+1≤4294967296 by omega)) ?_
    exact hd _ (ht.2 hn)
  ·refine bF (decide_eq_false (show ¬(j:Int)<(m:Int) by omega)) ?_
   rw[show m - j=0 by omega,fu]
   simp
theorem uT {low:LI}(hl:low.length≤8):∀(j:Nat) (acc:LI),j≤low.length→acc.length+j≤8→
  kT (j+1) low acc ((j:Int) - 1)=some (.ret ((),((acc++(low.take j).reverse,()),()))):=by
 intro j
 induction j with
 |zero=>
  intro acc h1 h2
  rw[pZ]
  unfold iV
  refine bF (by decide) ?_
  simp
 |succ j ih=>
  intro acc h1 h2
  rw[pZ]
  unfold iV
  rw[show ((j+1:Nat):Int) - 1=(j:Int) by omega]
  have hg:List.getD low j (0:Int)=low[j]'(by omega):=aC (by omega)
  refine bT (by simp) ?_
  refine bT (by simp;omega) ?_
  simp only[zG,hg]
  refine bT (decide_eq_true (show acc.length+1≤4294967296 by omega)) ?_
  rw[af (n:=(j:Int) - 1) (by omega) (by omega)]
  refine (ih (acc++[low[j]'(by omega)]) (by omega) (by simp;omega)).trans ?_
  rw[List.take_succ_eq_append_getElem (by omega),List.reverse_append,List.reverse_singleton,zK]
theorem JL (v:Int):∀n,(fu v n).length=n:=by
 intro n
 induction n generalizing v with
 |zero=>rfl
 |succ n ih=>rw[fu,zN,ih]
theorem vy:∀(n:Nat) (v:Int),fu v (n+1)=fu v n++[(v / 256 ^ n) % 256]
 |0,v=>by simp[fu]
 |n+1,v=>by
  rw[fu,vy n (v / 256),fu]
  have e:v / 256 / 256 ^ n=v / 256 ^ (n+1):=by
   rw[Int.pow_succ,Int.mul_comm,Int.ediv_ediv_of_nonneg (by decide)]
  rw[e];rfl
theorem ya (v:Int):∀n,(fu v n).reverse=az v n
 |0=>rfl
 |n+1=>by rw[vy,List.reverse_append,ya v n];rfl
def rp (a0 a1:Int):Option f3.Res:=(ic ((a0,(a1,([],(0,())))),())).run fun y=>match y with | .ret ((),((x16,x17,()),()))=>((fk ((x17,([],(i64.wrap (x16 - 1),()))),())).run fun y=>match y with | .ret ((),((x25,()),()))=>(oR ((x25,()),())))
theorem E7 (a0 a1:Int):Io.run tt qJ dr gY f3 Tryz.f85 ((a0,a1,()),())=rp a0 a1:=by kernel_rfl
theorem IW:HcOk prog 85 (ah f3 tp):=by
 refine bW (cs:=mK) HcsOk.nil (lp:=gY) (fn:=Tryz.f85) f3 (.step (h0:=aG cG ic) (by kernel_rfl) (gi (cs:=mK) HcsOk.nil (lp:=gY) (fn:=Tryz.f85) (.done (by kernel_rfl)) cG ic ?_) (.step (h0:=aG ck fk) (by kernel_rfl) (gi (cs:=mK) HcsOk.nil (lp:=gY) (fn:=Tryz.f85) (.done (by kernel_rfl)) ck fk ?_) (.done (by kernel_rfl)))) tp ?_
 ·rintro ⟨⟨(v:Int),(m:Int),(acc:LI),(i:Int),⟨⟩⟩,⟨⟩⟩ y hw hy
  obtain ⟨hg,hy⟩:=Tr.guard hy
  simp only[zA,zB] at hg
  obtain ⟨h1,h2,h3,h4⟩:=hg
  have h1:acc=[]:=zF h1
  have h2:i=0:=h2
  have h3:(0:Int)≤m:=h3
  have h4:m≤(8:Int):=h4
  subst h1
  subst h2
  obtain ⟨m,rfl⟩:=aA h3
  have hv:bt .i64 v:=hw.1.1
  simp only[bt,IntKind.min,IntKind.max,IntKind.signed,IntKind.bits] at hv
  simp at hv
  refine ⟨m+1,(v5 (m:=m) (by omega) (m+1) 0 v [] (by omega) (by omega) rfl (by omega) (by omega)).trans ?_⟩
  rw[← hy];rfl
 ·rintro ⟨⟨(low:LI),(acc:LI),(i:Int),⟨⟩⟩,⟨⟩⟩ y hw hy
  obtain ⟨hg,hy⟩:=Tr.guard hy
  simp only[zA,zB] at hg
  obtain ⟨h1,h2,h3⟩:=hg
  have h1:acc=[]:=zF h1
  have h2:i=(low.length:Int) - 1:=h2
  have h3:low.length≤8:=h3
  subst h1
  subst h2
  refine ⟨low.length+1,(uT h3 low.length [] (by omega) (by simpa using h3)).trans ?_⟩
  rw[← hy,List.take_length];rfl
 ·rintro ⟨⟨(v:Int),(m:Int),⟨⟩⟩,⟨⟩⟩ out hw ho
  obtain ⟨hg,ho⟩:=Tr.guard ho
  simp only[zA,zB] at hg
  obtain ⟨h5,h6⟩:=hg
  have h5:(0:Int)≤m:=h5
  have h6:m≤(8:Int):=h6
  cases ho
  refine (E7 v m).trans ?_
  unfold rp
  have c1:(decide (([]:LI).length=0)&&(decide ((0:Int)=0)&&(decide ((0:Int)≤m)&&decide (m≤(8:Int)))))=true:=by simp;omega
  have e1:ic ((v,(m,([],(0,())))),())=.ite true (.ret (.ret ((),((m,(fu v m.toNat,())),())))) .no:=congrArg (fun c=>Tr.ite c _ _) c1
  rw[e1]
  show (fk ((fu v m.toNat,([],(i64.wrap (m - 1),()))),())).run _=_
  rw[af (n:=m - 1) (by omega) (by omega)]
  have c2:(decide (([]:LI).length=0)&&(decide (m - 1=((fu v m.toNat).length:Int) - 1)&&decide ((fu v m.toNat).length≤8)))=true:=by
   rw[JL];simp;omega
  have e2:fk ((fu v m.toNat,([],(m - 1,()))),())=.ite true (.ret (.ret ((),(((fu v m.toNat).reverse,()),())))) .no:=congrArg (fun c=>Tr.ite c _ _) c2
  rw[e2,ya]
  rfl
def co (l:LI):Int:=match l with
 |[]=>0
 |c::l=>l.foldl (fun v c=>v*256+c) (if 128≤c then c - 256 else c)
def am (b:LI)(at_ n:Int):Int×Bool:=if at_<0∨(b.length:Int)<at_∨(b.length:Int) - at_<n then (0,false) else (co ((b.drop at_.toNat).take n.toNat),true)
abbrev f4:Io:=⟨[dL,dI,dI],[],[],[gL,dB],none⟩
def tq (d:f4.In):Tr f4.Res:=.ite (decide ((0:Int)≤d.1.2.2.1)&&decide (d.1.2.2.1≤(8:Int))) (.ret (.ret (((am d.1.1 d.1.2.1 d.1.2.2.1).1,((am d.1.1 d.1.2.1 d.1.2.2.1).2,())),()))) .no
abbrev qD:List (Nat×Hc):=[]
def xC:Hd:=bA qD
abbrev cH:Lo:=⟨⟨(.one (.hol (.sl 5 (Ty.int u8)))::.one hI::.one hI::.any::bz (.one hI::.one hI::ai (ai (cy (bh []))))),[]⟩,[(.exit 0,⟨(cy (.one hI::.any::ai (ai (cy (bh []))))),[]⟩)]⟩
def ie (d:cH.st.den):Tr (ao cH.xs):=
 .ite (decide (d.1.2.2.2.1=0)&&(decide (d.1.2.2.2.2.1=0)&&((decide ((0:Int)≤d.1.2.1)&&decide (d.1.2.1+d.1.2.2.1≤(d.1.1.length:Int)))&&(decide ((0:Int)≤d.1.2.2.1)&&decide (d.1.2.2.1≤(8:Int)))))) (.ret (.ret ((),((co ((d.1.1.drop d.1.2.1.toNat).take d.1.2.2.1.toNat),()),())))) .no
def mU:Lp:=bQ [(6,aG cH ie)]
def nA {R:Type}(h3:LI)(h4 h5 h6 h7:Int)(next:LI→Int→Int→Int→Int→Option R)(out:ao cH.xs→Option R):Option R:=bif decide (h7<h5) then bif decide (0≤i64.wrap (h4+h7))&&decide (i64.wrap (h4+h7)<(↑h3.length:Int)) then bif h7 == 0 then bif decide (128≤i64.wrap (h3.getD (i64.wrap (h4+h7)).toNat 0)) then next (h3) (h4) (h5) (i64.wrap (i64.wrap (h6*256)+i64.wrap (i64.wrap (h3.getD (i64.wrap (h4+h7)).toNat 0) - 256))) (i64.wrap (h7+1)) else next (h3) (h4) (h5) (i64.wrap (i64.wrap (h6*256)+i64.wrap (h3.getD (i64.wrap (h4+h7)).toNat 0))) (i64.wrap (h7+1)) else next (h3) (h4) (h5) (i64.wrap (i64.wrap (h6*256)+i64.wrap (h3.getD (i64.wrap (h4+h7)).toNat 0))) (i64.wrap (h7+1)) else none else out (.ret ((),((h6,()),())))
def l6 (n:Nat)(h3:LI)(h4 h5 h6 h7:Int):Option (ao cH.xs):=fV tt xC dr mU 0 Tryz.f133 (b9 Tryz.f133 0) n (cH.st.mk' ((h3,(h4,(h5,(h6,(h7,()))))),())) (bH cH.xs)
theorem Dp (n:Nat)(h3:LI)(h4 h5 h6 h7:Int):l6 (n+1) h3 h4 h5 h6 h7=nA h3 h4 h5 h6 h7 (l6 n) some:=by kernel_rfl
theorem FG (l:LI)(c:Int):co (l++[c])=if l=[] then (if 128≤c then c - 256 else c) else co l*256+c:=by
 cases l with
 |nil=>simp[co]
 |cons x l=>simp[co,List.foldl_append]
theorem DI:∀(l:LI) (v B:Int),(∀c∈l,0≤c∧c<256)→-B≤v→v<B→-(B*256 ^ l.length)≤l.foldl (fun v c=>v*256+c) v∧l.foldl (fun v c=>v*256+c) v<B*256 ^ l.length
 |[],v,B,_,h1,h2=>by simp;omega
 |c::l,v,B,hc,h1,h2=>by
  have h:=hc c (by simp)
  have ih:=DI l (v*256+c) (B*256) (fun x hx=>hc x (by simp[hx])) (by omega) (by omega)
  have e:B*256*256 ^ l.length=B*256 ^ (c::l).length:=by rw[zN,Int.pow_succ,Int.mul_assoc,Int.mul_comm 256]
  rw[e] at ih
  exact ih
theorem NU {l:LI}(hc:∀c∈l,0≤c∧c<256)(hl:l.length≤7) : -36028797018963968≤co l∧co l<36028797018963968:=by
 cases l with
 |nil=>simp[co]
 |cons c l=>
  have h:=hc c (by simp)
  have h':=DI l (if 128≤c then c - 256 else c) 128 (fun x hx=>hc x (by simp[hx])) (by split <;> omega) (by split <;> omega)
  have hp:(256:Int) ^ l.length≤256 ^ 6:=by
   have:=Nat.pow_le_pow_right (show 0<256 by decide) (show l.length≤6 by simpa using hl)
   have e:((256 ^ l.length:Nat):Int)=(256:Int) ^ l.length:=by simp
   have e2:((256 ^ 6:Nat):Int)=(256:Int) ^ 6:=by simp
   omega
  have e6:(256:Int) ^ 6=281474976710656:=by decide
  show -36028797018963968≤l.foldl _ _∧l.foldl _ _<36028797018963968
  omega
theorem CG {b:LI}(hb:∀c∈b,0≤c∧c<256)(hl:b.length≤maxLen){a m:Nat}(h1:a+m≤b.length)(h2:m≤8):∀(k j:Nat),m<j+k→j≤m→
  l6 k b (a:Int) (m:Int) (co ((b.drop a).take j)) j=some (.ret ((),((co ((b.drop a).take m),()),()))):=by
 intro k
 induction k with
 |zero=>intro j h;omega
 |succ k ih=>
  intro j h3 h4
  rw[Dp]
  unfold nA
  by_cases hj:j<m
  ·have hm:=bg
   rw[hm] at hl
   refine bT (decide_eq_true (show (j:Int)<(m:Int) by omega)) ?_
   have ej:((a:Int)+(j:Int))=((a+j:Nat):Int):=by omega
   have hget:List.getD b (a+j) (0:Int)=b[a+j]'(by omega):=aC (by omega)
   have hc:=hb (b[a+j]'(by omega)) (List.getElem_mem _)
   have e:(b.drop a).take (j+1)=(b.drop a).take j++[b[a+j]'(by omega)]:=by
    rw[List.take_succ_eq_append_getElem (by simp;omega)];simp
   have hs:=NU (l:=(b.drop a).take j) (fun c hc=>hb c (List.mem_of_mem_drop (List.mem_of_mem_take hc))) (by simp;omega)
   have he:=FG ((b.drop a).take j) (b[a+j]'(by omega))
   rw[← e] at he
   rw[ej,af (n:=((a+j:Nat):Int)) (by omega) (by omega)]
   refine bT (by simp;omega) ?_
   simp only[zG,hget]
   have ih':=ih (j+1) (by omega) (by omega)
   rw[he] at ih'
   have hv0:j=0→co ((b.drop a).take j)=0:=by rintro rfl;simp[co]
   have ht:(b.drop a).take j=[]↔j=0:=by
    constructor
    ·intro h
     have:=congrArg List.length h
     simp at this
     omega
    ·rintro rfl;simp
   generalize b[a+j]'(by omega)=c at hc ih' ⊢
   generalize co ((b.drop a).take j)=v at hs ih' hv0 ⊢
   rw[af (n:=c) (by omega) (by omega),af (n:=v*256) (by omega) (by omega),af (n:=(j:Int)+1) (by omega) (by omega),af (n:=v*256+c) (by omega) (by omega),af (n:=c - 256) (by omega) (by omega)]
   by_cases h0:j=0
   ·have hv:=hv0 h0
    rw[if_pos (ht.2 h0)] at ih'
    refine bT (by simp[h0]) ?_
    by_cases h128:128≤c
    ·rw[if_pos h128] at ih'
     refine bT (by simpa using h128) ?_
     rw[show v*256+(c - 256)=c - 256 by omega,af (n:=c - 256) (by omega) (by omega)]
     exact ih'
    ·rw[if_neg h128] at ih'
     refine bF (by simpa using h128) ?_
     rw[show v*256+c=c by omega]
     exact ih'
   ·rw[if_neg (fun h=>h0 (ht.1 h))] at ih'
    refine bF (by simpa using h0) ?_
    exact ih'
  ·refine bF (by simpa using hj) ?_
   rw[show j=m by omega]
def rq (a0:LI)(a1 a2:Int):Option f4.Res:=bif decide (a1<0) then oR ((0,false,()),()) else bif decide ((↑a0.length:Int)<a1) then oR ((0,false,()),()) else bif decide (i64.wrap ((↑a0.length:Int) - a1)<a2) then oR ((0,false,()),()) else (ie ((a0,(a1,(a2,(0,(0,()))))),())).run fun y=>match y with | .ret ((),((x24,()),()))=>(oR ((x24,true,()),()))
theorem E8 (a0:LI)(a1 a2:Int):Io.run tt xC dr mU f4 Tryz.f133 ((a0,a1,a2,()),())=rq a0 a1 a2:=by kernel_rfl
theorem IX:HcOk prog 133 (ah f4 tq):=by
 refine bW (cs:=qD) HcsOk.nil (lp:=mU) (fn:=Tryz.f133) f4 (.step (h0:=aG cH ie) (by kernel_rfl) (gi (cs:=qD) HcsOk.nil (lp:=mU) (fn:=Tryz.f133) (.done (by kernel_rfl)) cH ie ?_) (.done (by kernel_rfl))) tq ?_
 ·rintro ⟨⟨(b:LI),(a:Int),(m:Int),(v:Int),(i:Int),⟨⟩⟩,⟨⟩⟩ y hw hy
  obtain ⟨hg,hy⟩:=Tr.guard hy
  simp only[zA,zB] at hg
  obtain ⟨h1,h2,⟨h3,h4⟩,h5,h6⟩:=hg
  have h1:v=0:=h1
  have h2:i=0:=h2
  have h3:(0:Int)≤a:=h3
  have h4:a+m≤(b.length:Int):=h4
  have h5:(0:Int)≤m:=h5
  have h6:m≤(8:Int):=h6
  subst h1
  subst h2
  obtain ⟨a,rfl⟩:=aA h3
  obtain ⟨m,rfl⟩:=aA h5
  have hb:∀c∈b,0≤c∧c<256:=fun c hc=>by
   have h:=hw.1.1.2 c hc
   simp only[Ty.wf,bt,IntKind.min,IntKind.max,IntKind.signed,IntKind.bits] at h
   simp at h
   omega
  refine ⟨m+1,(CG hb hw.1.1.1 (a:=a) (m:=m) (by omega) (by omega) (m+1) 0 (by omega) (by omega)).trans ?_⟩
  rw[← hy];rfl
 ·rintro ⟨⟨(b:LI),(a:Int),(m:Int),⟨⟩⟩,⟨⟩⟩ out hw ho
  obtain ⟨hg,ho⟩:=Tr.guard ho
  simp only[zA,zB] at hg
  obtain ⟨h5,h6⟩:=hg
  have h5:(0:Int)≤m:=h5
  have h6:m≤(8:Int):=h6
  cases ho
  refine (E8 b a m).trans ?_
  unfold rq
  show _=oR (((am b a m).1,((am b a m).2,())),())
  unfold am
  have hl:b.length≤maxLen:=hw.1.1.1
  rw[bg] at hl
  by_cases h1:a<0
  ·rw[if_pos (.inl h1)]
   exact aa (by simpa using h1) _ _
  ·refine bF (by simpa using h1) ?_
   by_cases h2:(b.length:Int)<a
   ·rw[if_pos (.inr (.inl h2))]
    exact aa (by simpa using h2) _ _
   ·refine bF (by simpa using h2) ?_
    rw[af (n:=(b.length:Int) - a) (by omega) (by omega)]
    by_cases h3:(b.length:Int) - a<m
    ·rw[if_pos (.inr (.inr h3))]
     exact aa (by simpa using h3) _ _
    ·rw[if_neg (by omega)]
     refine bF (by simpa using h3) ?_
     have c1:(decide ((0:Int)=0)&&(decide ((0:Int)=0)&&((decide ((0:Int)≤a)&&decide (a+m≤(b.length:Int)))&&(decide ((0:Int)≤m)&&decide (m≤(8:Int))))))=true:=by simp;omega
     have e1:ie ((b,(a,(m,(0,(0,()))))),())=.ite true (.ret (.ret ((),((co ((b.drop a.toNat).take m.toNat),()),())))) .no:=congrArg (fun c=>Tr.ite c _ _) c1
     rw[e1]
     rfl
abbrev BR:Sh:=.dat (.int .u32) false false
def iU (s:Nat):Nat:=if s % 2=1 then (s / 2) ^^^ 2197175160 else s / 2
theorem qf {s:Nat}(h:s<4294967296):iU s<4294967296:=by
 unfold iU
 split
 ·exact Nat.xor_lt_two_pow (n:=32) (by omega) (by omega)
 ·omega
theorem Oa (a b p:Nat):(a ^^^ p) ^^^ (b ^^^ p)=a ^^^ b:=by
 rw[Nat.xor_assoc,← Nat.xor_assoc p b p,Nat.xor_comm p b,Nat.xor_assoc b p p,Nat.xor_self,Nat.xor_zero]
theorem nd (a b:Nat):iU (a ^^^ b)=iU a ^^^ iU b:=by
 have h1:(a ^^^ b) / 2=a / 2 ^^^ b / 2:=Nat.xor_div_two
 have h2:(a ^^^ b) % 2=1↔¬(a % 2=1↔b % 2=1):=Nat.xor_mod_two_eq_one
 unfold iU
 rw[h1]
 by_cases ha:a % 2=1
 ·by_cases hb:b % 2=1
  ·rw[if_neg (by rw[h2];simp[ha,hb]),if_pos ha,if_pos hb,Oa]
  ·rw[if_pos (by rw[h2];simp[ha,hb]),if_pos ha,if_neg hb,Nat.xor_assoc,Nat.xor_comm (b / 2),← Nat.xor_assoc]
 ·by_cases hb:b % 2=1
  ·rw[if_pos (by rw[h2];simp[ha,hb]),if_neg ha,if_pos hb,Nat.xor_assoc]
  ·rw[if_neg (by rw[h2];simp[ha,hb]),if_neg ha,if_neg hb]
theorem nc (m:Nat):iU (2*m)=m:=by
 unfold iU
 rw[if_neg (by omega)]
 omega
def jy (s:Nat):Nat:=iU (iU (iU (iU s)))
theorem JS (a b:Nat):jy (a ^^^ b)=jy a ^^^ jy b:=by unfold jy;rw[nd,nd,nd,nd]
theorem NX (q:Nat):jy (16*q)=q:=by
 unfold jy
 rw[show 16*q=2*(2*(2*(2*q))) by omega,nc,nc,nc,nc]
theorem qe {s:Nat}(h:s<4294967296):jy s<4294967296:=qf (qf (qf (qf h)))
theorem Qg (s:Nat):s=(16*(s / 16)) ^^^ (s % 16):=by
 refine Nat.eq_of_testBit_eq fun i=>?_
 rw[Nat.testBit_xor,show 16*(s / 16)=2 ^ 4*(s / 2 ^ 4) by rfl,Nat.testBit_two_pow_mul,Nat.testBit_div_two_pow,show s % 16=s % 2 ^ 4 by rfl,Nat.testBit_mod_two_pow]
 by_cases h:4≤i
 ·have h':¬ i<4:=by omega
  simp[h,h',show i - 4+4=i by omega]
 ·have h':i<4:=by omega
  simp[h,h']
theorem NY (s:Nat):jy s=(s / 16) ^^^ jy (s % 16):=by
 conv=>lhs;rw[Qg s]
 rw[JS,NX]
def DL (s:Nat):Nat:=jy (jy s)
theorem DM {s:Nat}(h:s<4294967296):DL s<4294967296:=qe (qe h)
def Oo:LI→Nat→Nat
 |[],s=>s
 |x::l,s=>Oo l (DL (s ^^^ x.toNat))
theorem mG {s:Nat}(h:s<4294967296){x:Int}(hx:x≤255):s ^^^ x.toNat<4294967296:=Nat.xor_lt_two_pow (n:=32) h (by omega)
theorem sM:∀{l:LI} {s:Nat},(∀c∈l,0≤c∧c≤255)→s<4294967296→Oo l s<4294967296
 |[],_,_,h=>h
 |x::l,_,hl,h=>sM (l:=l) (fun c hc=>hl c (by simp[hc])) (DM (mG h (hl x (by simp)).2))
@[irreducible] def cB (c:Int)(b:LI):Int:=((Oo b (c.toNat ^^^ 4294967295) ^^^ 4294967295:Nat):Int)
@[irreducible] def jw (b:LI)(s:Int):Int:=((Oo b s.toNat:Nat):Int)
@[irreducible] def ri (s:Int):Int:=(iU s.toNat:Int)
def nb:Nat→Int→Int
 |0,s=>s
 |n+1,s=>nb n (ri s)
theorem vE (s:Nat):ri (s:Int)=(iU s:Int):=by unfold ri;rw[zG]
theorem NV (s:Nat):nb 8 (s:Int)=(DL s:Int):=by
 simp only[nb,vE]
 rfl
theorem nf {x y:Nat}(hx:x<4294967296)(hy:y<4294967296):cj .u32 (x:Int) (y:Int)=((x ^^^ y:Nat):Int):=by
 have e1:(BitVec.ofInt 32 (x:Int)).toNat=x:=by rw[BitVec.toNat_ofInt];omega
 have e2:(BitVec.ofInt 32 (y:Int)).toNat=y:=by rw[BitVec.toNat_ofInt];omega
 show IntKind.wrap .u32 ((BitVec.ofInt 32 (x:Int) ^^^ BitVec.ofInt 32 (y:Int)).toNat:Int)=_
 rw[BitVec.toNat_xor,e1,e2]
 have:=Nat.xor_lt_two_pow (n:=32) hx hy
 exact bY (k:=.u32) (by simp[bt,IntKind.min,IntKind.max,IntKind.signed,IntKind.bits];omega)
theorem HL {x:Nat}(hx:x<4294967296):vz .u32 (x:Int)=((x ^^^ 4294967295:Nat):Int):=by
 have:=nf (x:=4294967295) (y:=x) (by omega) hx
 rw[Nat.xor_comm] at this
 exact this
theorem qz {x:Nat}(hx:x<4294967296):eX .u32 (x:Int) 15=((x % 16:Nat):Int):=by
 have e1:(BitVec.ofInt 32 (x:Int)).toNat=x:=by rw[BitVec.toNat_ofInt];omega
 show IntKind.wrap .u32 ((BitVec.ofInt 32 (x:Int) &&& BitVec.ofInt 32 15).toNat:Int)=_
 rw[BitVec.toNat_and,e1,show (BitVec.ofInt 32 15).toNat=2 ^ 4 - 1 by decide,Nat.and_two_pow_sub_one_eq_mod]
 exact bY (k:=.u32) (by simp[bt,IntKind.min,IntKind.max,IntKind.signed,IntKind.bits];omega)
theorem NC {x:Nat}(hx:x<4294967296):eY .u32 (x:Int) 4=((x / 16:Nat):Int):=by
 show IntKind.wrap .u32 ((x:Int).fdiv (2 ^ 4))=_
 rw[Int.fdiv_eq_ediv_of_nonneg _ (by decide)]
 rw[show (x:Int) / 2 ^ 4=((x / 16:Nat):Int) by omega]
 exact bY (k:=.u32) (by simp[bt,IntKind.min,IntKind.max,IntKind.signed,IntKind.bits];omega)
theorem JT {r:Nat}(h:r<16):fi (r:Int)=(jy r:Int):=
 (show ∀r:Nat,r<16→fi (r:Int)=(jy r:Int) by decide +kernel) r h
theorem yV {b:LI}(h:Ty.wf bs b):∀c∈b,0≤c∧c≤255:=fun c hc=>by
 have:=h.2 c hc
 simpa [Ty.wf,bt,IntKind.min,IntKind.max,IntKind.signed,IntKind.bits] using this
theorem qw {s:Int}(h:bt .u32 s):∃n:Nat,s=(n:Int)∧n<4294967296:=by
 simp[bt,IntKind.min,IntKind.max,IntKind.signed,IntKind.bits] at h
 exact ⟨s.toNat,by omega,by omega⟩
theorem DO {s:Nat}(hs:s<4294967296):cj .u32 (eY .u32 (s:Int) 4) (fi (eX .u32 (s:Int) 15))=(jy s:Int):=by
 have hr:s % 16<16:=by omega
 rw[qz hs,NC hs,JT hr,nf (by omega) (qe (by omega)),← NY]
abbrev ix:Io:=⟨[BR],[],[],[BR],none⟩
def yp (d:ix.In):Tr ix.Res:=.ret (.ret ((ri d.1.1,()),()))
abbrev BA:List (Nat×Hc):=[]
def Lr:Hd:=bA BA
def CR:Lp:=bQ []
def tJ (a0:Int):Option ix.Res:=bif u32.wrap (a0.tmod 2) == 1 then oR ((cj u32 (u32.wrap (a0.tdiv 2)) 2197175160,()),()) else oR ((u32.wrap (a0.tdiv 2),()),())
theorem I9 (a0:Int):Io.run tt Lr dr CR ix Tryz.f159 ((a0,()),())=tJ a0:=by kernel_rfl
theorem Mp:HcOk prog 159 (ah ix yp):=by
 refine bW (cs:=BA) HcsOk.nil (lp:=CR) (fn:=Tryz.f159) ix (.done (by kernel_rfl)) yp ?_
 rintro ⟨⟨(s:Int),⟨⟩⟩,⟨⟩⟩ out hw ho
 cases ho
 refine (I9 s).trans ?_
 unfold tJ
 obtain ⟨n,rfl,hn⟩:=qw hw.1.1
 have e1:u32.wrap ((n:Int).tmod 2)=((n % 2:Nat):Int):=by
  rw[Int.tmod_eq_emod_of_nonneg (by omega)]
  exact (bY (k:=.u32) (by simp[bt,IntKind.min,IntKind.max,IntKind.signed,IntKind.bits];omega)).trans (by omega)
 have e2:u32.wrap ((n:Int).tdiv 2)=((n / 2:Nat):Int):=by
  rw[Int.tdiv_eq_ediv_of_nonneg (by omega)]
  exact (bY (k:=.u32) (by simp[bt,IntKind.min,IntKind.max,IntKind.signed,IntKind.bits];omega)).trans (by omega)
 show _=oR ((ri (n:Int),()),())
 rw[e1,e2,vE]
 unfold iU
 by_cases h:n % 2=1
 ·refine bT (by rw[h];rfl) ?_
  rw[if_pos h,← nf (by omega) (by omega)]
  rfl
 ·refine bF (by simp;omega) ?_
  rw[if_neg h]
abbrev kA:Io:=⟨[BR,dL],[],[],[BR],none⟩
def DU (d:kA.In):Tr kA.Res:=.ret (.ret ((cB d.1.1 d.1.2.1,()),()))
abbrev Gj:List (Nat×Hc):=[(159,ah ix yp)]
def ze:Hd:=bA Gj
abbrev eD:Lo:=⟨⟨(.any::.one (.hol (.sl 5 (Ty.int u8)))::.any::bh (.one (.hol (.int u32))::.one hI::.one hI::.any::ai (bz (bh [])))),[]⟩,[(.exit 2,⟨(.any::.one (.hol (.sl 5 (Ty.int u8)))::.any::bh (.one (.hol (.int u32))::.one hI::ai (cy []))),[]⟩)]⟩
abbrev eC:Lo:=⟨⟨(.any::.one (.hol (.sl 5 (Ty.int u8)))::.any::bh (.one (.hol (.int u32))::.one hI::ai (cy []))),[]⟩,[(.exit 0,⟨(.any::bz (.one (.hol (.int u32))::.any::ai (cy []))),[]⟩)]⟩
def lF (d:eD.st.den):Tr (ao eD.xs):=.ite (decide (d.1.2.2.2.1=0)) (.ret (.ret ((),((d.1.1,(nb 8 d.1.2.1,(d.1.2.2.1,()))),())))) .no
def lE (d:eC.st.den):Tr (ao eC.xs):=.ite (decide (d.1.2.2.1=0)) (.ret (.ret ((),((jw d.1.1 d.1.2.1,()),())))) .no
def mT:Lp:=bQ [(4,aG eC lE),(8,aG eD lF)]
def r9 {R:Type}(h5:LI)(h6 h7 h8:Int)(next:LI→Int→Int→Int→Option R)(out:ao eD.xs→Option R):Option R:=bif decide (h8<8) then next (h5) (ri h6) (h7) (i64.wrap (h8+1)) else out (.ret ((),((h5,(h6,(h7,()))),())))
def qQ (n:Nat)(h5:LI)(h6 h7 h8:Int):Option (ao eD.xs):=fV tt ze dr mT 0 Tryz.f123 (Sx Tryz.f123 (b9 Tryz.f123 0) 0) n (eD.st.mk' ((h5,(h6,(h7,(h8,())))),())) (bH eD.xs)
theorem JE (n:Nat)(h5:LI)(h6 h7 h8:Int):qQ (n+1) h5 h6 h7 h8=r9 h5 h6 h7 h8 (qQ n) some:=by kernel_rfl
def rZ {R:Type}(h2:LI)(h3 h4:Int)(next:LI→Int→Int→Option R)(out:ao eC.xs→Option R):Option R:=bif decide (h4<(↑h2.length:Int)) then bif decide (0≤h4)&&decide (h4<(↑h2.length:Int)) then (lF ((h2,(cj u32 h3 (u32.wrap (h2.getD h4.toNat 0)),(h4,(0,())))),())).run fun y=>match y with | .ret ((),((x16,x17,x18,()),()))=>(next (x16) (x17) (i64.wrap (x18+1))) else none else out (.ret ((),((h3,()),())))
def mR (n:Nat)(h2:LI)(h3 h4:Int):Option (ao eC.xs):=fV tt ze dr mT 0 Tryz.f123 (b9 Tryz.f123 0) n (eC.st.mk' ((h2,(h3,(h4,()))),())) (bH eC.xs)
theorem JD (n:Nat)(h2:LI)(h3 h4:Int):mR (n+1) h2 h3 h4=rZ h2 h3 h4 (mR n) some:=by kernel_rfl
theorem CE (b:LI)(i:Int):∀(k j:Nat) (s:Int),8<j+k→j≤8→qQ k b s i j=some (.ret ((),((b,(nb (8 - j) s,(i,()))),()))):=by
 intro k
 induction k with
 |zero=>intro j s h;omega
 |succ k ih=>
  intro j s h1 h2
  rw[JE]
  unfold r9
  by_cases hj:j<8
  ·refine bT (by simp;omega) ?_
   rw[af (n:=(j:Int)+1) (by omega) (by omega),show (8 - j)=(8 - (j+1))+1 by omega]
   exact ih (j+1) _ (by omega) (by omega)
  ·refine bF (by simp;omega) ?_
   rw[show 8 - j=0 by omega]
   rfl
theorem vC {b:LI}(hb:∀c∈b,0≤c∧c≤255){i:Nat}(h:i<b.length){n:Nat}(hn:n<4294967296):jw (b.drop i) (n:Int)=jw (b.drop (i+1)) ((DL (n ^^^ (b[i]).toNat):Nat):Int)∧DL (n ^^^ (b[i]).toNat)<4294967296:=by
 refine ⟨?_,DM (mG hn (hb b[i] (List.getElem_mem h)).2)⟩
 rw[zE h]
 unfold jw
 rw[zG,zG]
 rfl
theorem Ob {b:LI}(hb:∀c∈b,0≤c∧c≤255){i:Nat}(h:i<b.length){n:Nat}(hn:n<4294967296):cj .u32 (n:Int) (u32.wrap (List.getD b (i:Int).toNat 0))=((n ^^^ (b[i]).toNat:Nat):Int):=by
 have hc:=hb b[i] (List.getElem_mem h)
 have e:List.getD b (i:Int).toNat 0=((b[i].toNat:Nat):Int):=by
  rw[zG,aC h]
  omega
 rw[e,bY (k:=.u32) (by simp[bt,IntKind.min,IntKind.max,IntKind.signed,IntKind.bits];omega)]
 exact nf hn (by omega)
theorem CD {b:LI}(hb:∀c∈b,0≤c∧c≤255)(hl:b.length≤maxLen):∀(k i n:Nat),b.length<i+k→i≤b.length→n<4294967296→mR k b n i=some (.ret ((),((jw (b.drop i) n,()),()))):=by
 intro k
 induction k with
 |zero=>intro i n h;omega
 |succ k ih=>
  intro i n h1 h2 h3
  rw[JD]
  unfold rZ
  by_cases hi:i<b.length
  ·refine bT (by simpa using hi) ?_
   refine bT (by simpa using hi) ?_
   obtain ⟨e1,e2⟩:=vC hb hi h3
   rw[Ob hb hi h3,e1]
   unfold lF
   refine bT (by simp) ?_
   show mR k b (nb 8 _) (i64.wrap ((i:Int)+1))=_
   rw[NV,aM hi hl]
   exact ih (i+1) _ (by omega) (by omega) e2
  ·refine bF (by simp;omega) ?_
   rw[zI (by omega)]
   unfold jw
   rw[zG]
   rfl
theorem NQ {c:Nat}(hc:c<4294967296){b:LI}(hb:∀x∈b,0≤x∧x≤255):cj .u32 (jw b ((c ^^^ 4294967295:Nat):Int)) 4294967295=cB (c:Int) b:=by
 have h1:=Nat.xor_lt_two_pow (n:=32) hc (show 4294967295<2 ^ 32 by decide)
 have h2:=sM hb h1
 unfold jw cB
 rw[zG,zG]
 exact nf h2 (by decide)
def wB (a0:Int)(a1:LI):Option kA.Res:=(lE ((a1,(cj u32 a0 4294967295,(0,()))),())).run fun y=>match y with | .ret ((),((x23,()),()))=>(oR ((cj u32 x23 4294967295,()),()))
theorem M3 (a0:Int)(a1:LI):Io.run tt ze dr mT kA Tryz.f123 ((a0,a1,()),())=wB a0 a1:=by kernel_rfl
theorem qI:HcsOk prog Gj:=.cons Mp .nil
theorem Pg:HcOk prog 123 (ah kA DU):=by
 refine bW qI (lp:=mT) (fn:=Tryz.f123) kA (.step (h0:=aG eC lE) (by kernel_rfl) (gi qI (lp:=mT) (fn:=Tryz.f123) (.step (h0:=aG eD lF) (by kernel_rfl) (gi qI (lp:=mT) (fn:=Tryz.f123) (.done (by kernel_rfl)) eD lF ?_) (.done (by kernel_rfl))) eC lE ?_) (.done (by kernel_rfl))) DU ?_
 ·rintro ⟨⟨(b:LI),(s:Int),(i:Int),(j:Int),⟨⟩⟩,⟨⟩⟩ y hw hy
  obtain ⟨hg,hy⟩:=Tr.guard hy
  have hg:j=0:=by simpa using hg
  subst hg
  refine ⟨9,(CE b i 9 0 s (by omega) (by omega)).trans ?_⟩
  rw[← hy];rfl
 ·rintro ⟨⟨(b:LI),(s:Int),(i:Int),⟨⟩⟩,⟨⟩⟩ y hw hy
  obtain ⟨hg,hy⟩:=Tr.guard hy
  have hg:i=0:=by simpa using hg
  subst hg
  obtain ⟨n,rfl,hn⟩:=qw hw.1.2.1
  refine ⟨b.length+1,(CD (yV hw.1.1) hw.1.1.1 (b.length+1) 0 n (show b.length<0+(b.length+1) by omega) (Nat.zero_le _) hn).trans ?_⟩
  rw[← hy];rfl
 ·rintro ⟨⟨(c:Int),(b:LI),⟨⟩⟩,⟨⟩⟩ out hw ho
  cases ho
  refine (M3 c b).trans ?_
  obtain ⟨n,rfl,hn⟩:=qw hw.1.1
  unfold wB lE
  refine bT (by simp) ?_
  show oR ((cj .u32 (jw b (cj .u32 (n:Int) 4294967295)) 4294967295,()),())=oR ((cB (n:Int) b,()),())
  rw[show (4294967295:Int)=((4294967295:Nat):Int) from rfl,nf hn (by decide),show ((4294967295:Nat):Int)=4294967295 from rfl,NQ hn (yV hw.1.2.1)]
abbrev iw:Io:=⟨[dL],[],[],[BR],none⟩
def yo (d:iw.In):Tr iw.Res:=.ret (.ret ((cB 0 d.1.1,()),()))
abbrev Bz:List (Nat×Hc):=[(123,ah kA DU)]
def Lq:Hd:=bA Bz
def CQ:Lp:=bQ []
def Ei (a0:LI):Option iw.Res:=oR ((cB 0 a0,()),())
theorem I8 (a0:LI):Io.run tt Lq dr CQ iw Tryz.f86 ((a0,()),())=Ei a0:=by kernel_rfl
theorem Mo:HcOk prog 86 (ah iw yo):=by
 refine bW (cs:=Bz) (.cons Pg .nil) (lp:=CQ) (fn:=Tryz.f86) iw (.done (by kernel_rfl)) yo ?_
 rintro ⟨⟨(b:LI),⟨⟩⟩,⟨⟩⟩ out hw ho
 cases ho
 exact I8 b
abbrev nQ:Io:=⟨[BR,dL],[],[],[BR],none⟩
def J2 (d:nQ.In):Tr nQ.Res:=.ret (.ret ((cB d.1.1 d.1.2.1,()),()))
abbrev Ep:List (Nat×Hc):=[]
def Lt:Hd:=bA Ep
abbrev fF:Lo:=⟨⟨(.any::bz (.one (.hol (.int u32))::bz (.one (.hol (.sl 5 (Ty.int u8)))::.one hI::.one hI::ai (cy [])))),[]⟩,[(.exit 0,⟨(.any::bz (.one (.hol (.int u32))::.any::ai (cy (bz (bh []))))),[]⟩)]⟩
def oW (d:fF.st.den):Tr (ao fF.xs):=.ite (decide (d.1.2.2.2.1=0)&&decide (d.1.2.2.1=(d.1.2.1.length:Int))) (.ret (.ret ((),((jw d.1.2.1 d.1.1,()),())))) .no
def zU:Lp:=bQ [(4,aG fF oW)]
def vK {R:Type}(h2:Int)(h3:LI)(h4 h5:Int)(next:Int→LI→Int→Int→Option R)(out:ao fF.xs→Option R):Option R:=bif decide (h5<h4) then bif decide (0≤h5)&&decide (h5<(↑h3.length:Int)) then bif decide (0≤eX u32 (cj u32 h2 (u32.wrap (h3.getD h5.toNat 0))) 15)&&decide (eX u32 (cj u32 h2 (u32.wrap (h3.getD h5.toNat 0))) 15<(↑16:Int)) then bif decide (0≤eX u32 (cj u32 (eY u32 (cj u32 h2 (u32.wrap (h3.getD h5.toNat 0))) 4) (fi (eX u32 (cj u32 h2 (u32.wrap (h3.getD h5.toNat 0))) 15))) 15)&&decide (eX u32 (cj u32 (eY u32 (cj u32 h2 (u32.wrap (h3.getD h5.toNat 0))) 4) (fi (eX u32 (cj u32 h2 (u32.wrap (h3.getD h5.toNat 0))) 15))) 15<(↑16:Int)) then next (cj u32 (eY u32 (cj u32 (eY u32 (cj u32 h2 (u32.wrap (h3.getD h5.toNat 0))) 4) (fi (eX u32 (cj u32 h2 (u32.wrap (h3.getD h5.toNat 0))) 15))) 4) (fi (eX u32 (cj u32 (eY u32 (cj u32 h2 (u32.wrap (h3.getD h5.toNat 0))) 4) (fi (eX u32 (cj u32 h2 (u32.wrap (h3.getD h5.toNat 0))) 15))) 15))) (h3) (h4) (i64.wrap (h5+1)) else none else none else none else out (.ret ((),((h2,()),())))
def uM (n:Nat)(h2:Int)(h3:LI)(h4 h5:Int):Option (ao fF.xs):=fV tt Lt dr zU 0 Tryz.f131 (b9 Tryz.f131 0) n (fF.st.mk' ((h2,(h3,(h4,(h5,())))),())) (bH fF.xs)
theorem NG (n:Nat)(h2:Int)(h3:LI)(h4 h5:Int):uM (n+1) h2 h3 h4 h5=vK h2 h3 h4 h5 (uM n) some:=by kernel_rfl
theorem EL {b:LI}(hb:∀c∈b,0≤c∧c≤255)(hl:b.length≤maxLen):∀(k i n:Nat),b.length<i+k→i≤b.length→n<4294967296→uM k n b (b.length:Int) i=some (.ret ((),((jw (b.drop i) n,()),()))):=by
 intro k
 induction k with
 |zero=>intro i n h;omega
 |succ k ih=>
  intro i n h1 h2 h3
  rw[NG]
  unfold vK
  by_cases hi:i<b.length
  ·refine bT (by simpa using hi) ?_
   refine bT (by simpa using hi) ?_
   obtain ⟨e1,e2⟩:=vC hb hi h3
   have h4:=mG h3 (hb b[i] (List.getElem_mem hi)).2
   have h5:=qe h4
   rw[Ob hb hi h3,e1]
   refine (aa ?_ _ _).trans ?_
   ·rw[qz h4];simp;omega
   rw[DO h4]
   refine (aa ?_ _ _).trans ?_
   ·rw[qz h5];simp;omega
   rw[DO h5,aM hi hl]
   exact ih (i+1) _ (by omega) (by omega) e2
  ·refine bF (by simp;omega) ?_
   rw[zI (by omega)]
   unfold jw
   rw[zG]
   rfl
def A5 (a0:Int)(a1:LI):Option nQ.Res:=(oW ((vz u32 a0,(a1,((↑a1.length:Int),(0,())))),())).run fun y=>match y with | .ret ((),((x11,()),()))=>(oR ((vz u32 x11,()),()))
theorem PL (a0:Int)(a1:LI):Io.run tt Lt dr zU nQ Tryz.f131 ((a0,a1,()),())=A5 a0 a1:=by kernel_rfl
theorem Ra:HcOk prog 131 (ah nQ J2):=by
 refine bW (cs:=Ep) HcsOk.nil (lp:=zU) (fn:=Tryz.f131) nQ (.step (h0:=aG fF oW) (by kernel_rfl) (gi (cs:=Ep) HcsOk.nil (lp:=zU) (fn:=Tryz.f131) (.done (by kernel_rfl)) fF oW ?_) (.done (by kernel_rfl))) J2 ?_
 ·rintro ⟨⟨(s:Int),(b:LI),(m:Int),(i:Int),⟨⟩⟩,⟨⟩⟩ y hw hy
  obtain ⟨hg,hy⟩:=Tr.guard hy
  simp only[zA,zB] at hg
  obtain ⟨rfl,rfl⟩:=hg
  obtain ⟨n,rfl,hn⟩:=qw hw.1.1
  refine ⟨b.length+1,(EL (yV hw.1.2.1) hw.1.2.1.1 (b.length+1) 0 n (show b.length<0+(b.length+1) by omega) (Nat.zero_le _) hn).trans ?_⟩
  rw[← hy];rfl
 ·rintro ⟨⟨(c:Int),(b:LI),⟨⟩⟩,⟨⟩⟩ out hw ho
  cases ho
  refine (PL c b).trans ?_
  obtain ⟨n,rfl,hn⟩:=qw hw.1.1
  unfold A5 oW
  refine bT (by simp) ?_
  show oR ((vz .u32 (jw b (vz .u32 (n:Int))),()),())=oR ((cB (n:Int) b,()),())
  have h1:=Nat.xor_lt_two_pow (n:=32) hn (show 4294967295<2 ^ 32 by decide)
  have h2:=sM (yV hw.1.2.1) h1
  rw[HL hn]
  unfold jw cB
  rw[zG,zG,HL h2]
def rh:List (LI)→Int→Int
 |[],c=>c
 |p::ps,c=>rh ps (cB c p)
abbrev jg:Io:=⟨[.dat (.sl 22 bs) false false],[],[],[BR],none⟩
def yq (d:jg.In):Tr jg.Res:=.ret (.ret ((rh d.1.1 0,()),()))
abbrev Gk:List (Nat×Hc):=[(131,ah nQ J2)]
def GV:Hd:=bA Gk
abbrev eF:Lo:=⟨⟨(.any::bh (.one (.hol (.int u32))::bh (.one (.hol (.sl 22 (Ty.sl 5 (Ty.int u8))))::.one hI::.one hI::cy []))),[]⟩,[(.exit 0,⟨(.any::bh (.one (.hol (.int u32))::.any::cy (bz []))),[]⟩)]⟩
def lG (d:eF.st.den):Tr (ao eF.xs):=.ite (decide (d.1.2.2.2.1=0)&&decide (d.1.2.2.1=(d.1.2.1.length:Int))) (.ret (.ret ((),((rh d.1.2.1 d.1.1,()),())))) .no
def sZ:Lp:=bQ [(4,aG eF lG)]
def sa {R:Type}(h1:Int)(h2:List bs.den)(h3 h4:Int)(next:Int→List bs.den→Int→Int→Option R)(out:ao eF.xs→Option R):Option R:=bif decide (h4<h3) then bif decide (0≤h4)&&decide (h4<(↑h2.length:Int)) then next (cB h1 (h2.getD h4.toNat [])) (h2) (h3) (i64.wrap (h4+1)) else none else out (.ret ((),((h1,()),())))
def qR (n:Nat)(h1:Int)(h2:List bs.den)(h3 h4:Int):Option (ao eF.xs):=fV tt GV dr sZ 0 Tryz.f96 (b9 Tryz.f96 0) n (eF.st.mk' ((h1,(h2,(h3,(h4,())))),())) (bH eF.xs)
theorem JF (n:Nat)(h1:Int)(h2:List bs.den)(h3 h4:Int):qR (n+1) h1 h2 h3 h4=sa h1 h2 h3 h4 (qR n) some:=by kernel_rfl
theorem CF (ps:List (LI))(hl:ps.length≤maxLen):∀(k i:Nat) (c:Int),ps.length<i+k→i≤ps.length→qR k c ps (ps.length:Int) i=some (.ret ((),((rh (ps.drop i) c,()),()))):=by
 intro k
 induction k with
 |zero=>intro i c h;omega
 |succ k ih=>
  intro i c h1 h2
  rw[JF]
  unfold sa
  by_cases hi:i<ps.length
  ·refine bT (by simpa using hi) ?_
   refine bT (by simpa using hi) ?_
   have e:List.getD ps (i:Int).toNat []=ps[i]:=by simp only[zG,aC hi]
   rw[e,aM hi hl,zE hi]
   exact ih (i+1) _ (by omega) (by omega)
  ·refine bF (by simp;omega) ?_
   rw[zI (by omega)]
   rfl
def wC (a0:List bs.den):Option jg.Res:=(lG ((0,(a0,((↑a0.length:Int),(0,())))),())).run fun y=>match y with | .ret ((),((x10,()),()))=>(oR ((x10,()),()))
theorem M4 (a0:List bs.den):Io.run tt GV dr sZ jg Tryz.f96 ((a0,()),())=wC a0:=by kernel_rfl
theorem xx:HcsOk prog Gk:=.cons Ra .nil
theorem HQ:HcOk prog 96 (ah jg yq):=by
 refine bW xx (lp:=sZ) (fn:=Tryz.f96) jg (.step (h0:=aG eF lG) (by kernel_rfl) (gi xx (lp:=sZ) (fn:=Tryz.f96) (.done (by kernel_rfl)) eF lG ?_) (.done (by kernel_rfl))) yq ?_
 ·rintro ⟨⟨(c:Int),(ps:List (LI)),(m:Int),(i:Int),⟨⟩⟩,⟨⟩⟩ y hw hy
  obtain ⟨hg,hy⟩:=Tr.guard hy
  simp only[zA,zB] at hg
  obtain ⟨rfl,rfl⟩:=hg
  refine ⟨ps.length+1,(CF ps hw.1.2.1.1 (ps.length+1) 0 c (by omega) (by omega)).trans ?_⟩
  rw[← hy];rfl
 ·rintro ⟨⟨(ps:List (LI)),⟨⟩⟩,⟨⟩⟩ out hw ho
  cases ho
  refine (M4 ps).trans ?_
  unfold wC lG
  refine bT (by simp) ?_
  rfl
end
end Go.Proofs.YthpcdhgpplmneaaGreatDoor.Sym
