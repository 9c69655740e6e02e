/- vint: numbers. -/
import Derived.Test.YthpcdhgpplmneaaGreatDoorRows
import Derived.WalkKit
import Derived.ProofKit
import Derived.OpenShut
import Derived.JoinedCond
import Derived.ChangeStays
import Derived.DataReads
import Derived.Test.YthpcdhgpplmneaaGreatDoorQ3

set_option linter.unusedVariables false
set_option linter.unusedSimpArgs false
namespace Go.Proofs.YthpcdhgpplmneaaGreatDoor.Sym
open Go
open Go.IntKind (i8 i16 i32 i64 u8 u16 u32 u64)
noncomputable section
theorem xor_zero {x:Int}(h0:0≤x)(h:x<18446744073709551616):cq .u64 x 0=x:=by
 show IntKind.wrap .u64 ((BitVec.ofInt 64 x ^^^ BitVec.ofInt 64 0).toNat:Int)=x
 rw[show BitVec.ofInt 64 0=0#64 from rfl,BitVec.xor_zero,BitVec.toNat_ofInt,bY] <;> omega
theorem Fc {x:Int}(h0:0≤x)(h:x<9223372036854775808):cq .i64 x (-1) = -x - 1:=by
 show IntKind.wrap .i64 ((BitVec.ofInt 64 x ^^^ BitVec.ofInt 64 (-1)).toNat:Int)=_
 rw[show BitVec.ofInt 64 (-1)=BitVec.allOnes 64 from rfl,BitVec.xor_allOnes,BitVec.toNat_not,BitVec.toNat_ofInt]
 simp only[IntKind.wrap,IntKind.signed,IntKind.bits]
 simp
 omega
theorem Fd {x:Int}(h0:0≤x)(h:x<9223372036854775808):cq .i64 x 0=x:=by
 show IntKind.wrap .i64 ((BitVec.ofInt 64 x ^^^ BitVec.ofInt 64 0).toNat:Int)=_
 rw[show BitVec.ofInt 64 0=0#64 from rfl,BitVec.xor_zero,BitVec.toNat_ofInt,ae] <;> omega
theorem Nu {x:Int}(h0:0≤x)(h:x<18446744073709551616):ey .u64 x 1=x % 2:=by
 show IntKind.wrap .u64 ((BitVec.ofInt 64 x &&& BitVec.ofInt 64 1).toNat:Int)=_
 rw[BitVec.toNat_and,show (BitVec.ofInt 64 1).toNat=1 from rfl,BitVec.toNat_ofInt,Nat.and_one_is_mod,bY] <;> omega
abbrev nV:Io:=⟨[dV],[],[],[QL],none⟩
def JM (d:nV.In):Tr nV.Res:=.ret (.ret ((al d.1.1,()),()))
abbrev Kf:List (Nat×Hc):=[]
def PU:Hd:=bG Kf
def Li:Lp:=bM []
def Bd (a0:Int):Option nV.Res:=oR ((cq i64 (i64.wrap (fR u64 a0 1)) (i64.wrap (0 - i64.wrap (ey u64 a0 1))),()),())
theorem O1 (a0:Int):Io.run tt PU dr Li nV Tryz.f138 ((a0,()),())=Bd a0:=by kernel_rfl
theorem LM:HcOk prog 138 (ah nV JM):=by
 refine bQ (cs:=Kf) HcsOk.nil (lp:=Li) (fn:=Tryz.f138) nV (.done (by kernel_rfl)) JM ?_
 rintro ⟨⟨(u:Int),⟨⟩⟩,⟨⟩⟩ out hw ho
 cases ho
 refine (O1 u).trans ?_
 have hr:=sI.1 (show bH .u64 u from hw.1.1)
 unfold Bd
 show _=oR ((al u,()),())
 have e1:fR .u64 u 1=u / 2:=by
  show IntKind.wrap .u64 (u.fdiv (2 ^ 1))=_
  rw[Int.fdiv_eq_ediv_of_nonneg _ (by decide),bY] <;> omega
 rw[e1,Nu hr.1 (by omega),ae (n:=u / 2) (by omega) (by omega),ae (n:=u % 2) (by omega) (by omega),ae (n:=0 - u % 2) (by omega) (by omega)]
 unfold al
 split
 ·rename_i h
  rw[h,show (0:Int) - 0=0 from rfl,Fd (by omega) (by omega)]
 ·rename_i h
  rw[show (0:Int) - u % 2 = -1 by omega,Fc (by omega) (by omega)]
theorem Nt {c:Int}(h0:0≤c)(h:c≤255):ey .u8 c 127=c % 128:=by
 show IntKind.wrap .u8 ((BitVec.ofInt 8 c &&& BitVec.ofInt 8 127).toNat:Int)=_
 rw[BitVec.toNat_and,show (BitVec.ofInt 8 127).toNat=2 ^ 7 - 1 from rfl,BitVec.toNat_ofInt,Nat.and_two_pow_sub_one_eq_mod,ql] <;> omega
theorem Qn {u d:Int}{i:Nat}(hu:0≤u)(hu':u<2 ^ i)(hd:0≤d)(hd':d*2 ^ i<18446744073709551616)(hi:i≤63):nh .u64 u (fQ .u64 d i)=u+d*2 ^ i:=by
 have e1:fQ .u64 d i=d*2 ^ i:=by
  show IntKind.wrap .u64 (d*2 ^ (min (i:Int).toNat 64))=_
  rw[show min (i:Int).toNat 64=i by omega,bY (Int.mul_nonneg hd (Int.le_of_lt (Int.pow_pos (by decide)))) hd']
 rw[e1]
 obtain ⟨u,rfl⟩:=au hu
 obtain ⟨d,rfl⟩:=au hd
 have h2:(2:Int) ^ i=((2 ^ i:Nat):Int):=by rw[Int.natCast_pow];rfl
 have hp:(d:Int)*2 ^ i=((2 ^ i*d:Nat):Int):=by rw[h2,Nat.mul_comm,Int.natCast_mul]
 rw[hp] at hd' ⊢
 rw[h2] at hu'
 have h3:u<2 ^ i:=Int.ofNat_lt.1 hu'
 have h4:2 ^ i*d<18446744073709551616:=by omega
 have h5:2 ^ i*d+u<18446744073709551616:=by
  obtain ⟨q,hq⟩:2 ^ i ∣ 18446744073709551616:=(Nat.pow_dvd_pow 2 (show i≤64 by omega))
  rw[hq] at h4 ⊢
  have h6:d<q:=Nat.lt_of_mul_lt_mul_left h4
  have h7:2 ^ i*(d+1)≤2 ^ i*q:=Nat.mul_le_mul_left _ h6
  rw[Nat.mul_add] at h7
  omega
 have e4:=Nat.two_pow_add_eq_or_of_lt h3 d
 generalize 2 ^ i*d=k at h4 h5 e4 ⊢
 show IntKind.wrap .u64 ((BitVec.ofInt 64 (u:Int) ||| BitVec.ofInt 64 (k:Int)).toNat:Int)=_
 have e2:(BitVec.ofInt 64 (u:Int)).toNat=u:=by rw[BitVec.toNat_ofInt];omega
 have e3:(BitVec.ofInt 64 (k:Int)).toNat=k:=by rw[BitVec.toNat_ofInt];omega
 rw[BitVec.toNat_or,e2,e3,Nat.or_comm,← e4,bY] <;> omega
theorem vx:∀l:LI,0≤bc l∧bc l<128 ^ l.length
 |[]=>by simp[bc]
 |c::l=>by
  have:=vx l
  simp only[bc,zN,Int.pow_succ]
  omega
def pP (m t:Int):Bool:=(decide (m=10)&&decide (t=1)) || (decide (m=5)&&decide (t=15))
abbrev kr:Io:=⟨[dL,dI,dI,dU],[],[],[dV,dI,dI],none⟩
def DG (d:kr.In):Tr kr.Res:=
 .ite (pP d.1.2.2.1 d.1.2.2.2.1) (.ret (.ret (((ab d.1.2.2.1.toNat d.1.2.2.2.1 d.1.1 d.1.2.1).1,(ab d.1.2.2.1.toNat d.1.2.2.2.1 d.1.1 d.1.2.1).2.1,(ab d.1.2.2.1.toNat d.1.2.2.2.1 d.1.1 d.1.2.1).2.2,()),()))) .no
abbrev y9:List (Nat×Hc):=[]
def Gq:Hd:=bG y9
abbrev dT:Lo:=⟨⟨(.any::.one hI::.one hI::.one (.hol (.int u8))::.any::bz (bk (.one (.hol (.int u64))::dm (bz (.one (.hol (.sl 5 (Ty.int u8)))::.one hI::.one hI::.any::ai (ai (bk []))))))),[]⟩,[(.ret,⟨(dm (.one (.hol (.int u64))::.one hI::.one hI::.any::ai (ai (ai (bk []))))),[]⟩),(.exit 0,⟨(ai (ai (ai (dm (bz (bk [])))))),[]⟩)]⟩
def lA (d:dT.st.den):Tr (ap dT.xs):=
 .ite (pP d.1.2.1 d.1.2.2.1&&(decide (d.1.2.2.2.1=(0:Int))&&(decide (d.1.2.2.2.2.2.2.1=(0:Int))&&(decide ((d.1.2.2.2.2.1.length:Int)=d.1.2.2.2.2.2.1)&&(decide ((0:Int)≤d.1.1)&&decide ((d.1.1:Int)+(d.1.2.2.2.2.1.length:Int)≤9223372036854775807))))))
  (.ite (decide ((bo d.1.2.1.toNat d.1.2.2.1 d.1.2.2.2.2.1 0).2=0))
   (.ret (.ret ((),((bc (d.1.2.2.2.2.1.take ((bo d.1.2.1.toNat d.1.2.2.1 d.1.2.2.2.2.1 0).1+1).toNat) % 18446744073709551616,(d.1.1+(bo d.1.2.1.toNat d.1.2.2.1 d.1.2.2.2.2.1 0).1+1,(0,()))),()))))
   (.ite (decide ((bo d.1.2.1.toNat d.1.2.2.1 d.1.2.2.2.2.1 0).2=1)) (.ret (.pan (.ret ((),((),())))))
    (.ret (.ret ((),((0,(0,((bo d.1.2.1.toNat d.1.2.2.1 d.1.2.2.2.2.1 0).2,()))),())))))) .no
def sQ:Lp:=bM [(6,aD dT lA)]
def rW {R:Type}(h4 h5 h6 h7:Int)(h8:LI)(h9 h10:Int)(next:Int→Int→Int→Int→LI→Int→Int→Option R)(out:ap dT.xs→Option R):Option R:=bif decide (h10<h9) then bif decide (0≤h10)&&decide (h10<(↑h8.length:Int)) then bif h10 == i64.wrap (h5 - 1) then bif decide (h6<h8.getD h10.toNat 0) then out (.ret ((),((0,(0,(21,()))),()))) else bif decide (0≤i64.wrap (7*h10)) then bif decide (128≤h8.getD h10.toNat 0) then next (h4) (h5) (h6) (nh u64 h7 (fQ u64 (u64.wrap (ey u8 (h8.getD h10.toNat 0) 127)) (i64.wrap (7*h10)))) (h8) (h9) (i64.wrap (h10+1)) else bif h8.getD h10.toNat 0 == 0 then bif decide (0<h10) then out (.ret ((),((0,(0,(20,()))),()))) else out (.ret ((),((nh u64 h7 (fQ u64 (u64.wrap (ey u8 (h8.getD h10.toNat 0) 127)) (i64.wrap (7*h10))),(i64.wrap (i64.wrap (h4+h10)+1),(0,()))),()))) else out (.ret ((),((nh u64 h7 (fQ u64 (u64.wrap (ey u8 (h8.getD h10.toNat 0) 127)) (i64.wrap (7*h10))),(i64.wrap (i64.wrap (h4+h10)+1),(0,()))),()))) else none else bif decide (0≤i64.wrap (7*h10)) then bif decide (128≤h8.getD h10.toNat 0) then next (h4) (h5) (h6) (nh u64 h7 (fQ u64 (u64.wrap (ey u8 (h8.getD h10.toNat 0) 127)) (i64.wrap (7*h10)))) (h8) (h9) (i64.wrap (h10+1)) else bif h8.getD h10.toNat 0 == 0 then bif decide (0<h10) then out (.ret ((),((0,(0,(20,()))),()))) else out (.ret ((),((nh u64 h7 (fQ u64 (u64.wrap (ey u8 (h8.getD h10.toNat 0) 127)) (i64.wrap (7*h10))),(i64.wrap (i64.wrap (h4+h10)+1),(0,()))),()))) else out (.ret ((),((nh u64 h7 (fQ u64 (u64.wrap (ey u8 (h8.getD h10.toNat 0) 127)) (i64.wrap (7*h10))),(i64.wrap (i64.wrap (h4+h10)+1),(0,()))),()))) else none else none else out (.pan (.ret ((),((),()))))
def qN (n:Nat)(h4 h5 h6 h7:Int)(h8:LI)(h9 h10:Int):Option (ap dT.xs):=fJ tt Gq dr sQ 0 Tryz.f137 (bP Tryz.f137 0) n (dT.st.mk' ((h4,(h5,(h6,(h7,(h8,(h9,(h10,()))))))),())) (bt dT.xs)
theorem Je (n:Nat)(h4 h5 h6 h7:Int)(h8:LI)(h9 h10:Int):qN (n+1) h4 h5 h6 h7 h8 h9 h10=rW h4 h5 h6 h7 h8 h9 h10 (qN n) some:=by kernel_rfl
theorem Iq (p m:Nat)(t:Int)(l:LI)(hf:pP m t=true)(hp:(p:Int)+l.length≤9223372036854775807)(hc:∀c∈l,0≤c∧c≤255):∀(k i:Nat),i<m→m<i+k→i≤l.length→
  qN k p m t (bc (l.take i)) l l.length i=
   if (bo m t (l.drop i) i).2=0 then some (.ret ((),((bc (l.take ((bo m t (l.drop i) i).1+1).toNat) % 18446744073709551616,(p+(bo m t (l.drop i) i).1+1,(0,()))),())))
   else if (bo m t (l.drop i) i).2=1 then some (.pan (.ret ((),((),())))) else some (.ret ((),((0,(0,((bo m t (l.drop i) i).2,()))),()))):=by
 have hm:(m=10∧t=1)∨(m=5∧t=15):=by
  simp only[pP,Bool.or_eq_true,zA,zB] at hf
  omega
 intro k
 induction k with
 |zero=>intro i h1 h2;omega
 |succ k ih=>
  intro i h1 h2 h3
  rw[Je]
  unfold rW
  by_cases hl:i<l.length
  ·have hcc:=hc l[i] (List.getElem_mem hl)
   have e3:i64.wrap ((m:Int) - 1)=(m:Int) - 1:=ae (by omega) (by omega)
   have e4:i64.wrap ((i:Int)+1)=((i+1:Nat):Int):=by rw[ae] <;> omega
   have e5:i64.wrap (7*(i:Int))=((7*i:Nat):Int):=by rw[ae] <;> omega
   have e6:i64.wrap ((p:Int)+i)=((p+i:Nat):Int):=by rw[ae] <;> omega
   have e7:i64.wrap (((p+i:Nat):Int)+1)=(p:Int)+i+1:=by rw[ae] <;> omega
   rw[aa (by simpa using hl),aa (by simpa using hl)]
   simp only[zG,aA hl,e3,e4,e5,e6,e7]
   rw[Nt hcc.1 hcc.2,bY (n:=l[i] % 128) (by omega) (by omega),zE hl]
   have hsn:l.take (i+1)=l.take i++[l[i]]:=List.take_succ_eq_append_getElem hl
   have hv:=vx (l.take i)
   have hti:(l.take i).length=i:=by simp;omega
   rw[hti] at hv
   have e8:(128:Int) ^ i=2 ^ (7*i):=by rw[Int.pow_mul];rfl
   have hor:l[i] % 128*2 ^ (7*i)<18446744073709551616→nh .u64 (bc (l.take i)) (fQ .u64 (l[i] % 128) ((7*i:Nat):Int))=bc (l.take (i+1)):=by
    intro h
    rw[Qn hv.1 (by rw[← e8];exact hv.2) (by omega) h (by omega),hsn,oE,hti,e8,Int.mul_comm]
   generalize hg:nh .u64 (bc (l.take i)) (fQ .u64 (l[i] % 128) ((7*i:Nat):Int))=v at hor ⊢
   have e9:(2:Int) ^ (7*i)=((2 ^ (7*i):Nat):Int):=by rw[Int.natCast_pow];rfl
   have hbd:(i≤8∨l[i] % 128≤1)→l[i] % 128*2 ^ (7*i)<18446744073709551616:=by
    intro h
    rw[e9]
    rcases h with h | h
    ·have h8:2 ^ (7*i)≤2 ^ 56:=Nat.pow_le_pow_right (by decide) (by omega)
     have h9:l[i] % 128*((2 ^ (7*i):Nat):Int)≤127*((2 ^ (7*i):Nat):Int):=Int.mul_le_mul_of_nonneg_right (by omega) (by omega)
     generalize 2 ^ (7*i)=w at h8 h9
     omega
    ·have h8:2 ^ (7*i)≤2 ^ 63:=Nat.pow_le_pow_right (by decide) (by omega)
     have h9:l[i] % 128*((2 ^ (7*i):Nat):Int)≤1*((2 ^ (7*i):Nat):Int):=Int.mul_le_mul_of_nonneg_right h (by omega)
     generalize 2 ^ (7*i)=w at h8 h9
     omega
   have hnext:=fun h=>ih (i+1) h (by omega) (by omega)
   have ei:((i:Int)+1).toNat=i+1:=by omega
   have hvr:bH .u64 v:=by rw[← hg];exact bL _ _
   have hvr:=sI.1 hvr
   clear hg
   by_cases hm1:i+1=m
   ·have h3':((i:Int) == (m:Int) - 1)=true:=by simp;omega
    rw[aa h3']
    by_cases h4:t<l[i]
    ·simp[bo,hm1,h4]
    ·have hv2:=hor (hbd (by omega))
     have hmod:bc (l.take (i+1)) % 18446744073709551616=bc (l.take (i+1)):=by rw[← hv2];omega
     have hmod':=hmod
     rw[hm1] at hmod'
     have h5:l[i]<128:=by omega
     have h6:¬ 128≤l[i]:=by omega
     rw[af (by simpa using h4),aa (by simp;omega),af (by simpa using h6),hv2]
     by_cases h7:l[i]=0
     ·have h4':¬ t<0:=by omega
      by_cases h8:0<i <;> simp[bo,hm1,h4',h7,h8,cond_eq_ite,ei,hmod']
     ·simp[bo,hm1,h4,h5,h7,cond_eq_ite,ei,hmod']
   ·have h3':((i:Int) == (m:Int) - 1)=false:=by simp;omega
    have hv2:=hor (hbd (by omega))
    have hmod:bc (l.take (i+1)) % 18446744073709551616=bc (l.take (i+1)):=by rw[← hv2];omega
    rw[af h3',aa (by simp;omega),hv2]
    by_cases h5:l[i]<128
    ·have h6:¬ 128≤l[i]:=by omega
     rw[af (by simpa using h6)]
     by_cases h7:l[i]=0
     ·by_cases h8:0<i <;> simp[bo,hm1,h7,h8,cond_eq_ite,ei,hmod]
     ·simp[bo,hm1,h5,h7,cond_eq_ite,ei,hmod]
    ·rw[aa (by simp;omega),hnext (by omega)]
     simp[bo,hm1,h5]
  ·rw[af (by simpa using hl),zI (by omega)]
   simp[bo]
def wB (a0:LI)(a1 a2 a3:Int):Option kr.Res:=bif decide (a1<0) then oR ((0,0,3,()),()) else bif decide ((↑a0.length:Int)<a1) then oR ((0,0,3,()),()) else bif decide (0≤a1)&&(decide (a1≤(↑a0.length:Int))&&decide ((↑a0.length:Int)≤(↑a0.length:Int))) then (lA ((a1,(a2,(a3,(0,(List.drop a1.toNat (List.take (↑a0.length:Int).toNat a0),((↑(List.drop a1.toNat (List.take (↑a0.length:Int).toNat a0)).length:Int),(0,()))))))),())).run fun y=>match y with | .ret ((),((x46,x47,x48,()),()))=>(oR ((x46,x47,x48,()),())) | .pan (.ret ((),((),())))=>(oR ((0,0,1,()),())) else none
theorem Ml (a0:LI)(a1 a2 a3:Int):Io.run tt Gq dr sQ kr Tryz.f137 ((a0,a1,a2,a3,()),())=wB a0 a1 a2 a3:=by kernel_rfl
theorem Hm:HcOk prog 137 (ah kr DG):=by
 refine bQ (cs:=y9) .nil (lp:=sQ) (fn:=Tryz.f137) kr
  (.step (h0:=aD dT lA) (by kernel_rfl) (f9 (cs:=y9) .nil (lp:=sQ) (fn:=Tryz.f137) (.done (by kernel_rfl)) dT lA ?_) (.done (by kernel_rfl))) DG ?_
 ·rintro ⟨⟨(p:Int),(m:Int),(t:Int),(u:Int),(l:LI),(n:Int),(i:Int),⟨⟩⟩,⟨⟩⟩ y hw hy
  obtain ⟨hg,hy⟩:=Tr.guard hy
  simp only[zA,zB] at hg
  obtain ⟨hf,rfl,rfl,rfl,h1,h2⟩:=hg
  have h1:(0:Int)≤p:=h1
  have h2:p+(l.length:Int)≤9223372036854775807:=h2
  have hm0:5≤m∧m≤10:=by
   simp only[pP,Bool.or_eq_true,zA,zB] at hf
   omega
  obtain ⟨p,rfl⟩:=au h1
  obtain ⟨m,rfl⟩:=au (show 0≤m by omega)
  have hc:∀c∈l,0≤c∧c≤255:=fun c hc=>Ef.1 (hw.1.2.2.2.2.1.2 c hc)
  refine ⟨m+1,(Iq p m t l hf h2 hc (m+1) 0 (by omega) (by omega) (by omega)).trans ?_⟩
  rw[← hy]
  simp only[Tr.val_ite,Tr.val_ret,zG,zB,List.drop_zero]
 ·rintro ⟨⟨(b:LI),(p:Int),(m:Int),(t:Int),⟨⟩⟩,⟨⟩⟩ out hw ho
  obtain ⟨hf,ho⟩:=Tr.guard ho
  cases ho
  refine (Ml b p m t).trans ?_
  have hb:b.length≤maxLen:=hw.1.1.1
  rw[ba] at hb
  have hf:pP m t=true:=hf
  have hm0:5≤m∧m≤10:=by
   simp only[pP,Bool.or_eq_true,zA,zB] at hf
   omega
  unfold wB
  show _=oR (((ab m.toNat t b p).1,(ab m.toNat t b p).2.1,(ab m.toNat t b p).2.2,()),())
  unfold ab
  by_cases h1:p<0
  ·rw[aa (by simpa using h1),if_pos (.inl h1)]
  ·by_cases h2:(b.length:Int)<p
   ·rw[af (by simpa using h1),aa (by simpa using h2),if_pos (.inr h2)]
   ·rw[af (by simpa using h1),af (by simpa using h2),aa (by simp;omega),if_neg (by omega),show (b.length:Int).toNat=b.length by omega,List.take_length]
    have hlen:((b.drop p.toNat).length:Int)=b.length - p:=by simp;omega
    have hr:=pU m.toNat t (b.drop p.toNat) 0
    unfold lA
    generalize b.drop p.toNat=l at hlen hr ⊢
    generalize bo m.toNat t l 0=r at hr ⊢
    obtain ⟨r1,r2⟩:=r
    have h9:(0:Int)≤p:=by omega
    have h8:p+(l.length:Int)≤9223372036854775807:=by omega
    simp only[Tr.run_ite,Tr.run_ret,zA,zB]
    rw[if_pos ⟨hf,trivial,trivial,trivial,h9,h8⟩]
    by_cases h3:r2=0
    ·simp[h3]
    ·by_cases h4:r2=1
     ·simp[h4]
     ·simp[h3,h4]
abbrev lU:Io:=⟨[dL,dI],[],[],[QL,dI,dI],none⟩
def Fh (d:lU.In):Tr lU.Res:=.ret (.ret ((al (ab 10 1 d.1.1 d.1.2.1).1,(ab 10 1 d.1.1 d.1.2.1).2.1,(ab 10 1 d.1.1 d.1.2.1).2.2,()),()))
abbrev D7:List (Nat×Hc):=[(137,ah kr DG),(138,ah nV JM)]
def PS:Hd:=bG D7
def Lf:Lp:=bM []
def tN (a0:LI)(a1:Int):Option lU.Res:=oR ((al (ab (Int.toNat 10) 1 a0 a1).1,(ab (Int.toNat 10) 1 a0 a1).2.1,(ab (Int.toNat 10) 1 a0 a1).2.2,()),())
theorem OY (a0:LI)(a1:Int):Io.run tt PS dr Lf lU Tryz.f135 ((a0,a1,()),())=tN a0 a1:=by kernel_rfl
theorem LL:HcOk prog 135 (ah lU Fh):=by
 refine bQ (cs:=D7) (.cons Hm (.cons LM .nil)) (lp:=Lf) (fn:=Tryz.f135) lU (.done (by kernel_rfl)) Fh ?_
 rintro ⟨⟨(b:LI),(p:Int),⟨⟩⟩,⟨⟩⟩ out hw ho
 cases ho
 refine (OY b p).trans ?_
 first | rfl | (unfold tN;simp[pP];done) | (unfold tN;rfl)
abbrev gq:Io:=⟨[dL,dI],[],[],[Rw,dI,dI],none⟩
def sr (d:gq.In):Tr gq.Res:=.ret (.ret ((IntKind.wrap .i32 (al (ab 5 15 d.1.1 d.1.2.1).1),(ab 5 15 d.1.1 d.1.2.1).2.1,(ab 5 15 d.1.1 d.1.2.1).2.2,()),()))
abbrev BD:List (Nat×Hc):=D7
def KS:Hd:=bG BD
def CE:Lp:=bM []
def nH (a0:LI)(a1:Int):Option gq.Res:=oR ((i32.wrap (al (ab (Int.toNat 5) 15 a0 a1).1),(ab (Int.toNat 5) 15 a0 a1).2.1,(ab (Int.toNat 5) 15 a0 a1).2.2,()),())
theorem IT (a0:LI)(a1:Int):Io.run tt KS dr CE gq Tryz.f111 ((a0,a1,()),())=nH a0 a1:=by kernel_rfl
theorem CN:HcOk prog 111 (ah gq sr):=by
 refine bQ (cs:=BD) (.cons Hm (.cons LM .nil)) (lp:=CE) (fn:=Tryz.f111) gq (.done (by kernel_rfl)) sr ?_
 rintro ⟨⟨(b:LI),(p:Int),⟨⟩⟩,⟨⟩⟩ out hw ho
 cases ho
 refine (IT b p).trans ?_
 first | rfl | (unfold nH;simp[pP];done) | (unfold nH;rfl)
end
end Go.Proofs.YthpcdhgpplmneaaGreatDoor.Sym
namespace Go.Proofs.YthpcdhgpplmneaaGreatDoor.Sym
open Go
noncomputable section
theorem M2:∀(n:Nat) (u:Int),(fL n u).length≤n:=by
 intro n
 induction n with
 |zero=>intro u;simp[fL]
 |succ n ih=>intro u;simp only[fL];split;have:=ih (u / 128);simp;omega;simp
end
end Go.Proofs.YthpcdhgpplmneaaGreatDoor.Sym
namespace Go.Proofs.YthpcdhgpplmneaaGreatDoor.Sym
open Go
open Go.IntKind (i8 i16 i32 i64 u8 u16 u32 u64)
noncomputable section
abbrev yi:Ty:=.prod .bool (.prod bs .unit)
abbrev fS:Ty:=.prod .str (.prod yi .unit)
abbrev E8:Ty:=.sl 206 fS
abbrev RB:Ty:=.prod (.int .i64) (.prod (.int .i32) (.prod yi (.prod yi (.prod E8 .unit))))
abbrev Gc:Sh:=.dat yi true false
abbrev BP:Sh:=.dat RB true false
abbrev PN:Sh:=.dat E8 false false
end
end Go.Proofs.YthpcdhgpplmneaaGreatDoor.Sym
namespace Go.Proofs.YthpcdhgpplmneaaGreatDoor.Sym
open Go
noncomputable section
abbrev AX:Type:=Bool×LI×Unit
abbrev eB:Type:=LI×AX×Unit
abbrev oV:Type:=Int×Int×AX×AX×List eB×Unit
end
end Go.Proofs.YthpcdhgpplmneaaGreatDoor.Sym
namespace Go.Proofs.YthpcdhgpplmneaaGreatDoor.Sym
open Go
open Go.IntKind (i8 i16 i32 i64 u8 u16 u32 u64)
noncomputable section
def ag (b:LI)(p:Int):Int×Int×Int:=(IntKind.wrap .i32 (al (ab 5 15 b p).1),(ab 5 15 b p).2.1,(ab 5 15 b p).2.2)
def ac (b:LI)(p least:Int):AX×Int×Int:=
 if (ag b p).2.2≠0 then ((false,[],()),0,(ag b p).2.2)
 else if (ag b p).1<least then ((false,[],()),0,5)
 else if (ag b p).1<0 then ((true,[],()),(ag b p).2.1,0)
 else if (b.length:Int) - (ag b p).2.1<(ag b p).1 then ((false,[],()),0,1)
 else ((false,(b.drop (ag b p).2.1.toNat).take (ag b p).1.toNat,()),(ag b p).2.1+(ag b p).1,0)
def ax (b:LI):Nat→List eB→Int→List eB×Int×Int
 |0,out,p=>(out,p,0)
 |n+1,out,p=>
  if (ac b p 0).2.2≠0 then ([],0,(ac b p 0).2.2)
  else if (cv (ac b p 0).1.2.1).2=false then ([],0,6)
  else if (ac b (ac b p 0).2.1 (-1)).2.2≠0 then ([],0,(ac b (ac b p 0).2.1 (-1)).2.2)
  else ax b n (out++[((ac b p 0).1.2.1,(ac b (ac b p 0).2.1 (-1)).1,())]) (ac b (ac b p 0).2.1 (-1)).2.1
theorem pQ (b:LI):∀(n:Nat) (o:List eB) (p:Int),(ax b n o p).2.2≠0→(ax b n o p).1=[]∧(ax b n o p).2.1=0
 |0,o,p,h=>absurd rfl h
 |n+1,o,p,h=>by
  unfold ax at h ⊢
  split
  ·exact ⟨rfl,rfl⟩
  split
  ·exact ⟨rfl,rfl⟩
  split
  ·exact ⟨rfl,rfl⟩
  rename_i h1 h2 h3
  rw[if_neg h1,if_neg h2,if_neg h3] at h
  exact pQ b n _ _ h
def av (b:LI)(p:Int):List eB×Int×Int:=
 if (ag b p).2.2≠0 then ([],0,(ag b p).2.2)
 else if (ag b p).1<0 then ([],0,5)
 else if 16<(ag b p).1 then ([],0,9)
 else ax b (ag b p).1.toNat [] (ag b p).2.1
def aI:oV:=(0,0,(false,[],()),(false,[],()),[],())
def aQ (b:LI):oV×Int:=
 if b.length=0 then (aI,1)
 else if b.getD 0 0≠0 then (aI,71)
 else if (ab 10 1 b 1).2.2≠0 then (aI,(ab 10 1 b 1).2.2)
 else if (ag b (ab 10 1 b 1).2.1).2.2≠0 then (aI,(ag b (ab 10 1 b 1).2.1).2.2)
 else if (ag b (ab 10 1 b 1).2.1).1<0 then (aI,72)
 else if (ac b (ag b (ab 10 1 b 1).2.1).2.1 (-1)).2.2≠0 then (aI,(ac b (ag b (ab 10 1 b 1).2.1).2.1 (-1)).2.2)
 else if (ac b (ac b (ag b (ab 10 1 b 1).2.1).2.1 (-1)).2.1 (-1)).2.2≠0 then (aI,(ac b (ac b (ag b (ab 10 1 b 1).2.1).2.1 (-1)).2.1 (-1)).2.2)
 else if (av b (ac b (ac b (ag b (ab 10 1 b 1).2.1).2.1 (-1)).2.1 (-1)).2.1).2.2≠0 then (aI,(av b (ac b (ac b (ag b (ab 10 1 b 1).2.1).2.1 (-1)).2.1 (-1)).2.1).2.2)
 else if (av b (ac b (ac b (ag b (ab 10 1 b 1).2.1).2.1 (-1)).2.1 (-1)).2.1).2.1<(b.length:Int) then (aI,2)
 else ((al (ab 10 1 b 1).1,(ag b (ab 10 1 b 1).2.1).1,(ac b (ag b (ab 10 1 b 1).2.1).2.1 (-1)).1,(ac b (ac b (ag b (ab 10 1 b 1).2.1).2.1 (-1)).2.1 (-1)).1,(av b (ac b (ac b (ag b (ab 10 1 b 1).2.1).2.1 (-1)).2.1 (-1)).2.1).1,()),0)
def an (b:LI)(p:Int):oV×Int×Int:=
 if (ag b p).2.2≠0 then (aI,0,(ag b p).2.2)
 else if (ag b p).1<0 then (aI,0,5)
 else if 16384<(ag b p).1 then (aI,0,4)
 else if (b.length:Int) - (ag b p).2.1<(ag b p).1 then (aI,0,1)
 else if (aQ ((b.drop (ag b p).2.1.toNat).take (ag b p).1.toNat)).2≠0 then (aI,0,(aQ ((b.drop (ag b p).2.1.toNat).take (ag b p).1.toNat)).2)
 else ((aQ ((b.drop (ag b p).2.1.toNat).take (ag b p).1.toNat)).1,(ag b p).2.1+(ag b p).1,0)
theorem Tr.run_of_val {α R:Type}:∀{t:Tr α} {K:α→Option R} {a:α},t.val=some a→t.run K=K a
 |.ret a,K,b,h=>by cases h;rfl
 |.no,K,b,h=>by cases h
 |.ite c t e,K,b,h=>by
  cases c with
  |true=>exact Tr.run_of_val (t:=t) h
  |false=>exact Tr.run_of_val (t:=e) h
theorem HcOk.weak {P:Program}{f:Nat}{io:Io}{F F':io.In→Tr io.Res}(hF:∀d y,(F' d).val=some y→(F d).val=some y)(h:HcOk P f (ah io F)):HcOk P f (ah io F'):=by
 intro R args id A K r Fr G ts cst w vals hid hr Rl hv
 refine h R args id A K r Fr G ts cst w vals hid ?_ Rl hv
 unfold ah at hr ⊢
 split at hr
 ·cases hr
 ·split at hr
  ·cases hr
  ·rename_i a β1 e1 o β e2
   simp only at hr ⊢
   simp only[cond_eq_ite] at hr ⊢
   split at hr
   ·rename_i hc
    rw[if_pos hc]
    obtain ⟨y,h1,h2⟩:=Tr.run_val hr
    rw[Tr.run_of_val (hF _ _ h1)]
    exact h2
   ·cases hr
theorem yc {m:Nat}{t:Int}{b:LI}{p:Int}(h:(ab m t b p).2.2≠0):(ab m t b p).1=0∧(ab m t b p).2.1=0:=by
 unfold ab at h ⊢
 split
 ·exact ⟨rfl,rfl⟩
 ·split
  ·rename_i h1 h2
   rw[if_neg h1,if_pos h2] at h
   exact absurd rfl h
  ·exact ⟨rfl,rfl⟩
def wa (d:cQ.In):Tr cQ.Res:=.ret (.ret (((ag d.1.1 d.1.2.1).1,(ag d.1.1 d.1.2.1).2.1,(ag d.1.1 d.1.2.1).2.2,()),()))
theorem Aq:HcOk prog 150 (ah cQ wa):=by
 refine LT.weak ?_
 rintro ⟨⟨(b:LI),(p:Int),⟨⟩⟩,⟨⟩⟩ y h
 rw[← h]
 unfold su wa ag
 simp only[Tr.val_ite,Tr.val_ret,zB]
 by_cases h1:(ab 5 15 b p).2.2=0
 ·rw[if_pos h1,h1]
 ·obtain ⟨h2,h3⟩:=yc h1
  rw[if_neg h1,h2,h3]
  rfl
def yF (d:iB.In):Tr iB.Res:=.ret (.ret ((al (ab 10 1 d.1.1 d.1.2.1).1,(ab 10 1 d.1.1 d.1.2.1).2.1,(ab 10 1 d.1.1 d.1.2.1).2.2,()),()))
theorem Ho:HcOk prog 113 (ah iB yF):=by
 refine Qe.weak ?_
 rintro ⟨⟨(b:LI),(p:Int),⟨⟩⟩,⟨⟩⟩ y h
 rw[← h]
 unfold Fi yF
 simp only[Tr.val_ite,Tr.val_ret,zB]
 by_cases h1:(ab 10 1 b p).2.2=0
 ·rw[if_pos h1,h1]
 ·obtain ⟨h2,h3⟩:=yc h1
  rw[if_neg h1,h2,h3]
  rfl
theorem mt {m:Nat}{t:Int}{b:LI}{p:Int}(h:(ab m t b p).2.2=0):0≤p∧p<(ab m t b p).2.1∧(ab m t b p).2.1≤b.length:=by
 unfold ab at h ⊢
 split
 ·rename_i h1
  rw[if_pos h1] at h
  cases h
 ·rename_i h1
  rw[if_neg h1] at h
  split
  ·rename_i h2
   have h3:=pU m t (b.drop p.toNat) 0 h2
   simp only[List.length_drop] at h3
   generalize (bo m t (b.drop p.toNat) 0).1=k at h3 ⊢
   simp only
   omega
  ·rename_i h2
   rw[if_neg h2] at h
   exact absurd h h2
theorem dF {b:LI}{p:Int}(h:(ag b p).2.2=0):0≤p∧p<(ag b p).2.1∧(ag b p).2.1≤b.length:=mt h
theorem cW {b:LI}{p:Int} : -2147483648≤(ag b p).1∧(ag b p).1≤2147483647:=by
 have:=bL .i32 (al (ab 5 15 b p).1)
 simp[bH,IntKind.min,IntKind.max,IntKind.signed,IntKind.bits] at this
 exact this
abbrev jj:Io:=⟨[dL,dI,Rw],[],[],[Gc,dI,dI],none⟩
def yL (d:jj.In):Tr jj.Res:=.ret (.ret (((ac d.1.1 d.1.2.1 d.1.2.2.1).1,(ac d.1.1 d.1.2.1 d.1.2.2.1).2.1,(ac d.1.1 d.1.2.1 d.1.2.2.1).2.2,()),()))
abbrev FU:List (Nat×Hc):=[(150,ah cQ wa),(21,ah ii td)]
def NY:Hd:=bG FU
def GX:Lp:=bM []
def H0 (a0:LI)(a1 a2:Int):Option jj.Res:=bif (ab 5 15 a0 a1).2.2 != 0 then oR (((false,[],()),0,(ab 5 15 a0 a1).2.2,()),()) else bif decide (i32.wrap (al (ab 5 15 a0 a1).1)<a2) then oR (((false,[],()),0,5,()),()) else bif decide (i32.wrap (al (ab 5 15 a0 a1).1)<0) then oR (((true,[],()),(ab 5 15 a0 a1).2.1,0,()),()) else bif decide (i64.wrap ((↑a0.length:Int) - (ab 5 15 a0 a1).2.1)<i64.wrap (i32.wrap (al (ab 5 15 a0 a1).1))) then oR (((false,[],()),0,1,()),()) else bif decide (0≤(ab 5 15 a0 a1).2.1)&&(decide ((ab 5 15 a0 a1).2.1≤i64.wrap ((ab 5 15 a0 a1).2.1+i64.wrap (i32.wrap (al (ab 5 15 a0 a1).1))))&&decide (i64.wrap ((ab 5 15 a0 a1).2.1+i64.wrap (i32.wrap (al (ab 5 15 a0 a1).1)))≤(↑a0.length:Int))) then bif decide ((List.drop (ab 5 15 a0 a1).2.1.toNat (List.take (i64.wrap ((ab 5 15 a0 a1).2.1+i64.wrap (i32.wrap (al (ab 5 15 a0 a1).1)))).toNat a0)).length≤4294967296) then oR (((false,List.drop (ab 5 15 a0 a1).2.1.toNat (List.take (i64.wrap ((ab 5 15 a0 a1).2.1+i64.wrap (i32.wrap (al (ab 5 15 a0 a1).1)))).toNat a0),()),i64.wrap ((ab 5 15 a0 a1).2.1+i64.wrap (i32.wrap (al (ab 5 15 a0 a1).1))),0,()),()) else none else none
theorem Mz (a0:LI)(a1 a2:Int):Io.run tt NY dr GX jj Tryz.f171 ((a0,a1,a2,()),())=H0 a0 a1 a2:=by kernel_rfl
theorem Hs:HcOk prog 171 (ah jj yL):=by
 refine bQ (cs:=FU) (.cons Aq (.cons uK .nil)) (lp:=GX) (fn:=Tryz.f171) jj (.done (by kernel_rfl)) yL ?_
 rintro ⟨⟨(b:LI),(p:Int),(l:Int),⟨⟩⟩,⟨⟩⟩ out hw ho
 cases ho
 refine (Mz b p l).trans ?_
 have hb:b.length≤maxLen:=hw.1.1.1
 rw[ba] at hb
 show _=oR (((ac b p l).1,(ac b p l).2.1,(ac b p l).2.2,()),())
 change (bif (ag b p).2.2 != 0 then oR (((false,[],()),0,(ag b p).2.2,()),()) else bif decide ((ag b p).1<l) then _ else bif decide ((ag b p).1<0) then oR (((true,[],()),(ag b p).2.1,0,()),()) else bif decide (i64.wrap ((b.length:Int) - (ag b p).2.1)<i64.wrap (ag b p).1) then _
  else bif decide (0≤(ag b p).2.1)&&(decide ((ag b p).2.1≤i64.wrap ((ag b p).2.1+i64.wrap (ag b p).1))&&decide (i64.wrap ((ag b p).2.1+i64.wrap (ag b p).1)≤(b.length:Int))) then bif decide ((List.drop (ag b p).2.1.toNat (List.take (i64.wrap ((ag b p).2.1+i64.wrap (ag b p).1)).toNat b)).length≤4294967296) then oR (((false,List.drop (ag b p).2.1.toNat (List.take (i64.wrap ((ag b p).2.1+i64.wrap (ag b p).1)).toNat b),()),i64.wrap ((ag b p).2.1+i64.wrap (ag b p).1),0,()),()) else none else none)=_
 have hr:=@cW b p
 by_cases h0:(ag b p).2.2=0
 ·have hk:=dF h0
  rw[af (by simpa using h0)]
  by_cases h1:(ag b p).1<l
  ·have e:ac b p l=((false,[],()),0,5):=by unfold ac;rw[if_neg (by simpa using h0),if_pos h1]
   rw[e,aa (by simpa using h1)]
   first | done | rfl
  ·rw[af (by simpa using h1)]
   by_cases h2:(ag b p).1<0
   ·have e:ac b p l=((true,[],()),(ag b p).2.1,0):=by unfold ac;rw[if_neg (by simpa using h0),if_neg h1,if_pos h2]
    rw[e,aa (by simpa using h2)]
   ·rw[af (by simpa using h2),ae (n:=(b.length:Int) - (ag b p).2.1) (by omega) (by omega),ae (n:=(ag b p).1) (by omega) (by omega)]
    by_cases h3:(b.length:Int) - (ag b p).2.1<(ag b p).1
    ·have e:ac b p l=((false,[],()),0,1):=by unfold ac;rw[if_neg (by simpa using h0),if_neg h1,if_neg h2,if_pos h3]
     rw[e,aa (by simpa using h3)]
     first | done | rfl
    ·have e:ac b p l=((false,(b.drop (ag b p).2.1.toNat).take (ag b p).1.toNat,()),(ag b p).2.1+(ag b p).1,0):=by unfold ac;rw[if_neg (by simpa using h0),if_neg h1,if_neg h2,if_neg h3]
     rw[e,af (by simpa using h3),ae (n:=(ag b p).2.1+(ag b p).1) (by omega) (by omega)]
     rw[aa (by simp;omega),List.drop_take,show ((ag b p).2.1+(ag b p).1).toNat - (ag b p).2.1.toNat=(ag b p).1.toNat by omega,aa (by simp;omega)]
 ·have e:ac b p l=((false,[],()),0,(ag b p).2.2):=by unfold ac;rw[if_pos h0]
  rw[e,aa (by simpa using h0)]
abbrev iD:Io:=⟨[dL,dI],[],[],[PN,dI,dI],none⟩
def yK (d:iD.In):Tr iD.Res:=.ret (.ret (((av d.1.1 d.1.2.1).1,(av d.1.1 d.1.2.1).2.1,(av d.1.1 d.1.2.1).2.2,()),()))
abbrev BL:List (Nat×Hc):=[(150,ah cQ wa),(171,ah jj yL),(174,ah lV Fj)]
def Ca:Hd:=bG BL
abbrev cC:Lo:=⟨⟨(.one (.hol (.sl 5 (Ty.int u8)))::.one hI::.any::bz (.one hJ::bk (.one (.onl 206 (Ty.str.prod ((Ty.bool.prod ((Ty.sl 5 (Ty.int u8)).prod Ty.unit)).prod Ty.unit)) 21)::.one hI::.any::ai (ai (ai (ai (bz []))))))),[]⟩,[(.ret,⟨(bz (.one (.onl 206 (Ty.str.prod ((Ty.bool.prod ((Ty.sl 5 (Ty.int u8)).prod Ty.unit)).prod Ty.unit)) 9)::.one hI::.one hI::ai (ai (ai (ai (dm (bk []))))))),[]⟩),(.exit 0,⟨(.any::.one hI::dm (.one (.onl 206 (Ty.str.prod ((Ty.bool.prod ((Ty.sl 5 (Ty.int u8)).prod Ty.unit)).prod Ty.unit)) 21)::ai (ai (ai (ai (bz (bk []))))))),[]⟩)]⟩
def fT (d:cC.st.den):Tr (ap cC.xs):=
 .ite (decide (d.1.2.2.2.2.1=(0:Int))&&(decide ((0:Int)≤d.1.2.2.1)&&(decide (d.1.2.2.1≤(16:Int))&&decide (d.1.2.2.2.1=([]:List eB)))))
  (.ite (decide ((ax d.1.1 (d.1.2.2.1:Int).toNat [] d.1.2.1).2.2=(0:Int)))
   (.ret (.pan (.ret ((),(((ax d.1.1 (d.1.2.2.1:Int).toNat [] d.1.2.1).2.1,((ax d.1.1 (d.1.2.2.1:Int).toNat [] d.1.2.1).1,())),())))))
   (.ret (.ret ((),(([],(0,((ax d.1.1 (d.1.2.2.1:Int).toNat [] d.1.2.1).2.2,()))),()))))) .no
def py:Lp:=bM [(12,aD cC fT)]
def nB {R:Type}(h2:LI)(h3 h4:Int)(h5:List (Ty.str.prod ((Ty.bool.prod ((Ty.sl 5 (Ty.int u8)).prod Ty.unit)).prod Ty.unit)).den)(h6:Int)(next:LI→Int→Int→List (Ty.str.prod ((Ty.bool.prod ((Ty.sl 5 (Ty.int u8)).prod Ty.unit)).prod Ty.unit)).den→Int→Option R)(out:ap cC.xs→Option R):Option R:=bif decide (h6<i64.wrap h4) then bif (ac h2 h3 0).2.2 != 0 then out (.ret ((),(([],(0,((ac h2 h3 0).2.2,()))),()))) else bif !(cv (ac h2 h3 0).1.2.1).2 then out (.ret ((),(([],(0,(6,()))),()))) else bif (ac h2 (ac h2 h3 0).2.1 (-1)).2.2 != 0 then out (.ret ((),(([],(0,((ac h2 (ac h2 h3 0).2.1 (-1)).2.2,()))),()))) else bif decide (h5.length+[((ac h2 h3 0).1.2.1,((ac h2 (ac h2 h3 0).2.1 (-1)).1.1,(ac h2 (ac h2 h3 0).2.1 (-1)).1.2.1,()),())].length≤4294967296) then next (h2) ((ac h2 (ac h2 h3 0).2.1 (-1)).2.1) (h4) (h5++[((ac h2 h3 0).1.2.1,((ac h2 (ac h2 h3 0).2.1 (-1)).1.1,(ac h2 (ac h2 h3 0).2.1 (-1)).1.2.1,()),())]) (i64.wrap (h6+1)) else none else out (.pan (.ret ((),((h3,(h5,())),()))))
def l9 (n:Nat)(h2:LI)(h3 h4:Int)(h5:List (Ty.str.prod ((Ty.bool.prod ((Ty.sl 5 (Ty.int u8)).prod Ty.unit)).prod Ty.unit)).den)(h6:Int):Option (ap cC.xs):=fJ tt Ca dr py 0 Tryz.f172 (bP Tryz.f172 0) n (cC.st.mk' ((h2,(h3,(h4,(h5,(h6,()))))),())) (bt cC.xs)
theorem C7 (n:Nat)(h2:LI)(h3 h4:Int)(h5:List (Ty.str.prod ((Ty.bool.prod ((Ty.sl 5 (Ty.int u8)).prod Ty.unit)).prod Ty.unit)).den)(h6:Int):l9 (n+1) h2 h3 h4 h5 h6=nB h2 h3 h4 h5 h6 (l9 n) some:=by kernel_rfl
theorem Em (b:LI)(n:Int)(hn:0≤n)(hn':n≤16):∀(k m:Nat) (p:Int) (o:List eB) (i:Int),i+m=n→0≤i→m<k→o.length=i.toNat→
  l9 k b p n o i=if (ax b m o p).2.2=0 then some (.pan (.ret ((),(((ax b m o p).2.1,((ax b m o p).1,())),())))) else some (.ret ((),(([],(0,((ax b m o p).2.2,()))),()))):=by
 intro k
 induction k with
 |zero=>intro m p o i h1 h2 h3;omega
 |succ k ih=>
  intro m p o i h1 h2 h3 h4
  rw[C7]
  unfold nB
  rw[ae (n:=n) (by omega) (by omega)]
  cases m with
  |zero=>
   rw[af (by simp;omega)]
   rw[if_pos (by rfl)]
   first | done | rfl
  |succ m=>
   rw[aa (by simp;omega)]
   by_cases a1:(ac b p 0).2.2=0
   ·rw[af (by simpa using a1)]
    by_cases a2:(cv (ac b p 0).1.2.1).2=false
    ·have e:ax b (m+1) o p=([],0,6):=by unfold ax;rw[if_neg (by simpa using a1),if_pos a2]
     rw[e,aa (by simpa using a2)]
     first | done | rfl
    ·rw[af (by simpa using a2)]
     by_cases a3:(ac b (ac b p 0).2.1 (-1)).2.2=0
     ·have e:ax b (m+1) o p=ax b m (o++[((ac b p 0).1.2.1,(ac b (ac b p 0).2.1 (-1)).1,())]) (ac b (ac b p 0).2.1 (-1)).2.1:=by
       rw[ax,if_neg (by simpa using a1),if_neg a2,if_neg (by simpa using a3)]
      rw[e,af (by simpa using a3),aa (by simp;omega),ae (n:=i+1) (by omega) (by omega)]
      exact ih m _ _ (i+1) (by omega) (by omega) (by omega) (by simp;omega)
     ·have e:ax b (m+1) o p=([],0,(ac b (ac b p 0).2.1 (-1)).2.2):=by rw[ax,if_neg (by simpa using a1),if_neg a2,if_pos a3]
      rw[e,aa (by simpa using a3),if_neg a3]
   ·have e:ax b (m+1) o p=([],0,(ac b p 0).2.2):=by rw[ax,if_pos a1]
    rw[e,aa (by simpa using a1),if_neg a1]
def tW (a0:LI)(a1:Int):Option iD.Res:=bif (ab 5 15 a0 a1).2.2 != 0 then oR (([],0,(ab 5 15 a0 a1).2.2,()),()) else bif decide (i32.wrap (al (ab 5 15 a0 a1).1)<0) then oR (([],0,5,()),()) else bif decide (16<i32.wrap (al (ab 5 15 a0 a1).1)) then oR (([],0,9,()),()) else (fT ((a0,((ab 5 15 a0 a1).2.1,(i32.wrap (al (ab 5 15 a0 a1).1),([],(0,()))))),())).run fun y=>match y with | .ret ((),((x23,x24,x25,()),()))=>(oR ((x23,x24,x25,()),())) | .pan (.ret ((),((x26,x27,()),())))=>(oR ((x27,x26,0,()),()))
theorem I3 (a0:LI)(a1:Int):Io.run tt Ca dr py iD Tryz.f172 ((a0,a1,()),())=tW a0 a1:=by kernel_rfl
theorem up:HcsOk prog BL:=.cons Aq (.cons Hs (.cons LU .nil))
theorem LY:HcOk prog 172 (ah iD yK):=by
 refine bQ up (lp:=py) (fn:=Tryz.f172) iD
  (.step (h0:=aD cC fT) (by kernel_rfl) (f9 up (lp:=py) (fn:=Tryz.f172) (.done (by kernel_rfl)) cC fT ?_) (.done (by kernel_rfl))) yK ?_
 ·rintro ⟨⟨(b:LI),(p:Int),(n:Int),(o:List eB),(i:Int),⟨⟩⟩,⟨⟩⟩ y hw hy
  obtain ⟨hg,hy⟩:=Tr.guard hy
  simp only[zA,zB] at hg
  obtain ⟨hi,h0,h16,ho⟩:=hg
  have hi:i=0:=hi
  have h0:0≤n:=h0
  have h16:n≤16:=h16
  have ho:o=[]:=ho
  subst hi ho
  refine ⟨n.toNat+1,(Em b n h0 h16 _ n.toNat p [] 0 (by omega) (by omega) (by omega) rfl).trans ?_⟩
  rw[← hy]
  simp only[Tr.val_ite,zB,Tr.val_ret]
 ·rintro ⟨⟨(b:LI),(p:Int),⟨⟩⟩,⟨⟩⟩ out hw ho
  cases ho
  refine (I3 b p).trans ?_
  show _=oR (((av b p).1,(av b p).2.1,(av b p).2.2,()),())
  have hr:=@cW b p
  unfold tW
  by_cases h0:(ag b p).2.2=0
  ·have h0':(ab 5 15 b p).2.2=0:=h0
   rw[af (by simpa using h0')]
   change (bif decide ((ag b p).1<0) then _ else bif decide (16<(ag b p).1) then _ else (fT ((b,((ag b p).2.1,((ag b p).1,([],(0,()))))),())).run _)=_
   by_cases h1:(ag b p).1<0
   ·have e:av b p=([],0,5):=by unfold av;rw[if_neg (by simpa using h0),if_pos h1]
    rw[e,aa (by simpa using h1)]
    first | done | rfl
   ·rw[af (by simpa using h1)]
    by_cases h2:16<(ag b p).1
    ·have e:av b p=([],0,9):=by unfold av;rw[if_neg (by simpa using h0),if_neg h1,if_pos h2]
     rw[e,aa (by simpa using h2)]
     first | done | rfl
    ·have e:av b p=ax b (ag b p).1.toNat [] (ag b p).2.1:=by unfold av;rw[if_neg (by simpa using h0),if_neg h1,if_neg h2]
     rw[e,af (by simpa using h2)]
     unfold fT
     simp only[Tr.run_ite,Tr.run_ret]
     have hg:(decide True&&(decide ((0:Int)≤(ag b p).1)&&(decide ((ag b p).1≤(16:Int))&&decide True)))=true:=by
      simp only[zA,zB]
      exact ⟨trivial,by omega,by omega,trivial⟩
     rw[if_pos hg]
     by_cases h3:(ax b (ag b p).1.toNat [] (ag b p).2.1).2.2=0
     ·rw[if_pos (by simpa using h3),h3]
     ·obtain ⟨e1,e2⟩:=pQ b _ _ _ h3
      rw[if_neg (by simpa using h3),e1,e2]
  ·have h0':(ab 5 15 b p).2.2≠0:=h0
   have e:av b p=([],0,(ab 5 15 b p).2.2):=by unfold av;rw[if_pos h0];rfl
   rw[e,aa (by simpa using h0')]
abbrev n7:Io:=⟨[dL],[],[],[BP,dI],none⟩
def JQ (d:n7.In):Tr n7.Res:=.ret (.ret (((aQ d.1.1).1,(aQ d.1.1).2,()),()))
abbrev Km:List (Nat×Hc):=[(113,ah iB yF),(150,ah cQ wa),(171,ah jj yL),(172,ah iD yK)]
def P0:Hd:=bG Km
def Lq:Lp:=bM []
def Bl (a0:LI):Option n7.Res:=bif (↑a0.length:Int) == 0 then oR (((0,0,(false,[],()),(false,[],()),[],()),1,()),()) else bif decide (0≤0)&&decide (0<(↑a0.length:Int)) then bif a0.getD (Int.toNat 0) 0 != 0 then oR (((0,0,(false,[],()),(false,[],()),[],()),71,()),()) else bif (ab 10 1 a0 1).2.2 != 0 then oR (((0,0,(false,[],()),(false,[],()),[],()),(ab 10 1 a0 1).2.2,()),()) else bif (ab 5 15 a0 (ab 10 1 a0 1).2.1).2.2 != 0 then oR (((0,0,(false,[],()),(false,[],()),[],()),(ab 5 15 a0 (ab 10 1 a0 1).2.1).2.2,()),()) else bif decide (i32.wrap (al (ab 5 15 a0 (ab 10 1 a0 1).2.1).1)<0) then oR (((0,0,(false,[],()),(false,[],()),[],()),72,()),()) else bif (ac a0 (ab 5 15 a0 (ab 10 1 a0 1).2.1).2.1 (-1)).2.2 != 0 then oR (((0,0,(false,[],()),(false,[],()),[],()),(ac a0 (ab 5 15 a0 (ab 10 1 a0 1).2.1).2.1 (-1)).2.2,()),()) else bif (ac a0 (ac a0 (ab 5 15 a0 (ab 10 1 a0 1).2.1).2.1 (-1)).2.1 (-1)).2.2 != 0 then oR (((0,0,(false,[],()),(false,[],()),[],()),(ac a0 (ac a0 (ab 5 15 a0 (ab 10 1 a0 1).2.1).2.1 (-1)).2.1 (-1)).2.2,()),()) else bif (av a0 (ac a0 (ac a0 (ab 5 15 a0 (ab 10 1 a0 1).2.1).2.1 (-1)).2.1 (-1)).2.1).2.2 != 0 then oR (((0,0,(false,[],()),(false,[],()),[],()),(av a0 (ac a0 (ac a0 (ab 5 15 a0 (ab 10 1 a0 1).2.1).2.1 (-1)).2.1 (-1)).2.1).2.2,()),()) else bif decide ((av a0 (ac a0 (ac a0 (ab 5 15 a0 (ab 10 1 a0 1).2.1).2.1 (-1)).2.1 (-1)).2.1).2.1<(↑a0.length:Int)) then oR (((0,0,(false,[],()),(false,[],()),[],()),2,()),()) else oR (((al (ab 10 1 a0 1).1,i32.wrap (al (ab 5 15 a0 (ab 10 1 a0 1).2.1).1),((ac a0 (ab 5 15 a0 (ab 10 1 a0 1).2.1).2.1 (-1)).1.1,(ac a0 (ab 5 15 a0 (ab 10 1 a0 1).2.1).2.1 (-1)).1.2.1,()),((ac a0 (ac a0 (ab 5 15 a0 (ab 10 1 a0 1).2.1).2.1 (-1)).2.1 (-1)).1.1,(ac a0 (ac a0 (ab 5 15 a0 (ab 10 1 a0 1).2.1).2.1 (-1)).2.1 (-1)).1.2.1,()),(av a0 (ac a0 (ac a0 (ab 5 15 a0 (ab 10 1 a0 1).2.1).2.1 (-1)).2.1 (-1)).2.1).1,()),0,()),()) else none
theorem Pa (a0:LI):Io.run tt P0 dr Lq n7 Tryz.f151 ((a0,()),())=Bl a0:=by kernel_rfl
theorem Qj:HcOk prog 151 (ah n7 JQ):=by
 refine bQ (cs:=Km) (.cons Ho (.cons Aq (.cons Hs (.cons LY .nil)))) (lp:=Lq) (fn:=Tryz.f151) n7 (.done (by kernel_rfl)) JQ ?_
 rintro ⟨⟨(b:LI),⟨⟩⟩,⟨⟩⟩ out hw ho
 cases ho
 refine (Pa b).trans ?_
 show _=oR (((aQ b).1,(aQ b).2,()),())
 unfold Bl
 by_cases h0:b.length=0
 ·have e:aQ b=(aI,1):=by unfold aQ;rw[if_pos h0]
  rw[e,aa (by simp[h0])]
  first | done | rfl
 rw[af (beq_false_of_ne (by omega)),aa (by rw[zA,zB,zB];omega)]
 by_cases h1:b.getD 0 0=0
 rotate_left
 ·have e:aQ b=(aI,71):=by unfold aQ;rw[if_neg h0,if_pos h1]
  have h1':b.getD (Int.toNat 0) 0≠0:=h1
  rw[e,aa (by simpa using h1')]
  first | done | rfl
 have h1':b.getD (Int.toNat 0) 0=0:=h1
 rw[af (by simpa using h1')]
 by_cases h2:(ab 10 1 b 1).2.2=0
 rotate_left
 ·have e:aQ b=(aI,(ab 10 1 b 1).2.2):=by unfold aQ;rw[if_neg h0,if_neg (by simpa using h1),if_pos h2]
  rw[e,aa (by simpa using h2)]
  first | done | rfl
 rw[af (by simpa using h2)]
 generalize hq1:(ab 10 1 b 1).2.1=q1
 change (bif (ag b q1).2.2 != 0 then oR ((aI,(ag b q1).2.2,()),()) else bif decide ((ag b q1).1<0) then oR ((aI,72,()),()) else bif (ac b (ag b q1).2.1 (-1)).2.2 != 0 then oR ((aI,(ac b (ag b q1).2.1 (-1)).2.2,()),()) else
  bif (ac b (ac b (ag b q1).2.1 (-1)).2.1 (-1)).2.2 != 0 then oR ((aI,(ac b (ac b (ag b q1).2.1 (-1)).2.1 (-1)).2.2,()),()) else
  bif (av b (ac b (ac b (ag b q1).2.1 (-1)).2.1 (-1)).2.1).2.2 != 0 then oR ((aI,(av b (ac b (ac b (ag b q1).2.1 (-1)).2.1 (-1)).2.1).2.2,()),()) else
  bif decide ((av b (ac b (ac b (ag b q1).2.1 (-1)).2.1 (-1)).2.1).2.1<(b.length:Int)) then oR ((aI,2,()),()) else
  oR (((al (ab 10 1 b 1).1,(ag b q1).1,(ac b (ag b q1).2.1 (-1)).1,(ac b (ac b (ag b q1).2.1 (-1)).2.1 (-1)).1,(av b (ac b (ac b (ag b q1).2.1 (-1)).2.1 (-1)).2.1).1,()),0,()),()))=_
 have e:aQ b=if (ag b q1).2.2≠0 then (aI,(ag b q1).2.2) else if (ag b q1).1<0 then (aI,72) else if (ac b (ag b q1).2.1 (-1)).2.2≠0 then (aI,(ac b (ag b q1).2.1 (-1)).2.2) else
  if (ac b (ac b (ag b q1).2.1 (-1)).2.1 (-1)).2.2≠0 then (aI,(ac b (ac b (ag b q1).2.1 (-1)).2.1 (-1)).2.2) else
  if (av b (ac b (ac b (ag b q1).2.1 (-1)).2.1 (-1)).2.1).2.2≠0 then (aI,(av b (ac b (ac b (ag b q1).2.1 (-1)).2.1 (-1)).2.1).2.2) else
  if (av b (ac b (ac b (ag b q1).2.1 (-1)).2.1 (-1)).2.1).2.1<(b.length:Int) then (aI,2) else
  ((al (ab 10 1 b 1).1,(ag b q1).1,(ac b (ag b q1).2.1 (-1)).1,(ac b (ac b (ag b q1).2.1 (-1)).2.1 (-1)).1,(av b (ac b (ac b (ag b q1).2.1 (-1)).2.1 (-1)).2.1).1,()),0):=by
  unfold aQ;rw[if_neg h0,if_neg (by simpa using h1),if_neg (by simpa using h2),hq1]
 rw[e]
 generalize ag b q1=n1
 generalize ac b n1.2.1 (-1)=n2
 generalize ac b n2.2.1 (-1)=n3
 generalize av b n3.2.1=n4
 simp only[cond_eq_ite,bne_iff_ne,zB]
 split
 ·rfl
 split
 ·rfl
 split
 ·rfl
 split
 ·rfl
 split
 ·rfl
 split
 ·rfl
 first | done | rfl
abbrev ky:Io:=⟨[dL,dI],[],[],[BP,dI,dI],none⟩
def DM (d:ky.In):Tr ky.Res:=.ret (.ret (((an d.1.1 d.1.2.1).1,(an d.1.1 d.1.2.1).2.1,(an d.1.1 d.1.2.1).2.2,()),()))
abbrev FO:List (Nat×Hc):=[(150,ah cQ wa),(151,ah n7 JQ)]
def NS:Hd:=bG FO
def GR:Lp:=bM []
def wI (a0:LI)(a1:Int):Option ky.Res:=bif (ab 5 15 a0 a1).2.2 != 0 then oR (((0,0,(false,[],()),(false,[],()),[],()),0,(ab 5 15 a0 a1).2.2,()),()) else bif decide (i32.wrap (al (ab 5 15 a0 a1).1)<0) then oR (((0,0,(false,[],()),(false,[],()),[],()),0,5,()),()) else bif decide (16384<i32.wrap (al (ab 5 15 a0 a1).1)) then oR (((0,0,(false,[],()),(false,[],()),[],()),0,4,()),()) else bif decide (i64.wrap ((↑a0.length:Int) - (ab 5 15 a0 a1).2.1)<i64.wrap (i32.wrap (al (ab 5 15 a0 a1).1))) then oR (((0,0,(false,[],()),(false,[],()),[],()),0,1,()),()) else bif decide (0≤(ab 5 15 a0 a1).2.1)&&(decide ((ab 5 15 a0 a1).2.1≤i64.wrap ((ab 5 15 a0 a1).2.1+i64.wrap (i32.wrap (al (ab 5 15 a0 a1).1))))&&decide (i64.wrap ((ab 5 15 a0 a1).2.1+i64.wrap (i32.wrap (al (ab 5 15 a0 a1).1)))≤(↑a0.length:Int))) then bif (aQ (List.drop (ab 5 15 a0 a1).2.1.toNat (List.take (i64.wrap ((ab 5 15 a0 a1).2.1+i64.wrap (i32.wrap (al (ab 5 15 a0 a1).1)))).toNat a0))).2 != 0 then oR (((0,0,(false,[],()),(false,[],()),[],()),0,(aQ (List.drop (ab 5 15 a0 a1).2.1.toNat (List.take (i64.wrap ((ab 5 15 a0 a1).2.1+i64.wrap (i32.wrap (al (ab 5 15 a0 a1).1)))).toNat a0))).2,()),()) else oR ((((aQ (List.drop (ab 5 15 a0 a1).2.1.toNat (List.take (i64.wrap ((ab 5 15 a0 a1).2.1+i64.wrap (i32.wrap (al (ab 5 15 a0 a1).1)))).toNat a0))).1.1,(aQ (List.drop (ab 5 15 a0 a1).2.1.toNat (List.take (i64.wrap ((ab 5 15 a0 a1).2.1+i64.wrap (i32.wrap (al (ab 5 15 a0 a1).1)))).toNat a0))).1.2.1,((aQ (List.drop (ab 5 15 a0 a1).2.1.toNat (List.take (i64.wrap ((ab 5 15 a0 a1).2.1+i64.wrap (i32.wrap (al (ab 5 15 a0 a1).1)))).toNat a0))).1.2.2.1.1,(aQ (List.drop (ab 5 15 a0 a1).2.1.toNat (List.take (i64.wrap ((ab 5 15 a0 a1).2.1+i64.wrap (i32.wrap (al (ab 5 15 a0 a1).1)))).toNat a0))).1.2.2.1.2.1,()),((aQ (List.drop (ab 5 15 a0 a1).2.1.toNat (List.take (i64.wrap ((ab 5 15 a0 a1).2.1+i64.wrap (i32.wrap (al (ab 5 15 a0 a1).1)))).toNat a0))).1.2.2.2.1.1,(aQ (List.drop (ab 5 15 a0 a1).2.1.toNat (List.take (i64.wrap ((ab 5 15 a0 a1).2.1+i64.wrap (i32.wrap (al (ab 5 15 a0 a1).1)))).toNat a0))).1.2.2.2.1.2.1,()),(aQ (List.drop (ab 5 15 a0 a1).2.1.toNat (List.take (i64.wrap ((ab 5 15 a0 a1).2.1+i64.wrap (i32.wrap (al (ab 5 15 a0 a1).1)))).toNat a0))).1.2.2.2.2.1,()),i64.wrap ((ab 5 15 a0 a1).2.1+i64.wrap (i32.wrap (al (ab 5 15 a0 a1).1))),0,()),()) else none
theorem Ms (a0:LI)(a1:Int):Io.run tt NS dr GR ky Tryz.f115 ((a0,a1,()),())=wI a0 a1:=by kernel_rfl
theorem OC:HcOk prog 115 (ah ky DM):=by
 refine bQ (cs:=FO) (.cons Aq (.cons Qj .nil)) (lp:=GR) (fn:=Tryz.f115) ky (.done (by kernel_rfl)) DM ?_
 rintro ⟨⟨(b:LI),(p:Int),⟨⟩⟩,⟨⟩⟩ out hw ho
 cases ho
 refine (Ms b p).trans ?_
 have hb:b.length≤maxLen:=hw.1.1.1
 rw[ba] at hb
 show _=oR (((an b p).1,(an b p).2.1,(an b p).2.2,()),())
 have hr:=@cW b p
 unfold wI
 by_cases h0:(ag b p).2.2=0
 rotate_left
 ·have h0':(ab 5 15 b p).2.2≠0:=h0
  have e:an b p=(aI,0,(ab 5 15 b p).2.2):=by unfold an;rw[if_pos h0];rfl
  rw[e,aa (by simpa using h0')]
  first | done | rfl
 have hk:=dF h0
 have h0':(ab 5 15 b p).2.2=0:=h0
 rw[af (by simpa using h0')]
 generalize hq:(ab 5 15 b p).2.1=q
 generalize hn:IntKind.wrap .i32 (al (ab 5 15 b p).1)=n
 have hq:(ag b p).2.1=q:=hq
 have hn:(ag b p).1=n:=hn
 have e0:an b p=if n<0 then (aI,0,5) else if 16384<n then (aI,0,4) else if (b.length:Int) - q<n then (aI,0,1)
   else if (aQ ((b.drop q.toNat).take n.toNat)).2≠0 then (aI,0,(aQ ((b.drop q.toNat).take n.toNat)).2)
   else ((aQ ((b.drop q.toNat).take n.toNat)).1,q+n,0):=by unfold an;rw[if_neg (by simpa using h0),hq,hn]
 rw[e0]
 rw[hq] at hk
 rw[hn] at hr
 by_cases h1:n<0
 ·rw[aa (by simpa using h1),if_pos h1]
  first | done | rfl
 rw[af (by simpa using h1),if_neg h1]
 by_cases h2:16384<n
 ·rw[aa (by simpa using h2),if_pos h2]
  first | done | rfl
 rw[af (by simpa using h2),if_neg h2,ae (n:=(b.length:Int) - q) (by omega) (by omega),ae (n:=n) (by omega) (by omega)]
 by_cases h3:(b.length:Int) - q<n
 ·rw[aa (by simpa using h3),if_pos h3]
  first | done | rfl
 rw[af (by simpa using h3),if_neg h3,ae (n:=q+n) (by omega) (by omega),aa (by simp;omega),List.drop_take,show (q+n).toNat - q.toNat=n.toNat by omega]
 generalize aQ ((b.drop q.toNat).take n.toNat)=r
 simp only[cond_eq_ite,bne_iff_ne,zB]
 split
 ·rfl
 ·rfl
abbrev Qv:Ty:=.prod (.int .i64) .unit
abbrev qT:Option (Nat×Ty):=some (169,Qv)
abbrev QM:List Sh:=[dL,dI]
abbrev ff:Io:=⟨[.ptr 0 0],[QM],[],[dI],qT⟩
def lx (d:ff.In):Tr ff.Res:=
 .ite (decide ((ag d.2.1.1 d.2.1.2.1).2.2=0)) (.ret (.ret (((ag d.2.1.1 d.2.1.2.1).1,()),((d.2.1.1,((ag d.2.1.1 d.2.1.2.1).2.1,())),())))) (.ret (.pan ((ag d.2.1.1 d.2.1.2.1).2.2,())))
abbrev xh:List (Nat×Hc):=[(111,ah gq sr)]
def If:Hd:=bG xh
def xI:Lp:=bM []
def rl (a0:LI)(a1:Int):Option ff.Res:=bif (ab 5 15 a0 a1).2.2 != 0 then some (Out.pan ((ab 5 15 a0 a1).2.2,())) else oR ((i64.wrap (i32.wrap (al (ab 5 15 a0 a1).1)),()),(a0,(ab 5 15 a0 a1).2.1,()),())
theorem Ez (a0:LI)(a1:Int):Io.run tt If dr xI ff Tryz.f140 (((),()),(a0,a1,()),())=rl a0 a1:=by kernel_rfl
theorem xS:HcOk prog 140 (ah ff lx):=by
 refine bQ (cs:=xh) (.cons CN .nil) (lp:=xI) (fn:=Tryz.f140) ff (.done (by kernel_rfl)) lx ?_
 rintro ⟨⟨⟨⟩,⟨⟩⟩,⟨⟨(b:LI),(p:Int),⟨⟩⟩,⟨⟩⟩⟩ out hw ho
 refine (Ez b p).trans ?_
 rw[← ho]
 have hr:=@cW b p
 unfold rl lx
 change (bif (ag b p).2.2 != 0 then some (Out.pan ((ag b p).2.2,())) else oR ((i64.wrap (ag b p).1,()),(b,(ag b p).2.1,()),()))=_
 rw[ae (n:=(ag b p).1) (by omega) (by omega)]
 simp only[Tr.val_ite,Tr.val_ret,zB]
 by_cases h:(ag b p).2.2=0
 ·rw[af (by simpa using h),if_pos h]
 ·rw[aa (by simpa using h),if_neg h]
abbrev gH:Io:=⟨[.ptr 0 0,dI],[QM],[],[dO],qT⟩
def tl (d:gH.In):Tr gH.Res:=
 .ite (decide ((0:Int)≤d.1.2.1)&&(decide (d.1.2.1≤(4294967296:Int))&&(decide ((0:Int)≤d.2.1.2.1)&&decide (d.2.1.2.1≤(d.2.1.1.length:Int)))))
  (.ite (decide ((d.2.1.1.length:Int) - d.2.1.2.1<d.1.2.1)) (.ret (.pan (1,()))) (.ret (.ret (((d.2.1.1.drop d.2.1.2.1.toNat).take d.1.2.1.toNat,()),((d.2.1.1,((d.2.1.2.1:Int)+d.1.2.1,())),()))))) .no
abbrev FE:List (Nat×Hc):=[(47,ah eG oN)]
def NL:Hd:=bG FE
def GK:Lp:=bM []
def ww (a0:Int)(a1:LI)(a2:Int):Option gH.Res:=bif decide (i64.wrap ((↑a1.length:Int) - a2)<a0) then some (Out.pan (1,())) else bif decide (0≤i64.wrap (i64.wrap (a2+a0) - a0))&&(decide (i64.wrap (i64.wrap (a2+a0) - a0)≤i64.wrap (a2+a0))&&decide (i64.wrap (a2+a0)≤(↑a1.length:Int))) then bif decide ((List.drop (i64.wrap (i64.wrap (a2+a0) - a0)).toNat (List.take (i64.wrap (a2+a0)).toNat a1)).length≤4294967296) then oR ((List.drop (i64.wrap (i64.wrap (a2+a0) - a0)).toNat (List.take (i64.wrap (a2+a0)).toNat a1),()),(a1,i64.wrap (a2+a0),()),()) else none else none
theorem Mg (a0:Int)(a1:LI)(a2:Int):Io.run tt NL dr GK gH Tryz.f139 (((),a0,()),(a1,a2,()),())=ww a0 a1 a2:=by kernel_rfl
theorem Ap:HcOk prog 139 (ah gH tl):=by
 refine bQ (cs:=FE) (.cons uM .nil) (lp:=GK) (fn:=Tryz.f139) gH (.done (by kernel_rfl)) tl ?_
 rintro ⟨⟨⟨⟩,(n:Int),⟨⟩⟩,⟨⟨(b:LI),(p:Int),⟨⟩⟩,⟨⟩⟩⟩ out hw ho
 obtain ⟨hg,ho⟩:=Tr.guard ho
 simp only[zA,zB] at hg
 have h0:0≤n:=hg.1
 have h1:n≤4294967296:=hg.2.1
 have h2:0≤p:=hg.2.2.1
 have h3:p≤b.length:=hg.2.2.2
 refine (Mg n b p).trans ?_
 rw[← ho]
 have hb:b.length≤maxLen:=hw.2.1.1.1
 rw[ba] at hb
 unfold ww
 rw[ae (n:=(b.length:Int) - p) (by omega) (by omega)]
 simp only[Tr.val_ite,Tr.val_ret,zB]
 by_cases h:(b.length:Int) - p<n
 ·rw[aa (by simpa using h),if_pos h]
 ·rw[af (by simpa using h),if_neg h,ae (n:=p+n) (by omega) (by omega),show p+n - n=p by omega,ae (n:=p) (by omega) (by omega)]
  rw[aa (by simp;omega),List.drop_take,show (p+n).toNat - p.toNat=n.toNat by omega,aa (by simp;omega)]
abbrev fp:Io:=⟨[.ptr 0 0,dI],[QM],[],[dI],qT⟩
def mH (d:fp.In):Tr fp.Res:=
 .ite (decide ((ag d.2.1.1 d.2.1.2.1).2.2=0)) (.ite (decide ((ag d.2.1.1 d.2.1.2.1).1<d.1.2.1)) (.ret (.pan (5,()))) (.ret (.ret (((ag d.2.1.1 d.2.1.2.1).1,()),((d.2.1.1,((ag d.2.1.1 d.2.1.2.1).2.1,())),())))))
  (.ret (.pan ((ag d.2.1.1 d.2.1.2.1).2.2,())))
abbrev BC:List (Nat×Hc):=[(140,ah ff lx)]
def KQ:Hd:=bG BC
def CD:Lp:=bM []
def tM (a0:Int)(a1:LI)(a2:Int):Option fp.Res:=bif decide ((ab 5 15 a1 a2).2.2=0) then bif decide (i32.wrap (al (ab 5 15 a1 a2).1)<a0) then some (Out.pan (5,())) else oR ((i32.wrap (al (ab 5 15 a1 a2).1),()),(a1,(ab 5 15 a1 a2).2.1,()),()) else some (Out.pan ((ab 5 15 a1 a2).2.2,()))
theorem IS (a0:Int)(a1:LI)(a2:Int):Io.run tt KQ dr CD fp Tryz.f142 (((),a0,()),(a1,a2,()),())=tM a0 a1 a2:=by kernel_rfl
theorem uL:HcOk prog 142 (ah fp mH):=by
 refine bQ (cs:=BC) (.cons xS .nil) (lp:=CD) (fn:=Tryz.f142) fp (.done (by kernel_rfl)) mH ?_
 rintro ⟨⟨⟨⟩,(l:Int),⟨⟩⟩,⟨⟨(b:LI),(p:Int),⟨⟩⟩,⟨⟩⟩⟩ out hw ho
 refine (IS l b p).trans ?_
 rw[← ho]
 unfold tM mH
 change (bif decide ((ag b p).2.2=0) then bif decide ((ag b p).1<l) then some (Out.pan (5,())) else oR (((ag b p).1,()),(b,(ag b p).2.1,()),()) else some (Out.pan ((ag b p).2.2,())))=_
 simp only[Tr.val_ite,Tr.val_ret,cond_eq_ite]
abbrev jb:Io:=⟨[.ptr 0 0],[QM],[],[Gc],qT⟩
def tk (d:jb.In):Tr jb.Res:=
 .ite (decide ((ac d.2.1.1 d.2.1.2.1 (-1)).2.2=0)) (.ret (.ret (((ac d.2.1.1 d.2.1.2.1 (-1)).1,()),((d.2.1.1,((ac d.2.1.1 d.2.1.2.1 (-1)).2.1,())),())))) (.ret (.pan ((ac d.2.1.1 d.2.1.2.1 (-1)).2.2,())))
abbrev FD:List (Nat×Hc):=[(142,ah fp mH),(139,ah gH tl)]
def NK:Hd:=bG FD
def GJ:Lp:=bM []
def wv (a0:LI)(a1:Int):Option jb.Res:=bif decide ((ab 5 15 a0 a1).2.2=0) then bif decide (i32.wrap (al (ab 5 15 a0 a1).1) < -1) then some (Out.pan (5,())) else bif decide (i32.wrap (al (ab 5 15 a0 a1).1)<0) then oR (((true,[],()),()),(a0,(ab 5 15 a0 a1).2.1,()),()) else bif decide (0≤i32.wrap (al (ab 5 15 a0 a1).1))&&(decide (i32.wrap (al (ab 5 15 a0 a1).1)≤4294967296)&&(decide (0≤(ab 5 15 a0 a1).2.1)&&decide ((ab 5 15 a0 a1).2.1≤(↑a0.length:Int)))) then bif decide ((↑a0.length:Int) - (ab 5 15 a0 a1).2.1<i32.wrap (al (ab 5 15 a0 a1).1)) then some (Out.pan (1,())) else oR (((false,List.take (i32.wrap (al (ab 5 15 a0 a1).1)).toNat (List.drop (ab 5 15 a0 a1).2.1.toNat a0),()),()),(a0,(ab 5 15 a0 a1).2.1+i32.wrap (al (ab 5 15 a0 a1).1),()),()) else none else some (Out.pan ((ab 5 15 a0 a1).2.2,()))
theorem Mf (a0:LI)(a1:Int):Io.run tt NK dr GJ jb Tryz.f141 (((),()),(a0,a1,()),())=wv a0 a1:=by kernel_rfl
theorem Hl:HcOk prog 141 (ah jb tk):=by
 refine bQ (cs:=FD) (.cons uL (.cons Ap .nil)) (lp:=GJ) (fn:=Tryz.f141) jb (.done (by kernel_rfl)) tk ?_
 rintro ⟨⟨⟨⟩,⟨⟩⟩,⟨⟨(b:LI),(p:Int),⟨⟩⟩,⟨⟩⟩⟩ out hw ho
 refine (Mf b p).trans ?_
 rw[← ho]
 have hr:=@cW b p
 unfold wv tk
 simp only[Tr.val_ite,Tr.val_ret,zB]
 change (bif decide ((ag b p).2.2=0) then bif decide ((ag b p).1 < -1) then some (Out.pan (5,())) else bif decide ((ag b p).1<0) then oR (((true,[],()),()),(b,(ag b p).2.1,()),()) else
  bif decide (0≤(ag b p).1)&&(decide ((ag b p).1≤4294967296)&&(decide (0≤(ag b p).2.1)&&decide ((ag b p).2.1≤(b.length:Int)))) then bif decide ((b.length:Int) - (ag b p).2.1<(ag b p).1) then some (Out.pan (1,())) else
   oR (((false,List.take (ag b p).1.toNat (List.drop (ag b p).2.1.toNat b),()),()),(b,(ag b p).2.1+(ag b p).1,()),()) else none else some (Out.pan ((ag b p).2.2,())))=_
 by_cases h0:(ag b p).2.2=0
 rotate_left
 ·have e:ac b p (-1)=((false,[],()),0,(ag b p).2.2):=by unfold ac;rw[if_pos h0]
  rw[e,af (by simpa using h0),if_neg h0]
 have hk:=dF h0
 rw[aa (by simpa using h0)]
 by_cases h1:(ag b p).1 < -1
 ·have e:ac b p (-1)=((false,[],()),0,5):=by unfold ac;rw[if_neg (by simpa using h0),if_pos h1]
  rw[e,aa (by simpa using h1)]
  rfl
 rw[af (by simpa using h1)]
 by_cases h2:(ag b p).1<0
 ·have e:ac b p (-1)=((true,[],()),(ag b p).2.1,0):=by unfold ac;rw[if_neg (by simpa using h0),if_neg h1,if_pos h2]
  rw[e,aa (by simpa using h2)]
  rfl
 rw[af (by simpa using h2),aa (by simp;omega)]
 by_cases h3:(b.length:Int) - (ag b p).2.1<(ag b p).1
 ·have e:ac b p (-1)=((false,[],()),0,1):=by unfold ac;rw[if_neg (by simpa using h0),if_neg h1,if_neg h2,if_pos h3]
  rw[e,aa (by simpa using h3)]
  rfl
 ·have e:ac b p (-1)=((false,(b.drop (ag b p).2.1.toNat).take (ag b p).1.toNat,()),(ag b p).2.1+(ag b p).1,0):=by unfold ac;rw[if_neg (by simpa using h0),if_neg h1,if_neg h2,if_neg h3]
  rw[e,af (by simpa using h3)]
  rfl
def bb (b:LI)(p:Int):eB×Int×Int:=
 if (ac b p 0).2.2≠0 then (([],(false,[],()),()),0,(ac b p 0).2.2)
 else if (cv (ac b p 0).1.2.1).2=false then (([],(false,[],()),()),0,6)
 else (((ac b p 0).1.2.1,(ac b (ac b p 0).2.1 (-1)).1,()),(ac b (ac b p 0).2.1 (-1)).2.1,(ac b (ac b p 0).2.1 (-1)).2.2)
abbrev QZ:Sh:=.dat fS true false
abbrev fX:Io:=⟨[.ptr 0 0],[QM],[],[QZ],qT⟩
def oL (d:fX.In):Tr fX.Res:=
 .ite (decide ((bb d.2.1.1 d.2.1.2.1).2.2=0)) (.ret (.ret (((bb d.2.1.1 d.2.1.2.1).1,()),((d.2.1.1,((bb d.2.1.1 d.2.1.2.1).2.1,())),())))) (.ret (.pan ((bb d.2.1.1 d.2.1.2.1).2.2,())))
abbrev xg:List (Nat×Hc):=[(142,ah fp mH),(139,ah gH tl),(170,ah nU JL),(141,ah jb tk)]
def Ie:Hd:=bG xg
def xH:Lp:=bM []
def rk (a0:LI)(a1:Int):Option fX.Res:=bif decide ((ab 5 15 a0 a1).2.2=0) then bif decide (i32.wrap (al (ab 5 15 a0 a1).1)<0) then some (Out.pan (5,())) else bif decide (0≤i32.wrap (al (ab 5 15 a0 a1).1))&&(decide (i32.wrap (al (ab 5 15 a0 a1).1)≤4294967296)&&(decide (0≤(ab 5 15 a0 a1).2.1)&&decide ((ab 5 15 a0 a1).2.1≤(↑a0.length:Int)))) then bif decide ((↑a0.length:Int) - (ab 5 15 a0 a1).2.1<i32.wrap (al (ab 5 15 a0 a1).1)) then some (Out.pan (1,())) else bif !(cv (List.take (i32.wrap (al (ab 5 15 a0 a1).1)).toNat (List.drop (ab 5 15 a0 a1).2.1.toNat a0))).2 then some (Out.pan (6,())) else bif decide ((ac a0 ((ab 5 15 a0 a1).2.1+i32.wrap (al (ab 5 15 a0 a1).1)) (-1)).2.2=0) then oR (((List.take (i32.wrap (al (ab 5 15 a0 a1).1)).toNat (List.drop (ab 5 15 a0 a1).2.1.toNat a0),((ac a0 ((ab 5 15 a0 a1).2.1+i32.wrap (al (ab 5 15 a0 a1).1)) (-1)).1.1,(ac a0 ((ab 5 15 a0 a1).2.1+i32.wrap (al (ab 5 15 a0 a1).1)) (-1)).1.2.1,()),()),()),(a0,(ac a0 ((ab 5 15 a0 a1).2.1+i32.wrap (al (ab 5 15 a0 a1).1)) (-1)).2.1,()),()) else some (Out.pan ((ac a0 ((ab 5 15 a0 a1).2.1+i32.wrap (al (ab 5 15 a0 a1).1)) (-1)).2.2,())) else none else some (Out.pan ((ab 5 15 a0 a1).2.2,()))
theorem Ey (a0:LI)(a1:Int):Io.run tt Ie dr xH fX Tryz.f143 (((),()),(a0,a1,()),())=rk a0 a1:=by kernel_rfl
theorem Iy:HcOk prog 143 (ah fX oL):=by
 refine bQ (cs:=xg) (.cons uL (.cons Ap (.cons Qd (.cons Hl .nil)))) (lp:=xH) (fn:=Tryz.f143) fX (.done (by kernel_rfl)) oL ?_
 rintro ⟨⟨⟨⟩,⟨⟩⟩,⟨⟨(b:LI),(p:Int),⟨⟩⟩,⟨⟩⟩⟩ out hw ho
 refine (Ey b p).trans ?_
 rw[← ho]
 have hr:=@cW b p
 unfold rk oL
 simp only[Tr.val_ite,Tr.val_ret,zB]
 have hn:i32.wrap (al (ab 5 15 b p).1)=(ag b p).1:=rfl
 have hq:(ab 5 15 b p).2.1=(ag b p).2.1:=rfl
 have he:(ab 5 15 b p).2.2=(ag b p).2.2:=rfl
 rw[hn,hq,he]
 by_cases h0:(ag b p).2.2=0
 rotate_left
 ·have e0:ac b p 0=((false,[],()),0,(ag b p).2.2):=by unfold ac;rw[if_pos h0]
  have e:bb b p=(([],(false,[],()),()),0,(ag b p).2.2):=by unfold bb;rw[e0,if_pos h0]
  rw[e,af (by simpa using h0),if_neg h0]
 have hk:=dF h0
 rw[aa (by simpa using h0)]
 by_cases h2:(ag b p).1<0
 ·have e0:ac b p 0=((false,[],()),0,5):=by unfold ac;rw[if_neg (by simpa using h0),if_pos h2]
  have e:bb b p=(([],(false,[],()),()),0,5):=by unfold bb;rw[e0];rfl
  rw[e,aa (by simpa using h2)]
  rfl
 rw[af (by simpa using h2),aa (by simp;omega)]
 by_cases h3:(b.length:Int) - (ag b p).2.1<(ag b p).1
 ·have e0:ac b p 0=((false,[],()),0,1):=by unfold ac;rw[if_neg (by simpa using h0),if_neg h2,if_neg h2,if_pos h3]
  have e:bb b p=(([],(false,[],()),()),0,1):=by unfold bb;rw[e0];rfl
  rw[e,aa (by simpa using h3)]
  rfl
 have e0:ac b p 0=((false,(b.drop (ag b p).2.1.toNat).take (ag b p).1.toNat,()),(ag b p).2.1+(ag b p).1,0):=by unfold ac;rw[if_neg (by simpa using h0),if_neg h2,if_neg h2,if_neg h3]
 rw[af (by simpa using h3)]
 by_cases h4:(cv ((b.drop (ag b p).2.1.toNat).take (ag b p).1.toNat)).2=false
 ·have e:bb b p=(([],(false,[],()),()),0,6):=by
   unfold bb
   rw[e0,if_neg (by simp),if_pos h4]
  rw[e,h4]
  rfl
 have e:bb b p=(((b.drop (ag b p).2.1.toNat).take (ag b p).1.toNat,(ac b ((ag b p).2.1+(ag b p).1) (-1)).1,()),(ac b ((ag b p).2.1+(ag b p).1) (-1)).2.1,(ac b ((ag b p).2.1+(ag b p).1) (-1)).2.2):=by
  unfold bb
  rw[e0,if_neg (by simp),if_neg h4]
 rw[e,af (by simpa using h4)]
 simp only[cond_eq_ite,zB]
abbrev nS:Io:=⟨[.ptr 0 0],[QM],[],[BP],qT⟩
def Dj (b:LI):Int:=(av b (ac b (ac b (ag b (ab 10 1 b 1).2.1).2.1 (-1)).2.1 (-1)).2.1).2.1
def JJ (d:nS.In):Tr nS.Res:=
 .ite (decide (d.2.1.2.1=(0:Int))) (.ite (decide ((aQ d.2.1.1).2=0)) (.ret (.ret (((aQ d.2.1.1).1,()),((d.2.1.1,(Dj d.2.1.1,())),())))) (.ret (.pan ((aQ d.2.1.1).2,())))) .no
abbrev y8:List (Nat×Hc):=[(140,ah ff lx),(142,ah fp mH),(139,ah gH tl),(135,ah lU Fh),(141,ah jb tk),(143,ah fX oL)]
def KR:Hd:=bG y8
abbrev dQ:Lo:=⟨⟨(.one (.ptr 0 0)::.any::.one (.ptr 3 0)::.one (.ptr 4 0)::.any::ai (ai (ai (dm (.one hI::.one hI::ai (bz (bk []))))))),[some [.hol (.sl 5 (Ty.int u8)),hI],none,none,some [hI,hJ,hL,.onl 5 (Ty.int u8) 1544,hL,.onl 5 (Ty.int u8) 1548,.onl 206 (Ty.str.prod ((Ty.bool.prod ((Ty.sl 5 (Ty.int u8)).prod Ty.unit)).prod Ty.unit)) 1550],some [hI,hJ,hL,.hol (.sl 5 (Ty.int u8)),hL,.hol (.sl 5 (Ty.int u8)),.onl 206 (Ty.str.prod ((Ty.bool.prod ((Ty.sl 5 (Ty.int u8)).prod Ty.unit)).prod Ty.unit)) 2062]]⟩,[(.panic 169 ((Ty.int i64).prod Ty.unit),⟨(.any::ai (ai (ai (ai (ai (bz [])))))),[]⟩),(.exit 0,⟨(.one (.ptr 0 0)::.any::.one (.ptr 3 0)::.one (.ptr 4 0)::.any::ai (ai (ai (ai (ai []))))),[some [.hol (.sl 5 (Ty.int u8)),hI],none,none,some [hI,hJ,hL,.onl 5 (Ty.int u8) 1544,hL,.onl 5 (Ty.int u8) 1548,.onl 206 (Ty.str.prod ((Ty.bool.prod ((Ty.sl 5 (Ty.int u8)).prod Ty.unit)).prod Ty.unit)) 1550],some [hI,hJ,hL,.hol (.sl 5 (Ty.int u8)),hL,.hol (.sl 5 (Ty.int u8)),.onl 206 (Ty.str.prod ((Ty.bool.prod ((Ty.sl 5 (Ty.int u8)).prod Ty.unit)).prod Ty.unit)) 2062]]⟩)]⟩
def ly (d:dQ.st.den):Tr (ap dQ.xs):=
 .ite (decide (d.1.2.1=(0:Int))&&(decide ((0:Int)≤d.1.1)&&(decide (d.1.1≤(16:Int))&&decide (d.2.2.2.1.2.2.2.2.2.2.1=([]:List eB)))))
  (.ite (decide ((ax d.2.1.1 (d.1.1:Int).toNat [] d.2.1.2.1).2.2=(0:Int)))
   (.ret (.pan (.ret ((),((),((d.2.1.1,((ax d.2.1.1 (d.1.1:Int).toNat [] d.2.1.2.1).2.1,())),(d.2.2.1,((d.2.2.2.1.1,(d.2.2.2.1.2.1,(d.2.2.2.1.2.2.1,(d.2.2.2.1.2.2.2.1,(d.2.2.2.1.2.2.2.2.1,(d.2.2.2.1.2.2.2.2.2.1,((ax d.2.1.1 (d.1.1:Int).toNat [] d.2.1.2.1).1,()))))))),()))))))))
   (.ret (.ret (((ax d.2.1.1 (d.1.1:Int).toNat [] d.2.1.2.1).2.2,()),((),()))))) .no
def zY:Lp:=bM [(19,aD dQ ly)]
def rU {R:Type}(h2 h3:Int)(h4:LI)(h5 h6 h7:Int)(h8:Bool)(h9:LI)(h10:Bool)(h11:LI)(h12:List (Ty.str.prod ((Ty.bool.prod ((Ty.sl 5 (Ty.int u8)).prod Ty.unit)).prod Ty.unit)).den)(h13 h14:Int)(h15:Bool)(h16:LI)(h17:Bool)(h18:LI)(h19:List (Ty.str.prod ((Ty.bool.prod ((Ty.sl 5 (Ty.int u8)).prod Ty.unit)).prod Ty.unit)).den)(next:Int→Int→LI→Int→Int→Int→Bool→LI→Bool→LI→List (Ty.str.prod ((Ty.bool.prod ((Ty.sl 5 (Ty.int u8)).prod Ty.unit)).prod Ty.unit)).den→Int→Int→Bool→LI→Bool→LI→List (Ty.str.prod ((Ty.bool.prod ((Ty.sl 5 (Ty.int u8)).prod Ty.unit)).prod Ty.unit)).den→Option R)(out:ap dQ.xs→Option R):Option R:=bif decide (h3<h2) then bif decide ((bb h4 h5).2.2=0) then bif !([[Sh.dat (Ty.sl 5 (Ty.int u8)) false false,Sh.dat (Ty.int i64) false false]].length+3 == 1+69 || false)&&true&&decide (h19.length+[((bb h4 h5).1.1,((bb h4 h5).1.2.1.1,(bb h4 h5).1.2.1.2.1,()),())].length≤4294967296) then next (h2) (i64.wrap (h3+1)) (h4) ((bb h4 h5).2.1) (h6) (h7) (h8) (h9) (h10) (h11) (h12) (h13) (h14) (h15) (h16) (h17) (h18) (h19++[((bb h4 h5).1.1,((bb h4 h5).1.2.1.1,(bb h4 h5).1.2.1.2.1,()),())]) else none else out (.ret (((bb h4 h5).2.2,()),((),()))) else out (.pan (.ret ((),((),((h4,(h5,())),((h6,(h7,(h8,(h9,(h10,(h11,(h12,()))))))),((h13,(h14,(h15,(h16,(h17,(h18,(h19,()))))))),())))))))
def qM (n:Nat)(h2 h3:Int)(h4:LI)(h5 h6 h7:Int)(h8:Bool)(h9:LI)(h10:Bool)(h11:LI)(h12:List (Ty.str.prod ((Ty.bool.prod ((Ty.sl 5 (Ty.int u8)).prod Ty.unit)).prod Ty.unit)).den)(h13 h14:Int)(h15:Bool)(h16:LI)(h17:Bool)(h18:LI)(h19:List (Ty.str.prod ((Ty.bool.prod ((Ty.sl 5 (Ty.int u8)).prod Ty.unit)).prod Ty.unit)).den):Option (ap dQ.xs):=fJ tt KR dr zY 1 Tryz.f112 (bP Tryz.f112 0) n (dQ.st.mk' ((h2,(h3,())),((h4,(h5,())),((h6,(h7,(h8,(h9,(h10,(h11,(h12,()))))))),((h13,(h14,(h15,(h16,(h17,(h18,(h19,()))))))),()))))) (bt dQ.xs)
theorem Jc (n:Nat)(h2 h3:Int)(h4:LI)(h5 h6 h7:Int)(h8:Bool)(h9:LI)(h10:Bool)(h11:LI)(h12:List (Ty.str.prod ((Ty.bool.prod ((Ty.sl 5 (Ty.int u8)).prod Ty.unit)).prod Ty.unit)).den)(h13 h14:Int)(h15:Bool)(h16:LI)(h17:Bool)(h18:LI)(h19:List (Ty.str.prod ((Ty.bool.prod ((Ty.sl 5 (Ty.int u8)).prod Ty.unit)).prod Ty.unit)).den):qM (n+1) h2 h3 h4 h5 h6 h7 h8 h9 h10 h11 h12 h13 h14 h15 h16 h17 h18 h19=rU h2 h3 h4 h5 h6 h7 h8 h9 h10 h11 h12 h13 h14 h15 h16 h17 h18 h19 (qM n) some:=by kernel_rfl
theorem nu (b:LI)(m:Nat)(o:List eB)(p:Int):ax b (m+1) o p=if (bb b p).2.2≠0 then ([],0,(bb b p).2.2) else ax b m (o++[(bb b p).1]) (bb b p).2.1:=by
 rw[ax]
 by_cases a1:(ac b p 0).2.2=0
 ·rw[if_neg (by simpa using a1)]
  by_cases a2:(cv (ac b p 0).1.2.1).2=false
  ·have e:bb b p=(([],(false,[],()),()),0,6):=by unfold bb;rw[if_neg (by simpa using a1),if_pos a2]
   rw[if_pos a2,e]
   rfl
  ·have e:bb b p=(((ac b p 0).1.2.1,(ac b (ac b p 0).2.1 (-1)).1,()),(ac b (ac b p 0).2.1 (-1)).2.1,(ac b (ac b p 0).2.1 (-1)).2.2):=by unfold bb;rw[if_neg (by simpa using a1),if_neg a2]
   rw[if_neg a2,e]
 ·have e:bb b p=(([],(false,[],()),()),0,(ac b p 0).2.2):=by unfold bb;rw[if_pos a1]
  rw[if_pos a1,e,if_pos a1]
theorem az {α:Type}{a b:α}(h:a=b):¬ a≠b:=fun h'=>h' h
theorem K8 (b:LI)(n:Int)(hn:0≤n)(hn':n≤16)(h6 h7:Int)(h8:Bool)(h9:LI)(h10:Bool)(h11:LI)(h12:List eB)(h13 h14:Int)(h15:Bool)(h16:LI)(h17:Bool)(h18:LI):∀(k m:Nat) (p:Int) (o:List eB) (i:Int),i+m=n→0≤i→m<k→o.length=i.toNat→
  qM k n i b p h6 h7 h8 h9 h10 h11 h12 h13 h14 h15 h16 h17 h18 o=if (ax b m o p).2.2=0 then some (.pan (.ret ((),((),((b,((ax b m o p).2.1,())),((h6,(h7,(h8,(h9,(h10,(h11,(h12,()))))))),((h13,(h14,(h15,(h16,(h17,(h18,((ax b m o p).1,()))))))),()))))))) else some (.ret (((ax b m o p).2.2,()),((),()))):=by
 intro k
 induction k with
 |zero=>intro m p o i h1 h2 h3;omega
 |succ k ih=>
  intro m p o i h1 h2 h3 h4
  rw[Jc]
  unfold rU
  cases m with
  |zero=>
   rw[af (by simp;omega),if_pos (by rfl)]
   rfl
  |succ m=>
   rw[aa (by simp;omega),nu]
   by_cases a1:(bb b p).2.2=0
   ·rw[aa (by simpa using a1),if_neg (az a1)]
    have hg:decide (o.length+[((bb b p).1.1,((bb b p).1.2.1.1,(bb b p).1.2.1.2.1,()),())].length≤4294967296)=true:=decide_eq_true (show o.length+1≤4294967296 by omega)
    rw[aa (by rw[zA];exact ⟨rfl,hg⟩),ae (n:=i+1) (by omega) (by omega)]
    exact ih m _ _ (i+1) (by omega) (by omega) (by omega) (by simp;omega)
   ·rw[af (by simpa using a1),if_pos a1,if_neg a1]
def Bb (a0:LI)(a1:Int):Option nS.Res:=bif decide (0≤1)&&(decide (1≤4294967296)&&(decide (0≤a1)&&decide (a1≤(↑a0.length:Int)))) then bif decide ((↑a0.length:Int) - a1<1) then some (Out.pan (1,())) else bif decide (0≤0)&&decide (0<(↑(List.take (Int.toNat 1) (List.drop a1.toNat a0)).length:Int)) then bif (List.take (Int.toNat 1) (List.drop a1.toNat a0)).getD (Int.toNat 0) 0 != 0 then some (Out.pan (71,())) else bif (ab 10 1 a0 (a1+1)).2.2 != 0 then some (Out.pan ((ab 10 1 a0 (a1+1)).2.2,())) else bif decide ((ab 5 15 a0 (ab 10 1 a0 (a1+1)).2.1).2.2=0) then bif decide (i32.wrap (al (ab 5 15 a0 (ab 10 1 a0 (a1+1)).2.1).1)<0) then some (Out.pan (72,())) else bif decide ((ac a0 (ab 5 15 a0 (ab 10 1 a0 (a1+1)).2.1).2.1 (-1)).2.2=0) then bif decide ((ac a0 (ac a0 (ab 5 15 a0 (ab 10 1 a0 (a1+1)).2.1).2.1 (-1)).2.1 (-1)).2.2=0) then bif decide ((ab 5 15 a0 (ac a0 (ac a0 (ab 5 15 a0 (ab 10 1 a0 (a1+1)).2.1).2.1 (-1)).2.1 (-1)).2.1).2.2=0) then bif decide (i32.wrap (al (ab 5 15 a0 (ac a0 (ac a0 (ab 5 15 a0 (ab 10 1 a0 (a1+1)).2.1).2.1 (-1)).2.1 (-1)).2.1).1)<0) then some (Out.pan (5,())) else bif decide (16<i32.wrap (al (ab 5 15 a0 (ac a0 (ac a0 (ab 5 15 a0 (ab 10 1 a0 (a1+1)).2.1).2.1 (-1)).2.1 (-1)).2.1).1)) then some (Out.pan (9,())) else (ly ((i32.wrap (al (ab 5 15 a0 (ac a0 (ac a0 (ab 5 15 a0 (ab 10 1 a0 (a1+1)).2.1).2.1 (-1)).2.1 (-1)).2.1).1),(0,())),((a0,((ab 5 15 a0 (ac a0 (ac a0 (ab 5 15 a0 (ab 10 1 a0 (a1+1)).2.1).2.1 (-1)).2.1 (-1)).2.1).2.1,())),((0,(0,(false,([],(false,([],([],()))))))),((al (ab 10 1 a0 (a1+1)).1,(i32.wrap (i32.wrap (al (ab 5 15 a0 (ab 10 1 a0 (a1+1)).2.1).1)),((ac a0 (ab 5 15 a0 (ab 10 1 a0 (a1+1)).2.1).2.1 (-1)).1.1,((ac a0 (ab 5 15 a0 (ab 10 1 a0 (a1+1)).2.1).2.1 (-1)).1.2.1,((ac a0 (ac a0 (ab 5 15 a0 (ab 10 1 a0 (a1+1)).2.1).2.1 (-1)).2.1 (-1)).1.1,((ac a0 (ac a0 (ab 5 15 a0 (ab 10 1 a0 (a1+1)).2.1).2.1 (-1)).2.1 (-1)).1.2.1,([],()))))))),()))))).run fun y=>match y with | .ret ((x54,()),((),()))=>(some (Out.pan (x54,()))) | .pan (.ret ((),((),(x55,x56,()),(x57,x58,x59,x60,x61,x62,x63,()),(x64,x65,x66,x67,x68,x69,x70,()),())))=>(bif decide (x56<(↑x55.length:Int)) then some (Out.pan (2,())) else oR (((x64,x65,(x66,x67,()),(x68,x69,()),x70,()),()),(x55,x56,()),())) else some (Out.pan ((ab 5 15 a0 (ac a0 (ac a0 (ab 5 15 a0 (ab 10 1 a0 (a1+1)).2.1).2.1 (-1)).2.1 (-1)).2.1).2.2,())) else some (Out.pan ((ac a0 (ac a0 (ab 5 15 a0 (ab 10 1 a0 (a1+1)).2.1).2.1 (-1)).2.1 (-1)).2.2,())) else some (Out.pan ((ac a0 (ab 5 15 a0 (ab 10 1 a0 (a1+1)).2.1).2.1 (-1)).2.2,())) else some (Out.pan ((ab 5 15 a0 (ab 10 1 a0 (a1+1)).2.1).2.2,())) else none else none
theorem OX (a0:LI)(a1:Int):Io.run tt KR dr zY nS Tryz.f112 (((),()),(a0,a1,()),())=Bb a0 a1:=by kernel_rfl
theorem Qb:HcOk prog 112 (ah nS JJ):=by
 have hcs:HcsOk prog y8:=.cons xS (.cons uL (.cons Ap (.cons LL (.cons Hl (.cons Iy .nil)))))
 refine bQ (cs:=y8) hcs (lp:=zY) (fn:=Tryz.f112) nS
  (.step (h0:=aD dQ ly) (by kernel_rfl) (f9 (cs:=y8) hcs (lp:=zY) (fn:=Tryz.f112) (.done (by kernel_rfl)) dQ ly ?_) (.done (by kernel_rfl))) JJ ?_
 ·rintro ⟨⟨(n:Int),(i:Int),⟨⟩⟩,⟨(b:LI),(p:Int),⟨⟩⟩,⟨(h6:Int),(h7:Int),(h8:Bool),(h9:LI),(h10:Bool),(h11:LI),(h12:List eB),⟨⟩⟩,⟨(h13:Int),(h14:Int),(h15:Bool),(h16:LI),(h17:Bool),(h18:LI),(o:List eB),⟨⟩⟩,⟨⟩⟩ y hw hy
  obtain ⟨hg,hy⟩:=Tr.guard hy
  simp only[zA,zB] at hg
  obtain ⟨hi,h0,hs,ho⟩:=hg
  have hi:i=0:=hi
  have h0:0≤n:=h0
  have hs:n≤16:=hs
  have ho:o=[]:=ho
  subst hi ho
  refine ⟨n.toNat+1,(K8 b n h0 hs h6 h7 h8 h9 h10 h11 h12 h13 h14 h15 h16 h17 h18 _ n.toNat p [] 0 (by omega) (by omega) (by omega) rfl).trans ?_⟩
  rw[← hy]
  simp only[Tr.val_ite,zB,Tr.val_ret]
 ·rintro ⟨⟨⟨⟩,⟨⟩⟩,⟨⟨(b:LI),(p:Int),⟨⟩⟩,⟨⟩⟩⟩ out hw ho
  obtain ⟨hg,ho⟩:=Tr.guard ho
  have hg:p=0:=by simpa using hg
  subst hg
  refine (OX b 0).trans ?_
  rw[← ho]
  simp only[Tr.val_ite,Tr.val_ret,zB]
  unfold Bb
  rw[aa (by simp)]
  by_cases h0:b.length=0
  ·have e:aQ b=(aI,1):=by unfold aQ;rw[if_pos h0]
   rw[e,aa (by simp;omega)]
   rfl
  rw[af (by simp;omega)]
  obtain ⟨c,l,rfl⟩:∃c l,b=c::l:=by
   cases b with
   |nil=>exact absurd rfl h0
   |cons c l=>exact ⟨c,l,rfl⟩
  rw[aa (by simp)]
  by_cases h1:c=0
  rotate_left
  ·have e:aQ (c::l)=(aI,71):=by unfold aQ;rw[if_neg h0,if_pos (by simpa using h1)]
   rw[e,aa (by simpa using h1)]
   rfl
  have h1':(c::l).getD 0 0=0:=h1
  rw[af (by simpa using h1)]
  generalize hb:c::l=b at *
  have hz:(0:Int)+1=1:=rfl
  rw[hz]
  by_cases h2:(ab 10 1 b 1).2.2=0
  rotate_left
  ·have e:aQ b=(aI,(ab 10 1 b 1).2.2):=by unfold aQ;rw[if_neg h0,if_neg (by simpa using h1'),if_pos h2]
   rw[e,aa (by simpa using h2),if_neg h2]
  rw[af (by simpa using h2)]
  have hr:=@cW b
  have hE:Dj b=(av b (ac b (ac b (ag b (ab 10 1 b 1).2.1).2.1 (-1)).2.1 (-1)).2.1).2.1:=rfl
  generalize hq1:(ab 10 1 b 1).2.1=q1 at *
  have eR:aQ b=if (ag b q1).2.2≠0 then (aI,(ag b q1).2.2) else if (ag b q1).1<0 then (aI,72) else if (ac b (ag b q1).2.1 (-1)).2.2≠0 then (aI,(ac b (ag b q1).2.1 (-1)).2.2) else
   if (ac b (ac b (ag b q1).2.1 (-1)).2.1 (-1)).2.2≠0 then (aI,(ac b (ac b (ag b q1).2.1 (-1)).2.1 (-1)).2.2) else
   if (av b (ac b (ac b (ag b q1).2.1 (-1)).2.1 (-1)).2.1).2.2≠0 then (aI,(av b (ac b (ac b (ag b q1).2.1 (-1)).2.1 (-1)).2.1).2.2) else
   if (av b (ac b (ac b (ag b q1).2.1 (-1)).2.1 (-1)).2.1).2.1<(b.length:Int) then (aI,2) else
   ((al (ab 10 1 b 1).1,(ag b q1).1,(ac b (ag b q1).2.1 (-1)).1,(ac b (ac b (ag b q1).2.1 (-1)).2.1 (-1)).1,(av b (ac b (ac b (ag b q1).2.1 (-1)).2.1 (-1)).2.1).1,()),0):=by
   unfold aQ;rw[if_neg h0,if_neg (by simpa using h1'),if_neg (by simpa using h2),hq1]
  have hn:∀p,i32.wrap (al (ab 5 15 b p).1)=(ag b p).1:=fun _=>rfl
  have hq:∀p,(ab 5 15 b p).2.1=(ag b p).2.1:=fun _=>rfl
  have he:∀p,(ab 5 15 b p).2.2=(ag b p).2.2:=fun _=>rfl
  have hw32:i32.wrap (ag b q1).1=(ag b q1).1:=bK (k:=.i32) (bL _ _)
  simp only[hn,hq,he]
  rw[eR,hE,hw32]
  by_cases c1:(ag b q1).2.2=0
  rotate_left
  ·rw[af (by simpa using c1),if_pos c1,if_neg c1]
  rw[aa (by simpa using c1),if_neg (az c1)]
  by_cases c2:(ag b q1).1<0
  ·rw[aa (by simpa using c2),if_pos c2];rfl
  rw[af (by simpa using c2),if_neg c2]
  generalize hT1:ac b (ag b q1).2.1 (-1)=T1
  by_cases c3:T1.2.2=0
  rotate_left
  ·rw[af (by simpa using c3),if_pos c3,if_neg c3]
  rw[aa (by simpa using c3),if_neg (az c3)]
  generalize hT2:ac b T1.2.1 (-1)=T2
  by_cases c4:T2.2.2=0
  rotate_left
  ·rw[af (by simpa using c4),if_pos c4,if_neg c4]
  rw[aa (by simpa using c4),if_neg (az c4)]
  by_cases c5:(ag b T2.2.1).2.2=0
  rotate_left
  ·have eH:av b T2.2.1=([],0,(ag b T2.2.1).2.2):=by unfold av;rw[if_pos c5]
   rw[af (by simpa using c5),eH,if_pos c5,if_neg c5]
  rw[aa (by simpa using c5)]
  by_cases c6:(ag b T2.2.1).1<0
  ·have eH:av b T2.2.1=([],0,5):=by unfold av;rw[if_neg (az c5),if_pos c6]
   rw[aa (by simpa using c6),eH];rfl
  rw[af (by simpa using c6)]
  by_cases c7:16<(ag b T2.2.1).1
  ·have eH:av b T2.2.1=([],0,9):=by unfold av;rw[if_neg (az c5),if_neg c6,if_pos c7]
   rw[aa (by simpa using c7),eH];rfl
  have eH:av b T2.2.1=ax b (ag b T2.2.1).1.toNat [] (ag b T2.2.1).2.1:=by unfold av;rw[if_neg (az c5),if_neg c6,if_neg c7]
  rw[af (by simpa using c7),eH]
  unfold ly
  simp only[Tr.run_ite,Tr.run_ret]
  have hgd:(decide True&&(decide ((0:Int)≤(ag b T2.2.1).1)&&(decide ((ag b T2.2.1).1≤(16:Int))&&decide True)))=true:=by
   simp only[zA,zB]
   exact ⟨trivial,by omega,by omega,trivial⟩
  rw[if_pos hgd]
  generalize ax b (ag b T2.2.1).1.toNat [] (ag b T2.2.1).2.1=r
  by_cases c8:r.2.2=0
  ·rw[if_pos (decide_eq_true c8),if_neg (az c8)]
   by_cases c9:r.2.1<(b.length:Int)
   ·simp only[c9,decide_true,cond_true,if_true]
    rfl
   ·simp only[c9,decide_false,cond_false,if_false]
    rfl
  ·rw[if_neg (by simpa using c8),if_pos c8,if_neg c8]
abbrev nR:Io:=⟨[dL,dI],[],[],[BP,dI,dI],none⟩
def JI (d:nR.In):Tr nR.Res:=.ret (.ret (((an d.1.1 d.1.2.1).1,(an d.1.1 d.1.2.1).2.1,(an d.1.1 d.1.2.1).2.2,()),()))
abbrev Kc:List (Nat×Hc):=[(111,ah gq sr),(112,ah nS JJ)]
def PR:Hd:=bG Kc
def Ld:Lp:=bM []
def Ba (a0:LI)(a1:Int):Option nR.Res:=bif (ab 5 15 a0 a1).2.2 != 0 then oR (((0,0,(false,[],()),(false,[],()),[],()),0,(ab 5 15 a0 a1).2.2,()),()) else bif decide (i32.wrap (al (ab 5 15 a0 a1).1)<0) then oR (((0,0,(false,[],()),(false,[],()),[],()),0,5,()),()) else bif decide (16384<i32.wrap (al (ab 5 15 a0 a1).1)) then oR (((0,0,(false,[],()),(false,[],()),[],()),0,4,()),()) else bif decide (i64.wrap ((↑a0.length:Int) - (ab 5 15 a0 a1).2.1)<i64.wrap (i32.wrap (al (ab 5 15 a0 a1).1))) then oR (((0,0,(false,[],()),(false,[],()),[],()),0,1,()),()) else bif decide (0≤(ab 5 15 a0 a1).2.1)&&(decide ((ab 5 15 a0 a1).2.1≤i64.wrap ((ab 5 15 a0 a1).2.1+i64.wrap (i32.wrap (al (ab 5 15 a0 a1).1))))&&(decide (i64.wrap ((ab 5 15 a0 a1).2.1+i64.wrap (i32.wrap (al (ab 5 15 a0 a1).1)))≤i64.wrap ((ab 5 15 a0 a1).2.1+i64.wrap (i32.wrap (al (ab 5 15 a0 a1).1))))&&decide (i64.wrap ((ab 5 15 a0 a1).2.1+i64.wrap (i32.wrap (al (ab 5 15 a0 a1).1)))≤(↑a0.length:Int)))) then bif decide ((aQ (List.drop (ab 5 15 a0 a1).2.1.toNat (List.take (i64.wrap ((ab 5 15 a0 a1).2.1+i64.wrap (i32.wrap (al (ab 5 15 a0 a1).1)))).toNat a0))).2=0) then oR ((((aQ (List.drop (ab 5 15 a0 a1).2.1.toNat (List.take (i64.wrap ((ab 5 15 a0 a1).2.1+i64.wrap (i32.wrap (al (ab 5 15 a0 a1).1)))).toNat a0))).1.1,(aQ (List.drop (ab 5 15 a0 a1).2.1.toNat (List.take (i64.wrap ((ab 5 15 a0 a1).2.1+i64.wrap (i32.wrap (al (ab 5 15 a0 a1).1)))).toNat a0))).1.2.1,((aQ (List.drop (ab 5 15 a0 a1).2.1.toNat (List.take (i64.wrap ((ab 5 15 a0 a1).2.1+i64.wrap (i32.wrap (al (ab 5 15 a0 a1).1)))).toNat a0))).1.2.2.1.1,(aQ (List.drop (ab 5 15 a0 a1).2.1.toNat (List.take (i64.wrap ((ab 5 15 a0 a1).2.1+i64.wrap (i32.wrap (al (ab 5 15 a0 a1).1)))).toNat a0))).1.2.2.1.2.1,()),((aQ (List.drop (ab 5 15 a0 a1).2.1.toNat (List.take (i64.wrap ((ab 5 15 a0 a1).2.1+i64.wrap (i32.wrap (al (ab 5 15 a0 a1).1)))).toNat a0))).1.2.2.2.1.1,(aQ (List.drop (ab 5 15 a0 a1).2.1.toNat (List.take (i64.wrap ((ab 5 15 a0 a1).2.1+i64.wrap (i32.wrap (al (ab 5 15 a0 a1).1)))).toNat a0))).1.2.2.2.1.2.1,()),(aQ (List.drop (ab 5 15 a0 a1).2.1.toNat (List.take (i64.wrap ((ab 5 15 a0 a1).2.1+i64.wrap (i32.wrap (al (ab 5 15 a0 a1).1)))).toNat a0))).1.2.2.2.2.1,()),i64.wrap ((ab 5 15 a0 a1).2.1+i64.wrap (i32.wrap (al (ab 5 15 a0 a1).1))),0,()),()) else oR (((0,0,(false,[],()),(false,[],()),[],()),0,(aQ (List.drop (ab 5 15 a0 a1).2.1.toNat (List.take (i64.wrap ((ab 5 15 a0 a1).2.1+i64.wrap (i32.wrap (al (ab 5 15 a0 a1).1)))).toNat a0))).2,()),()) else none
theorem OV (a0:LI)(a1:Int):Io.runD tt PR dr Ld 64 128 nR Tryz.f75 110 Tryz.f110 11 ((a0,a1,()),())=Ba a0 a1:=by kernel_rfl
theorem Qa:HcOk prog 75 (ah nR JI):=by
 have htt:=gL Tryz.prog 400
 have hcs:HcsOk prog Kc:=.cons CN (.cons Qb .nil)
 refine BR (P:=prog) htt hm (uq hcs) (j4 htt) (fn:=Tryz.f75) (by kernel_rfl) (by kernel_rfl) nR (kb2:=64) (kbG:=128) (by decide) (by decide)
  (i1:=1) (ops1:=jI (lj (iU (bU Tryz.f75)))) (by kernel_rfl) rfl (by kernel_rfl)
  (o1:=((jI (lj (iU (bU Tryz.f75))))[1]?).getD default) (t:=11) (aT:=#[]) (by kernel_rfl) (by kernel_rfl) (by kernel_rfl) (by kernel_rfl) (lp:=Ld) (by kernel_rfl) (m6 (by kernel_rfl))
  (g:=110) (gfn:=Tryz.f110) (i2:=0) (gops:=jI (lj (bU Tryz.f110))) (grest:=iU (bU Tryz.f110))
  (by kernel_rfl) (by kernel_rfl) (by kernel_rfl) rfl rfl (by kernel_rfl) (oo:=((jI (lj (bU Tryz.f110)))[0]?).getD default) (by kernel_rfl) (by kernel_rfl) (by kernel_rfl) (by kernel_rfl) (by kernel_rfl) JI ?_
 rintro ⟨⟨(b:LI),(p:Int),⟨⟩⟩,⟨⟩⟩ out hw ho
 cases ho
 refine (OV b p).trans ?_
 have hb:b.length≤maxLen:=hw.1.1.1
 rw[ba] at hb
 show _=oR (((an b p).1,(an b p).2.1,(an b p).2.2,()),())
 have hr:=@cW b p
 unfold Ba
 by_cases h0:(ag b p).2.2=0
 rotate_left
 ·have h0':(ab 5 15 b p).2.2≠0:=h0
  have e:an b p=(aI,0,(ab 5 15 b p).2.2):=by unfold an;rw[if_pos h0];rfl
  rw[e,aa (by simpa using h0')]
  rfl
 have hk:=dF h0
 have h0':(ab 5 15 b p).2.2=0:=h0
 rw[af (by simpa using h0')]
 generalize hq:(ab 5 15 b p).2.1=q
 generalize hn:IntKind.wrap .i32 (al (ab 5 15 b p).1)=n
 have hq:(ag b p).2.1=q:=hq
 have hn:(ag b p).1=n:=hn
 have e0:an b p=if n<0 then (aI,0,5) else if 16384<n then (aI,0,4) else if (b.length:Int) - q<n then (aI,0,1)
   else if (aQ ((b.drop q.toNat).take n.toNat)).2≠0 then (aI,0,(aQ ((b.drop q.toNat).take n.toNat)).2)
   else ((aQ ((b.drop q.toNat).take n.toNat)).1,q+n,0):=by unfold an;rw[if_neg (by simpa using h0),hq,hn]
 rw[e0]
 rw[hq] at hk
 rw[hn] at hr
 by_cases h1:n<0
 ·rw[aa (by simpa using h1),if_pos h1]
  rfl
 rw[af (by simpa using h1),if_neg h1]
 by_cases h2:16384<n
 ·rw[aa (by simpa using h2),if_pos h2]
  rfl
 rw[af (by simpa using h2),if_neg h2,ae (n:=(b.length:Int) - q) (by omega) (by omega),ae (n:=n) (by omega) (by omega)]
 by_cases h3:(b.length:Int) - q<n
 ·rw[aa (by simpa using h3),if_pos h3]
  rfl
 rw[af (by simpa using h3),if_neg h3,ae (n:=q+n) (by omega) (by omega),aa (by simp;omega),List.drop_take,show (q+n).toNat - q.toNat=n.toNat by omega]
 generalize aQ ((b.drop q.toNat).take n.toNat)=r
 by_cases h4:r.2=0
 ·rw[aa (by simpa using h4),if_neg (az h4)]
 ·rw[af (by simpa using h4),if_pos h4]
  rfl
end
end Go.Proofs.YthpcdhgpplmneaaGreatDoor.Sym
namespace Go.Proofs.YthpcdhgpplmneaaGreatDoor.Sym
open Go
noncomputable section
def fC (b:AX):Bool:=b.1&&decide ((0:Int)<(b.2.1.length:Int))
def bI (b:AX):LI:=if b.1=true then aH (aC (-1)) else aH (aC b.2.1.length)++b.2.1
def AL (h:eB):LI:=aH (aC h.1.length)++(h.1++bI h.2.1)
def cb (hs:List eB):LI:=hs.flatMap AL
def cg (r:oV):LI:=0::(aH (aC r.1)++(aH (aC r.2.1)++(bI r.2.2.1++(bI r.2.2.2.1++(aH (aC r.2.2.2.2.1.length)++cb r.2.2.2.2.1)))))
def dp:List eB→Int
 |[]=>0
 |h::hs=>if (cv h.1).2=false then 6 else if fC h.2.1=true then 70 else dp hs
def s8 (r:oV):Int:=
 if r.2.1<0 then 72 else if fC r.2.2.1=true∨fC r.2.2.2.1=true then 70 else if 16<(r.2.2.2.2.1.length:Int) then 9 else dp r.2.2.2.2.1
def bi (r:oV):Int:=if s8 r≠0 then s8 r else if 16384<((cg r).length:Int) then 4 else 0
def ck (r:oV):LI×Int:=if bi r=0 then (aH (aC (cg r).length)++cg r,0) else ([],bi r)
def gd (r:oV):Bool:=decide ((cg r).length≤4294967000)
theorem m9 (u:Int):(aH u).length≤11:=by
 unfold aH
 have:=M2 10 u
 simp only[zH,zN,List.length_nil]
 omega
end
end Go.Proofs.YthpcdhgpplmneaaGreatDoor.Sym
namespace Go.Proofs.YthpcdhgpplmneaaGreatDoor.Sym
open Go
open Go.ChangeShapes Go.WideShapes Go.ChangeAt Go.RowKit
def eC (P:Program):Ty→(TypeId ⊕ (List Field×Nat))→Bool
 |.int k,.inl t=>match P.underlying t with
  |some (.int k')=>decide (k'=k)
  |_=>false
 |.bool,.inl t=>match P.underlying t with
  |some .bool=>true
  |_=>false
 |.str,.inl t=>match P.underlying t with
  |some .string=>true
  |_=>false
 |.sl e ty,.inl t=>match P.underlying t with
  |some (.slice e')=>(e' == e)&&(eC P ty (.inl e)&&((P.cellsOf e == ty.size)&&!(ty.size == 0)))
  |_=>false
 |.prod a b,.inl t=>match P.underlying t with
  |some (.struct fs)=>(P.cellsOf t == a.size+b.size)&&match fs.toList with
   |f::fs'=>(f.offset == 0)&&((P.cellsOf f.type == a.size)&&(eC P a (.inl f.type)&&eC P b (.inr (fs',a.size))))
   |[]=>false
  |_=>false
 |.unit,.inr ([],_)=>true
 |.prod a b,.inr (f::fs,off)=>(f.offset == off)&&((P.cellsOf f.type == a.size)&&(eC P a (.inl f.type)&&eC P b (.inr (fs,off+a.size))))
 |_,_=>false
def AV:(t:Ty)→t.den→Nat
 |.int _,_=>1
 |.bool,_=>1
 |.str,s=>List.length (α:=Int) s+1
 |.sl _ t,xs=>(List.map (AV t) xs).sum+1
 |.unit,_=>0
 |.prod a b,x=>AV a x.1+AV b x.2
 |.tree _ _,_=>0
def S0 (W:World)(b o:Nat):Prop:=∃v,W.cell? ⟨b,o,none⟩=some v
section
variable {P:Program} {W:World} {H:Type} {enc:TypeId×Value→H} {sp:Nat→Bool} {held:Bool}
theorem J7 {a:Addr}{n:Nat}{cs:List Value}(h:W.cells? 0 a n=some cs)(hn:0<n):a.spot=none∧cs.length=n∧At (S0 W) W a.block a.off cs:=by
 simp only[World.cells?,Nat.zero_le,if_true] at h
 have hl:=mapM_some_length h
 rw[List.length_range] at hl
 have hg:∀i,i<n→W.cell? (a.add i)=cs[i]?:=fun i hi=>mapM_some_get h i i (by simp[hi])
 have hsp:a.spot=none:=by
  have h0:=hg 0 hn
  rw[List.getElem?_eq_getElem (by omega)] at h0
  unfold World.cell? at h0
  split at h0
  ·split at h0
   ·cases h0
   ·rename_i hs
    cases e:a.spot with
    |none=>rfl
    |some x=>simp[Addr.add,e] at hs
  ·cases h0
 refine ⟨hsp,hl,fun j v hv=>?_⟩
 have hj:j<n:=by rw[← hl];exact (List.getElem?_eq_some_iff.1 hv).1
 have:=hg j hj
 rw[hv] at this
 have e:a.add j=⟨a.block,a.off+j,none⟩:=by
  obtain ⟨b,o,s⟩:=a
  simp only at hsp
  subst hsp
  exact Addr.add_plain ..
 rw[e] at this
 exact ⟨⟨v,this⟩,this⟩
theorem qg (ub:DataW H→Nat)(uba:List (DataW H)→Nat)(u1:∀l,1≤ub (.lit l))(u2:∀bs,bs.length+1≤ub (.lit (.string bs)))(u3:1≤ub .nil)(u4:∀es ss,uba es+1≤ub (.slice es ss))(u5:∀ps,uba ps≤ub (.agg ps))
  (u6:∀d ds,uba (d::ds)=ub d+uba ds) (u7:uba []=0):
  ∀(ty:Ty),(∀(t:TypeId),eC P ty (.inl t)=true→∀(fuel:Nat) (cs:List Value) (x:DataW H×List MemPlace),DataW.trod enc P W 0 sp held fuel t cs=some x→∃y:ty.den,Rt (S0 W) W ty y cs∧AV ty y≤ub x.1)∧
   (∀(fs:List Field) (off:Nat),eC P ty (.inr (fs,off))=true→∀(fuel:Nat) (cs:List Value) (xs:List (DataW H×List MemPlace)),fs.mapM (fun f=>DataW.trod enc P W 0 sp held fuel f.type ((cs.drop f.offset).take (P.cellsOf f.type)))=some xs→
    (cs.drop off).length=ty.size→∃y:ty.den,Rt (S0 W) W ty y (cs.drop off)∧AV ty y≤uba (xs.map (·.1)))
 |.int k=>by
  refine ⟨fun t ht fuel cs x h=>?_,fun fs off ht=>by cases fs <;> simp[eC] at ht⟩
  simp only[eC] at ht
  split at ht
  ·rename_i k' hu
   have ht:=of_decide_eq_true ht
   subst ht
   obtain ⟨n2,rfl,rfl,hw⟩:=DataW.trod_int hu h
   refine ⟨n2,⟨rfl,?_⟩,u1 _⟩
   simpa [Lit.wf,bH] using hw
  ·cases ht
 |.bool=>by
  refine ⟨fun t ht fuel cs x h=>?_,fun fs off ht=>by cases fs <;> simp[eC] at ht⟩
  simp only[eC] at ht
  split at ht
  ·rename_i hu
   obtain ⟨b,rfl,rfl⟩:=DataW.trod_bool hu h
   exact ⟨b,rfl,u1 _⟩
  ·cases ht
 |.str=>by
  refine ⟨fun t ht fuel cs x h=>?_,fun fs off ht=>by cases fs <;> simp[eC] at ht⟩
  simp only[eC] at ht
  split at ht
  ·rename_i hu
   obtain ⟨s,rfl,rfl,hl⟩:=DataW.trod_string hu h
   refine ⟨jy s,⟨by rw[mc],se s,?_⟩,?_⟩
   ·have:(jy s).length=s.size:=by rw[← b8,mc]
    rw[this];exact hl
   ·have:(jy s).length=s.data.toList.length:=by unfold jy;exact List.length_map _
    show (jy s).length+1≤_
    rw[this]
    exact u2 _
  ·cases ht
 |.unit=>by
  refine ⟨fun t ht=>by simp[eC] at ht,fun fs off ht fuel cs xs h hl=>?_⟩
  refine ⟨(),?_,Nat.zero_le _⟩
  exact zF hl
 |.sl e ty=>by
  refine ⟨fun t ht fuel cs x h=>?_,fun fs off ht=>by cases fs <;> simp[eC] at ht⟩
  simp only[eC] at ht
  split at ht
  ·rename_i e' hu
   simp only[zA,beq_iff_eq,Bool.not_eq_true',beq_eq_false_iff_ne] at ht
   obtain ⟨rfl,hT,hsz,hpos⟩:=ht
   have ih:=(qg ub uba u1 u2 u3 u4 u5 u6 u7 ty).1 e' hT
   rcases DataW.trod_slice hu h with ⟨rfl,rfl⟩ | ⟨a,len,cap,elems,rest,n,_,rfl,rfl,hb,hl,hm,hlen,hel,_,_⟩
   ·exact ⟨[],⟨none,0,rfl,Nat.le_refl _,Nat.zero_le _,fun h=>absurd rfl h⟩,u3⟩
   ·have each:∀i,i<len→∃y:ty.den,(∃c,Rt (S0 W) W ty y c∧(i=0→a.spot=none)∧At (S0 W) W a.block (a.off+i*ty.size) c)∧∃d,elems[i]?=some d∧AV ty y≤ub d.1:=by
     intro i hi
     have h1:=hel i hi
     rw[List.getElem?_eq_getElem (by omega)] at h1
     obtain ⟨c,hc,hd⟩:=Option.bind_eq_some_iff.1 h1
     obtain ⟨y,hy,hs⟩:=ih _ _ _ hd
     rw[hsz] at hc
     obtain ⟨h2,h3,h4⟩:=J7 hc (by omega)
     have e1:(a.add (i*ty.size)).block=a.block:=by unfold Addr.add;split <;> rfl
     have e2:(a.add (i*ty.size)).off=a.off+i*ty.size:=by
      unfold Addr.add
      split
      ·rename_i h0;rw[h0];rfl
      ·rfl
     rw[e1,e2] at h4
     refine ⟨y,⟨c,hy,fun h0=>?_,h4⟩,elems[i],by simp,hs⟩
     subst h0
     simpa [Addr.add] using h2
    have mk:∀m,m≤len→∃ys:List ty.den,ys.length=m∧(∀i y,ys[i]?=some y→∃c,Rt (S0 W) W ty y c∧(i=0→a.spot=none)∧At (S0 W) W a.block (a.off+i*ty.size) c)∧(ys.map (AV ty)).sum≤uba ((elems.take m).map (·.1)):=by
     intro m
     induction m with
     |zero=>intro _;exact ⟨[],rfl,fun i y h=>by simp at h,by simp⟩
     |succ m ihm=>
      intro hm'
      obtain ⟨ys,g1,g2,g3⟩:=ihm (by omega)
      obtain ⟨y,g4,d,g5,g6⟩:=each m (by omega)
      refine ⟨ys++[y],by simp[g1],fun i z hz=>?_,?_⟩
      ·rw[List.getElem?_append] at hz
       split at hz
       ·exact g2 i z hz
       ·rename_i hlt
        have:i=m:=by
         have:=(List.getElem?_eq_some_iff.1 hz).1
         simp at this;omega
        subst this
        simp[g1] at hz
        subst hz
        exact g4
      ·have hap:∀(xs bs:List (DataW H)),uba (xs++bs)=uba xs+uba bs:=by
        intro xs bs
        induction xs with
        |nil=>simp[u7]
        |cons c xs ih=>rw[List.cons_append,u6,u6,ih];omega
       rw[List.take_add_one,g5]
       simp only[List.map_append,List.sum_append,hap,Option.toList,zL,List.map_nil,List.sum_cons,List.sum_nil,u6,u7]
       omega
    obtain ⟨ys,g1,g2,g3⟩:=mk len (Nat.le_refl _)
    refine ⟨ys,⟨some a,cap,by rw[g1],by omega,hm,fun hne=>?_⟩,?_⟩
    ·have h0:0<ys.length:=List.length_pos_iff.2 hne
     obtain ⟨c,_,hsp,_⟩:=g2 0 ys[0] (by simp)
     have hsp:=hsp rfl
     refine ⟨a.block,a.off,?_,fun i y hy=>?_⟩
     ·obtain ⟨b,o,s⟩:=a
      simp only at hsp
      rw[hsp]
     ·obtain ⟨c,hc,_,hat⟩:=g2 i y hy
      exact ⟨c,hc,hat⟩
    ·rw[List.take_of_length_le (by omega)] at g3
     show (ys.map (AV ty)).sum+1≤_
     exact Nat.le_trans (by omega) (u4 _ _)
  ·cases ht
 |.tree a e=>⟨fun t ht=>by simp[eC] at ht,fun fs off ht=>by cases fs <;> simp[eC] at ht⟩
 |.prod a b=>by
  have step:∀(f:Field) (fs:List Field) (off:Nat),((f.offset == off)&&((P.cellsOf f.type == a.size)&&(eC P a (.inl f.type)&&eC P b (.inr (fs,off+a.size)))))=true→
    ∀(fuel:Nat) (cs:List Value) (xs:List (DataW H×List MemPlace)),(f::fs).mapM (fun f=>DataW.trod enc P W 0 sp held fuel f.type ((cs.drop f.offset).take (P.cellsOf f.type)))=some xs→
    (cs.drop off).length=a.size+b.size→∃y:a.den×b.den,Rt (S0 W) W (.prod a b) y (cs.drop off)∧AV a y.1+AV b y.2≤uba (xs.map (·.1)):=by
   intro f fs off ht fuel cs xs h hl
   simp only[zA,beq_iff_eq] at ht
   obtain ⟨rfl,hs,hA,hB⟩:=ht
   simp only[List.mapM_cons,Option.bind_eq_bind,Option.bind_eq_some_iff] at h
   obtain ⟨x0,h0,xs',h1,h2⟩:=h
   simp only[Option.pure_def,zC] at h2
   subst h2
   rw[hs] at h0
   obtain ⟨y1,hy1,hd1⟩:=(qg ub uba u1 u2 u3 u4 u5 u6 u7 a).1 f.type hA _ _ _ h0
   have hl2:(cs.drop (f.offset+a.size)).length=b.size:=by
    simp only[List.length_drop] at hl ⊢
    omega
   obtain ⟨y2,hy2,hd2⟩:=(qg ub uba u1 u2 u3 u4 u5 u6 u7 b).2 fs _ hB _ _ _ h1 hl2
   refine ⟨(y1,y2),⟨_,_,?_,hy1,hy2⟩,?_⟩
   ·rw[← List.drop_drop,List.take_append_drop]
   ·simp only[zL,u6]
    omega
  refine ⟨fun t ht fuel cs x h=>?_,fun fs off ht fuel cs xs h hl=>?_⟩
  ·simp only[eC] at ht
   split at ht
   ·rename_i fs hu
    simp only[zA,beq_iff_eq] at ht
    obtain ⟨hsz,ht⟩:=ht
    split at ht
    ·rename_i f fs' hfs
     cases fuel with
     |zero=>simp[DataW.trod] at h
     |succ n=>
      unfold DataW.trod at h
      rw[hu] at h
      simp only at h
      split at h
      ·rename_i hlen
       obtain ⟨xs,hxs,rfl⟩:=Option.map_eq_some_iff.1 h
       rw[hfs] at hxs
       obtain ⟨y,hy,hd⟩:=step f fs' 0 (by simpa using ht) n cs xs hxs (by simpa [hsz] using hlen)
       exact ⟨y,by simpa using hy,Nat.le_trans hd (u5 _)⟩
      ·cases h
    ·cases ht
   ·cases ht
  ·cases fs with
   |nil=>simp[eC] at ht
   |cons f fs=>exact step f fs off (by simpa only [eC] using ht) fuel cs xs h hl
theorem Q0 {ty:Ty}{t:TypeId}(ht:eC P ty (.inl t)=true){fuel:Nat}{cs:List Value}{d:DataW H}{ps:List MemPlace}(h:DataW.trod enc P W 0 sp held fuel t cs=some (d,ps)):∃y:ty.den,Rt (S0 W) W ty y cs∧AV ty y≤Rows.uptoBulk d:=
 (qg Rows.uptoBulk Rows.uptoBulkAll (fun l=>by cases l <;> simp[Rows.uptoBulk]) (fun bs=>by simp[Rows.uptoBulk]) (by simp[Rows.uptoBulk]) (fun es ss=>by simp[Rows.uptoBulk]) (fun ps=>by simp[Rows.uptoBulk]) (fun d ds=>by simp[Rows.uptoBulkAll]) (by simp[Rows.uptoBulkAll]) ty).1 t ht fuel cs _ h
theorem rB {t:Ty}(hp:∀x:t.den,1≤AV t x):∀xs:List t.den,xs.length≤(xs.map (AV t)).sum
 |[]=>by simp
 |x::xs=>by
  have:=rB hp xs
  have:=hp x
  simp only[zN,zL,List.sum_cons]
  omega
theorem Ge {e:Nat}{k:IntKind}(xs:(Ty.sl e (.int k)).den):List.length xs≤AV (.sl e (.int k)) xs:=by
 have:=rB (t:=.int k) (fun _=>Nat.le_refl 1) xs
 show _≤(List.map (AV (.int k)) xs).sum+1
 exact Nat.le_trans this (Nat.le_succ _)
def G0 (W:World):Gh:=⟨S0 W,fun _=>none,fun _=>none⟩
def F0 (W:World):Fra:=⟨W,fun _=>False,S0 W,fun _=>none⟩
theorem Rf (h:∀g,Pm g=false)(W:World):oW (S0 W) W:=fun g i hg _=>absurd hg (by rw[h g];decide)
theorem RA (W:World)(htab:oW (S0 W) W):Rel (F0 W) (G0 W) ⟨[],[],[]⟩ #[] [] W where
 tm:=trivial
 stk:=trivial
 ob:=fun k cs h=>by simp at h
 gh:=⟨fun _ _ h=>(by cases h),fun _ _ _ h=>(by cases h),fun _ _ _ h=>(by cases h),fun _ _ _ _ _ h=>(by cases h),fun b o h=>(by
   obtain ⟨v,h⟩:=h
   unfold World.cell? at h
   split at h
   ·rename_i e
    exact (Array.getElem?_eq_some_iff.1 e).1
   ·cases h),⟨rfl,rfl,rfl,Nat.le_refl _,fun _ _ _=>rfl⟩,fun _ _ h=>h,fun _ _ h=>.inl h,fun _ _ _=>rfl,fun _ _ h=>(by cases h),htab⟩
def Cf (oc:Oc)(A:AS):Option Unit:=match oc with
 |.ret (.one (.bool true)) _=>some ()
 |_=>none
theorem Im {f:Nat}{io:Io}{Fn:io.In→Tr io.Res}(hok:HcOk P f (ah io Fn)){args:List V}{vals:Array Value}(hargs:All2 (Rv (G0 W) W) args vals.toList)(hrun:ah io Fn Unit args 1 ⟨[],[],[]⟩ Cf=some ())(htab:oW (S0 W) W:=by exact Rf (fun _=>rfl) _):
  Calls P f vals W fun e w'=>e=.returned (.bool true)∧w'.os=W.os∧w'.output=W.output∧∀i,i<W.heap.size→w'.heap[i]?=W.heap[i]?:=by
 refine (hok Unit args 1 _ Cf () (F0 W) (G0 W) #[] [] W vals (fun _=>rfl) hrun (RA W htab) hargs).2.mono ?_
 rintro e w' ⟨G',A',v,u,R',hv,h⟩
 have hfr:=R'.gh.fr
 refine ⟨?_,hfr.os,hfr.output,fun i hi=>hfr.block i hi (fun h=>h)⟩
 rcases h with ⟨rfl,ks,_,hk⟩ | ⟨rfl,hk⟩
 ·unfold Cf at hk
  split at hk
  ·rename_i e
   cases e
   rw[show u=.bool true from hv]
  ·cases hk
 ·cases hk
def nG (ty:Ty)(y:ty.den):V:=bif ty.isProd then .agg (qf ty y) else match qf ty y with
 |[c]=>.one c
 |_=>.any
theorem DX {G:Gh}{ty:Ty}{y:ty.den}{v:Value}(h:Rt G.S W ty y v.cells.toList)(hp:ty.isProd=true→∃vs,v=.agg vs)(hn:ty.isProd=false→v.cells = #[v]):Rv G W (nG ty y) v:=by
 have hs:=cr (G:=G) (w:=W) ty y _ h
 unfold nG
 cases hb:ty.isProd with
 |true=>
  obtain ⟨vs,rfl⟩:=hp hb
  exact ⟨vs,rfl,hs⟩
 |false=>
  rw[hn hb] at hs
  simp only[cond_false]
  split
  ·rename_i c e
   rw[e] at hs
   exact hs.1
  ·trivial
theorem HX {ty:Ty}{t:TypeId}(ht:eC P ty (.inl t)=true){r:Reach}{base:Nat}{v:Value}(hval:Value.okWide P W r base t v):(ty.isProd=true→∃vs,v=.agg vs)∧(ty.isProd=false→v.cells = #[v]):=by
 cases ty with
 |tree a e=>simp[eC] at ht
 |int k=>
  refine ⟨fun h=>(by cases h),fun _=>?_⟩
  simp only[eC] at ht
  split at ht
  ·rename_i k' hu
   cases v <;> simp[Value.okWide,hu,Cell.okWide,Cell.ok] at hval <;> rfl
  ·cases ht
 |bool=>
  refine ⟨fun h=>(by cases h),fun _=>?_⟩
  simp only[eC] at ht
  split at ht
  ·rename_i hu
   cases v <;> simp[Value.okWide,hu,Cell.okWide,Cell.ok] at hval <;> rfl
  ·cases ht
 |str=>
  refine ⟨fun h=>(by cases h),fun _=>?_⟩
  simp only[eC] at ht
  split at ht
  ·rename_i hu
   cases v <;> simp[Value.okWide,hu,Cell.okWide,Cell.ok] at hval <;> rfl
  ·cases ht
 |sl e ty=>
  refine ⟨fun h=>(by cases h),fun _=>?_⟩
  simp only[eC] at ht
  split at ht
  ·rename_i e' hu
   cases v <;> simp[Value.okWide,hu,Cell.okWide,Cell.ok] at hval <;> rfl
  ·cases ht
 |unit=>simp[eC] at ht
 |prod a b=>
  refine ⟨fun _=>?_,fun h=>(by cases h)⟩
  simp only[eC] at ht
  split at ht
  ·rename_i fs hu
   simp only[Value.okWide,hu] at hval
   obtain ⟨cs,rfl,_⟩:=hval
   exact ⟨cs,rfl⟩
  ·cases ht
def pG (P:Program):Bool:=(List.range P.types.size).all fun t=>match P.underlying t with
 |some (.slice e)=>decide (0<P.cellsOf e)
 |_=>true
theorem wg (hl:laidOutB P=true)(hm:mapsRowed P=true)(hs:pG P=true){W':World}(hk:∀i,i<W.heap.size→W'.heap[i]?=W.heap[i]?):∀{ts:List TypeId} {vs:List Value} {ds:List (DataW H)} {ps:List MemPlace},
  (∀t∈ts,t<P.types.size)→DataW.TrodAll enc P W 0 (fun _=>true) true ts vs ds ps→(∀p∈ps,sp p.block=true)→DataW.TrodAll enc P W' 0 sp true ts vs ds ps
 |[],[],[],_,_,h,_=>h
 |t::ts,v::vs,d::ds,ps,hT,⟨p,q,⟨fuel,h1⟩,h2,e⟩,hsp=>by
  refine ⟨p,q,⟨fuel,DataW.trod_stays (kids_rows hl hm) (fun {t e} ht hu=>?_) (fun h=>(by cases h)) (hT t (by simp)) h1 (fun x hx=>?_) fun x hx=>hsp x (by rw[e];exact List.mem_append_left _ hx)⟩,
   wg hl hm hs hk (fun t ht=>hT t (by simp[ht])) h2 (fun x hx=>hsp x (by rw[e];exact List.mem_append_right _ hx)),e⟩
  ·have:=List.all_eq_true.1 hs t (by simpa using ht)
   rw[hu] at this
   exact of_decide_eq_true this
  ·have hb:=DataW.trod_lt _ _ _ _ h1 x hx
   cases x with
   |cell b off=>simp[World.sameAt,World.cell?,hk b hb]
   |map b=>exact hk b hb
 |[],[],_::_,_,_,h,_=>h.elim
 |[],_::_,_,_,_,h,_=>h.elim
 |_::_,[],_,_,_,h,_=>h.elim
 |_::_,_::_,[],_,_,h,_=>h.elim
theorem L2 {f:Func}{s:ChangeSpec}{apart fresh handsOn again:Bool}{W':World}{args:Array Value}{ds gs:List (DataW H)}{before:List MemPlace}
  (hl:laidOutB P=true) (hm:mapsRowed P=true) (hs:pG P=true) (hT:∀t∈f.params.toList,t<P.types.size) {tb:TypeId} (hr:f.resultTypes = #[tb]) (htb:P.underlying tb=some .bool) (hv:s.vars=[])
  (hW:DataW.Whole enc P f.params.toList s.vars apart W args.toList ds gs before) (hfn:s.fn H (ds++gs)={ results:=[.lit (.bool true)],args:=ds })
  (hos:W'.os=W.os) (hout:W'.output=W.output) (hk:∀i,i<W.heap.size→W'.heap[i]?=W.heap[i]?):s.post enc P f apart fresh handsOn again W args (.bool true) W':=by
 have hlt:=hW.lt
 obtain ⟨p,q,hA,hV,hpq,hfz,hnd⟩:=id hW
 rw[hv] at hV
 obtain ⟨rfl,rfl⟩:=trodVars_none hV
 rw[List.append_nil] at hpq
 subst hpq
 have hres:∀(b:Nat) (sp:Nat→Bool) (hd:Bool),DataW.TrodAll enc P W' b sp hd f.resultTypes.toList ((Value.bool true).resultList f.resultTypes.size) [.lit (.bool true)] []:=by
  intro b sp hd
  rw[hr]
  exact trodAll_cons_mk (shut_bool htb _) trodAll_mk0
 have hargs:∀sp:Nat→Bool,(∀x∈before,sp x.block=true)→DataW.TrodAll enc P W' 0 sp true f.params.toList args.toList ds before:=
  fun sp hsp=>wg hl hm hs hk hT hA hsp
 have hvars:∀sp:Nat→Bool,DataW.TrodVars enc P W' sp s.vars [] []:=by
  intro sp
  rw[hv]
  rfl
 have hold:∀x∈before,(fun b=>decide (b<W.heap.size)) x.block=true:=fun x hx=>by simpa using hlt x hx
 have hkept:∀may:MemPlace→Prop,W.keptBut W' may:=fun may=>⟨hos,hout,fun i hi=>by
  rw[hk i hi]
  cases h:W.heap[i]? with
  |none=>rfl
  |some o=>cases o <;> simp⟩
 refine ⟨ds,[],before,[],before,[],hW,by rw[hfn];exact hres _ _ _,by rw[hfn];exact hargs _ hold,by rw[hfn];exact hvars _,hkept _,fun _=>?_⟩
 refine ⟨ok_one hr rfl (okWide_bool_mk htb true),[.lit (.bool true)]++ds,[],[]++before,⟨[]++before,[],trodAll_append (hargs _ fun _ _=>rfl) (hres _ _ _),hvars _,by simp,fun b off hx=>?_,fun ha=>by simpa using hnd ha⟩,fun x hx _=>by simpa using hx⟩
 have hx:MemPlace.cell b off∈before:=by simpa using hx
 rw[← hfz b off hx]
 simp[World.frozen?,hk b (hlt _ hx)]
@[reducible] def qn:List Ty→Type
 |[]=>Unit
 |t::ts=>t.den×qn ts
def Fo:(tys:List Ty)→qn tys→List V
 |[],_=>[]
 |t::ts,y=>nG t y.1::Fo ts y.2
def Ia:(tys:List Ty)→qn tys→Nat
 |[],_=>0
 |t::ts,y=>AV t y.1+Ia ts y.2
def RE:(tys:List Ty)→qn tys→Prop
 |[],_=>True
 |t::ts,y=>t.wf y.1∧RE ts y.2
def Oj (P:Program):List Ty→List TypeId→Bool
 |[],[]=>true
 |ty::tys,t::ts=>eC P ty (.inl t)&&Oj P tys ts
 |_,_=>false
theorem AZ {r:Reach}{base:Nat}:∀(tys:List Ty) (ts:List TypeId),Oj P tys ts=true→∀{vs:List Value} {ds:List (DataW H)} {ps:List MemPlace},DataW.TrodAll enc P W 0 sp held ts vs ds ps→
  (∀(j:Nat) t v,ts[j]?=some t→vs[j]?=some v→Value.okWide P W r base t v)→
  ∃ys:qn tys,All2 (Rv (G0 W) W) (Fo tys ys) vs∧Ia tys ys≤Rows.uptoBulkAll ds∧RE tys ys∧ds.length=tys.length
 |[],[],_,[],[],_,_,_=>⟨(),trivial,Nat.zero_le _,trivial,rfl⟩
 |ty::tys,t::ts,ht,v::vs,d::ds,_,⟨p,q,⟨fuel,h1⟩,h2,_⟩,hv=>by
  simp only[Oj,zA] at ht
  obtain ⟨y,hy,hs⟩:=Q0 ht.1 h1
  obtain ⟨k1,k2⟩:=HX ht.1 (hv 0 t v rfl rfl)
  obtain ⟨ys,g1,g2,g3,g4⟩:=AZ tys ts ht.2 h2 fun j t' v' e1 e2=>hv (j+1) t' v' (by simpa using e1) (by simpa using e2)
  refine ⟨(y,ys),⟨DX hy k1 k2,g1⟩,?_,⟨Rt.wf ty y _ hy,g3⟩,by simp[g4]⟩
  simp only[Ia,Rows.uptoBulkAll]
  omega
 |[],[],_,[],_::_,_,h,_=>h.elim
 |[],[],_,_::_,_,_,h,_=>h.elim
 |_::_,_::_,_,[],_,_,h,_=>h.elim
 |_::_,_::_,_,_::_,[],_,h,_=>h.elim
 |[],_::_,h,_,_,_,_,_=>by cases h
 |_::_,[],h,_,_,_,_,_=>by cases h
theorem pp {fn:Func}{f:Nat}{io:Io}{Fn:io.In→Tr io.Res}(hok:HcOk P f (ah io Fn)){s:ChangeSpec}(tys:List Ty)(hts:Oj P tys fn.params.toList=true)
  (hl:laidOutB P=true) (hm:mapsRowed P=true) (hs:pG P=true) (hT:∀t∈fn.params.toList,t<P.types.size) {tb:TypeId} (hr:fn.resultTypes = #[tb]) (htb:P.underlying tb=some .bool) (hv:s.vars=[])
  (hfn:∀ds:List (DataW H),ds.length=tys.length→s.fn H ds={ results:=[.lit (.bool true)],args:=ds })
  (hrun:∀ys:qn tys,Ia tys ys≤1048576→RE tys ys→ah io Fn Unit (Fo tys ys) 1 ⟨[],[],[]⟩ Cf=some ())
  (base:Nat) (args:Array Value) (ds gs:List (DataW H)) (before:List MemPlace)
  (hval:∀(j:Nat) t v,fn.params[j]?=some t→args[j]?=some v→Value.okWide P W .any base t v)
  (hW:DataW.Whole enc P fn.params.toList s.vars false W args.toList ds gs before) (hk:Rows.uptoSmall H (ds++gs)=true) (htab:oW (S0 W) W:=by exact Rf (fun _=>rfl) _):
  Calls P f args W fun e W'=>∃v,e=.returned v∧s.post enc P fn false true false false W args v W':=by
 have hW':=hW
 obtain ⟨p,q,hA,hV,_,_,_⟩:=hW
 rw[hv] at hV
 obtain ⟨rfl,rfl⟩:=trodVars_none hV
 obtain ⟨ys,g1,g2,g3,g4⟩:=AZ tys fn.params.toList hts hA fun j t v e1 e2=>hval j t v (by simpa using e1) (by simpa using e2)
 have hb:Rows.uptoBulkAll ds≤1048576:=by simpa [Rows.uptoSmall] using hk
 refine (Im hok (vals:=args) (args:=Fo tys ys) g1 (hrun ys (by omega) g3) htab).mono ?_
 rintro e W' ⟨rfl,hos,hout,hkeep⟩
 exact ⟨_,rfl,L2 hl hm hs hT hr htb hv hW' (by rw[List.append_nil];exact hfn ds g4) hos hout hkeep⟩
end
end Go.Proofs.YthpcdhgpplmneaaGreatDoor.Sym
namespace Go.Proofs.YthpcdhgpplmneaaGreatDoor.Sym
open Go
noncomputable section
section
variable {P:Program} {tt:TT}
end
end
end Go.Proofs.YthpcdhgpplmneaaGreatDoor.Sym
namespace Go.Proofs.YthpcdhgpplmneaaGreatDoor.Sym
open Go
def Ty.flatB:Ty→Bool
 |.sl _ _=>false
 |.tree _ _=>false
 |.prod a b=>a.flatB&&b.flatB
 |_=>true
theorem Rt.flat {S S':Nat→Nat→Prop}{w w':World}:∀(t:Ty) (x:t.den) (cs:List Value),t.flatB=true→Rt S w t x cs→Rt S' w' t x cs
 |.int _,_,_,_,h=>h
 |.bool,_,_,_,h=>h
 |.str,_,_,_,h=>h
 |.unit,_,_,_,h=>h
 |.prod a b,_,_,hf,⟨c1,c2,e,h1,h2⟩=>by
  simp only[Ty.flatB,zA] at hf
  exact ⟨c1,c2,e,Rt.flat a _ _ hf.1 h1,Rt.flat b _ _ hf.2 h2⟩
 |.sl _ _,_,_,hf,_=>by cases hf
 |.tree _ _,_,_,hf,_=>by cases hf
noncomputable section
structure Grown (w w':World):Prop where
 os:w'.os=w.os
 tape:w'.tape=w.tape
 output:w'.output=w.output
 size:w.heap.size≤w'.heap.size
 old:∀k,k<w.heap.size→w'.heap[k]?=w.heap[k]?
theorem Grown.cell {w w':World}(g:Grown w w'){b o:Nat}(hb:b<w.heap.size):w'.cell? ⟨b,o,none⟩=w.cell? ⟨b,o,none⟩:=by
 simp[World.cell?,g.old b hb]
section
variable {F:Fra} {G:Gh} {w w':World}
def Gh.owned (G:Gh)(i:Nat)(o:Option Nat):Gh:=⟨G.S,G.mu,fun j=>if j=i then o.map (·,0) else G.ow j⟩
variable {G':Gh}
def OwnsTo (G' H:Gh)(l:List Nat):Prop:=∀j∈l,j≠0∧∀b n,G'.ow j=some (b,n)→H.ow j=some (b,0)
theorem OwnsTo.l {H:Gh}{l l':List Nat}(h:OwnsTo G' H (l++l')):OwnsTo G' H l:=fun j hj=>h j (List.mem_append_left _ hj)
theorem OwnsTo.r {H:Gh}{l l':List Nat}(h:OwnsTo G' H (l++l')):OwnsTo G' H l':=fun j hj=>h j (List.mem_append_right _ hj)
end
end
end Go.Proofs.YthpcdhgpplmneaaGreatDoor.Sym
namespace Go.Proofs.YthpcdhgpplmneaaGreatDoor.Sym
open Go
noncomputable section
theorem Grown.refl (w:World):Grown w w:=⟨rfl,rfl,rfl,Nat.le_refl _,fun _ _=>rfl⟩
end
end Go.Proofs.YthpcdhgpplmneaaGreatDoor.Sym
namespace Go.Proofs.YthpcdhgpplmneaaGreatDoor.Sym
open Go
open Go.IntKind (i8 i16 i32 i64 u8 u16 u32 u64)
noncomputable section
abbrev Ru:Sh:=.dat (.int .i16) false false
abbrev PO:Sh:=.dat (.int .i32) false false
abbrev Rx:Sh:=.dat (.int .u64) false false
def aU (v:Int):Nat→LI
 |0=>[]
 |n+1=>(v / 256 ^ n) % 256::aU v n
theorem vi (v:Int):∀n,(aU v n).length=n
 |0=>rfl
 |n+1=>by rw[aU,zN,vi v n]
abbrev PE:List Sh:=[dL,dI]
abbrev cw:Sh:=.dat (.int .i64) false false
def aS (l:LI):Int:=l.foldl (fun v c=>v*256+c) 0
def bJ (b:LI)(p:Int)(n:Nat):Int×(Int×Int):=if (b.length:Int) - p<n then (0,(p,1)) else (aS ((b.drop p.toNat).take n),(p+n,0))
def cP (b:LI)(p:Int):Bool:=decide (b.length≤4294960000)&&(decide (0≤p)&&decide (p≤(b.length:Int)))
def oD (b:LI)(p n:Int):Int×Int:=if n<0 then (p,3) else if (b.length:Int) - p<n then (p,1) else (p+n,0)
abbrev gr:Io:=⟨[.ptr 0 0],[PE],[],[dI],none⟩
def sw (d:gr.In):Tr gr.Res:=.ret (.ret ((i64.wrap ((d.2.1.1.length:Int) - d.2.1.2.1),()),((d.2.1.1,(d.2.1.2.1,())),())))
abbrev BJ:List (Nat×Hc):=[]
def KX:Hd:=bG BJ
def CG:Lp:=bM []
def D2 (a0:LI)(a1:Int):Option gr.Res:=oR ((i64.wrap ((↑a0.length:Int) - a1),()),(a0,a1,()),())
theorem I1 (a0:LI)(a1:Int):Io.run tt KX dr CG gr Tryz.f134 (((),()),(a0,a1,()),())=D2 a0 a1:=by kernel_rfl
theorem CO:HcOk prog 134 (ah gr sw):=by
 refine bQ (cs:=BJ) HcsOk.nil (lp:=CG) (fn:=Tryz.f134) gr (.done (by kernel_rfl)) sw ?_
 rintro ⟨⟨⟨⟩,⟨⟩⟩,⟨⟨(b:LI),(p:Int),⟨⟩⟩,⟨⟩⟩⟩ out hw ho
 rw[← ho]
 exact I1 b p
abbrev cL:Io:=⟨[.ptr 0 0,dI],[PE],[],[Rx,dI],none⟩
def gN (d:cL.In):Tr cL.Res:=
 .ite (cP d.2.1.1 d.2.1.2.1&&(decide ((0:Int)≤d.1.2.1)&&decide (d.1.2.1≤(8:Int)))) (.ret (.ret (((bJ d.2.1.1 d.2.1.2.1 d.1.2.1.toNat).1,((bJ d.2.1.1 d.2.1.2.1 d.1.2.1.toNat).2.2,())),((d.2.1.1,((bJ d.2.1.1 d.2.1.2.1 d.1.2.1.toNat).2.1,())),())))) .no
abbrev ua:List (Nat×Hc):=[(134,ah gr sw)]
def uw:Hd:=bG ua
abbrev cd:Lo:=⟨⟨(.one (.ptr 0 0)::.one hI::bz (.one (.hol (.int u64))::ai (bz (.one (.hol (.sl 5 (Ty.int u8)))::.one hI::.one hI::ai (bk []))))),[some [.hol (.sl 5 (Ty.int u8)),hI]]⟩,[(.exit 0,⟨(.one (.ptr 0 0)::.one hI::bz (.one (.hol (.int u64))::.any::ai (ai (dm [])))),[some [.hol (.sl 5 (Ty.int u8)),hI]]⟩)]⟩
def gi (d:cd.st.den):Tr (ap cd.xs):=
 .ite (decide (d.1.2.1=0)&&(decide (d.1.2.2.2.2.1=0)&&(decide (d.1.2.2.2.1=(d.1.2.2.1.length:Int))&&decide (d.1.2.2.1.length≤8)))) (.ret (.ret ((),((d.1.1,(aS d.1.2.2.1,())),(d.2.1,()))))) .no
def kR:Lp:=bM [(6,aD cd gi)]
def mA {R:Type}(h3 h4:Int)(h5:LI)(h6 h7:Int)(h8:LI)(h9:Int)(next:Int→Int→LI→Int→Int→LI→Int→Option R)(out:ap cd.xs→Option R):Option R:=bif decide (h7<h6) then bif decide (0≤h7)&&decide (h7<(↑h5.length:Int)) then next (h3) (nh u64 (fQ u64 h4 8) (u64.wrap (h5.getD h7.toNat 0))) (h5) (h6) (i64.wrap (h7+1)) (h8) (h9) else none else out (.ret ((),((h3,(h4,())),((h8,(h9,())),()))))
def kO (n:Nat)(h3 h4:Int)(h5:LI)(h6 h7:Int)(h8:LI)(h9:Int):Option (ap cd.xs):=fJ tt uw dr kR 1 Tryz.f132 (bP Tryz.f132 0) n (cd.st.mk' ((h3,(h4,(h5,(h6,(h7,()))))),((h8,(h9,())),()))) (bt cd.xs)
theorem AF (n:Nat)(h3 h4:Int)(h5:LI)(h6 h7:Int)(h8:LI)(h9:Int):kO (n+1) h3 h4 h5 h6 h7 h8 h9=mA h3 h4 h5 h6 h7 h8 h9 (kO n) some:=by kernel_rfl
theorem OO {v c:Int}(h0:0≤v)(h1:v<72057594037927936)(h2:0≤c)(h3:c≤255):nh .u64 (fQ .u64 v 8) (u64.wrap c)=v*256+c:=by
 have e1:fQ .u64 v 8=v*256:=by
  show IntKind.wrap .u64 (v*2 ^ 8)=_
  rw[show v*2 ^ 8=v*256 by omega]
  exact bK (k:=.u64) (by simp[bH,IntKind.min,IntKind.max,IntKind.signed,IntKind.bits];omega)
 have e0:u64.wrap c=c:=bK (k:=.u64) (by simp[bH,IntKind.min,IntKind.max,IntKind.signed,IntKind.bits];omega)
 rw[e1,e0]
 obtain ⟨v,rfl⟩:=au h0
 obtain ⟨c,rfl⟩:=au h2
 have e4:=Nat.two_pow_add_eq_or_of_lt (show c<2 ^ 8 by omega) v
 show IntKind.wrap .u64 ((BitVec.ofInt 64 ((v:Int)*256) ||| BitVec.ofInt 64 (c:Int)).toNat:Int)=_
 have e2:(BitVec.ofInt 64 (c:Int)).toNat=c:=by rw[BitVec.toNat_ofInt];omega
 have e3:(BitVec.ofInt 64 ((v:Int)*256)).toNat=2 ^ 8*v:=by rw[BitVec.toNat_ofInt];omega
 rw[BitVec.toNat_or,e2,e3,← e4]
 refine (bK (k:=.u64) ?_).trans ?_
 ·simp[bH,IntKind.min,IntKind.max,IntKind.signed,IntKind.bits];omega
 ·omega
theorem AJ (l:LI)(c:Int):aS (l++[c])=aS l*256+c:=by simp[aS]
theorem uj:∀(l:LI) (v:Int),(∀c∈l,0≤c∧c≤255)→0≤v→0≤l.foldl (fun v c=>v*256+c) v∧l.foldl (fun v c=>v*256+c) v<(v+1)*256 ^ l.length
 |[],v,_,h0=>⟨h0,by simp;omega⟩
 |c::l,v,h,h0=>by
  obtain ⟨h3,h4⟩:=h c (by simp)
  obtain ⟨h1,h2⟩:=uj l (v*256+c) (fun d hd=>h d (by simp[hd])) (by omega)
  refine ⟨h1,Int.lt_of_lt_of_le h2 ?_⟩
  rw[zN,Int.pow_succ,Int.mul_comm (256 ^ l.length) 256,← Int.mul_assoc]
  exact Int.mul_le_mul_of_nonneg_right (by omega) (Int.le_of_lt (Int.pow_pos (by decide)))
theorem rK (l:LI)(h:∀c∈l,0≤c∧c≤255):0≤aS l∧aS l<256 ^ l.length:=by
 have:=uj l 0 h (Int.le_refl _)
 simpa [aS] using this
theorem zP (n:Int)(l b:LI)(p:Int)(hl:l.length≤8)(hr:∀c∈l,0≤c∧c≤255):∀(k i:Nat),l.length<i+k→i≤l.length→
  kO k n (aS (l.take i)) l (l.length:Int) i b p=some (.ret ((),((n,(aS l,())),((b,(p,())),())))):=by
 intro k
 induction k with
 |zero=>intro i h;omega
 |succ k ih=>
  intro i h1 h2
  rw[AF]
  unfold mA
  by_cases hi:i<l.length
  ·have hc:=hr l[i] (List.getElem_mem hi)
   have hb:=rK (l.take i) fun c hc=>hr c (List.mem_of_mem_take hc)
   have hlt:(256:Int) ^ (l.take i).length≤72057594037927936:=by
    rw[List.length_take,show min i l.length=i by omega]
    have hi7:i≤7:=by omega
    match i,hi7 with
    |0,_=>decide
    |1,_=>decide
    |2,_=>decide
    |3,_=>decide
    |4,_=>decide
    |5,_=>decide
    |6,_=>decide
    |7,_=>decide
   have e1:List.getD l (i:Int).toNat 0=l[i]:=by simp only[zG,aA hi]
   rw[aa (by simpa using hi),aa (by simpa using hi),e1,OO hb.1 (by omega) hc.1 hc.2,← AJ,← List.take_succ_eq_append_getElem hi,b7 hi (by rw[ba];omega),ih (i+1) (by omega) (by omega)]
  ·rw[af (by simp;omega),List.take_of_length_le (by omega)]
def o6 (a0:Int)(a1:LI)(a2:Int):Option cL.Res:=bif decide (i64.wrap ((↑a1.length:Int) - a2)<a0) then oR ((0,1,()),(a1,a2,()),()) else bif decide (0≤a2)&&(decide (a2≤i64.wrap (a2+a0))&&decide (i64.wrap (a2+a0)≤(↑a1.length:Int))) then (gi ((a0,(0,(List.drop a2.toNat (List.take (i64.wrap (a2+a0)).toNat a1),((↑(List.drop a2.toNat (List.take (i64.wrap (a2+a0)).toNat a1)).length:Int),(0,()))))),((a1,(a2,())),()))).run fun y=>match y with | .ret ((),((x21,x22,()),(x23,x24,()),()))=>(oR ((x22,0,()),(x23,i64.wrap (x24+x21),()),())) else none
theorem CY (a0:Int)(a1:LI)(a2:Int):Io.run tt uw dr kR cL Tryz.f132 (((),a0,()),(a1,a2,()),())=o6 a0 a1 a2:=by kernel_rfl
theorem dA {b:LI}(h:Ty.wf bs b):∀c∈b,0≤c∧c≤255:=fun c hc=>by
 have:=h.2 c hc
 simpa [Ty.wf,bH,IntKind.min,IntKind.max,IntKind.signed,IntKind.bits] using this
theorem pm:HcsOk prog ua:=.cons CO .nil
theorem kU:HcOk prog 132 (ah cL gN):=by
 refine bQ pm (lp:=kR) (fn:=Tryz.f132) cL (.step (h0:=aD cd gi) (by kernel_rfl) (f9 pm (lp:=kR) (fn:=Tryz.f132) (.done (by kernel_rfl)) cd gi ?_) (.done (by kernel_rfl))) gN ?_
 ·rintro ⟨⟨(n:Int),(v:Int),(l:LI),(m:Int),(i:Int),⟨⟩⟩,⟨⟨(b:LI),(p:Int),⟨⟩⟩,⟨⟩⟩⟩ y hw hy
  obtain ⟨hg,hy⟩:=Tr.guard hy
  simp only[zA,zB] at hg
  obtain ⟨rfl,rfl,rfl,h4⟩:=hg
  refine ⟨l.length+1,(zP n l b p h4 (dA hw.1.2.2.1) _ 0 (by omega) (by omega)).trans ?_⟩
  rw[← hy];rfl
 ·rintro ⟨⟨⟨⟩,(n:Int),⟨⟩⟩,⟨⟨(b:LI),(p:Int),⟨⟩⟩,⟨⟩⟩⟩ out hw ho
  obtain ⟨hg,ho⟩:=Tr.guard ho
  simp only[cP,zA,zB] at hg
  obtain ⟨⟨h1,h2,h3⟩,h4,h5⟩:=hg
  have h1:b.length≤4294960000:=h1
  have h2:(0:Int)≤p:=h2
  have h3:p≤(b.length:Int):=h3
  have h4:(0:Int)≤n:=h4
  have h5:n≤(8:Int):=h5
  cases ho
  refine (CY n b p).trans ?_
  show _=oR (((bJ b p n.toNat).1,((bJ b p n.toNat).2.2,())),((b,((bJ b p n.toNat).2.1,())),()))
  unfold o6
  rw[ae (n:=(b.length:Int) - p) (by omega) (by omega),ae (n:=p+n) (by omega) (by omega)]
  unfold bJ
  by_cases hl:(b.length:Int) - p<n
  ·rw[aa (by simpa using hl),if_pos (by omega)]
  ·have e0:List.drop p.toNat (List.take (p+n).toNat b)=(b.drop p.toNat).take n.toNat:=by rw[List.drop_take,show (p+n).toNat - p.toNat=n.toNat by omega]
   rw[af (by simpa using hl),if_neg (by omega),aa (by simp;omega),e0]
   have hl8:((b.drop p.toNat).take n.toNat).length≤8:=by simp;omega
   have e1:gi ((n,(0,((b.drop p.toNat).take n.toNat,((((b.drop p.toNat).take n.toNat).length:Int),(0,()))))),((b,(p,())),()))=.ite true (.ret (.ret ((),((n,(aS ((b.drop p.toNat).take n.toNat),())),((b,(p,())),()))))) .no:=
    congrArg (fun c=>Tr.ite c _ _) (show (decide ((0:Int)=0)&&(decide ((0:Int)=0)&&(decide ((((b.drop p.toNat).take n.toNat).length:Int)=(((b.drop p.toNat).take n.toNat).length:Int))&&decide (((b.drop p.toNat).take n.toNat).length≤8))))=true by simp;omega)
   rw[e1]
   simp only[Tr.run,cond_true]
   rw[ae (n:=p+n) (by omega) (by omega),show ((n.toNat:Nat):Int)=n by omega]
abbrev kA:Io:=⟨[.ptr 0 0],[PE],[],[Ru,dI],none⟩
def yH (d:kA.In):Tr kA.Res:=
 .ite (cP d.2.1.1 d.2.1.2.1) (.ret (.ret ((i16.wrap (bJ d.2.1.1 d.2.1.2.1 2).1,((bJ d.2.1.1 d.2.1.2.1 2).2.2,())),((d.2.1.1,((bJ d.2.1.1 d.2.1.2.1 2).2.1,())),())))) .no
abbrev FQ:List (Nat×Hc):=[(132,ah cL gN)]
def NU:Hd:=bG FQ
def GT:Lp:=bM []
def wL (a0:LI)(a1:Int):Option kA.Res:=bif cP a0 a1&&(decide (0≤2)&&decide (2≤8)) then oR ((i16.wrap (bJ a0 a1 (Int.toNat 2)).1,(bJ a0 a1 (Int.toNat 2)).2.2,()),(a0,(bJ a0 a1 (Int.toNat 2)).2.1,()),()) else none
theorem Mv (a0:LI)(a1:Int):Io.run tt NU dr GT kA Tryz.f107 (((),()),(a0,a1,()),())=wL a0 a1:=by kernel_rfl
theorem OE:HcOk prog 107 (ah kA yH):=by
 refine bQ (cs:=FQ) (.cons kU .nil) (lp:=GT) (fn:=Tryz.f107) kA (.done (by kernel_rfl)) yH ?_
 rintro ⟨⟨⟨⟩,⟨⟩⟩,⟨⟨(b:LI),(p:Int),⟨⟩⟩,⟨⟩⟩⟩ out hw ho
 obtain ⟨hg,ho⟩:=Tr.guard ho
 have hg:cP b p=true:=hg
 cases ho
 refine (Mv b p).trans ?_
 unfold wL
 rw[aa (by simp[hg])]
 rfl
abbrev jh:Io:=⟨[.ptr 0 0],[PE],[],[PO,dI],none⟩
def tp (d:jh.In):Tr jh.Res:=
 .ite (cP d.2.1.1 d.2.1.2.1) (.ret (.ret ((i32.wrap (bJ d.2.1.1 d.2.1.2.1 4).1,((bJ d.2.1.1 d.2.1.2.1 4).2.2,())),((d.2.1.1,((bJ d.2.1.1 d.2.1.2.1 4).2.1,())),())))) .no
abbrev FR:List (Nat×Hc):=[(132,ah cL gN)]
def NV:Hd:=bG FR
def GU:Lp:=bM []
def wM (a0:LI)(a1:Int):Option jh.Res:=bif cP a0 a1&&(decide (0≤4)&&decide (4≤8)) then oR ((i32.wrap (bJ a0 a1 (Int.toNat 4)).1,(bJ a0 a1 (Int.toNat 4)).2.2,()),(a0,(bJ a0 a1 (Int.toNat 4)).2.1,()),()) else none
theorem Mw (a0:LI)(a1:Int):Io.run tt NV dr GU jh Tryz.f99 (((),()),(a0,a1,()),())=wM a0 a1:=by kernel_rfl
theorem Hq:HcOk prog 99 (ah jh tp):=by
 refine bQ (cs:=FR) (.cons kU .nil) (lp:=GU) (fn:=Tryz.f99) jh (.done (by kernel_rfl)) tp ?_
 rintro ⟨⟨⟨⟩,⟨⟩⟩,⟨⟨(b:LI),(p:Int),⟨⟩⟩,⟨⟩⟩⟩ out hw ho
 obtain ⟨hg,ho⟩:=Tr.guard ho
 have hg:cP b p=true:=hg
 cases ho
 refine (Mw b p).trans ?_
 unfold wM
 rw[aa (by simp[hg])]
 rfl
abbrev kB:Io:=⟨[.ptr 0 0],[PE],[],[cw,dI],none⟩
def yI (d:kB.In):Tr kB.Res:=
 .ite (cP d.2.1.1 d.2.1.2.1) (.ret (.ret ((i64.wrap (bJ d.2.1.1 d.2.1.2.1 8).1,((bJ d.2.1.1 d.2.1.2.1 8).2.2,())),((d.2.1.1,((bJ d.2.1.1 d.2.1.2.1 8).2.1,())),())))) .no
abbrev FS:List (Nat×Hc):=[(132,ah cL gN)]
def NW:Hd:=bG FS
def GV:Lp:=bM []
def wN (a0:LI)(a1:Int):Option kB.Res:=bif cP a0 a1&&(decide (0≤8)&&decide (8≤8)) then oR ((i64.wrap (bJ a0 a1 (Int.toNat 8)).1,(bJ a0 a1 (Int.toNat 8)).2.2,()),(a0,(bJ a0 a1 (Int.toNat 8)).2.1,()),()) else none
theorem Mx (a0:LI)(a1:Int):Io.run tt NW dr GV kB Tryz.f104 (((),()),(a0,a1,()),())=wN a0 a1:=by kernel_rfl
theorem OF:HcOk prog 104 (ah kB yI):=by
 refine bQ (cs:=FS) (.cons kU .nil) (lp:=GV) (fn:=Tryz.f104) kB (.done (by kernel_rfl)) yI ?_
 rintro ⟨⟨⟨⟩,⟨⟩⟩,⟨⟨(b:LI),(p:Int),⟨⟩⟩,⟨⟩⟩⟩ out hw ho
 obtain ⟨hg,ho⟩:=Tr.guard ho
 have hg:cP b p=true:=hg
 cases ho
 refine (Mx b p).trans ?_
 unfold wN
 rw[aa (by simp[hg])]
 rfl
abbrev iC:Io:=⟨[.ptr 0 0,dI],[PE],[],[dI],none⟩
def sx (d:iC.In):Tr iC.Res:=
 .ite (cP d.2.1.1 d.2.1.2.1) (.ret (.ret (((oD d.2.1.1 d.2.1.2.1 d.1.2.1).2,()),((d.2.1.1,((oD d.2.1.1 d.2.1.2.1 d.1.2.1).1,())),())))) .no
abbrev BK:List (Nat×Hc):=[(134,ah gr sw)]
def KY:Hd:=bG BK
def CH:Lp:=bM []
def tV (a0:Int)(a1:LI)(a2:Int):Option iC.Res:=bif decide (a0<0) then oR ((3,()),(a1,a2,()),()) else bif decide (i64.wrap ((↑a1.length:Int) - a2)<a0) then oR ((1,()),(a1,a2,()),()) else oR ((0,()),(a1,i64.wrap (a2+a0),()),())
theorem I2 (a0:Int)(a1:LI)(a2:Int):Io.run tt KY dr CH iC Tryz.f105 (((),a0,()),(a1,a2,()),())=tV a0 a1 a2:=by kernel_rfl
theorem LW:HcOk prog 105 (ah iC sx):=by
 refine bQ (cs:=BK) (.cons CO .nil) (lp:=CH) (fn:=Tryz.f105) iC (.done (by kernel_rfl)) sx ?_
 rintro ⟨⟨⟨⟩,(n:Int),⟨⟩⟩,⟨⟨(b:LI),(p:Int),⟨⟩⟩,⟨⟩⟩⟩ out hw ho
 obtain ⟨hg,ho⟩:=Tr.guard ho
 simp only[cP,zA,zB] at hg
 obtain ⟨h1,h2,h3⟩:=hg
 have h1:b.length≤4294960000:=h1
 have h2:(0:Int)≤p:=h2
 have h3:p≤(b.length:Int):=h3
 cases ho
 refine (I2 n b p).trans ?_
 unfold tV oD
 rw[ae (n:=(b.length:Int) - p) (by omega) (by omega)]
 by_cases h4:n<0
 ·rw[aa (by simpa using h4),if_pos h4]
 ·rw[af (by simpa using h4),if_neg h4]
  by_cases h5:(b.length:Int) - p<n
  ·rw[aa (by simpa using h5),if_pos h5]
  ·rw[af (by simpa using h5),if_neg h5,ae (n:=p+n) (by omega) (by omega)]
abbrev ji:Io:=⟨[dL],[],[PE],[.ptr 0 0],none⟩
def yJ (d:ji.In):Tr ji.Res:=.ite (decide (d.1.1.length≤4294967296)) (.ret (.ret (((),()),((d.1.1,(0,())),())))) .no
abbrev FT:List (Nat×Hc):=[(47,ah eG oN)]
def NX:Hd:=bG FT
def GW:Lp:=bM []
def HZ (a0:LI):Option ji.Res:=bif decide (a0.length≤4294967296) then oR (((),()),(a0,0,()),()) else none
theorem My (a0:LI):Io.run tt NX dr GW ji Tryz.f98 ((a0,()),())=HZ a0:=by kernel_rfl
theorem Hr:HcOk prog 98 (ah ji yJ):=by
 refine bQ (cs:=FT) (.cons uM .nil) (lp:=GW) (fn:=Tryz.f98) ji (.done (by kernel_rfl)) yJ ?_
 rintro ⟨⟨(b:LI),⟨⟩⟩,⟨⟩⟩ out hw ho
 obtain ⟨hg,ho⟩:=Tr.guard ho
 cases ho
 exact (My b).trans (aa hg _ _)
abbrev fg:Io:=⟨[cw,dI],[],[],[dO],none⟩
def oM (d:fg.In):Tr fg.Res:=.ite (decide ((0:Int)≤d.1.2.1)&&decide (d.1.2.1≤(8:Int))) (.ret (.ret ((aU d.1.1 d.1.2.1.toNat,()),()))) .no
abbrev mI:List (Nat×Hc):=[]
def qD:Hd:=bG mI
abbrev cA:Lo:=⟨⟨(.one hI::.one hI::.any::bk (.one (.onl 5 (Ty.int u8) 11)::.one hI::.any::ai (ai (bz (bk []))))),[]⟩,[(.exit 0,⟨(.any::.one hI::.any::bk (.one (.onl 5 (Ty.int u8) 11)::ai (ai (dm [])))),[]⟩)]⟩
abbrev cc:Lo:=⟨⟨(.any::bz (.one (.onl 5 (Ty.int u8) 11)::bk (.one (.onl 5 (Ty.int u8) 17)::.one hI::ai (ai (bz []))))),[]⟩,[(.exit 2,⟨(dm (.one (.onl 5 (Ty.int u8) 17)::.any::ai (ai (bz [])))),[]⟩)]⟩
def fj (v:Int):Nat→LI
 |0=>[]
 |n+1=>v % 256::fj (v / 256) n
def gY (d:cA.st.den):Tr (ap cA.xs):=
 .ite (decide (d.1.2.2.1.length=0)&&(decide (d.1.2.2.2.1=0)&&(decide ((0:Int)≤d.1.2.1)&&decide (d.1.2.1≤(8:Int))))) (.ret (.ret ((),((d.1.2.1,(fj d.1.1 d.1.2.1.toNat,())),())))) .no
def fc (d:cc.st.den):Tr (ap cc.xs):=
 .ite (decide (d.1.2.1.length=0)&&(decide (d.1.2.2.1=(d.1.1.length:Int) - 1)&&decide (d.1.1.length≤8))) (.ret (.ret ((),((d.1.1.reverse,()),())))) .no
def gR:Lp:=bM [(4,aD cA gY),(13,aD cc fc)]
def nz {R:Type}(h2 h3:Int)(h4:LI)(h5:Int)(next:Int→Int→LI→Int→Option R)(out:ap cA.xs→Option R):Option R:=bif decide (h5<h3) then bif decide (i64.wrap (h2.tmod 256)<0) then bif decide (h4.length+[u8.wrap (i64.wrap (i64.wrap (h2.tmod 256)+256))].length≤4294967296) then next (i64.wrap ((i64.wrap (h2 - i64.wrap (i64.wrap (h2.tmod 256)+256))).tdiv 256)) (h3) (h4++[u8.wrap (i64.wrap (i64.wrap (h2.tmod 256)+256))]) (i64.wrap (h5+1)) else none else bif decide (h4.length+[u8.wrap (i64.wrap (h2.tmod 256))].length≤4294967296) then next (i64.wrap ((i64.wrap (h2 - i64.wrap (h2.tmod 256))).tdiv 256)) (h3) (h4++[u8.wrap (i64.wrap (h2.tmod 256))]) (i64.wrap (h5+1)) else none else out (.ret ((),((h3,(h4,())),())))
def jp (n:Nat)(h2 h3:Int)(h4:LI)(h5:Int):Option (ap cA.xs):=fJ tt qD dr gR 0 Tryz.f85 (bP Tryz.f85 0) n (cA.st.mk' ((h2,(h3,(h4,(h5,())))),())) (bt cA.xs)
theorem C4 (n:Nat)(h2 h3:Int)(h4:LI)(h5:Int):jp (n+1) h2 h3 h4 h5=nz h2 h3 h4 h5 (jp n) some:=by kernel_rfl
def iQ {R:Type}(h18 h19:LI)(h20:Int)(next:LI→LI→Int→Option R)(out:ap cc.xs→Option R):Option R:=bif decide (0≤h20) then bif decide (0≤h20)&&decide (h20<(↑h18.length:Int)) then bif decide (h19.length+[h18.getD h20.toNat 0].length≤4294967296) then next (h18) (h19++[h18.getD h20.toNat 0]) (i64.wrap (h20 - 1)) else none else none else out (.ret ((),((h19,()),())))
def kM (n:Nat)(h18 h19:LI)(h20:Int):Option (ap cc.xs):=fJ tt qD dr gR 0 Tryz.f85 (bP Tryz.f85 1) n (cc.st.mk' ((h18,(h19,(h20,()))),())) (bt cc.xs)
theorem pH (n:Nat)(h18 h19:LI)(h20:Int):kM (n+1) h18 h19 h20=iQ h18 h19 h20 (kM n) some:=by kernel_rfl
theorem Ni (v:Int):(v.tmod 256<0→v.tmod 256+256=v % 256)∧(¬ v.tmod 256<0→v.tmod 256=v % 256):=by
 by_cases h:0≤v
 ·rw[Int.tmod_eq_emod_of_nonneg h];omega
 ·obtain ⟨u,rfl⟩:∃u,v = -u:=⟨-v,by omega⟩
  rw[Int.neg_tmod,Int.tmod_eq_emod_of_nonneg (by omega)];omega
theorem Nh (v:Int):(v - v % 256).tdiv 256=v / 256:=by
 have e:v - v % 256=v / 256*256:=by omega
 rw[e,Int.mul_tdiv_cancel _ (by decide)]
theorem Pp {n:Int}(h0:0≤n)(h1:n<256):u8.wrap n=n:=bK (by simp[bH,IntKind.min,IntKind.max,IntKind.signed,IntKind.bits];omega)
theorem vS {m:Nat}(hm:m≤8):∀(k j:Nat) (v:Int) (acc:LI),m<j+k→j≤m→acc.length=j→-9223372036854775808≤v→v≤9223372036854775807→
  jp k v (m:Int) acc j=some (.ret ((),(((m:Int),(acc++fj v (m - j),())),()))):=by
 intro k
 induction k with
 |zero=>intro j v acc h;omega
 |succ k ih=>
  intro j v acc h1 h2 h3 h4 h5
  rw[C4]
  unfold nz
  by_cases hj:j<m
  ·refine bT (decide_eq_true (show (j:Int)<(m:Int) by omega)) ?_
   have ht:=Ni v
   have hd:∀x:Int,x=v % 256→jp k (i64.wrap ((i64.wrap (v - x)).tdiv 256)) (m:Int) (acc++[u8.wrap x]) (i64.wrap ((j:Int)+1))=some (.ret ((),(((m:Int),(acc++fj v (m - j),())),()))):=by
    rintro x rfl
    rw[ae (n:=v - v % 256) (by omega) (by omega),Nh,ae (n:=v / 256) (by omega) (by omega),ae (n:=(j:Int)+1) (by omega) (by omega),Pp (n:=v % 256) (by omega) (by omega)]
    refine (ih (j+1) (v / 256) (acc++[v % 256]) (by omega) (by omega) (by simp[h3]) (by omega) (by omega)).trans ?_
    obtain ⟨q,hq⟩:∃q,m - j=q+1:=⟨m - j - 1,by omega⟩
    rw[hq,show m - (j+1)=q by omega,fj]
    simp
   have hr : -256≤v.tmod 256∧v.tmod 256<256:=by
    by_cases h:v.tmod 256<0
    ·have:=ht.1 h;omega
    ·have:=ht.2 h;omega
   rw[ae (n:=v.tmod 256) (by omega) (by omega),ae (n:=v.tmod 256+256) (by omega) (by omega)]
   by_cases hn:v.tmod 256<0
   ·refine bT (by simpa using hn) ?_
    refine bT (decide_eq_true (show acc.length+1≤4294967296 by omega)) ?_
    exact hd _ (ht.1 hn)
   ·refine bF (by simpa using hn) ?_
    refine bT (decide_eq_true (show acc.length+1≤4294967296 by omega)) ?_
    exact hd _ (ht.2 hn)
  ·refine bF (decide_eq_false (show ¬(j:Int)<(m:Int) by omega)) ?_
   rw[show m - j=0 by omega,fj]
   simp
theorem uF {low:LI}(hl:low.length≤8):∀(j:Nat) (acc:LI),j≤low.length→acc.length+j≤8→
  kM (j+1) low acc ((j:Int) - 1)=some (.ret ((),((acc++(low.take j).reverse,()),()))):=by
 intro j
 induction j with
 |zero=>
  intro acc h1 h2
  rw[pH]
  unfold iQ
  refine bF (by decide) ?_
  simp
 |succ j ih=>
  intro acc h1 h2
  rw[pH]
  unfold iQ
  rw[show ((j+1:Nat):Int) - 1=(j:Int) by omega]
  have hg:List.getD low j (0:Int)=low[j]'(by omega):=aA (by omega)
  refine bT (by simp) ?_
  refine bT (by simp;omega) ?_
  simp only[zG,hg]
  refine bT (decide_eq_true (show acc.length+1≤4294967296 by omega)) ?_
  rw[ae (n:=(j:Int) - 1) (by omega) (by omega)]
  refine (ih (acc++[low[j]'(by omega)]) (by omega) (by simp;omega)).trans ?_
  rw[List.take_succ_eq_append_getElem (by omega),List.reverse_append,List.reverse_singleton,zK]
theorem Jp (v:Int):∀n,(fj v n).length=n:=by
 intro n
 induction n generalizing v with
 |zero=>rfl
 |succ n ih=>rw[fj,zN,ih]
theorem vo:∀(n:Nat) (v:Int),fj v (n+1)=fj v n++[(v / 256 ^ n) % 256]
 |0,v=>by simp[fj]
 |n+1,v=>by
  rw[fj,vo n (v / 256),fj]
  have e:v / 256 / 256 ^ n=v / 256 ^ (n+1):=by
   rw[Int.pow_succ,Int.mul_comm,Int.ediv_ediv_of_nonneg (by decide)]
  rw[e];rfl
theorem yf (v:Int):∀n,(fj v n).reverse=aU v n
 |0=>rfl
 |n+1=>by rw[vo,List.reverse_append,yf v n];rfl
def rn (a0 a1:Int):Option fg.Res:=(gY ((a0,(a1,([],(0,())))),())).run fun y=>match y with | .ret ((),((x16,x17,()),()))=>((fc ((x17,([],(i64.wrap (x16 - 1),()))),())).run fun y=>match y with | .ret ((),((x25,()),()))=>(oR ((x25,()),())))
theorem EA (a0 a1:Int):Io.run tt qD dr gR fg Tryz.f85 ((a0,a1,()),())=rn a0 a1:=by kernel_rfl
theorem xU:HcOk prog 85 (ah fg oM):=by
 refine bQ (cs:=mI) HcsOk.nil (lp:=gR) (fn:=Tryz.f85) fg (.step (h0:=aD cA gY) (by kernel_rfl) (f9 (cs:=mI) HcsOk.nil (lp:=gR) (fn:=Tryz.f85) (.done (by kernel_rfl)) cA gY ?_) (.step (h0:=aD cc fc) (by kernel_rfl) (f9 (cs:=mI) HcsOk.nil (lp:=gR) (fn:=Tryz.f85) (.done (by kernel_rfl)) cc fc ?_) (.done (by kernel_rfl)))) oM ?_
 ·rintro ⟨⟨(v:Int),(m:Int),(acc:LI),(i:Int),⟨⟩⟩,⟨⟩⟩ y hw hy
  obtain ⟨hg,hy⟩:=Tr.guard hy
  simp only[zA,zB] at hg
  obtain ⟨h1,h2,h3,h4⟩:=hg
  have h1:acc=[]:=zF h1
  have h2:i=0:=h2
  have h3:(0:Int)≤m:=h3
  have h4:m≤(8:Int):=h4
  subst h1
  subst h2
  obtain ⟨m,rfl⟩:=au h3
  have hv:bH .i64 v:=hw.1.1
  simp only[bH,IntKind.min,IntKind.max,IntKind.signed,IntKind.bits] at hv
  simp at hv
  refine ⟨m+1,(vS (m:=m) (by omega) (m+1) 0 v [] (by omega) (by omega) rfl (by omega) (by omega)).trans ?_⟩
  rw[← hy];rfl
 ·rintro ⟨⟨(low:LI),(acc:LI),(i:Int),⟨⟩⟩,⟨⟩⟩ y hw hy
  obtain ⟨hg,hy⟩:=Tr.guard hy
  simp only[zA,zB] at hg
  obtain ⟨h1,h2,h3⟩:=hg
  have h1:acc=[]:=zF h1
  have h2:i=(low.length:Int) - 1:=h2
  have h3:low.length≤8:=h3
  subst h1
  subst h2
  refine ⟨low.length+1,(uF h3 low.length [] (by omega) (by simpa using h3)).trans ?_⟩
  rw[← hy,List.take_length];rfl
 ·rintro ⟨⟨(v:Int),(m:Int),⟨⟩⟩,⟨⟩⟩ out hw ho
  obtain ⟨hg,ho⟩:=Tr.guard ho
  simp only[zA,zB] at hg
  obtain ⟨h5,h6⟩:=hg
  have h5:(0:Int)≤m:=h5
  have h6:m≤(8:Int):=h6
  cases ho
  refine (EA v m).trans ?_
  unfold rn
  have c1:(decide (([]:LI).length=0)&&(decide ((0:Int)=0)&&(decide ((0:Int)≤m)&&decide (m≤(8:Int)))))=true:=by simp;omega
  have e1:gY ((v,(m,([],(0,())))),())=.ite true (.ret (.ret ((),((m,(fj v m.toNat,())),())))) .no:=congrArg (fun c=>Tr.ite c _ _) c1
  rw[e1]
  show (fc ((fj v m.toNat,([],(i64.wrap (m - 1),()))),())).run _=_
  rw[ae (n:=m - 1) (by omega) (by omega)]
  have c2:(decide (([]:LI).length=0)&&(decide (m - 1=((fj v m.toNat).length:Int) - 1)&&decide ((fj v m.toNat).length≤8)))=true:=by
   rw[Jp];simp;omega
  have e2:fc ((fj v m.toNat,([],(m - 1,()))),())=.ite true (.ret (.ret ((),(((fj v m.toNat).reverse,()),())))) .no:=congrArg (fun c=>Tr.ite c _ _) c2
  rw[e2,yf]
  rfl
def cm (l:LI):Int:=match l with
 |[]=>0
 |c::l=>l.foldl (fun v c=>v*256+c) (if 128≤c then c - 256 else c)
def am (b:LI)(at_ n:Int):Int×Bool:=if at_<0∨(b.length:Int)<at_∨(b.length:Int) - at_<n then (0,false) else (cm ((b.drop at_.toNat).take n.toNat),true)
abbrev fY:Io:=⟨[dL,dI,dI],[],[],[cw,dB],none⟩
def tn (d:fY.In):Tr fY.Res:=.ite (decide ((0:Int)≤d.1.2.2.1)&&decide (d.1.2.2.1≤(8:Int))) (.ret (.ret (((am d.1.1 d.1.2.1 d.1.2.2.1).1,((am d.1.1 d.1.2.1 d.1.2.2.1).2,())),()))) .no
abbrev qu:List (Nat×Hc):=[]
def xE:Hd:=bG qu
abbrev cB:Lo:=⟨⟨(.one (.hol (.sl 5 (Ty.int u8)))::.one hI::.one hI::.any::bz (.one hI::.one hI::ai (ai (dm (bk []))))),[]⟩,[(.exit 0,⟨(dm (.one hI::.any::ai (ai (dm (bk []))))),[]⟩)]⟩
def gZ (d:cB.st.den):Tr (ap cB.xs):=
 .ite (decide (d.1.2.2.2.1=0)&&(decide (d.1.2.2.2.2.1=0)&&((decide ((0:Int)≤d.1.2.1)&&decide (d.1.2.1+d.1.2.2.1≤(d.1.1.length:Int)))&&(decide ((0:Int)≤d.1.2.2.1)&&decide (d.1.2.2.1≤(8:Int)))))) (.ret (.ret ((),((cm ((d.1.1.drop d.1.2.1.toNat).take d.1.2.2.1.toNat),()),())))) .no
def mT:Lp:=bM [(6,aD cB gZ)]
def nA {R:Type}(h3:LI)(h4 h5 h6 h7:Int)(next:LI→Int→Int→Int→Int→Option R)(out:ap cB.xs→Option R):Option R:=bif decide (h7<h5) then bif decide (0≤i64.wrap (h4+h7))&&decide (i64.wrap (h4+h7)<(↑h3.length:Int)) then bif h7 == 0 then bif decide (128≤i64.wrap (h3.getD (i64.wrap (h4+h7)).toNat 0)) then next (h3) (h4) (h5) (i64.wrap (i64.wrap (h6*256)+i64.wrap (i64.wrap (h3.getD (i64.wrap (h4+h7)).toNat 0) - 256))) (i64.wrap (h7+1)) else next (h3) (h4) (h5) (i64.wrap (i64.wrap (h6*256)+i64.wrap (h3.getD (i64.wrap (h4+h7)).toNat 0))) (i64.wrap (h7+1)) else next (h3) (h4) (h5) (i64.wrap (i64.wrap (h6*256)+i64.wrap (h3.getD (i64.wrap (h4+h7)).toNat 0))) (i64.wrap (h7+1)) else none else out (.ret ((),((h6,()),())))
def l7 (n:Nat)(h3:LI)(h4 h5 h6 h7:Int):Option (ap cB.xs):=fJ tt xE dr mT 0 Tryz.f133 (bP Tryz.f133 0) n (cB.st.mk' ((h3,(h4,(h5,(h6,(h7,()))))),())) (bt cB.xs)
theorem C5 (n:Nat)(h3:LI)(h4 h5 h6 h7:Int):l7 (n+1) h3 h4 h5 h6 h7=nA h3 h4 h5 h6 h7 (l7 n) some:=by kernel_rfl
theorem E4 (l:LI)(c:Int):cm (l++[c])=if l=[] then (if 128≤c then c - 256 else c) else cm l*256+c:=by
 cases l with
 |nil=>simp[cm]
 |cons x l=>simp[cm,List.foldl_append]
theorem Dl:∀(l:LI) (v B:Int),(∀c∈l,0≤c∧c<256)→-B≤v→v<B→-(B*256 ^ l.length)≤l.foldl (fun v c=>v*256+c) v∧l.foldl (fun v c=>v*256+c) v<B*256 ^ l.length
 |[],v,B,_,h1,h2=>by simp;omega
 |c::l,v,B,hc,h1,h2=>by
  have h:=hc c (by simp)
  have ih:=Dl l (v*256+c) (B*256) (fun x hx=>hc x (by simp[hx])) (by omega) (by omega)
  have e:B*256*256 ^ l.length=B*256 ^ (c::l).length:=by rw[zN,Int.pow_succ,Int.mul_assoc,Int.mul_comm 256]
  rw[e] at ih
  exact ih
theorem M8 {l:LI}(hc:∀c∈l,0≤c∧c<256)(hl:l.length≤7) : -36028797018963968≤cm l∧cm l<36028797018963968:=by
 cases l with
 |nil=>simp[cm]
 |cons c l=>
  have h:=hc c (by simp)
  have h':=Dl l (if 128≤c then c - 256 else c) 128 (fun x hx=>hc x (by simp[hx])) (by split <;> omega) (by split <;> omega)
  have hp:(256:Int) ^ l.length≤256 ^ 6:=by
   have:=Nat.pow_le_pow_right (show 0<256 by decide) (show l.length≤6 by simpa using hl)
   have e:((256 ^ l.length:Nat):Int)=(256:Int) ^ l.length:=by simp
   have e2:((256 ^ 6:Nat):Int)=(256:Int) ^ 6:=by simp
   omega
  have e6:(256:Int) ^ 6=281474976710656:=by decide
  show -36028797018963968≤l.foldl _ _∧l.foldl _ _<36028797018963968
  omega
theorem Cn {b:LI}(hb:∀c∈b,0≤c∧c<256)(hl:b.length≤maxLen){a m:Nat}(h1:a+m≤b.length)(h2:m≤8):∀(k j:Nat),m<j+k→j≤m→
  l7 k b (a:Int) (m:Int) (cm ((b.drop a).take j)) j=some (.ret ((),((cm ((b.drop a).take m),()),()))):=by
 intro k
 induction k with
 |zero=>intro j h;omega
 |succ k ih=>
  intro j h3 h4
  rw[C5]
  unfold nA
  by_cases hj:j<m
  ·have hm:=ba
   rw[hm] at hl
   refine bT (decide_eq_true (show (j:Int)<(m:Int) by omega)) ?_
   have ej:((a:Int)+(j:Int))=((a+j:Nat):Int):=by omega
   have hget:List.getD b (a+j) (0:Int)=b[a+j]'(by omega):=aA (by omega)
   have hc:=hb (b[a+j]'(by omega)) (List.getElem_mem _)
   have e:(b.drop a).take (j+1)=(b.drop a).take j++[b[a+j]'(by omega)]:=by
    rw[List.take_succ_eq_append_getElem (by simp;omega)];simp
   have hs:=M8 (l:=(b.drop a).take j) (fun c hc=>hb c (List.mem_of_mem_drop (List.mem_of_mem_take hc))) (by simp;omega)
   have he:=E4 ((b.drop a).take j) (b[a+j]'(by omega))
   rw[← e] at he
   rw[ej,ae (n:=((a+j:Nat):Int)) (by omega) (by omega)]
   refine bT (by simp;omega) ?_
   simp only[zG,hget]
   have ih':=ih (j+1) (by omega) (by omega)
   rw[he] at ih'
   have hv0:j=0→cm ((b.drop a).take j)=0:=by rintro rfl;simp[cm]
   have ht:(b.drop a).take j=[]↔j=0:=by
    constructor
    ·intro h
     have:=congrArg List.length h
     simp at this
     omega
    ·rintro rfl;simp
   generalize b[a+j]'(by omega)=c at hc ih' ⊢
   generalize cm ((b.drop a).take j)=v at hs ih' hv0 ⊢
   rw[ae (n:=c) (by omega) (by omega),ae (n:=v*256) (by omega) (by omega),ae (n:=(j:Int)+1) (by omega) (by omega),ae (n:=v*256+c) (by omega) (by omega),ae (n:=c - 256) (by omega) (by omega)]
   by_cases h0:j=0
   ·have hv:=hv0 h0
    rw[if_pos (ht.2 h0)] at ih'
    refine bT (by simp[h0]) ?_
    by_cases h128:128≤c
    ·rw[if_pos h128] at ih'
     refine bT (by simpa using h128) ?_
     rw[show v*256+(c - 256)=c - 256 by omega,ae (n:=c - 256) (by omega) (by omega)]
     exact ih'
    ·rw[if_neg h128] at ih'
     refine bF (by simpa using h128) ?_
     rw[show v*256+c=c by omega]
     exact ih'
   ·rw[if_neg (fun h=>h0 (ht.1 h))] at ih'
    refine bF (by simpa using h0) ?_
    exact ih'
  ·refine bF (by simpa using hj) ?_
   rw[show j=m by omega]
def rp (a0:LI)(a1 a2:Int):Option fY.Res:=bif decide (a1<0) then oR ((0,false,()),()) else bif decide ((↑a0.length:Int)<a1) then oR ((0,false,()),()) else bif decide (i64.wrap ((↑a0.length:Int) - a1)<a2) then oR ((0,false,()),()) else (gZ ((a0,(a1,(a2,(0,(0,()))))),())).run fun y=>match y with | .ret ((),((x24,()),()))=>(oR ((x24,true,()),()))
theorem EB (a0:LI)(a1 a2:Int):Io.run tt xE dr mT fY Tryz.f133 ((a0,a1,a2,()),())=rp a0 a1 a2:=by kernel_rfl
theorem Iz:HcOk prog 133 (ah fY tn):=by
 refine bQ (cs:=qu) HcsOk.nil (lp:=mT) (fn:=Tryz.f133) fY (.step (h0:=aD cB gZ) (by kernel_rfl) (f9 (cs:=qu) HcsOk.nil (lp:=mT) (fn:=Tryz.f133) (.done (by kernel_rfl)) cB gZ ?_) (.done (by kernel_rfl))) tn ?_
 ·rintro ⟨⟨(b:LI),(a:Int),(m:Int),(v:Int),(i:Int),⟨⟩⟩,⟨⟩⟩ y hw hy
  obtain ⟨hg,hy⟩:=Tr.guard hy
  simp only[zA,zB] at hg
  obtain ⟨h1,h2,⟨h3,h4⟩,h5,h6⟩:=hg
  have h1:v=0:=h1
  have h2:i=0:=h2
  have h3:(0:Int)≤a:=h3
  have h4:a+m≤(b.length:Int):=h4
  have h5:(0:Int)≤m:=h5
  have h6:m≤(8:Int):=h6
  subst h1
  subst h2
  obtain ⟨a,rfl⟩:=au h3
  obtain ⟨m,rfl⟩:=au h5
  have hb:∀c∈b,0≤c∧c<256:=fun c hc=>by
   have h:=hw.1.1.2 c hc
   simp only[Ty.wf,bH,IntKind.min,IntKind.max,IntKind.signed,IntKind.bits] at h
   simp at h
   omega
  refine ⟨m+1,(Cn hb hw.1.1.1 (a:=a) (m:=m) (by omega) (by omega) (m+1) 0 (by omega) (by omega)).trans ?_⟩
  rw[← hy];rfl
 ·rintro ⟨⟨(b:LI),(a:Int),(m:Int),⟨⟩⟩,⟨⟩⟩ out hw ho
  obtain ⟨hg,ho⟩:=Tr.guard ho
  simp only[zA,zB] at hg
  obtain ⟨h5,h6⟩:=hg
  have h5:(0:Int)≤m:=h5
  have h6:m≤(8:Int):=h6
  cases ho
  refine (EB b a m).trans ?_
  unfold rp
  show _=oR (((am b a m).1,((am b a m).2,())),())
  unfold am
  have hl:b.length≤maxLen:=hw.1.1.1
  rw[ba] at hl
  by_cases h1:a<0
  ·rw[if_pos (.inl h1)]
   exact aa (by simpa using h1) _ _
  ·refine bF (by simpa using h1) ?_
   by_cases h2:(b.length:Int)<a
   ·rw[if_pos (.inr (.inl h2))]
    exact aa (by simpa using h2) _ _
   ·refine bF (by simpa using h2) ?_
    rw[ae (n:=(b.length:Int) - a) (by omega) (by omega)]
    by_cases h3:(b.length:Int) - a<m
    ·rw[if_pos (.inr (.inr h3))]
     exact aa (by simpa using h3) _ _
    ·rw[if_neg (by omega)]
     refine bF (by simpa using h3) ?_
     have c1:(decide ((0:Int)=0)&&(decide ((0:Int)=0)&&((decide ((0:Int)≤a)&&decide (a+m≤(b.length:Int)))&&(decide ((0:Int)≤m)&&decide (m≤(8:Int))))))=true:=by simp;omega
     have e1:gZ ((b,(a,(m,(0,(0,()))))),())=.ite true (.ret (.ret ((),((cm ((b.drop a.toNat).take m.toNat),()),())))) .no:=congrArg (fun c=>Tr.ite c _ _) c1
     rw[e1]
     rfl
abbrev BN:Sh:=.dat (.int .u32) false false
def iP (s:Nat):Nat:=if s % 2=1 then (s / 2) ^^^ 2197175160 else s / 2
theorem pX {s:Nat}(h:s<4294967296):iP s<4294967296:=by
 unfold iP
 split
 ·exact Nat.xor_lt_two_pow (n:=32) (by omega) (by omega)
 ·omega
theorem No (a b p:Nat):(a ^^^ p) ^^^ (b ^^^ p)=a ^^^ b:=by
 rw[Nat.xor_assoc,← Nat.xor_assoc p b p,Nat.xor_comm p b,Nat.xor_assoc b p p,Nat.xor_self,Nat.xor_zero]
theorem nd (a b:Nat):iP (a ^^^ b)=iP a ^^^ iP b:=by
 have h1:(a ^^^ b) / 2=a / 2 ^^^ b / 2:=Nat.xor_div_two
 have h2:(a ^^^ b) % 2=1↔¬(a % 2=1↔b % 2=1):=Nat.xor_mod_two_eq_one
 unfold iP
 rw[h1]
 by_cases ha:a % 2=1
 ·by_cases hb:b % 2=1
  ·rw[if_neg (by rw[h2];simp[ha,hb]),if_pos ha,if_pos hb,No]
  ·rw[if_pos (by rw[h2];simp[ha,hb]),if_pos ha,if_neg hb,Nat.xor_assoc,Nat.xor_comm (b / 2),← Nat.xor_assoc]
 ·by_cases hb:b % 2=1
  ·rw[if_pos (by rw[h2];simp[ha,hb]),if_neg ha,if_pos hb,Nat.xor_assoc]
  ·rw[if_neg (by rw[h2];simp[ha,hb]),if_neg ha,if_neg hb]
theorem nc (m:Nat):iP (2*m)=m:=by
 unfold iP
 rw[if_neg (by omega)]
 omega
def jx (s:Nat):Nat:=iP (iP (iP (iP s)))
theorem Jv (a b:Nat):jx (a ^^^ b)=jx a ^^^ jx b:=by unfold jx;rw[nd,nd,nd,nd]
theorem Nb (q:Nat):jx (16*q)=q:=by
 unfold jx
 rw[show 16*q=2*(2*(2*(2*q))) by omega,nc,nc,nc,nc]
theorem pW {s:Nat}(h:s<4294967296):jx s<4294967296:=pX (pX (pX (pX h)))
theorem Pk (s:Nat):s=(16*(s / 16)) ^^^ (s % 16):=by
 refine Nat.eq_of_testBit_eq fun i=>?_
 rw[Nat.testBit_xor,show 16*(s / 16)=2 ^ 4*(s / 2 ^ 4) by rfl,Nat.testBit_two_pow_mul,Nat.testBit_div_two_pow,show s % 16=s % 2 ^ 4 by rfl,Nat.testBit_mod_two_pow]
 by_cases h:4≤i
 ·have h':¬ i<4:=by omega
  simp[h,h',show i - 4+4=i by omega]
 ·have h':i<4:=by omega
  simp[h,h']
theorem Nc (s:Nat):jx s=(s / 16) ^^^ jx (s % 16):=by
 conv=>lhs;rw[Pk s]
 rw[Jv,Nb]
def Dm (s:Nat):Nat:=jx (jx s)
theorem Dn {s:Nat}(h:s<4294967296):Dm s<4294967296:=pW (pW h)
def Nz:LI→Nat→Nat
 |[],s=>s
 |x::l,s=>Nz l (Dm (s ^^^ x.toNat))
theorem mF {s:Nat}(h:s<4294967296){x:Int}(hx:x≤255):s ^^^ x.toNat<4294967296:=Nat.xor_lt_two_pow (n:=32) h (by omega)
theorem sC:∀{l:LI} {s:Nat},(∀c∈l,0≤c∧c≤255)→s<4294967296→Nz l s<4294967296
 |[],_,_,h=>h
 |x::l,_,hl,h=>sC (l:=l) (fun c hc=>hl c (by simp[hc])) (Dn (mF h (hl x (by simp)).2))
@[irreducible] def cG (c:Int)(b:LI):Int:=((Nz b (c.toNat ^^^ 4294967295) ^^^ 4294967295:Nat):Int)
@[irreducible] def jv (b:LI)(s:Int):Int:=((Nz b s.toNat:Nat):Int)
@[irreducible] def q8 (s:Int):Int:=(iP s.toNat:Int)
def nb:Nat→Int→Int
 |0,s=>s
 |n+1,s=>nb n (q8 s)
theorem vu (s:Nat):q8 (s:Int)=(iP s:Int):=by unfold q8;rw[zG]
theorem M9 (s:Nat):nb 8 (s:Int)=(Dm s:Int):=by
 simp only[nb,vu]
 rfl
theorem nf {x y:Nat}(hx:x<4294967296)(hy:y<4294967296):cq .u32 (x:Int) (y:Int)=((x ^^^ y:Nat):Int):=by
 have e1:(BitVec.ofInt 32 (x:Int)).toNat=x:=by rw[BitVec.toNat_ofInt];omega
 have e2:(BitVec.ofInt 32 (y:Int)).toNat=y:=by rw[BitVec.toNat_ofInt];omega
 show IntKind.wrap .u32 ((BitVec.ofInt 32 (x:Int) ^^^ BitVec.ofInt 32 (y:Int)).toNat:Int)=_
 rw[BitVec.toNat_xor,e1,e2]
 have:=Nat.xor_lt_two_pow (n:=32) hx hy
 exact bK (k:=.u32) (by simp[bH,IntKind.min,IntKind.max,IntKind.signed,IntKind.bits];omega)
theorem Hh {x:Nat}(hx:x<4294967296):vq .u32 (x:Int)=((x ^^^ 4294967295:Nat):Int):=by
 have:=nf (x:=4294967295) (y:=x) (by omega) hx
 rw[Nat.xor_comm] at this
 exact this
theorem qo {x:Nat}(hx:x<4294967296):ey .u32 (x:Int) 15=((x % 16:Nat):Int):=by
 have e1:(BitVec.ofInt 32 (x:Int)).toNat=x:=by rw[BitVec.toNat_ofInt];omega
 show IntKind.wrap .u32 ((BitVec.ofInt 32 (x:Int) &&& BitVec.ofInt 32 15).toNat:Int)=_
 rw[BitVec.toNat_and,e1,show (BitVec.ofInt 32 15).toNat=2 ^ 4 - 1 by decide,Nat.and_two_pow_sub_one_eq_mod]
 exact bK (k:=.u32) (by simp[bH,IntKind.min,IntKind.max,IntKind.signed,IntKind.bits];omega)
theorem MQ {x:Nat}(hx:x<4294967296):fR .u32 (x:Int) 4=((x / 16:Nat):Int):=by
 show IntKind.wrap .u32 ((x:Int).fdiv (2 ^ 4))=_
 rw[Int.fdiv_eq_ediv_of_nonneg _ (by decide)]
 rw[show (x:Int) / 2 ^ 4=((x / 16:Nat):Int) by omega]
 exact bK (k:=.u32) (by simp[bH,IntKind.min,IntKind.max,IntKind.signed,IntKind.bits];omega)
theorem Jx {r:Nat}(h:r<16):eY (r:Int)=(jx r:Int):=
 (show ∀r:Nat,r<16→eY (r:Int)=(jx r:Int) by decide +kernel) r h
theorem yZ {b:LI}(h:Ty.wf bs b):∀c∈b,0≤c∧c≤255:=fun c hc=>by
 have:=h.2 c hc
 simpa [Ty.wf,bH,IntKind.min,IntKind.max,IntKind.signed,IntKind.bits] using this
theorem qh {s:Int}(h:bH .u32 s):∃n:Nat,s=(n:Int)∧n<4294967296:=by
 simp[bH,IntKind.min,IntKind.max,IntKind.signed,IntKind.bits] at h
 exact ⟨s.toNat,by omega,by omega⟩
theorem Do {s:Nat}(hs:s<4294967296):cq .u32 (fR .u32 (s:Int) 4) (eY (ey .u32 (s:Int) 15))=(jx s:Int):=by
 have hr:s % 16<16:=by omega
 rw[qo hs,MQ hs,Jx hr,nf (by omega) (pW (by omega)),← Nc]
abbrev il:Io:=⟨[BN],[],[],[BN],none⟩
def ym (d:il.In):Tr il.Res:=.ret (.ret ((q8 d.1.1,()),()))
abbrev Bx:List (Nat×Hc):=[]
def KM:Hd:=bG Bx
def CA:Lp:=bM []
def tG (a0:Int):Option il.Res:=bif u32.wrap (a0.tmod 2) == 1 then oR ((cq u32 (u32.wrap (a0.tdiv 2)) 2197175160,()),()) else oR ((u32.wrap (a0.tdiv 2),()),())
theorem IL (a0:Int):Io.run tt KM dr CA il Tryz.f159 ((a0,()),())=tG a0:=by kernel_rfl
theorem LE:HcOk prog 159 (ah il ym):=by
 refine bQ (cs:=Bx) HcsOk.nil (lp:=CA) (fn:=Tryz.f159) il (.done (by kernel_rfl)) ym ?_
 rintro ⟨⟨(s:Int),⟨⟩⟩,⟨⟩⟩ out hw ho
 cases ho
 refine (IL s).trans ?_
 unfold tG
 obtain ⟨n,rfl,hn⟩:=qh hw.1.1
 have e1:u32.wrap ((n:Int).tmod 2)=((n % 2:Nat):Int):=by
  rw[Int.tmod_eq_emod_of_nonneg (by omega)]
  exact (bK (k:=.u32) (by simp[bH,IntKind.min,IntKind.max,IntKind.signed,IntKind.bits];omega)).trans (by omega)
 have e2:u32.wrap ((n:Int).tdiv 2)=((n / 2:Nat):Int):=by
  rw[Int.tdiv_eq_ediv_of_nonneg (by omega)]
  exact (bK (k:=.u32) (by simp[bH,IntKind.min,IntKind.max,IntKind.signed,IntKind.bits];omega)).trans (by omega)
 show _=oR ((q8 (n:Int),()),())
 rw[e1,e2,vu]
 unfold iP
 by_cases h:n % 2=1
 ·refine bT (by rw[h];rfl) ?_
  rw[if_pos h,← nf (by omega) (by omega)]
  rfl
 ·refine bF (by simp;omega) ?_
  rw[if_neg h]
abbrev km:Io:=⟨[BN,dL],[],[],[BN],none⟩
def DC (d:km.In):Tr km.Res:=.ret (.ret ((cG d.1.1 d.1.2.1,()),()))
abbrev Fy:List (Nat×Hc):=[(159,ah il ym)]
def zg:Hd:=bG Fy
abbrev dN:Lo:=⟨⟨(.any::.one (.hol (.sl 5 (Ty.int u8)))::.any::bk (.one (.hol (.int u32))::.one hI::.one hI::.any::ai (bz (bk [])))),[]⟩,[(.exit 2,⟨(.any::.one (.hol (.sl 5 (Ty.int u8)))::.any::bk (.one (.hol (.int u32))::.one hI::ai (dm []))),[]⟩)]⟩
abbrev dM:Lo:=⟨⟨(.any::.one (.hol (.sl 5 (Ty.int u8)))::.any::bk (.one (.hol (.int u32))::.one hI::ai (dm []))),[]⟩,[(.exit 0,⟨(.any::bz (.one (.hol (.int u32))::.any::ai (dm []))),[]⟩)]⟩
def lu (d:dN.st.den):Tr (ap dN.xs):=.ite (decide (d.1.2.2.2.1=0)) (.ret (.ret ((),((d.1.1,(nb 8 d.1.2.1,(d.1.2.2.1,()))),())))) .no
def lq (d:dM.st.den):Tr (ap dM.xs):=.ite (decide (d.1.2.2.1=0)) (.ret (.ret ((),((jv d.1.1 d.1.2.1,()),())))) .no
def mR:Lp:=bM [(4,aD dM lq),(8,aD dN lu)]
def rS {R:Type}(h5:LI)(h6 h7 h8:Int)(next:LI→Int→Int→Int→Option R)(out:ap dN.xs→Option R):Option R:=bif decide (h8<8) then next (h5) (q8 h6) (h7) (i64.wrap (h8+1)) else out (.ret ((),((h5,(h6,(h7,()))),())))
def qK (n:Nat)(h5:LI)(h6 h7 h8:Int):Option (ap dN.xs):=fJ tt zg dr mR 0 Tryz.f123 (E7 Tryz.f123 (bP Tryz.f123 0) 0) n (dN.st.mk' ((h5,(h6,(h7,(h8,())))),())) (bt dN.xs)
theorem Ja (n:Nat)(h5:LI)(h6 h7 h8:Int):qK (n+1) h5 h6 h7 h8=rS h5 h6 h7 h8 (qK n) some:=by kernel_rfl
def rR {R:Type}(h2:LI)(h3 h4:Int)(next:LI→Int→Int→Option R)(out:ap dM.xs→Option R):Option R:=bif decide (h4<(↑h2.length:Int)) then bif decide (0≤h4)&&decide (h4<(↑h2.length:Int)) then (lu ((h2,(cq u32 h3 (u32.wrap (h2.getD h4.toNat 0)),(h4,(0,())))),())).run fun y=>match y with | .ret ((),((x16,x17,x18,()),()))=>(next (x16) (x17) (i64.wrap (x18+1))) else none else out (.ret ((),((h3,()),())))
def mL (n:Nat)(h2:LI)(h3 h4:Int):Option (ap dM.xs):=fJ tt zg dr mR 0 Tryz.f123 (bP Tryz.f123 0) n (dM.st.mk' ((h2,(h3,(h4,()))),())) (bt dM.xs)
theorem I9 (n:Nat)(h2:LI)(h3 h4:Int):mL (n+1) h2 h3 h4=rR h2 h3 h4 (mL n) some:=by kernel_rfl
theorem Ck (b:LI)(i:Int):∀(k j:Nat) (s:Int),8<j+k→j≤8→qK k b s i j=some (.ret ((),((b,(nb (8 - j) s,(i,()))),()))):=by
 intro k
 induction k with
 |zero=>intro j s h;omega
 |succ k ih=>
  intro j s h1 h2
  rw[Ja]
  unfold rS
  by_cases hj:j<8
  ·refine bT (by simp;omega) ?_
   rw[ae (n:=(j:Int)+1) (by omega) (by omega),show (8 - j)=(8 - (j+1))+1 by omega]
   exact ih (j+1) _ (by omega) (by omega)
  ·refine bF (by simp;omega) ?_
   rw[show 8 - j=0 by omega]
   rfl
theorem vt {b:LI}(hb:∀c∈b,0≤c∧c≤255){i:Nat}(h:i<b.length){n:Nat}(hn:n<4294967296):jv (b.drop i) (n:Int)=jv (b.drop (i+1)) ((Dm (n ^^^ (b[i]).toNat):Nat):Int)∧Dm (n ^^^ (b[i]).toNat)<4294967296:=by
 refine ⟨?_,Dn (mF hn (hb b[i] (List.getElem_mem h)).2)⟩
 rw[zE h]
 unfold jv
 rw[zG,zG]
 rfl
theorem Np {b:LI}(hb:∀c∈b,0≤c∧c≤255){i:Nat}(h:i<b.length){n:Nat}(hn:n<4294967296):cq .u32 (n:Int) (u32.wrap (List.getD b (i:Int).toNat 0))=((n ^^^ (b[i]).toNat:Nat):Int):=by
 have hc:=hb b[i] (List.getElem_mem h)
 have e:List.getD b (i:Int).toNat 0=((b[i].toNat:Nat):Int):=by
  rw[zG,aA h]
  omega
 rw[e,bK (k:=.u32) (by simp[bH,IntKind.min,IntKind.max,IntKind.signed,IntKind.bits];omega)]
 exact nf hn (by omega)
theorem Cj {b:LI}(hb:∀c∈b,0≤c∧c≤255)(hl:b.length≤maxLen):∀(k i n:Nat),b.length<i+k→i≤b.length→n<4294967296→mL k b n i=some (.ret ((),((jv (b.drop i) n,()),()))):=by
 intro k
 induction k with
 |zero=>intro i n h;omega
 |succ k ih=>
  intro i n h1 h2 h3
  rw[I9]
  unfold rR
  by_cases hi:i<b.length
  ·refine bT (by simpa using hi) ?_
   refine bT (by simpa using hi) ?_
   obtain ⟨e1,e2⟩:=vt hb hi h3
   rw[Np hb hi h3,e1]
   unfold lu
   refine bT (by simp) ?_
   show mL k b (nb 8 _) (i64.wrap ((i:Int)+1))=_
   rw[M9,b7 hi hl]
   exact ih (i+1) _ (by omega) (by omega) e2
  ·refine bF (by simp;omega) ?_
   rw[zI (by omega)]
   unfold jv
   rw[zG]
   rfl
theorem MZ {c:Nat}(hc:c<4294967296){b:LI}(hb:∀x∈b,0≤x∧x≤255):cq .u32 (jv b ((c ^^^ 4294967295:Nat):Int)) 4294967295=cG (c:Int) b:=by
 have h1:=Nat.xor_lt_two_pow (n:=32) hc (show 4294967295<2 ^ 32 by decide)
 have h2:=sC hb h1
 unfold jv cG
 rw[zG,zG]
 exact nf h2 (by decide)
def wq (a0:Int)(a1:LI):Option km.Res:=(lq ((a1,(cq u32 a0 4294967295,(0,()))),())).run fun y=>match y with | .ret ((),((x23,()),()))=>(oR ((cq u32 x23 4294967295,()),()))
theorem Ma (a0:Int)(a1:LI):Io.run tt zg dr mR km Tryz.f123 ((a0,a1,()),())=wq a0 a1:=by kernel_rfl
theorem qA:HcsOk prog Fy:=.cons LE .nil
theorem Oo:HcOk prog 123 (ah km DC):=by
 refine bQ qA (lp:=mR) (fn:=Tryz.f123) km (.step (h0:=aD dM lq) (by kernel_rfl) (f9 qA (lp:=mR) (fn:=Tryz.f123) (.step (h0:=aD dN lu) (by kernel_rfl) (f9 qA (lp:=mR) (fn:=Tryz.f123) (.done (by kernel_rfl)) dN lu ?_) (.done (by kernel_rfl))) dM lq ?_) (.done (by kernel_rfl))) DC ?_
 ·rintro ⟨⟨(b:LI),(s:Int),(i:Int),(j:Int),⟨⟩⟩,⟨⟩⟩ y hw hy
  obtain ⟨hg,hy⟩:=Tr.guard hy
  have hg:j=0:=by simpa using hg
  subst hg
  refine ⟨9,(Ck b i 9 0 s (by omega) (by omega)).trans ?_⟩
  rw[← hy];rfl
 ·rintro ⟨⟨(b:LI),(s:Int),(i:Int),⟨⟩⟩,⟨⟩⟩ y hw hy
  obtain ⟨hg,hy⟩:=Tr.guard hy
  have hg:i=0:=by simpa using hg
  subst hg
  obtain ⟨n,rfl,hn⟩:=qh hw.1.2.1
  refine ⟨b.length+1,(Cj (yZ hw.1.1) hw.1.1.1 (b.length+1) 0 n (show b.length<0+(b.length+1) by omega) (Nat.zero_le _) hn).trans ?_⟩
  rw[← hy];rfl
 ·rintro ⟨⟨(c:Int),(b:LI),⟨⟩⟩,⟨⟩⟩ out hw ho
  cases ho
  refine (Ma c b).trans ?_
  obtain ⟨n,rfl,hn⟩:=qh hw.1.1
  unfold wq lq
  refine bT (by simp) ?_
  show oR ((cq .u32 (jv b (cq .u32 (n:Int) 4294967295)) 4294967295,()),())=oR ((cG (n:Int) b,()),())
  rw[show (4294967295:Int)=((4294967295:Nat):Int) from rfl,nf hn (by decide),show ((4294967295:Nat):Int)=4294967295 from rfl,MZ hn (yZ hw.1.2.1)]
abbrev gp:Io:=⟨[dL],[],[],[BN],none⟩
def so (d:gp.In):Tr gp.Res:=.ret (.ret ((cG 0 d.1.1,()),()))
abbrev Bw:List (Nat×Hc):=[(123,ah km DC)]
def KL:Hd:=bG Bw
def Cz:Lp:=bM []
def D1 (a0:LI):Option gp.Res:=oR ((cG 0 a0,()),())
theorem IK (a0:LI):Io.run tt KL dr Cz gp Tryz.f86 ((a0,()),())=D1 a0:=by kernel_rfl
theorem CM:HcOk prog 86 (ah gp so):=by
 refine bQ (cs:=Bw) (.cons Oo .nil) (lp:=Cz) (fn:=Tryz.f86) gp (.done (by kernel_rfl)) so ?_
 rintro ⟨⟨(b:LI),⟨⟩⟩,⟨⟩⟩ out hw ho
 cases ho
 exact IK b
abbrev nQ:Io:=⟨[BN,dL],[],[],[BN],none⟩
def JG (d:nQ.In):Tr nQ.Res:=.ret (.ret ((cG d.1.1 d.1.2.1,()),()))
abbrev D6:List (Nat×Hc):=[]
def KN:Hd:=bG D6
abbrev fw:Lo:=⟨⟨(.any::bz (.one (.hol (.int u32))::bz (.one (.hol (.sl 5 (Ty.int u8)))::.one hI::.one hI::ai (dm [])))),[]⟩,[(.exit 0,⟨(.any::bz (.one (.hol (.int u32))::.any::ai (dm (bz (bk []))))),[]⟩)]⟩
def oK (d:fw.st.den):Tr (ap fw.xs):=.ite (decide (d.1.2.2.2.1=0)&&decide (d.1.2.2.1=(d.1.2.1.length:Int))) (.ret (.ret ((),((jv d.1.2.1 d.1.1,()),())))) .no
def zX:Lp:=bM [(4,aD fw oK)]
def vz {R:Type}(h2:Int)(h3:LI)(h4 h5:Int)(next:Int→LI→Int→Int→Option R)(out:ap fw.xs→Option R):Option R:=bif decide (h5<h4) then bif decide (0≤h5)&&decide (h5<(↑h3.length:Int)) then bif decide (0≤ey u32 (cq u32 h2 (u32.wrap (h3.getD h5.toNat 0))) 15)&&decide (ey u32 (cq u32 h2 (u32.wrap (h3.getD h5.toNat 0))) 15<(↑16:Int)) then bif decide (0≤ey u32 (cq u32 (fR u32 (cq u32 h2 (u32.wrap (h3.getD h5.toNat 0))) 4) (eY (ey u32 (cq u32 h2 (u32.wrap (h3.getD h5.toNat 0))) 15))) 15)&&decide (ey u32 (cq u32 (fR u32 (cq u32 h2 (u32.wrap (h3.getD h5.toNat 0))) 4) (eY (ey u32 (cq u32 h2 (u32.wrap (h3.getD h5.toNat 0))) 15))) 15<(↑16:Int)) then next (cq u32 (fR u32 (cq u32 (fR u32 (cq u32 h2 (u32.wrap (h3.getD h5.toNat 0))) 4) (eY (ey u32 (cq u32 h2 (u32.wrap (h3.getD h5.toNat 0))) 15))) 4) (eY (ey u32 (cq u32 (fR u32 (cq u32 h2 (u32.wrap (h3.getD h5.toNat 0))) 4) (eY (ey u32 (cq u32 h2 (u32.wrap (h3.getD h5.toNat 0))) 15))) 15))) (h3) (h4) (i64.wrap (h5+1)) else none else none else none else out (.ret ((),((h2,()),())))
def uB (n:Nat)(h2:Int)(h3:LI)(h4 h5:Int):Option (ap fw.xs):=fJ tt KN dr zX 0 Tryz.f131 (bP Tryz.f131 0) n (fw.st.mk' ((h2,(h3,(h4,(h5,())))),())) (bt fw.xs)
theorem MU (n:Nat)(h2:Int)(h3:LI)(h4 h5:Int):uB (n+1) h2 h3 h4 h5=vz h2 h3 h4 h5 (uB n) some:=by kernel_rfl
theorem Ek {b:LI}(hb:∀c∈b,0≤c∧c≤255)(hl:b.length≤maxLen):∀(k i n:Nat),b.length<i+k→i≤b.length→n<4294967296→uB k n b (b.length:Int) i=some (.ret ((),((jv (b.drop i) n,()),()))):=by
 intro k
 induction k with
 |zero=>intro i n h;omega
 |succ k ih=>
  intro i n h1 h2 h3
  rw[MU]
  unfold vz
  by_cases hi:i<b.length
  ·refine bT (by simpa using hi) ?_
   refine bT (by simpa using hi) ?_
   obtain ⟨e1,e2⟩:=vt hb hi h3
   have h4:=mF h3 (hb b[i] (List.getElem_mem hi)).2
   have h5:=pW h4
   rw[Np hb hi h3,e1]
   refine (aa ?_ _ _).trans ?_
   ·rw[qo h4];simp;omega
   rw[Do h4]
   refine (aa ?_ _ _).trans ?_
   ·rw[qo h5];simp;omega
   rw[Do h5,b7 hi hl]
   exact ih (i+1) _ (by omega) (by omega) e2
  ·refine bF (by simp;omega) ?_
   rw[zI (by omega)]
   unfold jv
   rw[zG]
   rfl
def A9 (a0:Int)(a1:LI):Option nQ.Res:=(oK ((vq u32 a0,(a1,((↑a1.length:Int),(0,())))),())).run fun y=>match y with | .ret ((),((x11,()),()))=>(oR ((vq u32 x11,()),()))
theorem OU (a0:Int)(a1:LI):Io.run tt KN dr zX nQ Tryz.f131 ((a0,a1,()),())=A9 a0 a1:=by kernel_rfl
theorem P6:HcOk prog 131 (ah nQ JG):=by
 refine bQ (cs:=D6) HcsOk.nil (lp:=zX) (fn:=Tryz.f131) nQ (.step (h0:=aD fw oK) (by kernel_rfl) (f9 (cs:=D6) HcsOk.nil (lp:=zX) (fn:=Tryz.f131) (.done (by kernel_rfl)) fw oK ?_) (.done (by kernel_rfl))) JG ?_
 ·rintro ⟨⟨(s:Int),(b:LI),(m:Int),(i:Int),⟨⟩⟩,⟨⟩⟩ y hw hy
  obtain ⟨hg,hy⟩:=Tr.guard hy
  simp only[zA,zB] at hg
  obtain ⟨rfl,rfl⟩:=hg
  obtain ⟨n,rfl,hn⟩:=qh hw.1.1
  refine ⟨b.length+1,(Ek (yZ hw.1.2.1) hw.1.2.1.1 (b.length+1) 0 n (show b.length<0+(b.length+1) by omega) (Nat.zero_le _) hn).trans ?_⟩
  rw[← hy];rfl
 ·rintro ⟨⟨(c:Int),(b:LI),⟨⟩⟩,⟨⟩⟩ out hw ho
  cases ho
  refine (OU c b).trans ?_
  obtain ⟨n,rfl,hn⟩:=qh hw.1.1
  unfold A9 oK
  refine bT (by simp) ?_
  show oR ((vq .u32 (jv b (vq .u32 (n:Int))),()),())=oR ((cG (n:Int) b,()),())
  have h1:=Nat.xor_lt_two_pow (n:=32) hn (show 4294967295<2 ^ 32 by decide)
  have h2:=sC (yZ hw.1.2.1) h1
  rw[Hh hn]
  unfold jv cG
  rw[zG,zG,Hh h2]
def vm:List (LI)→Int→Int
 |[],c=>c
 |p::ps,c=>vm ps (cG c p)
abbrev ko:Io:=⟨[.dat (.sl 22 bs) false false],[],[],[BN],none⟩
def DD (d:ko.In):Tr ko.Res:=.ret (.ret ((vm d.1.1 0,()),()))
abbrev Fz:List (Nat×Hc):=[(131,ah nQ JG)]
def Gm:Hd:=bG Fz
abbrev dP:Lo:=⟨⟨(.any::bk (.one (.hol (.int u32))::bk (.one (.hol (.sl 22 (Ty.sl 5 (Ty.int u8))))::.one hI::.one hI::dm []))),[]⟩,[(.exit 0,⟨(.any::bk (.one (.hol (.int u32))::.any::dm (bz []))),[]⟩)]⟩
def lw (d:dP.st.den):Tr (ap dP.xs):=.ite (decide (d.1.2.2.2.1=0)&&decide (d.1.2.2.1=(d.1.2.1.length:Int))) (.ret (.ret ((),((vm d.1.2.1 d.1.1,()),())))) .no
def sN:Lp:=bM [(4,aD dP lw)]
def rT {R:Type}(h1:Int)(h2:List bs.den)(h3 h4:Int)(next:Int→List bs.den→Int→Int→Option R)(out:ap dP.xs→Option R):Option R:=bif decide (h4<h3) then bif decide (0≤h4)&&decide (h4<(↑h2.length:Int)) then next (cG h1 (h2.getD h4.toNat [])) (h2) (h3) (i64.wrap (h4+1)) else none else out (.ret ((),((h1,()),())))
def qL (n:Nat)(h1:Int)(h2:List bs.den)(h3 h4:Int):Option (ap dP.xs):=fJ tt Gm dr sN 0 Tryz.f96 (bP Tryz.f96 0) n (dP.st.mk' ((h1,(h2,(h3,(h4,())))),())) (bt dP.xs)
theorem Jb (n:Nat)(h1:Int)(h2:List bs.den)(h3 h4:Int):qL (n+1) h1 h2 h3 h4=rT h1 h2 h3 h4 (qL n) some:=by kernel_rfl
theorem Cl (ps:List (LI))(hl:ps.length≤maxLen):∀(k i:Nat) (c:Int),ps.length<i+k→i≤ps.length→qL k c ps (ps.length:Int) i=some (.ret ((),((vm (ps.drop i) c,()),()))):=by
 intro k
 induction k with
 |zero=>intro i c h;omega
 |succ k ih=>
  intro i c h1 h2
  rw[Jb]
  unfold rT
  by_cases hi:i<ps.length
  ·refine bT (by simpa using hi) ?_
   refine bT (by simpa using hi) ?_
   have e:List.getD ps (i:Int).toNat []=ps[i]:=by simp only[zG,aA hi]
   rw[e,b7 hi hl,zE hi]
   exact ih (i+1) _ (by omega) (by omega)
  ·refine bF (by simp;omega) ?_
   rw[zI (by omega)]
   rfl
def wr (a0:List bs.den):Option ko.Res:=(lw ((0,(a0,((↑a0.length:Int),(0,())))),())).run fun y=>match y with | .ret ((),((x10,()),()))=>(oR ((x10,()),()))
theorem Mb (a0:List bs.den):Io.run tt Gm dr sN ko Tryz.f96 ((a0,()),())=wr a0:=by kernel_rfl
theorem xu:HcsOk prog Fz:=.cons P6 .nil
theorem Oq:HcOk prog 96 (ah ko DD):=by
 refine bQ xu (lp:=sN) (fn:=Tryz.f96) ko (.step (h0:=aD dP lw) (by kernel_rfl) (f9 xu (lp:=sN) (fn:=Tryz.f96) (.done (by kernel_rfl)) dP lw ?_) (.done (by kernel_rfl))) DD ?_
 ·rintro ⟨⟨(c:Int),(ps:List (LI)),(m:Int),(i:Int),⟨⟩⟩,⟨⟩⟩ y hw hy
  obtain ⟨hg,hy⟩:=Tr.guard hy
  simp only[zA,zB] at hg
  obtain ⟨rfl,rfl⟩:=hg
  refine ⟨ps.length+1,(Cl ps hw.1.2.1.1 (ps.length+1) 0 c (by omega) (by omega)).trans ?_⟩
  rw[← hy];rfl
 ·rintro ⟨⟨(ps:List (LI)),⟨⟩⟩,⟨⟩⟩ out hw ho
  cases ho
  refine (Mb ps).trans ?_
  unfold wr lw
  refine bT (by simp) ?_
  rfl
end
end Go.Proofs.YthpcdhgpplmneaaGreatDoor.Sym
