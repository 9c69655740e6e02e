/- vint: numbers. -/
import Derived.Test.YthpcdhgpplmneaaGreatDoorRows
import Derived.WalkKit
import Derived.ProofKit
import Derived.OpenShut
import Derived.JoinedCond
import Derived.ChangeStays
import Derived.DataReads
import Derived.Test.YthpcdhgpplmneaaGreatDoorQ3

set_option linter.unusedVariables false
set_option linter.unusedSimpArgs false
namespace Go.Proofs.YthpcdhgpplmneaaGreatDoor.Sym
open Go
open Go.IntKind (i8 i16 i32 i64 u8 u16 u32 u64)
noncomputable section
theorem xor_zero {x:Int}(h0:0≤x)(h:x<18446744073709551616):bZ .u64 x 0=x:=by
 show IntKind.wrap .u64 ((BitVec.ofInt 64 x ^^^ BitVec.ofInt 64 0).toNat:Int)=x
 rw[show BitVec.ofInt 64 0=0#64 from rfl,BitVec.xor_zero,BitVec.toNat_ofInt,bW] <;> omega
theorem FS {x:Int}(h0:0≤x)(h:x<9223372036854775808):bZ .i64 x (-1) = -x - 1:=by
 show IntKind.wrap .i64 ((BitVec.ofInt 64 x ^^^ BitVec.ofInt 64 (-1)).toNat:Int)=_
 rw[show BitVec.ofInt 64 (-1)=BitVec.allOnes 64 from rfl,BitVec.xor_allOnes,BitVec.toNat_not,BitVec.toNat_ofInt]
 simp only[IntKind.wrap,IntKind.signed,IntKind.bits]
 simp
 omega
theorem FT {x:Int}(h0:0≤x)(h:x<9223372036854775808):bZ .i64 x 0=x:=by
 show IntKind.wrap .i64 ((BitVec.ofInt 64 x ^^^ BitVec.ofInt 64 0).toNat:Int)=_
 rw[show BitVec.ofInt 64 0=0#64 from rfl,BitVec.xor_zero,BitVec.toNat_ofInt,ae] <;> omega
theorem Or {x:Int}(h0:0≤x)(h:x<18446744073709551616):ew .u64 x 1=x % 2:=by
 show IntKind.wrap .u64 ((BitVec.ofInt 64 x &&& BitVec.ofInt 64 1).toNat:Int)=_
 rw[BitVec.toNat_and,show (BitVec.ofInt 64 1).toNat=1 from rfl,BitVec.toNat_ofInt,Nat.and_one_is_mod,bW] <;> omega
abbrev ou:Io:=⟨[dV],[],[],[RR],none⟩
def Kv (d:ou.In):Tr ou.Res:=.ret (.ret ((al d.1.1,()),()))
abbrev KX:List (Nat×Hc):=[]
def QV:Hd:=bB KX
def L6:Lp:=bP []
def BK (a0:Int):Option ou.Res:=oR ((bZ i64 (i64.wrap (fY u64 a0 1)) (i64.wrap (0 - i64.wrap (ew u64 a0 1))),()),())
theorem P0 (a0:Int):Io.run tt QV dr L6 ou Tryz.f138 ((a0,()),())=BK a0:=by kernel_rfl
theorem Mw:HcOk prog 138 (ai ou Kv):=by
 refine bQ (cs:=KX) HcsOk.nil (lp:=L6) (fn:=Tryz.f138) ou (.done (by kernel_rfl)) Kv ?_
 rintro ⟨⟨(u:Int),⟨⟩⟩,⟨⟩⟩ out hw ho
 cases ho
 refine (P0 u).trans ?_
 have hr:=s8.1 (show bC .u64 u from hw.1.1)
 unfold BK
 show _=oR ((al u,()),())
 have e1:fY .u64 u 1=u / 2:=by
  show IntKind.wrap .u64 (u.fdiv (2 ^ 1))=_
  rw[Int.fdiv_eq_ediv_of_nonneg _ (by decide),bW] <;> omega
 rw[e1,Or hr.1 (by omega),ae (n:=u / 2) (by omega) (by omega),ae (n:=u % 2) (by omega) (by omega),ae (n:=0 - u % 2) (by omega) (by omega)]
 unfold al
 split
 ·rename_i h
  rw[h,show (0:Int) - 0=0 from rfl,FT (by omega) (by omega)]
 ·rename_i h
  rw[show (0:Int) - u % 2 = -1 by omega,FS (by omega) (by omega)]
theorem Oq {c:Int}(h0:0≤c)(h:c≤255):ew .u8 c 127=c % 128:=by
 show IntKind.wrap .u8 ((BitVec.ofInt 8 c &&& BitVec.ofInt 8 127).toNat:Int)=_
 rw[BitVec.toNat_and,show (BitVec.ofInt 8 127).toNat=2 ^ 7 - 1 from rfl,BitVec.toNat_ofInt,Nat.and_two_pow_sub_one_eq_mod,qE] <;> omega
theorem Rq {u d:Int}{i:Nat}(hu:0≤u)(hu':u<2 ^ i)(hd:0≤d)(hd':d*2 ^ i<18446744073709551616)(hi:i≤63):nz .u64 u (fX .u64 d i)=u+d*2 ^ i:=by
 have e1:fX .u64 d i=d*2 ^ i:=by
  show IntKind.wrap .u64 (d*2 ^ (min (i:Int).toNat 64))=_
  rw[show min (i:Int).toNat 64=i by omega,bW (Int.mul_nonneg hd (Int.le_of_lt (Int.pow_pos (by decide)))) hd']
 rw[e1]
 obtain ⟨u,rfl⟩:=au hu
 obtain ⟨d,rfl⟩:=au hd
 have h2:(2:Int) ^ i=((2 ^ i:Nat):Int):=by rw[Int.natCast_pow];rfl
 have hp:(d:Int)*2 ^ i=((2 ^ i*d:Nat):Int):=by rw[h2,Nat.mul_comm,Int.natCast_mul]
 rw[hp] at hd' ⊢
 rw[h2] at hu'
 have h3:u<2 ^ i:=Int.ofNat_lt.1 hu'
 have h4:2 ^ i*d<18446744073709551616:=by omega
 have h5:2 ^ i*d+u<18446744073709551616:=by
  obtain ⟨q,hq⟩:2 ^ i ∣ 18446744073709551616:=(Nat.pow_dvd_pow 2 (show i≤64 by omega))
  rw[hq] at h4 ⊢
  have h6:d<q:=Nat.lt_of_mul_lt_mul_left h4
  have h7:2 ^ i*(d+1)≤2 ^ i*q:=Nat.mul_le_mul_left _ h6
  rw[Nat.mul_add] at h7
  omega
 have e4:=Nat.two_pow_add_eq_or_of_lt h3 d
 generalize 2 ^ i*d=k at h4 h5 e4 ⊢
 show IntKind.wrap .u64 ((BitVec.ofInt 64 (u:Int) ||| BitVec.ofInt 64 (k:Int)).toNat:Int)=_
 have e2:(BitVec.ofInt 64 (u:Int)).toNat=u:=by rw[BitVec.toNat_ofInt];omega
 have e3:(BitVec.ofInt 64 (k:Int)).toNat=k:=by rw[BitVec.toNat_ofInt];omega
 rw[BitVec.toNat_or,e2,e3,Nat.or_comm,← e4,bW] <;> omega
theorem wa:∀l:LI,0≤ba l∧ba l<128 ^ l.length
 |[]=>by simp[ba]
 |c::l=>by
  have:=wa l
  simp only[ba,zN,Int.pow_succ]
  omega
def qb (m t:Int):Bool:=(decide (m=10)&&decide (t=1)) || (decide (m=5)&&decide (t=15))
abbrev kH:Io:=⟨[dL,dI,dI,dU],[],[],[dV,dI,dI],none⟩
def Ed (d:kH.In):Tr kH.Res:=
 .ite (qb d.1.2.2.1 d.1.2.2.2.1) (.ret (.ret (((ab d.1.2.2.1.toNat d.1.2.2.2.1 d.1.1 d.1.2.1).1,(ab d.1.2.2.1.toNat d.1.2.2.2.1 d.1.1 d.1.2.1).2.1,(ab d.1.2.2.1.toNat d.1.2.2.2.1 d.1.1 d.1.2.1).2.2,()),()))) .no
abbrev zP:List (Nat×Hc):=[]
def G6:Hd:=bB zP
abbrev dT:Lo:=⟨⟨(.any::.one hI::.one hI::.one (.hol (.int u8))::.any::bv (bi (.one (.hol (.int u64))::cN (bv (.one (.hol (.sl 5 (Ty.int u8)))::.one hI::.one hI::.any::ah (ah (bi []))))))),[]⟩,[(.ret,⟨(cN (.one (.hol (.int u64))::.one hI::.one hI::.any::ah (ah (ah (bi []))))),[]⟩),(.exit 0,⟨(ah (ah (ah (cN (bv (bi [])))))),[]⟩)]⟩
def lS (d:dT.st.den):Tr (ao dT.xs):=
 .ite (qb d.1.2.1 d.1.2.2.1&&(decide (d.1.2.2.2.1=(0:Int))&&(decide (d.1.2.2.2.2.2.2.1=(0:Int))&&(decide ((d.1.2.2.2.2.1.length:Int)=d.1.2.2.2.2.2.1)&&(decide ((0:Int)≤d.1.1)&&decide ((d.1.1:Int)+(d.1.2.2.2.2.1.length:Int)≤9223372036854775807))))))
  (.ite (decide ((bm d.1.2.1.toNat d.1.2.2.1 d.1.2.2.2.2.1 0).2=0))
   (.ret (.ret ((),((ba (d.1.2.2.2.2.1.take ((bm d.1.2.1.toNat d.1.2.2.1 d.1.2.2.2.2.1 0).1+1).toNat) % 18446744073709551616,(d.1.1+(bm d.1.2.1.toNat d.1.2.2.1 d.1.2.2.2.2.1 0).1+1,(0,()))),()))))
   (.ite (decide ((bm d.1.2.1.toNat d.1.2.2.1 d.1.2.2.2.2.1 0).2=1)) (.ret (.pan (.ret ((),((),())))))
    (.ret (.ret ((),((0,(0,((bm d.1.2.1.toNat d.1.2.2.1 d.1.2.2.2.2.1 0).2,()))),())))))) .no
def tg:Lp:=bP [(6,aA dT lS)]
def sC {R:Type}(h4 h5 h6 h7:Int)(h8:LI)(h9 h10:Int)(next:Int→Int→Int→Int→LI→Int→Int→Option R)(out:ao dT.xs→Option R):Option R:=bif decide (h10<h9) then bif decide (0≤h10)&&decide (h10<(↑h8.length:Int)) then bif h10 == i64.wrap (h5 - 1) then bif decide (h6<h8.getD h10.toNat 0) then out (.ret ((),((0,(0,(21,()))),()))) else bif decide (0≤i64.wrap (7*h10)) then bif decide (128≤h8.getD h10.toNat 0) then next (h4) (h5) (h6) (nz u64 h7 (fX u64 (u64.wrap (ew u8 (h8.getD h10.toNat 0) 127)) (i64.wrap (7*h10)))) (h8) (h9) (i64.wrap (h10+1)) else bif h8.getD h10.toNat 0 == 0 then bif decide (0<h10) then out (.ret ((),((0,(0,(20,()))),()))) else out (.ret ((),((nz u64 h7 (fX u64 (u64.wrap (ew u8 (h8.getD h10.toNat 0) 127)) (i64.wrap (7*h10))),(i64.wrap (i64.wrap (h4+h10)+1),(0,()))),()))) else out (.ret ((),((nz u64 h7 (fX u64 (u64.wrap (ew u8 (h8.getD h10.toNat 0) 127)) (i64.wrap (7*h10))),(i64.wrap (i64.wrap (h4+h10)+1),(0,()))),()))) else none else bif decide (0≤i64.wrap (7*h10)) then bif decide (128≤h8.getD h10.toNat 0) then next (h4) (h5) (h6) (nz u64 h7 (fX u64 (u64.wrap (ew u8 (h8.getD h10.toNat 0) 127)) (i64.wrap (7*h10)))) (h8) (h9) (i64.wrap (h10+1)) else bif h8.getD h10.toNat 0 == 0 then bif decide (0<h10) then out (.ret ((),((0,(0,(20,()))),()))) else out (.ret ((),((nz u64 h7 (fX u64 (u64.wrap (ew u8 (h8.getD h10.toNat 0) 127)) (i64.wrap (7*h10))),(i64.wrap (i64.wrap (h4+h10)+1),(0,()))),()))) else out (.ret ((),((nz u64 h7 (fX u64 (u64.wrap (ew u8 (h8.getD h10.toNat 0) 127)) (i64.wrap (7*h10))),(i64.wrap (i64.wrap (h4+h10)+1),(0,()))),()))) else none else none else out (.pan (.ret ((),((),()))))
def rg (n:Nat)(h4 h5 h6 h7:Int)(h8:LI)(h9 h10:Int):Option (ao dT.xs):=fH tt G6 dr tg 0 Tryz.f137 (bI Tryz.f137 0) n (dT.st.mk' ((h4,(h5,(h6,(h7,(h8,(h9,(h10,()))))))),())) (bo dT.xs)
theorem JW (n:Nat)(h4 h5 h6 h7:Int)(h8:LI)(h9 h10:Int):rg (n+1) h4 h5 h6 h7 h8 h9 h10=sC h4 h5 h6 h7 h8 h9 h10 (rg n) some:=by kernel_rfl
theorem I6 (p m:Nat)(t:Int)(l:LI)(hf:qb m t=true)(hp:(p:Int)+l.length≤9223372036854775807)(hc:∀c∈l,0≤c∧c≤255):∀(k i:Nat),i<m→m<i+k→i≤l.length→
  rg k p m t (ba (l.take i)) l l.length i=
   if (bm m t (l.drop i) i).2=0 then some (.ret ((),((ba (l.take ((bm m t (l.drop i) i).1+1).toNat) % 18446744073709551616,(p+(bm m t (l.drop i) i).1+1,(0,()))),())))
   else if (bm m t (l.drop i) i).2=1 then some (.pan (.ret ((),((),())))) else some (.ret ((),((0,(0,((bm m t (l.drop i) i).2,()))),()))):=by
 have hm:(m=10∧t=1)∨(m=5∧t=15):=by
  simp only[qb,Bool.or_eq_true,zA,zB] at hf
  omega
 intro k
 induction k with
 |zero=>intro i h1 h2;omega
 |succ k ih=>
  intro i h1 h2 h3
  rw[JW]
  unfold sC
  by_cases hl:i<l.length
  ·have hcc:=hc l[i] (List.getElem_mem hl)
   have e3:i64.wrap ((m:Int) - 1)=(m:Int) - 1:=ae (by omega) (by omega)
   have e4:i64.wrap ((i:Int)+1)=((i+1:Nat):Int):=by rw[ae] <;> omega
   have e5:i64.wrap (7*(i:Int))=((7*i:Nat):Int):=by rw[ae] <;> omega
   have e6:i64.wrap ((p:Int)+i)=((p+i:Nat):Int):=by rw[ae] <;> omega
   have e7:i64.wrap (((p+i:Nat):Int)+1)=(p:Int)+i+1:=by rw[ae] <;> omega
   rw[aa (by simpa using hl),aa (by simpa using hl)]
   simp only[zG,aB hl,e3,e4,e5,e6,e7]
   rw[Oq hcc.1 hcc.2,bW (n:=l[i] % 128) (by omega) (by omega),zE hl]
   have hsn:l.take (i+1)=l.take i++[l[i]]:=List.take_succ_eq_append_getElem hl
   have hv:=wa (l.take i)
   have hti:(l.take i).length=i:=by simp;omega
   rw[hti] at hv
   have e8:(128:Int) ^ i=2 ^ (7*i):=by rw[Int.pow_mul];rfl
   have hor:l[i] % 128*2 ^ (7*i)<18446744073709551616→nz .u64 (ba (l.take i)) (fX .u64 (l[i] % 128) ((7*i:Nat):Int))=ba (l.take (i+1)):=by
    intro h
    rw[Rq hv.1 (by rw[← e8];exact hv.2) (by omega) h (by omega),hsn,oZ,hti,e8,Int.mul_comm]
   generalize hg:nz .u64 (ba (l.take i)) (fX .u64 (l[i] % 128) ((7*i:Nat):Int))=v at hor ⊢
   have e9:(2:Int) ^ (7*i)=((2 ^ (7*i):Nat):Int):=by rw[Int.natCast_pow];rfl
   have hbd:(i≤8∨l[i] % 128≤1)→l[i] % 128*2 ^ (7*i)<18446744073709551616:=by
    intro h
    rw[e9]
    rcases h with h | h
    ·have h8:2 ^ (7*i)≤2 ^ 56:=Nat.pow_le_pow_right (by decide) (by omega)
     have h9:l[i] % 128*((2 ^ (7*i):Nat):Int)≤127*((2 ^ (7*i):Nat):Int):=Int.mul_le_mul_of_nonneg_right (by omega) (by omega)
     generalize 2 ^ (7*i)=w at h8 h9
     omega
    ·have h8:2 ^ (7*i)≤2 ^ 63:=Nat.pow_le_pow_right (by decide) (by omega)
     have h9:l[i] % 128*((2 ^ (7*i):Nat):Int)≤1*((2 ^ (7*i):Nat):Int):=Int.mul_le_mul_of_nonneg_right h (by omega)
     generalize 2 ^ (7*i)=w at h8 h9
     omega
   have hnext:=fun h=>ih (i+1) h (by omega) (by omega)
   have ei:((i:Int)+1).toNat=i+1:=by omega
   have hvr:bC .u64 v:=by rw[← hg];exact bO _ _
   have hvr:=s8.1 hvr
   clear hg
   by_cases hm1:i+1=m
   ·have h3':((i:Int) == (m:Int) - 1)=true:=by simp;omega
    rw[aa h3']
    by_cases h4:t<l[i]
    ·simp[bm,hm1,h4]
    ·have hv2:=hor (hbd (by omega))
     have hmod:ba (l.take (i+1)) % 18446744073709551616=ba (l.take (i+1)):=by rw[← hv2];omega
     have hmod':=hmod
     rw[hm1] at hmod'
     have h5:l[i]<128:=by omega
     have h6:¬ 128≤l[i]:=by omega
     rw[af (by simpa using h4),aa (by simp;omega),af (by simpa using h6),hv2]
     by_cases h7:l[i]=0
     ·have h4':¬ t<0:=by omega
      by_cases h8:0<i <;> simp[bm,hm1,h4',h7,h8,cond_eq_ite,ei,hmod']
     ·simp[bm,hm1,h4,h5,h7,cond_eq_ite,ei,hmod']
   ·have h3':((i:Int) == (m:Int) - 1)=false:=by simp;omega
    have hv2:=hor (hbd (by omega))
    have hmod:ba (l.take (i+1)) % 18446744073709551616=ba (l.take (i+1)):=by rw[← hv2];omega
    rw[af h3',aa (by simp;omega),hv2]
    by_cases h5:l[i]<128
    ·have h6:¬ 128≤l[i]:=by omega
     rw[af (by simpa using h6)]
     by_cases h7:l[i]=0
     ·by_cases h8:0<i <;> simp[bm,hm1,h7,h8,cond_eq_ite,ei,hmod]
     ·simp[bm,hm1,h5,h7,cond_eq_ite,ei,hmod]
    ·rw[aa (by simp;omega),hnext (by omega)]
     simp[bm,hm1,h5]
  ·rw[af (by simpa using hl),zI (by omega)]
   simp[bm]
def xd (a0:LI)(a1 a2 a3:Int):Option kH.Res:=bif decide (a1<0) then oR ((0,0,3,()),()) else bif decide ((↑a0.length:Int)<a1) then oR ((0,0,3,()),()) else bif decide (0≤a1)&&(decide (a1≤(↑a0.length:Int))&&decide ((↑a0.length:Int)≤(↑a0.length:Int))) then (lS ((a1,(a2,(a3,(0,(List.drop a1.toNat (List.take (↑a0.length:Int).toNat a0),((↑(List.drop a1.toNat (List.take (↑a0.length:Int).toNat a0)).length:Int),(0,()))))))),())).run fun y=>match y with | .ret ((),((x46,x47,x48,()),()))=>(oR ((x46,x47,x48,()),())) | .pan (.ret ((),((),())))=>(oR ((0,0,1,()),())) else none
theorem M6 (a0:LI)(a1 a2 a3:Int):Io.run tt G6 dr tg kH Tryz.f137 ((a0,a1,a2,a3,()),())=xd a0 a1 a2 a3:=by kernel_rfl
theorem H1:HcOk prog 137 (ai kH Ed):=by
 refine bQ (cs:=zP) .nil (lp:=tg) (fn:=Tryz.f137) kH
  (.step (h0:=aA dT lS) (by kernel_rfl) (fR (cs:=zP) .nil (lp:=tg) (fn:=Tryz.f137) (.done (by kernel_rfl)) dT lS ?_) (.done (by kernel_rfl))) Ed ?_
 ·rintro ⟨⟨(p:Int),(m:Int),(t:Int),(u:Int),(l:LI),(n:Int),(i:Int),⟨⟩⟩,⟨⟩⟩ y hw hy
  obtain ⟨hg,hy⟩:=Tr.guard hy
  simp only[zA,zB] at hg
  obtain ⟨hf,rfl,rfl,rfl,h1,h2⟩:=hg
  have h1:(0:Int)≤p:=h1
  have h2:p+(l.length:Int)≤9223372036854775807:=h2
  have hm0:5≤m∧m≤10:=by
   simp only[qb,Bool.or_eq_true,zA,zB] at hf
   omega
  obtain ⟨p,rfl⟩:=au h1
  obtain ⟨m,rfl⟩:=au (show 0≤m by omega)
  have hc:∀c∈l,0≤c∧c≤255:=fun c hc=>ER.1 (hw.1.2.2.2.2.1.2 c hc)
  refine ⟨m+1,(I6 p m t l hf h2 hc (m+1) 0 (by omega) (by omega) (by omega)).trans ?_⟩
  rw[← hy]
  simp only[Tr.val_ite,Tr.val_ret,zG,zB,List.drop_zero]
 ·rintro ⟨⟨(b:LI),(p:Int),(m:Int),(t:Int),⟨⟩⟩,⟨⟩⟩ out hw ho
  obtain ⟨hf,ho⟩:=Tr.guard ho
  cases ho
  refine (M6 b p m t).trans ?_
  have hb:b.length≤maxLen:=hw.1.1.1
  rw[aG] at hb
  have hf:qb m t=true:=hf
  have hm0:5≤m∧m≤10:=by
   simp only[qb,Bool.or_eq_true,zA,zB] at hf
   omega
  unfold xd
  show _=oR (((ab m.toNat t b p).1,(ab m.toNat t b p).2.1,(ab m.toNat t b p).2.2,()),())
  unfold ab
  by_cases h1:p<0
  ·rw[aa (by simpa using h1),if_pos (.inl h1)]
  ·by_cases h2:(b.length:Int)<p
   ·rw[af (by simpa using h1),aa (by simpa using h2),if_pos (.inr h2)]
   ·rw[af (by simpa using h1),af (by simpa using h2),aa (by simp;omega),if_neg (by omega),show (b.length:Int).toNat=b.length by omega,List.take_length]
    have hlen:((b.drop p.toNat).length:Int)=b.length - p:=by simp;omega
    have hr:=qg m.toNat t (b.drop p.toNat) 0
    unfold lS
    generalize b.drop p.toNat=l at hlen hr ⊢
    generalize bm m.toNat t l 0=r at hr ⊢
    obtain ⟨r1,r2⟩:=r
    have h9:(0:Int)≤p:=by omega
    have h8:p+(l.length:Int)≤9223372036854775807:=by omega
    simp only[Tr.run_ite,Tr.run_ret,zA,zB]
    rw[if_pos ⟨hf,trivial,trivial,trivial,h9,h8⟩]
    by_cases h3:r2=0
    ·simp[h3]
    ·by_cases h4:r2=1
     ·simp[h4]
     ·simp[h3,h4]
abbrev mi:Io:=⟨[dL,dI],[],[],[RR,dI,dI],none⟩
def FX (d:mi.In):Tr mi.Res:=.ret (.ret ((al (ab 10 1 d.1.1 d.1.2.1).1,(ab 10 1 d.1.1 d.1.2.1).2.1,(ab 10 1 d.1.1 d.1.2.1).2.2,()),()))
abbrev EH:List (Nat×Hc):=[(137,ai kH Ed),(138,ai ou Kv)]
def QT:Hd:=bB EH
def L4:Lp:=bP []
def uo (a0:LI)(a1:Int):Option mi.Res:=oR ((al (ab (Int.toNat 10) 1 a0 a1).1,(ab (Int.toNat 10) 1 a0 a1).2.1,(ab (Int.toNat 10) 1 a0 a1).2.2,()),())
theorem PX (a0:LI)(a1:Int):Io.run tt QT dr L4 mi Tryz.f135 ((a0,a1,()),())=uo a0 a1:=by kernel_rfl
theorem Mv:HcOk prog 135 (ai mi FX):=by
 refine bQ (cs:=EH) (.cons H1 (.cons Mw .nil)) (lp:=L4) (fn:=Tryz.f135) mi (.done (by kernel_rfl)) FX ?_
 rintro ⟨⟨(b:LI),(p:Int),⟨⟩⟩,⟨⟩⟩ out hw ho
 cases ho
 refine (PX b p).trans ?_
 first | rfl | (unfold uo;simp[qb];done) | (unfold uo;rfl)
abbrev gv:Io:=⟨[dL,dI],[],[],[SK,dI,dI],none⟩
def sT (d:gv.In):Tr gv.Res:=.ret (.ret ((IntKind.wrap .i32 (al (ab 5 15 d.1.1 d.1.2.1).1),(ab 5 15 d.1.1 d.1.2.1).2.1,(ab 5 15 d.1.1 d.1.2.1).2.2,()),()))
abbrev Cb:List (Nat×Hc):=EH
def LH:Hd:=bB Cb
def Da:Lp:=bP []
def nX (a0:LI)(a1:Int):Option gv.Res:=oR ((i32.wrap (al (ab (Int.toNat 5) 15 a0 a1).1),(ab (Int.toNat 5) 15 a0 a1).2.1,(ab (Int.toNat 5) 15 a0 a1).2.2,()),())
theorem JB (a0:LI)(a1:Int):Io.run tt LH dr Da gv Tryz.f111 ((a0,a1,()),())=nX a0 a1:=by kernel_rfl
theorem Dj:HcOk prog 111 (ai gv sT):=by
 refine bQ (cs:=Cb) (.cons H1 (.cons Mw .nil)) (lp:=Da) (fn:=Tryz.f111) gv (.done (by kernel_rfl)) sT ?_
 rintro ⟨⟨(b:LI),(p:Int),⟨⟩⟩,⟨⟩⟩ out hw ho
 cases ho
 refine (JB b p).trans ?_
 first | rfl | (unfold nX;simp[qb];done) | (unfold nX;rfl)
end
end Go.Proofs.YthpcdhgpplmneaaGreatDoor.Sym
namespace Go.Proofs.YthpcdhgpplmneaaGreatDoor.Sym
open Go
noncomputable section
theorem NP:∀(n:Nat) (u:Int),(fU n u).length≤n:=by
 intro n
 induction n with
 |zero=>intro u;simp[fU]
 |succ n ih=>intro u;simp only[fU];split;have:=ih (u / 128);simp;omega;simp
end
end Go.Proofs.YthpcdhgpplmneaaGreatDoor.Sym
namespace Go.Proofs.YthpcdhgpplmneaaGreatDoor.Sym
open Go
open Go.IntKind (i8 i16 i32 i64 u8 u16 u32 u64)
noncomputable section
abbrev yI:Ty:=.prod .bool (.prod bs .unit)
abbrev fZ:Ty:=.prod .str (.prod yI .unit)
abbrev FO:Ty:=.sl 206 fZ
abbrev SQ:Ty:=.prod (.int .i64) (.prod (.int .i32) (.prod yI (.prod yI (.prod FO .unit))))
abbrev GR:Sh:=.dat yI true false
abbrev Cn:Sh:=.dat SQ true false
abbrev QO:Sh:=.dat FO false false
end
end Go.Proofs.YthpcdhgpplmneaaGreatDoor.Sym
namespace Go.Proofs.YthpcdhgpplmneaaGreatDoor.Sym
open Go
noncomputable section
abbrev Bx:Type:=Bool×LI×Unit
abbrev ez:Type:=LI×Bx×Unit
abbrev pl:Type:=Int×Int×Bx×Bx×List ez×Unit
end
end Go.Proofs.YthpcdhgpplmneaaGreatDoor.Sym
namespace Go.Proofs.YthpcdhgpplmneaaGreatDoor.Sym
open Go
open Go.IntKind (i8 i16 i32 i64 u8 u16 u32 u64)
noncomputable section
def ag (b:LI)(p:Int):Int×Int×Int:=(IntKind.wrap .i32 (al (ab 5 15 b p).1),(ab 5 15 b p).2.1,(ab 5 15 b p).2.2)
def ac (b:LI)(p least:Int):Bx×Int×Int:=
 if (ag b p).2.2≠0 then ((false,[],()),0,(ag b p).2.2)
 else if (ag b p).1<least then ((false,[],()),0,5)
 else if (ag b p).1<0 then ((true,[],()),(ag b p).2.1,0)
 else if (b.length:Int) - (ag b p).2.1<(ag b p).1 then ((false,[],()),0,1)
 else ((false,(b.drop (ag b p).2.1.toNat).take (ag b p).1.toNat,()),(ag b p).2.1+(ag b p).1,0)
def aw (b:LI):Nat→List ez→Int→List ez×Int×Int
 |0,out,p=>(out,p,0)
 |n+1,out,p=>
  if (ac b p 0).2.2≠0 then ([],0,(ac b p 0).2.2)
  else if (cq (ac b p 0).1.2.1).2=false then ([],0,6)
  else if (ac b (ac b p 0).2.1 (-1)).2.2≠0 then ([],0,(ac b (ac b p 0).2.1 (-1)).2.2)
  else aw b n (out++[((ac b p 0).1.2.1,(ac b (ac b p 0).2.1 (-1)).1,())]) (ac b (ac b p 0).2.1 (-1)).2.1
theorem qc (b:LI):∀(n:Nat) (o:List ez) (p:Int),(aw b n o p).2.2≠0→(aw b n o p).1=[]∧(aw b n o p).2.1=0
 |0,o,p,h=>absurd rfl h
 |n+1,o,p,h=>by
  unfold aw at h ⊢
  split
  ·exact ⟨rfl,rfl⟩
  split
  ·exact ⟨rfl,rfl⟩
  split
  ·exact ⟨rfl,rfl⟩
  rename_i h1 h2 h3
  rw[if_neg h1,if_neg h2,if_neg h3] at h
  exact qc b n _ _ h
def av (b:LI)(p:Int):List ez×Int×Int:=
 if (ag b p).2.2≠0 then ([],0,(ag b p).2.2)
 else if (ag b p).1<0 then ([],0,5)
 else if 16<(ag b p).1 then ([],0,9)
 else aw b (ag b p).1.toNat [] (ag b p).2.1
def aH:pl:=(0,0,(false,[],()),(false,[],()),[],())
def aQ (b:LI):pl×Int:=
 if b.length=0 then (aH,1)
 else if b.getD 0 0≠0 then (aH,71)
 else if (ab 10 1 b 1).2.2≠0 then (aH,(ab 10 1 b 1).2.2)
 else if (ag b (ab 10 1 b 1).2.1).2.2≠0 then (aH,(ag b (ab 10 1 b 1).2.1).2.2)
 else if (ag b (ab 10 1 b 1).2.1).1<0 then (aH,72)
 else if (ac b (ag b (ab 10 1 b 1).2.1).2.1 (-1)).2.2≠0 then (aH,(ac b (ag b (ab 10 1 b 1).2.1).2.1 (-1)).2.2)
 else if (ac b (ac b (ag b (ab 10 1 b 1).2.1).2.1 (-1)).2.1 (-1)).2.2≠0 then (aH,(ac b (ac b (ag b (ab 10 1 b 1).2.1).2.1 (-1)).2.1 (-1)).2.2)
 else if (av b (ac b (ac b (ag b (ab 10 1 b 1).2.1).2.1 (-1)).2.1 (-1)).2.1).2.2≠0 then (aH,(av b (ac b (ac b (ag b (ab 10 1 b 1).2.1).2.1 (-1)).2.1 (-1)).2.1).2.2)
 else if (av b (ac b (ac b (ag b (ab 10 1 b 1).2.1).2.1 (-1)).2.1 (-1)).2.1).2.1<(b.length:Int) then (aH,2)
 else ((al (ab 10 1 b 1).1,(ag b (ab 10 1 b 1).2.1).1,(ac b (ag b (ab 10 1 b 1).2.1).2.1 (-1)).1,(ac b (ac b (ag b (ab 10 1 b 1).2.1).2.1 (-1)).2.1 (-1)).1,(av b (ac b (ac b (ag b (ab 10 1 b 1).2.1).2.1 (-1)).2.1 (-1)).2.1).1,()),0)
def an (b:LI)(p:Int):pl×Int×Int:=
 if (ag b p).2.2≠0 then (aH,0,(ag b p).2.2)
 else if (ag b p).1<0 then (aH,0,5)
 else if 16384<(ag b p).1 then (aH,0,4)
 else if (b.length:Int) - (ag b p).2.1<(ag b p).1 then (aH,0,1)
 else if (aQ ((b.drop (ag b p).2.1.toNat).take (ag b p).1.toNat)).2≠0 then (aH,0,(aQ ((b.drop (ag b p).2.1.toNat).take (ag b p).1.toNat)).2)
 else ((aQ ((b.drop (ag b p).2.1.toNat).take (ag b p).1.toNat)).1,(ag b p).2.1+(ag b p).1,0)
theorem Tr.run_of_val {α R:Type}:∀{t:Tr α} {K:α→Option R} {a:α},t.val=some a→t.run K=K a
 |.ret a,K,b,h=>by cases h;rfl
 |.no,K,b,h=>by cases h
 |.ite c t e,K,b,h=>by
  cases c with
  |true=>exact Tr.run_of_val (t:=t) h
  |false=>exact Tr.run_of_val (t:=e) h
theorem HcOk.weak {P:Program}{f:Nat}{io:Io}{F F':io.In→Tr io.Res}(hF:∀d y,(F' d).val=some y→(F d).val=some y)(h:HcOk P f (ai io F)):HcOk P f (ai io F'):=by
 intro R args id A K r Fr G ts cst w vals hid hr Rl hv
 refine h R args id A K r Fr G ts cst w vals hid ?_ Rl hv
 unfold ai at hr ⊢
 split at hr
 ·cases hr
 ·split at hr
  ·cases hr
  ·rename_i a β1 e1 o β e2
   simp only at hr ⊢
   simp only[cond_eq_ite] at hr ⊢
   split at hr
   ·rename_i hc
    rw[if_pos hc]
    obtain ⟨y,h1,h2⟩:=Tr.run_val hr
    rw[Tr.run_of_val (hF _ _ h1)]
    exact h2
   ·cases hr
theorem yE {m:Nat}{t:Int}{b:LI}{p:Int}(h:(ab m t b p).2.2≠0):(ab m t b p).1=0∧(ab m t b p).2.1=0:=by
 unfold ab at h ⊢
 split
 ·exact ⟨rfl,rfl⟩
 ·split
  ·rename_i h1 h2
   rw[if_neg h1,if_pos h2] at h
   exact absurd rfl h
  ·exact ⟨rfl,rfl⟩
def wH (d:cQ.In):Tr cQ.Res:=.ret (.ret (((ag d.1.1 d.1.2.1).1,(ag d.1.1 d.1.2.1).2.1,(ag d.1.1 d.1.2.1).2.2,()),()))
theorem AV:HcOk prog 150 (ai cQ wH):=by
 refine MD.weak ?_
 rintro ⟨⟨(b:LI),(p:Int),⟨⟩⟩,⟨⟩⟩ y h
 rw[← h]
 unfold sU wH ag
 simp only[Tr.val_ite,Tr.val_ret,zB]
 by_cases h1:(ab 5 15 b p).2.2=0
 ·rw[if_pos h1,h1]
 ·obtain ⟨h2,h3⟩:=yE h1
  rw[if_neg h1,h2,h3]
  rfl
def za (d:iJ.In):Tr iJ.Res:=.ret (.ret ((al (ab 10 1 d.1.1 d.1.2.1).1,(ab 10 1 d.1.1 d.1.2.1).2.1,(ab 10 1 d.1.1 d.1.2.1).2.2,()),()))
theorem H2:HcOk prog 113 (ai iJ za):=by
 refine Rh.weak ?_
 rintro ⟨⟨(b:LI),(p:Int),⟨⟩⟩,⟨⟩⟩ y h
 rw[← h]
 unfold FY za
 simp only[Tr.val_ite,Tr.val_ret,zB]
 by_cases h1:(ab 10 1 b p).2.2=0
 ·rw[if_pos h1,h1]
 ·obtain ⟨h2,h3⟩:=yE h1
  rw[if_neg h1,h2,h3]
  rfl
theorem mK {m:Nat}{t:Int}{b:LI}{p:Int}(h:(ab m t b p).2.2=0):0≤p∧p<(ab m t b p).2.1∧(ab m t b p).2.1≤b.length:=by
 unfold ab at h ⊢
 split
 ·rename_i h1
  rw[if_pos h1] at h
  cases h
 ·rename_i h1
  rw[if_neg h1] at h
  split
  ·rename_i h2
   have h3:=qg m t (b.drop p.toNat) 0 h2
   simp only[List.length_drop] at h3
   generalize (bm m t (b.drop p.toNat) 0).1=k at h3 ⊢
   simp only
   omega
  ·rename_i h2
   rw[if_neg h2] at h
   exact absurd h h2
theorem dF {b:LI}{p:Int}(h:(ag b p).2.2=0):0≤p∧p<(ag b p).2.1∧(ag b p).2.1≤b.length:=mK h
theorem cT {b:LI}{p:Int} : -2147483648≤(ag b p).1∧(ag b p).1≤2147483647:=by
 have:=bO .i32 (al (ab 5 15 b p).1)
 simp[bC,IntKind.min,IntKind.max,IntKind.signed,IntKind.bits] at this
 exact this
abbrev jp:Io:=⟨[dL,dI,SK],[],[],[GR,dI,dI],none⟩
def zg (d:jp.In):Tr jp.Res:=.ret (.ret (((ac d.1.1 d.1.2.1 d.1.2.2.1).1,(ac d.1.1 d.1.2.1 d.1.2.2.1).2.1,(ac d.1.1 d.1.2.1 d.1.2.2.1).2.2,()),()))
abbrev GA:List (Nat×Hc):=[(150,ai cQ wH),(21,ai jK wF)]
def OZ:Hd:=bB GA
def HI:Lp:=bP []
def IH (a0:LI)(a1 a2:Int):Option jp.Res:=bif (ab 5 15 a0 a1).2.2 != 0 then oR (((false,[],()),0,(ab 5 15 a0 a1).2.2,()),()) else bif decide (i32.wrap (al (ab 5 15 a0 a1).1)<a2) then oR (((false,[],()),0,5,()),()) else bif decide (i32.wrap (al (ab 5 15 a0 a1).1)<0) then oR (((true,[],()),(ab 5 15 a0 a1).2.1,0,()),()) else bif decide (i64.wrap ((↑a0.length:Int) - (ab 5 15 a0 a1).2.1)<i64.wrap (i32.wrap (al (ab 5 15 a0 a1).1))) then oR (((false,[],()),0,1,()),()) else bif decide (0≤(ab 5 15 a0 a1).2.1)&&(decide ((ab 5 15 a0 a1).2.1≤i64.wrap ((ab 5 15 a0 a1).2.1+i64.wrap (i32.wrap (al (ab 5 15 a0 a1).1))))&&decide (i64.wrap ((ab 5 15 a0 a1).2.1+i64.wrap (i32.wrap (al (ab 5 15 a0 a1).1)))≤(↑a0.length:Int))) then bif decide ((List.drop (ab 5 15 a0 a1).2.1.toNat (List.take (i64.wrap ((ab 5 15 a0 a1).2.1+i64.wrap (i32.wrap (al (ab 5 15 a0 a1).1)))).toNat a0)).length≤4294967296) then oR (((false,List.drop (ab 5 15 a0 a1).2.1.toNat (List.take (i64.wrap ((ab 5 15 a0 a1).2.1+i64.wrap (i32.wrap (al (ab 5 15 a0 a1).1)))).toNat a0),()),i64.wrap ((ab 5 15 a0 a1).2.1+i64.wrap (i32.wrap (al (ab 5 15 a0 a1).1))),0,()),()) else none else none
theorem Nl (a0:LI)(a1 a2:Int):Io.run tt OZ dr HI jp Tryz.f171 ((a0,a1,a2,()),())=IH a0 a1 a2:=by kernel_rfl
theorem H6:HcOk prog 171 (ai jp zg):=by
 refine bQ (cs:=GA) (.cons AV (.cons AP .nil)) (lp:=HI) (fn:=Tryz.f171) jp (.done (by kernel_rfl)) zg ?_
 rintro ⟨⟨(b:LI),(p:Int),(l:Int),⟨⟩⟩,⟨⟩⟩ out hw ho
 cases ho
 refine (Nl b p l).trans ?_
 have hb:b.length≤maxLen:=hw.1.1.1
 rw[aG] at hb
 show _=oR (((ac b p l).1,(ac b p l).2.1,(ac b p l).2.2,()),())
 change (bif (ag b p).2.2 != 0 then oR (((false,[],()),0,(ag b p).2.2,()),()) else bif decide ((ag b p).1<l) then _ else bif decide ((ag b p).1<0) then oR (((true,[],()),(ag b p).2.1,0,()),()) else bif decide (i64.wrap ((b.length:Int) - (ag b p).2.1)<i64.wrap (ag b p).1) then _
  else bif decide (0≤(ag b p).2.1)&&(decide ((ag b p).2.1≤i64.wrap ((ag b p).2.1+i64.wrap (ag b p).1))&&decide (i64.wrap ((ag b p).2.1+i64.wrap (ag b p).1)≤(b.length:Int))) then bif decide ((List.drop (ag b p).2.1.toNat (List.take (i64.wrap ((ag b p).2.1+i64.wrap (ag b p).1)).toNat b)).length≤4294967296) then oR (((false,List.drop (ag b p).2.1.toNat (List.take (i64.wrap ((ag b p).2.1+i64.wrap (ag b p).1)).toNat b),()),i64.wrap ((ag b p).2.1+i64.wrap (ag b p).1),0,()),()) else none else none)=_
 have hr:=@cT b p
 by_cases h0:(ag b p).2.2=0
 ·have hk:=dF h0
  rw[af (by simpa using h0)]
  by_cases h1:(ag b p).1<l
  ·have e:ac b p l=((false,[],()),0,5):=by unfold ac;rw[if_neg (by simpa using h0),if_pos h1]
   rw[e,aa (by simpa using h1)]
   first | done | rfl
  ·rw[af (by simpa using h1)]
   by_cases h2:(ag b p).1<0
   ·have e:ac b p l=((true,[],()),(ag b p).2.1,0):=by unfold ac;rw[if_neg (by simpa using h0),if_neg h1,if_pos h2]
    rw[e,aa (by simpa using h2)]
   ·rw[af (by simpa using h2),ae (n:=(b.length:Int) - (ag b p).2.1) (by omega) (by omega),ae (n:=(ag b p).1) (by omega) (by omega)]
    by_cases h3:(b.length:Int) - (ag b p).2.1<(ag b p).1
    ·have e:ac b p l=((false,[],()),0,1):=by unfold ac;rw[if_neg (by simpa using h0),if_neg h1,if_neg h2,if_pos h3]
     rw[e,aa (by simpa using h3)]
     first | done | rfl
    ·have e:ac b p l=((false,(b.drop (ag b p).2.1.toNat).take (ag b p).1.toNat,()),(ag b p).2.1+(ag b p).1,0):=by unfold ac;rw[if_neg (by simpa using h0),if_neg h1,if_neg h2,if_neg h3]
     rw[e,af (by simpa using h3),ae (n:=(ag b p).2.1+(ag b p).1) (by omega) (by omega)]
     rw[aa (by simp;omega),List.drop_take,show ((ag b p).2.1+(ag b p).1).toNat - (ag b p).2.1.toNat=(ag b p).1.toNat by omega,aa (by simp;omega)]
 ·have e:ac b p l=((false,[],()),0,(ag b p).2.2):=by unfold ac;rw[if_pos h0]
  rw[e,aa (by simpa using h0)]
abbrev iL:Io:=⟨[dL,dI],[],[],[QO,dI,dI],none⟩
def zf (d:iL.In):Tr iL.Res:=.ret (.ret (((av d.1.1 d.1.2.1).1,(av d.1.1 d.1.2.1).2.1,(av d.1.1 d.1.2.1).2.2,()),()))
abbrev Cj:List (Nat×Hc):=[(150,ai cQ wH),(171,ai jp zg),(174,ai mj FZ)]
def CI:Hd:=bB Cj
abbrev cy:Lo:=⟨⟨(.one (.hol (.sl 5 (Ty.int u8)))::.one hI::.any::bv (.one hJ::bi (.one (.onl 206 (Ty.str.prod ((Ty.bool.prod ((Ty.sl 5 (Ty.int u8)).prod Ty.unit)).prod Ty.unit)) 21)::.one hI::.any::ah (ah (ah (ah (bv []))))))),[]⟩,[(.ret,⟨(bv (.one (.onl 206 (Ty.str.prod ((Ty.bool.prod ((Ty.sl 5 (Ty.int u8)).prod Ty.unit)).prod Ty.unit)) 9)::.one hI::.one hI::ah (ah (ah (ah (cN (bi []))))))),[]⟩),(.exit 0,⟨(.any::.one hI::cN (.one (.onl 206 (Ty.str.prod ((Ty.bool.prod ((Ty.sl 5 (Ty.int u8)).prod Ty.unit)).prod Ty.unit)) 21)::ah (ah (ah (ah (bv (bi []))))))),[]⟩)]⟩
def f2 (d:cy.st.den):Tr (ao cy.xs):=
 .ite (decide (d.1.2.2.2.2.1=(0:Int))&&(decide ((0:Int)≤d.1.2.2.1)&&(decide (d.1.2.2.1≤(16:Int))&&decide (d.1.2.2.2.1=([]:List ez)))))
  (.ite (decide ((aw d.1.1 (d.1.2.2.1:Int).toNat [] d.1.2.1).2.2=(0:Int)))
   (.ret (.pan (.ret ((),(((aw d.1.1 (d.1.2.2.1:Int).toNat [] d.1.2.1).2.1,((aw d.1.1 (d.1.2.2.1:Int).toNat [] d.1.2.1).1,())),())))))
   (.ret (.ret ((),(([],(0,((aw d.1.1 (d.1.2.2.1:Int).toNat [] d.1.2.1).2.2,()))),()))))) .no
def pS:Lp:=bP [(12,aA cy f2)]
def nS {R:Type}(h2:LI)(h3 h4:Int)(h5:List (Ty.str.prod ((Ty.bool.prod ((Ty.sl 5 (Ty.int u8)).prod Ty.unit)).prod Ty.unit)).den)(h6:Int)(next:LI→Int→Int→List (Ty.str.prod ((Ty.bool.prod ((Ty.sl 5 (Ty.int u8)).prod Ty.unit)).prod Ty.unit)).den→Int→Option R)(out:ao cy.xs→Option R):Option R:=bif decide (h6<i64.wrap h4) then bif (ac h2 h3 0).2.2 != 0 then out (.ret ((),(([],(0,((ac h2 h3 0).2.2,()))),()))) else bif !(cq (ac h2 h3 0).1.2.1).2 then out (.ret ((),(([],(0,(6,()))),()))) else bif (ac h2 (ac h2 h3 0).2.1 (-1)).2.2 != 0 then out (.ret ((),(([],(0,((ac h2 (ac h2 h3 0).2.1 (-1)).2.2,()))),()))) else bif decide (h5.length+[((ac h2 h3 0).1.2.1,((ac h2 (ac h2 h3 0).2.1 (-1)).1.1,(ac h2 (ac h2 h3 0).2.1 (-1)).1.2.1,()),())].length≤4294967296) then next (h2) ((ac h2 (ac h2 h3 0).2.1 (-1)).2.1) (h4) (h5++[((ac h2 h3 0).1.2.1,((ac h2 (ac h2 h3 0).2.1 (-1)).1.1,(ac h2 (ac h2 h3 0).2.1 (-1)).1.2.1,()),())]) (i64.wrap (h6+1)) else none else out (.pan (.ret ((),((h3,(h5,())),()))))
def mv (n:Nat)(h2:LI)(h3 h4:Int)(h5:List (Ty.str.prod ((Ty.bool.prod ((Ty.sl 5 (Ty.int u8)).prod Ty.unit)).prod Ty.unit)).den)(h6:Int):Option (ao cy.xs):=fH tt CI dr pS 0 Tryz.f172 (bI Tryz.f172 0) n (cy.st.mk' ((h2,(h3,(h4,(h5,(h6,()))))),())) (bo cy.xs)
theorem DE (n:Nat)(h2:LI)(h3 h4:Int)(h5:List (Ty.str.prod ((Ty.bool.prod ((Ty.sl 5 (Ty.int u8)).prod Ty.unit)).prod Ty.unit)).den)(h6:Int):mv (n+1) h2 h3 h4 h5 h6=nS h2 h3 h4 h5 h6 (mv n) some:=by kernel_rfl
theorem EZ (b:LI)(n:Int)(hn:0≤n)(hn':n≤16):∀(k m:Nat) (p:Int) (o:List ez) (i:Int),i+m=n→0≤i→m<k→o.length=i.toNat→
  mv k b p n o i=if (aw b m o p).2.2=0 then some (.pan (.ret ((),(((aw b m o p).2.1,((aw b m o p).1,())),())))) else some (.ret ((),(([],(0,((aw b m o p).2.2,()))),()))):=by
 intro k
 induction k with
 |zero=>intro m p o i h1 h2 h3;omega
 |succ k ih=>
  intro m p o i h1 h2 h3 h4
  rw[DE]
  unfold nS
  rw[ae (n:=n) (by omega) (by omega)]
  cases m with
  |zero=>
   rw[af (by simp;omega)]
   rw[if_pos (by rfl)]
   first | done | rfl
  |succ m=>
   rw[aa (by simp;omega)]
   by_cases a1:(ac b p 0).2.2=0
   ·rw[af (by simpa using a1)]
    by_cases a2:(cq (ac b p 0).1.2.1).2=false
    ·have e:aw b (m+1) o p=([],0,6):=by unfold aw;rw[if_neg (by simpa using a1),if_pos a2]
     rw[e,aa (by simpa using a2)]
     first | done | rfl
    ·rw[af (by simpa using a2)]
     by_cases a3:(ac b (ac b p 0).2.1 (-1)).2.2=0
     ·have e:aw b (m+1) o p=aw b m (o++[((ac b p 0).1.2.1,(ac b (ac b p 0).2.1 (-1)).1,())]) (ac b (ac b p 0).2.1 (-1)).2.1:=by
       rw[aw,if_neg (by simpa using a1),if_neg a2,if_neg (by simpa using a3)]
      rw[e,af (by simpa using a3),aa (by simp;omega),ae (n:=i+1) (by omega) (by omega)]
      exact ih m _ _ (i+1) (by omega) (by omega) (by omega) (by simp;omega)
     ·have e:aw b (m+1) o p=([],0,(ac b (ac b p 0).2.1 (-1)).2.2):=by rw[aw,if_neg (by simpa using a1),if_neg a2,if_pos a3]
      rw[e,aa (by simpa using a3),if_neg a3]
   ·have e:aw b (m+1) o p=([],0,(ac b p 0).2.2):=by rw[aw,if_pos a1]
    rw[e,aa (by simpa using a1),if_neg a1]
def uz (a0:LI)(a1:Int):Option iL.Res:=bif (ab 5 15 a0 a1).2.2 != 0 then oR (([],0,(ab 5 15 a0 a1).2.2,()),()) else bif decide (i32.wrap (al (ab 5 15 a0 a1).1)<0) then oR (([],0,5,()),()) else bif decide (16<i32.wrap (al (ab 5 15 a0 a1).1)) then oR (([],0,9,()),()) else (f2 ((a0,((ab 5 15 a0 a1).2.1,(i32.wrap (al (ab 5 15 a0 a1).1),([],(0,()))))),())).run fun y=>match y with | .ret ((),((x23,x24,x25,()),()))=>(oR ((x23,x24,x25,()),())) | .pan (.ret ((),((x26,x27,()),())))=>(oR ((x27,x26,0,()),()))
theorem JL (a0:LI)(a1:Int):Io.run tt CI dr pS iL Tryz.f172 ((a0,a1,()),())=uz a0 a1:=by kernel_rfl
theorem uX:HcsOk prog Cj:=.cons AV (.cons H6 (.cons ME .nil))
theorem MI:HcOk prog 172 (ai iL zf):=by
 refine bQ uX (lp:=pS) (fn:=Tryz.f172) iL
  (.step (h0:=aA cy f2) (by kernel_rfl) (fR uX (lp:=pS) (fn:=Tryz.f172) (.done (by kernel_rfl)) cy f2 ?_) (.done (by kernel_rfl))) zf ?_
 ·rintro ⟨⟨(b:LI),(p:Int),(n:Int),(o:List ez),(i:Int),⟨⟩⟩,⟨⟩⟩ y hw hy
  obtain ⟨hg,hy⟩:=Tr.guard hy
  simp only[zA,zB] at hg
  obtain ⟨hi,h0,h16,ho⟩:=hg
  have hi:i=0:=hi
  have h0:0≤n:=h0
  have h16:n≤16:=h16
  have ho:o=[]:=ho
  subst hi ho
  refine ⟨n.toNat+1,(EZ b n h0 h16 _ n.toNat p [] 0 (by omega) (by omega) (by omega) rfl).trans ?_⟩
  rw[← hy]
  simp only[Tr.val_ite,zB,Tr.val_ret]
 ·rintro ⟨⟨(b:LI),(p:Int),⟨⟩⟩,⟨⟩⟩ out hw ho
  cases ho
  refine (JL b p).trans ?_
  show _=oR (((av b p).1,(av b p).2.1,(av b p).2.2,()),())
  have hr:=@cT b p
  unfold uz
  by_cases h0:(ag b p).2.2=0
  ·have h0':(ab 5 15 b p).2.2=0:=h0
   rw[af (by simpa using h0')]
   change (bif decide ((ag b p).1<0) then _ else bif decide (16<(ag b p).1) then _ else (f2 ((b,((ag b p).2.1,((ag b p).1,([],(0,()))))),())).run _)=_
   by_cases h1:(ag b p).1<0
   ·have e:av b p=([],0,5):=by unfold av;rw[if_neg (by simpa using h0),if_pos h1]
    rw[e,aa (by simpa using h1)]
    first | done | rfl
   ·rw[af (by simpa using h1)]
    by_cases h2:16<(ag b p).1
    ·have e:av b p=([],0,9):=by unfold av;rw[if_neg (by simpa using h0),if_neg h1,if_pos h2]
     rw[e,aa (by simpa using h2)]
     first | done | rfl
    ·have e:av b p=aw b (ag b p).1.toNat [] (ag b p).2.1:=by unfold av;rw[if_neg (by simpa using h0),if_neg h1,if_neg h2]
     rw[e,af (by simpa using h2)]
     unfold f2
     simp only[Tr.run_ite,Tr.run_ret]
     have hg:(decide True&&(decide ((0:Int)≤(ag b p).1)&&(decide ((ag b p).1≤(16:Int))&&decide True)))=true:=by
      simp only[zA,zB]
      exact ⟨trivial,by omega,by omega,trivial⟩
     rw[if_pos hg]
     by_cases h3:(aw b (ag b p).1.toNat [] (ag b p).2.1).2.2=0
     ·rw[if_pos (by simpa using h3),h3]
     ·obtain ⟨e1,e2⟩:=qc b _ _ _ h3
      rw[if_neg (by simpa using h3),e1,e2]
  ·have h0':(ab 5 15 b p).2.2≠0:=h0
   have e:av b p=([],0,(ab 5 15 b p).2.2):=by unfold av;rw[if_pos h0];rfl
   rw[e,aa (by simpa using h0')]
abbrev oB:Io:=⟨[dL],[],[],[Cn,dI],none⟩
def Kz (d:oB.In):Tr oB.Res:=.ret (.ret (((aQ d.1.1).1,(aQ d.1.1).2,()),()))
abbrev K4:List (Nat×Hc):=[(113,ai iJ za),(150,ai cQ wH),(171,ai jp zg),(172,ai iL zf)]
def Q1:Hd:=bB K4
def Mc:Lp:=bP []
def BS (a0:LI):Option oB.Res:=bif (↑a0.length:Int) == 0 then oR (((0,0,(false,[],()),(false,[],()),[],()),1,()),()) else bif decide (0≤0)&&decide (0<(↑a0.length:Int)) then bif a0.getD (Int.toNat 0) 0 != 0 then oR (((0,0,(false,[],()),(false,[],()),[],()),71,()),()) else bif (ab 10 1 a0 1).2.2 != 0 then oR (((0,0,(false,[],()),(false,[],()),[],()),(ab 10 1 a0 1).2.2,()),()) else bif (ab 5 15 a0 (ab 10 1 a0 1).2.1).2.2 != 0 then oR (((0,0,(false,[],()),(false,[],()),[],()),(ab 5 15 a0 (ab 10 1 a0 1).2.1).2.2,()),()) else bif decide (i32.wrap (al (ab 5 15 a0 (ab 10 1 a0 1).2.1).1)<0) then oR (((0,0,(false,[],()),(false,[],()),[],()),72,()),()) else bif (ac a0 (ab 5 15 a0 (ab 10 1 a0 1).2.1).2.1 (-1)).2.2 != 0 then oR (((0,0,(false,[],()),(false,[],()),[],()),(ac a0 (ab 5 15 a0 (ab 10 1 a0 1).2.1).2.1 (-1)).2.2,()),()) else bif (ac a0 (ac a0 (ab 5 15 a0 (ab 10 1 a0 1).2.1).2.1 (-1)).2.1 (-1)).2.2 != 0 then oR (((0,0,(false,[],()),(false,[],()),[],()),(ac a0 (ac a0 (ab 5 15 a0 (ab 10 1 a0 1).2.1).2.1 (-1)).2.1 (-1)).2.2,()),()) else bif (av a0 (ac a0 (ac a0 (ab 5 15 a0 (ab 10 1 a0 1).2.1).2.1 (-1)).2.1 (-1)).2.1).2.2 != 0 then oR (((0,0,(false,[],()),(false,[],()),[],()),(av a0 (ac a0 (ac a0 (ab 5 15 a0 (ab 10 1 a0 1).2.1).2.1 (-1)).2.1 (-1)).2.1).2.2,()),()) else bif decide ((av a0 (ac a0 (ac a0 (ab 5 15 a0 (ab 10 1 a0 1).2.1).2.1 (-1)).2.1 (-1)).2.1).2.1<(↑a0.length:Int)) then oR (((0,0,(false,[],()),(false,[],()),[],()),2,()),()) else oR (((al (ab 10 1 a0 1).1,i32.wrap (al (ab 5 15 a0 (ab 10 1 a0 1).2.1).1),((ac a0 (ab 5 15 a0 (ab 10 1 a0 1).2.1).2.1 (-1)).1.1,(ac a0 (ab 5 15 a0 (ab 10 1 a0 1).2.1).2.1 (-1)).1.2.1,()),((ac a0 (ac a0 (ab 5 15 a0 (ab 10 1 a0 1).2.1).2.1 (-1)).2.1 (-1)).1.1,(ac a0 (ac a0 (ab 5 15 a0 (ab 10 1 a0 1).2.1).2.1 (-1)).2.1 (-1)).1.2.1,()),(av a0 (ac a0 (ac a0 (ab 5 15 a0 (ab 10 1 a0 1).2.1).2.1 (-1)).2.1 (-1)).2.1).1,()),0,()),()) else none
theorem P9 (a0:LI):Io.run tt Q1 dr Mc oB Tryz.f151 ((a0,()),())=BS a0:=by kernel_rfl
theorem Rm:HcOk prog 151 (ai oB Kz):=by
 refine bQ (cs:=K4) (.cons H2 (.cons AV (.cons H6 (.cons MI .nil)))) (lp:=Mc) (fn:=Tryz.f151) oB (.done (by kernel_rfl)) Kz ?_
 rintro ⟨⟨(b:LI),⟨⟩⟩,⟨⟩⟩ out hw ho
 cases ho
 refine (P9 b).trans ?_
 show _=oR (((aQ b).1,(aQ b).2,()),())
 unfold BS
 by_cases h0:b.length=0
 ·have e:aQ b=(aH,1):=by unfold aQ;rw[if_pos h0]
  rw[e,aa (by simp[h0])]
  first | done | rfl
 rw[af (beq_false_of_ne (by omega)),aa (by rw[zA,zB,zB];omega)]
 by_cases h1:b.getD 0 0=0
 rotate_left
 ·have e:aQ b=(aH,71):=by unfold aQ;rw[if_neg h0,if_pos h1]
  have h1':b.getD (Int.toNat 0) 0≠0:=h1
  rw[e,aa (by simpa using h1')]
  first | done | rfl
 have h1':b.getD (Int.toNat 0) 0=0:=h1
 rw[af (by simpa using h1')]
 by_cases h2:(ab 10 1 b 1).2.2=0
 rotate_left
 ·have e:aQ b=(aH,(ab 10 1 b 1).2.2):=by unfold aQ;rw[if_neg h0,if_neg (by simpa using h1),if_pos h2]
  rw[e,aa (by simpa using h2)]
  first | done | rfl
 rw[af (by simpa using h2)]
 generalize hq1:(ab 10 1 b 1).2.1=q1
 change (bif (ag b q1).2.2 != 0 then oR ((aH,(ag b q1).2.2,()),()) else bif decide ((ag b q1).1<0) then oR ((aH,72,()),()) else bif (ac b (ag b q1).2.1 (-1)).2.2 != 0 then oR ((aH,(ac b (ag b q1).2.1 (-1)).2.2,()),()) else
  bif (ac b (ac b (ag b q1).2.1 (-1)).2.1 (-1)).2.2 != 0 then oR ((aH,(ac b (ac b (ag b q1).2.1 (-1)).2.1 (-1)).2.2,()),()) else
  bif (av b (ac b (ac b (ag b q1).2.1 (-1)).2.1 (-1)).2.1).2.2 != 0 then oR ((aH,(av b (ac b (ac b (ag b q1).2.1 (-1)).2.1 (-1)).2.1).2.2,()),()) else
  bif decide ((av b (ac b (ac b (ag b q1).2.1 (-1)).2.1 (-1)).2.1).2.1<(b.length:Int)) then oR ((aH,2,()),()) else
  oR (((al (ab 10 1 b 1).1,(ag b q1).1,(ac b (ag b q1).2.1 (-1)).1,(ac b (ac b (ag b q1).2.1 (-1)).2.1 (-1)).1,(av b (ac b (ac b (ag b q1).2.1 (-1)).2.1 (-1)).2.1).1,()),0,()),()))=_
 have e:aQ b=if (ag b q1).2.2≠0 then (aH,(ag b q1).2.2) else if (ag b q1).1<0 then (aH,72) else if (ac b (ag b q1).2.1 (-1)).2.2≠0 then (aH,(ac b (ag b q1).2.1 (-1)).2.2) else
  if (ac b (ac b (ag b q1).2.1 (-1)).2.1 (-1)).2.2≠0 then (aH,(ac b (ac b (ag b q1).2.1 (-1)).2.1 (-1)).2.2) else
  if (av b (ac b (ac b (ag b q1).2.1 (-1)).2.1 (-1)).2.1).2.2≠0 then (aH,(av b (ac b (ac b (ag b q1).2.1 (-1)).2.1 (-1)).2.1).2.2) else
  if (av b (ac b (ac b (ag b q1).2.1 (-1)).2.1 (-1)).2.1).2.1<(b.length:Int) then (aH,2) else
  ((al (ab 10 1 b 1).1,(ag b q1).1,(ac b (ag b q1).2.1 (-1)).1,(ac b (ac b (ag b q1).2.1 (-1)).2.1 (-1)).1,(av b (ac b (ac b (ag b q1).2.1 (-1)).2.1 (-1)).2.1).1,()),0):=by
  unfold aQ;rw[if_neg h0,if_neg (by simpa using h1),if_neg (by simpa using h2),hq1]
 rw[e]
 generalize ag b q1=n1
 generalize ac b n1.2.1 (-1)=n2
 generalize ac b n2.2.1 (-1)=n3
 generalize av b n3.2.1=n4
 simp only[cond_eq_ite,bne_iff_ne,zB]
 split
 ·rfl
 split
 ·rfl
 split
 ·rfl
 split
 ·rfl
 split
 ·rfl
 split
 ·rfl
 first | done | rfl
abbrev kM:Io:=⟨[dL,dI],[],[],[Cn,dI,dI],none⟩
def Ek (d:kM.In):Tr kM.Res:=.ret (.ret (((an d.1.1 d.1.2.1).1,(an d.1.1 d.1.2.1).2.1,(an d.1.1 d.1.2.1).2.2,()),()))
abbrev Gu:List (Nat×Hc):=[(150,ai cQ wH),(151,ai oB Kz)]
def OS:Hd:=bB Gu
def HC:Lp:=bP []
def xk (a0:LI)(a1:Int):Option kM.Res:=bif (ab 5 15 a0 a1).2.2 != 0 then oR (((0,0,(false,[],()),(false,[],()),[],()),0,(ab 5 15 a0 a1).2.2,()),()) else bif decide (i32.wrap (al (ab 5 15 a0 a1).1)<0) then oR (((0,0,(false,[],()),(false,[],()),[],()),0,5,()),()) else bif decide (16384<i32.wrap (al (ab 5 15 a0 a1).1)) then oR (((0,0,(false,[],()),(false,[],()),[],()),0,4,()),()) else bif decide (i64.wrap ((↑a0.length:Int) - (ab 5 15 a0 a1).2.1)<i64.wrap (i32.wrap (al (ab 5 15 a0 a1).1))) then oR (((0,0,(false,[],()),(false,[],()),[],()),0,1,()),()) else bif decide (0≤(ab 5 15 a0 a1).2.1)&&(decide ((ab 5 15 a0 a1).2.1≤i64.wrap ((ab 5 15 a0 a1).2.1+i64.wrap (i32.wrap (al (ab 5 15 a0 a1).1))))&&decide (i64.wrap ((ab 5 15 a0 a1).2.1+i64.wrap (i32.wrap (al (ab 5 15 a0 a1).1)))≤(↑a0.length:Int))) then bif (aQ (List.drop (ab 5 15 a0 a1).2.1.toNat (List.take (i64.wrap ((ab 5 15 a0 a1).2.1+i64.wrap (i32.wrap (al (ab 5 15 a0 a1).1)))).toNat a0))).2 != 0 then oR (((0,0,(false,[],()),(false,[],()),[],()),0,(aQ (List.drop (ab 5 15 a0 a1).2.1.toNat (List.take (i64.wrap ((ab 5 15 a0 a1).2.1+i64.wrap (i32.wrap (al (ab 5 15 a0 a1).1)))).toNat a0))).2,()),()) else oR ((((aQ (List.drop (ab 5 15 a0 a1).2.1.toNat (List.take (i64.wrap ((ab 5 15 a0 a1).2.1+i64.wrap (i32.wrap (al (ab 5 15 a0 a1).1)))).toNat a0))).1.1,(aQ (List.drop (ab 5 15 a0 a1).2.1.toNat (List.take (i64.wrap ((ab 5 15 a0 a1).2.1+i64.wrap (i32.wrap (al (ab 5 15 a0 a1).1)))).toNat a0))).1.2.1,((aQ (List.drop (ab 5 15 a0 a1).2.1.toNat (List.take (i64.wrap ((ab 5 15 a0 a1).2.1+i64.wrap (i32.wrap (al (ab 5 15 a0 a1).1)))).toNat a0))).1.2.2.1.1,(aQ (List.drop (ab 5 15 a0 a1).2.1.toNat (List.take (i64.wrap ((ab 5 15 a0 a1).2.1+i64.wrap (i32.wrap (al (ab 5 15 a0 a1).1)))).toNat a0))).1.2.2.1.2.1,()),((aQ (List.drop (ab 5 15 a0 a1).2.1.toNat (List.take (i64.wrap ((ab 5 15 a0 a1).2.1+i64.wrap (i32.wrap (al (ab 5 15 a0 a1).1)))).toNat a0))).1.2.2.2.1.1,(aQ (List.drop (ab 5 15 a0 a1).2.1.toNat (List.take (i64.wrap ((ab 5 15 a0 a1).2.1+i64.wrap (i32.wrap (al (ab 5 15 a0 a1).1)))).toNat a0))).1.2.2.2.1.2.1,()),(aQ (List.drop (ab 5 15 a0 a1).2.1.toNat (List.take (i64.wrap ((ab 5 15 a0 a1).2.1+i64.wrap (i32.wrap (al (ab 5 15 a0 a1).1)))).toNat a0))).1.2.2.2.2.1,()),i64.wrap ((ab 5 15 a0 a1).2.1+i64.wrap (i32.wrap (al (ab 5 15 a0 a1).1))),0,()),()) else none
theorem Nd (a0:LI)(a1:Int):Io.run tt OS dr HC kM Tryz.f115 ((a0,a1,()),())=xk a0 a1:=by kernel_rfl
theorem PB:HcOk prog 115 (ai kM Ek):=by
 refine bQ (cs:=Gu) (.cons AV (.cons Rm .nil)) (lp:=HC) (fn:=Tryz.f115) kM (.done (by kernel_rfl)) Ek ?_
 rintro ⟨⟨(b:LI),(p:Int),⟨⟩⟩,⟨⟩⟩ out hw ho
 cases ho
 refine (Nd b p).trans ?_
 have hb:b.length≤maxLen:=hw.1.1.1
 rw[aG] at hb
 show _=oR (((an b p).1,(an b p).2.1,(an b p).2.2,()),())
 have hr:=@cT b p
 unfold xk
 by_cases h0:(ag b p).2.2=0
 rotate_left
 ·have h0':(ab 5 15 b p).2.2≠0:=h0
  have e:an b p=(aH,0,(ab 5 15 b p).2.2):=by unfold an;rw[if_pos h0];rfl
  rw[e,aa (by simpa using h0')]
  first | done | rfl
 have hk:=dF h0
 have h0':(ab 5 15 b p).2.2=0:=h0
 rw[af (by simpa using h0')]
 generalize hq:(ab 5 15 b p).2.1=q
 generalize hn:IntKind.wrap .i32 (al (ab 5 15 b p).1)=n
 have hq:(ag b p).2.1=q:=hq
 have hn:(ag b p).1=n:=hn
 have e0:an b p=if n<0 then (aH,0,5) else if 16384<n then (aH,0,4) else if (b.length:Int) - q<n then (aH,0,1)
   else if (aQ ((b.drop q.toNat).take n.toNat)).2≠0 then (aH,0,(aQ ((b.drop q.toNat).take n.toNat)).2)
   else ((aQ ((b.drop q.toNat).take n.toNat)).1,q+n,0):=by unfold an;rw[if_neg (by simpa using h0),hq,hn]
 rw[e0]
 rw[hq] at hk
 rw[hn] at hr
 by_cases h1:n<0
 ·rw[aa (by simpa using h1),if_pos h1]
  first | done | rfl
 rw[af (by simpa using h1),if_neg h1]
 by_cases h2:16384<n
 ·rw[aa (by simpa using h2),if_pos h2]
  first | done | rfl
 rw[af (by simpa using h2),if_neg h2,ae (n:=(b.length:Int) - q) (by omega) (by omega),ae (n:=n) (by omega) (by omega)]
 by_cases h3:(b.length:Int) - q<n
 ·rw[aa (by simpa using h3),if_pos h3]
  first | done | rfl
 rw[af (by simpa using h3),if_neg h3,ae (n:=q+n) (by omega) (by omega),aa (by simp;omega),List.drop_take,show (q+n).toNat - q.toNat=n.toNat by omega]
 generalize aQ ((b.drop q.toNat).take n.toNat)=r
 simp only[cond_eq_ite,bne_iff_ne,zB]
 split
 ·rfl
 ·rfl
abbrev RD:Ty:=.prod (.int .i64) .unit
abbrev rn:Option (Nat×Ty):=some (169,RD)
abbrev RT:List Sh:=[dL,dI]
abbrev fk:Io:=⟨[.ptr 0 0],[RT],[],[dI],rn⟩
def lQ (d:fk.In):Tr fk.Res:=
 .ite (decide ((ag d.2.1.1 d.2.1.2.1).2.2=0)) (.ret (.ret (((ag d.2.1.1 d.2.1.2.1).1,()),((d.2.1.1,((ag d.2.1.1 d.2.1.2.1).2.1,())),())))) (.ret (.pan ((ag d.2.1.1 d.2.1.2.1).2.2,())))
abbrev xL:List (Nat×Hc):=[(111,ai gv sT)]
def IV:Hd:=bB xL
def ym:Lp:=bP []
def rO (a0:LI)(a1:Int):Option fk.Res:=bif (ab 5 15 a0 a1).2.2 != 0 then some (Out.pan ((ab 5 15 a0 a1).2.2,())) else oR ((i64.wrap (i32.wrap (al (ab 5 15 a0 a1).1)),()),(a0,(ab 5 15 a0 a1).2.1,()),())
theorem Fb (a0:LI)(a1:Int):Io.run tt IV dr ym fk Tryz.f140 (((),()),(a0,a1,()),())=rO a0 a1:=by kernel_rfl
theorem yx:HcOk prog 140 (ai fk lQ):=by
 refine bQ (cs:=xL) (.cons Dj .nil) (lp:=ym) (fn:=Tryz.f140) fk (.done (by kernel_rfl)) lQ ?_
 rintro ⟨⟨⟨⟩,⟨⟩⟩,⟨⟨(b:LI),(p:Int),⟨⟩⟩,⟨⟩⟩⟩ out hw ho
 refine (Fb b p).trans ?_
 rw[← ho]
 have hr:=@cT b p
 unfold rO lQ
 change (bif (ag b p).2.2 != 0 then some (Out.pan ((ag b p).2.2,())) else oR ((i64.wrap (ag b p).1,()),(b,(ag b p).2.1,()),()))=_
 rw[ae (n:=(ag b p).1) (by omega) (by omega)]
 simp only[Tr.val_ite,Tr.val_ret,zB]
 by_cases h:(ag b p).2.2=0
 ·rw[af (by simpa using h),if_pos h]
 ·rw[aa (by simpa using h),if_neg h]
abbrev gN:Io:=⟨[.ptr 0 0,dI],[RT],[],[dO],rn⟩
def tN (d:gN.In):Tr gN.Res:=
 .ite (decide ((0:Int)≤d.1.2.1)&&(decide (d.1.2.1≤(4294967296:Int))&&(decide ((0:Int)≤d.2.1.2.1)&&decide (d.2.1.2.1≤(d.2.1.1.length:Int)))))
  (.ite (decide ((d.2.1.1.length:Int) - d.2.1.2.1<d.1.2.1)) (.ret (.pan (1,()))) (.ret (.ret (((d.2.1.1.drop d.2.1.2.1.toNat).take d.1.2.1.toNat,()),((d.2.1.1,((d.2.1.2.1:Int)+d.1.2.1,())),()))))) .no
abbrev Gk:List (Nat×Hc):=[(47,ai eF pb)]
def OL:Hd:=bB Gk
def Hv:Lp:=bP []
def w7 (a0:Int)(a1:LI)(a2:Int):Option gN.Res:=bif decide (i64.wrap ((↑a1.length:Int) - a2)<a0) then some (Out.pan (1,())) else bif decide (0≤i64.wrap (i64.wrap (a2+a0) - a0))&&(decide (i64.wrap (i64.wrap (a2+a0) - a0)≤i64.wrap (a2+a0))&&decide (i64.wrap (a2+a0)≤(↑a1.length:Int))) then bif decide ((List.drop (i64.wrap (i64.wrap (a2+a0) - a0)).toNat (List.take (i64.wrap (a2+a0)).toNat a1)).length≤4294967296) then oR ((List.drop (i64.wrap (i64.wrap (a2+a0) - a0)).toNat (List.take (i64.wrap (a2+a0)).toNat a1),()),(a1,i64.wrap (a2+a0),()),()) else none else none
theorem M2 (a0:Int)(a1:LI)(a2:Int):Io.run tt OL dr Hv gN Tryz.f139 (((),a0,()),(a1,a2,()),())=w7 a0 a1 a2:=by kernel_rfl
theorem AU:HcOk prog 139 (ai gN tN):=by
 refine bQ (cs:=Gk) (.cons vq .nil) (lp:=Hv) (fn:=Tryz.f139) gN (.done (by kernel_rfl)) tN ?_
 rintro ⟨⟨⟨⟩,(n:Int),⟨⟩⟩,⟨⟨(b:LI),(p:Int),⟨⟩⟩,⟨⟩⟩⟩ out hw ho
 obtain ⟨hg,ho⟩:=Tr.guard ho
 simp only[zA,zB] at hg
 have h0:0≤n:=hg.1
 have h1:n≤4294967296:=hg.2.1
 have h2:0≤p:=hg.2.2.1
 have h3:p≤b.length:=hg.2.2.2
 refine (M2 n b p).trans ?_
 rw[← ho]
 have hb:b.length≤maxLen:=hw.2.1.1.1
 rw[aG] at hb
 unfold w7
 rw[ae (n:=(b.length:Int) - p) (by omega) (by omega)]
 simp only[Tr.val_ite,Tr.val_ret,zB]
 by_cases h:(b.length:Int) - p<n
 ·rw[aa (by simpa using h),if_pos h]
 ·rw[af (by simpa using h),if_neg h,ae (n:=p+n) (by omega) (by omega),show p+n - n=p by omega,ae (n:=p) (by omega) (by omega)]
  rw[aa (by simp;omega),List.drop_take,show (p+n).toNat - p.toNat=n.toNat by omega,aa (by simp;omega)]
abbrev fw:Io:=⟨[.ptr 0 0,dI],[RT],[],[dI],rn⟩
def mX (d:fw.In):Tr fw.Res:=
 .ite (decide ((ag d.2.1.1 d.2.1.2.1).2.2=0)) (.ite (decide ((ag d.2.1.1 d.2.1.2.1).1<d.1.2.1)) (.ret (.pan (5,()))) (.ret (.ret (((ag d.2.1.1 d.2.1.2.1).1,()),((d.2.1.1,((ag d.2.1.1 d.2.1.2.1).2.1,())),())))))
  (.ret (.pan ((ag d.2.1.1 d.2.1.2.1).2.2,())))
abbrev Ca:List (Nat×Hc):=[(140,ai fk lQ)]
def LF:Hd:=bB Ca
def C9:Lp:=bP []
def un (a0:Int)(a1:LI)(a2:Int):Option fw.Res:=bif decide ((ab 5 15 a1 a2).2.2=0) then bif decide (i32.wrap (al (ab 5 15 a1 a2).1)<a0) then some (Out.pan (5,())) else oR ((i32.wrap (al (ab 5 15 a1 a2).1),()),(a1,(ab 5 15 a1 a2).2.1,()),()) else some (Out.pan ((ab 5 15 a1 a2).2.2,()))
theorem JA (a0:Int)(a1:LI)(a2:Int):Io.run tt LF dr C9 fw Tryz.f142 (((),a0,()),(a1,a2,()),())=un a0 a1 a2:=by kernel_rfl
theorem vp:HcOk prog 142 (ai fw mX):=by
 refine bQ (cs:=Ca) (.cons yx .nil) (lp:=C9) (fn:=Tryz.f142) fw (.done (by kernel_rfl)) mX ?_
 rintro ⟨⟨⟨⟩,(l:Int),⟨⟩⟩,⟨⟨(b:LI),(p:Int),⟨⟩⟩,⟨⟩⟩⟩ out hw ho
 refine (JA l b p).trans ?_
 rw[← ho]
 unfold un mX
 change (bif decide ((ag b p).2.2=0) then bif decide ((ag b p).1<l) then some (Out.pan (5,())) else oR (((ag b p).1,()),(b,(ag b p).2.1,()),()) else some (Out.pan ((ag b p).2.2,())))=_
 simp only[Tr.val_ite,Tr.val_ret,cond_eq_ite]
abbrev ji:Io:=⟨[.ptr 0 0],[RT],[],[GR],rn⟩
def tM (d:ji.In):Tr ji.Res:=
 .ite (decide ((ac d.2.1.1 d.2.1.2.1 (-1)).2.2=0)) (.ret (.ret (((ac d.2.1.1 d.2.1.2.1 (-1)).1,()),((d.2.1.1,((ac d.2.1.1 d.2.1.2.1 (-1)).2.1,())),())))) (.ret (.pan ((ac d.2.1.1 d.2.1.2.1 (-1)).2.2,())))
abbrev Gj:List (Nat×Hc):=[(142,ai fw mX),(139,ai gN tN)]
def OK:Hd:=bB Gj
def Hu:Lp:=bP []
def wZ (a0:LI)(a1:Int):Option ji.Res:=bif decide ((ab 5 15 a0 a1).2.2=0) then bif decide (i32.wrap (al (ab 5 15 a0 a1).1) < -1) then some (Out.pan (5,())) else bif decide (i32.wrap (al (ab 5 15 a0 a1).1)<0) then oR (((true,[],()),()),(a0,(ab 5 15 a0 a1).2.1,()),()) else bif decide (0≤i32.wrap (al (ab 5 15 a0 a1).1))&&(decide (i32.wrap (al (ab 5 15 a0 a1).1)≤4294967296)&&(decide (0≤(ab 5 15 a0 a1).2.1)&&decide ((ab 5 15 a0 a1).2.1≤(↑a0.length:Int)))) then bif decide ((↑a0.length:Int) - (ab 5 15 a0 a1).2.1<i32.wrap (al (ab 5 15 a0 a1).1)) then some (Out.pan (1,())) else oR (((false,List.take (i32.wrap (al (ab 5 15 a0 a1).1)).toNat (List.drop (ab 5 15 a0 a1).2.1.toNat a0),()),()),(a0,(ab 5 15 a0 a1).2.1+i32.wrap (al (ab 5 15 a0 a1).1),()),()) else none else some (Out.pan ((ab 5 15 a0 a1).2.2,()))
theorem M1 (a0:LI)(a1:Int):Io.run tt OK dr Hu ji Tryz.f141 (((),()),(a0,a1,()),())=wZ a0 a1:=by kernel_rfl
theorem H0:HcOk prog 141 (ai ji tM):=by
 refine bQ (cs:=Gj) (.cons vp (.cons AU .nil)) (lp:=Hu) (fn:=Tryz.f141) ji (.done (by kernel_rfl)) tM ?_
 rintro ⟨⟨⟨⟩,⟨⟩⟩,⟨⟨(b:LI),(p:Int),⟨⟩⟩,⟨⟩⟩⟩ out hw ho
 refine (M1 b p).trans ?_
 rw[← ho]
 have hr:=@cT b p
 unfold wZ tM
 simp only[Tr.val_ite,Tr.val_ret,zB]
 change (bif decide ((ag b p).2.2=0) then bif decide ((ag b p).1 < -1) then some (Out.pan (5,())) else bif decide ((ag b p).1<0) then oR (((true,[],()),()),(b,(ag b p).2.1,()),()) else
  bif decide (0≤(ag b p).1)&&(decide ((ag b p).1≤4294967296)&&(decide (0≤(ag b p).2.1)&&decide ((ag b p).2.1≤(b.length:Int)))) then bif decide ((b.length:Int) - (ag b p).2.1<(ag b p).1) then some (Out.pan (1,())) else
   oR (((false,List.take (ag b p).1.toNat (List.drop (ag b p).2.1.toNat b),()),()),(b,(ag b p).2.1+(ag b p).1,()),()) else none else some (Out.pan ((ag b p).2.2,())))=_
 by_cases h0:(ag b p).2.2=0
 rotate_left
 ·have e:ac b p (-1)=((false,[],()),0,(ag b p).2.2):=by unfold ac;rw[if_pos h0]
  rw[e,af (by simpa using h0),if_neg h0]
 have hk:=dF h0
 rw[aa (by simpa using h0)]
 by_cases h1:(ag b p).1 < -1
 ·have e:ac b p (-1)=((false,[],()),0,5):=by unfold ac;rw[if_neg (by simpa using h0),if_pos h1]
  rw[e,aa (by simpa using h1)]
  rfl
 rw[af (by simpa using h1)]
 by_cases h2:(ag b p).1<0
 ·have e:ac b p (-1)=((true,[],()),(ag b p).2.1,0):=by unfold ac;rw[if_neg (by simpa using h0),if_neg h1,if_pos h2]
  rw[e,aa (by simpa using h2)]
  rfl
 rw[af (by simpa using h2),aa (by simp;omega)]
 by_cases h3:(b.length:Int) - (ag b p).2.1<(ag b p).1
 ·have e:ac b p (-1)=((false,[],()),0,1):=by unfold ac;rw[if_neg (by simpa using h0),if_neg h1,if_neg h2,if_pos h3]
  rw[e,aa (by simpa using h3)]
  rfl
 ·have e:ac b p (-1)=((false,(b.drop (ag b p).2.1.toNat).take (ag b p).1.toNat,()),(ag b p).2.1+(ag b p).1,0):=by unfold ac;rw[if_neg (by simpa using h0),if_neg h1,if_neg h2,if_neg h3]
  rw[e,af (by simpa using h3)]
  rfl
def aZ (b:LI)(p:Int):ez×Int×Int:=
 if (ac b p 0).2.2≠0 then (([],(false,[],()),()),0,(ac b p 0).2.2)
 else if (cq (ac b p 0).1.2.1).2=false then (([],(false,[],()),()),0,6)
 else (((ac b p 0).1.2.1,(ac b (ac b p 0).2.1 (-1)).1,()),(ac b (ac b p 0).2.1 (-1)).2.1,(ac b (ac b p 0).2.1 (-1)).2.2)
abbrev Se:Sh:=.dat fZ true false
abbrev f6:Io:=⟨[.ptr 0 0],[RT],[],[Se],rn⟩
def o9 (d:f6.In):Tr f6.Res:=
 .ite (decide ((aZ d.2.1.1 d.2.1.2.1).2.2=0)) (.ret (.ret (((aZ d.2.1.1 d.2.1.2.1).1,()),((d.2.1.1,((aZ d.2.1.1 d.2.1.2.1).2.1,())),())))) (.ret (.pan ((aZ d.2.1.1 d.2.1.2.1).2.2,())))
abbrev xK:List (Nat×Hc):=[(142,ai fw mX),(139,ai gN tN),(170,ai ot Ku),(141,ai ji tM)]
def IU:Hd:=bB xK
def yl:Lp:=bP []
def rN (a0:LI)(a1:Int):Option f6.Res:=bif decide ((ab 5 15 a0 a1).2.2=0) then bif decide (i32.wrap (al (ab 5 15 a0 a1).1)<0) then some (Out.pan (5,())) else bif decide (0≤i32.wrap (al (ab 5 15 a0 a1).1))&&(decide (i32.wrap (al (ab 5 15 a0 a1).1)≤4294967296)&&(decide (0≤(ab 5 15 a0 a1).2.1)&&decide ((ab 5 15 a0 a1).2.1≤(↑a0.length:Int)))) then bif decide ((↑a0.length:Int) - (ab 5 15 a0 a1).2.1<i32.wrap (al (ab 5 15 a0 a1).1)) then some (Out.pan (1,())) else bif !(cq (List.take (i32.wrap (al (ab 5 15 a0 a1).1)).toNat (List.drop (ab 5 15 a0 a1).2.1.toNat a0))).2 then some (Out.pan (6,())) else bif decide ((ac a0 ((ab 5 15 a0 a1).2.1+i32.wrap (al (ab 5 15 a0 a1).1)) (-1)).2.2=0) then oR (((List.take (i32.wrap (al (ab 5 15 a0 a1).1)).toNat (List.drop (ab 5 15 a0 a1).2.1.toNat a0),((ac a0 ((ab 5 15 a0 a1).2.1+i32.wrap (al (ab 5 15 a0 a1).1)) (-1)).1.1,(ac a0 ((ab 5 15 a0 a1).2.1+i32.wrap (al (ab 5 15 a0 a1).1)) (-1)).1.2.1,()),()),()),(a0,(ac a0 ((ab 5 15 a0 a1).2.1+i32.wrap (al (ab 5 15 a0 a1).1)) (-1)).2.1,()),()) else some (Out.pan ((ac a0 ((ab 5 15 a0 a1).2.1+i32.wrap (al (ab 5 15 a0 a1).1)) (-1)).2.2,())) else none else some (Out.pan ((ab 5 15 a0 a1).2.2,()))
theorem Fa (a0:LI)(a1:Int):Io.run tt IU dr yl f6 Tryz.f143 (((),()),(a0,a1,()),())=rN a0 a1:=by kernel_rfl
theorem Je:HcOk prog 143 (ai f6 o9):=by
 refine bQ (cs:=xK) (.cons vp (.cons AU (.cons Rg (.cons H0 .nil)))) (lp:=yl) (fn:=Tryz.f143) f6 (.done (by kernel_rfl)) o9 ?_
 rintro ⟨⟨⟨⟩,⟨⟩⟩,⟨⟨(b:LI),(p:Int),⟨⟩⟩,⟨⟩⟩⟩ out hw ho
 refine (Fa b p).trans ?_
 rw[← ho]
 have hr:=@cT b p
 unfold rN o9
 simp only[Tr.val_ite,Tr.val_ret,zB]
 have hn:i32.wrap (al (ab 5 15 b p).1)=(ag b p).1:=rfl
 have hq:(ab 5 15 b p).2.1=(ag b p).2.1:=rfl
 have he:(ab 5 15 b p).2.2=(ag b p).2.2:=rfl
 rw[hn,hq,he]
 by_cases h0:(ag b p).2.2=0
 rotate_left
 ·have e0:ac b p 0=((false,[],()),0,(ag b p).2.2):=by unfold ac;rw[if_pos h0]
  have e:aZ b p=(([],(false,[],()),()),0,(ag b p).2.2):=by unfold aZ;rw[e0,if_pos h0]
  rw[e,af (by simpa using h0),if_neg h0]
 have hk:=dF h0
 rw[aa (by simpa using h0)]
 by_cases h2:(ag b p).1<0
 ·have e0:ac b p 0=((false,[],()),0,5):=by unfold ac;rw[if_neg (by simpa using h0),if_pos h2]
  have e:aZ b p=(([],(false,[],()),()),0,5):=by unfold aZ;rw[e0];rfl
  rw[e,aa (by simpa using h2)]
  rfl
 rw[af (by simpa using h2),aa (by simp;omega)]
 by_cases h3:(b.length:Int) - (ag b p).2.1<(ag b p).1
 ·have e0:ac b p 0=((false,[],()),0,1):=by unfold ac;rw[if_neg (by simpa using h0),if_neg h2,if_neg h2,if_pos h3]
  have e:aZ b p=(([],(false,[],()),()),0,1):=by unfold aZ;rw[e0];rfl
  rw[e,aa (by simpa using h3)]
  rfl
 have e0:ac b p 0=((false,(b.drop (ag b p).2.1.toNat).take (ag b p).1.toNat,()),(ag b p).2.1+(ag b p).1,0):=by unfold ac;rw[if_neg (by simpa using h0),if_neg h2,if_neg h2,if_neg h3]
 rw[af (by simpa using h3)]
 by_cases h4:(cq ((b.drop (ag b p).2.1.toNat).take (ag b p).1.toNat)).2=false
 ·have e:aZ b p=(([],(false,[],()),()),0,6):=by
   unfold aZ
   rw[e0,if_neg (by simp),if_pos h4]
  rw[e,h4]
  rfl
 have e:aZ b p=(((b.drop (ag b p).2.1.toNat).take (ag b p).1.toNat,(ac b ((ag b p).2.1+(ag b p).1) (-1)).1,()),(ac b ((ag b p).2.1+(ag b p).1) (-1)).2.1,(ac b ((ag b p).2.1+(ag b p).1) (-1)).2.2):=by
  unfold aZ
  rw[e0,if_neg (by simp),if_neg h4]
 rw[e,af (by simpa using h4)]
 simp only[cond_eq_ite,zB]
abbrev om:Io:=⟨[.ptr 0 0],[RT],[],[Cn],rn⟩
def DQ (b:LI):Int:=(av b (ac b (ac b (ag b (ab 10 1 b 1).2.1).2.1 (-1)).2.1 (-1)).2.1).2.1
def Kr (d:om.In):Tr om.Res:=
 .ite (decide (d.2.1.2.1=(0:Int))) (.ite (decide ((aQ d.2.1.1).2=0)) (.ret (.ret (((aQ d.2.1.1).1,()),((d.2.1.1,(DQ d.2.1.1,())),())))) (.ret (.pan ((aQ d.2.1.1).2,())))) .no
abbrev zO:List (Nat×Hc):=[(140,ai fk lQ),(142,ai fw mX),(139,ai gN tN),(135,ai mi FX),(141,ai ji tM),(143,ai f6 o9)]
def LG:Hd:=bB zO
abbrev dR:Lo:=⟨⟨(.one (.ptr 0 0)::.any::.one (.ptr 3 0)::.one (.ptr 4 0)::.any::ah (ah (ah (cN (.one hI::.one hI::ah (bv (bi []))))))),[some [.hol (.sl 5 (Ty.int u8)),hI],none,none,some [hI,hJ,hL,.onl 5 (Ty.int u8) 1544,hL,.onl 5 (Ty.int u8) 1548,.onl 206 (Ty.str.prod ((Ty.bool.prod ((Ty.sl 5 (Ty.int u8)).prod Ty.unit)).prod Ty.unit)) 1550],some [hI,hJ,hL,.hol (.sl 5 (Ty.int u8)),hL,.hol (.sl 5 (Ty.int u8)),.onl 206 (Ty.str.prod ((Ty.bool.prod ((Ty.sl 5 (Ty.int u8)).prod Ty.unit)).prod Ty.unit)) 2062]]⟩,[(.panic 169 ((Ty.int i64).prod Ty.unit),⟨(.any::ah (ah (ah (ah (ah (bv [])))))),[]⟩),(.exit 0,⟨(.one (.ptr 0 0)::.any::.one (.ptr 3 0)::.one (.ptr 4 0)::.any::ah (ah (ah (ah (ah []))))),[some [.hol (.sl 5 (Ty.int u8)),hI],none,none,some [hI,hJ,hL,.onl 5 (Ty.int u8) 1544,hL,.onl 5 (Ty.int u8) 1548,.onl 206 (Ty.str.prod ((Ty.bool.prod ((Ty.sl 5 (Ty.int u8)).prod Ty.unit)).prod Ty.unit)) 1550],some [hI,hJ,hL,.hol (.sl 5 (Ty.int u8)),hL,.hol (.sl 5 (Ty.int u8)),.onl 206 (Ty.str.prod ((Ty.bool.prod ((Ty.sl 5 (Ty.int u8)).prod Ty.unit)).prod Ty.unit)) 2062]]⟩)]⟩
def lR (d:dR.st.den):Tr (ao dR.xs):=
 .ite (decide (d.1.2.1=(0:Int))&&(decide ((0:Int)≤d.1.1)&&(decide (d.1.1≤(16:Int))&&decide (d.2.2.2.1.2.2.2.2.2.2.1=([]:List ez)))))
  (.ite (decide ((aw d.2.1.1 (d.1.1:Int).toNat [] d.2.1.2.1).2.2=(0:Int)))
   (.ret (.pan (.ret ((),((),((d.2.1.1,((aw d.2.1.1 (d.1.1:Int).toNat [] d.2.1.2.1).2.1,())),(d.2.2.1,((d.2.2.2.1.1,(d.2.2.2.1.2.1,(d.2.2.2.1.2.2.1,(d.2.2.2.1.2.2.2.1,(d.2.2.2.1.2.2.2.2.1,(d.2.2.2.1.2.2.2.2.2.1,((aw d.2.1.1 (d.1.1:Int).toNat [] d.2.1.2.1).1,()))))))),()))))))))
   (.ret (.ret (((aw d.2.1.1 (d.1.1:Int).toNat [] d.2.1.2.1).2.2,()),((),()))))) .no
def AF:Lp:=bP [(19,aA dR lR)]
def sA {R:Type}(h2 h3:Int)(h4:LI)(h5 h6 h7:Int)(h8:Bool)(h9:LI)(h10:Bool)(h11:LI)(h12:List (Ty.str.prod ((Ty.bool.prod ((Ty.sl 5 (Ty.int u8)).prod Ty.unit)).prod Ty.unit)).den)(h13 h14:Int)(h15:Bool)(h16:LI)(h17:Bool)(h18:LI)(h19:List (Ty.str.prod ((Ty.bool.prod ((Ty.sl 5 (Ty.int u8)).prod Ty.unit)).prod Ty.unit)).den)(next:Int→Int→LI→Int→Int→Int→Bool→LI→Bool→LI→List (Ty.str.prod ((Ty.bool.prod ((Ty.sl 5 (Ty.int u8)).prod Ty.unit)).prod Ty.unit)).den→Int→Int→Bool→LI→Bool→LI→List (Ty.str.prod ((Ty.bool.prod ((Ty.sl 5 (Ty.int u8)).prod Ty.unit)).prod Ty.unit)).den→Option R)(out:ao dR.xs→Option R):Option R:=bif decide (h3<h2) then bif decide ((aZ h4 h5).2.2=0) then bif !([[Sh.dat (Ty.sl 5 (Ty.int u8)) false false,Sh.dat (Ty.int i64) false false]].length+3 == 1+69 || false)&&true&&decide (h19.length+[((aZ h4 h5).1.1,((aZ h4 h5).1.2.1.1,(aZ h4 h5).1.2.1.2.1,()),())].length≤4294967296) then next (h2) (i64.wrap (h3+1)) (h4) ((aZ h4 h5).2.1) (h6) (h7) (h8) (h9) (h10) (h11) (h12) (h13) (h14) (h15) (h16) (h17) (h18) (h19++[((aZ h4 h5).1.1,((aZ h4 h5).1.2.1.1,(aZ h4 h5).1.2.1.2.1,()),())]) else none else out (.ret (((aZ h4 h5).2.2,()),((),()))) else out (.pan (.ret ((),((),((h4,(h5,())),((h6,(h7,(h8,(h9,(h10,(h11,(h12,()))))))),((h13,(h14,(h15,(h16,(h17,(h18,(h19,()))))))),())))))))
def rf (n:Nat)(h2 h3:Int)(h4:LI)(h5 h6 h7:Int)(h8:Bool)(h9:LI)(h10:Bool)(h11:LI)(h12:List (Ty.str.prod ((Ty.bool.prod ((Ty.sl 5 (Ty.int u8)).prod Ty.unit)).prod Ty.unit)).den)(h13 h14:Int)(h15:Bool)(h16:LI)(h17:Bool)(h18:LI)(h19:List (Ty.str.prod ((Ty.bool.prod ((Ty.sl 5 (Ty.int u8)).prod Ty.unit)).prod Ty.unit)).den):Option (ao dR.xs):=fH tt LG dr AF 1 Tryz.f112 (bI Tryz.f112 0) n (dR.st.mk' ((h2,(h3,())),((h4,(h5,())),((h6,(h7,(h8,(h9,(h10,(h11,(h12,()))))))),((h13,(h14,(h15,(h16,(h17,(h18,(h19,()))))))),()))))) (bo dR.xs)
theorem JV (n:Nat)(h2 h3:Int)(h4:LI)(h5 h6 h7:Int)(h8:Bool)(h9:LI)(h10:Bool)(h11:LI)(h12:List (Ty.str.prod ((Ty.bool.prod ((Ty.sl 5 (Ty.int u8)).prod Ty.unit)).prod Ty.unit)).den)(h13 h14:Int)(h15:Bool)(h16:LI)(h17:Bool)(h18:LI)(h19:List (Ty.str.prod ((Ty.bool.prod ((Ty.sl 5 (Ty.int u8)).prod Ty.unit)).prod Ty.unit)).den):rf (n+1) h2 h3 h4 h5 h6 h7 h8 h9 h10 h11 h12 h13 h14 h15 h16 h17 h18 h19=sA h2 h3 h4 h5 h6 h7 h8 h9 h10 h11 h12 h13 h14 h15 h16 h17 h18 h19 (rf n) some:=by kernel_rfl
theorem nJ (b:LI)(m:Nat)(o:List ez)(p:Int):aw b (m+1) o p=if (aZ b p).2.2≠0 then ([],0,(aZ b p).2.2) else aw b m (o++[(aZ b p).1]) (aZ b p).2.1:=by
 rw[aw]
 by_cases a1:(ac b p 0).2.2=0
 ·rw[if_neg (by simpa using a1)]
  by_cases a2:(cq (ac b p 0).1.2.1).2=false
  ·have e:aZ b p=(([],(false,[],()),()),0,6):=by unfold aZ;rw[if_neg (by simpa using a1),if_pos a2]
   rw[if_pos a2,e]
   rfl
  ·have e:aZ b p=(((ac b p 0).1.2.1,(ac b (ac b p 0).2.1 (-1)).1,()),(ac b (ac b p 0).2.1 (-1)).2.1,(ac b (ac b p 0).2.1 (-1)).2.2):=by unfold aZ;rw[if_neg (by simpa using a1),if_neg a2]
   rw[if_neg a2,e]
 ·have e:aZ b p=(([],(false,[],()),()),0,(ac b p 0).2.2):=by unfold aZ;rw[if_pos a1]
  rw[if_pos a1,e,if_pos a1]
theorem az {α:Type}{a b:α}(h:a=b):¬ a≠b:=fun h'=>h' h
theorem LY (b:LI)(n:Int)(hn:0≤n)(hn':n≤16)(h6 h7:Int)(h8:Bool)(h9:LI)(h10:Bool)(h11:LI)(h12:List ez)(h13 h14:Int)(h15:Bool)(h16:LI)(h17:Bool)(h18:LI):∀(k m:Nat) (p:Int) (o:List ez) (i:Int),i+m=n→0≤i→m<k→o.length=i.toNat→
  rf k n i b p h6 h7 h8 h9 h10 h11 h12 h13 h14 h15 h16 h17 h18 o=if (aw b m o p).2.2=0 then some (.pan (.ret ((),((),((b,((aw b m o p).2.1,())),((h6,(h7,(h8,(h9,(h10,(h11,(h12,()))))))),((h13,(h14,(h15,(h16,(h17,(h18,((aw b m o p).1,()))))))),()))))))) else some (.ret (((aw b m o p).2.2,()),((),()))):=by
 intro k
 induction k with
 |zero=>intro m p o i h1 h2 h3;omega
 |succ k ih=>
  intro m p o i h1 h2 h3 h4
  rw[JV]
  unfold sA
  cases m with
  |zero=>
   rw[af (by simp;omega),if_pos (by rfl)]
   rfl
  |succ m=>
   rw[aa (by simp;omega),nJ]
   by_cases a1:(aZ b p).2.2=0
   ·rw[aa (by simpa using a1),if_neg (az a1)]
    have hg:decide (o.length+[((aZ b p).1.1,((aZ b p).1.2.1.1,(aZ b p).1.2.1.2.1,()),())].length≤4294967296)=true:=decide_eq_true (show o.length+1≤4294967296 by omega)
    rw[aa (by rw[zA];exact ⟨rfl,hg⟩),ae (n:=i+1) (by omega) (by omega)]
    exact ih m _ _ (i+1) (by omega) (by omega) (by omega) (by simp;omega)
   ·rw[af (by simpa using a1),if_pos a1,if_neg a1]
def BI (a0:LI)(a1:Int):Option om.Res:=bif decide (0≤1)&&(decide (1≤4294967296)&&(decide (0≤a1)&&decide (a1≤(↑a0.length:Int)))) then bif decide ((↑a0.length:Int) - a1<1) then some (Out.pan (1,())) else bif decide (0≤0)&&decide (0<(↑(List.take (Int.toNat 1) (List.drop a1.toNat a0)).length:Int)) then bif (List.take (Int.toNat 1) (List.drop a1.toNat a0)).getD (Int.toNat 0) 0 != 0 then some (Out.pan (71,())) else bif (ab 10 1 a0 (a1+1)).2.2 != 0 then some (Out.pan ((ab 10 1 a0 (a1+1)).2.2,())) else bif decide ((ab 5 15 a0 (ab 10 1 a0 (a1+1)).2.1).2.2=0) then bif decide (i32.wrap (al (ab 5 15 a0 (ab 10 1 a0 (a1+1)).2.1).1)<0) then some (Out.pan (72,())) else bif decide ((ac a0 (ab 5 15 a0 (ab 10 1 a0 (a1+1)).2.1).2.1 (-1)).2.2=0) then bif decide ((ac a0 (ac a0 (ab 5 15 a0 (ab 10 1 a0 (a1+1)).2.1).2.1 (-1)).2.1 (-1)).2.2=0) then bif decide ((ab 5 15 a0 (ac a0 (ac a0 (ab 5 15 a0 (ab 10 1 a0 (a1+1)).2.1).2.1 (-1)).2.1 (-1)).2.1).2.2=0) then bif decide (i32.wrap (al (ab 5 15 a0 (ac a0 (ac a0 (ab 5 15 a0 (ab 10 1 a0 (a1+1)).2.1).2.1 (-1)).2.1 (-1)).2.1).1)<0) then some (Out.pan (5,())) else bif decide (16<i32.wrap (al (ab 5 15 a0 (ac a0 (ac a0 (ab 5 15 a0 (ab 10 1 a0 (a1+1)).2.1).2.1 (-1)).2.1 (-1)).2.1).1)) then some (Out.pan (9,())) else (lR ((i32.wrap (al (ab 5 15 a0 (ac a0 (ac a0 (ab 5 15 a0 (ab 10 1 a0 (a1+1)).2.1).2.1 (-1)).2.1 (-1)).2.1).1),(0,())),((a0,((ab 5 15 a0 (ac a0 (ac a0 (ab 5 15 a0 (ab 10 1 a0 (a1+1)).2.1).2.1 (-1)).2.1 (-1)).2.1).2.1,())),((0,(0,(false,([],(false,([],([],()))))))),((al (ab 10 1 a0 (a1+1)).1,(i32.wrap (i32.wrap (al (ab 5 15 a0 (ab 10 1 a0 (a1+1)).2.1).1)),((ac a0 (ab 5 15 a0 (ab 10 1 a0 (a1+1)).2.1).2.1 (-1)).1.1,((ac a0 (ab 5 15 a0 (ab 10 1 a0 (a1+1)).2.1).2.1 (-1)).1.2.1,((ac a0 (ac a0 (ab 5 15 a0 (ab 10 1 a0 (a1+1)).2.1).2.1 (-1)).2.1 (-1)).1.1,((ac a0 (ac a0 (ab 5 15 a0 (ab 10 1 a0 (a1+1)).2.1).2.1 (-1)).2.1 (-1)).1.2.1,([],()))))))),()))))).run fun y=>match y with | .ret ((x54,()),((),()))=>(some (Out.pan (x54,()))) | .pan (.ret ((),((),(x55,x56,()),(x57,x58,x59,x60,x61,x62,x63,()),(x64,x65,x66,x67,x68,x69,x70,()),())))=>(bif decide (x56<(↑x55.length:Int)) then some (Out.pan (2,())) else oR (((x64,x65,(x66,x67,()),(x68,x69,()),x70,()),()),(x55,x56,()),())) else some (Out.pan ((ab 5 15 a0 (ac a0 (ac a0 (ab 5 15 a0 (ab 10 1 a0 (a1+1)).2.1).2.1 (-1)).2.1 (-1)).2.1).2.2,())) else some (Out.pan ((ac a0 (ac a0 (ab 5 15 a0 (ab 10 1 a0 (a1+1)).2.1).2.1 (-1)).2.1 (-1)).2.2,())) else some (Out.pan ((ac a0 (ab 5 15 a0 (ab 10 1 a0 (a1+1)).2.1).2.1 (-1)).2.2,())) else some (Out.pan ((ab 5 15 a0 (ab 10 1 a0 (a1+1)).2.1).2.2,())) else none else none
theorem PW (a0:LI)(a1:Int):Io.run tt LG dr AF om Tryz.f112 (((),()),(a0,a1,()),())=BI a0 a1:=by kernel_rfl
theorem Rd:HcOk prog 112 (ai om Kr):=by
 have hcs:HcsOk prog zO:=.cons yx (.cons vp (.cons AU (.cons Mv (.cons H0 (.cons Je .nil)))))
 refine bQ (cs:=zO) hcs (lp:=AF) (fn:=Tryz.f112) om
  (.step (h0:=aA dR lR) (by kernel_rfl) (fR (cs:=zO) hcs (lp:=AF) (fn:=Tryz.f112) (.done (by kernel_rfl)) dR lR ?_) (.done (by kernel_rfl))) Kr ?_
 ·rintro ⟨⟨(n:Int),(i:Int),⟨⟩⟩,⟨(b:LI),(p:Int),⟨⟩⟩,⟨(h6:Int),(h7:Int),(h8:Bool),(h9:LI),(h10:Bool),(h11:LI),(h12:List ez),⟨⟩⟩,⟨(h13:Int),(h14:Int),(h15:Bool),(h16:LI),(h17:Bool),(h18:LI),(o:List ez),⟨⟩⟩,⟨⟩⟩ y hw hy
  obtain ⟨hg,hy⟩:=Tr.guard hy
  simp only[zA,zB] at hg
  obtain ⟨hi,h0,hs,ho⟩:=hg
  have hi:i=0:=hi
  have h0:0≤n:=h0
  have hs:n≤16:=hs
  have ho:o=[]:=ho
  subst hi ho
  refine ⟨n.toNat+1,(LY b n h0 hs h6 h7 h8 h9 h10 h11 h12 h13 h14 h15 h16 h17 h18 _ n.toNat p [] 0 (by omega) (by omega) (by omega) rfl).trans ?_⟩
  rw[← hy]
  simp only[Tr.val_ite,zB,Tr.val_ret]
 ·rintro ⟨⟨⟨⟩,⟨⟩⟩,⟨⟨(b:LI),(p:Int),⟨⟩⟩,⟨⟩⟩⟩ out hw ho
  obtain ⟨hg,ho⟩:=Tr.guard ho
  have hg:p=0:=by simpa using hg
  subst hg
  refine (PW b 0).trans ?_
  rw[← ho]
  simp only[Tr.val_ite,Tr.val_ret,zB]
  unfold BI
  rw[aa (by simp)]
  by_cases h0:b.length=0
  ·have e:aQ b=(aH,1):=by unfold aQ;rw[if_pos h0]
   rw[e,aa (by simp;omega)]
   rfl
  rw[af (by simp;omega)]
  obtain ⟨c,l,rfl⟩:∃c l,b=c::l:=by
   cases b with
   |nil=>exact absurd rfl h0
   |cons c l=>exact ⟨c,l,rfl⟩
  rw[aa (by simp)]
  by_cases h1:c=0
  rotate_left
  ·have e:aQ (c::l)=(aH,71):=by unfold aQ;rw[if_neg h0,if_pos (by simpa using h1)]
   rw[e,aa (by simpa using h1)]
   rfl
  have h1':(c::l).getD 0 0=0:=h1
  rw[af (by simpa using h1)]
  generalize hb:c::l=b at *
  have hz:(0:Int)+1=1:=rfl
  rw[hz]
  by_cases h2:(ab 10 1 b 1).2.2=0
  rotate_left
  ·have e:aQ b=(aH,(ab 10 1 b 1).2.2):=by unfold aQ;rw[if_neg h0,if_neg (by simpa using h1'),if_pos h2]
   rw[e,aa (by simpa using h2),if_neg h2]
  rw[af (by simpa using h2)]
  have hr:=@cT b
  have hE:DQ b=(av b (ac b (ac b (ag b (ab 10 1 b 1).2.1).2.1 (-1)).2.1 (-1)).2.1).2.1:=rfl
  generalize hq1:(ab 10 1 b 1).2.1=q1 at *
  have eR:aQ b=if (ag b q1).2.2≠0 then (aH,(ag b q1).2.2) else if (ag b q1).1<0 then (aH,72) else if (ac b (ag b q1).2.1 (-1)).2.2≠0 then (aH,(ac b (ag b q1).2.1 (-1)).2.2) else
   if (ac b (ac b (ag b q1).2.1 (-1)).2.1 (-1)).2.2≠0 then (aH,(ac b (ac b (ag b q1).2.1 (-1)).2.1 (-1)).2.2) else
   if (av b (ac b (ac b (ag b q1).2.1 (-1)).2.1 (-1)).2.1).2.2≠0 then (aH,(av b (ac b (ac b (ag b q1).2.1 (-1)).2.1 (-1)).2.1).2.2) else
   if (av b (ac b (ac b (ag b q1).2.1 (-1)).2.1 (-1)).2.1).2.1<(b.length:Int) then (aH,2) else
   ((al (ab 10 1 b 1).1,(ag b q1).1,(ac b (ag b q1).2.1 (-1)).1,(ac b (ac b (ag b q1).2.1 (-1)).2.1 (-1)).1,(av b (ac b (ac b (ag b q1).2.1 (-1)).2.1 (-1)).2.1).1,()),0):=by
   unfold aQ;rw[if_neg h0,if_neg (by simpa using h1'),if_neg (by simpa using h2),hq1]
  have hn:∀p,i32.wrap (al (ab 5 15 b p).1)=(ag b p).1:=fun _=>rfl
  have hq:∀p,(ab 5 15 b p).2.1=(ag b p).2.1:=fun _=>rfl
  have he:∀p,(ab 5 15 b p).2.2=(ag b p).2.2:=fun _=>rfl
  have hw32:i32.wrap (ag b q1).1=(ag b q1).1:=bN (k:=.i32) (bO _ _)
  simp only[hn,hq,he]
  rw[eR,hE,hw32]
  by_cases c1:(ag b q1).2.2=0
  rotate_left
  ·rw[af (by simpa using c1),if_pos c1,if_neg c1]
  rw[aa (by simpa using c1),if_neg (az c1)]
  by_cases c2:(ag b q1).1<0
  ·rw[aa (by simpa using c2),if_pos c2];rfl
  rw[af (by simpa using c2),if_neg c2]
  generalize hT1:ac b (ag b q1).2.1 (-1)=T1
  by_cases c3:T1.2.2=0
  rotate_left
  ·rw[af (by simpa using c3),if_pos c3,if_neg c3]
  rw[aa (by simpa using c3),if_neg (az c3)]
  generalize hT2:ac b T1.2.1 (-1)=T2
  by_cases c4:T2.2.2=0
  rotate_left
  ·rw[af (by simpa using c4),if_pos c4,if_neg c4]
  rw[aa (by simpa using c4),if_neg (az c4)]
  by_cases c5:(ag b T2.2.1).2.2=0
  rotate_left
  ·have eH:av b T2.2.1=([],0,(ag b T2.2.1).2.2):=by unfold av;rw[if_pos c5]
   rw[af (by simpa using c5),eH,if_pos c5,if_neg c5]
  rw[aa (by simpa using c5)]
  by_cases c6:(ag b T2.2.1).1<0
  ·have eH:av b T2.2.1=([],0,5):=by unfold av;rw[if_neg (az c5),if_pos c6]
   rw[aa (by simpa using c6),eH];rfl
  rw[af (by simpa using c6)]
  by_cases c7:16<(ag b T2.2.1).1
  ·have eH:av b T2.2.1=([],0,9):=by unfold av;rw[if_neg (az c5),if_neg c6,if_pos c7]
   rw[aa (by simpa using c7),eH];rfl
  have eH:av b T2.2.1=aw b (ag b T2.2.1).1.toNat [] (ag b T2.2.1).2.1:=by unfold av;rw[if_neg (az c5),if_neg c6,if_neg c7]
  rw[af (by simpa using c7),eH]
  unfold lR
  simp only[Tr.run_ite,Tr.run_ret]
  have hgd:(decide True&&(decide ((0:Int)≤(ag b T2.2.1).1)&&(decide ((ag b T2.2.1).1≤(16:Int))&&decide True)))=true:=by
   simp only[zA,zB]
   exact ⟨trivial,by omega,by omega,trivial⟩
  rw[if_pos hgd]
  generalize aw b (ag b T2.2.1).1.toNat [] (ag b T2.2.1).2.1=r
  by_cases c8:r.2.2=0
  ·rw[if_pos (decide_eq_true c8),if_neg (az c8)]
   by_cases c9:r.2.1<(b.length:Int)
   ·simp only[c9,decide_true,cond_true,if_true]
    rfl
   ·simp only[c9,decide_false,cond_false,if_false]
    rfl
  ·rw[if_neg (by simpa using c8),if_pos c8,if_neg c8]
abbrev ol:Io:=⟨[dL,dI],[],[],[Cn,dI,dI],none⟩
def Kq (d:ol.In):Tr ol.Res:=.ret (.ret (((an d.1.1 d.1.2.1).1,(an d.1.1 d.1.2.1).2.1,(an d.1.1 d.1.2.1).2.2,()),()))
abbrev KU:List (Nat×Hc):=[(111,ai gv sT),(112,ai om Kr)]
def QS:Hd:=bB KU
def L3:Lp:=bP []
def BH (a0:LI)(a1:Int):Option ol.Res:=bif (ab 5 15 a0 a1).2.2 != 0 then oR (((0,0,(false,[],()),(false,[],()),[],()),0,(ab 5 15 a0 a1).2.2,()),()) else bif decide (i32.wrap (al (ab 5 15 a0 a1).1)<0) then oR (((0,0,(false,[],()),(false,[],()),[],()),0,5,()),()) else bif decide (16384<i32.wrap (al (ab 5 15 a0 a1).1)) then oR (((0,0,(false,[],()),(false,[],()),[],()),0,4,()),()) else bif decide (i64.wrap ((↑a0.length:Int) - (ab 5 15 a0 a1).2.1)<i64.wrap (i32.wrap (al (ab 5 15 a0 a1).1))) then oR (((0,0,(false,[],()),(false,[],()),[],()),0,1,()),()) else bif decide (0≤(ab 5 15 a0 a1).2.1)&&(decide ((ab 5 15 a0 a1).2.1≤i64.wrap ((ab 5 15 a0 a1).2.1+i64.wrap (i32.wrap (al (ab 5 15 a0 a1).1))))&&(decide (i64.wrap ((ab 5 15 a0 a1).2.1+i64.wrap (i32.wrap (al (ab 5 15 a0 a1).1)))≤i64.wrap ((ab 5 15 a0 a1).2.1+i64.wrap (i32.wrap (al (ab 5 15 a0 a1).1))))&&decide (i64.wrap ((ab 5 15 a0 a1).2.1+i64.wrap (i32.wrap (al (ab 5 15 a0 a1).1)))≤(↑a0.length:Int)))) then bif decide ((aQ (List.drop (ab 5 15 a0 a1).2.1.toNat (List.take (i64.wrap ((ab 5 15 a0 a1).2.1+i64.wrap (i32.wrap (al (ab 5 15 a0 a1).1)))).toNat a0))).2=0) then oR ((((aQ (List.drop (ab 5 15 a0 a1).2.1.toNat (List.take (i64.wrap ((ab 5 15 a0 a1).2.1+i64.wrap (i32.wrap (al (ab 5 15 a0 a1).1)))).toNat a0))).1.1,(aQ (List.drop (ab 5 15 a0 a1).2.1.toNat (List.take (i64.wrap ((ab 5 15 a0 a1).2.1+i64.wrap (i32.wrap (al (ab 5 15 a0 a1).1)))).toNat a0))).1.2.1,((aQ (List.drop (ab 5 15 a0 a1).2.1.toNat (List.take (i64.wrap ((ab 5 15 a0 a1).2.1+i64.wrap (i32.wrap (al (ab 5 15 a0 a1).1)))).toNat a0))).1.2.2.1.1,(aQ (List.drop (ab 5 15 a0 a1).2.1.toNat (List.take (i64.wrap ((ab 5 15 a0 a1).2.1+i64.wrap (i32.wrap (al (ab 5 15 a0 a1).1)))).toNat a0))).1.2.2.1.2.1,()),((aQ (List.drop (ab 5 15 a0 a1).2.1.toNat (List.take (i64.wrap ((ab 5 15 a0 a1).2.1+i64.wrap (i32.wrap (al (ab 5 15 a0 a1).1)))).toNat a0))).1.2.2.2.1.1,(aQ (List.drop (ab 5 15 a0 a1).2.1.toNat (List.take (i64.wrap ((ab 5 15 a0 a1).2.1+i64.wrap (i32.wrap (al (ab 5 15 a0 a1).1)))).toNat a0))).1.2.2.2.1.2.1,()),(aQ (List.drop (ab 5 15 a0 a1).2.1.toNat (List.take (i64.wrap ((ab 5 15 a0 a1).2.1+i64.wrap (i32.wrap (al (ab 5 15 a0 a1).1)))).toNat a0))).1.2.2.2.2.1,()),i64.wrap ((ab 5 15 a0 a1).2.1+i64.wrap (i32.wrap (al (ab 5 15 a0 a1).1))),0,()),()) else oR (((0,0,(false,[],()),(false,[],()),[],()),0,(aQ (List.drop (ab 5 15 a0 a1).2.1.toNat (List.take (i64.wrap ((ab 5 15 a0 a1).2.1+i64.wrap (i32.wrap (al (ab 5 15 a0 a1).1)))).toNat a0))).2,()),()) else none
theorem PV (a0:LI)(a1:Int):Io.runD tt QS dr L3 64 128 ol Tryz.f75 110 Tryz.f110 11 ((a0,a1,()),())=BH a0 a1:=by kernel_rfl
theorem Rb:HcOk prog 75 (ai ol Kq):=by
 have htt:=eX Tryz.prog 400
 have hcs:HcsOk prog KU:=.cons Dj (.cons Rd .nil)
 refine Cq (P:=prog) htt hm (qU hcs) (gZ htt) (fn:=Tryz.f75) (by kernel_rfl) (by kernel_rfl) ol (kb2:=64) (kbG:=128) (by decide) (by decide)
  (i1:=1) (ops1:=fI (jb (gE (bA Tryz.f75)))) (by kernel_rfl) rfl (by kernel_rfl)
  (o1:=((fI (jb (gE (bA Tryz.f75))))[1]?).getD default) (t:=11) (aT:=#[]) (by kernel_rfl) (by kernel_rfl) (by kernel_rfl) (by kernel_rfl) (lp:=L3) (by kernel_rfl) (nk (by kernel_rfl))
  (g:=110) (gfn:=Tryz.f110) (i2:=0) (gops:=fI (jb (bA Tryz.f110))) (grest:=gE (bA Tryz.f110))
  (by kernel_rfl) (by kernel_rfl) (by kernel_rfl) rfl rfl (by kernel_rfl) (oo:=((fI (jb (bA Tryz.f110)))[0]?).getD default) (by kernel_rfl) (by kernel_rfl) (by kernel_rfl) (by kernel_rfl) (by kernel_rfl) Kq ?_
 rintro ⟨⟨(b:LI),(p:Int),⟨⟩⟩,⟨⟩⟩ out hw ho
 cases ho
 refine (PV b p).trans ?_
 have hb:b.length≤maxLen:=hw.1.1.1
 rw[aG] at hb
 show _=oR (((an b p).1,(an b p).2.1,(an b p).2.2,()),())
 have hr:=@cT b p
 unfold BH
 by_cases h0:(ag b p).2.2=0
 rotate_left
 ·have h0':(ab 5 15 b p).2.2≠0:=h0
  have e:an b p=(aH,0,(ab 5 15 b p).2.2):=by unfold an;rw[if_pos h0];rfl
  rw[e,aa (by simpa using h0')]
  rfl
 have hk:=dF h0
 have h0':(ab 5 15 b p).2.2=0:=h0
 rw[af (by simpa using h0')]
 generalize hq:(ab 5 15 b p).2.1=q
 generalize hn:IntKind.wrap .i32 (al (ab 5 15 b p).1)=n
 have hq:(ag b p).2.1=q:=hq
 have hn:(ag b p).1=n:=hn
 have e0:an b p=if n<0 then (aH,0,5) else if 16384<n then (aH,0,4) else if (b.length:Int) - q<n then (aH,0,1)
   else if (aQ ((b.drop q.toNat).take n.toNat)).2≠0 then (aH,0,(aQ ((b.drop q.toNat).take n.toNat)).2)
   else ((aQ ((b.drop q.toNat).take n.toNat)).1,q+n,0):=by unfold an;rw[if_neg (by simpa using h0),hq,hn]
 rw[e0]
 rw[hq] at hk
 rw[hn] at hr
 by_cases h1:n<0
 ·rw[aa (by simpa using h1),if_pos h1]
  rfl
 rw[af (by simpa using h1),if_neg h1]
 by_cases h2:16384<n
 ·rw[aa (by simpa using h2),if_pos h2]
  rfl
 rw[af (by simpa using h2),if_neg h2,ae (n:=(b.length:Int) - q) (by omega) (by omega),ae (n:=n) (by omega) (by omega)]
 by_cases h3:(b.length:Int) - q<n
 ·rw[aa (by simpa using h3),if_pos h3]
  rfl
 rw[af (by simpa using h3),if_neg h3,ae (n:=q+n) (by omega) (by omega),aa (by simp;omega),List.drop_take,show (q+n).toNat - q.toNat=n.toNat by omega]
 generalize aQ ((b.drop q.toNat).take n.toNat)=r
 by_cases h4:r.2=0
 ·rw[aa (by simpa using h4),if_neg (az h4)]
 ·rw[af (by simpa using h4),if_pos h4]
  rfl
end
end Go.Proofs.YthpcdhgpplmneaaGreatDoor.Sym
namespace Go.Proofs.YthpcdhgpplmneaaGreatDoor.Sym
open Go
noncomputable section
def fJ (b:Bx):Bool:=b.1&&decide ((0:Int)<(b.2.1.length:Int))
def bJ (b:Bx):LI:=if b.1=true then aF (aC (-1)) else aF (aC b.2.1.length)++b.2.1
def Bk (h:ez):LI:=aF (aC h.1.length)++(h.1++bJ h.2.1)
def ca (hs:List ez):LI:=hs.flatMap Bk
def cf (r:pl):LI:=0::(aF (aC r.1)++(aF (aC r.2.1)++(bJ r.2.2.1++(bJ r.2.2.2.1++(aF (aC r.2.2.2.2.1.length)++ca r.2.2.2.2.1)))))
def dn:List ez→Int
 |[]=>0
 |h::hs=>if (cq h.1).2=false then 6 else if fJ h.2.1=true then 70 else dn hs
def tD (r:pl):Int:=
 if r.2.1<0 then 72 else if fJ r.2.2.1=true∨fJ r.2.2.2.1=true then 70 else if 16<(r.2.2.2.2.1.length:Int) then 9 else dn r.2.2.2.2.1
def bh (r:pl):Int:=if tD r≠0 then tD r else if 16384<((cf r).length:Int) then 4 else 0
def ci (r:pl):LI×Int:=if bh r=0 then (aF (aC (cf r).length)++cf r,0) else ([],bh r)
def gj (r:pl):Bool:=decide ((cf r).length≤4294967000)
theorem np (u:Int):(aF u).length≤11:=by
 unfold aF
 have:=NP 10 u
 simp only[zH,zN,List.length_nil]
 omega
end
end Go.Proofs.YthpcdhgpplmneaaGreatDoor.Sym
namespace Go.Proofs.YthpcdhgpplmneaaGreatDoor.Sym
open Go
open Go.ChangeShapes Go.WideShapes Go.ChangeAt Go.RowKit
def eB (P:Program):Ty→(TypeId ⊕ (List Field×Nat))→Bool
 |.int k,.inl t=>match P.underlying t with
  |some (.int k')=>decide (k'=k)
  |_=>false
 |.bool,.inl t=>match P.underlying t with
  |some .bool=>true
  |_=>false
 |.str,.inl t=>match P.underlying t with
  |some .string=>true
  |_=>false
 |.sl e ty,.inl t=>match P.underlying t with
  |some (.slice e')=>(e' == e)&&(eB P ty (.inl e)&&((P.cellsOf e == ty.size)&&!(ty.size == 0)))
  |_=>false
 |.prod a b,.inl t=>match P.underlying t with
  |some (.struct fs)=>(P.cellsOf t == a.size+b.size)&&match fs.toList with
   |f::fs'=>(f.offset == 0)&&((P.cellsOf f.type == a.size)&&(eB P a (.inl f.type)&&eB P b (.inr (fs',a.size))))
   |[]=>false
  |_=>false
 |.unit,.inr ([],_)=>true
 |.prod a b,.inr (f::fs,off)=>(f.offset == off)&&((P.cellsOf f.type == a.size)&&(eB P a (.inl f.type)&&eB P b (.inr (fs,off+a.size))))
 |_,_=>false
def Cs:(t:Ty)→t.den→Nat
 |.int _,_=>1
 |.bool,_=>1
 |.str,s=>List.length (α:=Int) s+1
 |.sl _ t,xs=>(List.map (Cs t) xs).sum+1
 |.unit,_=>0
 |.prod a b,x=>Cs a x.1+Cs b x.2
 |.tree _ _,_=>0
def S0 (W:World)(b o:Nat):Prop:=∃v,W.cell? ⟨b,o,none⟩=some v
section
variable {P:Program} {W:World} {H:Type} {enc:TypeId×Value→H} {sp:Nat→Bool} {held:Bool}
theorem KP {a:Addr}{n:Nat}{cs:List Value}(h:W.cells? 0 a n=some cs)(hn:0<n):a.spot=none∧cs.length=n∧At (S0 W) W a.block a.off cs:=by
 simp only[World.cells?,Nat.zero_le,if_true] at h
 have hl:=mapM_some_length h
 rw[List.length_range] at hl
 have hg:∀i,i<n→W.cell? (a.add i)=cs[i]?:=fun i hi=>mapM_some_get h i i (by simp[hi])
 have hsp:a.spot=none:=by
  have h0:=hg 0 hn
  rw[List.getElem?_eq_getElem (by omega)] at h0
  unfold World.cell? at h0
  split at h0
  ·split at h0
   ·cases h0
   ·rename_i hs
    cases e:a.spot with
    |none=>rfl
    |some x=>simp[Addr.add,e] at hs
  ·cases h0
 refine ⟨hsp,hl,fun j v hv=>?_⟩
 have hj:j<n:=by rw[← hl];exact (List.getElem?_eq_some_iff.1 hv).1
 have:=hg j hj
 rw[hv] at this
 have e:a.add j=⟨a.block,a.off+j,none⟩:=by
  obtain ⟨b,o,s⟩:=a
  simp only at hsp
  subst hsp
  exact Addr.add_plain ..
 rw[e] at this
 exact ⟨⟨v,this⟩,this⟩
theorem qB (ub:DataW H→Nat)(uba:List (DataW H)→Nat)(u1:∀l,1≤ub (.lit l))(u2:∀bs,bs.length+1≤ub (.lit (.string bs)))(u3:1≤ub .nil)(u4:∀es ss,uba es+1≤ub (.slice es ss))(u5:∀ps,uba ps≤ub (.agg ps))
  (u6:∀d ds,uba (d::ds)=ub d+uba ds) (u7:uba []=0):
  ∀(ty:Ty),(∀(t:TypeId),eB P ty (.inl t)=true→∀(fuel:Nat) (cs:List Value) (x:DataW H×List MemPlace),DataW.trod enc P W 0 sp held fuel t cs=some x→∃y:ty.den,Rt (S0 W) W ty y cs∧Cs ty y≤ub x.1)∧
   (∀(fs:List Field) (off:Nat),eB P ty (.inr (fs,off))=true→∀(fuel:Nat) (cs:List Value) (xs:List (DataW H×List MemPlace)),fs.mapM (fun f=>DataW.trod enc P W 0 sp held fuel f.type ((cs.drop f.offset).take (P.cellsOf f.type)))=some xs→
    (cs.drop off).length=ty.size→∃y:ty.den,Rt (S0 W) W ty y (cs.drop off)∧Cs ty y≤uba (xs.map (·.1)))
 |.int k=>by
  refine ⟨fun t ht fuel cs x h=>?_,fun fs off ht=>by cases fs <;> simp[eB] at ht⟩
  simp only[eB] at ht
  split at ht
  ·rename_i k' hu
   have ht:=of_decide_eq_true ht
   subst ht
   obtain ⟨n2,rfl,rfl,hw⟩:=DataW.trod_int hu h
   refine ⟨n2,⟨rfl,?_⟩,u1 _⟩
   simpa [Lit.wf,bC] using hw
  ·cases ht
 |.bool=>by
  refine ⟨fun t ht fuel cs x h=>?_,fun fs off ht=>by cases fs <;> simp[eB] at ht⟩
  simp only[eB] at ht
  split at ht
  ·rename_i hu
   obtain ⟨b,rfl,rfl⟩:=DataW.trod_bool hu h
   exact ⟨b,rfl,u1 _⟩
  ·cases ht
 |.str=>by
  refine ⟨fun t ht fuel cs x h=>?_,fun fs off ht=>by cases fs <;> simp[eB] at ht⟩
  simp only[eB] at ht
  split at ht
  ·rename_i hu
   obtain ⟨s,rfl,rfl,hl⟩:=DataW.trod_string hu h
   refine ⟨jF s,⟨by rw[my],sK s,?_⟩,?_⟩
   ·have:(jF s).length=s.size:=by rw[← b7,my]
    rw[this];exact hl
   ·have:(jF s).length=s.data.toList.length:=by unfold jF;exact List.length_map _
    show (jF s).length+1≤_
    rw[this]
    exact u2 _
  ·cases ht
 |.unit=>by
  refine ⟨fun t ht=>by simp[eB] at ht,fun fs off ht fuel cs xs h hl=>?_⟩
  refine ⟨(),?_,Nat.zero_le _⟩
  exact zF hl
 |.sl e ty=>by
  refine ⟨fun t ht fuel cs x h=>?_,fun fs off ht=>by cases fs <;> simp[eB] at ht⟩
  simp only[eB] at ht
  split at ht
  ·rename_i e' hu
   simp only[zA,beq_iff_eq,Bool.not_eq_true',beq_eq_false_iff_ne] at ht
   obtain ⟨rfl,hT,hsz,hpos⟩:=ht
   have ih:=(qB ub uba u1 u2 u3 u4 u5 u6 u7 ty).1 e' hT
   rcases DataW.trod_slice hu h with ⟨rfl,rfl⟩ | ⟨a,len,cap,elems,rest,n,_,rfl,rfl,hb,hl,hm,hlen,hel,_,_⟩
   ·exact ⟨[],⟨none,0,rfl,Nat.le_refl _,Nat.zero_le _,fun h=>absurd rfl h⟩,u3⟩
   ·have each:∀i,i<len→∃y:ty.den,(∃c,Rt (S0 W) W ty y c∧(i=0→a.spot=none)∧At (S0 W) W a.block (a.off+i*ty.size) c)∧∃d,elems[i]?=some d∧Cs ty y≤ub d.1:=by
     intro i hi
     have h1:=hel i hi
     rw[List.getElem?_eq_getElem (by omega)] at h1
     obtain ⟨c,hc,hd⟩:=Option.bind_eq_some_iff.1 h1
     obtain ⟨y,hy,hs⟩:=ih _ _ _ hd
     rw[hsz] at hc
     obtain ⟨h2,h3,h4⟩:=KP hc (by omega)
     have e1:(a.add (i*ty.size)).block=a.block:=by unfold Addr.add;split <;> rfl
     have e2:(a.add (i*ty.size)).off=a.off+i*ty.size:=by
      unfold Addr.add
      split
      ·rename_i h0;rw[h0];rfl
      ·rfl
     rw[e1,e2] at h4
     refine ⟨y,⟨c,hy,fun h0=>?_,h4⟩,elems[i],by simp,hs⟩
     subst h0
     simpa [Addr.add] using h2
    have mk:∀m,m≤len→∃ys:List ty.den,ys.length=m∧(∀i y,ys[i]?=some y→∃c,Rt (S0 W) W ty y c∧(i=0→a.spot=none)∧At (S0 W) W a.block (a.off+i*ty.size) c)∧(ys.map (Cs ty)).sum≤uba ((elems.take m).map (·.1)):=by
     intro m
     induction m with
     |zero=>intro _;exact ⟨[],rfl,fun i y h=>by simp at h,by simp⟩
     |succ m ihm=>
      intro hm'
      obtain ⟨ys,g1,g2,g3⟩:=ihm (by omega)
      obtain ⟨y,g4,d,g5,g6⟩:=each m (by omega)
      refine ⟨ys++[y],by simp[g1],fun i z hz=>?_,?_⟩
      ·rw[List.getElem?_append] at hz
       split at hz
       ·exact g2 i z hz
       ·rename_i hlt
        have:i=m:=by
         have:=(List.getElem?_eq_some_iff.1 hz).1
         simp at this;omega
        subst this
        simp[g1] at hz
        subst hz
        exact g4
      ·have hap:∀(xs bs:List (DataW H)),uba (xs++bs)=uba xs+uba bs:=by
        intro xs bs
        induction xs with
        |nil=>simp[u7]
        |cons c xs ih=>rw[List.cons_append,u6,u6,ih];omega
       rw[List.take_add_one,g5]
       simp only[List.map_append,List.sum_append,hap,Option.toList,zL,List.map_nil,List.sum_cons,List.sum_nil,u6,u7]
       omega
    obtain ⟨ys,g1,g2,g3⟩:=mk len (Nat.le_refl _)
    refine ⟨ys,⟨some a,cap,by rw[g1],by omega,hm,fun hne=>?_⟩,?_⟩
    ·have h0:0<ys.length:=List.length_pos_iff.2 hne
     obtain ⟨c,_,hsp,_⟩:=g2 0 ys[0] (by simp)
     have hsp:=hsp rfl
     refine ⟨a.block,a.off,?_,fun i y hy=>?_⟩
     ·obtain ⟨b,o,s⟩:=a
      simp only at hsp
      rw[hsp]
     ·obtain ⟨c,hc,_,hat⟩:=g2 i y hy
      exact ⟨c,hc,hat⟩
    ·rw[List.take_of_length_le (by omega)] at g3
     show (ys.map (Cs ty)).sum+1≤_
     exact Nat.le_trans (by omega) (u4 _ _)
  ·cases ht
 |.tree a e=>⟨fun t ht=>by simp[eB] at ht,fun fs off ht=>by cases fs <;> simp[eB] at ht⟩
 |.prod a b=>by
  have step:∀(f:Field) (fs:List Field) (off:Nat),((f.offset == off)&&((P.cellsOf f.type == a.size)&&(eB P a (.inl f.type)&&eB P b (.inr (fs,off+a.size)))))=true→
    ∀(fuel:Nat) (cs:List Value) (xs:List (DataW H×List MemPlace)),(f::fs).mapM (fun f=>DataW.trod enc P W 0 sp held fuel f.type ((cs.drop f.offset).take (P.cellsOf f.type)))=some xs→
    (cs.drop off).length=a.size+b.size→∃y:a.den×b.den,Rt (S0 W) W (.prod a b) y (cs.drop off)∧Cs a y.1+Cs b y.2≤uba (xs.map (·.1)):=by
   intro f fs off ht fuel cs xs h hl
   simp only[zA,beq_iff_eq] at ht
   obtain ⟨rfl,hs,hA,hB⟩:=ht
   simp only[List.mapM_cons,Option.bind_eq_bind,Option.bind_eq_some_iff] at h
   obtain ⟨x0,h0,xs',h1,h2⟩:=h
   simp only[Option.pure_def,zC] at h2
   subst h2
   rw[hs] at h0
   obtain ⟨y1,hy1,hd1⟩:=(qB ub uba u1 u2 u3 u4 u5 u6 u7 a).1 f.type hA _ _ _ h0
   have hl2:(cs.drop (f.offset+a.size)).length=b.size:=by
    simp only[List.length_drop] at hl ⊢
    omega
   obtain ⟨y2,hy2,hd2⟩:=(qB ub uba u1 u2 u3 u4 u5 u6 u7 b).2 fs _ hB _ _ _ h1 hl2
   refine ⟨(y1,y2),⟨_,_,?_,hy1,hy2⟩,?_⟩
   ·rw[← List.drop_drop,List.take_append_drop]
   ·simp only[zL,u6]
    omega
  refine ⟨fun t ht fuel cs x h=>?_,fun fs off ht fuel cs xs h hl=>?_⟩
  ·simp only[eB] at ht
   split at ht
   ·rename_i fs hu
    simp only[zA,beq_iff_eq] at ht
    obtain ⟨hsz,ht⟩:=ht
    split at ht
    ·rename_i f fs' hfs
     cases fuel with
     |zero=>simp[DataW.trod] at h
     |succ n=>
      unfold DataW.trod at h
      rw[hu] at h
      simp only at h
      split at h
      ·rename_i hlen
       obtain ⟨xs,hxs,rfl⟩:=Option.map_eq_some_iff.1 h
       rw[hfs] at hxs
       obtain ⟨y,hy,hd⟩:=step f fs' 0 (by simpa using ht) n cs xs hxs (by simpa [hsz] using hlen)
       exact ⟨y,by simpa using hy,Nat.le_trans hd (u5 _)⟩
      ·cases h
    ·cases ht
   ·cases ht
  ·cases fs with
   |nil=>simp[eB] at ht
   |cons f fs=>exact step f fs off (by simpa only [eB] using ht) fuel cs xs h hl
theorem Sf {ty:Ty}{t:TypeId}(ht:eB P ty (.inl t)=true){fuel:Nat}{cs:List Value}{d:DataW H}{ps:List MemPlace}(h:DataW.trod enc P W 0 sp held fuel t cs=some (d,ps)):∃y:ty.den,Rt (S0 W) W ty y cs∧Cs ty y≤Rows.uptoBulk d:=
 (qB Rows.uptoBulk Rows.uptoBulkAll (fun l=>by cases l <;> simp[Rows.uptoBulk]) (fun bs=>by simp[Rows.uptoBulk]) (by simp[Rows.uptoBulk]) (fun es ss=>by simp[Rows.uptoBulk]) (fun ps=>by simp[Rows.uptoBulk]) (fun d ds=>by simp[Rows.uptoBulkAll]) (by simp[Rows.uptoBulkAll]) ty).1 t ht fuel cs _ h
theorem rY {t:Ty}(hp:∀x:t.den,1≤Cs t x):∀xs:List t.den,xs.length≤(xs.map (Cs t)).sum
 |[]=>by simp
 |x::xs=>by
  have:=rY hp xs
  have:=hp x
  simp only[zN,zL,List.sum_cons]
  omega
theorem Oy {e:Nat}{k:IntKind}(xs:(Ty.sl e (.int k)).den):List.length xs≤Cs (.sl e (.int k)) xs:=by
 have:=rY (t:=.int k) (fun _=>Nat.le_refl 1) xs
 show _≤(List.map (Cs (.int k)) xs).sum+1
 exact Nat.le_trans this (Nat.le_succ _)
def G0 (W:World):Gh:=⟨S0 W,fun _=>none,fun _=>none⟩
def F0 (W:World):Fra:=⟨W,fun _=>False,S0 W,fun _=>none⟩
theorem Su (h:∀g,Qo g=false)(W:World):lE (S0 W) W:=fun g i hg _=>absurd hg (by rw[h g];decide)
theorem SO (W:World)(htab:lE (S0 W) W):Rel (F0 W) (G0 W) ⟨[],[],[]⟩ #[] [] W where
 tm:=trivial
 stk:=trivial
 ob:=fun k cs h=>by simp at h
 gh:=⟨fun _ _ h=>(by cases h),fun _ _ _ h=>(by cases h),fun _ _ _ h=>(by cases h),fun _ _ _ _ _ h=>(by cases h),fun b o h=>(by
   obtain ⟨v,h⟩:=h
   unfold World.cell? at h
   split at h
   ·rename_i e
    exact (Array.getElem?_eq_some_iff.1 e).1
   ·cases h),⟨rfl,rfl,rfl,Nat.le_refl _,fun _ _ _=>rfl⟩,fun _ _ h=>h,fun _ _ h=>.inl h,fun _ _ _=>rfl,fun _ _ h=>(by cases h),htab⟩
def I3 (oc:Oc)(A:AS):Option Unit:=match oc with
 |.ret (.one (.bool true)) _=>some ()
 |_=>none
theorem I4 {f:Nat}{io:Io}{Fn:io.In→Tr io.Res}(hok:HcOk P f (ai io Fn)){args:List V}{vals:Array Value}(hargs:All2 (Rv (G0 W) W) args vals.toList)(hrun:ai io Fn Unit args 1 ⟨[],[],[]⟩ I3=some ())(htab:lE (S0 W) W:=by exact Su (fun _=>rfl) _):
  Calls P f vals W fun e w'=>e=.returned (.bool true)∧w'.os=W.os∧w'.output=W.output∧∀i,i<W.heap.size→w'.heap[i]?=W.heap[i]?:=by
 refine (hok Unit args 1 _ I3 () (F0 W) (G0 W) #[] [] W vals (fun _=>rfl) hrun (SO W htab) hargs).2.mono ?_
 rintro e w' ⟨G',A',v,u,R',hv,h⟩
 have hfr:=R'.gh.fr
 refine ⟨?_,hfr.os,hfr.output,fun i hi=>hfr.block i hi (fun h=>h)⟩
 rcases h with ⟨rfl,ks,_,hk⟩ | ⟨rfl,hk⟩
 ·unfold I3 at hk
  split at hk
  ·rename_i e
   cases e
   rw[show u=.bool true from hv]
  ·cases hk
 ·cases hk
def ua (ty:Ty)(y:ty.den):V:=bif ty.isProd then .agg (nA ty y) else match nA ty y with
 |[c]=>.one c
 |_=>.any
theorem Ew {G:Gh}{ty:Ty}{y:ty.den}{v:Value}(h:Rt G.S W ty y v.cells.toList)(hp:ty.isProd=true→∃vs,v=.agg vs)(hn:ty.isProd=false→v.cells = #[v]):Rv G W (ua ty y) v:=by
 have hs:=b8 (G:=G) (w:=W) ty y _ h
 unfold ua
 cases hb:ty.isProd with
 |true=>
  obtain ⟨vs,rfl⟩:=hp hb
  exact ⟨vs,rfl,hs⟩
 |false=>
  rw[hn hb] at hs
  simp only[cond_false]
  split
  ·rename_i c e
   rw[e] at hs
   exact hs.1
  ·trivial
theorem IE {ty:Ty}{t:TypeId}(ht:eB P ty (.inl t)=true){r:Reach}{base:Nat}{v:Value}(hval:Value.okWide P W r base t v):(ty.isProd=true→∃vs,v=.agg vs)∧(ty.isProd=false→v.cells = #[v]):=by
 cases ty with
 |tree a e=>simp[eB] at ht
 |int k=>
  refine ⟨fun h=>(by cases h),fun _=>?_⟩
  simp only[eB] at ht
  split at ht
  ·rename_i k' hu
   cases v <;> simp[Value.okWide,hu,Cell.okWide,Cell.ok] at hval <;> rfl
  ·cases ht
 |bool=>
  refine ⟨fun h=>(by cases h),fun _=>?_⟩
  simp only[eB] at ht
  split at ht
  ·rename_i hu
   cases v <;> simp[Value.okWide,hu,Cell.okWide,Cell.ok] at hval <;> rfl
  ·cases ht
 |str=>
  refine ⟨fun h=>(by cases h),fun _=>?_⟩
  simp only[eB] at ht
  split at ht
  ·rename_i hu
   cases v <;> simp[Value.okWide,hu,Cell.okWide,Cell.ok] at hval <;> rfl
  ·cases ht
 |sl e ty=>
  refine ⟨fun h=>(by cases h),fun _=>?_⟩
  simp only[eB] at ht
  split at ht
  ·rename_i e' hu
   cases v <;> simp[Value.okWide,hu,Cell.okWide,Cell.ok] at hval <;> rfl
  ·cases ht
 |unit=>simp[eB] at ht
 |prod a b=>
  refine ⟨fun _=>?_,fun h=>(by cases h)⟩
  simp only[eB] at ht
  split at ht
  ·rename_i fs hu
   simp only[Value.okWide,hu] at hval
   obtain ⟨cs,rfl,_⟩:=hval
   exact ⟨cs,rfl⟩
  ·cases ht
def tA (P:Program):Bool:=(List.range P.types.size).all fun t=>match P.underlying t with
 |some (.slice e)=>decide (0<P.cellsOf e)
 |_=>true
theorem wM (hl:laidOutB P=true)(hm:mapsRowed P=true)(hs:tA P=true){W':World}(hk:∀i,i<W.heap.size→W'.heap[i]?=W.heap[i]?):∀{ts:List TypeId} {vs:List Value} {ds:List (DataW H)} {ps:List MemPlace},
  (∀t∈ts,t<P.types.size)→DataW.TrodAll enc P W 0 (fun _=>true) true ts vs ds ps→(∀p∈ps,sp p.block=true)→DataW.TrodAll enc P W' 0 sp true ts vs ds ps
 |[],[],[],_,_,h,_=>h
 |t::ts,v::vs,d::ds,ps,hT,⟨p,q,⟨fuel,h1⟩,h2,e⟩,hsp=>by
  refine ⟨p,q,⟨fuel,DataW.trod_stays (kids_rows hl hm) (fun {t e} ht hu=>?_) (fun h=>(by cases h)) (hT t (by simp)) h1 (fun x hx=>?_) fun x hx=>hsp x (by rw[e];exact List.mem_append_left _ hx)⟩,
   wM hl hm hs hk (fun t ht=>hT t (by simp[ht])) h2 (fun x hx=>hsp x (by rw[e];exact List.mem_append_right _ hx)),e⟩
  ·have:=List.all_eq_true.1 hs t (by simpa using ht)
   rw[hu] at this
   exact of_decide_eq_true this
  ·have hb:=DataW.trod_lt _ _ _ _ h1 x hx
   cases x with
   |cell b off=>simp[World.sameAt,World.cell?,hk b hb]
   |map b=>exact hk b hb
 |[],[],_::_,_,_,h,_=>h.elim
 |[],_::_,_,_,_,h,_=>h.elim
 |_::_,[],_,_,_,h,_=>h.elim
 |_::_,_::_,[],_,_,h,_=>h.elim
theorem MN {f:Func}{s:ChangeSpec}{apart fresh handsOn again:Bool}{W':World}{args:Array Value}{ds gs:List (DataW H)}{before:List MemPlace}
  (hl:laidOutB P=true) (hm:mapsRowed P=true) (hs:tA P=true) (hT:∀t∈f.params.toList,t<P.types.size) {tb:TypeId} (hr:f.resultTypes = #[tb]) (htb:P.underlying tb=some .bool) (hv:s.vars=[])
  (hW:DataW.Whole enc P f.params.toList s.vars apart W args.toList ds gs before) (hfn:s.fn H (ds++gs)={ results:=[.lit (.bool true)],args:=ds })
  (hos:W'.os=W.os) (hout:W'.output=W.output) (hk:∀i,i<W.heap.size→W'.heap[i]?=W.heap[i]?):s.post enc P f apart fresh handsOn again W args (.bool true) W':=by
 have hlt:=hW.lt
 obtain ⟨p,q,hA,hV,hpq,hfz,hnd⟩:=id hW
 rw[hv] at hV
 obtain ⟨rfl,rfl⟩:=trodVars_none hV
 rw[List.append_nil] at hpq
 subst hpq
 have hres:∀(b:Nat) (sp:Nat→Bool) (hd:Bool),DataW.TrodAll enc P W' b sp hd f.resultTypes.toList ((Value.bool true).resultList f.resultTypes.size) [.lit (.bool true)] []:=by
  intro b sp hd
  rw[hr]
  exact trodAll_cons_mk (shut_bool htb _) trodAll_mk0
 have hargs:∀sp:Nat→Bool,(∀x∈before,sp x.block=true)→DataW.TrodAll enc P W' 0 sp true f.params.toList args.toList ds before:=
  fun sp hsp=>wM hl hm hs hk hT hA hsp
 have hvars:∀sp:Nat→Bool,DataW.TrodVars enc P W' sp s.vars [] []:=by
  intro sp
  rw[hv]
  rfl
 have hold:∀x∈before,(fun b=>decide (b<W.heap.size)) x.block=true:=fun x hx=>by simpa using hlt x hx
 have hkept:∀may:MemPlace→Prop,W.keptBut W' may:=fun may=>⟨hos,hout,fun i hi=>by
  rw[hk i hi]
  cases h:W.heap[i]? with
  |none=>rfl
  |some o=>cases o <;> simp⟩
 refine ⟨ds,[],before,[],before,[],hW,by rw[hfn];exact hres _ _ _,by rw[hfn];exact hargs _ hold,by rw[hfn];exact hvars _,hkept _,fun _=>?_⟩
 refine ⟨ok_one hr rfl (okWide_bool_mk htb true),[.lit (.bool true)]++ds,[],[]++before,⟨[]++before,[],trodAll_append (hargs _ fun _ _=>rfl) (hres _ _ _),hvars _,by simp,fun b off hx=>?_,fun ha=>by simpa using hnd ha⟩,fun x hx _=>by simpa using hx⟩
 have hx:MemPlace.cell b off∈before:=by simpa using hx
 rw[← hfz b off hx]
 simp[World.frozen?,hk b (hlt _ hx)]
@[reducible] def qF:List Ty→Type
 |[]=>Unit
 |t::ts=>t.den×qF ts
def F4:(tys:List Ty)→qF tys→List V
 |[],_=>[]
 |t::ts,y=>ua t y.1::F4 ts y.2
def Lg:(tys:List Ty)→qF tys→Nat
 |[],_=>0
 |t::ts,y=>Cs t y.1+Lg ts y.2
def ST:(tys:List Ty)→qF tys→Prop
 |[],_=>True
 |t::ts,y=>t.wf y.1∧ST ts y.2
def Ph (P:Program):List Ty→List TypeId→Bool
 |[],[]=>true
 |ty::tys,t::ts=>eB P ty (.inl t)&&Ph P tys ts
 |_,_=>false
theorem BA {r:Reach}{base:Nat}:∀(tys:List Ty) (ts:List TypeId),Ph P tys ts=true→∀{vs:List Value} {ds:List (DataW H)} {ps:List MemPlace},DataW.TrodAll enc P W 0 sp held ts vs ds ps→
  (∀(j:Nat) t v,ts[j]?=some t→vs[j]?=some v→Value.okWide P W r base t v)→
  ∃ys:qF tys,All2 (Rv (G0 W) W) (F4 tys ys) vs∧Lg tys ys≤Rows.uptoBulkAll ds∧ST tys ys∧ds.length=tys.length
 |[],[],_,[],[],_,_,_=>⟨(),trivial,Nat.zero_le _,trivial,rfl⟩
 |ty::tys,t::ts,ht,v::vs,d::ds,_,⟨p,q,⟨fuel,h1⟩,h2,_⟩,hv=>by
  simp only[Ph,zA] at ht
  obtain ⟨y,hy,hs⟩:=Sf ht.1 h1
  obtain ⟨k1,k2⟩:=IE ht.1 (hv 0 t v rfl rfl)
  obtain ⟨ys,g1,g2,g3,g4⟩:=BA tys ts ht.2 h2 fun j t' v' e1 e2=>hv (j+1) t' v' (by simpa using e1) (by simpa using e2)
  refine ⟨(y,ys),⟨Ew hy k1 k2,g1⟩,?_,⟨Rt.wf ty y _ hy,g3⟩,by simp[g4]⟩
  simp only[Lg,Rows.uptoBulkAll]
  omega
 |[],[],_,[],_::_,_,h,_=>h.elim
 |[],[],_,_::_,_,_,h,_=>h.elim
 |_::_,_::_,_,[],_,_,h,_=>h.elim
 |_::_,_::_,_,_::_,[],_,h,_=>h.elim
 |[],_::_,h,_,_,_,_,_=>by cases h
 |_::_,[],h,_,_,_,_,_=>by cases h
theorem Ah {fn:Func}{f:Nat}{io:Io}{Fn:io.In→Tr io.Res}(hok:HcOk P f (ai io Fn)){s:ChangeSpec}(tys:List Ty)(hts:Ph P tys fn.params.toList=true)
  (hl:laidOutB P=true) (hm:mapsRowed P=true) (hs:tA P=true) (hT:∀t∈fn.params.toList,t<P.types.size) {tb:TypeId} (hr:fn.resultTypes = #[tb]) (htb:P.underlying tb=some .bool) (hv:s.vars=[])
  (hfn:∀ds:List (DataW H),ds.length=tys.length→s.fn H ds={ results:=[.lit (.bool true)],args:=ds })
  (hrun:∀ys:qF tys,Lg tys ys≤1048576→ST tys ys→ai io Fn Unit (F4 tys ys) 1 ⟨[],[],[]⟩ I3=some ())
  (base:Nat) (args:Array Value) (ds gs:List (DataW H)) (before:List MemPlace)
  (hval:∀(j:Nat) t v,fn.params[j]?=some t→args[j]?=some v→Value.okWide P W .any base t v)
  (hW:DataW.Whole enc P fn.params.toList s.vars false W args.toList ds gs before) (hk:Rows.uptoSmall H (ds++gs)=true) (htab:lE (S0 W) W:=by exact Su (fun _=>rfl) _):
  Calls P f args W fun e W'=>∃v,e=.returned v∧s.post enc P fn false true false false W args v W':=by
 have hW':=hW
 obtain ⟨p,q,hA,hV,_,_,_⟩:=hW
 rw[hv] at hV
 obtain ⟨rfl,rfl⟩:=trodVars_none hV
 obtain ⟨ys,g1,g2,g3,g4⟩:=BA tys fn.params.toList hts hA fun j t v e1 e2=>hval j t v (by simpa using e1) (by simpa using e2)
 have hb:Rows.uptoBulkAll ds≤1048576:=by simpa [Rows.uptoSmall] using hk
 refine (I4 hok (vals:=args) (args:=F4 tys ys) g1 (hrun ys (by omega) g3) htab).mono ?_
 rintro e W' ⟨rfl,hos,hout,hkeep⟩
 exact ⟨_,rfl,MN hl hm hs hT hr htb hv hW' (by rw[List.append_nil];exact hfn ds g4) hos hout hkeep⟩
end
end Go.Proofs.YthpcdhgpplmneaaGreatDoor.Sym
namespace Go.Proofs.YthpcdhgpplmneaaGreatDoor.Sym
open Go
noncomputable section
section
variable {P:Program} {tt:TT}
end
end
end Go.Proofs.YthpcdhgpplmneaaGreatDoor.Sym
namespace Go.Proofs.YthpcdhgpplmneaaGreatDoor.Sym
open Go
def C.thaw:C→C
 |.ex e t lo xs i j=>bif Nat.beq lo 0 then .lst e t xs 0 else .top
 |.eel _ _ _ _ _=>.top
 |.lst e t xs _=>.lst e t xs 0
 |.ptr _ _=>.top
 |.fn _ _ _=>.top
 |c=>c
def V.thaw:V→V
 |.one c=>.one c.thaw
 |.agg cs=>.agg (cs.map C.thaw)
 |_=>.any
def Ty.flatB:Ty→Bool
 |.sl _ _=>false
 |.tree _ _=>false
 |.prod a b=>a.flatB&&b.flatB
 |_=>true
theorem Rt.flat {S S':Nat→Nat→Prop}{w w':World}:∀(t:Ty) (x:t.den) (cs:List Value),t.flatB=true→Rt S w t x cs→Rt S' w' t x cs
 |.int _,_,_,_,h=>h
 |.bool,_,_,_,h=>h
 |.str,_,_,_,h=>h
 |.unit,_,_,_,h=>h
 |.prod a b,_,_,hf,⟨c1,c2,e,h1,h2⟩=>by
  simp only[Ty.flatB,zA] at hf
  exact ⟨c1,c2,e,Rt.flat a _ _ hf.1 h1,Rt.flat b _ _ hf.2 h2⟩
 |.sl _ _,_,_,hf,_=>by cases hf
 |.tree _ _,_,_,hf,_=>by cases hf
def xX:C→Option C
 |.int k n=>some (.int k n)
 |.bool b=>some (.bool b)
 |.str s=>some (.str s)
 |.lst e t xs own=>bif !(own == 0)&&t.flatB then some (.ex e t 0 xs own own) else none
 |_=>none
def me:List C→Option (List C)
 |[]=>some []
 |c::cs=>match xX c,me cs with
  |some c,some cs=>some (c::cs)
  |_,_=>none
def uS:List (Bool×List C)→Option (List (Bool×List C))
 |[]=>some []
 |p::ps=>match me p.2,uS ps with
  |some cs,some ps=>some ((p.1,cs)::ps)
  |_,_=>none
def QC:V→Option V
 |.one c=>(xX c).map .one
 |.agg cs=>(me cs).map .agg
 |.tup ps=>(uS ps).map .tup
 |.any=>none
def vB:C→List Nat
 |.lst _ _ _ own=>[own]
 |_=>[]
def ML:V→List Nat
 |.one c=>vB c
 |.agg cs=>cs.flatMap vB
 |.tup ps=>ps.flatMap fun p=>p.2.flatMap vB
 |.any=>[]
def Ev (i:Nat):List Nat→Bool
 |[]=>true
 |j::js=>Nat.beq j i&&Ev i js
noncomputable section
def A8 (h:Hc):Hc:=fun _ args id A K=>h _ (args.map V.thaw) id ⟨[],[],[]⟩ fun oc _=>match oc with
 |.ret v _=>match QC v,ML v with
  |some v',[]=>v'.force fun v'=>K (.ret v' (some [])) A
  |some v',i::is=>bif !(i == 0)&&Ev i is then v'.force fun v'=>(A.map (C.noOwn i)).force fun A=>K (.ret v' (some [])) A else none
  |none,_=>none
 |.pan _=>none
structure Grown (w w':World):Prop where
 os:w'.os=w.os
 tape:w'.tape=w.tape
 output:w'.output=w.output
 size:w.heap.size≤w'.heap.size
 old:∀k,k<w.heap.size→w'.heap[k]?=w.heap[k]?
theorem Grown.cell {w w':World}(g:Grown w w'){b o:Nat}(hb:b<w.heap.size):w'.cell? ⟨b,o,none⟩=w.cell? ⟨b,o,none⟩:=by
 simp[World.cell?,g.old b hb]
section
variable {F:Fra} {G:Gh} {w w':World}
def Gh.owned (G:Gh)(i:Nat)(o:Option Nat):Gh:=⟨G.S,G.mu,fun j=>if j=i then o.map (·,0) else G.ow j⟩
theorem Goes.grown (h:GhOk F G w)(g:Grown w w')(i:Nat)(o:Option Nat):Goes G (G.owned i o) w w' none (some i) where
 kept:=fun b p hs=>⟨hs,g.cell (h.sB b p hs)⟩
 mu:=fun _ _ hb _=>hb
 ow:=fun j b l hj hne=>by
  have:j≠i:=fun e=>hne (by rw[e])
  exact ⟨by simp[Gh.owned,this,hj],g.old b (h.ow j b l hj).2.2.1⟩
theorem GhOk.grown (h:GhOk F G w)(g:Grown w w')(i:Nat)(o:Option Nat)(ho:∀b,o=some b→w.heap.size≤b∧b<w'.heap.size):GhOk F (G.owned i o) w' where
 mu:=fun key b hb=>let ⟨h1,h2,h3⟩:=h.mu key b hb;⟨h1,h2,Nat.lt_of_lt_of_le h3 g.size⟩
 muI:=h.muI
 ow:=fun j b l hj=>by
  simp only[Gh.owned] at hj ⊢
  split at hj
  ·cases o with
   |none=>cases hj
   |some b0=>
    simp only[Option.map_some,zC,zD] at hj
    obtain ⟨rfl,rfl⟩:=hj
    obtain ⟨h1,h2⟩:=ho b0 rfl
    exact ⟨fun p _ hs=>by have:=h.sB _ _ hs;omega,.inl (Nat.le_trans h.fr.size h1),h2,fun key hk=>by have:=(h.mu key _ hk).2.2;omega⟩
  ·obtain ⟨h1,h2,h3,h4⟩:=h.ow j b l hj
   exact ⟨h1,h2,Nat.lt_of_lt_of_le h3 g.size,h4⟩
 owI:=fun j k b l l' hj hk=>by
  simp only[Gh.owned] at hj hk
  have hb:∀b l,o.map (·,0)=some (b,l)→w.heap.size≤b:=fun b l e=>by
   cases o with
   |none=>cases e
   |some b0=>cases e;exact (ho _ rfl).1
  split at hj <;> split at hk
  ·rename_i e1 e2;exact e1.trans e2.symm
  ·have:=hb _ _ hj;have:=(h.ow k _ _ hk).2.2.1;omega
  ·have:=hb _ _ hk;have:=(h.ow j _ _ hj).2.2.1;omega
  ·exact h.owI j k b l l' hj hk
 sB:=fun b p hs=>Nat.lt_of_lt_of_le (h.sB b p hs) g.size
 fr:=h.fr.alloc g.os g.tape g.output g.size g.old
 sub:=h.sub
 sup:=h.sup
 keep:=fun b p hs=>(g.cell (h.sB b p (h.sub b p hs))).trans (h.keep b p hs)
 fix_:=h.fix_
 tab:=h.tab
theorem Rel.grown {A:AS}{ts:Array Value}{cst:List (Array Value)}(R:Rel F G A ts cst w)(g:Grown w w')(i:Nat)(o:Option Nat)(ho:∀b,o=some b→w.heap.size≤b∧b<w'.heap.size):Rel F (G.owned i o) (A.map (C.noOwn i)) ts cst w':=
 R.map (fun c v h=>h.noOwn (Goes.grown R.gh g i o)) (fun _=>rfl) (fun key b hb=>⟨hb,g.old b (R.gh.mu key b hb).2.2⟩) (R.gh.grown g i o ho)
theorem Goes.grown0 (h:GhOk F G w)(g:Grown w w'):Goes G G w w' none none where
 kept:=fun b p hs=>⟨hs,g.cell (h.sB b p hs)⟩
 mu:=fun _ _ hb _=>hb
 ow:=fun j b l hj _=>⟨hj,g.old b (h.ow j b l hj).2.2.1⟩
theorem Rel.grown0 {A:AS}{ts:Array Value}{cst:List (Array Value)}(R:Rel F G A ts cst w)(g:Grown w w'):Rel F G A ts cst w':=by
 have h0:GhOk F G w':=by
  refine ⟨fun key b hb=>?_,R.gh.muI,fun j b l hj=>?_,R.gh.owI,fun b p hs=>Nat.lt_of_lt_of_le (R.gh.sB b p hs) g.size,R.gh.fr.alloc g.os g.tape g.output g.size g.old,R.gh.sub,R.gh.sup,fun b p hs=>(g.cell (R.gh.sB b p (R.gh.sub b p hs))).trans (R.gh.keep b p hs),R.gh.fix_,R.gh.tab⟩
  ·obtain ⟨h1,h2,h3⟩:=R.gh.mu key b hb
   exact ⟨h1,h2,Nat.lt_of_lt_of_le h3 g.size⟩
  ·obtain ⟨h1,h2,h3,h4⟩:=R.gh.ow j b l hj
   exact ⟨h1,h2,Nat.lt_of_lt_of_le h3 g.size,h4⟩
 have:=R.map (f:=id) (fun c v h=>h.goes (Goes.grown0 R.gh g) (fun _ e=>by cases e) (fun _ e=>by cases e)) (fun _=>rfl) (fun key b hb=>⟨hb,g.old b (R.gh.mu key b hb).2.2⟩) h0
 rwa [AS.map_id] at this
def Oa (G:Gh):Nat→Nat→Prop:=fun b o=>G.S b o∨∃i,G.ow i=some (b,0)
def jR (G:Gh):Gh:=⟨Oa G,fun _=>none,fun _=>none⟩
def nw (G:Gh)(w:World):Fra:=⟨w,fun _=>False,Oa G,fun _=>none⟩
theorem Ob (h:GhOk F G w):Rel (nw G w) (jR G) ⟨[],[],[]⟩ #[] [] w:=by
 have hs:∀b o,Oa G b o→b<w.heap.size:=by
  rintro b o (hs | ⟨i,hi⟩)
  ·exact h.sB b o hs
  ·exact (h.ow i b 0 hi).2.2.1
 have hg:GhOk (nw G w) (jR G) w:=
  {mu:=fun _ _ h=>by cases h
   muI:=fun _ _ _ h=>by cases h
   ow:=fun _ _ _ h=>by cases h
   owI:=fun _ _ _ _ _ h=>by cases h
   sB:=hs
   fr:=⟨rfl,rfl,rfl,Nat.le_refl _,fun _ _ _=>rfl⟩
   sub:=fun _ _ h=>h
   sup:=fun _ _ h=>.inl h
   keep:=fun _ _ _=>rfl
   fix_:=fun _ _ h=>by cases h
   tab:=fun g i hg hi=>⟨.inl (h.tabs g i hg hi).1,(h.tabs g i hg hi).2⟩ }
 exact ⟨trivial,trivial,fun k cs hk=>by simp at hk,hg⟩
theorem yJ (G:Gh)(w:World):Kept G.S (jR G).S w w:=fun _ _ h=>⟨.inl h,rfl⟩
theorem C.thaw_sound {c:C}{v:Value}(h:Rc G w c v):Rc (jR G) w c.thaw v:=by
 have hcell:=h.cell
 cases c with
 |ex e t lo xs i j=>
  simp only[C.thaw]
  cases hl:Nat.beq lo 0 with
  |false=>exact hcell
  |true=>
   have hl:=Nat.eq_of_beq_eq_true hl
   subst hl
   simp only[cond_true]
   rcases h with ⟨_,rfl,rfl⟩ | ⟨b,cap,rfl,⟨_,_,ho⟩,cur,el,hh,h1,h2,h3,h4⟩
   ·exact ⟨none,0,rfl,Nat.le_refl _,by simp[maxLen],fun hne=>absurd rfl hne,.inl rfl⟩
   ·rw[Nat.zero_add] at h2 ⊢
    refine ⟨_,cap,rfl,h2,h3,fun _=>⟨b,0,rfl,fun k x hx=>?_⟩,.inl rfl⟩
    obtain ⟨c,hc,hu⟩:=h4 k x hx
    refine ⟨c,Rt.kept (yJ G w) t x c hc,fun q u hq=>?_⟩
    have:=hu q u hq
    rw[Nat.zero_add] at this ⊢
    refine ⟨.inr (by rcases ho with h | h;exact ⟨_,h⟩;exact ⟨_,h⟩),?_⟩
    rw[eJ hh,Array.getElem?_toList]
    exact this
 |eel t k x i j=>exact hcell
 |lst e t xs own=>
  obtain ⟨A,cap,e,h1,h2,h3,_⟩:=h
  exact ⟨A,cap,e,h1,h2,h3.kept (yJ G w),.inl rfl⟩
 |ptr k o=>exact hcell
 |fn f m caps=>exact hcell
 |ro t x=>
  obtain ⟨b,o,cs,e,h1,h2⟩:=h
  exact ⟨b,o,cs,e,Rt.kept (yJ G w) t x cs h1,h2.kept (yJ G w)⟩
 |ifc T t x=>
  obtain ⟨u,e,hu,ha⟩:=h
  exact ⟨u,e,Rt.kept (yJ G w) t x _ hu,ha⟩
 |pin v0 t x=>exact ⟨h.1,Rt.kept (yJ G w) t x _ h.2⟩
 |_=>exact h
theorem V.thaw_sound {x:V}{v:Value}(h:Rv G w x v):Rv (jR G) w x.thaw v:=by
 cases x with
 |one c=>exact C.thaw_sound h
 |agg cs=>
  obtain ⟨vs,e,hv⟩:=h
  exact ⟨vs,e,hv.map_left _ fun a b h=>C.thaw_sound h⟩
 |tup ps=>trivial
 |any=>trivial
variable {G':Gh}
def OwnsTo (G' H:Gh)(l:List Nat):Prop:=∀j∈l,j≠0∧∀b n,G'.ow j=some (b,n)→H.ow j=some (b,0)
theorem OwnsTo.l {H:Gh}{l l':List Nat}(h:OwnsTo G' H (l++l')):OwnsTo G' H l:=fun j hj=>h j (List.mem_append_left _ hj)
theorem OwnsTo.r {H:Gh}{l l':List Nat}(h:OwnsTo G' H (l++l')):OwnsTo G' H l':=fun j hj=>h j (List.mem_append_right _ hj)
theorem mc {H:Gh}{c c':C}{v:Value}(hc:xX c=some c')(ho:OwnsTo G' H (vB c))(h:Rc G' w' c v):Rc H w' c' v:=by
 cases c <;> simp only[xX] at hc <;> try cases hc
 case int=>exact h
 case bool=>exact h
 case str=>exact h
 case lst e t xs own=>
  cases hz : !(own == 0)&&t.flatB with
  |false=>rw[hz] at hc;cases hc
  |true=>
   rw[hz] at hc
   simp only[cond_true,zC] at hc
   subst hc
   simp only[zA,Bool.not_eq_true',beq_eq_false_iff_ne] at hz
   obtain ⟨hi,hown⟩:=ho own (by simp[vB])
   obtain ⟨A,cap,rfl,h1,h2,hrow,hO⟩:=h
   rcases hO with hO | ⟨rfl,rfl⟩ | ⟨b,cur,el,rfl,how,hh,hcs⟩
   ·exact absurd hO hz.1
   ·have:xs=[]:=zF (by omega)
    subst this
    exact .inl ⟨rfl,rfl,rfl⟩
   ·refine .inr ⟨b,cap,by rw[Nat.zero_add],⟨hi,hi,.inl (hown b _ how)⟩,cur,el,hh,hcs,by rw[Nat.zero_add];exact h1,h2,fun k x hx=>?_⟩
    obtain ⟨b',o',c,e',hc,ha⟩:=hrow.cellAt hx
    cases e'
    refine ⟨c,Rt.flat t x c hz.2 hc,fun q u hq=>?_⟩
    have:=(ha q u hq).2
    rw[eJ hh,Array.getElem?_toList] at this
    rw[Nat.zero_add] at this ⊢
    exact this
theorem kx {H:Gh}:∀{cs cs':List C} {vs:List Value},me cs=some cs'→OwnsTo G' H (cs.flatMap vB)→All2 (Rc G' w') cs vs→All2 (Rc H w') cs' vs
 |[],cs',vs,h,_,hv=>by simp only[me,zC] at h;subst h;cases vs <;> exact hv
 |c::cs,cs',[],h,_,hv=>hv.elim
 |c::cs,cs',v::vs,h,ho,hv=>by
  simp only[me] at h
  split at h
  ·rename_i c' cs'' h1 h2
   cases h
   rw[List.flatMap_cons] at ho
   exact ⟨mc h1 ho.l hv.1,kx h2 ho.r hv.2⟩
  ·cases h
theorem EN {c:C}{cs':List C}(h:me [c]=some cs'):∃c',xX c=some c'∧cs'=[c']:=by
 simp only[me] at h
 cases hc:xX c with
 |none=>rw[hc] at h;cases h
 |some c'=>rw[hc] at h;cases h;exact ⟨c',rfl,rfl⟩
theorem pH {H:Gh}:∀{ps ps':List (Bool×List C)} {us:List Value},uS ps=some ps'→OwnsTo G' H (ps.flatMap fun p=>p.2.flatMap vB)→All2 (RcOne G' w') ps us→All2 (RcOne H w') ps' us
 |[],ps',us,h,_,hv=>by simp only[uS,zC] at h;subst h;cases us <;> exact hv
 |p::ps,ps',[],h,_,hv=>hv.elim
 |(b,cs0)::ps,ps',u::us,h,ho,hv=>by
  simp only[uS] at h
  split at h
  ·rename_i cs ps'' h1 h2
   cases h
   rw[List.flatMap_cons] at ho
   refine ⟨?_,pH h2 ho.r hv.2⟩
   have o1:=ho.l
   rcases hv.1 with ⟨e1,vs,e2,h3⟩ | ⟨e1,c,e2,h3⟩
   ·exact .inl ⟨e1,vs,e2,kx h1 o1 h3⟩
   ·simp only at e2
    subst e2
    obtain ⟨c',hc',rfl⟩:=EN h1
    exact .inr ⟨e1,c',rfl,mc hc' (by simpa using o1) h3⟩
  ·cases h
theorem sa {H:Gh}{x x':V}{v:Value}(hx:QC x=some x')(ho:OwnsTo G' H (ML x))(h:Rv G' w' x v):Rv H w' x' v:=by
 cases x with
 |one c=>
  obtain ⟨c',hc,rfl⟩:=Option.map_eq_some_iff.1 hx
  exact mc hc ho h
 |agg cs=>
  obtain ⟨cs',hc,rfl⟩:=Option.map_eq_some_iff.1 hx
  obtain ⟨vs,e,hv⟩:=h
  exact ⟨vs,e,kx hc ho hv⟩
 |tup ps=>
  obtain ⟨ps',hc,rfl⟩:=Option.map_eq_some_iff.1 hx
  obtain ⟨us,e,hv⟩:=h
  exact ⟨us,e,pH hc ho hv⟩
 |any=>cases hx
theorem Bz {i:Nat}:∀{l:List Nat},Ev i l=true→∀j∈l,j=i
 |[],_,j,hj=>by cases hj
 |m::l,h,j,hj=>by
  simp only[Ev,zA] at h
  rcases List.mem_cons.1 hj with rfl | hj
  ·exact Nat.eq_of_beq_eq_true h.1
  ·exact Bz h.2 j hj
end
theorem oV {P:Program}{f:Nat}{h:Hc}(hok:HcOk P f h):HcOk P f (A8 h):=by
 intro R args id A K r F G ts cst w vals hid hrun Rl hv
 have hthaw:∀{vs:List V} {us:List Value},All2 (Rv G w) vs us→All2 (Rv (jR G) w) (vs.map V.thaw) us:=fun hh=>hh.map_left _ fun a b h=>V.thaw_sound h
 obtain ⟨hfn,hcalls⟩:=hok R (args.map V.thaw) id ⟨[],[],[]⟩ _ r (nw G w) (jR G) #[] [] w vals (fun _=>rfl) hrun (Ob Rl.gh) (hthaw hv)
 refine ⟨hfn,hcalls.mono ?_⟩
 rintro e w' ⟨G',A',v,u,R',hu,⟨he,ks,_,hk⟩ | ⟨_,hk⟩⟩
 ·have hg:Grown w w':=⟨R'.gh.fr.os,R'.gh.fr.tape,R'.gh.fr.output,R'.gh.fr.size,fun k hk=>R'.gh.fr.block k hk (fun h=>h)⟩
  have hfresh:∀i b l,G'.ow i=some (b,l)→w.heap.size≤b∧b<w'.heap.size:=fun i b l hi=>by
   obtain ⟨_,h2,h3,_⟩:=R'.gh.ow i b l hi
   exact ⟨by rcases h2 with h | h;exact h;exact h.elim,h3⟩
  simp only[V.force_eq,AS.force_eq] at hk
  split at hk
  ·rename_i v' hv' ho
   have R2:=Rl.grown0 hg
   exact ⟨G,A,v',u,R2,sa hv' (fun j hj=>by rw[ho] at hj;cases hj) hu,.inl ⟨he,some [],⟨(Goes.grown0 Rl.gh hg).kept,fun key b _ hb=>⟨hb,hg.old b (Rl.gh.mu key b hb).2.2⟩⟩,hk⟩⟩
  ·rename_i v' i is hv' ho
   cases hz : !(i == 0)&&Ev i is with
   |false=>rw[hz] at hk;cases hk
   |true=>
    rw[hz] at hk
    simp only[cond_true] at hk
    simp only[zA,Bool.not_eq_true',beq_eq_false_iff_ne] at hz
    have hall:Ev i (ML v)=true:=by rw[ho];simp[Ev,hz.2]
    have hob:∀b,(G'.ow i).map (·.1)=some b→w.heap.size≤b∧b<w'.heap.size:=fun b hb=>by
     obtain ⟨p,hp,rfl⟩:=Option.map_eq_some_iff.1 hb
     exact hfresh i p.1 p.2 hp
    refine ⟨_,_,v',u,Rl.grown hg i ((G'.ow i).map (·.1)) hob,sa hv' (fun j hj=>by
     have:=Bz hall j hj
     subst this
     exact ⟨hz.1,fun b n hb=>by simp[Gh.owned,hb]⟩) hu,.inl ⟨he,some [],⟨(Goes.grown Rl.gh hg i _).kept,fun key b _ hb=>⟨hb,hg.old b (Rl.gh.mu key b hb).2.2⟩⟩,hk⟩⟩
  ·cases hk
 ·cases hk
end
end Go.Proofs.YthpcdhgpplmneaaGreatDoor.Sym
namespace Go.Proofs.YthpcdhgpplmneaaGreatDoor.Sym
open Go
open Go.IntKind (i8 i16 i32 i64 u8 u16 u32 u64)
noncomputable section
def uO (tt:TT)(kb:Nat)(ops:Array Oper):List Nat→AS→Option AS
 |[],A=>some A
 |i::is,A=>match ops[i]? with
  |none=>none
  |some o=>match o.guard with
   |some _=>none
   |none=>match OB tt (cP kb (o.dst.getD 0)) A o.type o.op with
    |some (chk,v)=>bif chk then uO tt kb ops is (A.put o.dst v) else none
    |none=>match o.op with
     |.load t x=>match opd A x with
      |.one (.eel t' k d i j)=>bif t'.size == (tt.at t).size then (match gy tt t (nA t' d) with
        |some v=>uO tt kb ops is (A.put o.dst v)
        |none=>none) else none
      |_=>none
     |_=>none
theorem Ai {P:Program}{tt:TT}(htt:cm P tt){G:Gh}{w:World}{a:Act}{x:Operand}{t k i j:Nat}{t':Ty}{d:t'.den}{v:V}(hz:(t'.size == (tt.at t).size)=true)(hp:gy tt t (nA t' d)=some v)(hx:Rc G w (.eel t' k d i j) (a.eval x)):
  ∃u,Rv G w v u∧∀o:Oper,o.op=.load t x→(execOp a.eval o).run P w=.ok (.value u) w:=by
 obtain ⟨b,cap,eu,_,cur,el,hh,_,_,_,h4⟩:=hx
 obtain ⟨cs,hr,hu⟩:=h4 0 d rfl
 have h2:=b8 t' d cs hr
 obtain ⟨u,hru,hrv⟩:=iQ (P:=P) (b:=b) (o:=k*t'.size) htt hp h2 (by rw[h2.length,Rt.len _ _ _ hr];simpa using hz) (fun j u hj=>by
  rw[eJ hh]
  have:=hu j u hj
  simpa using this)
 exact ⟨u,hrv,fun o ho=>by simp[execOp,ho,Instr.loadAt,eu,Instr.sureAddr,hru]⟩
theorem eY {P:Program}{tt:TT}(htt:cm P tt){F:Fra}{G:Gh}{cst:List (Array Value)}{w:World}{kb:Nat}{ops:Array Oper}{Q:Exit→Act→World→Prop}:
  ∀{is rest:List Nat} {A A':AS} {a:Act},uO tt kb ops is A=some A'→Rel F G A a.tmps cst w→
   (∀a',Rel F G A' a'.tmps cst w→a'.defers=a.defers→wpOps P ops Q rest a' w)→wpOps P ops Q (is++rest) a w
 |[],rest,A,A',a,h,R,hK=>by
  simp only[uO,zC] at h
  subst h
  exact hK a R rfl
 |i::is,rest,A,A',a,h,R,hK=>by
  simp only[uO] at h
  simp only[List.cons_append,wpOps]
  cases ho:ops[i]? with
  |none=>rw[ho] at h;cases h
  |some o=>
   rw[ho] at h
   simp only at h ⊢
   cases hg:o.guard with
   |some g=>rw[hg] at h;cases h
   |none=>
    rw[hg] at h
    simp only at h
    rw[if_pos (by simp[Region.wanted,hg])]
    refine .inl ?_
    unfold Oper.wp
    have fin:∀v u,Rv G w v u→uO tt kb ops is (A.put o.dst v)=some A'→wpOps P ops Q (is++rest) (a.put o.dst u) w:=fun v u hv h'=>
     eY htt h' (R.puts hv o.dst) fun a' R' hd'=>hK a' R' (hd'.trans (Act.put_defers' _ _ _))
    split at h
    ·rename_i chk v he
     cases chk with
     |false=>cases h
     |true=>
      obtain ⟨u,hu,hv⟩:=m0 htt R.gh.tabs (fun x=>R.opd x) R.ob o he rfl
      rw[hu,Oper.upon_value]
      exact fin v u hv h
    ·split at h
     ·rename_i t x hop
      split at h
      ·rename_i t' k d i' j e1
       cases hz:t'.size == (tt.at t).size with
       |false=>rw[hz] at h;cases h
       |true=>
        rw[hz] at h
        simp only[cond_true] at h
        split at h
        ·rename_i v hp
         have hx:=R.opd x
         rw[e1] at hx
         obtain ⟨u,hv,hr⟩:=Ai (P:=P) htt hz hp hx
         rw[hr o hop,Oper.upon_value]
         exact fin v u hv h
        ·cases h
      ·cases h
     ·cases h
def gg (lo:Nat)(zs xs:LI):LI:=(zs.drop lo).take xs.length++xs.drop (zs.length - lo)
def C.over (i:Nat)(zs:LI):C→C
 |.lst e t xs own=>.lst e t xs (bif own == i then 0 else own)
 |.ex e t lo xs a b=>bif !(a == i)&&!(b == i) then .ex e t lo xs a b else
   (if h:t=.int .u8 then (bif (a == i)&&(b == i) then .ex e (.int .u8) lo (gg lo zs (h▸xs:List (Ty.int .u8).den)) a b
    else bif Nat.beq lo 0 then .ex e (.int .u8) zs.length (List.drop zs.length (h▸xs:List (Ty.int .u8).den)) a b else .top) else .top)
 |.eel t k x a b=>bif !(a == i)&&!(b == i) then .eel t k x a b else .top
 |c=>c
def C.longs (i:Nat):C→List Nat
 |.ex _ _ _ xs a b=>bif (!(a == i)&&!(b == i)) || ((a == i)&&(b == i)) then [] else [xs.length]
 |_=>[]
def ff (x:Int):Int:=bZ .u8 x 90
def Bl:Hc:=fun _ args _ A K=>match args with
 |[.one (.ex _ t lo xs i j)]=>bif Nat.beq i j&&Nat.beq lo 0 then (if h:t=.int .u8 then
   (bif dz xs.length (A.coll (C.longs i)) then (A.map (C.over i (List.map ff (h▸xs:List (Ty.int .u8).den)))).force fun A=>K (.ret (.tup []) (some [])) A else none) else none) else none
 |_=>none
theorem nL (lo:Nat)(zs xs:LI):(gg lo zs xs).length=xs.length:=by simp[gg];omega
theorem FH (lo:Nat)(zs xs:LI)(k:Nat)(x:Int)(h:(gg lo zs xs)[k]?=some x):(lo+k<zs.length∧zs[lo+k]?=some x)∨(zs.length≤lo+k∧xs[k]?=some x):=by
 have hk:k<xs.length:=by rw[← nL lo zs xs];exact (List.getElem?_eq_some_iff.1 h).1
 unfold gg at h
 rw[List.getElem?_append] at h
 split at h
 ·rename_i hlt
  simp at hlt
  rw[List.getElem?_take,if_pos hk,List.getElem?_drop] at h
  exact .inl ⟨by omega,h⟩
 ·rename_i hlt
  simp at hlt
  rw[List.getElem?_drop] at h
  refine .inr ⟨by omega,?_⟩
  rw[← h]
  congr 1
  simp
  omega
theorem si {zs xs:LI}(h:zs.length=xs.length):gg 0 zs xs=zs:=by
 simp[gg,h]
 rw[← h];simp
theorem Rel.over {F:Fra}{G:Gh}{A:AS}{ts:Array Value}{cst:List (Array Value)}{w w':World}(R:Rel F G A ts cst w){b i:Nat}{zs:LI}{cur cur':Array Value}{el:TypeId}
  (ho:G.ow i=some (b,0)) (hwr:Wrote w w' b) (hh:w.heap[b]?=some (.cells cur el (0,0))) (hh':w'.heap[b]?=some (.cells cur' el (0,0))) (hsz:cur'.size=cur.size)
  (hlow:∀(k:Nat) (z:Int),zs[k]?=some z→cur'[k]?=some (Value.int .u8 z)∧bC .u8 z) (hhigh:∀q:Nat,zs.length≤q→cur'[q]?=cur[q]?) (hg:dz zs.length (A.coll (C.longs i))=true):Rel F G (A.map (C.over i zs)) ts cst w':=by
 have R0:=R
 rw[← AS.upto_eq (gH _) hg] at R0
 have e:(A.map (C.upto (C.longs i) (dz zs.length))).map (C.over i zs)=A.map (C.over i zs):=by rw[AS.upto_eq (gH _) hg]
 have hk:=(Goes.exWrote R.gh ho hwr).kept
 have key:∀c v,Rc G w c v→dz zs.length (c.longs i)=true→Rc G w' (c.over i zs) v:=by
  intro c v hc hl
  have hcell:=hc.cell
  have go:=Goes.exWrote R.gh ho hwr
  cases c with
  |lst e t xs own=>
   have h0:=hc.beyond R.gh ho hwr hh hh' hsz (fun t2 lo2 xs2 i2 j2 cap2 hform _=>by rcases hform with ⟨h,_⟩ | ⟨_,h⟩ <;> cases h)
   simp only[C.over]
   obtain ⟨A',cap,e0,h1,h2,h3,h4⟩:=h0
   refine ⟨A',cap,e0,h1,h2,h3,?_⟩
   cases hb:own == i with
   |true=>exact .inl rfl
   |false=>exact h4
  |ex e t lo xs a b'=>
   simp only[C.over]
   cases hn : !(a == i)&&!(b' == i) with
   |true=>
    simp only[cond_true]
    simp only[zA,Bool.not_eq_true',beq_eq_false_iff_ne] at hn
    exact hc.goes go (fun _ e=>by cases e) (fun j e=>by cases e;simp[C.hasOwn,hn.1,hn.2])
   |false=>
    simp only[cond_false]
    split
    ·rename_i ht
     subst ht
     simp only
     cases hy:(a == i)&&(b' == i) with
     |true=>
      simp only[cond_true]
      simp only[zA,beq_iff_eq] at hy
      obtain ⟨rfl,rfl⟩:=hy
      have hlen:=nL lo zs xs
      rcases hc with ⟨rfl,rfl,e0⟩ | ⟨bl,cap,e0,⟨n1,n2,ho2⟩,cu,el2,hb2,h1,h2,h3,h4⟩
      ·exact .inl ⟨rfl,zF hlen,e0⟩
      ·have hbb:bl=b:=by rcases ho2 with h | h <;> (rw[ho] at h;cases h;rfl)
       subst hbb
       rw[hh] at hb2;cases hb2
       have hlen':List.length (α:=(Ty.int .u8).den) (gg lo zs xs)=xs.length:=hlen
       refine .inr ⟨bl,cap,by rw[hlen'];exact e0,⟨n1,n2,ho2⟩,cur',el,hh',hsz.trans h1,by rw[hlen'];exact h2,h3,fun k x hx=>?_⟩
       rcases FH lo zs xs k x hx with ⟨hlt,hz⟩ | ⟨hge,hxk⟩
       ·obtain ⟨g1,g2⟩:=hlow _ _ hz
        refine ⟨[.int .u8 x],⟨rfl,g2⟩,fun q u hq=>?_⟩
        cases q with
        |succ q=>simp at hq
        |zero=>
         simp only[List.getElem?_cons_zero,zC] at hq
         subst hq
         simpa [Ty.size] using g1
       ·obtain ⟨c,hcr,hu⟩:=h4 k x hxk
        refine ⟨c,Rt.kept hk _ _ _ hcr,fun q u hq=>?_⟩
        have hqs:q<1:=by have:=Rt.len _ _ _ hcr;rw[show (Ty.int .u8).size=1 from rfl] at this;rw[← this];exact (List.getElem?_eq_some_iff.1 hq).1
        have:=hu q u hq
        rw[hhigh _ (by simp only[Ty.size];omega)]
        exact this
     |false=>
      simp only[cond_false]
      simp only[C.longs,hn,hy,Bool.or_self,cond_false,dz,Bool.and_true,zB] at hl
      cases hlo:Nat.beq lo 0 with
      |false=>exact hcell
      |true=>
       simp only[cond_true]
       have hlo:=Nat.eq_of_beq_eq_true hlo
       subst hlo
       rcases hc with ⟨_,rfl,e0⟩ | ⟨bl,cap,e0,⟨n1,n2,ho2⟩,cu,el2,hb2,h1,h2,h3,h4⟩
       ·have:zs=[]:=zF (by simpa using hl)
        subst this
        exact .inl ⟨rfl,rfl,e0⟩
       ·have hdl:zs.length+(List.drop zs.length xs).length=0+xs.length:=by simp;omega
        by_cases hbb:bl=b
        ·subst hbb
         rw[hh] at hb2;cases hb2
         refine .inr ⟨bl,cap,by rw[hdl];exact e0,⟨n1,n2,ho2⟩,cur',el,hh',hsz.trans h1,by rw[hdl];exact h2,h3,fun k x hx=>?_⟩
         rw[List.getElem?_drop] at hx
         obtain ⟨c,hcr,hu⟩:=h4 _ x hx
         refine ⟨c,Rt.kept hk _ _ _ hcr,fun q u hq=>?_⟩
         have:=hu q u hq
         rw[hhigh _ (by simp only[Ty.size];omega)]
         rw[Nat.zero_add] at this
         exact this
        ·refine .inr ⟨bl,cap,by rw[hdl];exact e0,⟨n1,n2,ho2⟩,cu,el2,(hwr.other bl hbb).trans hb2,h1,by rw[hdl];exact h2,h3,fun k x hx=>?_⟩
         rw[List.getElem?_drop] at hx
         obtain ⟨c,hcr,hu⟩:=h4 _ x hx
         refine ⟨c,Rt.kept hk _ _ _ hcr,fun q u hq=>?_⟩
         have:=hu q u hq
         rw[Nat.zero_add] at this
         exact this
    ·exact hcell
  |eel t' k' x a b'=>
   simp only[C.over]
   cases hn : !(a == i)&&!(b' == i) with
   |true=>
    simp only[cond_true]
    simp only[zA,Bool.not_eq_true',beq_eq_false_iff_ne] at hn
    exact hc.goes go (fun _ e=>by cases e) (fun j e=>by cases e;simp[C.hasOwn,hn.1,hn.2])
   |false=>exact hcell
  |ro t x=>exact hc.goes go (fun _ e=>by cases e) (fun _ _=>rfl)
  |fn f m caps=>exact hc.goes go (fun _ e=>by cases e) (fun _ _=>rfl)
  |ifc T t x=>exact hc.goes go (fun _ e=>by cases e) (fun _ _=>rfl)
  |pin v0 t x=>exact hc.goes go (fun _ e=>by cases e) (fun _ _=>rfl)
  |_=>exact hc
 have R1:=R.exWrote ho hwr (f:=fun c=>if dz zs.length (c.longs i)=true then c.over i zs else .top) (fun c v hc=>by
  split
  ·rename_i h;exact key c v hc h
  ·exact hc.cell) (fun x=>rfl)
 have e2:A.map (fun c=>if dz zs.length (c.longs i)=true then c.over i zs else .top)=A.map (C.over i zs):=by
  rw[← e]
  conv=>lhs;rw[← AS.upto_eq (gH _) hg]
  obtain ⟨tm,stk,ob⟩:=A
  have hf:∀c:C,(if dz zs.length ((c.upto (C.longs i) (dz zs.length)).longs i)=true then (c.upto (C.longs i) (dz zs.length)).over i zs else .top)=(c.upto (C.longs i) (dz zs.length)).over i zs:=by
   intro c
   unfold C.upto
   cases h:dz zs.length (c.longs i) with
   |true=>simp[h]
   |false=>simp[C.longs,dz,C.over]
  have hcs:∀cs:List C,(cs.map (C.upto (C.longs i) (dz zs.length))).map (fun c=>if dz zs.length (c.longs i)=true then c.over i zs else .top)=(cs.map (C.upto (C.longs i) (dz zs.length))).map (C.over i zs):=by
   intro cs
   rw[List.map_map,List.map_map]
   exact List.map_congr_left fun c _=>hf c
  have hv:∀v:V,(v.map (C.upto (C.longs i) (dz zs.length))).map (fun c=>if dz zs.length (c.longs i)=true then c.over i zs else .top)=(v.map (C.upto (C.longs i) (dz zs.length))).map (C.over i zs):=by
   intro v
   cases v with
   |one c=>simp only[V.map];rw[hf c]
   |agg cs=>simp only[V.map];rw[hcs cs]
   |tup ps=>
    simp only[V.map,List.map_map]
    congr 1
    refine List.map_congr_left fun p _=>?_
    simp only[Function.comp_apply]
    rw[hcs p.2]
   |any=>rfl
  simp only[AS.map,List.map_map,AS.mk.injEq]
  refine ⟨List.map_congr_left fun v _=>hv v,List.map_congr_left fun l _=>?_,List.map_congr_left fun o _=>?_⟩
  ·simp only[Function.comp_apply,List.map_map]
   exact List.map_congr_left fun v _=>hv v
  ·cases o with
   |none=>rfl
   |some cs=>simp only[Function.comp_apply,Option.map_some];rw[hcs cs]
 rw[e2] at R1
 exact R1
abbrev RS:Io:=⟨[],[],[],[.dat .bool false false],none⟩
def Io.runX (tt:TT)(hd:Hd)(okDraw:Dr)(lp:Lp)(io:Io)(fn:Func)(A0:AS):Option io.Res:=
 match fn.body with
 |some c=>ev tt hd okDraw lp 0 (li fn) c (li fn) [] A0 (io.fin tt fn)
 |none=>none
theorem EM {P:Program}{tt:TT}(htt:cm P tt)(hm:P.follows .mixedOrders=true){hd:Hd}(hh:lJ P hd){okDraw:Dr}(hdr:km P tt okDraw){f:Nat}{fn:Func}(hf:P.funcs[f]?=some fn){lp:Lp}
  (hlp:LpsOk P 0 lp (DY fn) 0) {r:Bool} {F:Fra} {G:Gh} {A:AS} {ts:Array Value} {cst:List (Array Value)} {w:World} {vals:Array Value} {id:Nat} (hid:∀d,F.mu0 (id / 2+d)=none) (Rl:Rel F G A ts cst w)
  {ow:List (Nat×Nat)} {A0:AS} (R0:Rel (ir G w [] ow) (fq G [] ow) A0 (vals++Array.replicate (fn.ntmps - vals.size) undef) [] w)
  (hrun:Io.runX tt hd okDraw lp RS fn A0=some (.ret ((r,()),()))) {R':Type} {K:Oc→AS→Option R'} {rr:R'} (hK:K (.ret (.one (.bool r)) (some [])) (A.map (C.strip (ow.map (·.2)) []))=some rr):
  Calls P f vals w fun e w'=>∃G' A' v u,Rel F G' A' ts cst w'∧Rv G' w' v u∧
   ((e=.returned u∧∃ks,Unt G G' (I0 ks) w w'∧K (.ret v ks) A'=some rr)∨(e=.panicked [{ v:=u,recovered:=false }]∧K (.pan v) A'=some rr)):=by
 obtain ⟨c,hc⟩:∃c,fn.body=some c:=by
  cases hb:fn.body with
  |none=>simp only[Io.runX,hb] at hrun;cases hrun
  |some c=>exact ⟨c,rfl⟩
 simp only[Io.runX,hc] at hrun
 have hfc:bA fn=c:=by unfold bA;rw[hc]
 have hkb:∀d,(ir G w [] ow).mu0 (0+d)=none:=fun d=>rfl
 have hl:=hlp.all
 unfold DY at hl
 rw[hfc] at hl
 refine calls_of_wp hf hc (fu htt hm hh hdr hkb c hl hrun R0 ?_)
 intro ex A' G' a' w' Re hdf hk
 have fin:iq tt RS fn A'=some (.ret ((r,()),()))→∃v,(results fn a'.tmps).run P w'=.ok v w'∧(∃G' A' v_1 u,Rel F G' A' ts cst w'∧Rv G' w' v_1 u∧
   ((Ending.returned v=.returned u∧∃ks,Unt G G' (I0 ks) w w'∧K (.ret v_1 ks) A'=some rr)∨(Ending.returned v=.panicked [{ v:=u,recovered:=false }]∧K (.pan v_1) A'=some rr))):=by
  intro hfin
  unfold iq at hfin
  split at hfin
  ·rename_i r0 β g1
   split at hfin
   ·rename_i o β' g2
    cases hnd:bj ((fS _root_.id RS.res (fn.results.toList.map (vH tt A')) 0++lu A'.ob β' β' (RS.obs++RS.nobs) 0).map (·.2)) with
    |false=>rw[hnd] at hfin;cases hfin
    |true=>
     rw[hnd] at hfin
     simp only[cond_true,zC,Out.ret.injEq,zD] at hfin
     obtain ⟨us,hres,hus⟩:=sf htt Re fn (oS g1)
     obtain ⟨_,g3,_⟩:=ke g1 hus
     obtain ⟨u,us',rfl,⟨hrt,_,hone⟩,hnil⟩:=g3 β (.refl _)
     have hnil:us'=[]:=hnil
     subst hnil
     have hr0:r0.1=r:=by rw[hfin.1]
     rw[hr0] at hrt
     have hu:u.cells = #[u]:=by
      have:=hone rfl
      cases u <;> first | rfl | cases this
     rw[hu] at hrt
     have hub:u=.bool r:=by
      have h1:[u]=[Value.bool r]:=hrt
      simpa using h1
     subst hub
     refine ⟨_,hres,?_⟩
     have hgo:=vv (I:=ow.map (·.2)) (OW:=[]) (base:=id / 2) (nn:=0) (mn:=fun _=>none) Rl.gh Re.gh (fun p hp=>List.mem_map.2 ⟨p,hp,rfl⟩) rfl hid (fun _ _ h=>by cases h) (fun _ _ _ h=>by cases h)
     have hval:∀c v,Rc G w c v→Rc (bY G G' (ow.map (·.2)) [] (id / 2) 0 fun _=>none) w' (c.strip (ow.map (·.2)) []) v:=fun c v hc=>
      rt (base:=id / 2) (nn:=0) (mn:=fun _=>none) Rl.gh Re.gh (fun p hp=>List.mem_map.2 ⟨p,hp,rfl⟩) (OW:=[]) (fun p hp=>by cases hp) hc
     have hheap:∀key b,G.mu key=some b→(bY G G' (ow.map (·.2)) [] (id / 2) 0 fun _=>none).mu key=some b∧w'.heap[b]?=w.heap[b]?:=fun key b hb=>
      ⟨by simp only[bY];rw[if_neg (by omega)];exact hb,lq Rl.gh Re.gh hb fun j hj=>by
       obtain ⟨k,hk,_⟩:=eK hj
       simp[Bn.at] at hk⟩
     refine ⟨_,_,.one (.bool r),.bool r,Rl.map hval (rH _ _) hheap hgo,rfl,.inl ⟨rfl,some [],⟨fun b o hs=>⟨Re.gh.sub b o hs,Re.gh.keep b o hs⟩,fun key b _ hb=>hheap key b hb⟩,hK⟩⟩
   ·cases hfin
  ·cases hfin
 cases ex with
 |normal=>exact ⟨hdf,fin hk⟩
 |ret=>exact ⟨hdf,fin hk⟩
 |exit i=>cases hk
 |panic v=>
  simp only[Io.fin] at hk
  split at hk
  ·rename_i x _;exact nomatch x
  ·cases hk
abbrev Tf:Code:=bA Tryz.f48
abbrev SP:Code:=(bI Tryz.f48 0).2.1
def SH:Code→Code
 |.block _ b=>b
 |c=>c
abbrev NT:Array Oper:=fI (jb Tf)
abbrev NU:Array Oper:=fI (jb (jb SP))
abbrev J7:Array Oper:=fI (SH (jb (gE SP)))
abbrev NV:Array Oper:=fI (gE (gE SP))
abbrev Om:Ty:=.int .u8
abbrev ID (n:Nat):List V:=List.replicate n .any
abbrev GV (xs:LI):V:=.one (.ex 5 Om 0 xs 1 1)
def jQ (k:Nat)(xs:LI):LI:=(xs.take k).map ff++xs.drop k
theorem DS (k:Nat)(xs:LI):(jQ k xs).length=xs.length:=by simp[jQ];omega
theorem N1 {k:Nat}{xs:LI}(h:k<xs.length):(jQ k xs).getD k 0=xs[k]:=by
 unfold jQ
 rw[List.getD_eq_getElem?_getD,List.getElem?_append_right (by simp;omega)]
 have:k - (List.map ff (List.take k xs)).length=0:=by simp;omega
 rw[this,List.getElem?_drop]
 simp[h]
theorem N2 {k:Nat}{xs:LI}(h:k<xs.length):(jQ k xs).set k (ff xs[k])=jQ (k+1) xs:=by
 unfold jQ
 rw[List.set_append_right _ _ (by simp;omega)]
 have:k - (List.map ff (List.take k xs)).length=0:=by simp;omega
 rw[this,zE h,List.set_cons_zero,List.take_succ_eq_append_getElem h]
 simp only[List.map_append,zL,List.map_nil,zK,zM]
def SB (ys:LI)(k:Int):AS:=⟨[GV ys,.any,.one (.int .i64 k)]++ID 14,[],[]⟩
abbrev NS (ys:LI)(k:Int):Int:=((0:Nat):Int)+(ys.length:Int)
def RA (ys:LI)(k:Int):AS:=⟨[GV ys,.any,.one (.int .i64 k),.one (.int .i64 k),GV ys,.one (.int .i64 (NS ys k)),.one (.bool (decide (k<NS ys k)))]++ID 10,[],[]⟩
theorem S4 (ys:LI):uO tt 0 NT [0] ⟨GV ys::ID 16,[],[]⟩=some (SB ys 0):=by kernel_rfl
theorem S5 (ys:LI)(k:Int):uO tt 0 NU [0,1,2,3] (SB ys k)=some (RA ys k):=by kernel_rfl
abbrev S6 (ys:LI)(k:Nat):V:=.one (.eel Om k (ys.getD k 0) 1 1)
def RB (ys:LI)(k:Nat):AS:=⟨[GV ys,.any,.one (.int .i64 k),.one (.int .i64 k),GV ys,.one (.int .i64 (NS ys k)),.one (.bool (decide ((k:Int)<NS ys k))),.any,.any,
 GV ys,.one (.int .i64 k),GV ys,.one (.int .i64 k),S6 ys k,.one (.int .u8 (ys.getD k 0)),.one (.int .u8 (ff (ys.getD k 0))),S6 ys k],[],[]⟩
theorem Te (ys:LI)(k:Nat):uO tt 0 J7 [0,1,2,3,4,5,6,7] (RA ys k)=bif decide (((0:Nat):Int)≤(k:Int))&&decide ((k:Int)<((0:Nat):Int)+(ys.length:Int)) then some (RB ys k) else none:=by
 have h:uO tt 0 J7 [0,1,2,3,4,5,6,7] (RA ys k)=bif decide (((0:Nat):Int)≤(k:Int))&&decide ((k:Int)<((0:Nat):Int)+(ys.length:Int)) then (bif decide (((0:Nat):Int)≤(k:Int))&&decide ((k:Int)<((0:Nat):Int)+(ys.length:Int)) then some (RB ys k) else none) else none:=by kernel_rfl
 rw[h]
 cases (decide (((0:Nat):Int)≤(k:Int))&&decide ((k:Int)<((0:Nat):Int)+(ys.length:Int))) <;> rfl
def S7 (ys:LI)(k:Nat):AS:=((RB ys k).map (C.updEx 1 Om k (ff (ys.getD k 0)))).put none (.tup [])
theorem Td (ys:LI)(k:Nat):uO tt 0 NV [0,1,2] (S7 ys k)=some ⟨[GV (nM 0 k ys (ff (ys.getD k 0))),.any,.one (.int .i64 (IntKind.wrap .i64 ((k:Int)+1))),.one (.int .i64 k),GV (nM 0 k ys (ff (ys.getD k 0))),.one (.int .i64 (NS ys k)),.one (.bool (decide ((k:Int)<NS ys k))),
 .one (.int .i64 k),.one (.int .i64 (IntKind.wrap .i64 ((k:Int)+1))),GV (nM 0 k ys (ff (ys.getD k 0))),.one (.int .i64 k),GV (nM 0 k ys (ff (ys.getD k 0))),.one (.int .i64 k),.one .top,.one (.int .u8 (ys.getD k 0)),.one (.int .u8 (ff (ys.getD k 0))),.one .top],[],[]⟩:=by kernel_rfl
def SD (w:World)(b:Nat):Nat→Nat→Prop:=fun b' o=>b'≠b∧∃v,w.cell? ⟨b',o,none⟩=some v
def DK (w:World)(b:Nat):Fra:=⟨w,fun b'=>b'=b,SD w b,fun _=>none⟩
def rC (w:World)(b:Nat):Gh:=⟨SD w b,fun _=>none,fun j=>if j=1 then some (b,0) else none⟩
theorem Qk {w:World}{b:Nat}(hb:b<w.heap.size)(ht:lE (SD w b) w):GhOk (DK w b) (rC w b) w where
 mu:=fun _ _ h=>by cases h
 muI:=fun _ _ _ h=>by cases h
 ow:=fun i b' l h=>by
  simp only[rC] at h
  split at h
  ·cases h;exact ⟨fun _ _ h=>h.1 rfl,.inr rfl,hb,fun _ h=>by cases h⟩
  ·cases h
 owI:=fun i j b' l l' h h'=>by
  simp only[rC] at h h'
  by_cases e1:i=1
  ·by_cases e2:j=1
   ·rw[e1,e2]
   ·rw[if_neg e2] at h';cases h'
  ·rw[if_neg e1] at h;cases h
 sB:=fun b' o h=>by
  obtain ⟨_,v,h⟩:=h
  unfold World.cell? at h
  split at h
  ·rename_i e
   exact (Array.getElem?_eq_some_iff.1 e).1
  ·cases h
 fr:=⟨rfl,rfl,rfl,Nat.le_refl _,fun _ _ _=>rfl⟩
 sub:=fun _ _ h=>h
 sup:=fun _ _ h=>.inl h
 keep:=fun _ _ _=>rfl
 fix_:=fun _ _ h=>by cases h
 tab:=ht
theorem Pa {w:World}{b:Nat}{o:Obj}(h:w.heap[b]?=some o):b<w.heap.size:=(Array.getElem?_eq_some_iff.1 h).1
theorem DT (w:World)(xs:LI)(cap b:Nat)(cur:Array Value)(el:TypeId)(hh:w.heap[b]?=some (.cells cur el (0,0)))(hcs:cur.size=cap)(ht:lE (SD w b) w)(hle:xs.length≤cap)(hcap:cap≤maxLen)
  (hx:∀(k:Nat) (x:Int),xs[k]?=some x→bC .u8 x∧cur[k]?=some (Value.int .u8 x)):
  Calls prog 48 #[.slice (some ⟨b,0,none⟩) xs.length cap] w fun e w'=>e=.returned (.tuple #[])∧∃cur',Wrote w w' b∧w'.heap[b]?=some (.cells cur' el (0,0))∧cur'.size=cur.size∧
   (∀(k:Nat) (z:Int),(xs.map ff)[k]?=some z→cur'[k]?=some (Value.int .u8 z)∧bC .u8 z)∧∀q:Nat,xs.length≤q→cur'[q]?=cur[q]?:=by
 have htt:=eX Tryz.prog 400
 have hc:(Tryz.f48).body=some (.seq (.region 0 NT false) (.block 0 (.loop (.seq (.seq (.region 1 NU false) (.cond (.tmp 6) .skip (.exit 0))) (.seq (.block 1 (.region 3 J7 false)) (.region 2 NV false)))))):=by kernel_rfl
 refine calls_of_wp (P:=prog) (fn:=Tryz.f48) (by kernel_rfl) hc ?_
 have ho:(rC w b).ow 1=some (b,0):=rfl
 have R0:Rel (DK w b) (rC w b) ⟨GV xs::ID 16,[],[]⟩ (#[Value.slice (some ⟨b,0,none⟩) xs.length cap]++Array.replicate ((Tryz.f48).ntmps - 1) undef) [] w:=by
  refine ⟨?_,trivial,fun k cs hk=>by simp at hk,Qk (Pa hh) ht⟩
  rw[show (Tryz.f48).ntmps - 1=16 by kernel_rfl,Array.toList_append,Array.toList_replicate]
  refine ⟨.inr ⟨b,cap,by rw[Nat.zero_add],⟨by decide,by decide,.inl ho⟩,cur,el,hh,by rw[hcs];simp[Ty.size],by rw[Nat.zero_add];exact hle,hcap,fun k x hk=>?_⟩,All2.replicate (R:=Rv (rC w b) w) (a:=.any) (b:=undef) trivial 16⟩
  obtain ⟨h1,h2⟩:=hx k x hk
  refine ⟨[.int .u8 x],⟨rfl,h1⟩,fun q u hq=>?_⟩
  cases q with
  |succ q=>simp at hq
  |zero=>
   simp only[List.getElem?_cons_zero,zC] at hq
   subst hq
   simpa [Ty.size] using h2
 have hxl:(xs.length:Int)≤9223372036854775807:=by rw[aG] at hcap;omega
 refine wp_seq (wp_region ?_)
 rw[show List.range NT.size=[0]++[] by kernel_rfl]
 refine eY htt (S4 xs) R0 fun a1 R1 hd1=>?_
 show (Code.block 0 _).wp prog _ a1 w
 refine wp_block (wp_loop_ghost (fun m a' w'=>∃k,m=xs.length - k∧k≤xs.length∧Rel (DK w b) (rC w b) (SB (jQ k xs) (k:Int)) a'.tmps [] w'∧a'.defers=[]∧
  ∃cu:Array Value,Wrote w w' b∧w'.heap[b]?=some (.cells cu el (0,0))∧cu.size=cur.size∧∀q:Nat,xs.length≤q→cu[q]?=cur[q]?) (xs.length - 0) ⟨0,rfl,Nat.zero_le _,R1,hd1,cur,⟨rfl,rfl,rfl,rfl,fun _ _=>rfl⟩,hh,rfl,fun _ _=>rfl⟩ ?_)
 rintro m a w1 ⟨k,rfl,hk,R,hd,cu,hwr,hcu,hcus,hhigh⟩
 refine wp_seq (wp_seq (wp_region ?_))
 rw[show List.range NU.size=[0,1,2,3]++[] by kernel_rfl]
 refine eY htt (S5 _ _) R fun a2 R2 hd2=>?_
 show (Code.cond _ _ _).wp prog _ a2 w1
 refine wp_cond (t:=decide ((k:Int)<NS (jQ k xs) k)) (R2.opd (.tmp 6)) ?_
 have hT:=DS k xs
 by_cases hlt:k<xs.length
 ·have e:decide ((k:Int)<NS (jQ k xs) k)=true:=by simp only[NS,hT,zB];omega
  rw[e]
  refine wp_skip ?_
  show (Code.seq _ _).wp prog _ a2 w1
  refine wp_seq (wp_block (wp_region ?_))
  rw[show List.range J7.size=[0,1,2,3,4,5,6,7]++[8] by kernel_rfl]
  refine eY htt ((Te _ _).trans (aa (by simp only[hT,zA,zB];omega) _ _)) R2 fun a3 R3 hd3=>?_
  obtain ⟨p0,f0,ho8⟩:∃pos after,J7[8]?=some { dst:=none,op:=.store 5 (.tmp 16) (.tmp 15),type:=0,pos:=pos,after:=after,guard:=none }:=⟨_,_,rfl⟩
  simp only[wpOps,ho8]
  rw[if_pos (by rfl)]
  refine .inl ?_
  have hel:Rc (rC w b) w1 (.eel Om k ((jQ k xs).getD k 0) 1 1) (a3.eval (.tmp 16)):=R3.opd (.tmp 16)
  have hyv:Rv (rC w b) w1 (.one (.int .u8 (ff ((jQ k xs).getD k 0)))) (a3.eval (.tmp 15)):=R3.opd (.tmp 15)
  have hyt:Rt (rC w b).S w1 Om (ff ((jQ k xs).getD k 0)) (a3.eval (.tmp 15)).cells.toList:=by
   obtain ⟨e1,e2⟩:=hyv
   rw[e1]
   exact ⟨rfl,e2⟩
  obtain ⟨b',cu1,el1,cu2,g1,g2,g3,g4,g5,g6⟩:=wD (P:=prog) (t:=5) htt (by kernel_rfl) hel hyt
  rw[ho] at g1
  cases g1
  rw[hcu] at g2
  cases g2
  unfold Oper.wp
  rw[g6 _ rfl]
  have hwr2:=Wrote.setRow w1 b cu2
  have R4:Rel (DK w b) (rC w b) (S7 (jQ k xs) k) a3.tmps [] (w1.setRow b cu2):=R3.updEx ho hwr2 hcu g3 g4 g5 hyt
  simp only[Oper.upon]
  show (Code.region 2 NV false).wp prog _ a3 _
  refine wp_region ?_
  rw[show List.range NV.size=[0,1,2]++[] by kernel_rfl]
  refine eY htt (Td _ _) R4 fun a4 R5 hd5=>?_
  refine ⟨xs.length - (k+1),by omega,k+1,rfl,hlt,?_,hd5.trans (hd3.trans (hd2.trans hd)),cu2,⟨hwr2.os.trans hwr.os,hwr2.tape.trans hwr.tape,hwr2.output.trans hwr.output,hwr2.size.trans hwr.size,fun q hq=>(hwr2.other q hq).trans (hwr.other q hq)⟩,g3,?_,?_⟩
  ·have R6:Rel (DK w b) (rC w b) ⟨vm 5 0 _,[],[]⟩ a4.tmps [] (w1.setRow b cu2):=⟨lj 5 0 R5.tm,R5.stk,R5.ob,R5.gh⟩
   have e1:nM 0 k (jQ k xs) (ff ((jQ k xs).getD k 0))=jQ (k+1) xs:=by
    rw[N1 hlt]
    exact N2 hlt
   rw[e1] at R6
   have e2:IntKind.wrap .i64 ((k:Int)+1)=((k+1:Nat):Int):=bb hlt (by rw[aG];omega)
   rw[e2] at R6
   exact R6
  ·have:=congrArg Array.size g4
   have g5':k*1+1≤cu.size:=g5
   obtain ⟨e1,e2⟩:=hyv
   rw[← this,e1]
   simp[Value.cells,Ty.size]
   omega
  ·intro q hq
   obtain ⟨e1,e2⟩:=hyv
   rw[← hhigh q hq,← g4,e1,← Array.getElem?_toList,← Array.getElem?_toList]
   have g5':k*1+1≤cu.size:=g5
   simp only[Value.cells,Ty.size]
   rw[zK,List.getElem?_append_right (by simp;omega),List.getElem?_append_right (by simp;omega),List.getElem?_drop]
   congr 1
   simp
   omega
 ·have hkl:k=xs.length:=by omega
  have e:decide ((k:Int)<NS (jQ k xs) k)=false:=by simp only[NS,hT,decide_eq_false_iff_not];omega
  rw[e]
  refine wp_exit ?_
  simp only[Exit.then,Exit.inBlock,if_true]
  refine ⟨hd2.trans hd,.tuple #[],by kernel_rfl,rfl,cu,hwr,hcu,hcus,fun q z hz=>?_,hhigh⟩
  have he:=R.get 0
  have hex:Rc (rC w b) w1 (.ex 5 Om 0 (jQ k xs) 1 1) (a.tmps.getD 0 undef):=he
  have hz':(jQ k xs)[q]?=some z:=by
   rw[hkl]
   unfold jQ
   rw[List.take_length,List.drop_length,List.append_nil]
   exact hz
  rcases hex with ⟨_,h0,_⟩ | ⟨b',cap',_,⟨_,_,ho'⟩,cu',el',hcu',_,_,_,h4⟩
  ·rw[h0] at hz';simp at hz'
  ·have hbb:b'=b:=by rcases ho' with h | h <;> (rw[ho] at h;cases h;rfl)
   subst hbb
   rw[hcu] at hcu'
   cases hcu'
   obtain ⟨c,⟨rfl,hin⟩,hu⟩:=h4 q z hz'
   have:=hu 0 _ rfl
   exact ⟨by simpa [Ty.size] using this,hin⟩
theorem Kb (w:World)(S:Nat→Nat→Prop)(hS:∀b o,S b o→b<w.heap.size)(ht:lE S w):Calls prog 48 #[.slice none 0 0] w fun e w'=>e=.returned (.tuple #[])∧w'=w:=by
 have htt:=eX Tryz.prog 400
 have hc:(Tryz.f48).body=some (.seq (.region 0 NT false) (.block 0 (.loop (.seq (.seq (.region 1 NU false) (.cond (.tmp 6) .skip (.exit 0))) (.seq (.block 1 (.region 3 J7 false)) (.region 2 NV false)))))):=by kernel_rfl
 refine calls_of_wp (P:=prog) (fn:=Tryz.f48) (by kernel_rfl) hc ?_
 have hg0:GhOk (nw ⟨S,fun _=>none,fun _=>none⟩ w) (jR ⟨S,fun _=>none,fun _=>none⟩) w:=
  {mu:=fun _ _ h=>by cases h
   muI:=fun _ _ _ h=>by cases h
   ow:=fun _ _ _ h=>by cases h
   owI:=fun _ _ _ _ _ h=>by cases h
   sB:=fun b o h=>by rcases h with h | ⟨_,h⟩;exact hS b o h;cases h
   fr:=⟨rfl,rfl,rfl,Nat.le_refl _,fun _ _ _=>rfl⟩
   sub:=fun _ _ h=>h
   sup:=fun _ _ h=>.inl h
   keep:=fun _ _ _=>rfl
   fix_:=fun _ _ h=>by cases h
   tab:=fun g i hg hi=>⟨.inl (ht g i hg hi).1,(ht g i hg hi).2⟩ }
 have R0:Rel (nw ⟨S,fun _=>none,fun _=>none⟩ w) (jR ⟨S,fun _=>none,fun _=>none⟩) ⟨GV []::ID 16,[],[]⟩ (#[Value.slice none 0 0]++Array.replicate ((Tryz.f48).ntmps - 1) undef) [] w:=by
  refine ⟨?_,trivial,fun k cs hk=>by simp at hk,hg0⟩
  rw[show (Tryz.f48).ntmps - 1=16 by kernel_rfl,Array.toList_append,Array.toList_replicate]
  exact ⟨.inl ⟨rfl,rfl,rfl⟩,All2.replicate (a:=V.any) (b:=undef) trivial 16⟩
 refine wp_seq (wp_region ?_)
 rw[show List.range NT.size=[0]++[] by kernel_rfl]
 refine eY htt (S4 []) R0 fun a1 R1 hd1=>?_
 show (Code.block 0 _).wp prog _ a1 w
 refine wp_block (wp_loop_ghost (fun _ a' w'=>Rel (nw ⟨S,fun _=>none,fun _=>none⟩ w) (jR ⟨S,fun _=>none,fun _=>none⟩) (SB [] 0) a'.tmps [] w'∧a'.defers=[]∧w'=w) 0 ⟨R1,hd1,rfl⟩ ?_)
 rintro m a w1 ⟨R,hd,rfl⟩
 refine wp_seq (wp_seq (wp_region ?_))
 rw[show List.range NU.size=[0,1,2,3]++[] by kernel_rfl]
 refine eY htt (S5 _ _) R fun a2 R2 hd2=>?_
 show (Code.cond _ _ _).wp prog _ a2 _
 refine wp_cond (t:=false) (R2.opd (.tmp 6)) ?_
 refine wp_exit ?_
 simp only[Exit.then,Exit.inBlock,if_true]
 exact ⟨hd2.trans hd,.tuple #[],by kernel_rfl,rfl,rfl⟩
theorem Grown.refl (w:World):Grown w w:=⟨rfl,rfl,rfl,Nat.le_refl _,fun _ _=>rfl⟩
theorem AS.map_noOp {F:Fra}{G:Gh}{A:AS}{ts:Array Value}{cst:List (Array Value)}{w:World}(R:Rel F G A ts cst w)(i:Nat):Rel F G (A.map (C.over i [])) ts cst w:=by
 refine R.map (fun c v h=>?_) (fun _=>rfl) (fun _ _ h=>⟨h,rfl⟩) R.gh
 have hcell:=h.cell
 cases c with
 |lst e t xs own=>
  obtain ⟨A',cap,e0,h1,h2,h3,h4⟩:=h
  refine ⟨A',cap,e0,h1,h2,h3,?_⟩
  cases hb:own == i with
  |true=>exact .inl rfl
  |false=>exact h4
 |ex e t lo xs a b=>
  simp only[C.over]
  cases hn : !(a == i)&&!(b == i) with
  |true=>exact h
  |false=>
   simp only[cond_false]
   split
   ·rename_i ht
    subst ht
    simp only
    cases hy:(a == i)&&(b == i) with
    |true=>
     have:gg lo [] xs=xs:=by simp[gg]
     rw[this]
     exact h
    |false=>
     simp only[cond_false]
     cases hlo:Nat.beq lo 0 with
     |false=>exact hcell
     |true=>
      have hlo:=Nat.eq_of_beq_eq_true hlo
      subst hlo
      exact h
   ·exact hcell
 |eel t k x a b=>
  simp only[C.over]
  cases hn : !(a == i)&&!(b == i) with
  |true=>exact h
  |false=>exact hcell
 |_=>exact h
theorem PG:HcOk prog 48 Bl:=by
 intro R args id A K r F G ts cst w vals hid hrun Rl hv
 refine ⟨⟨Tryz.f48,by kernel_rfl,by kernel_rfl,by kernel_rfl⟩,?_⟩
 unfold Bl at hrun
 split at hrun
 ·rename_i e t lo xs i j
  cases hz:Nat.beq i j&&Nat.beq lo 0 with
  |false=>rw[hz] at hrun;cases hrun
  |true=>
   rw[hz] at hrun
   simp only[cond_true] at hrun
   simp only[zA] at hz
   have hij:=Nat.eq_of_beq_eq_true hz.1
   have hlo:=Nat.eq_of_beq_eq_true hz.2
   subst hij hlo
   split at hrun
   ·rename_i ht
    subst ht
    simp only at hrun
    cases hg:dz xs.length (A.coll (C.longs i)) with
    |false=>rw[hg] at hrun;cases hrun
    |true=>
     rw[hg] at hrun
     simp only[cond_true,AS.force_eq] at hrun
     obtain ⟨v,rfl⟩:∃v,vals = #[v]:=by
      have:=hv.length
      obtain ⟨v,hv⟩:∃v,vals.toList=[v]:=by
       cases h:vals.toList with
       |nil=>rw[h] at this;cases this
       |cons v l=>cases l with
        |nil=>exact ⟨v,rfl⟩
        |cons _ _=>rw[h] at this;simp at this
      exact ⟨v,by rw[← Array.toList_inj];exact hv⟩
     have hx:Rc G w (.ex e (.int .u8) 0 xs i i) v:=hv.1
     rcases hx with ⟨_,rfl,rfl⟩ | ⟨b,cap,rfl,⟨_,_,ho⟩,cur,el,hh,h1,h2,h3,h4⟩
     ·refine (Kb w G.S Rl.gh.sB Rl.gh.tabs).mono ?_
      rintro e' w' ⟨rfl,rfl⟩
      exact ⟨G,_,_,.tuple #[],AS.map_noOp Rl i,(show Rv G _ (.tup []) (.tuple #[]) from ⟨#[],rfl,trivial⟩),.inl ⟨rfl,some [],.refl _ _ _,hrun⟩⟩
     ·have ho:G.ow i=some (b,0):=by rcases ho with h | h <;> exact h
      rw[Nat.zero_add] at h2 ⊢
      refine (DT w xs cap b cur el hh (by rw[h1];simp[Ty.size]) (fun g q hg hq=>⟨⟨by rintro rfl;exact (Rl.gh.ow _ _ _ ho).1 _ (Nat.zero_le _) (Rl.gh.tabs g q hg hq).1,_,(Rl.gh.tabs g q hg hq).2⟩,(Rl.gh.tabs g q hg hq).2⟩) h2 h3 fun k x hk=>?_).mono ?_
      ·obtain ⟨c,⟨rfl,hin⟩,hu⟩:=h4 k x hk
       have:=hu 0 _ rfl
       exact ⟨hin,by simpa [Ty.size] using this⟩
      ·rintro e' w' ⟨rfl,cur',hwr,hh',hs',hlow,hhigh⟩
       have hl:(List.map ff xs).length=xs.length:=List.length_map _
       have R':=Rl.over (zs:=List.map ff xs) ho hwr hh hh' hs' hlow (by rw[hl];exact hhigh) (by rw[hl];exact hg)
       exact ⟨G,_,_,.tuple #[],R',(show Rv G w' (.tup []) (.tuple #[]) from ⟨#[],rfl,trivial⟩),.inl ⟨rfl,some [],⟨(Goes.exWrote Rl.gh ho hwr).kept,fun key b1 _ hb1=>⟨hb1,hwr.other b1 (by rintro rfl;exact (Rl.gh.ow i _ _ ho).2.2.2 key hb1)⟩⟩,hrun⟩⟩
   ·cases hrun
 ·cases hrun
abbrev iv:Io:=⟨[dL,dL],[],[],[dB],none⟩
def yM (d:iv.In):Tr iv.Res:=.ret (.ret ((decide (d.1.1=List.map ff d.1.2.1),()),()))
abbrev uI:List (Nat×Hc):=[]
def CB:Hd:=bB uI
abbrev cY:Lo:=⟨⟨(.one (.hol (.sl 5 (Ty.int u8)))::.one (.hol (.sl 5 (Ty.int u8)))::.any::bi (.one hI::.any::ah (bv []))),[]⟩,[(.ret,⟨(bv (.one hL::ah (bv (bi [])))),[]⟩),(.exit 0,⟨(.any::ah (cN (bi []))),[]⟩)]⟩
def gR (d:cY.st.den):Tr (ao cY.xs):=
 .ite (decide (0≤d.1.2.2.1)&&decide (d.1.1.length=d.1.2.1.length)) (.ite (decide (d.1.1.drop d.1.2.2.1.toNat=(List.map ff d.1.2.1).drop d.1.2.2.1.toNat)) (.ret (.pan (.ret ((),((),()))))) (.ret (.ret ((),((false,()),()))))) .no
def pL:Lp:=bP [(5,aA cY gR)]
def lC {R:Type}(h2 h3:LI)(h4:Int)(next:LI→LI→Int→Option R)(out:ao cY.xs→Option R):Option R:=bif decide (h4<(↑h2.length:Int)) then bif decide (0≤h4)&&decide (h4<(↑h2.length:Int)) then bif decide (0≤h4)&&decide (h4<(↑h3.length:Int)) then bif h2.getD h4.toNat 0 != bZ u8 (h3.getD h4.toNat 0) 90 then out (.ret ((),((false,()),()))) else next (h2) (h3) (i64.wrap (h4+1)) else none else none else out (.pan (.ret ((),((),()))))
def kY (n:Nat)(h2 h3:LI)(h4:Int):Option (ao cY.xs):=fH tt CB dr pL 0 Tryz.f49 (bI Tryz.f49 0) n (cY.st.mk' ((h2,(h3,(h4,()))),())) (bo cY.xs)
theorem vP (n:Nat)(h2 h3:LI)(h4:Int):kY (n+1) h2 h3 h4=lC h2 h3 h4 (kY n) some:=by kernel_rfl
theorem EV (xs ys:LI)(hl:xs.length=ys.length)(hb:xs.length≤maxLen):∀(k i:Nat),i≤xs.length→xs.length<i+k→
  kY k xs ys i=if xs.drop i=(List.map ff ys).drop i then some (.pan (.ret ((),((),())))) else some (.ret ((),((false,()),()))):=by
 intro k
 induction k with
 |zero=>intro i h h';omega
 |succ k ih=>
  intro i hi h
  rw[vP]
  unfold lC
  by_cases h1:i<xs.length
  ·have h2:i<ys.length:=by omega
   have h3:i<(List.map ff ys).length:=by simpa using h2
   rw[bb h1 hb,ih (i+1) h1 (by omega)]
   have e:(xs.drop i=(List.map ff ys).drop i)↔(xs[i]=ff ys[i]∧xs.drop (i+1)=(List.map ff ys).drop (i+1)):=by rw[zE h1,zE h3,List.cons.injEq,List.getElem_map]
   have e2:bZ .u8 ys[i] 90=ff ys[i]:=rfl
   simp only[zG,aB h1,aB h2,e2]
   by_cases he:xs[i]=ff ys[i] <;> simp[h1,h2,he,e,cond_eq_ite]
  ·rw[zI (by omega),zI (by simp;omega)]
   simp[h1]
def uf (a0 a1:LI):Option iv.Res:=bif (↑a0.length:Int) != (↑a1.length:Int) then oR ((false,()),()) else (gR ((a0,(a1,(0,()))),())).run fun y=>match y with | .ret ((),((x9,()),()))=>(oR ((x9,()),())) | .pan (.ret ((),((),())))=>(oR ((true,()),()))
theorem Jq (a0 a1:LI):Io.run tt CB dr pL iv Tryz.f49 ((a0,a1,()),())=uf a0 a1:=by kernel_rfl
theorem Mm:HcOk prog 49 (ai iv yM):=by
 refine bQ (cs:=uI) HcsOk.nil (lp:=pL) (fn:=Tryz.f49) iv
  (.step (h0:=aA cY gR) (by kernel_rfl) (fR (cs:=uI) HcsOk.nil (lp:=pL) (fn:=Tryz.f49) (.done (by kernel_rfl)) cY gR ?_) (.done (by kernel_rfl))) yM ?_
 ·rintro ⟨⟨xs,ys,i,⟨⟩⟩,⟨⟩⟩ y hw hy
  obtain ⟨hg,hy⟩:=Tr.guard hy
  simp only[zA,zB] at hg
  obtain ⟨n,rfl⟩:=au hg.1
  by_cases hn:n≤xs.length
  ·refine ⟨xs.length+1,(EV xs ys hg.2 hw.1.1.1 _ n hn (by omega)).trans ?_⟩
   rw[← hy]
   simp only[Tr.val_ite,zB,zG,Tr.val_ret]
  ·refine ⟨1,?_⟩
   show kY (0+1) xs ys n=_
   rw[vP,← hy]
   unfold lC
   have h1:¬ n<xs.length:=by omega
   simp[Tr.val_ite,Tr.val_ret,h1,zI (show xs.length≤n by omega),zI (show (List.map ff ys).length≤n by simp;omega)]
 ·rintro ⟨⟨(xs:LI),(ys:LI),⟨⟩⟩,⟨⟩⟩ out hw ho
  refine (Jq xs ys).trans ?_
  cases ho
  unfold uf
  by_cases hl:xs.length=ys.length
  ·by_cases he:xs=List.map ff ys
   ·subst he;simp[gR,Tr.run]
   ·simp[gR,Tr.run,hl,he]
  ·have:xs≠List.map ff ys:=fun e=>hl (by rw[e];simp)
   have h2:(xs.length:Int)≠ys.length:=by omega
   simp[this,h2,cond_eq_ite]
abbrev Hk:Io:=RS
abbrev Oo:Type:=LI×(LI×(LI×Unit))
def Bm (d:Oo):AS:=⟨[.one (.ex 5 Om 0 d.1 1 1),.one (.ex 5 Om 0 d.2.1 3 3),.one (.lst 5 Om d.2.2.1 0)]++ID 94,[],[]⟩
abbrev pz:List (Nat×Hc):=[(22,A8 (ai jL wG)),(48,Bl),(49,A8 (ai iv yM))]
def s7:Hd:=bB pz
def ft (c:Nat):LI:=(List.range 80).map fun i=>((i+c:Nat):Int)
theorem fM (c:Nat):(ft c).length=80:=by simp[ft]
theorem vY {c i:Nat}(h:i<80):(ft c)[i]'(by rw[fM];exact h)=((i+c:Nat):Int):=by simp[ft]
abbrev dJ:Lo:=⟨⟨(.one (.exl 5 (Ty.int u8) 1 1)::.one (.exl 5 (Ty.int u8) 3 3)::.one (.hol (.sl 5 (Ty.int u8)))::bv (.one (.exl 5 (Ty.int u8) 1 15)::.one hI::ah (ah (ah (ah (ah (cN []))))))),[]⟩,[(.exit 0,⟨(.one (.exl 5 (Ty.int u8) 1 1)::.one (.exl 5 (Ty.int u8) 3 3)::.one (.hol (.sl 5 (Ty.int u8)))::bv (.one (.exl 5 (Ty.int u8) 1 15)::.any::ah (ah (ah (ah (ah (cN []))))))),[]⟩)]⟩
abbrev cW:Lo:=⟨⟨(.one (.exl 5 (Ty.int u8) 1 1)::.one (.exl 5 (Ty.int u8) 3 3)::.one (.hol (.sl 5 (Ty.int u8)))::bv (.one (.exl 5 (Ty.int u8) 1 15)::.any::.one (.exl 5 (Ty.int u8) 3 19)::.one hI::ah (ah (ah (ah (ah (bv (bi [])))))))),[]⟩,[(.exit 2,⟨(.one (.exl 5 (Ty.int u8) 1 1)::.one (.exl 5 (Ty.int u8) 3 3)::.one (.hol (.sl 5 (Ty.int u8)))::bv (.one (.exl 5 (Ty.int u8) 1 15)::.any::.one (.exl 5 (Ty.int u8) 3 19)::.any::ah (ah (ah (ah (ah (bv (bi [])))))))),[]⟩)]⟩
abbrev cX:Lo:=⟨⟨(.one (.exl 5 (Ty.int u8) 1 1)::.one (.exl 5 (Ty.int u8) 3 3)::.one (.hol (.sl 5 (Ty.int u8)))::bv (.one (.exl 5 (Ty.int u8) 1 15)::.any::.one (.ext 5 (Ty.int u8) 3 19)::.any::.one hI::.any::ah (ah (ah (ah (ah (bv []))))))),[]⟩,[(.ret,⟨(bv (bi (.one hL::ah (ah (ah (ah (ah (cN (bi []))))))))),[]⟩),(.exit 4,⟨(.one (.exl 5 (Ty.int u8) 1 1)::.one (.exl 5 (Ty.int u8) 3 3)::.one (.hol (.sl 5 (Ty.int u8)))::ah (ah (ah (ah (ah (cN (bv (bi [])))))))),[]⟩)]⟩
def lL (d:dJ.st.den):Tr (ao dJ.xs):=
 .ite (decide (d.1.2.2.2.2.1=0)&&(decide (d.1.2.2.2.1.length≤4294967000)&&decide (d.1.1.length≤d.1.2.2.2.1.length))) (.ret (.ret ((),((d.1.1,d.1.2.1,d.1.2.2.1,d.1.2.2.2.1++ft 1,()),())))) .no
def jT (d:cW.st.den):Tr (ao cW.xs):=
 .ite (decide (d.1.2.2.2.2.2.1=0)&&(decide (d.1.2.2.2.2.1.length≤4294967000)&&decide (d.1.2.1.length≤d.1.2.2.2.2.1.length))) (.ret (.ret ((),((d.1.1,d.1.2.1,d.1.2.2.1,d.1.2.2.2.1,d.1.2.2.2.2.1++ft 101,()),())))) .no
def jU (d:cX.st.den):Tr (ao cX.xs):=
 .ite (decide (d.1.2.2.2.2.2.1=0)&&(decide (List.drop d.1.1.length d.1.2.2.2.1=ft 1)&&(decide (d.1.2.2.2.2.1.1=d.1.2.1.length)&&decide (d.1.2.2.2.2.1.2=ft 101)))) (.ret (.pan (.ret ((),((d.1.1,d.1.2.1,d.1.2.2.1,()),()))))) .no
def jz:Lp:=bP [(7,aA dJ lL),(14,aA cW jT),(19,aA cX jU)]
def so {R:Type}(h8 h9 h10 h11:LI)(h12:Int)(next:LI→LI→LI→LI→Int→Option R)(out:ao dJ.xs→Option R):Option R:=bif decide (h12<80) then bif decide (0+h11.length+[u8.wrap (i64.wrap (h12+1))].length≤4294967296)&&(decide ((0+h8.length)*1≤(0+h11.length)*1)&&true) then next (h8) (h9) (h10) (h11++[u8.wrap (i64.wrap (h12+1))]) (i64.wrap (h12+1)) else none else out (.ret ((),((h8,(h9,(h10,(h11,())))),())))
def qZ (n:Nat)(h8 h9 h10 h11:LI)(h12:Int):Option (ao dJ.xs):=fH tt s7 dr jz 0 Tryz.f17 (bI Tryz.f17 0) n (dJ.st.mk' ((h8,(h9,(h10,(h11,(h12,()))))),())) (bo dJ.xs)
theorem JP (n:Nat)(h8 h9 h10 h11:LI)(h12:Int):qZ (n+1) h8 h9 h10 h11 h12=so h8 h9 h10 h11 h12 (qZ n) some:=by kernel_rfl
def qk {R:Type}(h32 h33 h34 h35 h36:LI)(h37:Int)(next:LI→LI→LI→LI→LI→Int→Option R)(out:ao cW.xs→Option R):Option R:=bif decide (h37<80) then bif decide (0+h36.length+[u8.wrap (i64.wrap (h37+101))].length≤4294967296)&&(decide ((0+h33.length)*1≤(0+h36.length)*1)&&true) then next (h32) (h33) (h34) (h35) (h36++[u8.wrap (i64.wrap (h37+101))]) (i64.wrap (h37+1)) else none else out (.ret ((),((h32,(h33,(h34,(h35,(h36,()))))),())))
def oD (n:Nat)(h32 h33 h34 h35 h36:LI)(h37:Int):Option (ao cW.xs):=fH tt s7 dr jz 0 Tryz.f17 (bI Tryz.f17 1) n (cW.st.mk' ((h32,(h33,(h34,(h35,(h36,(h37,())))))),())) (bo cW.xs)
theorem Fm (n:Nat)(h32 h33 h34 h35 h36:LI)(h37:Int):oD (n+1) h32 h33 h34 h35 h36 h37=qk h32 h33 h34 h35 h36 h37 (oD n) some:=by kernel_rfl
def ql {R:Type}(h54 h55 h56 h57:LI)(h58:Nat)(h59:LI)(h60:Int)(next:LI→LI→LI→LI→Nat→LI→Int→Option R)(out:ao cX.xs→Option R):Option R:=bif decide (h60<80) then bif decide ((↑0:Int)≤i64.wrap ((↑0:Int)+(↑h54.length:Int)+h60))&&decide (i64.wrap ((↑0:Int)+(↑h54.length:Int)+h60)<(↑0:Int)+(↑h57.length:Int)) then bif h57.getD ((i64.wrap ((↑0:Int)+(↑h54.length:Int)+h60)).toNat - 0) 0 != u8.wrap (i64.wrap (h60+1)) then out (.ret ((),((false,()),()))) else bif decide ((↑h58:Int)≤i64.wrap ((↑0:Int)+(↑h55.length:Int)+h60))&&decide (i64.wrap ((↑0:Int)+(↑h55.length:Int)+h60)<(↑h58:Int)+(↑h59.length:Int)) then bif h59.getD ((i64.wrap ((↑0:Int)+(↑h55.length:Int)+h60)).toNat - h58) 0 != u8.wrap (i64.wrap (h60+101)) then out (.ret ((),((false,()),()))) else next (h54) (h55) (h56) (h57) (h58) (h59) (i64.wrap (h60+1)) else none else none else out (.pan (.ret ((),((h54,(h55,(h56,()))),()))))
def oE (n:Nat)(h54 h55 h56 h57:LI)(h58:Nat)(h59:LI)(h60:Int):Option (ao cX.xs):=fH tt s7 dr jz 0 Tryz.f17 (bI Tryz.f17 2) n (cX.st.mk' ((h54,(h55,(h56,(h57,((h58,h59),(h60,())))))),())) (bo cX.xs)
theorem Fo (n:Nat)(h54 h55 h56 h57:LI)(h58:Nat)(h59:LI)(h60:Int):oE (n+1) h54 h55 h56 h57 h58 h59 h60=ql h54 h55 h56 h57 h58 h59 h60 (oE n) some:=by kernel_rfl
theorem HW {i c:Nat}(h:i<80)(hc:c≤101)(o:LI):(o++[u8.wrap (i64.wrap ((i:Int)+(c:Int)))])++(ft c).drop (i+1)=o++(ft c).drop i:=by
 rw[zE (show i<(ft c).length by rw[fM];exact h),vY h,ae (n:=(i:Int)+(c:Int)) (by omega) (by omega)]
 have:u8.wrap ((i:Int)+(c:Int))=((i+c:Nat):Int):=by
  simp[IntKind.wrap,IntKind.signed,IntKind.bits]
  omega
 rw[this]
 simp
theorem CO (a b w:LI):∀(k:Nat) (g:LI) (i:Nat),80<i+k→i≤80→g.length+(80 - i)≤4294967296→a.length≤g.length→
  qZ k a b w g i=some (.ret ((),((a,(b,(w,(g++(ft 1).drop i,())))),()))):=by
 intro k
 induction k with
 |zero=>intro g i _ _ _;omega
 |succ k ih=>
  intro g i h1 h2 h3 h4
  rw[JP]
  unfold so
  by_cases hl:i<80
  ·have h5:(i:Int)<80:=by omega
   rw[aa (by simpa using h5),aa (by simp;omega),bb hl (by rw[aG];omega),ih _ (i+1) (by omega) (by omega) (by simp;omega) (by simp;omega)]
   have:=HW (c:=1) hl (by omega) g
   have e:(((1:Nat):Int))=1:=rfl
   rw[e,bb hl (by rw[aG];omega)] at this
   rw[this]
  ·rw[af (by simp;omega),zI (by rw[fM];omega),List.append_nil]
theorem Aj (a b w g:LI):∀(k:Nat) (h:LI) (i:Nat),80<i+k→i≤80→h.length+(80 - i)≤4294967296→b.length≤h.length→
  oD k a b w g h i=some (.ret ((),((a,(b,(w,(g,(h++(ft 101).drop i,()))))),()))):=by
 intro k
 induction k with
 |zero=>intro g i _ _ _;omega
 |succ k ih=>
  intro h i h1 h2 h3 h4
  rw[Fm]
  unfold qk
  by_cases hl:i<80
  ·have h5:(i:Int)<80:=by omega
   rw[aa (by simpa using h5),aa (by simp;omega),bb hl (by rw[aG];omega),ih _ (i+1) (by omega) (by omega) (by simp;omega) (by simp;omega)]
   have:=HW (c:=101) hl (by omega) h
   have e:(((101:Nat):Int))=101:=rfl
   rw[e] at this
   rw[this]
  ·rw[af (by simp;omega),zI (by rw[fM];omega),List.append_nil]
theorem Ak (a b w g:LI)(hg:g.drop a.length=ft 1)(hgl:g.length≤maxLen)(hbl:b.length+80≤maxLen):∀(k i:Nat),80<i+k→i≤80→
  oE k a b w g b.length (ft 101) i=some (.pan (.ret ((),((a,(b,(w,()))),())))):=by
 have hl:g.length=a.length+80:=by
  have:=congrArg List.length hg
  rw[List.length_drop,fM] at this
  omega
 rw[aG] at hgl hbl
 intro k
 induction k with
 |zero=>intro i _ _;omega
 |succ k ih=>
  intro i h1 h2
  rw[Fo]
  unfold ql
  by_cases hlt:i<80
  ·have h5:(i:Int)<80:=by omega
   have e1:i64.wrap ((0:Int)+(a.length:Int)+(i:Int))=((a.length+i:Nat):Int):=by rw[ae] <;> omega
   have e2:i64.wrap ((0:Int)+(b.length:Int)+(i:Int))=((b.length+i:Nat):Int):=by rw[ae] <;> omega
   have e3:u8.wrap (i64.wrap ((i:Int)+1))=((i+1:Nat):Int):=by
    rw[ae (by omega) (by omega)]
    simp[IntKind.wrap,IntKind.signed,IntKind.bits]
    omega
   have e4:u8.wrap (i64.wrap ((i:Int)+101))=((i+101:Nat):Int):=by
    rw[ae (by omega) (by omega)]
    simp[IntKind.wrap,IntKind.signed,IntKind.bits]
    omega
   have e5:g.getD (a.length+i) 0=((i+1:Nat):Int):=by
    have h7:(g.drop a.length)[i]?=some ((i+1:Nat):Int):=by
     rw[hg,List.getElem?_eq_getElem (by rw[fM];exact hlt),vY hlt]
    rw[List.getElem?_drop] at h7
    rw[List.getD_eq_getElem?_getD,h7]
    rfl
   have e6:(ft 101).getD i 0=((i+101:Nat):Int):=by
    rw[List.getD_eq_getElem?_getD,List.getElem?_eq_getElem (by rw[fM];exact hlt),vY hlt]
    rfl
   have hml:(ft 101).length=80:=fM 101
   rw[aa (by simpa using h5),e1,e2,e3,e4,aa (by simp;omega)]
   rw[show ((a.length+i:Nat):Int).toNat - 0=a.length+i by omega,show ((b.length+i:Nat):Int).toNat - b.length=i by omega,e5,e6,af (by simp),aa (by simp;omega),af (by simp),bb hlt (by rw[aG];omega),ih (i+1) (by omega) (by omega)]
  ·rw[af (by simp;omega)]
def qJ (a0 a1 a2:LI):Option Hk.Res:=bif !decide (a0=a2) then oR ((false,()),()) else bif !decide (a1=a2) then oR ((false,()),()) else (lL ((gg 0 (List.map ff a0) a0,(a1,(a2,(gg 0 (List.map ff a0) a0,(0,()))))),())).run fun y=>match y with | .ret ((),((x22,x23,x24,x25,()),()))=>(bif !decide (x23=x24) then oR ((false,()),()) else bif decide (0≤(↑0:Int)+(↑x22.length:Int))&&decide ((↑0:Int)+(↑x22.length:Int)≤(↑x25.length:Int)) then bif !decide (List.take ((↑0:Int)+(↑x22.length:Int)).toNat x25=List.map ff x24) then oR ((false,()),()) else (jT ((x22,(x23,(x24,(x25,(x23,(0,())))))),())).run fun y=>match y with | .ret ((),((x49,x50,x51,x52,x53,()),()))=>(bif decide (x50.length≤x53.length)&&true then (jU ((x49,(gg 0 (List.map ff x50) x50,(x51,(x52,(((List.map ff x50).length,List.drop (List.map ff x50).length x53),(0,())))))),())).run fun y=>match y with | .ret ((),((x73,()),()))=>(oR ((x73,()),())) | .pan (.ret ((),((x74,x75,x76,()),())))=>(bif decide (x74=List.map ff x76) then oR ((decide (x75=List.map ff x76),()),()) else oR ((false,()),())) else none) else none)
theorem MP (a0 a1 a2:LI):Io.runX tt s7 dr jz Hk Tryz.f17 (Bm (a0,a1,a2,()))=qJ a0 a1 a2:=by kernel_rfl
def vo (a b w:LI):Bool:=decide (a=w)&&decide (b=w)
theorem zv (a b w:LI)(ha:a.length≤4294967000)(hb:b.length≤4294967000):qJ a b w=some (.ret ((vo a b w,()),())):=by
 unfold qJ vo
 by_cases h1:a=w
 rotate_left
 ·simp[h1]
 subst h1
 by_cases h2:b=a
 rotate_left
 ·simp[h2]
 subst h2
 have hl:(List.map ff b).length=b.length:=by simp
 rw[si hl]
 have e7:lL ((List.map ff b,b,b,List.map ff b,0,()),())=.ite true (.ret (.ret ((),((List.map ff b,b,b,List.map ff b++ft 1,()),())))) .no:=by
  have:(decide ((0:Int)=0)&&(decide ((List.map ff b).length≤4294967000)&&decide ((List.map ff b).length≤(List.map ff b).length)))=true:=by simp;omega
  exact congrArg (fun c=>Tr.ite c _ _) this
 rw[e7]
 simp only[decide_true,Bool.not_true,cond_false,Tr.run,cond_true]
 have e0:((0:Int)+((List.map ff b).length:Int)).toNat=(List.map ff b).length:=by omega
 rw[aa (by simp;omega),e0,List.take_left']
 rotate_left
 ·rfl
 simp only[decide_true,Bool.not_true,cond_false]
 have e14:jT ((List.map ff b,b,b,List.map ff b++ft 1,b,0,()),())=.ite true (.ret (.ret ((),((List.map ff b,b,b,List.map ff b++ft 1,b++ft 101,()),())))) .no:=by
  have:(decide ((0:Int)=0)&&(decide (b.length≤4294967000)&&decide (b.length≤b.length)))=true:=by simp;omega
  exact congrArg (fun c=>Tr.ite c _ _) this
 rw[e14]
 simp only[Tr.run,cond_true]
 rw[aa (by simp)]
 have ed:List.drop (List.map ff b).length (b++ft 101)=ft 101:=by rw[hl];simp
 rw[ed,si hl]
 have e19:jU ((List.map ff b,List.map ff b,b,List.map ff b++ft 1,((List.map ff b).length,ft 101),0,()),())=.ite true (.ret (.pan (.ret ((),((List.map ff b,List.map ff b,b,()),()))))) .no:=by
  have:(decide ((0:Int)=0)&&(decide (List.drop (List.map ff b).length (List.map ff b++ft 1)=ft 1)&&(decide ((List.map ff b).length=(List.map ff b).length)&&decide (ft 101=ft 101))))=true:=by simp
  exact congrArg (fun c=>Tr.ite c _ _) this
 rw[e19]
 simp[Tr.run]
def zq:Hc:=fun _ args _ A K=>match args with
 |[.one (.ex _ t lo xs i j),.one (.ex _ t2 lo2 ys i2 j2),.one (.lst _ t3 ws _)]=>
  bif Nat.beq i j&&(Nat.beq i2 j2&&(Nat.beq lo 0&&(Nat.beq lo2 0&&!(Nat.beq i i2)))) then
   (if h:t=.int .u8∧t2=.int .u8∧t3=.int .u8 then (bif decide (xs.length≤4294967000)&&decide (ys.length≤4294967000) then
    (A.map (C.strip [i,i2] [])).force fun A=>K (.ret (.one (.bool (vo (h.1▸xs:List (Ty.int .u8).den) (h.2.1▸ys:List (Ty.int .u8).den) (h.2.2▸ws:List (Ty.int .u8).den)))) (some [])) A else none) else none) else none
 |_=>none
theorem Pi:HcOk prog 17 zq:=by
 have htt:=eX Tryz.prog 400
 have hcs:HcsOk prog pz:=.cons (oV AR) (.cons PG (.cons (oV Mm) .nil))
 intro R args id A K r F G ts cst w vals hid hrun Rl hv
 refine ⟨⟨Tryz.f17,by kernel_rfl,by kernel_rfl,by kernel_rfl⟩,?_⟩
 unfold zq at hrun
 split at hrun
 ·rename_i e1 t lo xs i j e2 t2 lo2 ys i2 j2 e3 t3 ws own
  cases hz:Nat.beq i j&&(Nat.beq i2 j2&&(Nat.beq lo 0&&(Nat.beq lo2 0&&!(Nat.beq i i2)))) with
  |false=>rw[hz] at hrun;cases hrun
  |true=>
   rw[hz] at hrun
   simp only[cond_true] at hrun
   simp only[zA,Bool.not_eq_true'] at hz
   obtain ⟨z1,z2,z3,z4,z5⟩:=hz
   have z1:=Nat.eq_of_beq_eq_true z1
   have z2:=Nat.eq_of_beq_eq_true z2
   have z3:=Nat.eq_of_beq_eq_true z3
   have z4:=Nat.eq_of_beq_eq_true z4
   have z5:i≠i2:=by rintro rfl;rw[Nat.beq_refl] at z5;cases z5
   subst z1 z2 z3 z4
   split at hrun
   ·rename_i h
    obtain ⟨rfl,rfl,rfl⟩:=h
    simp only at hrun
    cases hg:decide (xs.length≤4294967000)&&decide (ys.length≤4294967000) with
    |false=>rw[hg] at hrun;cases hrun
    |true=>
     rw[hg] at hrun
     simp only[cond_true,AS.force_eq] at hrun
     simp only[zA,zB] at hg
     have hvl:vals.toList.length=3:=hv.length.symm
     obtain ⟨v1,v2,v3,hvs⟩:∃v1 v2 v3,vals.toList=[v1,v2,v3]:=by
      match h:vals.toList with
      |[]=>rw[h] at hvl;cases hvl
      |[_]=>rw[h] at hvl;simp at hvl
      |[_,_]=>rw[h] at hvl;simp at hvl
      |[a,b,c]=>exact ⟨a,b,c,rfl⟩
      |_::_::_::_::_=>rw[h] at hvl;simp at hvl
     rw[hvs] at hv
     obtain ⟨hx1,hx2,hx3,_⟩:=hv
     have hn2:bj (([(1,i),(3,i2)]:List (Nat×Nat)).map (·.2))=true:=by simp[bj,z5.symm]
     have hto:∀{xs:LI} {k k':Nat} {v:Value},k'≠0→(∀b,G.ow k=some (b,0)→(fq G [] [(1,i),(3,i2)]).ow k'=some (b,0))→Rc G w (.ex e1 (.int .u8) 0 xs k k) v→Rc (fq G [] [(1,i),(3,i2)]) w (.ex 5 Om 0 xs k' k') v:=by
      intro xs k k' v hk0 hk h
      rcases h with h | ⟨b,cap,e0,⟨_,_,ho⟩,h⟩
      ·exact .inl h
      ·exact .inr ⟨b,cap,e0,⟨hk0,hk0,.inl (hk b (by rcases ho with h | h <;> exact h))⟩,h⟩
     have R0:Rel (ir G w [] [(1,i),(3,i2)]) (fq G [] [(1,i),(3,i2)]) (Bm (xs,ys,ws,())) (vals++Array.replicate ((Tryz.f17).ntmps - vals.size) undef) [] w:=by
      refine ⟨?_,trivial,fun k cs hk=>by simp[Bm] at hk,Hh Rl.gh (fun i j k h=>by simp[Bn.at] at h) hn2⟩
      have hs:vals.size=3:=by simpa using hvl
      rw[hs,show (Tryz.f17).ntmps - 3=94 by kernel_rfl,Array.toList_append,Array.toList_replicate,hvs]
      refine ⟨hto (by decide) (fun b hb=>by simp[fq,hb]) hx1,hto (by decide) (fun b hb=>by simp[fq,hb]) hx2,?_,All2.replicate (a:=V.any) (b:=undef) trivial 94⟩
      obtain ⟨Aa,cap,e0,g1,g2,g3,_⟩:=hx3
      exact ⟨Aa,cap,e0,g1,g2,g3,.inl rfl⟩
     refine EM (lp:=jz) htt hm (qU hcs) (gZ htt) (by kernel_rfl) ?_ hid Rl R0 ((MP xs ys ws).trans (zv xs ys ws hg.1 hg.2)) hrun
     refine .step (h0:=aA dJ lL) (by kernel_rfl) (fR (cs:=pz) hcs (lp:=jz) (fn:=Tryz.f17) (.done (by kernel_rfl)) dJ lL ?_)
      (.step (h0:=aA cW jT) (by kernel_rfl) (fR (cs:=pz) hcs (lp:=jz) (fn:=Tryz.f17) (.done (by kernel_rfl)) cW jT ?_)
      (.step (h0:=aA cX jU) (by kernel_rfl) (fR (cs:=pz) hcs (lp:=jz) (fn:=Tryz.f17) (.done (by kernel_rfl)) cX jU ?_) (.done (by kernel_rfl))))
     ·rintro ⟨⟨a,b,c,g,i,⟨⟩⟩,⟨⟩⟩ y hw hy
      obtain ⟨hg,hy⟩:=Tr.guard hy
      simp only[zA,zB] at hg
      obtain ⟨rfl,h1,h2⟩:=hg
      refine ⟨81,(CO a b c 81 g 0 (by omega) (by omega) (by omega) h2).trans ?_⟩
      rw[← hy];rfl
     ·rintro ⟨⟨a,b,c,g,h,i,⟨⟩⟩,⟨⟩⟩ y hw hy
      obtain ⟨hg,hy⟩:=Tr.guard hy
      simp only[zA,zB] at hg
      obtain ⟨rfl,h1,h2⟩:=hg
      refine ⟨81,(Aj a b c g 81 h 0 (by omega) (by omega) (by omega) h2).trans ?_⟩
      rw[← hy];rfl
     ·rintro ⟨⟨a,b,c,g,⟨l,h⟩,i,⟨⟩⟩,⟨⟩⟩ y hw hy
      obtain ⟨hg,hy⟩:=Tr.guard hy
      simp only[zA,zB] at hg
      obtain ⟨rfl,h1,rfl,rfl⟩:=hg
      have w1:g.length≤maxLen:=hw.1.2.2.2.1.1
      have w2:b.length+(ft 101).length≤maxLen:=hw.1.2.2.2.2.1.1
      rw[fM] at w2
      refine ⟨81,(Ak a b c g h1 w1 w2 81 0 (by omega) (by omega)).trans ?_⟩
      rw[← hy];rfl
   ·cases hrun
 ·cases hrun
abbrev SJ:Sh:=.dat (.int .i16) false false
abbrev QP:Sh:=.dat (.int .i32) false false
abbrev SL:Sh:=.dat (.int .u64) false false
def aU (v:Int):Nat→LI
 |0=>[]
 |n+1=>(v / 256 ^ n) % 256::aU v n
theorem vR (v:Int):∀n,(aU v n).length=n
 |0=>rfl
 |n+1=>by rw[aU,zN,vR v n]
abbrev QE:List Sh:=[dL,dI]
abbrev cO:Sh:=.dat (.int .i64) false false
def aS (l:LI):Int:=l.foldl (fun v c=>v*256+c) 0
def bK (b:LI)(p:Int)(n:Nat):Int×(Int×Int):=if (b.length:Int) - p<n then (0,(p,1)) else (aS ((b.drop p.toNat).take n),(p+n,0))
def cL (b:LI)(p:Int):Bool:=decide (b.length≤4294960000)&&(decide (0≤p)&&decide (p≤(b.length:Int)))
def oY (b:LI)(p n:Int):Int×Int:=if n<0 then (p,3) else if (b.length:Int) - p<n then (p,1) else (p+n,0)
abbrev gx:Io:=⟨[.ptr 0 0],[QE],[],[dI],none⟩
def sV (d:gx.In):Tr gx.Res:=.ret (.ret ((i64.wrap ((d.2.1.1.length:Int) - d.2.1.2.1),()),((d.2.1.1,(d.2.1.2.1,())),())))
abbrev Ch:List (Nat×Hc):=[]
def LN:Hd:=bB Ch
def Dc:Lp:=bP []
def EC (a0:LI)(a1:Int):Option gx.Res:=oR ((i64.wrap ((↑a0.length:Int) - a1),()),(a0,a1,()),())
theorem JJ (a0:LI)(a1:Int):Io.run tt LN dr Dc gx Tryz.f134 (((),()),(a0,a1,()),())=EC a0 a1:=by kernel_rfl
theorem Dk:HcOk prog 134 (ai gx sV):=by
 refine bQ (cs:=Ch) HcsOk.nil (lp:=Dc) (fn:=Tryz.f134) gx (.done (by kernel_rfl)) sV ?_
 rintro ⟨⟨⟨⟩,⟨⟩⟩,⟨⟨(b:LI),(p:Int),⟨⟩⟩,⟨⟩⟩⟩ out hw ho
 rw[← ho]
 exact JJ b p
abbrev cG:Io:=⟨[.ptr 0 0,dI],[QE],[],[SL,dI],none⟩
def gT (d:cG.In):Tr cG.Res:=
 .ite (cL d.2.1.1 d.2.1.2.1&&(decide ((0:Int)≤d.1.2.1)&&decide (d.1.2.1≤(8:Int)))) (.ret (.ret (((bK d.2.1.1 d.2.1.2.1 d.1.2.1.toNat).1,((bK d.2.1.1 d.2.1.2.1 d.1.2.1.toNat).2.2,())),((d.2.1.1,((bK d.2.1.1 d.2.1.2.1 d.1.2.1.toNat).2.1,())),())))) .no
abbrev uK:List (Nat×Hc):=[(134,ai gx sV)]
def va:Hd:=bB uK
abbrev cc:Lo:=⟨⟨(.one (.ptr 0 0)::.one hI::bv (.one (.hol (.int u64))::ah (bv (.one (.hol (.sl 5 (Ty.int u8)))::.one hI::.one hI::ah (bi []))))),[some [.hol (.sl 5 (Ty.int u8)),hI]]⟩,[(.exit 0,⟨(.one (.ptr 0 0)::.one hI::bv (.one (.hol (.int u64))::.any::ah (ah (cN [])))),[some [.hol (.sl 5 (Ty.int u8)),hI]]⟩)]⟩
def gn (d:cc.st.den):Tr (ao cc.xs):=
 .ite (decide (d.1.2.1=0)&&(decide (d.1.2.2.2.2.1=0)&&(decide (d.1.2.2.2.1=(d.1.2.2.1.length:Int))&&decide (d.1.2.2.1.length≤8)))) (.ret (.ret ((),((d.1.1,(aS d.1.2.2.1,())),(d.2.1,()))))) .no
def lh:Lp:=bP [(6,aA cc gn)]
def mP {R:Type}(h3 h4:Int)(h5:LI)(h6 h7:Int)(h8:LI)(h9:Int)(next:Int→Int→LI→Int→Int→LI→Int→Option R)(out:ao cc.xs→Option R):Option R:=bif decide (h7<h6) then bif decide (0≤h7)&&decide (h7<(↑h5.length:Int)) then next (h3) (nz u64 (fX u64 h4 8) (u64.wrap (h5.getD h7.toNat 0))) (h5) (h6) (i64.wrap (h7+1)) (h8) (h9) else none else out (.ret ((),((h3,(h4,())),((h8,(h9,())),()))))
def ld (n:Nat)(h3 h4:Int)(h5:LI)(h6 h7:Int)(h8:LI)(h9:Int):Option (ao cc.xs):=fH tt va dr lh 1 Tryz.f132 (bI Tryz.f132 0) n (cc.st.mk' ((h3,(h4,(h5,(h6,(h7,()))))),((h8,(h9,())),()))) (bo cc.xs)
theorem Be (n:Nat)(h3 h4:Int)(h5:LI)(h6 h7:Int)(h8:LI)(h9:Int):ld (n+1) h3 h4 h5 h6 h7 h8 h9=mP h3 h4 h5 h6 h7 h8 h9 (ld n) some:=by kernel_rfl
theorem PO {v c:Int}(h0:0≤v)(h1:v<72057594037927936)(h2:0≤c)(h3:c≤255):nz .u64 (fX .u64 v 8) (u64.wrap c)=v*256+c:=by
 have e1:fX .u64 v 8=v*256:=by
  show IntKind.wrap .u64 (v*2 ^ 8)=_
  rw[show v*2 ^ 8=v*256 by omega]
  exact bN (k:=.u64) (by simp[bC,IntKind.min,IntKind.max,IntKind.signed,IntKind.bits];omega)
 have e0:u64.wrap c=c:=bN (k:=.u64) (by simp[bC,IntKind.min,IntKind.max,IntKind.signed,IntKind.bits];omega)
 rw[e1,e0]
 obtain ⟨v,rfl⟩:=au h0
 obtain ⟨c,rfl⟩:=au h2
 have e4:=Nat.two_pow_add_eq_or_of_lt (show c<2 ^ 8 by omega) v
 show IntKind.wrap .u64 ((BitVec.ofInt 64 ((v:Int)*256) ||| BitVec.ofInt 64 (c:Int)).toNat:Int)=_
 have e2:(BitVec.ofInt 64 (c:Int)).toNat=c:=by rw[BitVec.toNat_ofInt];omega
 have e3:(BitVec.ofInt 64 ((v:Int)*256)).toNat=2 ^ 8*v:=by rw[BitVec.toNat_ofInt];omega
 rw[BitVec.toNat_or,e2,e3,← e4]
 refine (bN (k:=.u64) ?_).trans ?_
 ·simp[bC,IntKind.min,IntKind.max,IntKind.signed,IntKind.bits];omega
 ·omega
theorem Bi (l:LI)(c:Int):aS (l++[c])=aS l*256+c:=by simp[aS]
theorem uQ:∀(l:LI) (v:Int),(∀c∈l,0≤c∧c≤255)→0≤v→0≤l.foldl (fun v c=>v*256+c) v∧l.foldl (fun v c=>v*256+c) v<(v+1)*256 ^ l.length
 |[],v,_,h0=>⟨h0,by simp;omega⟩
 |c::l,v,h,h0=>by
  obtain ⟨h3,h4⟩:=h c (by simp)
  obtain ⟨h1,h2⟩:=uQ l (v*256+c) (fun d hd=>h d (by simp[hd])) (by omega)
  refine ⟨h1,Int.lt_of_lt_of_le h2 ?_⟩
  rw[zN,Int.pow_succ,Int.mul_comm (256 ^ l.length) 256,← Int.mul_assoc]
  exact Int.mul_le_mul_of_nonneg_right (by omega) (Int.le_of_lt (Int.pow_pos (by decide)))
theorem sg (l:LI)(h:∀c∈l,0≤c∧c≤255):0≤aS l∧aS l<256 ^ l.length:=by
 have:=uQ l 0 h (Int.le_refl _)
 simpa [aS] using this
theorem Aw (n:Int)(l b:LI)(p:Int)(hl:l.length≤8)(hr:∀c∈l,0≤c∧c≤255):∀(k i:Nat),l.length<i+k→i≤l.length→
  ld k n (aS (l.take i)) l (l.length:Int) i b p=some (.ret ((),((n,(aS l,())),((b,(p,())),())))):=by
 intro k
 induction k with
 |zero=>intro i h;omega
 |succ k ih=>
  intro i h1 h2
  rw[Be]
  unfold mP
  by_cases hi:i<l.length
  ·have hc:=hr l[i] (List.getElem_mem hi)
   have hb:=sg (l.take i) fun c hc=>hr c (List.mem_of_mem_take hc)
   have hlt:(256:Int) ^ (l.take i).length≤72057594037927936:=by
    rw[List.length_take,show min i l.length=i by omega]
    have hi7:i≤7:=by omega
    match i,hi7 with
    |0,_=>decide
    |1,_=>decide
    |2,_=>decide
    |3,_=>decide
    |4,_=>decide
    |5,_=>decide
    |6,_=>decide
    |7,_=>decide
   have e1:List.getD l (i:Int).toNat 0=l[i]:=by simp only[zG,aB hi]
   rw[aa (by simpa using hi),aa (by simpa using hi),e1,PO hb.1 (by omega) hc.1 hc.2,← Bi,← List.take_succ_eq_append_getElem hi,bb hi (by rw[aG];omega),ih (i+1) (by omega) (by omega)]
  ·rw[af (by simp;omega),List.take_of_length_le (by omega)]
def pu (a0:Int)(a1:LI)(a2:Int):Option cG.Res:=bif decide (i64.wrap ((↑a1.length:Int) - a2)<a0) then oR ((0,1,()),(a1,a2,()),()) else bif decide (0≤a2)&&(decide (a2≤i64.wrap (a2+a0))&&decide (i64.wrap (a2+a0)≤(↑a1.length:Int))) then (gn ((a0,(0,(List.drop a2.toNat (List.take (i64.wrap (a2+a0)).toNat a1),((↑(List.drop a2.toNat (List.take (i64.wrap (a2+a0)).toNat a1)).length:Int),(0,()))))),((a1,(a2,())),()))).run fun y=>match y with | .ret ((),((x21,x22,()),(x23,x24,()),()))=>(oR ((x22,0,()),(x23,i64.wrap (x24+x21),()),())) else none
theorem Du (a0:Int)(a1:LI)(a2:Int):Io.run tt va dr lh cG Tryz.f132 (((),a0,()),(a1,a2,()),())=pu a0 a1 a2:=by kernel_rfl
theorem dA {b:LI}(h:Ty.wf bs b):∀c∈b,0≤c∧c≤255:=fun c hc=>by
 have:=h.2 c hc
 simpa [Ty.wf,bC,IntKind.min,IntKind.max,IntKind.signed,IntKind.bits] using this
theorem pI:HcsOk prog uK:=.cons Dk .nil
theorem lm:HcOk prog 132 (ai cG gT):=by
 refine bQ pI (lp:=lh) (fn:=Tryz.f132) cG (.step (h0:=aA cc gn) (by kernel_rfl) (fR pI (lp:=lh) (fn:=Tryz.f132) (.done (by kernel_rfl)) cc gn ?_) (.done (by kernel_rfl))) gT ?_
 ·rintro ⟨⟨(n:Int),(v:Int),(l:LI),(m:Int),(i:Int),⟨⟩⟩,⟨⟨(b:LI),(p:Int),⟨⟩⟩,⟨⟩⟩⟩ y hw hy
  obtain ⟨hg,hy⟩:=Tr.guard hy
  simp only[zA,zB] at hg
  obtain ⟨rfl,rfl,rfl,h4⟩:=hg
  refine ⟨l.length+1,(Aw n l b p h4 (dA hw.1.2.2.1) _ 0 (by omega) (by omega)).trans ?_⟩
  rw[← hy];rfl
 ·rintro ⟨⟨⟨⟩,(n:Int),⟨⟩⟩,⟨⟨(b:LI),(p:Int),⟨⟩⟩,⟨⟩⟩⟩ out hw ho
  obtain ⟨hg,ho⟩:=Tr.guard ho
  simp only[cL,zA,zB] at hg
  obtain ⟨⟨h1,h2,h3⟩,h4,h5⟩:=hg
  have h1:b.length≤4294960000:=h1
  have h2:(0:Int)≤p:=h2
  have h3:p≤(b.length:Int):=h3
  have h4:(0:Int)≤n:=h4
  have h5:n≤(8:Int):=h5
  cases ho
  refine (Du n b p).trans ?_
  show _=oR (((bK b p n.toNat).1,((bK b p n.toNat).2.2,())),((b,((bK b p n.toNat).2.1,())),()))
  unfold pu
  rw[ae (n:=(b.length:Int) - p) (by omega) (by omega),ae (n:=p+n) (by omega) (by omega)]
  unfold bK
  by_cases hl:(b.length:Int) - p<n
  ·rw[aa (by simpa using hl),if_pos (by omega)]
  ·have e0:List.drop p.toNat (List.take (p+n).toNat b)=(b.drop p.toNat).take n.toNat:=by rw[List.drop_take,show (p+n).toNat - p.toNat=n.toNat by omega]
   rw[af (by simpa using hl),if_neg (by omega),aa (by simp;omega),e0]
   have hl8:((b.drop p.toNat).take n.toNat).length≤8:=by simp;omega
   have e1:gn ((n,(0,((b.drop p.toNat).take n.toNat,((((b.drop p.toNat).take n.toNat).length:Int),(0,()))))),((b,(p,())),()))=.ite true (.ret (.ret ((),((n,(aS ((b.drop p.toNat).take n.toNat),())),((b,(p,())),()))))) .no:=
    congrArg (fun c=>Tr.ite c _ _) (show (decide ((0:Int)=0)&&(decide ((0:Int)=0)&&(decide ((((b.drop p.toNat).take n.toNat).length:Int)=(((b.drop p.toNat).take n.toNat).length:Int))&&decide (((b.drop p.toNat).take n.toNat).length≤8))))=true by simp;omega)
   rw[e1]
   simp only[Tr.run,cond_true]
   rw[ae (n:=p+n) (by omega) (by omega),show ((n.toNat:Nat):Int)=n by omega]
abbrev kO:Io:=⟨[.ptr 0 0],[QE],[],[SJ,dI],none⟩
def zc (d:kO.In):Tr kO.Res:=
 .ite (cL d.2.1.1 d.2.1.2.1) (.ret (.ret ((i16.wrap (bK d.2.1.1 d.2.1.2.1 2).1,((bK d.2.1.1 d.2.1.2.1 2).2.2,())),((d.2.1.1,((bK d.2.1.1 d.2.1.2.1 2).2.1,())),())))) .no
abbrev Gw:List (Nat×Hc):=[(132,ai cG gT)]
def OU:Hd:=bB Gw
def HE:Lp:=bP []
def xn (a0:LI)(a1:Int):Option kO.Res:=bif cL a0 a1&&(decide (0≤2)&&decide (2≤8)) then oR ((i16.wrap (bK a0 a1 (Int.toNat 2)).1,(bK a0 a1 (Int.toNat 2)).2.2,()),(a0,(bK a0 a1 (Int.toNat 2)).2.1,()),()) else none
theorem Nh (a0:LI)(a1:Int):Io.run tt OU dr HE kO Tryz.f107 (((),()),(a0,a1,()),())=xn a0 a1:=by kernel_rfl
theorem PD:HcOk prog 107 (ai kO zc):=by
 refine bQ (cs:=Gw) (.cons lm .nil) (lp:=HE) (fn:=Tryz.f107) kO (.done (by kernel_rfl)) zc ?_
 rintro ⟨⟨⟨⟩,⟨⟩⟩,⟨⟨(b:LI),(p:Int),⟨⟩⟩,⟨⟩⟩⟩ out hw ho
 obtain ⟨hg,ho⟩:=Tr.guard ho
 have hg:cL b p=true:=hg
 cases ho
 refine (Nh b p).trans ?_
 unfold xn
 rw[aa (by simp[hg])]
 rfl
abbrev jn:Io:=⟨[.ptr 0 0],[QE],[],[QP,dI],none⟩
def tP (d:jn.In):Tr jn.Res:=
 .ite (cL d.2.1.1 d.2.1.2.1) (.ret (.ret ((i32.wrap (bK d.2.1.1 d.2.1.2.1 4).1,((bK d.2.1.1 d.2.1.2.1 4).2.2,())),((d.2.1.1,((bK d.2.1.1 d.2.1.2.1 4).2.1,())),())))) .no
abbrev Gx:List (Nat×Hc):=[(132,ai cG gT)]
def OV:Hd:=bB Gx
def HF:Lp:=bP []
def xo (a0:LI)(a1:Int):Option jn.Res:=bif cL a0 a1&&(decide (0≤4)&&decide (4≤8)) then oR ((i32.wrap (bK a0 a1 (Int.toNat 4)).1,(bK a0 a1 (Int.toNat 4)).2.2,()),(a0,(bK a0 a1 (Int.toNat 4)).2.1,()),()) else none
theorem Ni (a0:LI)(a1:Int):Io.run tt OV dr HF jn Tryz.f99 (((),()),(a0,a1,()),())=xo a0 a1:=by kernel_rfl
theorem H4:HcOk prog 99 (ai jn tP):=by
 refine bQ (cs:=Gx) (.cons lm .nil) (lp:=HF) (fn:=Tryz.f99) jn (.done (by kernel_rfl)) tP ?_
 rintro ⟨⟨⟨⟩,⟨⟩⟩,⟨⟨(b:LI),(p:Int),⟨⟩⟩,⟨⟩⟩⟩ out hw ho
 obtain ⟨hg,ho⟩:=Tr.guard ho
 have hg:cL b p=true:=hg
 cases ho
 refine (Ni b p).trans ?_
 unfold xo
 rw[aa (by simp[hg])]
 rfl
abbrev kP:Io:=⟨[.ptr 0 0],[QE],[],[cO,dI],none⟩
def zd (d:kP.In):Tr kP.Res:=
 .ite (cL d.2.1.1 d.2.1.2.1) (.ret (.ret ((i64.wrap (bK d.2.1.1 d.2.1.2.1 8).1,((bK d.2.1.1 d.2.1.2.1 8).2.2,())),((d.2.1.1,((bK d.2.1.1 d.2.1.2.1 8).2.1,())),())))) .no
abbrev Gy:List (Nat×Hc):=[(132,ai cG gT)]
def OX:Hd:=bB Gy
def HG:Lp:=bP []
def xp (a0:LI)(a1:Int):Option kP.Res:=bif cL a0 a1&&(decide (0≤8)&&decide (8≤8)) then oR ((i64.wrap (bK a0 a1 (Int.toNat 8)).1,(bK a0 a1 (Int.toNat 8)).2.2,()),(a0,(bK a0 a1 (Int.toNat 8)).2.1,()),()) else none
theorem Nj (a0:LI)(a1:Int):Io.run tt OX dr HG kP Tryz.f104 (((),()),(a0,a1,()),())=xp a0 a1:=by kernel_rfl
theorem PE:HcOk prog 104 (ai kP zd):=by
 refine bQ (cs:=Gy) (.cons lm .nil) (lp:=HG) (fn:=Tryz.f104) kP (.done (by kernel_rfl)) zd ?_
 rintro ⟨⟨⟨⟩,⟨⟩⟩,⟨⟨(b:LI),(p:Int),⟨⟩⟩,⟨⟩⟩⟩ out hw ho
 obtain ⟨hg,ho⟩:=Tr.guard ho
 have hg:cL b p=true:=hg
 cases ho
 refine (Nj b p).trans ?_
 unfold xp
 rw[aa (by simp[hg])]
 rfl
abbrev iK:Io:=⟨[.ptr 0 0,dI],[QE],[],[dI],none⟩
def sW (d:iK.In):Tr iK.Res:=
 .ite (cL d.2.1.1 d.2.1.2.1) (.ret (.ret (((oY d.2.1.1 d.2.1.2.1 d.1.2.1).2,()),((d.2.1.1,((oY d.2.1.1 d.2.1.2.1 d.1.2.1).1,())),())))) .no
abbrev Ci:List (Nat×Hc):=[(134,ai gx sV)]
def LO:Hd:=bB Ci
def Dd:Lp:=bP []
def uy (a0:Int)(a1:LI)(a2:Int):Option iK.Res:=bif decide (a0<0) then oR ((3,()),(a1,a2,()),()) else bif decide (i64.wrap ((↑a1.length:Int) - a2)<a0) then oR ((1,()),(a1,a2,()),()) else oR ((0,()),(a1,i64.wrap (a2+a0),()),())
theorem JK (a0:Int)(a1:LI)(a2:Int):Io.run tt LO dr Dd iK Tryz.f105 (((),a0,()),(a1,a2,()),())=uy a0 a1 a2:=by kernel_rfl
theorem MG:HcOk prog 105 (ai iK sW):=by
 refine bQ (cs:=Ci) (.cons Dk .nil) (lp:=Dd) (fn:=Tryz.f105) iK (.done (by kernel_rfl)) sW ?_
 rintro ⟨⟨⟨⟩,(n:Int),⟨⟩⟩,⟨⟨(b:LI),(p:Int),⟨⟩⟩,⟨⟩⟩⟩ out hw ho
 obtain ⟨hg,ho⟩:=Tr.guard ho
 simp only[cL,zA,zB] at hg
 obtain ⟨h1,h2,h3⟩:=hg
 have h1:b.length≤4294960000:=h1
 have h2:(0:Int)≤p:=h2
 have h3:p≤(b.length:Int):=h3
 cases ho
 refine (JK n b p).trans ?_
 unfold uy oY
 rw[ae (n:=(b.length:Int) - p) (by omega) (by omega)]
 by_cases h4:n<0
 ·rw[aa (by simpa using h4),if_pos h4]
 ·rw[af (by simpa using h4),if_neg h4]
  by_cases h5:(b.length:Int) - p<n
  ·rw[aa (by simpa using h5),if_pos h5]
  ·rw[af (by simpa using h5),if_neg h5,ae (n:=p+n) (by omega) (by omega)]
abbrev jo:Io:=⟨[dL],[],[QE],[.ptr 0 0],none⟩
def ze (d:jo.In):Tr jo.Res:=.ite (decide (d.1.1.length≤4294967296)) (.ret (.ret (((),()),((d.1.1,(0,())),())))) .no
abbrev Gz:List (Nat×Hc):=[(47,ai eF pb)]
def OY:Hd:=bB Gz
def HH:Lp:=bP []
def IG (a0:LI):Option jo.Res:=bif decide (a0.length≤4294967296) then oR (((),()),(a0,0,()),()) else none
theorem Nk (a0:LI):Io.run tt OY dr HH jo Tryz.f98 ((a0,()),())=IG a0:=by kernel_rfl
theorem H5:HcOk prog 98 (ai jo ze):=by
 refine bQ (cs:=Gz) (.cons vq .nil) (lp:=HH) (fn:=Tryz.f98) jo (.done (by kernel_rfl)) ze ?_
 rintro ⟨⟨(b:LI),⟨⟩⟩,⟨⟩⟩ out hw ho
 obtain ⟨hg,ho⟩:=Tr.guard ho
 cases ho
 exact (Nk b).trans (aa hg _ _)
end
end Go.Proofs.YthpcdhgpplmneaaGreatDoor.Sym
